/- Lemmas, part 34 of 39. No condition. -/
import Derived.Test.YtcondkihpmmnnaaGreatDoorUniqueP30
import Derived.Test.YtcondkihpmmnnaaGreatDoorUniqueP29
import Derived.Test.YtcondkihpmmnnaaGreatDoorUniqueP31
namespace Go.Proofs.YtcondkihpmmnnaaGreatDoor
open Go.RowKit Go.Sort
theorem turned_skip {q:SeqM} {k:Frt} {pl:Nat→Int} {s b:Nat} {fn:Nat→Int} {fo:Nat→ByteArray} (h1:∀ j,j < b→fn j = nextT q pl s j∧fo j = outsT q k pl s j) (h2:∀ j,b≤j→fo j = ByteArray.empty)
    (h3:∀ j,j < b→kept q pl s j→(q.os s j).size + (k.l (q.nx s j).toNat).size≤4096 + (k.l s).size) (hk:¬ kept q pl s b) :
    (∀ j,j < b + 1→(if j = b then -1 else fn j) = nextT q pl s j∧fo j = outsT q k pl s j)∧(∀ j,b + 1≤j→fo j = ByteArray.empty)∧∀ j,j < b + 1→kept q pl s j→(q.os s j).size + (k.l (q.nx s j).toNat).size≤4096 + (k.l s).size:=by
 refine ⟨fun j hj => ?_,fun j hj => h2 j (by omega),fun j hj hkj => ?_⟩
 ·by_cases e:j = b
  ·subst e
   unfold nextT outsT
   rw [if_pos rfl,if_neg hk,if_neg hk]
   exact ⟨rfl,h2 j (Nat.le_refl _)⟩
  ·rw [if_neg e]; exact h1 j (by omega)
 ·by_cases e:j = b
  ·subst e; exact absurd hkj hk
  ·exact h3 j (by omega) hkj
theorem turned_put {q:SeqM} {k:Frt} {pl:Nat→Int} {s b z:Nat} {fn:Nat→Int} {fo:Nat→ByteArray} {x:ByteArray} (h1:∀ j,j < b→fn j = nextT q pl s j∧fo j = outsT q k pl s j) (h2:∀ j,b≤j→fo j = ByteArray.empty)
    (h3:∀ j,j < b→kept q pl s j→(q.os s j).size + (k.l (q.nx s j).toNat).size≤4096 + (k.l s).size) (hk:kept q pl s b) (hz:q.nx s b = (z:Int)) (hx:x = (q.os s b ++ k.l z).extract (k.l s).size (q.os s b ++ k.l z).size) (hsz:(q.os s b).size + (k.l z).size≤4096 + (k.l s).size) :
    (∀ j,j < b + 1→(if j = b then pl z else if j = b then -1 else fn j) = nextT q pl s j∧(if j = b then x else fo j) = outsT q k pl s j)∧(∀ j,b + 1≤j→(if j = b then x else fo j) = ByteArray.empty)∧∀ j,j < b + 1→kept q pl s j→(q.os s j).size + (k.l (q.nx s j).toNat).size≤4096 + (k.l s).size:=by
 refine ⟨fun j hj => ?_,fun j hj => ?_,fun j hj hkj => ?_⟩
 ·by_cases e:j = b
  ·subst e
   unfold nextT outsT
   rw [if_pos rfl,if_pos rfl,if_pos hk,if_pos hk,hz,Int.toNat_natCast]
   exact ⟨rfl,hx⟩
  ·rw [if_neg e,if_neg e,if_neg e]; exact h1 j (by omega)
 ·rw [if_neg (by omega)]; exact h2 j (by omega)
 ·by_cases e:j = b
  ·subst e; rw [hz,Int.toNat_natCast]; exact hsz
  ·exact h3 j (by omega) hkj
set_option maxRecDepth 100000 in
set_option maxHeartbeats 8000000 in
theorem turned_any (q:SeqM) (v:Value) (B s n m:Nat) (k:Frt) (pl:Nat→Int) (Al Ap:Option Addr) (cl cp:Nat) (w:World) (HS:SeqAt w B q v) (hB:B≤w.heap.size) (hck:ckB q = true) (hn:q.next.length = n) (hs:s < n)
    (HL:Reads w B 1 Al n (kL k n)) (HM:Reads w B 1 Ap n (rowV (fun z => .int .i64 (pl z)) n)) (hl:∀ z,(k.l z).size≤m) (hm:m≤100000000) (hpl:∀ z,z < n→-1≤pl z∧pl z≤2000)
    (hpre:∀ b,b < 256→kept q pl s b→(k.l s).size≤(q.os s b).size + (k.l (q.nx s b).toNat).size) :
    Calls Tryz.prog 71 #[v,.int .i64 (s:Int),.slice Al n cl,.slice Ap n cp] w (TurnPost q k pl s w):=by
 obtain ⟨A1,c1,A2,c2,A3,c3,A4,c4,rfl,hf,l1,l2,l3,l4,m1,m2,m3,m4,R1,hz,R2,hsz,R3,R4,htl⟩:=HS
 obtain ⟨p1,p2,p3,p4,p5,p6⟩:=ck_parts hck
 have HP6:=Lib.hid p6
 have HCk:=Lib.hid (fun b (hb:b < 256) => ckB_nx hck (by rw [hn]; exact hs) hb)
 have HPre:=Lib.hid hpre
 have HPl:=Lib.hid hpl
 rw [p2] at l2 R2 ⊢
 rw [p3,p4]
 rw [hn] at p1 l1 l2 R1 R2 ⊢
 have K:=Blk.new w 27 #[.string q.front,.slice A1 n c1,.slice A2 n c2,.slice A3 n c3,.slice A4 n c4]
 have LB:=(Below.refl w.heap.size w).alloc (Nat.le_refl _) (.cells #[.string q.front,.slice A1 n c1,.slice A2 n c2,.slice A3 n c3,.slice A4 n c4] 27)
 have hi1:(0:Int)≤(s:Int):=by omega
 have hi2:(s:Int) < (n:Int):=by omega
 have e1:(q.next.map fun r => r.map (Value.int .i64)).getD s [] = (q.next.getD s []).map (Value.int .i64):=by
  rw [List.getD_eq_getElem?_getD,List.getD_eq_getElem?_getD,List.getElem?_map]
  cases q.next[s]? <;> rfl
 have e2:(q.outs.map fun r => r.map Value.string).getD s [] = (q.outs.getD s []).map Value.string:=by
  rw [List.getD_eq_getElem?_getD,List.getD_eq_getElem?_getD,List.getElem?_map]
  cases q.outs[s]? <;> rfl
 obtain ⟨g1,o1,A1',d1,rfl,hg1,x1,Q1,y1,z1⟩:=R1.at_ s hs
 obtain ⟨g2,o2,A2',d2,rfl,hg2,x2,Q2,y2,z2⟩:=R2.at_ s hs
 rw [e1] at x1 Q1 y1
 rw [e2] at x2 Q2 y2
 simp only [List.length_map] at x1 x2 Q1 Q2 y1 y2
 have hlen:=HP6.out s (by rw [hn]; exact hs)
 have Hn:=Lib.hid hn
 rw [hlen.1] at x1 Q1 y1
 rw [hlen.2] at x2 Q2 y2
 obtain ⟨gl,ol,rfl,hgl,x5⟩:=rowV_cell HL s hs
 generalize q.front = fr at *
 have HX:=Lib.hid (fun (W:World) (hb:Below w.heap.size w W) => And.intro ((hb.cell (p:=⟨g1,o1 + s,none⟩) (by show g1 < _; omega)).trans x1) (And.intro ((hb.cell (p:=⟨g2,o2 + s,none⟩) (by show g2 < _; omega)).trans x2) (And.intro (Q1.below (hb.mono hB)) (And.intro (Q2.below (hb.mono hB)) (And.intro (HL.below (hb.mono hB)) (And.intro (HM.below (hb.mono hB)) ((hb.cell (p:=⟨gl,ol + s,none⟩) (by show gl < _; omega)).trans x5)))))))
 generalize hW0:w.alloc (.cells #[.string fr,.slice (some ⟨g1,o1,none⟩) n c1,.slice (some ⟨g2,o2,none⟩) n c2,.slice A3 n c3,.slice A4 n c4] 27) = W0 at *
 have hz0:W0.heap.size = w.heap.size + 1:=by rw [← hW0]; simp
 have hm0:=Lib.hid hm
 have hls:=hl s
 generalize hlse:k.l s = ls at *
 have HLse:=Lib.hid hlse
 obtain ⟨iN,hiN,hN0,hN1,hN2⟩:=info_parts int_infoS
 obtain ⟨iO,hiO,hO0,hO1,hO2⟩:=info_parts str_infoS
 clear R1 R2 R3 R4 hz hsz htl x1 x2 x5 Q1 Q2 HL HM e1 e2 hlen p6 hck hn p2 p3 p4 hpre hpl hlse
 go_enter Tryz.func71,Tryz.ntmps71
 go_wp2
 refine pair_below (d0:=15) (d1:=16) (e0:=11) (by kernel_rfl) (by kernel_rfl) (by decide) (by decide) (by decide) ⟨by show 15 < 94; decide,by show 16 < 94; decide⟩
  (maker_sliceC rfl rfl 256 55 rfl 3 iN _ 1 Tryz.underlying55 hiN hN0 hN1 (by rw [hN2]; decide) (by unfold maxLen; decide))
  (maker_sliceC rfl rfl 256 25 rfl 9 iO _ 1 Tryz.underlying25 hiO hO0 hO1 (by rw [hO2]; decide) (by unfold maxLen; decide)) rfl rfl rfl ?_
 rintro vi vj w2 hb2' ⟨gN,rfl,gN1,hoN⟩ ⟨gO,rfl,gO1,hoO⟩
 rw [show (Value.int .i64 0).cells = #[Value.int .i64 0] from rfl,Nat.mul_one,toList_madeCells_one,rowV_const] at hoN
 rw [show (Value.string ByteArray.empty).cells = #[Value.string ByteArray.empty] from rfl,Nat.mul_one,toList_madeCells_one,rowV_const] at hoO
 have HT0:TrnW W0 w2 gN gO (fun _ => 0) (fun _ => ByteArray.empty):=⟨blk_of_made hoN,blk_of_made hoO,gN1,gO1,hb2'⟩
 have HT:=Lib.hid HT0
 have k1:=(K.below hb2' (by omega)).cell 1
 obtain ⟨j1,_⟩:=HX.out _ (LB.trans (hb2'.mono (by omega)))
 clear hoN hoO gN1 gO1 hb2' HT0 hiN hN0 hN1 hN2 hiO hO0 hO1 hO2
 simp only [Act.put]
 go_wp2
 refine NoPanic.normal ?_
 go_wp2
 clear k1 j1
 go_loopw [23] (fun i wr => ∃ (b:Nat) (fn:Nat→Int) (fo:Nat→ByteArray),b≤256∧i = .int .i64 (b:Int)∧TrnW W0 wr gN gO fn fo∧(∀ j,j < b→fn j = nextT q pl s j∧fo j = outsT q k pl s j)∧(∀ j,b≤j→fo j = ByteArray.empty)∧∀ j,j < b→kept q pl s j→(q.os s j).size + (k.l (q.nx s j).toNat).size≤4096 + (k.l s).size) (fun i _ => 256 - (intOf i).toNat)
 case atStart => exact ⟨0,_,_,Nat.zero_le _,rfl,HT.out,fun j h => absurd h (Nat.not_lt_zero _),fun _ _ => rfl,fun j h => absurd h (Nat.not_lt_zero _)⟩
 case round =>
  clear HT
  obtain ⟨b,fn,fo,hb,rfl,HW,h1,h2,h3⟩:=hrel
  have H1:=Lib.hid h1
  have H2:=Lib.hid h2
  have H3:=Lib.hid h3
  clear h1 h2 h3
  have hwr:Below w.heap.size w wr:=LB.trans (HW.bel.mono (by omega))
  have hbz:=HW.bel.size
  have HWh:=Lib.hid HW
  by_cases hlt:b < 256
  ·have hb1:(0:Int)≤(b:Int):=by omega
   have hb2:(b:Int) < 256:=by omega
   obtain ⟨z0,z1',z2',_⟩:=HCk.out b hlt
   rw [Hn.out] at z1'
   obtain ⟨_,_,Q1',_⟩:=HX.out wr hwr
   obtain ⟨h1,q1,rfl,hh1,r1⟩:=cell_at (d:=0) Q1' b hlt
   have hnx:(q.next.getD s []).getD b 0 = q.nx s b:=rfl
   rw [hnx] at r1
   have u1:=(HW.n.cell b).trans (intsV_at _ hlt)
   have u2:=HW.n.frozen b
   have HWn:=HW.setN b hlt (-1)
   by_cases hneg:q.nx s b < 0
   ·have hnk:¬ kept q pl s b:=fun e => by have:=e.1; omega
    have HR:=Lib.hid (show (∀ j,j < b + 1→(if j = b then -1 else fn j) = nextT q pl s j∧fo j = outsT q k pl s j)∧(∀ j,b + 1≤j→fo j = ByteArray.empty)∧∀ j,j < b + 1→kept q pl s j→(q.os s j).size + (k.l (q.nx s j).toNat).size≤4096 + (k.l s).size from
     turned_skip H1.out H2.out H3.out hnk)
    have HWn':=Lib.hid HWn
    generalize q.nx s b = z at *
    clear HW HWn Q1'
    go_wp2
    go_roundw
    case rel => exact ⟨b + 1,_,_,by omega,by go_num,HWn'.out,HR.out.1,HR.out.2.1,HR.out.2.2⟩
    case measure => simp [intOf]; omega
   ·obtain ⟨z,hz⟩:∃ z:Nat,q.nx s b = (z:Int):=⟨_,(Int.toNat_of_nonneg (by omega)).symm⟩
    have hzn:z < n:=by omega
    have HZ:=Lib.hid hz
    rw [hz] at r1 hneg
    have hzi1:(0:Int)≤(z:Int):=by omega
    have hzi2:(z:Int) < (n:Int):=by omega
    have hbn:Below w.heap.size w (wr.setCell ⟨gN,b,none⟩ (.int .i64 (-1))):=LB.trans (HWn.bel.mono (by omega))
    obtain ⟨_,j2,_,Q2',HL',HM',j5⟩:=HX.out _ hbn
    obtain ⟨gp,op,rfl,hgp,v1⟩:=rowV_cell HM' z hzn
    obtain ⟨pz1,pz2⟩:=HPl.out z hzn
    by_cases hpz:pl z < 0
    ·have hnk:¬ kept q pl s b:=fun e => by have:=e.2; rw [HZ.out,Int.toNat_natCast] at this; omega
     have HR:=Lib.hid (show (∀ j,j < b + 1→(if j = b then -1 else fn j) = nextT q pl s j∧fo j = outsT q k pl s j)∧(∀ j,b + 1≤j→fo j = ByteArray.empty)∧∀ j,j < b + 1→kept q pl s j→(q.os s j).size + (k.l (q.nx s j).toNat).size≤4096 + (k.l s).size from
      turned_skip H1.out H2.out H3.out hnk)
     have HWn':=Lib.hid HWn
     generalize pl z = pz at *
     clear HW HWn Q1' hz Q2' HL' HM' j2 j5
     go_wp2
     go_roundw
     case rel => exact ⟨b + 1,_,_,by omega,by go_num,HWn'.out,HR.out.1,HR.out.2.1,HR.out.2.2⟩
     case measure => simp [intOf]; omega
    ·have hk:kept q pl s b:=⟨by omega,by rw [HZ.out,Int.toNat_natCast]; omega⟩
     have HKp:=Lib.hid hk
     have hpr:=HPre.out b hlt hk
     rw [HZ.out,Int.toNat_natCast] at hpr
     have u3:=(HWn.n.cell b).trans (intsV_at _ hlt)
     have u4:=HWn.n.frozen b
     have HW5:=Lib.hid (HWn.setN b hlt (pl z))
     have hlz:=hl z
     clear HW HWn Q1' hz hk j2 Q2' j5 HL'
     generalize hplz:pl z = pz at *
     have HPz:=Lib.hid hplz
     clear hplz
     go_upto_region 8 with (fail)
     clear u1 u2 u3 u4 v1 r1 HM' hbn
     generalize ((wr.setCell ⟨gN,b,none⟩ (.int .i64 (-1))).setCell ⟨gN,b,none⟩ (.int .i64 pz)) = W5 at *
     have hb5:Below w.heap.size w W5:=LB.trans (HW5.out.bel.mono (by omega))
     obtain ⟨_,j2,_,Q2',HL',_,j5⟩:=HX.out _ hb5
     obtain ⟨h2,q2,rfl,hh2,r2⟩:=cell_at (d:=ByteArray.empty) Q2' b hlt
     have hos:(q.outs.getD s []).getD b ByteArray.empty = q.os s b:=rfl
     rw [hos] at r2
     obtain ⟨gl',ol',e5,hgl',v2⟩:=rowV_cell HL' z hzn
     injection e5 with e5
     injection e5 with e5 e6
     subst e5 e6
     have k2:=(K.below HW5.out.bel (by omega)).cell 2
     have hgx:=Lib.hid (fun (x:ByteArray) hx hsz => turned_put (x:=x) H1.out H2.out H3.out HKp.out HZ.out hx hsz)
     have hlx:LongAt q k pl s∨(q.os s b).size + (k.l z).size≤4096:=by
      by_cases e:(q.os s b).size + (k.l z).size≤4096
      ·exact .inr e
      ·exact .inl ⟨b,hlt,HKp.out,by rw [HZ.out,Int.toNat_natCast]; omega⟩
     have HLx:=Lib.hid hlx
     clear hlx
     have HD:=Lib.hid (fun (W:World) (hb:Below w.heap.size w W) => And.intro ((hb.cell (p:=⟨g2,o2 + s,none⟩) (by show g2 < _; omega)).trans ((hb5.cell (p:=⟨g2,o2 + s,none⟩) (by show g2 < _; omega)).symm.trans j2)) (And.intro ((hb.cell (p:=⟨h2,q2 + b,none⟩) (by show h2 < _; omega)).trans ((hb5.cell (p:=⟨h2,q2 + b,none⟩) (by show h2 < _; omega)).symm.trans r2)) (And.intro ((hb.cell (p:=⟨gl,ol + z,none⟩) (by show gl < _; omega)).trans ((hb5.cell (p:=⟨gl,ol + z,none⟩) (by show gl < _; omega)).symm.trans v2)) ((hb.cell (p:=⟨gl,ol + s,none⟩) (by show gl < _; omega)).trans ((hb5.cell (p:=⟨gl,ol + s,none⟩) (by show gl < _; omega)).symm.trans j5)))))
     generalize k.l z = lz at *
     generalize q.os s b = ot at *
     have y2:=cell_regrown k2
     have y3:=cell_regrown j2
     have y4:=cell_regrown r2
     have y5:=cell_regrown v2
     have y6:=cell_regrown j5
     by_cases hlong:(ot.size:Int) + lz.size - ls.size > 4096
     ·go_wp2
      refine wp_region_quiet_below (by kernel_rfl) (by kernel_rfl) ?_
      repeat (go_big_quiet_step (fail))
      refine wpQuiet_nil ?_
      intro w6 hw6
      have HP:=Lib.hid (show TurnPost q k pl s w (.returned (.tuple #[.slice none 0 0,.slice none 0 0,.bool false])) w6 from ⟨hb5.trans ((below_of hw6).mono hb5.size),.inl ⟨HLx.out.resolve_right (fun e => by omega),rfl⟩⟩)
      clear hw6 k2 j2 r2 v2 j5 y2 y3 y4 y5 y6
      go_wp2
      exact bodyPost_ret (v:=.tuple #[.slice none 0 0,.slice none 0 0,.bool false]) (by simp [results,Tryz.results71,go_sem]) rfl HP.out
     ·go_wp2
      refine wp_region_quiet_below (by kernel_rfl) (by kernel_rfl) ?_
      repeat (go_big_quiet_step (fail))
      refine wpQuiet_nil ?_
      intro w6 hw6
      have HW6:=HW5.out.call (below_of hw6)
      have hb6:Below w.heap.size w w6:=hb5.trans ((below_of hw6).mono hb5.size)
      clear hw6 k2 j2 r2 v2 j5 y2 y3 y4 y5 y6
      obtain ⟨j2,r2,v2,j5⟩:=HD.out w6 hb6
      have k2:=(K.below HW6.bel (by omega)).cell 2
      have y2:=cell_regrown k2
      have y3:=cell_regrown j2
      have y4:=cell_regrown r2
      have y5:=cell_regrown v2
      have y6:=cell_regrown j5
      have hsz:=ByteArray.size_append (a:=ot) (b:=lz)
      have HS9:=Lib.hid hsz
      have hcut:(ls.size:Int)≤(ot.size:Int) + (lz.size:Int):=by omega
      clear hsz
      go_wp2
      refine wp_region_hold_below 21 [0,1,2,3,4,5,6,7,8,9,10,11,12,13,14,15,16,17,18] [19,20] (by kernel_rfl) (by kernel_rfl) rfl (by kernel_rfl) ?_
      simp only [pickOps,List.getElem?_cons_zero,List.getElem?_cons_succ,List.drop_succ_cons,List.drop_zero]
      repeat (go_big_quiet_step (fail))
      refine wpQuiet_nil ?_
      refine wpForce_step rfl (fun KK hKK => ?_)
      go_simp
      refine hKK _ _ (regrown_of_below (Below.refl _ _).drew) ?_
      clear hKK KK
      refine wpForce_step rfl (fun KK hKK => ?_)
      go_simp
      refine hKK _ _ (regrown_of_below (Below.refl _ _).drew) ?_
      clear hKK KK
      refine wpForce_nil ?_
      clear k2 j2 r2 v2 j5 y2 y3 y4 y5 y6
      have HWd:=HW6.call (Below.refl _ _).drew
      have u1:=(HWd.o.cell b).trans (strsV_at _ hlt)
      have u2:=HWd.o.frozen b
      generalize hxx:(ot ++ lz).extract ls.size (ot.size + lz.size) = xx at *
      have HXx:=Lib.hid (hgx.out xx (by rw [← hxx,HS9.out,HLse.out]) (by rw [HLse.out]; omega))
      rw [HPz.out] at HXx
      have HW9:=Lib.hid (HWd.setO b hlt xx)
      generalize hwd:w6.drew = w7 at *
      clear hxx HWd HW6 hwd
      go_wp2
      refine NoPanic.normal ?_
      go_wp2
      go_roundw
      case rel => exact ⟨b + 1,_,_,by omega,by go_num,HW9.out,HXx.out.1,HXx.out.2.1,HXx.out.2.2⟩
      case measure => simp [intOf]; omega
  ·obtain rfl:b = 256:=by omega
   have HP:=Lib.hid (show TurnPost q k pl s w (.returned (.tuple #[.slice (some ⟨gN,0,none⟩) 256 256,.slice (some ⟨gO,0,none⟩) 256 256,.bool true])) wr from ⟨hwr,.inr ⟨gN,gO,rfl,by
    have e:intsV fn 256 = intsV (nextT q pl s) 256:=by
     unfold intsV; exact congrArg _ (rowV_congr fun j hj => by rw [(H1.out j hj).1])
    rw [← e]; exact HW.n,by
    have e:strsV fo 256 = strsV (outsT q k pl s) 256:=by
     unfold strsV; exact congrArg _ (rowV_congr fun j hj => by rw [(H1.out j hj).2])
    rw [← e]; exact HW.o,by have:=HW.bn; omega,by have:=HW.bo; omega,H3.out⟩⟩)
   clear HW
   go_wp2
   exact bodyPost_ret (v:=.tuple #[.slice (some ⟨gN,0,none⟩) 256 256,.slice (some ⟨gO,0,none⟩) 256 256,.bool true]) (by simp [results,Tryz.results71,go_sem]) rfl HP.out
end Go.Proofs.YtcondkihpmmnnaaGreatDoor
namespace Go.Proofs.YtcondkihpmmnnaaGreatDoor
open Go.RowKit Go.Sort
def RowB (P0:Nat) (w:World) (T:TypeId) (v:Value) (xs:List Value):Prop:=∃ g,v = .slice (some ⟨g,0,none⟩) 256 256∧P0≤g∧Blk w g T xs.toArray∧xs.length = 256
structure SqB (W0 wr:World) (gr:Nat) (fr:ByteArray) (vN vO vE vT:Value) (nv ov:List Value) (N:List (List Int)) (O:List (List ByteArray)) (E:List Bool) (T:List ByteArray):Prop where
 box:Blk wr gr 27 #[.string fr,vN,vO,vE,vT]
 oN:wr.ownsRow W0.heap.size 55 1 vN N.length nv
 oO:wr.ownsRow W0.heap.size 25 1 vO O.length ov
 oE:wr.ownsRow W0.heap.size 4 1 vE E.length (E.map Value.bool)
 oT:wr.ownsRow W0.heap.size 9 1 vT T.length (T.map Value.string)
 rN:∀ i,i < N.length→RowB W0.heap.size wr 3 (nv.getD i nilV) ((N.getD i []).map (Value.int .i64))
 rO:∀ i,i < O.length→RowB W0.heap.size wr 9 (ov.getD i nilV) ((O.getD i []).map Value.string)
 ap:∀ i,i < O.length→∀ g,vT.ownBlock = some g→(ov.getD i nilV).ownBlock≠some g
 lo:W0.heap.size≤gr
 bel:Below W0.heap.size W0 wr
theorem RowB.kept {P0:Nat} {w w':World} {T:TypeId} {v:Value} {xs:List Value} {row:Option Nat} (h:RowB P0 w T v xs) (hg:w.grownBy w' row) (hn:∀ g,v.ownBlock = some g→row≠some g):RowB P0 w' T v xs:=by
 obtain ⟨g,rfl,h1,h2,h3⟩:=h
 exact ⟨g,rfl,h1,blk_keep h2 hg (hn g rfl),h3⟩
theorem RowB.ne_own {P0 base n size:Nat} {w:World} {T e:TypeId} {v u:Value} {xs ys:List Value} (h:RowB P0 w T v xs) (ho:w.ownsRow base e size u n ys) (hne:e≠T):∀ g,v.ownBlock = some g→u.ownBlock≠some g:=by
 obtain ⟨g',rfl,_,h2,_⟩:=h
 intro g hg
 obtain rfl:g' = g:=Option.some.inj hg
 exact own_blk ho h2 hne
theorem RowB.ne_box {P0 gr:Nat} {w:World} {T T':TypeId} {v:Value} {xs:List Value} {cs:Array Value} (h:RowB P0 w T v xs) (hb:Blk w gr T' cs) (hne:T≠T'):∀ g,v.ownBlock = some g→some gr≠some g:=by
 obtain ⟨g',rfl,_,h2,_⟩:=h
 intro g hg e
 obtain rfl:g' = g:=Option.some.inj hg
 exact Blk.ne_ h2 hb hne (Option.some.inj e).symm
theorem RowB.set {P0 gr:Nat} {w:World} {T T':TypeId} {v:Value} {xs:List Value} {cs:Array Value} (h:RowB P0 w T v xs) (hb:Blk w gr T' cs) (hne:T≠T') (i:Nat) (u:Value):RowB P0 (w.setCell ⟨gr,i,none⟩ u) T v xs :=
 h.kept (Lib.grownBy_setCell w gr i u) (h.ne_box hb hne)
section
variable {W0 wr w':World} {gr:Nat} {fr:ByteArray} {vN vO vE vT:Value} {nv ov:List Value} {N:List (List Int)} {O:List (List ByteArray)} {E:List Bool} {T:List ByteArray}
theorem SqB.call (h:SqB W0 wr gr fr vN vO vE vT nv ov N O E T) (hb:Below wr.heap.size wr w'):SqB W0 w' gr fr vN vO vE vT nv ov N O E T:=by
 have hg:∀ g,g < wr.heap.size→w'.heap[g]? = wr.heap[g]?:=fun g hg => hb.block g hg
 refine ⟨h.box.below hb h.box.lt,own_below h.oN hb,own_below h.oO hb,own_below h.oE hb,own_below h.oT hb,fun i hi => ?_,fun i hi => ?_,h.ap,h.lo,h.bel.trans (hb.mono h.bel.size)⟩
 ·obtain ⟨g,e,h1,h2,h3⟩:=h.rN i hi
  exact ⟨g,e,h1,h2.below hb h2.lt,h3⟩
 ·obtain ⟨g,e,h1,h2,h3⟩:=h.rO i hi
  exact ⟨g,e,h1,h2.below hb h2.lt,h3⟩
theorem getD_snoc {α:Type} {l:List α} {x d:α} {i:Nat} (h:i < l.length):(l ++ [x]).getD i d = l.getD i d:=by
 rw [List.getD_eq_getElem?_getD,List.getD_eq_getElem?_getD,List.getElem?_append_left h]
theorem getD_last {α:Type} {l:List α} {x d:α} {i:Nat} (h:i = l.length):(l ++ [x]).getD i d = x:=by
 subst h
 rw [List.getD_eq_getElem?_getD,List.getElem?_append_right (Nat.le_refl _)]; simp
theorem own_len {w:World} {base n:Nat} {e:TypeId} {v:Value} {xs:List Value} (h:w.ownsRow base e 1 v n xs):xs.length = n:=by have:=h.1; omega
theorem SqB.putN (h:SqB W0 wr gr fr vN vO vE vT nv ov N O E T) {v' u:Value} {r:List Int} (hg:wr.grownBy w' vN.ownBlock) (ho:w'.ownsRow W0.heap.size 55 1 v' (N.length + 1) (nv ++ [u])) (hr:RowB W0.heap.size wr 3 u (r.map (Value.int .i64))) :
    SqB W0 (w'.setCell ⟨gr,1,none⟩ v') gr fr v' vO vE vT (nv ++ [u]) ov (N ++ [r]) O E T:=by
 have kb:=blk_keep h.box hg (own_blk h.oN h.box (by decide))
 have kO:=h.oO.kept hg (apart_types h.oO h.oN (by decide)).or_none
 have kE:=h.oE.kept hg (apart_types h.oE h.oN (by decide)).or_none
 have kT:=h.oT.kept hg (apart_types h.oT h.oN (by decide)).or_none
 have hl:=own_len h.oN
 refine ⟨kb.set_ 1 v',?_,own_setCell kO (own_blk kO kb (by decide)) _,own_setCell kE (own_blk kE kb (by decide)) _,own_setCell kT (own_blk kT kb (by decide)) _,fun i hi => ?_,fun i hi => ?_,h.ap,h.lo,(h.bel.grown hg h.bel.size (fun k hk => (own_lt h.oN k hk).1)).setCell (p:=⟨gr,1,none⟩) h.lo _⟩
 ·rw [List.length_append,List.length_singleton]
  exact own_setCell ho (own_blk ho kb (by decide)) _
 ·rw [List.length_append,List.length_singleton] at hi
  by_cases e:i < N.length
  ·rw [getD_snoc e,getD_snoc (by omega)]
   exact ((h.rN i e).kept hg ((h.rN i e).ne_own h.oN (by decide))).set kb (by decide) 1 v'
  ·rw [getD_last (show i = N.length by omega),getD_last (show i = nv.length by omega)]
   exact (hr.kept hg (hr.ne_own h.oN (by decide))).set kb (by decide) 1 v'
 ·exact ((h.rO i hi).kept hg ((h.rO i hi).ne_own h.oN (by decide))).set kb (by decide) 1 v'
theorem SqB.putO (h:SqB W0 wr gr fr vN vO vE vT nv ov N O E T) {v' u:Value} {r:List ByteArray} (hg:wr.grownBy w' vO.ownBlock) (ho:w'.ownsRow W0.heap.size 25 1 v' (O.length + 1) (ov ++ [u])) (hr:RowB W0.heap.size wr 9 u (r.map Value.string)) (hap:∀ g,vT.ownBlock = some g→u.ownBlock≠some g) :
    SqB W0 (w'.setCell ⟨gr,2,none⟩ v') gr fr vN v' vE vT nv (ov ++ [u]) N (O ++ [r]) E T:=by
 have kb:=blk_keep h.box hg (own_blk h.oO h.box (by decide))
 have kN:=h.oN.kept hg (apart_types h.oN h.oO (by decide)).or_none
 have kE:=h.oE.kept hg (apart_types h.oE h.oO (by decide)).or_none
 have kT:=h.oT.kept hg (apart_types h.oT h.oO (by decide)).or_none
 have hl:=own_len h.oO
 refine ⟨kb.set_ 2 v',own_setCell kN (own_blk kN kb (by decide)) _,?_,own_setCell kE (own_blk kE kb (by decide)) _,own_setCell kT (own_blk kT kb (by decide)) _,fun i hi => ?_,fun i hi => ?_,fun i hi => ?_,h.lo,(h.bel.grown hg h.bel.size (fun k hk => (own_lt h.oO k hk).1)).setCell (p:=⟨gr,2,none⟩) h.lo _⟩
 ·rw [List.length_append,List.length_singleton]
  exact own_setCell ho (own_blk ho kb (by decide)) _
 ·exact ((h.rN i hi).kept hg ((h.rN i hi).ne_own h.oO (by decide))).set kb (by decide) 2 v'
 ·rw [List.length_append,List.length_singleton] at hi
  by_cases e:i < O.length
  ·rw [getD_snoc e,getD_snoc (by omega)]
   exact ((h.rO i e).kept hg ((h.rO i e).ne_own h.oO (by decide))).set kb (by decide) 2 v'
  ·rw [getD_last (show i = O.length by omega),getD_last (show i = ov.length by omega)]
   exact (hr.kept hg (hr.ne_own h.oO (by decide))).set kb (by decide) 2 v'
 ·rw [List.length_append,List.length_singleton] at hi
  by_cases e:i < O.length
  ·rw [getD_snoc (by omega)]; exact h.ap i e
  ·rw [getD_last (show i = ov.length by omega)]; exact hap
theorem SqB.putE (h:SqB W0 wr gr fr vN vO vE vT nv ov N O E T) {v':Value} {x:Bool} (hg:wr.grownBy w' vE.ownBlock) (ho:w'.ownsRow W0.heap.size 4 1 v' (E.length + 1) (E.map Value.bool ++ [.bool x])) :
    SqB W0 (w'.setCell ⟨gr,3,none⟩ v') gr fr vN vO v' vT nv ov N O (E ++ [x]) T:=by
 have kb:=blk_keep h.box hg (own_blk h.oE h.box (by decide))
 have kN:=h.oN.kept hg (apart_types h.oN h.oE (by decide)).or_none
 have kO:=h.oO.kept hg (apart_types h.oO h.oE (by decide)).or_none
 have kT:=h.oT.kept hg (apart_types h.oT h.oE (by decide)).or_none
 refine ⟨kb.set_ 3 v',own_setCell kN (own_blk kN kb (by decide)) _,own_setCell kO (own_blk kO kb (by decide)) _,?_,own_setCell kT (own_blk kT kb (by decide)) _,fun i hi => ?_,fun i hi => ?_,h.ap,h.lo,(h.bel.grown hg h.bel.size (fun k hk => (own_lt h.oE k hk).1)).setCell (p:=⟨gr,3,none⟩) h.lo _⟩
 ·rw [List.length_append,List.length_singleton,List.map_append]
  exact own_setCell ho (own_blk ho kb (by decide)) _
 ·exact ((h.rN i hi).kept hg ((h.rN i hi).ne_own h.oE (by decide))).set kb (by decide) 3 v'
 ·exact ((h.rO i hi).kept hg ((h.rO i hi).ne_own h.oE (by decide))).set kb (by decide) 3 v'
theorem SqB.putT (h:SqB W0 wr gr fr vN vO vE vT nv ov N O E T) {v':Value} {x:ByteArray} (hg:wr.grownBy w' vT.ownBlock) (ho:w'.ownsRow W0.heap.size 9 1 v' (T.length + 1) (T.map Value.string ++ [.string x])) (hl:v'.ownBlock = vT.ownBlock∨v'.ownBlock = some wr.heap.size) :
    SqB W0 (w'.setCell ⟨gr,4,none⟩ v') gr fr vN vO vE v' nv ov N O E (T ++ [x]):=by
 have kb:=blk_keep h.box hg (own_blk h.oT h.box (by decide))
 have kN:=h.oN.kept hg (apart_types h.oN h.oT (by decide)).or_none
 have kO:=h.oO.kept hg (apart_types h.oO h.oT (by decide)).or_none
 have kE:=h.oE.kept hg (apart_types h.oE h.oT (by decide)).or_none
 refine ⟨kb.set_ 4 v',own_setCell kN (own_blk kN kb (by decide)) _,own_setCell kO (own_blk kO kb (by decide)) _,own_setCell kE (own_blk kE kb (by decide)) _,?_,fun i hi => ?_,fun i hi => ?_,fun i hi g e => ?_,h.lo,(h.bel.grown hg h.bel.size (fun k hk => (own_lt h.oT k hk).1)).setCell (p:=⟨gr,4,none⟩) h.lo _⟩
 ·rw [List.length_append,List.length_singleton,List.map_append]
  exact own_setCell ho (own_blk ho kb (by decide)) _
 ·exact ((h.rN i hi).kept hg ((h.rN i hi).ne_own h.oT (by decide))).set kb (by decide) 4 v'
 ·exact ((h.rO i hi).kept hg (fun g e e2 => h.ap i hi g e2 e)).set kb (by decide) 4 v'
 ·rcases hl with e2 | e2
  ·exact h.ap i hi g (e2 ▸ e)
  ·obtain ⟨g',e3,_,h4,_⟩:=h.rO i hi
   rw [e2] at e
   rw [e3]
   intro e5
   have h6:=h4.lt
   have e7:g' = g:=Option.some.inj e5
   have e8:wr.heap.size = g:=Option.some.inj e
   omega
theorem SqB.seqNew (h:SqB W0 wr gr fr vN vO vE vT nv ov N O E T) {m:Nat} (hm:m≤1024) (hq:N.length≤m∧O.length = N.length∧E.length = N.length∧T.length = N.length∧fr.size≤100000000 ∧
      ∀ s,s < N.length→(T.getD s ByteArray.empty).size≤4096∧(N.getD s []).length = 256∧(O.getD s []).length = 256 ∧
      ∀ b,b < 256→-1≤(N.getD s []).getD b 0∧(N.getD s []).getD b 0 < N.length∧((O.getD s []).getD b ByteArray.empty).size≤4096) :
    SeqNew W0.heap.size wr ⟨fr,N,O,E,T⟩ (.agg #[.string fr,vN,vO,vE,vT]):=fun W hz hk => by
 have hsl:∀ {T:TypeId} {v:Value} {xs:List Value},RowB W0.heap.size wr T v xs→SlR (fun g => g < W0.heap.size) wr 1 v xs.length xs:=fun ⟨g,e,h1,h2,h3⟩ =>
  ⟨g,256,by rw [h3]; exact e,by omega,by unfold maxLen; decide,h2.lt,by omega,reads_blk h2 rfl⟩
 have hQ:MkQ wr W0.heap.size vN vO vE vT nv ov ⟨[],N,O,E,T⟩ (fun g => g < W0.heap.size) :=
  ⟨h.oN,h.oO,h.oE,h.oT,fun i hi => by
   have:=hsl (h.rN i hi)
   rwa [List.length_map] at this,fun i hi => by
   have:=hsl (h.rO i hi)
   rwa [List.length_map] at this⟩
 exact ((hQ.stays (fun g hg => hg) hz hk).seq hm hq)
end
end Go.Proofs.YtcondkihpmmnnaaGreatDoor
namespace Go.Proofs.YtcondkihpmmnnaaGreatDoor
def usN (f:Nat→Bool) (n:Nat):List Nat:=(List.range n).filter f
def plP (f:Nat→Bool) (n s:Nat):Int:=if s < n∧f s = true then ((usN f s).length:Int) else -1
theorem usN_next (f:Nat→Bool) (n:Nat):usN f (n + 1) = usN f n ++ if f n = true then [n] else []:=by
 unfold usN
 rw [List.range_succ,List.filter_append]
 congr 1
 split
 ·rename_i h; rw [List.filter_cons_of_pos h]; rfl
 ·rename_i h; rw [List.filter_cons_of_neg h]; rfl
theorem usN_le (f:Nat→Bool) (n:Nat):(usN f n).length≤n:=by
 unfold usN; exact Nat.le_trans (List.length_filter_le _ _) (by simp)
theorem usN_at {f:Nat→Bool}:∀ {n s:Nat},s < n→f s = true→(usN f n)[(usN f s).length]? = some s
 | 0,_,h,_ => absurd h (Nat.not_lt_zero _)
 | n + 1,s,h,hf => by
  rw [usN_next]
  by_cases e:s = n
  ·subst e
   rw [if_pos hf,List.getElem?_append_right (Nat.le_refl _)]; simp
  ·have:=usN_at (n:=n) (s:=s) (by omega) hf
   rw [List.getElem?_append_left]
   ·exact this
   ·rcases Nat.lt_or_ge (usN f s).length (usN f n).length with h | h
    ·exact h
    ·rw [List.getElem?_eq_none h] at this; cases this
theorem usN_inv {f:Nat→Bool} {n i s:Nat} (h:(usN f n)[i]? = some s):s < n∧f s = true∧i = (usN f s).length:=by
 have hm:=List.mem_of_getElem? h
 unfold usN at hm
 rw [List.mem_filter,List.mem_range] at hm
 refine ⟨hm.1,hm.2,?_⟩
 have h2:=usN_at hm.1 hm.2
 have hd:(usN f n).Nodup:=List.Nodup.sublist List.filter_sublist List.nodup_range
 have hi:i < (usN f n).length:=by
  rcases Nat.lt_or_ge i (usN f n).length with e | e
  ·exact e
  ·rw [List.getElem?_eq_none e] at h; cases h
 have hj:(usN f s).length < (usN f n).length:=by
  rcases Nat.lt_or_ge (usN f s).length (usN f n).length with e | e
  ·exact e
  ·rw [List.getElem?_eq_none e] at h2; cases h2
 rw [List.getElem?_eq_getElem hi] at h
 rw [List.getElem?_eq_getElem hj] at h2
 exact (List.getElem_inj hd).1 ((Option.some.inj h).trans (Option.some.inj h2).symm)
def tailT (q:SeqM) (k:Frt) (s:Nat):ByteArray:=if q.en s = true then (q.tl s).extract (k.l s).size (q.tl s).size else ByteArray.empty
def rowN (q:SeqM) (pl:Nat→Int) (s:Nat):List Int:=(List.range 256).map (nextT q pl s)
def rowO (q:SeqM) (k:Frt) (pl:Nat→Int) (s:Nat):List ByteArray:=(List.range 256).map (outsT q k pl s)
def pushM (q:SeqM) (k:Frt) (pl:Nat→Int) (us:List Nat):SeqM :=
 ⟨q.front ++ k.l 0,us.map (rowN q pl),us.map (rowO q k pl),us.map q.en,us.map (tailT q k)⟩
theorem getD_mapRange {α:Type} (g:Nat→α) (d:α) {n b:Nat} (hb:b < n):((List.range n).map g).getD b d = g b:=by
 rw [List.getD_eq_getElem?_getD,List.getElem?_map,List.getElem?_range hb]; rfl
theorem getD_mapAt {α:Type} (g:Nat→α) (d:α) {us:List Nat} {i s:Nat} (h:us[i]? = some s):(us.map g).getD i d = g s:=by
 rw [List.getD_eq_getElem?_getD,List.getElem?_map,h]; rfl
section
variable {q:SeqM} {k:Frt} {pl:Nat→Int} {us:List Nat} {i s b:Nat}
theorem pushM_nx (h:us[i]? = some s) (hb:b < 256):(pushM q k pl us).nx i b = nextT q pl s b:=by
 unfold SeqM.nx pushM
 simp only
 rw [getD_mapAt (rowN q pl) [] h]
 exact getD_mapRange _ _ hb
theorem pushM_os (h:us[i]? = some s) (hb:b < 256):(pushM q k pl us).os i b = outsT q k pl s b:=by
 unfold SeqM.os pushM
 simp only
 rw [getD_mapAt (rowO q k pl) [] h]
 exact getD_mapRange _ _ hb
theorem pushM_en (h:us[i]? = some s):(pushM q k pl us).en i = q.en s:=by
 unfold SeqM.en pushM
 simp only
 exact getD_mapAt q.en false h
theorem pushM_tl (h:us[i]? = some s):(pushM q k pl us).tl i = tailT q k s:=by
 unfold SeqM.tl pushM
 simp only
 exact getD_mapAt (tailT q k) _ h
end
theorem front_pre {q:SeqM} {k:Frt} (hf:Fronts q k) {s b:Nat} (hs:s < q.next.length) (hk:k.some s = true) (hb:b < 256) (h0:0≤q.nx s b) (hz:(q.nx s b).toNat < q.next.length) (hkz:k.some (q.nx s b).toNat = true) :
    bl (k.l s) <+: bl (q.os s b) ++ bl (k.l (q.nx s b).toNat):=by
 have hbeg:=hf.beg s hs hk
 obtain ⟨o,ho⟩:=(hf.live _ hz).1 hkz
 rcases Nat.le_total (bl (k.l s)).length (bl (q.os s b)).length with hl | hl
 ·exact (List.prefix_of_prefix_length_le (hbeg _ (outs_step hb h0 ho)) (List.prefix_append _ _) hl).trans (List.prefix_append _ _)
 ·have hp:bl (q.os s b) <+: bl (k.l s):=List.prefix_of_prefix_length_le (List.prefix_append _ o) (hbeg _ (outs_step hb h0 ho)) hl
  obtain ⟨m',hm⟩:=hp
  rw [← hm,List.prefix_append_right_inj]
  refine hf.most _ hz hkz m' fun o' ho' => ?_
  have:=hbeg _ (outs_step hb h0 ho')
  rw [← hm] at this
  exact (List.prefix_append_right_inj _).1 this
theorem front_tail {q:SeqM} {k:Frt} (hf:Fronts q k) {s:Nat} (hs:s < q.next.length) (hk:k.some s = true) (he:q.en s = true):bl (k.l s) <+: bl (q.tl s):=hf.beg s hs hk _ (outs_end he)
theorem prefix_drop {a x:List UInt8} (h:a <+: x):x = a ++ x.drop a.length:=by
 obtain ⟨y,rfl⟩:=h
 simp
structure Kept (q:SeqM) (k:Frt) (n:Nat) (seen:Nat→Bool):Prop where
 first:seen 0 = true
 some0:k.some 0 = true
 pos:0 < n
 closed:∀ s,s < n→seen s = true→∀ b,b < 256→0≤q.nx s b→seen (q.nx s b).toNat = true
def keepF (k:Frt) (seen:Nat→Bool) (s:Nat):Bool:=seen s && k.some s
section
variable {q:SeqM} {k:Frt} {n:Nat} {seen:Nat→Bool}
theorem kept_iff (hck:ckB q = true) (hn:q.next.length = n) (hK:Kept q k n seen) {s b:Nat} (hs:s < n) (hks:seen s = true) (hb:b < 256) :
    kept q (plP (keepF k seen) n) s b↔0≤q.nx s b∧k.some (q.nx s b).toNat = true:=by
 have hz:=(ckB_nx hck (by rw [hn]; exact hs) hb).2.1
 unfold kept plP
 constructor
 ·rintro ⟨h1,h2⟩
  refine ⟨h1,?_⟩
  split at h2
  ·rename_i h3
   unfold keepF at h3
   simp only [Bool.and_eq_true] at h3
   exact h3.2.2
  ·omega
 ·rintro ⟨h1,h2⟩
  refine ⟨h1,?_⟩
  rw [if_pos]
  ·omega
  ·unfold keepF
   rw [hK.closed s hs hks b hb h1,h2]
   exact ⟨by omega,rfl⟩
theorem pushes_of (hck:ckB q = true) (hn:q.next.length = n) (hf:Fronts q k) (hK:Kept q k n seen) :
    Pushes q k (pushM q k (plP (keepF k seen) n) (usN (keepF k seen) n)) (usN (keepF k seen) n):=by
 have hz:∀ s b,s < n→b < 256→q.nx s b < (n:Int):=fun s b hs hb => by have:=(ckB_nx hck (s:=s) (by rw [hn]; exact hs) hb).2.1; rwa [hn] at this
 refine ⟨by unfold pushM; simp,?_,rfl,fun i s hi => ?_⟩
 ·have:=usN_at (f:=keepF k seen) (n:=n) (s:=0) hK.pos (by unfold keepF; rw [hK.first,hK.some0]; rfl)
  exact this
 ·obtain ⟨hs,hfs,_⟩:=usN_inv hi
  have hfs':=hfs
  unfold keepF at hfs'
  simp only [Bool.and_eq_true] at hfs'
  obtain ⟨hse,hso⟩:=hfs'
  have hs':s < q.next.length:=by rw [hn]; exact hs
  refine ⟨hs',hso,pushM_en hi,fun he => ?_,fun b hb => ?_⟩
  ·rw [pushM_tl hi]
   unfold tailT
   rw [if_pos he,bl_cut]
   exact prefix_drop (front_tail hf hs' hso he)
  ·rw [pushM_nx hi hb,pushM_os hi hb]
   by_cases hkp:kept q (plP (keepF k seen) n) s b
   ·have hkp2:=(kept_iff hck hn hK hs hse hb).1 hkp
    have hzn:=hz s b hs hb
    right
    refine ⟨hkp.1,?_⟩
    have hkz:keepF k seen (q.nx s b).toNat = true:=by unfold keepF; rw [hK.closed s hs hse b hb hkp.1,hkp2.2]; rfl
    have hzl:(q.nx s b).toNat < n:=by omega
    refine ⟨(usN (keepF k seen) (q.nx s b).toNat).length,usN_at hzl hkz,?_,?_⟩
    ·unfold nextT
     rw [if_pos hkp]
     unfold plP
     rw [if_pos ⟨hzl,hkz⟩]
    ·unfold outsT
     rw [if_pos hkp,bl_cut,bl_app]
     exact prefix_drop (front_pre hf hs' hso hb hkp.1 (by rw [hn]; exact hzl) hkp2.2)
   ·left
    refine ⟨?_,?_⟩
    ·by_cases h0:q.nx s b < 0
     ·exact .inl h0
     ·right
      rcases e:k.some (q.nx s b).toNat with _ | _
      ·rfl
      ·exact absurd ((kept_iff hck hn hK hs hse hb).2 ⟨by omega,e⟩) hkp
    ·unfold nextT; rw [if_neg hkp]; omega
theorem push_pos (hK:Kept q k n seen):0 < (usN (keepF k seen) n).length:=by
 have h0:=usN_at (f:=keepF k seen) (n:=n) (s:=0) hK.pos (by unfold keepF; rw [hK.first,hK.some0]; rfl)
 rcases Nat.eq_zero_or_pos (usN (keepF k seen) n).length with e | e
 ·rw [List.getElem?_eq_none (by omega)] at h0; cases h0
 ·exact e
theorem push_len:(pushM q k (plP (keepF k seen) n) (usN (keepF k seen) n)).next.length = (usN (keepF k seen) n).length:=by unfold pushM; simp
theorem push_st (hck:ckB q = true) (hn:q.next.length = n)
    (hsz:∀ s,s < n→keepF k seen s = true→∀ b,b < 256→kept q (plP (keepF k seen) n) s b→(q.os s b).size + (k.l (q.nx s b).toNat).size≤4096 + (k.l s).size) (i:Nat) (hi:i < (usN (keepF k seen) n).length) :
    stB (pushM q k (plP (keepF k seen) n) (usN (keepF k seen) n)) (usN (keepF k seen) n).length i = true:=by
 obtain ⟨p1,p2,p3,p4,p5,p6⟩:=ck_parts hck
 have hul:=usN_le (keepF k seen) n
 obtain ⟨s,hs⟩:∃ s,(usN (keepF k seen) n)[i]? = some s:=⟨_,List.getElem?_eq_getElem hi⟩
 obtain ⟨hsn,hfs,_⟩:=usN_inv hs
 have c1:=pushM_tl (q:=q) (k:=k) (pl:=plP (keepF k seen) n) hs
 have c2:=pushM_en (q:=q) (k:=k) (pl:=plP (keepF k seen) n) hs
 have hbnd:=fun b hb => ckB_nx hck (s:=s) (b:=b) (by rw [hn]; exact hsn) hb
 have hext:∀ (x:ByteArray) (a:Nat),(x.extract a x.size).size≤x.size - a:=fun x a => by
  have:=congrArg List.length (bl_cut x a)
  rw [List.length_drop,bl_len,bl_len] at this
  omega
 unfold stB rowB entB
 simp only [Bool.and_eq_true,Bool.or_eq_true,decide_eq_true_eq,List.all_eq_true]
 refine ⟨⟨?_,?_⟩,⟨?_,?_⟩,fun b hb => ?_⟩
 ·show ((pushM q k (plP (keepF k seen) n) (usN (keepF k seen) n)).tl i).size≤4096
  rw [c1]
  unfold tailT
  split
  ·have:=hext (q.tl s) (k.l s).size
   have:=(hbnd 0 (by decide)).2.2.2.2.1
   omega
  ·exact Nat.zero_le _
 ·by_cases he:q.en s = true
  ·left
   show (pushM q k (plP (keepF k seen) n) (usN (keepF k seen) n)).en i = true
   rw [c2]; exact he
  ·right
   show ((pushM q k (plP (keepF k seen) n) (usN (keepF k seen) n)).tl i).size = 0
   rw [c1]
   unfold tailT
   rw [if_neg he]; rfl
 ·unfold pushM
  simp only
  rw [getD_mapAt _ [] hs]
  unfold rowN; simp
 ·unfold pushM
  simp only
  rw [getD_mapAt _ [] hs]
  unfold rowO; simp
 ·have hb:=List.mem_range.1 hb
  have e1:=pushM_nx (q:=q) (k:=k) (pl:=plP (keepF k seen) n) hs hb
  have e2:=pushM_os (q:=q) (k:=k) (pl:=plP (keepF k seen) n) hs hb
  have g1:(((pushM q k (plP (keepF k seen) n) (usN (keepF k seen) n)).next.getD i []).getD b 0) = nextT q (plP (keepF k seen) n) s b:=e1
  have g2:(((pushM q k (plP (keepF k seen) n) (usN (keepF k seen) n)).outs.getD i []).getD b ByteArray.empty) = outsT q k (plP (keepF k seen) n) s b:=e2
  rw [g1,g2]
  unfold nextT outsT
  by_cases hkp:kept q (plP (keepF k seen) n) s b
  ·rw [if_pos hkp,if_pos hkp]
   have h2:=hkp.2
   have hple:plP (keepF k seen) n (q.nx s b).toNat < ((usN (keepF k seen) n).length:Int):=by
    unfold plP at h2 ⊢
    split
    ·rename_i h3
     have:=usN_at h3.1 h3.2
     have:(usN (keepF k seen) (q.nx s b).toNat).length < (usN (keepF k seen) n).length:=by
      rcases Nat.lt_or_ge (usN (keepF k seen) (q.nx s b).toNat).length (usN (keepF k seen) n).length with e | e
      ·exact e
      ·rw [List.getElem?_eq_none e] at this; cases this
     omega
    ·rename_i h3; rw [if_neg h3] at h2; omega
   have h3:=hsz s hsn hfs b hb hkp
   have h4:=hext (q.os s b ++ k.l (q.nx s b).toNat) (k.l s).size
   rw [ByteArray.size_append] at h4
   have hsa:=ByteArray.size_append (a:=q.os s b) (b:=k.l (q.nx s b).toNat)
   rw [hsa] at *
   exact ⟨⟨⟨by omega,hple⟩,by omega⟩,.inl (by omega)⟩
  ·rw [if_neg hkp,if_neg hkp]
   exact ⟨⟨⟨by omega,by omega⟩,by decide⟩,.inr rfl⟩
theorem ck_push (hck:ckB q = true) (hn:q.next.length = n) (hK:Kept q k n seen) (hfr:(q.front ++ k.l 0).size≤4096)
    (hsz:∀ s,s < n→keepF k seen s = true→∀ b,b < 256→kept q (plP (keepF k seen) n) s b→(q.os s b).size + (k.l (q.nx s b).toNat).size≤4096 + (k.l s).size) :
    ckB (pushM q k (plP (keepF k seen) n) (usN (keepF k seen) n)) = true:=by
 have hst:=push_st hck hn hsz
 obtain ⟨p1,_⟩:=ck_parts hck
 have hul:=usN_le (keepF k seen) n
 have hpos:=push_pos hK
 unfold ckB
 simp only [Bool.and_eq_true,Bool.or_eq_true,decide_eq_true_eq,List.all_eq_true]
 refine ⟨⟨⟨⟨⟨⟨by rw [push_len]; omega,by unfold pushM; simp⟩,by unfold pushM; simp⟩,by unfold pushM; simp⟩,hfr⟩,.inl (by rw [push_len]; omega)⟩,fun i hi => ?_⟩
 have hi:=List.mem_range.1 hi
 rw [push_len] at hi ⊢
 exact hst i hi
theorem ck_push0 (hck:ckB q = true) (hn:q.next.length = n) (hK:Kept q k n seen)
    (hsz:∀ s,s < n→keepF k seen s = true→∀ b,b < 256→kept q (plP (keepF k seen) n) s b→(q.os s b).size + (k.l (q.nx s b).toNat).size≤4096 + (k.l s).size) :
    ckB { pushM q k (plP (keepF k seen) n) (usN (keepF k seen) n) with front:=ByteArray.empty } = true:=by
 have hst:=push_st hck hn hsz
 obtain ⟨p1,_⟩:=ck_parts hck
 have hul:=usN_le (keepF k seen) n
 have hpos:=push_pos hK
 unfold ckB
 simp only [Bool.and_eq_true,Bool.or_eq_true,decide_eq_true_eq,List.all_eq_true]
 refine ⟨⟨⟨⟨⟨⟨by rw [push_len]; omega,by unfold pushM; simp⟩,by unfold pushM; simp⟩,by unfold pushM; simp⟩,by decide⟩,.inr rfl⟩,fun i hi => ?_⟩
 have hi:=List.mem_range.1 hi
 rw [push_len] at hi ⊢
 exact hst i hi
end
def LongQ (q:SeqM) (k:Frt):Prop:=(∃ s b,s < q.next.length∧b < 256∧0≤q.nx s b∧k.some (q.nx s b).toNat = true∧4096 < (q.os s b).size + (k.l (q.nx s b).toNat).size)∨(k.some 0 = true∧4096 < q.front.size + (k.l 0).size)
end Go.Proofs.YtcondkihpmmnnaaGreatDoor
namespace Go.Proofs.YtcondkihpmmnnaaGreatDoor
open Go.RowKit Go.Sort
def PushPost (q:SeqM) (w:World) (e:Ending) (w':World):Prop :=
 Below w.heap.size w w'∧∃ (v:Value) (r:SeqM) (c:Int),e = .returned (.tuple #[v,.int .i64 c])∧SeqNew w.heap.size w' r v ∧
  ((ckB q = false∧c = 1∧r = seq0)∨(ckB q = true∧∃ k,Fronts q k∧((c = 0∧r = seq0∧(q.next.length = 0∨k.some 0 = false))∨(c = 2∧r = seq0∧LongQ q k)∨(c = 0∧ckB r = true∧∃ us,Pushes q k r us))))
set_option maxRecDepth 100000 in
theorem push_ret {R:Ending→World→Prop} {tmps:Array Value} {gq:Nat} {c0 c1 c2 c3 c4 k:Value} {W:World} (h4:tmps[2]? = some (.pointer (some ⟨gq,0,none⟩))) (h5:tmps[3]? = some k)
    (hq:Blk W gq 27 #[c0,c1,c2,c3,c4]) (h:R (.returned (.tuple #[.agg #[c0,c1,c2,c3,c4],k])) W):bodyPost Tryz.prog Tryz.f33 R Exit.ret ⟨tmps,[]⟩ W:=by
 have q0:=hq.cell 0
 have q1:=hq.cell 1
 have q2:=hq.cell 2
 have q3:=hq.cell 3
 have q4:=hq.cell 4
 exact bodyPost_ret (v:=.tuple #[.agg #[c0,c1,c2,c3,c4],k]) (by simp [results,Tryz.results33,go_sem,q0,q1,q2,q3,q4,h4,h5]) rfl h
structure PsA (w wr:World) (cs:Array Value) (n gL gM gP gS:Nat) (k:Frt) (pl:Nat→Int) (seen:Nat→Bool):Prop where
 box:Blk wr w.heap.size 27 cs
 res:Blk wr (w.heap.size + 1) 27 #[.string ⟨#[]⟩,.slice none 0 0,.slice none 0 0,.slice none 0 0,.slice none 0 0]
 l:Blk wr gL 9 (kL k n).toArray
 m:Blk wr gM 4 (bV k.some n)
 p:Blk wr gP 3 (intsV pl n)
 s:Blk wr gS 4 (bV seen n)
 bL:w.heap.size + 2≤gL
 bM:w.heap.size + 2≤gM
 bP:w.heap.size + 2≤gP
 bS:w.heap.size + 2≤gS
 bel:Below w.heap.size w wr
section
variable {w wr w':World} {cs:Array Value} {n gL gM gP gS:Nat} {k:Frt} {pl:Nat→Int} {seen:Nat→Bool}
theorem PsA.call (h:PsA w wr cs n gL gM gP gS k pl seen) (hb:Below wr.heap.size wr w'):PsA w w' cs n gL gM gP gS k pl seen :=
 ⟨h.box.below hb h.box.lt,h.res.below hb h.res.lt,h.l.below hb h.l.lt,h.m.below hb h.m.lt,h.p.below hb h.p.lt,h.s.below hb h.s.lt,h.bL,h.bM,h.bP,h.bS,h.bel.trans (hb.mono h.bel.size)⟩
theorem PsA.set (h:PsA w wr cs n gL gM gP gS k pl seen) (j:Nat) (hj:j < n) (i:Int):PsA w (wr.setCell ⟨gP,j,none⟩ (.int .i64 i)) cs n gL gM gP gS k (fun t => if t = j then i else pl t) seen:=by
 have hb:=h.bP
 refine ⟨h.box.far (p:=⟨gP,j,none⟩) (by show w.heap.size≠gP; omega) _,h.res.far (p:=⟨gP,j,none⟩) (by show w.heap.size + 1≠gP; omega) _,h.l.far (p:=⟨gP,j,none⟩) (fun e => Blk.ne_ h.l h.p (by decide) e) _,
  h.m.far (p:=⟨gP,j,none⟩) (fun e => Blk.ne_ h.m h.p (by decide) e) _,?_,h.s.far (p:=⟨gP,j,none⟩) (fun e => Blk.ne_ h.s h.p (by decide) e) _,h.bL,h.bM,h.bP,h.bS,h.bel.setCell (p:=⟨gP,j,none⟩) (by show w.heap.size≤gP; omega) _⟩
 have:=h.p.set_ j (.int .i64 i)
 rwa [intsV_set _ _ _ _ hj] at this
theorem PsA.congr (h:PsA w wr cs n gL gM gP gS k pl seen) {pl':Nat→Int} (e:∀ j,j < n→pl j = pl' j):PsA w wr cs n gL gM gP gS k pl' seen:=by
 have:intsV pl n = intsV pl' n:=by
  unfold intsV
  rw [rowV_congr (fun j hj => by rw [e j hj])]
 exact { h with p:=this ▸ h.p }
end
def plJ (f:Nat→Bool) (n j s:Nat):Int:=if s < j then plP f n s else 0
theorem plJ_put {f:Nat→Bool} {n j:Nat} (hj:j < n):∀ s,s < n→(if s = j then plP f n j else plJ f n j s) = plJ f n (j + 1) s:=by
 intro s _
 unfold plJ
 by_cases e:s = j
 ·subst e; simp
 ·rw [if_neg e]
  by_cases h:s < j
  ·rw [if_pos h,if_pos (by omega)]
  ·rw [if_neg h,if_neg (by omega)]
theorem plJ_put2 {f:Nat→Bool} {n j:Nat} {i0:Int} (hj:j < n):∀ s,s < n→(if s = j then plP f n j else if s = j then i0 else plJ f n j s) = plJ f n (j + 1) s:=by
 intro s hs
 rw [← plJ_put hj s hs]
 by_cases e:s = j
 ·rw [if_pos e,if_pos e]
 ·rw [if_neg e,if_neg e,if_neg e]
theorem plP_yes {f:Nat→Bool} {n j:Nat} (hj:j < n) (h:f j = true):plP f n j = ((usN f j).length:Int):=by unfold plP; rw [if_pos ⟨hj,h⟩]
theorem plP_no {f:Nat→Bool} {n j:Nat} (h:f j = false):plP f n j = -1:=by unfold plP; rw [if_neg (by rw [h]; simp)]
theorem plP_bounds (f:Nat→Bool) (n z:Nat) (hn:n≤1024):-1≤plP f n z∧plP f n z≤2000:=by
 unfold plP
 split
 ·have:=usN_le f z; omega
 ·omega
theorem usN_yes {f:Nat→Bool} {j:Nat} (h:f j = true):usN f (j + 1) = usN f j ++ [j]:=by rw [usN_next,if_pos h]
theorem usN_no {f:Nat→Bool} {j:Nat} (h:f j = false):usN f (j + 1) = usN f j:=by rw [usN_next,if_neg (by rw [h]; decide),List.append_nil]
theorem intsV_row (f:Nat→Int):intsV f 256 = (((List.range 256).map f).map (Value.int .i64)).toArray:=by
 unfold intsV rowV; rw [List.map_map]; rfl
theorem strsV_row (f:Nat→ByteArray):strsV f 256 = (((List.range 256).map f).map Value.string).toArray:=by
 unfold strsV rowV; rw [List.map_map]; rfl
theorem rowB_ints {P0 g:Nat} {w:World} {f:Nat→Int} (h:Blk w g 3 (intsV f 256)) (hg:P0≤g):RowB P0 w 3 (.slice (some ⟨g,0,none⟩) 256 256) (((List.range 256).map f).map (Value.int .i64)) :=
 ⟨g,rfl,hg,by rw [← intsV_row]; exact h,by simp⟩
theorem rowB_strs {P0 g:Nat} {w:World} {f:Nat→ByteArray} (h:Blk w g 9 (strsV f 256)) (hg:P0≤g):RowB P0 w 9 (.slice (some ⟨g,0,none⟩) 256 256) (((List.range 256).map f).map Value.string) :=
 ⟨g,rfl,hg,by rw [← strsV_row]; exact h,by simp⟩
theorem RowB.call {P0:Nat} {w w':World} {T:TypeId} {v:Value} {xs:List Value} (h:RowB P0 w T v xs) (hb:Below w.heap.size w w'):RowB P0 w' T v xs:=by
 obtain ⟨g,e,h1,h2,h3⟩:=h
 exact ⟨g,e,h1,h2.below hb h2.lt,h3⟩
theorem getD_some {us:List Nat} {i:Nat} (hi:i < us.length):us[i]? = some (us.getD i 0):=by
 rw [List.getD_eq_getElem?_getD,List.getElem?_eq_getElem hi]; rfl
def ShortTo (q:SeqM) (k:Frt) (f:Nat→Bool) (n s:Nat):Prop:=∀ t,t < s→f t = true→∀ b,b < 256→kept q (plP f n) t b→(q.os t b).size + (k.l (q.nx t b).toNat).size≤4096 + (k.l t).size
section
variable {q:SeqM} {k:Frt} {n:Nat} {seen:Nat→Bool}
theorem push_small (hck:ckB q = true) (hn:q.next.length = n) (hK:Kept q k n seen) (hfr:q.front.size + (k.l 0).size≤100000000) (hS:ShortTo q k (keepF k seen) n n) :
    (pushM q k (plP (keepF k seen) n) (usN (keepF k seen) n)).next.length≤1024∧(pushM q k (plP (keepF k seen) n) (usN (keepF k seen) n)).outs.length = (pushM q k (plP (keepF k seen) n) (usN (keepF k seen) n)).next.length ∧
    (pushM q k (plP (keepF k seen) n) (usN (keepF k seen) n)).ends.length = (pushM q k (plP (keepF k seen) n) (usN (keepF k seen) n)).next.length ∧
    (pushM q k (plP (keepF k seen) n) (usN (keepF k seen) n)).tail.length = (pushM q k (plP (keepF k seen) n) (usN (keepF k seen) n)).next.length∧(pushM q k (plP (keepF k seen) n) (usN (keepF k seen) n)).front.size≤100000000 ∧
    ∀ s,s < (pushM q k (plP (keepF k seen) n) (usN (keepF k seen) n)).next.length→((pushM q k (plP (keepF k seen) n) (usN (keepF k seen) n)).tail.getD s ByteArray.empty).size≤4096 ∧
     ((pushM q k (plP (keepF k seen) n) (usN (keepF k seen) n)).next.getD s []).length = 256∧((pushM q k (plP (keepF k seen) n) (usN (keepF k seen) n)).outs.getD s []).length = 256 ∧
     ∀ b,b < 256→-1≤((pushM q k (plP (keepF k seen) n) (usN (keepF k seen) n)).next.getD s []).getD b 0 ∧
      ((pushM q k (plP (keepF k seen) n) (usN (keepF k seen) n)).next.getD s []).getD b 0 < (pushM q k (plP (keepF k seen) n) (usN (keepF k seen) n)).next.length ∧
      (((pushM q k (plP (keepF k seen) n) (usN (keepF k seen) n)).outs.getD s []).getD b ByteArray.empty).size≤4096:=by
 have h0:=ck_push0 hck hn hK (fun s hs hf b hb hk => hS s hs hf b hb hk)
 obtain ⟨p1,p2,p3,p4,_,p6⟩:=ck_parts h0
 refine ⟨p1,p2,p3,p4,?_,fun s hs => ?_⟩
 ·show (q.front ++ k.l 0).size≤100000000
  rw [ByteArray.size_append]; exact hfr
 ·refine ⟨(ckB_nx h0 (s:=s) (b:=0) hs (by decide)).2.2.2.2.1,(p6 s hs).1,(p6 s hs).2,fun b hb => ?_⟩
  obtain ⟨a1,a2,a3,_⟩:=ckB_nx h0 (s:=s) (b:=b) hs hb
  exact ⟨a1,a2,a3⟩
end
section
variable {q:SeqM} {k:Frt} {n s:Nat} {seen:Nat→Bool}
theorem keepF_some (h:keepF k seen s = true):k.some s = true:=by unfold keepF at h; simp only [Bool.and_eq_true] at h; exact h.2
theorem keepF_seen (h:keepF k seen s = true):seen s = true:=by unfold keepF at h; simp only [Bool.and_eq_true] at h; exact h.1
theorem push_pre (hck:ckB q = true) (hn:q.next.length = n) (hf:Fronts q k) (hK:Kept q k n seen) (hs:s < n) (hfs:keepF k seen s = true) (b:Nat) (hb:b < 256) (hk:kept q (plP (keepF k seen) n) s b) :
    (k.l s).size≤(q.os s b).size + (k.l (q.nx s b).toNat).size:=by
 have hz:=(ckB_nx hck (s:=s) (by rw [hn]; exact hs) hb).2.1
 have h2:=(kept_iff hck hn hK hs (keepF_seen hfs) hb).1 hk
 have:=(front_pre hf (by rw [hn]; exact hs) (keepF_some hfs) hb h2.1 (by omega) h2.2).length_le
 rwa [List.length_append,bl_len,bl_len,bl_len] at this
theorem push_cut (hn:q.next.length = n) (hf:Fronts q k) (hs:s < n) (hfs:keepF k seen s = true) (he:q.en s = true):(k.l s).size≤(q.tl s).size:=by
 have:=(front_tail hf (by rw [hn]; exact hs) (keepF_some hfs) he).length_le
 rwa [bl_len,bl_len] at this
theorem push_long (hck:ckB q = true) (hn:q.next.length = n) (hK:Kept q k n seen) (hs:s < n) (hfs:keepF k seen s = true) (h:LongAt q k (plP (keepF k seen) n) s):LongQ q k:=by
 obtain ⟨b,hb,hk,hl⟩:=h
 have h2:=(kept_iff hck hn hK hs (keepF_seen hfs) hb).1 hk
 exact .inl ⟨s,b,by rw [hn]; exact hs,hb,h2.1,h2.2,hl⟩
end
theorem sqB_start {W0 W:World} {gr:Nat} {fr:ByteArray} (hb:Blk W gr 27 #[.string fr,nilV,nilV,nilV,nilV]) (hg:W0.heap.size≤gr) (hbel:Below W0.heap.size W0 W):SqB W0 W gr fr nilV nilV nilV nilV [] [] [] [] [] [] :=
 ⟨hb,World.ownsRow_nil _ _ _ _,World.ownsRow_nil _ _ _ _,World.ownsRow_nil _ _ _ _,World.ownsRow_nil _ _ _ _,fun _i h => absurd h (Nat.not_lt_zero _),fun _i h => absurd h (Nat.not_lt_zero _),fun _i h => absurd h (Nat.not_lt_zero _),hg,hbel⟩
def RowsTo (q:SeqM) (k:Frt) (f:Nat→Bool) (n s:Nat) (N:List (List Int)) (O:List (List ByteArray)) (E:List Bool) (T:List ByteArray):Prop :=
 N = (usN f s).map (rowN q (plP f n))∧O = (usN f s).map (rowO q k (plP f n))∧E = (usN f s).map q.en∧T = (usN f s).map (tailT q k)
section
variable {q:SeqM} {k:Frt} {f:Nat→Bool} {n s:Nat} {N:List (List Int)} {O:List (List ByteArray)} {E:List Bool} {T:List ByteArray}
theorem RowsTo.start:RowsTo q k f n 0 [] [] [] []:=⟨rfl,rfl,rfl,rfl⟩
theorem RowsTo.len (h:RowsTo q k f n s N O E T):N.length = (usN f s).length∧O.length = (usN f s).length∧E.length = (usN f s).length∧T.length = (usN f s).length:=by
 obtain ⟨rfl,rfl,rfl,rfl⟩:=h
 simp
theorem RowsTo.skip (h:RowsTo q k f n s N O E T) (hf:f s = false):RowsTo q k f n (s + 1) N O E T:=by
 unfold RowsTo at h ⊢
 rw [usN_no hf]; exact h
theorem RowsTo.put (h:RowsTo q k f n s N O E T) (hf:f s = true):RowsTo q k f n (s + 1) (N ++ [rowN q (plP f n) s]) (O ++ [rowO q k (plP f n) s]) (E ++ [q.en s]) (T ++ [tailT q k s]):=by
 unfold RowsTo at h ⊢
 obtain ⟨rfl,rfl,rfl,rfl⟩:=h
 rw [usN_yes hf]
 simp
theorem RowsTo.seq (h:RowsTo q k f n n N O E T):pushM q k (plP f n) (usN f n) = ⟨q.front ++ k.l 0,N,O,E,T⟩:=by
 obtain ⟨rfl,rfl,rfl,rfl⟩:=h
 rfl
theorem ShortTo.start:ShortTo q k f n 0:=fun _t h => absurd h (Nat.not_lt_zero _)
theorem ShortTo.skip (h:ShortTo q k f n s) (hf:f s = false):ShortTo q k f n (s + 1):=fun t ht hft => by
 by_cases e:t = s
 ·subst e; rw [hf] at hft; cases hft
 ·exact h t (by omega) hft
theorem ShortTo.put (h:ShortTo q k f n s) (hs:∀ b,b < 256→kept q (plP f n) s b→(q.os s b).size + (k.l (q.nx s b).toNat).size≤4096 + (k.l s).size):ShortTo q k f n (s + 1):=fun t ht hft => by
 by_cases e:t = s
 ·subst e; exact hs
 ·exact h t (by omega) hft
end
end Go.Proofs.YtcondkihpmmnnaaGreatDoor
namespace Go.Proofs.YtcondkihpmmnnaaGreatDoor
open Go.RowKit Go.Sort
set_option maxRecDepth 100000 in
set_option maxHeartbeats 8000000 in
theorem push_bad (q:SeqM) (v:Value) (B:Nat) (w:World) (HS:SeqAt w B q v) (hB:B≤w.heap.size) (hck:ckB q = false) :
    Calls Tryz.prog 33 #[v] w (PushPost q w):=by
 have HSat:=Lib.hid (fun W (hb:Below w.heap.size w W) => (HS.below (hb.mono hB)).more (Nat.le_trans hB hb.size))
 obtain ⟨A1,c1,A2,c2,A3,c3,A4,c4,rfl,hf,l1,l2,l3,l4,m1,m2,m3,m4,R1,hz,R2,hsz,R3,R4,htl⟩:=HS
 have HR3:=Lib.hid R3
 have HR4:=Lib.hid (And.intro R4 htl)
 clear R1 R2 R3 R4 hz hsz htl
 have hfin:=Lib.hid (fun (W:World) (hb:Below w.heap.size w W) => show PushPost q w (.returned (.tuple #[.agg #[.string ⟨#[]⟩,.slice none 0 0,.slice none 0 0,.slice none 0 0,.slice none 0 0],.int .i64 1])) W from
  ⟨hb,_,seq0,1,rfl,seqNew_nil _ _,.inl ⟨hck,rfl,rfl⟩⟩)
 have hcka:=Lib.hid (fun W hb => seqCheck_any q _ W.heap.size W (HSat.out W hb) (Nat.le_refl _))
 rw [hck] at hcka
 generalize q.front = fr at *
 generalize q.next.length = n1 at *
 generalize q.outs.length = n2 at *
 generalize q.ends.length = n3 at *
 generalize q.tail.length = n4 at *
 have B0:Below w.heap.size w ((w.alloc (.cells #[.string fr,.slice A1 n1 c1,.slice A2 n2 c2,.slice A3 n3 c3,.slice A4 n4 c4] 27)).alloc (.cells #[.string ⟨#[]⟩,.slice none 0 0,.slice none 0 0,.slice none 0 0,.slice none 0 0] 27)) :=
  ((Below.refl _ w).alloc (Nat.le_refl _) _).alloc (by simp) _
 have Ja:=(Blk.new w 27 #[.string fr,.slice A1 n1 c1,.slice A2 n2 c2,.slice A3 n3 c3,.slice A4 n4 c4]).alloc (.cells #[.string ⟨#[]⟩,.slice none 0 0,.slice none 0 0,.slice none 0 0,.slice none 0 0] 27)
 have Jr:=Blk.new (w.alloc (.cells #[.string fr,.slice A1 n1 c1,.slice A2 n2 c2,.slice A3 n3 c3,.slice A4 n4 c4] 27)) 27 #[.string ⟨#[]⟩,.slice none 0 0,.slice none 0 0,.slice none 0 0,.slice none 0 0]
 simp only [World.size_alloc] at Jr
 have j0:=Ja.cell 0
 have j1:=Ja.cell 1
 have j2:=Ja.cell 2
 have j3:=Ja.cell 3
 have j4:=Ja.cell 4
 clear hck
 go_enter Tryz.func33,Tryz.ntmps33
 go_wp2_with fail
 refine (hcka.out _ B0).mono ?_
 rintro e w1 ⟨rfl,hb1⟩
 have Jr1:=Jr.below hb1 Jr.lt
 have r0:=Jr1.cell 0
 have r1:=Jr1.cell 1
 have r2:=Jr1.cell 2
 have r3:=Jr1.cell 3
 have r4:=Jr1.cell 4
 have g0:=Jr1.frozen 0
 have g1:=Jr1.frozen 1
 have g2:=Jr1.frozen 2
 have g3:=Jr1.frozen 3
 have g4:=Jr1.frozen 4
 have hok:okE false = 1:=rfl
 go_wp2_with fail
 exact push_ret rfl rfl (blk_set5 Jr1 _ _ _ _ _) (hfin.out _ (below_set5 (B0.trans (hb1.mono (by simp; omega))) (by omega) _ _ _ _ _))
end Go.Proofs.YtcondkihpmmnnaaGreatDoor
namespace Go.Proofs.YtcondkihpmmnnaaGreatDoor
open Go.RowKit Go.Sort
set_option maxRecDepth 100000 in
set_option maxHeartbeats 8000000 in
theorem push_good (q:SeqM) (v:Value) (B n:Nat) (w:World) (HS:SeqAt w B q v) (hB:B≤w.heap.size) (hn:q.next.length = n) (hck:ckB q = true) :
    Calls Tryz.prog 33 #[v] w (PushPost q w):=by
 have HSat:=Lib.hid (fun W (hb:Below w.heap.size w W) => (HS.below (hb.mono hB)).more (Nat.le_trans hB hb.size))
 obtain ⟨A1,c1,A2,c2,A3,c3,A4,c4,rfl,hf,l1,l2,l3,l4,m1,m2,m3,m4,R1,hz,R2,hsz,R3,R4,htl⟩:=HS
 have HR3:=Lib.hid R3
 have HR4:=Lib.hid (And.intro R4 htl)
 clear R1 R2 R3 R4 hz hsz htl
 obtain ⟨p1,p2,p3,p4,p5,p6⟩:=ck_parts hck
 have HCk:=Lib.hid (And.intro hck hn)
 have hfin:=Lib.hid (fun (W:World) (hb:Below w.heap.size w W) (k:Frt) (hfr:Fronts q k) (c:Int) (h:(c = 0∧(n = 0∨k.some 0 = false))∨(c = 2∧LongQ q k)) => show PushPost q w (.returned (.tuple #[.agg #[.string ⟨#[]⟩,.slice none 0 0,.slice none 0 0,.slice none 0 0,.slice none 0 0],.int .i64 c])) W from
  ⟨hb,_,seq0,c,rfl,seqNew_nil _ _,.inr ⟨hck,k,hfr,by
   rcases h with ⟨rfl,h⟩ | ⟨rfl,h⟩
   ·exact .inl ⟨rfl,rfl,by rw [hn]; exact h⟩
   ·exact .inr (.inl ⟨rfl,rfl,h⟩)⟩⟩)
 have hfin2:=Lib.hid (fun (W:World) (hb:Below w.heap.size w W) (k:Frt) (hfr:Fronts q k) (v:Value) (r:SeqM) (us:List Nat) (hq:SeqNew w.heap.size W r v) (hcr:ckB r = true) (hp:Pushes q k r us) => show PushPost q w (.returned (.tuple #[v,.int .i64 0])) W from
  ⟨hb,v,r,0,rfl,hq,.inr ⟨hck,k,hfr,.inr (.inr ⟨rfl,hcr,us,hp⟩)⟩⟩)
 rw [p2,p3,p4,hn] at HSat ⊢
 rw [p3,hn] at HR3
 rw [p4,hn] at HR4
 have hcka:=Lib.hid (fun W hb => seqCheck_any q _ W.heap.size W (HSat.out W hb) (Nat.le_refl _))
 rw [hck] at hcka
 have hfra:=Lib.hid (fun W hb => fronts_any q _ W.heap.size n W (HSat.out W hb) (Nat.le_refl _) hck hn)
 have hrea:=Lib.hid (fun W hb => reached_any q _ W.heap.size n W (HSat.out W hb) (Nat.le_refl _) hck hn)
 have htur:=Lib.hid (fun W hb (s:Nat) (hs:s < n) (k:Frt) (pl:Nat→Int) (gL gP:Nat) (HL:Blk W gL 9 (kL k n).toArray) (HP:Blk W gP 3 (intsV pl n)) (hl:∀ z,(k.l z).size≤4096 * n) (hpl:∀ z,z < n→-1≤pl z∧pl z≤2000)
  (hpre:∀ b,b < 256→kept q pl s b→(k.l s).size≤(q.os s b).size + (k.l (q.nx s b).toNat).size) => turned_any q _ W.heap.size s n (4096 * n) k pl (some ⟨gL,0,none⟩) (some ⟨gP,0,none⟩) n n W (HSat.out W hb) (Nat.le_refl _) hck hn hs
   (reads_blk HL (by unfold kL; rw [rowV_len])) (reads_blk (show Blk W gP 3 (rowV (fun z => .int .i64 (pl z)) n).toArray from HP) (by rw [rowV_len])) hl (by rw [hn] at p1; omega) hpl hpre)
 have hfs:q.front.size≤4096:=p5
 rw [hn] at p1
 clear p2 p3 p4 p5 l1 l2 l3 l4
 generalize hfre:q.front = fr at *
 have Hfr:=Lib.hid hfre
 clear hfre hck hn
 have B0:Below w.heap.size w ((w.alloc (.cells #[.string fr,.slice A1 n c1,.slice A2 n c2,.slice A3 n c3,.slice A4 n c4] 27)).alloc (.cells #[.string ⟨#[]⟩,.slice none 0 0,.slice none 0 0,.slice none 0 0,.slice none 0 0] 27)) :=
  ((Below.refl _ w).alloc (Nat.le_refl _) _).alloc (by simp) _
 have Ja:=(Blk.new w 27 #[.string fr,.slice A1 n c1,.slice A2 n c2,.slice A3 n c3,.slice A4 n c4]).alloc (.cells #[.string ⟨#[]⟩,.slice none 0 0,.slice none 0 0,.slice none 0 0,.slice none 0 0] 27)
 have Jr:=Blk.new (w.alloc (.cells #[.string fr,.slice A1 n c1,.slice A2 n c2,.slice A3 n c3,.slice A4 n c4] 27)) 27 #[.string ⟨#[]⟩,.slice none 0 0,.slice none 0 0,.slice none 0 0,.slice none 0 0]
 simp only [World.size_alloc] at Jr
 have j0:=Ja.cell 0
 have j1:=Ja.cell 1
 have j2:=Ja.cell 2
 have j3:=Ja.cell 3
 have j4:=Ja.cell 4
 have hok:okE true = 0:=rfl
 go_enter Tryz.func33,Tryz.ntmps33
 go_wp2_with fail
 refine (hcka.out _ B0).mono ?_
 rintro e w1 ⟨rfl,hb1⟩
 have Ja1:=Ja.below hb1 Ja.lt
 have Jr1:=Jr.below hb1 Jr.lt
 have B1:=B0.trans (hb1.mono (by simp; omega))
 clear B0 Ja Jr hb1
 have j0:=Ja1.cell 0
 have j1:=Ja1.cell 1
 have j2:=Ja1.cell 2
 have j3:=Ja1.cell 3
 have j4:=Ja1.cell 4
 go_wp2_with fail
 refine (hfra.out w1 B1).mono ?_
 rintro e w2 ⟨gL,gM,k,rfl,HL,HM,hgL,hgM,hb2,hsz,hfr⟩
 have hq1:=Jr1.lt
 have Ja2:=Ja1.below hb2 Ja1.lt
 have Jr2:=Jr1.below hb2 Jr1.lt
 have B2:=B1.trans (hb2.mono B1.size)
 have HFr:=Lib.hid hfr
 have HSz:=Lib.hid hsz
 have hz2:=hb2.size
 have hLl:=HL.lt
 have hMl:=HM.lt
 clear B1 Ja1 Jr1 hb2 hfr hsz j0 j1 j2 j3 j4
 rcases Nat.eq_zero_or_pos n with hn0 | hn0
 ·have HH:=Lib.hid (show n = 0∨k.some 0 = false from .inl hn0)
  have hne:((n:Int) == 0) = true:=by simp [hn0]
  have r0:=Jr2.cell 0
  have r1:=Jr2.cell 1
  have r2:=Jr2.cell 2
  have r3:=Jr2.cell 3
  have r4:=Jr2.cell 4
  have g0:=Jr2.frozen 0
  have g1:=Jr2.frozen 1
  have g2:=Jr2.frozen 2
  have g3:=Jr2.frozen 3
  have g4:=Jr2.frozen 4
  clear hn0
  go_wp2_with fail
  exact push_ret rfl rfl (blk_set5 Jr2 _ _ _ _ _) (hfin.out _ (below_set5 B2 (by omega) _ _ _ _ _) k HFr.out 0 (.inl ⟨rfl,HH.out⟩))
 have hne:((n:Int) == 0) = false:=by simp; omega
 have hn0i:(0:Int) < (n:Int):=by omega
 have m0:=(HM.cell 0).trans (bV_at _ hn0)
 rcases hks:k.some 0 with _ | _
 ·have HH:=Lib.hid (show n = 0∨k.some 0 = false from .inr hks)
  rw [hks] at m0
  have r0:=Jr2.cell 0
  have r1:=Jr2.cell 1
  have r2:=Jr2.cell 2
  have r3:=Jr2.cell 3
  have r4:=Jr2.cell 4
  have g0:=Jr2.frozen 0
  have g1:=Jr2.frozen 1
  have g2:=Jr2.frozen 2
  have g3:=Jr2.frozen 3
  have g4:=Jr2.frozen 4
  clear hks
  go_wp2_with fail
  exact push_ret rfl rfl (blk_set5 Jr2 _ _ _ _ _) (hfin.out _ (below_set5 B2 (by omega) _ _ _ _ _) k HFr.out 0 (.inl ⟨rfl,HH.out⟩))
 rw [hks] at m0
 have HKs:=Lib.hid hks
 clear hks
 obtain ⟨i0,hi,hy0,hy1,hy2⟩:=info_parts int_infoS
 have hbb:i0.bytes * n≤281474976710656:=by rw [hy2]; omega
 have hmx:n≤maxLen:=by unfold maxLen; omega
 go_upto_region 7 with (at_make; refine wpList_make_full _ rfl _ _ 55 rfl w2.heap.size 3 i0 _ 1 Tryz.underlying55 hi hy0 hy1 _ _ (n:Int) (n:Int) n rfl rfl rfl rfl hbb hmx (Nat.le_refl _) ?_; intro w3 hown hgr)
 have hb3:=(Below.refl w2.heap.size w2).grown hgr (Nat.le_refl _) (fun k e => by cases e)
 rw [show (Value.int .i64 0).cells = #[Value.int .i64 0] from rfl,Nat.mul_one,toList_madeCells_one,rowV_const] at hown
 have hP3:Blk w3 w2.heap.size 3 (intsV (fun _ => 0) n):=blk_of_made hown
 have Ja3:=Ja2.below hb3 Ja2.lt
 have B3:=B2.trans (hb3.mono B2.size)
 have hPl:=hP3.lt
 have j0:=Ja3.cell 0
 have j1:=Ja3.cell 1
 have j2:=Ja3.cell 2
 have j3:=Ja3.cell 3
 have j4:=Ja3.cell 4
 clear hown hgr m0 hi hy0 hy1 hy2 hbb
 go_wp2_with fail
 refine (hrea.out w3 B3).mono ?_
 rintro e w4 ⟨gS,seen,rfl,HSn,hgS,hb4,hs0,hcl⟩
 have hz3:=hb3.size
 have HA0:PsA w w4 #[.string fr,.slice A1 n c1,.slice A2 n c2,.slice A3 n c3,.slice A4 n c4] n gL gM w2.heap.size gS k (plJ (keepF k seen) n 0) seen:=by
  have h0:PsA w w4 #[.string fr,.slice A1 n c1,.slice A2 n c2,.slice A3 n c3,.slice A4 n c4] n gL gM w2.heap.size gS k (fun _ => 0) seen:={
   box:=Ja3.below hb4 Ja3.lt
   res:=(Jr2.below hb3 Jr2.lt).below hb4 (by omega)
   l:=(HL.below hb3 hLl).below hb4 (by omega)
   m:=(HM.below hb3 hMl).below hb4 (by omega)
   p:=hP3.below hb4 hPl
   s:=HSn
   bL:=by omega
   bM:=by omega
   bP:=by omega
   bS:=by omega
   bel:=B3.trans (hb4.mono B3.size) }
  exact h0
 have HKp:=Lib.hid (show Kept q k n seen from ⟨hs0 hn0,HKs.out,hn0,hcl⟩)
 have HA:=Lib.hid HA0
 clear HA0 Ja2 Ja3 Jr2 B2 B3 hb3 hb4 HL HM hP3 HSn hs0 hcl j0 j1 j2 j3 j4 hPl hLl hMl hq1 hgL hgM hgS hz2 hz3
 generalize w2.heap.size = gP at *
 generalize hfK:keepF k seen = f at *
 have HfK:=Lib.hid hfK
 go_wp2
 go_loopw [7,41] (fun nv i wr => ∃ s:Nat,s≤n∧i = .int .i64 (s:Int)∧nv = .int .i64 ((usN f s).length:Int)∧PsA w wr #[.string fr,.slice A1 n c1,.slice A2 n c2,.slice A3 n c3,.slice A4 n c4] n gL gM gP gS k (plJ f n s) seen) (fun _ i _ => n - (intOf i).toNat)
 case atStart => exact ⟨0,Nat.zero_le _,rfl,rfl,HA.out⟩
 case round =>
  clear HA
  obtain ⟨s,hs,rfl,rfl,HW⟩:=hrel
  have hul:=usN_le f s
  by_cases hlt:s < n
  ·have hi1:(0:Int)≤(s:Int):=by omega
   have hi2:(s:Int) < (n:Int):=by omega
   have a1:=(HW.s.cell s).trans (bV_at _ hlt)
   have u1:=(HW.p.cell s).trans (intsV_at _ hlt)
   have u2:=HW.p.frozen s
   have HW2:=HW.set s hlt (-1)
   have a2:=(HW2.m.cell s).trans (bV_at _ hlt)
   have u3:=(HW2.p.cell s).trans (intsV_at _ hlt)
   have u4:=HW2.p.frozen s
   obtain ⟨un,hun⟩:∃ un,un = (usN f s).length:=⟨_,rfl⟩
   rw [← hun] at hul ⊢
   have hsz9:un≤1024:=by omega
   rcases hse:seen s with _ | _
   ·have hno:f s = false:=by rw [← HfK.out]; unfold keepF; rw [hse]; rfl
    have HF:=Lib.hid (HW2.congr (pl':=plJ f n (s + 1)) (fun t ht => by rw [← plJ_put hlt t ht,plP_no hno]))
    have HU:=Lib.hid (show (usN f (s + 1)).length = un by rw [usN_no hno,hun])
    rw [hse] at a1
    clear HW HW2 hno hse hun
    generalize k.some s = b1 at *
    go_wp2
    go_roundw
    case rel => exact ⟨s + 1,by omega,by go_num,by rw [HU.out],HF.out⟩
    case measure => simp [intOf]; omega
   ·rw [hse] at a1
    rcases hks:k.some s with _ | _
    ·have hno:f s = false:=by rw [← HfK.out]; unfold keepF; rw [hse,hks]; rfl
     have HF:=Lib.hid (HW2.congr (pl':=plJ f n (s + 1)) (fun t ht => by rw [← plJ_put hlt t ht,plP_no hno]))
     have HU:=Lib.hid (show (usN f (s + 1)).length = un by rw [usN_no hno,hun])
     rw [hks] at a2
     clear HW HW2 hno hse hun hks
     go_wp2
     go_roundw
     case rel => exact ⟨s + 1,by omega,by go_num,by rw [HU.out],HF.out⟩
     case measure => simp [intOf]; omega
    ·have hyes:f s = true:=by rw [← HfK.out]; unfold keepF; rw [hse,hks]; rfl
     have HF:=Lib.hid ((HW2.set s hlt (un:Int)).congr (pl':=plJ f n (s + 1)) (fun t ht => by rw [← plJ_put2 (i0:=-1) hlt t ht,plP_yes hlt hyes,hun]))
     have HU:=Lib.hid (show (usN f (s + 1)).length = un + 1 by rw [usN_yes hyes,List.length_append,hun]; rfl)
     rw [hks] at a2
     clear HW HW2 hyes hse hun hks
     go_wp2
     go_roundw
     case rel => exact ⟨s + 1,by omega,by go_num,by rw [HU.out]; go_num,HF.out⟩
     case measure => simp [intOf]; omega
  ·obtain rfl:n = s:=by omega
   have HA:=HW.congr (pl':=plP f n) (fun t ht => by unfold plJ; rw [if_pos ht])
   clear HW
   obtain ⟨un,hun⟩:∃ un,un = (usN f n).length:=⟨_,rfl⟩
   rw [← hun] at hul ⊢
   clear hun
   have hz0:=HSz.out 0
   have b0:=HA.box.cell 0
   have e0:wr.cell? ⟨gL,0,none⟩ = some (.string (k.l 0)):=(HA.l.cell 0).trans (by unfold kL; rw [List.getElem?_toArray,rowV_at _ hn0])
   have y0:=cell_regrown b0
   have y1:=cell_regrown e0
   have hfx:=ByteArray.size_append (a:=fr) (b:=k.l 0)
   have HPre:=Lib.hid (fun (s:Nat) (hs:s < n) (hfs:f s = true) => push_pre (s:=s) HCk.out.1 HCk.out.2 HFr.out HKp.out hs (by rw [HfK.out]; exact hfs))
   have HCut:=Lib.hid (fun (s:Nat) (hs:s < n) (hfs:f s = true) (he:q.en s = true) => push_cut (seen:=seen) HCk.out.2 HFr.out hs (by rw [HfK.out]; exact hfs) he)
   have HLg:=Lib.hid (fun (s:Nat) (hs:s < n) (hfs:f s = true) => push_long (s:=s) HCk.out.1 HCk.out.2 HKp.out hs (by rw [HfK.out]; exact hfs))
   rw [HfK.out] at HPre HLg
   generalize hl0:k.l 0 = l0 at *
   have HL0:=Lib.hid hl0
   clear hl0 hfK
   have HX:=Lib.hid (fun (W:World) (hb:Below wr.heap.size wr W) => HA.call hb)
   obtain ⟨W0,hW0⟩:∃ W0,W0 = wr:=⟨_,rfl⟩
   subst hW0
   have LA:Below W0.heap.size W0 (W0.drew.alloc (.cells #[.string ⟨#[]⟩,.slice none 0 0,.slice none 0 0,.slice none 0 0,.slice none 0 0] 27)):=((Below.refl W0.heap.size W0).drew).alloc (Nat.le_refl _) _
   have HG:=Blk.new W0.drew 27 #[.string ⟨#[]⟩,.slice none 0 0,.slice none 0 0,.slice none 0 0,.slice none 0 0]
   rw [show W0.drew.heap.size = W0.heap.size from rfl] at HG
   have q0:=HG.cell 0
   have q1:=HG.cell 1
   have q2:=HG.cell 2
   have q3:=HG.cell 3
   have q4:=HG.cell 4
   have f0:=HG.frozen 0
   have f1:=HG.frozen 1
   have f2:=HG.frozen 2
   have f3:=HG.frozen 3
   have f4:=HG.frozen 4
   have hA0:=HA.bel.size
   have hr1:=HA.res.lt
   clear HA HG
   go_wp2
   refine wp_region_hold_below 8 [0,1,2,3,4,5,6] [7] (by kernel_rfl) (by kernel_rfl) rfl (by kernel_rfl) ?_
   simp only [pickOps,List.getElem?_cons_zero,List.getElem?_cons_succ,List.drop_succ_cons,List.drop_zero]
   repeat (go_big_quiet_step (fail))
   refine wpQuiet_nil ?_
   refine wpForce_step rfl (fun KK hKK => ?_)
   go_simp
   refine hKK _ _ (regrown_of_below LA) ?_
   clear hKK KK
   refine wpForce_nil ?_
   clear b0 e0 y0 y1
   go_wp2
   refine NoPanic.normal ?_
   go_wp2
   clear q0 q1 q2 q3 q4 f0 f1 f2 f3 f4
   go_loopw [72] (fun i wq => ∃ (s:Nat) (vN vO vE vT:Value) (nv ov:List Value) (N:List (List Int)) (O:List (List ByteArray)) (E:List Bool) (T:List ByteArray),s≤n∧i = .int .i64 (s:Int)∧SqB W0 wq W0.heap.size (fr ++ l0) vN vO vE vT nv ov N O E T∧RowsTo q k f n s N O E T∧ShortTo q k f n s) (fun i _ => n - (intOf i).toNat)
   case atStart => exact ⟨0,nilV,nilV,nilV,nilV,[],[],[],[],[],[],Nat.zero_le _,rfl,sqB_start (Blk.new W0 27 #[.string (fr ++ l0),nilV,nilV,nilV,nilV]) (Nat.le_refl _) (((Below.refl W0.heap.size W0).alloc (Nat.le_refl _) (.cells #[.string (fr ++ l0),nilV,nilV,nilV,nilV] 27)).drew),RowsTo.start,ShortTo.start⟩
   case round =>
    clear LA
    obtain ⟨s,vN,vO,vE,vT,nv,ov,N,O,E,T,hs,rfl,HB,hR,hS⟩:=hrel
    obtain ⟨An,cn,rfl,vn1,vn2,_⟩:=own_form HB.oN
    obtain ⟨Ao,co,rfl,vo1,vo2,_⟩:=own_form HB.oO
    obtain ⟨Ae,ce,rfl,ve1,ve2,_⟩:=own_form HB.oE
    obtain ⟨At,ct,rfl,vt1,vt2,_⟩:=own_form HB.oT
    have hul:=usN_le f s
    have HLn:=Lib.hid (show N.length≤1024∧O.length≤1024∧E.length≤1024∧T.length≤1024 from by
     obtain ⟨ln1,ln2,ln3,ln4⟩:=hR.len
     omega)
    have HAr:=HX.out wr HB.bel
    have hwz:=HAr.bel.size
    by_cases hlt:s < n
    ·have hi1:(0:Int)≤(s:Int):=by omega
     have hi2:(s:Int) < (n:Int):=by omega
     have u1:=(HAr.p.cell s).trans (intsV_at _ hlt)
     rcases hfe:f s with _ | _
     ·rw [plP_no hfe] at u1
      have HRp:=Lib.hid (hR.skip hfe)
      have HSp:=Lib.hid (hS.skip hfe)
      have HBh:=Lib.hid HB
      clear hR hS HB HAr hfe
      go_wp2
      go_roundw
      case rel => exact ⟨s + 1,_,_,_,_,_,_,_,_,_,_,by omega,by go_num,HBh.out,HRp.out,HSp.out⟩
      case measure => simp [intOf]; omega
     ·rw [plP_yes hlt hfe] at u1
      have hpn:¬ (((usN f s).length:Nat):Int) < 0:=by omega
      have ht:=Lib.hid (htur.out wr HAr.bel s hlt k (plP f n) gL gP HAr.l HAr.p HSz.out (fun z _ => plP_bounds f n z p1) (HPre.out s hlt hfe))
      obtain ⟨g3,o3,rfl,hg3,x3⟩:=cell_at (d:=false) HR3.out s hlt
      obtain ⟨g4,o4,rfl,hg4,x4⟩:=cell_at (d:=ByteArray.empty) HR4.out.1 s hlt
      rw [show q.ends.getD s false = q.en s from rfl] at x3
      rw [show q.tail.getD s ByteArray.empty = q.tl s from rfl] at x4
      have b0:=HAr.box.cell 0
      have b1:=HAr.box.cell 1
      have b2:=HAr.box.cell 2
      have b3:=HAr.box.cell 3
      have b4:=HAr.box.cell 4
      have hRh:=Lib.hid hR
      have hSh:=Lib.hid hS
      have HFe:=Lib.hid hfe
      have hLT:=Lib.hid (own_lt HB.oT)
      clear hR hS hfe
      generalize (usN f s).length = un at *
      go_wp2_with fail
      refine ht.out.mono ?_
      clear ht b0 b1 b2 b3 b4 u1
      rintro e w5 ⟨hb5,h5⟩
      have HB5:=HB.call hb5
      have HA5:=HAr.call hb5
      rcases h5 with ⟨hlong,rfl⟩ | ⟨gN,gO,rfl,hbN,hbO,hgN,hgO,hsh5⟩
      ·have HL5:=Lib.hid (HLg.out s hlt HFe.out hlong)
       have r0:=HA5.res.cell 0
       have r1:=HA5.res.cell 1
       have r2:=HA5.res.cell 2
       have r3:=HA5.res.cell 3
       have r4:=HA5.res.cell 4
       have g0:=HA5.res.frozen 0
       have g1:=HA5.res.frozen 1
       have g2:=HA5.res.frozen 2
       have g3':=HA5.res.frozen 3
       have g4':=HA5.res.frozen 4
       have HA5h:=Lib.hid (And.intro HA5.res HA5.bel)
       clear HA5 HB5 HB HAr hlong
       go_wp2_with fail
       exact push_ret rfl rfl (blk_set5 HA5h.out.1 _ _ _ _ _) (hfin.out _ (below_set5 HA5h.out.2 (by omega) _ _ _ _ _) k HFr.out 2 (.inr ⟨rfl,HL5.out⟩))
      ·have HSp:=Lib.hid (hSh.out.put hsh5)
       have hbz5:=HB.bel.size
       have HrN0:RowB W0.heap.size w5 3 (.slice (some ⟨gN,0,none⟩) 256 256) ((rowN q (plP f n) s).map (Value.int .i64)):=rowB_ints hbN (by omega)
       have HrO0:RowB W0.heap.size w5 9 (.slice (some ⟨gO,0,none⟩) 256 256) ((rowO q k (plP f n) s).map Value.string):=rowB_strs hbO (by omega)
       have haO:∀ g,(Value.slice At T.length ct).ownBlock = some g→(Value.slice (some ⟨gO,0,none⟩) 256 256).ownBlock≠some g:=fun g e e2 => by
        have:=(hLT.out g e).2
        have e9:gO = g:=Option.some.inj e2
        omega
       have b3:=HA5.box.cell 3
       have e3:=(HA5.bel.cell (p:=⟨g3,o3 + s,none⟩) (by show g3 < _; omega)).trans x3
       clear HB HAr hb5 hbN hbO hsh5
       rcases hen:q.en s with _ | _
       ·have HRp:=Lib.hid (show RowsTo q k f n (s + 1) (N ++ [rowN q (plP f n) s]) (O ++ [rowO q k (plP f n) s]) (E ++ [false]) (T ++ [ByteArray.mk #[]]) by
          have:=hRh.out.put HFe.out
          rw [hen,show tailT q k s = ByteArray.mk #[] by unfold tailT; rw [hen]; rfl] at this
          exact this)
        rw [hen] at e3 x3
        clear hen
        go_upto_region 26 with (fail)
        clear b3 e3 HA5
        obtain ⟨w6,hw6⟩:∃ w6,w6 = w5:=⟨_,rfl⟩
        subst hw6
        have HB6:=HB5
        have HrN:=HrN0
        have HrO:=HrO0
        clear HB5 HrN0 HrO0
        obtain ⟨iN,hiN,y0N,y1N,y2N⟩:=info_parts slI_info
        have qN:=HB6.box.cell 1
        have fN:=HB6.box.frozen 1
        have LBN:=(Below.refl w6.heap.size w6).alloc (Nat.le_refl _) (.cells #[.slice (some ⟨gN,0,none⟩) 256 256] 55)
        have HBN:=HB6.call LBN
        have hoN:=HBN.oN
        have hbzN:=HBN.box
        have hneN:=own_blk hoN hbzN (by decide)
        have hrdN:=reads_allocK w6 [.slice (some ⟨gN,0,none⟩) 256 256] 55 1 1 rfl
        have h63N:N.length + 1≤maxLen:=by have:=HLn.out; unfold maxLen; omega
        have hbyN:(N.length + 1) * 24≤140737488355328:=by have:=HLn.out; omega
        have honeN:∀ u∈[Value.slice (some ⟨gN,0,none⟩) 256 256],u.oneCell' = true:=fun u hu => by rw [List.mem_singleton] at hu; subst hu; rfl
        have hbsN:=HBN.bel.size
        have HrN7:=HrN.call LBN
        have HrO7:=HrO.call LBN
        clear HB6 HrN HrO
        go_upto_region 27 with (at_builtin; refine wpList_append_any _ rfl _ _ 22 rfl W0.heap.size 55 iN _ 1 24 Tryz.underlying22 hiN y0N y1N y2N rfl (by decide) _ _ _ rfl hoN _ (some ⟨w6.heap.size,0,none⟩) 1 1 [.slice (some ⟨gN,0,none⟩) 256 256] rfl hrdN honeN h63N hbyN hbsN ?_; intro vN' wN hownN hgrN hlocN; obtain ⟨A9N,c9N,rfl,_,_,_⟩:=own_form hownN; have e3N:=(blk_keep hbzN hgrN hneN).cell 1; have e4N:=(blk_keep hbzN hgrN hneN).frozen 1)
        have HB7:=HBN.putN hgrN hownN HrN7
        have HrO8:=(HrO7.kept hgrN (HrO7.ne_own hoN (by decide))).set (blk_keep hbzN hgrN hneN) (by decide) 1 (.slice A9N (N.length + 1) c9N)
        clear qN fN e3N e4N LBN hbzN hneN hrdN honeN h63N hbyN hbsN hoN hownN hgrN hlocN HBN HrN7 HrO7 hiN y0N y1N y2N
        generalize wN.setCell ⟨W0.heap.size,1,none⟩ (.slice A9N (N.length + 1) c9N) = w7 at *
        obtain ⟨iO,hiO,y0O,y1O,y2O⟩:=info_parts slS_info
        have qO:=HB7.box.cell 2
        have fO:=HB7.box.frozen 2
        have LBO:=(Below.refl w7.heap.size w7).alloc (Nat.le_refl _) (.cells #[.slice (some ⟨gO,0,none⟩) 256 256] 25)
        have HBO:=HB7.call LBO
        have hoO:=HBO.oO
        have hbzO:=HBO.box
        have hneO:=own_blk hoO hbzO (by decide)
        have hrdO:=reads_allocK w7 [.slice (some ⟨gO,0,none⟩) 256 256] 25 1 1 rfl
        have h63O:O.length + 1≤maxLen:=by have:=HLn.out; unfold maxLen; omega
        have hbyO:(O.length + 1) * 24≤140737488355328:=by have:=HLn.out; omega
        have honeO:∀ u∈[Value.slice (some ⟨gO,0,none⟩) 256 256],u.oneCell' = true:=fun u hu => by rw [List.mem_singleton] at hu; subst hu; rfl
        have hbsO:=HBO.bel.size
        have HrO9:=HrO8.call LBO
        clear HB7 HrO8
        go_upto_region 28 with (at_builtin; refine wpList_append_any _ rfl _ _ 23 rfl W0.heap.size 25 iO _ 1 24 Tryz.underlying23 hiO y0O y1O y2O rfl (by decide) _ _ _ rfl hoO _ (some ⟨w7.heap.size,0,none⟩) 1 1 [.slice (some ⟨gO,0,none⟩) 256 256] rfl hrdO honeO h63O hbyO hbsO ?_; intro vO' wO hownO hgrO hlocO; obtain ⟨A9O,c9O,rfl,_,_,_⟩:=own_form hownO; have e3O:=(blk_keep hbzO hgrO hneO).cell 2; have e4O:=(blk_keep hbzO hgrO hneO).frozen 2)
        have HB8:=HBO.putO hgrO hownO HrO9 haO
        clear qO fO e3O e4O LBO hbzO hneO hrdO honeO h63O hbyO hbsO hoO hownO hgrO hlocO HBO HrO9 haO hiO y0O y1O y2O
        generalize wO.setCell ⟨W0.heap.size,2,none⟩ (.slice A9O (O.length + 1) c9O) = w8 at *
        obtain ⟨iE,hiE,y0E,y1E,y2E⟩:=info_parts bool_infoS
        have HA8:=HX.out w8 HB8.bel
        have b3:=HA8.box.cell 3
        have e3:=(HA8.bel.cell (p:=⟨g3,o3 + s,none⟩) (by show g3 < _; omega)).trans x3
        have qE:=HB8.box.cell 3
        have z1:=cell_regrown b3
        have z2:=cell_regrown e3
        have z3:=cell_regrown qE
        have LBE:Below w8.heap.size w8 (w8.drew.alloc (.cells #[.bool false] 4)):=((Below.refl w8.heap.size w8).drew).alloc (Nat.le_refl _) _
        have HBE:=HB8.call LBE
        have hoE:=HBE.oE
        have hbzE:=HBE.box
        have fE:=hbzE.frozen 3
        have hneE:=own_blk hoE hbzE (by decide)
        have hrdE:=reads_allocK w8.drew [.bool false] 4 1 1 rfl
        have h63E:E.length + 1≤maxLen:=by have:=HLn.out; unfold maxLen; omega
        have hbyE:(E.length + 1) * 1≤140737488355328:=by have:=HLn.out; omega
        have honeE:∀ u∈[Value.bool false],u.oneCell' = true:=fun u hu => by rw [List.mem_singleton] at hu; subst hu; rfl
        have hbsE:=HBE.bel.size
        clear HB8 HA8
        go_wp2
        refine wp_region_hold_below 8 [0,1,2,3,4,5,6] [7] (by kernel_rfl) (by kernel_rfl) rfl (by kernel_rfl) ?_
        simp only [pickOps,List.getElem?_cons_zero,List.getElem?_cons_succ,List.drop_succ_cons,List.drop_zero]
        repeat (go_big_quiet_step (fail))
        refine wpQuiet_nil ?_
        refine wpForce_step rfl (fun KK hKK => ?_)
        go_simp
        refine hKK _ _ (regrown_of_below LBE) ?_
        clear hKK KK
        refine wpForce_nil ?_
        clear z1 z2 z3 b3 e3 qE
        go_wp2_with (at_builtin; refine wpList_append_any _ rfl _ _ 24 rfl W0.heap.size 4 iE _ 1 1 Tryz.underlying24 hiE y0E y1E y2E rfl (by decide) _ _ _ rfl hoE _ (some ⟨w8.heap.size,0,none⟩) 1 1 [.bool false] rfl hrdE honeE h63E hbyE hbsE ?_; intro vE' wE hownE hgrE hlocE; obtain ⟨A9E,c9E,rfl,_,_,_⟩:=own_form hownE; have e3E:=(blk_keep hbzE hgrE hneE).cell 3; have e4E:=(blk_keep hbzE hgrE hneE).frozen 3)
        refine NoPanic.normal ?_
        go_upto_region 29 with (fail)
        have HB9:=HBE.putE hgrE hownE
        clear fE e3E e4E LBE hbzE hneE hrdE honeE h63E hbyE hbsE hoE hownE hgrE hlocE HBE hiE y0E y1E y2E
        generalize wE.setCell ⟨W0.heap.size,3,none⟩ (.slice A9E (E.length + 1) c9E) = w9 at *
        obtain ⟨iT,hiT,y0T,y1T,y2T⟩:=info_parts str_infoS
        have qT:=HB9.box.cell 4
        have fT:=HB9.box.frozen 4
        have LBT:=(Below.refl w9.heap.size w9).alloc (Nat.le_refl _) (.cells #[.string (ByteArray.mk #[])] 9)
        have HBT:=HB9.call LBT
        have hoT:=HBT.oT
        have hbzT:=HBT.box
        have hneT:=own_blk hoT hbzT (by decide)
        have hrdT:=reads_allocK w9 [.string (ByteArray.mk #[])] 9 1 1 rfl
        have h63T:T.length + 1≤maxLen:=by have:=HLn.out; unfold maxLen; omega
        have hbyT:(T.length + 1) * 16≤140737488355328:=by have:=HLn.out; omega
        have honeT:∀ u∈[Value.string (ByteArray.mk #[])],u.oneCell' = true:=fun u hu => by rw [List.mem_singleton] at hu; subst hu; rfl
        have hbsT:=HBT.bel.size
        clear HB9
        go_wp2_with (at_builtin; refine wpList_append_any _ rfl _ _ 25 rfl W0.heap.size 9 iT _ 1 16 Tryz.underlying25 hiT y0T y1T y2T rfl (by decide) _ _ _ rfl hoT _ (some ⟨w9.heap.size,0,none⟩) 1 1 [.string (ByteArray.mk #[])] rfl hrdT honeT h63T hbyT hbsT ?_; intro vT' wT hownT hgrT hlocT; obtain ⟨A9T,c9T,rfl,_,_,_⟩:=own_form hownT; have e3T:=(blk_keep hbzT hgrT hneT).cell 4; have e4T:=(blk_keep hbzT hgrT hneT).frozen 4)
        have HB10:=Lib.hid (HBT.putT hgrT hownT hlocT)
        clear qT fT e3T e4T LBT hbzT hneT hrdT honeT h63T hbyT hbsT hoT hownT hgrT hlocT HBT hiT y0T y1T y2T
        go_roundw
        case rel => exact ⟨s + 1,_,_,_,_,_,_,_,_,_,_,by omega,by go_num,HB10.out,HRp.out,HSp.out⟩
        case measure => simp [intOf]; omega
       ·have hcut:=HCut.out s hlt HFe.out hen
        have HRp:=Lib.hid (show RowsTo q k f n (s + 1) (N ++ [rowN q (plP f n) s]) (O ++ [rowO q k (plP f n) s]) (E ++ [true]) (T ++ [(q.tl s).extract (k.l s).size (q.tl s).size]) by
         have:=hRh.out.put HFe.out
         rw [hen,show tailT q k s = (q.tl s).extract (k.l s).size (q.tl s).size by unfold tailT; rw [if_pos hen]] at this
         exact this)
        rw [hen] at e3 x3
        have b4:=HA5.box.cell 4
        have e4:=(HA5.bel.cell (p:=⟨g4,o4 + s,none⟩) (by show g4 < _; omega)).trans x4
        have e5:w5.cell? ⟨gL,s,none⟩ = some (.string (k.l s)):=(HA5.l.cell s).trans (by unfold kL; rw [List.getElem?_toArray,rowV_at _ hlt])
        have htm:(q.tl s).size≤maxLen:=by
         have:=(ckB_nx HCk.out.1 (s:=s) (b:=0) (by rw [HCk.out.2]; exact hlt) (by decide)).2.2.2.2.1
         unfold maxLen; omega
        have z1:=cell_regrown b4
        have z2:=cell_regrown e4
        have z3:=cell_regrown e5
        have hci:(((k.l s).size:Nat):Int)≤(((q.tl s).size:Nat):Int):=by omega
        clear hen HA5
        generalize k.l s = ls at *
        generalize q.tl s = tl at *
        go_wp2
        refine wp_region_quiet_below (by kernel_rfl) (by kernel_rfl) ?_
        repeat (go_big_quiet_step (fail))
        refine wpQuiet_nil ?_
        intro w6 hw6
        have hb6:=below_of hw6
        have HB6:=HB5.call hb6
        have HrN:=HrN0.call hb6
        have HrO:=HrO0.call hb6
        clear HB5 HrN0 HrO0 hw6 hb6 z1 z2 z3 b3 b4 e3 e4 e5
        go_upto_region 26 with (fail)
        generalize tl.extract ls.size tl.size = xx at *
        obtain ⟨iN,hiN,y0N,y1N,y2N⟩:=info_parts slI_info
        have qN:=HB6.box.cell 1
        have fN:=HB6.box.frozen 1
        have LBN:=(Below.refl w6.heap.size w6).alloc (Nat.le_refl _) (.cells #[.slice (some ⟨gN,0,none⟩) 256 256] 55)
        have HBN:=HB6.call LBN
        have hoN:=HBN.oN
        have hbzN:=HBN.box
        have hneN:=own_blk hoN hbzN (by decide)
        have hrdN:=reads_allocK w6 [.slice (some ⟨gN,0,none⟩) 256 256] 55 1 1 rfl
        have h63N:N.length + 1≤maxLen:=by have:=HLn.out; unfold maxLen; omega
        have hbyN:(N.length + 1) * 24≤140737488355328:=by have:=HLn.out; omega
        have honeN:∀ u∈[Value.slice (some ⟨gN,0,none⟩) 256 256],u.oneCell' = true:=fun u hu => by rw [List.mem_singleton] at hu; subst hu; rfl
        have hbsN:=HBN.bel.size
        have HrN7:=HrN.call LBN
        have HrO7:=HrO.call LBN
        clear HB6 HrN HrO
        go_upto_region 27 with (at_builtin; refine wpList_append_any _ rfl _ _ 22 rfl W0.heap.size 55 iN _ 1 24 Tryz.underlying22 hiN y0N y1N y2N rfl (by decide) _ _ _ rfl hoN _ (some ⟨w6.heap.size,0,none⟩) 1 1 [.slice (some ⟨gN,0,none⟩) 256 256] rfl hrdN honeN h63N hbyN hbsN ?_; intro vN' wN hownN hgrN hlocN; obtain ⟨A9N,c9N,rfl,_,_,_⟩:=own_form hownN; have e3N:=(blk_keep hbzN hgrN hneN).cell 1; have e4N:=(blk_keep hbzN hgrN hneN).frozen 1)
        have HB7:=HBN.putN hgrN hownN HrN7
        have HrO8:=(HrO7.kept hgrN (HrO7.ne_own hoN (by decide))).set (blk_keep hbzN hgrN hneN) (by decide) 1 (.slice A9N (N.length + 1) c9N)
        clear qN fN e3N e4N LBN hbzN hneN hrdN honeN h63N hbyN hbsN hoN hownN hgrN hlocN HBN HrN7 HrO7 hiN y0N y1N y2N
        generalize wN.setCell ⟨W0.heap.size,1,none⟩ (.slice A9N (N.length + 1) c9N) = w7 at *
        obtain ⟨iO,hiO,y0O,y1O,y2O⟩:=info_parts slS_info
        have qO:=HB7.box.cell 2
        have fO:=HB7.box.frozen 2
        have LBO:=(Below.refl w7.heap.size w7).alloc (Nat.le_refl _) (.cells #[.slice (some ⟨gO,0,none⟩) 256 256] 25)
        have HBO:=HB7.call LBO
        have hoO:=HBO.oO
        have hbzO:=HBO.box
        have hneO:=own_blk hoO hbzO (by decide)
        have hrdO:=reads_allocK w7 [.slice (some ⟨gO,0,none⟩) 256 256] 25 1 1 rfl
        have h63O:O.length + 1≤maxLen:=by have:=HLn.out; unfold maxLen; omega
        have hbyO:(O.length + 1) * 24≤140737488355328:=by have:=HLn.out; omega
        have honeO:∀ u∈[Value.slice (some ⟨gO,0,none⟩) 256 256],u.oneCell' = true:=fun u hu => by rw [List.mem_singleton] at hu; subst hu; rfl
        have hbsO:=HBO.bel.size
        have HrO9:=HrO8.call LBO
        clear HB7 HrO8
        go_upto_region 28 with (at_builtin; refine wpList_append_any _ rfl _ _ 23 rfl W0.heap.size 25 iO _ 1 24 Tryz.underlying23 hiO y0O y1O y2O rfl (by decide) _ _ _ rfl hoO _ (some ⟨w7.heap.size,0,none⟩) 1 1 [.slice (some ⟨gO,0,none⟩) 256 256] rfl hrdO honeO h63O hbyO hbsO ?_; intro vO' wO hownO hgrO hlocO; obtain ⟨A9O,c9O,rfl,_,_,_⟩:=own_form hownO; have e3O:=(blk_keep hbzO hgrO hneO).cell 2; have e4O:=(blk_keep hbzO hgrO hneO).frozen 2)
        have HB8:=HBO.putO hgrO hownO HrO9 haO
        clear qO fO e3O e4O LBO hbzO hneO hrdO honeO h63O hbyO hbsO hoO hownO hgrO hlocO HBO HrO9 haO hiO y0O y1O y2O
        generalize wO.setCell ⟨W0.heap.size,2,none⟩ (.slice A9O (O.length + 1) c9O) = w8 at *
        obtain ⟨iE,hiE,y0E,y1E,y2E⟩:=info_parts bool_infoS
        have HA8:=HX.out w8 HB8.bel
        have b3:=HA8.box.cell 3
        have e3:=(HA8.bel.cell (p:=⟨g3,o3 + s,none⟩) (by show g3 < _; omega)).trans x3
        have qE:=HB8.box.cell 3
        have z1:=cell_regrown b3
        have z2:=cell_regrown e3
        have z3:=cell_regrown qE
        have LBE:Below w8.heap.size w8 (w8.drew.alloc (.cells #[.bool true] 4)):=((Below.refl w8.heap.size w8).drew).alloc (Nat.le_refl _) _
        have HBE:=HB8.call LBE
        have hoE:=HBE.oE
        have hbzE:=HBE.box
        have fE:=hbzE.frozen 3
        have hneE:=own_blk hoE hbzE (by decide)
        have hrdE:=reads_allocK w8.drew [.bool true] 4 1 1 rfl
        have h63E:E.length + 1≤maxLen:=by have:=HLn.out; unfold maxLen; omega
        have hbyE:(E.length + 1) * 1≤140737488355328:=by have:=HLn.out; omega
        have honeE:∀ u∈[Value.bool true],u.oneCell' = true:=fun u hu => by rw [List.mem_singleton] at hu; subst hu; rfl
        have hbsE:=HBE.bel.size
        clear HB8 HA8
        go_wp2
        refine wp_region_hold_below 8 [0,1,2,3,4,5,6] [7] (by kernel_rfl) (by kernel_rfl) rfl (by kernel_rfl) ?_
        simp only [pickOps,List.getElem?_cons_zero,List.getElem?_cons_succ,List.drop_succ_cons,List.drop_zero]
        repeat (go_big_quiet_step (fail))
        refine wpQuiet_nil ?_
        refine wpForce_step rfl (fun KK hKK => ?_)
        go_simp
        refine hKK _ _ (regrown_of_below LBE) ?_
        clear hKK KK
        refine wpForce_nil ?_
        clear z1 z2 z3 b3 e3 qE
        go_wp2_with (at_builtin; refine wpList_append_any _ rfl _ _ 24 rfl W0.heap.size 4 iE _ 1 1 Tryz.underlying24 hiE y0E y1E y2E rfl (by decide) _ _ _ rfl hoE _ (some ⟨w8.heap.size,0,none⟩) 1 1 [.bool true] rfl hrdE honeE h63E hbyE hbsE ?_; intro vE' wE hownE hgrE hlocE; obtain ⟨A9E,c9E,rfl,_,_,_⟩:=own_form hownE; have e3E:=(blk_keep hbzE hgrE hneE).cell 3; have e4E:=(blk_keep hbzE hgrE hneE).frozen 3)
        refine NoPanic.normal ?_
        go_upto_region 29 with (fail)
        have HB9:=HBE.putE hgrE hownE
        clear fE e3E e4E LBE hbzE hneE hrdE honeE h63E hbyE hbsE hoE hownE hgrE hlocE HBE hiE y0E y1E y2E
        generalize wE.setCell ⟨W0.heap.size,3,none⟩ (.slice A9E (E.length + 1) c9E) = w9 at *
        obtain ⟨iT,hiT,y0T,y1T,y2T⟩:=info_parts str_infoS
        have qT:=HB9.box.cell 4
        have fT:=HB9.box.frozen 4
        have LBT:=(Below.refl w9.heap.size w9).alloc (Nat.le_refl _) (.cells #[.string xx] 9)
        have HBT:=HB9.call LBT
        have hoT:=HBT.oT
        have hbzT:=HBT.box
        have hneT:=own_blk hoT hbzT (by decide)
        have hrdT:=reads_allocK w9 [.string xx] 9 1 1 rfl
        have h63T:T.length + 1≤maxLen:=by have:=HLn.out; unfold maxLen; omega
        have hbyT:(T.length + 1) * 16≤140737488355328:=by have:=HLn.out; omega
        have honeT:∀ u∈[Value.string xx],u.oneCell' = true:=fun u hu => by rw [List.mem_singleton] at hu; subst hu; rfl
        have hbsT:=HBT.bel.size
        clear HB9
        go_wp2_with (at_builtin; refine wpList_append_any _ rfl _ _ 25 rfl W0.heap.size 9 iT _ 1 16 Tryz.underlying25 hiT y0T y1T y2T rfl (by decide) _ _ _ rfl hoT _ (some ⟨w9.heap.size,0,none⟩) 1 1 [.string xx] rfl hrdT honeT h63T hbyT hbsT ?_; intro vT' wT hownT hgrT hlocT; obtain ⟨A9T,c9T,rfl,_,_,_⟩:=own_form hownT; have e3T:=(blk_keep hbzT hgrT hneT).cell 4; have e4T:=(blk_keep hbzT hgrT hneT).frozen 4)
        have HB10:=Lib.hid (HBT.putT hgrT hownT hlocT)
        clear qT fT e3T e4T LBT hbzT hneT hrdT honeT h63T hbyT hbsT hoT hownT hgrT hlocT HBT hiT y0T y1T y2T
        go_roundw
        case rel => exact ⟨s + 1,_,_,_,_,_,_,_,_,_,_,by omega,by go_num,HB10.out,HRp.out,HSp.out⟩
        case measure => simp [intOf]; omega
    ·obtain rfl:n = s:=by omega
     have hr2:=HAr.res
     have hsm:=push_small HCk.out.1 HCk.out.2 HKp.out (by rw [Hfr.out,HL0.out]; omega) (by rw [HfK.out]; exact hS)
     rw [HfK.out,hR.seq,Hfr.out,HL0.out] at hsm
     have hq:=HB.seqNew (m:=1024) (Nat.le_refl _) hsm
     have hpu:=pushes_of HCk.out.1 HCk.out.2 HFr.out HKp.out
     rw [HfK.out,hR.seq,Hfr.out,HL0.out] at hpu
     have hcall:=seqCheck_any ⟨fr ++ l0,N,O,E,T⟩ _ wr.heap.size wr hq.at_ (Nat.le_refl _)
     have hlg:ckB ⟨fr ++ l0,N,O,E,T⟩ = false→LongQ q k:=fun hcr => .inr ⟨HKs.out,by
      apply Decidable.byContradiction
      intro h9
      have:=ck_push HCk.out.1 HCk.out.2 HKp.out (by rw [ByteArray.size_append]; omega) (by rw [HfK.out]; exact hS)
      rw [HfK.out,hR.seq,Hfr.out,HL0.out,hcr] at this
      cases this⟩
     have q0:=HB.box.cell 0
     have q1:=HB.box.cell 1
     have q2:=HB.box.cell 2
     have q3:=HB.box.cell 3
     have q4:=HB.box.cell 4
     have HFin2:=Lib.hid (fun (W:World) (hb:Below w.heap.size w W) (v:Value) (hq:SeqNew w.heap.size W ⟨fr ++ l0,N,O,E,T⟩ v) (hcr:ckB ⟨fr ++ l0,N,O,E,T⟩ = true) => hfin2.out W hb k HFr.out v _ _ hq hcr hpu)
     have hbA:=HAr.bel
     have HQ:=Lib.hid hq
     have HBx:=Lib.hid HB.box
     clear hsm hq hpu HAr HB hS hR hfx
     rcases hcr:ckB ⟨fr ++ l0,N,O,E,T⟩ with _ | _
     ·rw [hcr] at hcall
      have HL9:=Lib.hid (hlg hcr)
      have HC:=Lib.hid hcall
      have hok9:okE false = 1:=rfl
      clear hlg hcr hcall HFin2 HQ HBx
      generalize fr ++ l0 = fx at *
      generalize N.length = n1 at *
      generalize O.length = n2 at *
      generalize E.length = n3 at *
      generalize T.length = n4 at *
      go_wp2_with fail
      refine HC.out.mono ?_
      clear q0 q1 q2 q3 q4
      rintro e w9 ⟨rfl,hb9⟩
      have Jr9:=hr2.below hb9 hr2.lt
      have hb99:=hbA.trans (hb9.mono hbA.size)
      have r0:=Jr9.cell 0
      have r1:=Jr9.cell 1
      have r2:=Jr9.cell 2
      have r3:=Jr9.cell 3
      have r4:=Jr9.cell 4
      have g0:=Jr9.frozen 0
      have g1:=Jr9.frozen 1
      have g2:=Jr9.frozen 2
      have g3:=Jr9.frozen 3
      have g4:=Jr9.frozen 4
      clear hr2
      go_wp2_with fail
      exact push_ret rfl rfl (blk_set5 Jr9 _ _ _ _ _) (hfin.out _ (below_set5 hb99 (by omega) _ _ _ _ _) k HFr.out 2 (.inr ⟨rfl,HL9.out⟩))
     ·rw [hcr] at hcall
      have HC:=Lib.hid hcall
      have HFin3:=Lib.hid (fun (W:World) (hb:Below w.heap.size w W) (v:Value) (hq:SeqNew w.heap.size W ⟨fr ++ l0,N,O,E,T⟩ v) => HFin2.out W hb v hq hcr)
      clear hlg hcr hcall HFin2
      generalize hfx:fr ++ l0 = fx at *
      generalize N.length = n1 at *
      generalize O.length = n2 at *
      generalize E.length = n3 at *
      generalize T.length = n4 at *
      clear hfx
      go_wp2_with fail
      refine HC.out.mono ?_
      clear q0 q1 q2 q3 q4
      rintro e w9 ⟨rfl,hb9⟩
      have Jr9:=hr2.below hb9 hr2.lt
      have hb99:=hbA.trans (hb9.mono hbA.size)
      have HB9:=HBx.out.below hb9 HBx.out.lt
      have HQ9:=Lib.hid (HQ.out.below hb9)
      have q0:=HB9.cell 0
      have q1:=HB9.cell 1
      have q2:=HB9.cell 2
      have q3:=HB9.cell 3
      have q4:=HB9.cell 4
      have r0:=Jr9.cell 0
      have r1:=Jr9.cell 1
      have r2:=Jr9.cell 2
      have r3:=Jr9.cell 3
      have r4:=Jr9.cell 4
      have g0:=Jr9.frozen 0
      have g1:=Jr9.frozen 1
      have g2:=Jr9.frozen 2
      have g3:=Jr9.frozen 3
      have g4:=Jr9.frozen 4
      clear hr2
      go_wp2_with fail
      exact push_ret rfl rfl (blk_set5 Jr9 _ _ _ _ _) (HFin3.out _ (below_set5 hb99 (by omega) _ _ _ _ _) _ ((((((HQ9.out.setCell (p:=⟨w.heap.size + 1,0,none⟩) hr1 _).setCell (p:=⟨w.heap.size + 1,1,none⟩) hr1 _).setCell (p:=⟨w.heap.size + 1,2,none⟩) hr1 _).setCell (p:=⟨w.heap.size + 1,3,none⟩) hr1 _).setCell (p:=⟨w.heap.size + 1,4,none⟩) hr1 _).mono (by omega)))
end Go.Proofs.YtcondkihpmmnnaaGreatDoor
