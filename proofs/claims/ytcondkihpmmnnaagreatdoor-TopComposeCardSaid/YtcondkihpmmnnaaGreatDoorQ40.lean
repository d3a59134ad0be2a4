/- Lemmas, part 40 of 50. No condition. -/
import Derived.Test.YtcondkihpmmnnaaGreatDoorQ36
import Derived.Test.YtcondkihpmmnnaaGreatDoorQ38
import Derived.Test.YtcondkihpmmnnaaGreatDoorQ33
import Derived.Test.YtcondkihpmmnnaaGreatDoorQ39
namespace Go.Proofs.YtcondkihpmmnnaaGreatDoor
open Go.RowKit Go.Sort
theorem turned_skip {q:SeqM} {k:Frt} {pl:Nat→Int} {s b:Nat} {fn:Nat→Int} {fo:Nat→ByteArray} (h1:∀ j,j < b→fn j = nextT q pl s j∧fo j = outsT q k pl s j) (h2:∀ j,b≤j→fo j = ByteArray.empty)
    (h3:∀ j,j < b→kept q pl s j→(q.os s j).size + (k.l (q.nx s j).toNat).size≤4096 + (k.l s).size) (hk:¬ kept q pl s b) :
    (∀ j,j < b + 1→(if j = b then -1 else fn j) = nextT q pl s j∧fo j = outsT q k pl s j)∧(∀ j,b + 1≤j→fo j = ByteArray.empty)∧∀ j,j < b + 1→kept q pl s j→(q.os s j).size + (k.l (q.nx s j).toNat).size≤4096 + (k.l s).size:=by
 refine ⟨fun j hj => ?_,fun j hj => h2 j (by omega),fun j hj hkj => ?_⟩
 ·by_cases e:j = b
  ·subst e
   unfold nextT outsT
   rw [if_pos rfl,if_neg hk,if_neg hk]
   exact ⟨rfl,h2 j (Nat.le_refl _)⟩
  ·rw [if_neg e]; exact h1 j (by omega)
 ·by_cases e:j = b
  ·subst e; exact absurd hkj hk
  ·exact h3 j (by omega) hkj
theorem turned_put {q:SeqM} {k:Frt} {pl:Nat→Int} {s b z:Nat} {fn:Nat→Int} {fo:Nat→ByteArray} {x:ByteArray} (h1:∀ j,j < b→fn j = nextT q pl s j∧fo j = outsT q k pl s j) (h2:∀ j,b≤j→fo j = ByteArray.empty)
    (h3:∀ j,j < b→kept q pl s j→(q.os s j).size + (k.l (q.nx s j).toNat).size≤4096 + (k.l s).size) (hk:kept q pl s b) (hz:q.nx s b = (z:Int)) (hx:x = (q.os s b ++ k.l z).extract (k.l s).size (q.os s b ++ k.l z).size) (hsz:(q.os s b).size + (k.l z).size≤4096 + (k.l s).size) :
    (∀ j,j < b + 1→(if j = b then pl z else if j = b then -1 else fn j) = nextT q pl s j∧(if j = b then x else fo j) = outsT q k pl s j)∧(∀ j,b + 1≤j→(if j = b then x else fo j) = ByteArray.empty)∧∀ j,j < b + 1→kept q pl s j→(q.os s j).size + (k.l (q.nx s j).toNat).size≤4096 + (k.l s).size:=by
 refine ⟨fun j hj => ?_,fun j hj => ?_,fun j hj hkj => ?_⟩
 ·by_cases e:j = b
  ·subst e
   unfold nextT outsT
   rw [if_pos rfl,if_pos rfl,if_pos hk,if_pos hk,hz,Int.toNat_natCast]
   exact ⟨rfl,hx⟩
  ·rw [if_neg e,if_neg e,if_neg e]; exact h1 j (by omega)
 ·rw [if_neg (by omega)]; exact h2 j (by omega)
 ·by_cases e:j = b
  ·subst e; rw [hz,Int.toNat_natCast]; exact hsz
  ·exact h3 j (by omega) hkj
set_option maxRecDepth 100000 in
set_option maxHeartbeats 8000000 in
theorem turned_any (q:SeqM) (v:Value) (B s n m:Nat) (k:Frt) (pl:Nat→Int) (Al Ap:Option Addr) (cl cp:Nat) (w:World) (HS:SeqAt w B q v) (hB:B≤w.heap.size) (hck:ckB q = true) (hn:q.next.length = n) (hs:s < n)
    (HL:Reads w B 1 Al n (kL k n)) (HM:Reads w B 1 Ap n (rowV (fun z => .int .i64 (pl z)) n)) (hl:∀ z,(k.l z).size≤m) (hm:m≤100000000) (hpl:∀ z,z < n→-1≤pl z∧pl z≤2000)
    (hpre:∀ b,b < 256→kept q pl s b→(k.l s).size≤(q.os s b).size + (k.l (q.nx s b).toNat).size) :
    Calls Tryz.prog 71 #[v,.int .i64 (s:Int),.slice Al n cl,.slice Ap n cp] w (TurnPost q k pl s w):=by
 obtain ⟨A1,c1,A2,c2,A3,c3,A4,c4,rfl,hf,l1,l2,l3,l4,m1,m2,m3,m4,R1,hz,R2,hsz,R3,R4,htl⟩:=HS
 obtain ⟨p1,p2,p3,p4,p5,p6⟩:=ck_parts hck
 have HP6:=Lib.hid p6
 have HCk:=Lib.hid (fun b (hb:b < 256) => ckB_nx hck (by rw [hn]; exact hs) hb)
 have HPre:=Lib.hid hpre
 have HPl:=Lib.hid hpl
 rw [p2] at l2 R2 ⊢
 rw [p3,p4]
 rw [hn] at p1 l1 l2 R1 R2 ⊢
 have K:=Blk.new w 27 #[.string q.front,.slice A1 n c1,.slice A2 n c2,.slice A3 n c3,.slice A4 n c4]
 have LB:=(Below.refl w.heap.size w).alloc (Nat.le_refl _) (.cells #[.string q.front,.slice A1 n c1,.slice A2 n c2,.slice A3 n c3,.slice A4 n c4] 27)
 have hi1:(0:Int)≤(s:Int):=by omega
 have hi2:(s:Int) < (n:Int):=by omega
 have e1:(q.next.map fun r => r.map (Value.int .i64)).getD s [] = (q.next.getD s []).map (Value.int .i64):=by
  rw [List.getD_eq_getElem?_getD,List.getD_eq_getElem?_getD,List.getElem?_map]
  cases q.next[s]? <;> rfl
 have e2:(q.outs.map fun r => r.map Value.string).getD s [] = (q.outs.getD s []).map Value.string:=by
  rw [List.getD_eq_getElem?_getD,List.getD_eq_getElem?_getD,List.getElem?_map]
  cases q.outs[s]? <;> rfl
 obtain ⟨g1,o1,A1',d1,rfl,hg1,x1,Q1,y1,z1⟩:=R1.at_ s hs
 obtain ⟨g2,o2,A2',d2,rfl,hg2,x2,Q2,y2,z2⟩:=R2.at_ s hs
 rw [e1] at x1 Q1 y1
 rw [e2] at x2 Q2 y2
 simp only [List.length_map] at x1 x2 Q1 Q2 y1 y2
 have hlen:=HP6.out s (by rw [hn]; exact hs)
 have Hn:=Lib.hid hn
 rw [hlen.1] at x1 Q1 y1
 rw [hlen.2] at x2 Q2 y2
 obtain ⟨gl,ol,rfl,hgl,x5⟩:=rowV_cell HL s hs
 generalize q.front = fr at *
 have HX:=Lib.hid (fun (W:World) (hb:Below w.heap.size w W) => And.intro ((hb.cell (p:=⟨g1,o1 + s,none⟩) (by show g1 < _; omega)).trans x1) (And.intro ((hb.cell (p:=⟨g2,o2 + s,none⟩) (by show g2 < _; omega)).trans x2) (And.intro (Q1.below (hb.mono hB)) (And.intro (Q2.below (hb.mono hB)) (And.intro (HL.below (hb.mono hB)) (And.intro (HM.below (hb.mono hB)) ((hb.cell (p:=⟨gl,ol + s,none⟩) (by show gl < _; omega)).trans x5)))))))
 generalize hW0:w.alloc (.cells #[.string fr,.slice (some ⟨g1,o1,none⟩) n c1,.slice (some ⟨g2,o2,none⟩) n c2,.slice A3 n c3,.slice A4 n c4] 27) = W0 at *
 have hz0:W0.heap.size = w.heap.size + 1:=by rw [← hW0]; simp
 have hm0:=Lib.hid hm
 have hls:=hl s
 generalize hlse:k.l s = ls at *
 have HLse:=Lib.hid hlse
 obtain ⟨iN,hiN,hN0,hN1,hN2⟩:=info_parts int_infoS
 obtain ⟨iO,hiO,hO0,hO1,hO2⟩:=info_parts str_infoS
 clear R1 R2 R3 R4 hz hsz htl x1 x2 x5 Q1 Q2 HL HM e1 e2 hlen p6 hck hn p2 p3 p4 hpre hpl hlse
 go_enter Tryz.func71,Tryz.ntmps71
 go_wp2
 refine pair_below (d0:=15) (d1:=16) (e0:=11) (by kernel_rfl) (by kernel_rfl) (by decide) (by decide) (by decide) ⟨by show 15 < 94; decide,by show 16 < 94; decide⟩
  (maker_sliceC rfl rfl 256 55 rfl 3 iN _ 1 Tryz.underlying55 hiN hN0 hN1 (by rw [hN2]; decide) (by unfold maxLen; decide))
  (maker_sliceC rfl rfl 256 25 rfl 9 iO _ 1 Tryz.underlying25 hiO hO0 hO1 (by rw [hO2]; decide) (by unfold maxLen; decide)) rfl rfl rfl ?_
 rintro vi vj w2 hb2' ⟨gN,rfl,gN1,hoN⟩ ⟨gO,rfl,gO1,hoO⟩
 rw [show (Value.int .i64 0).cells = #[Value.int .i64 0] from rfl,Nat.mul_one,toList_madeCells_one,rowV_const] at hoN
 rw [show (Value.string ByteArray.empty).cells = #[Value.string ByteArray.empty] from rfl,Nat.mul_one,toList_madeCells_one,rowV_const] at hoO
 have HT0:TrnW W0 w2 gN gO (fun _ => 0) (fun _ => ByteArray.empty):=⟨blk_of_made hoN,blk_of_made hoO,gN1,gO1,hb2'⟩
 have HT:=Lib.hid HT0
 have k1:=(K.below hb2' (by omega)).cell 1
 obtain ⟨j1,_⟩:=HX.out _ (LB.trans (hb2'.mono (by omega)))
 clear hoN hoO gN1 gO1 hb2' HT0 hiN hN0 hN1 hN2 hiO hO0 hO1 hO2
 simp only [Act.put]
 go_wp2
 refine NoPanic.normal ?_
 go_wp2
 clear k1 j1
 go_loopw [23] (fun i wr => ∃ (b:Nat) (fn:Nat→Int) (fo:Nat→ByteArray),b≤256∧i = .int .i64 (b:Int)∧TrnW W0 wr gN gO fn fo∧(∀ j,j < b→fn j = nextT q pl s j∧fo j = outsT q k pl s j)∧(∀ j,b≤j→fo j = ByteArray.empty)∧∀ j,j < b→kept q pl s j→(q.os s j).size + (k.l (q.nx s j).toNat).size≤4096 + (k.l s).size) (fun i _ => 256 - (intOf i).toNat)
 case atStart => exact ⟨0,_,_,Nat.zero_le _,rfl,HT.out,fun j h => absurd h (Nat.not_lt_zero _),fun _ _ => rfl,fun j h => absurd h (Nat.not_lt_zero _)⟩
 case round =>
  clear HT
  obtain ⟨b,fn,fo,hb,rfl,HW,h1,h2,h3⟩:=hrel
  have H1:=Lib.hid h1
  have H2:=Lib.hid h2
  have H3:=Lib.hid h3
  clear h1 h2 h3
  have hwr:Below w.heap.size w wr:=LB.trans (HW.bel.mono (by omega))
  have hbz:=HW.bel.size
  have HWh:=Lib.hid HW
  by_cases hlt:b < 256
  ·have hb1:(0:Int)≤(b:Int):=by omega
   have hb2:(b:Int) < 256:=by omega
   obtain ⟨z0,z1',z2',_⟩:=HCk.out b hlt
   rw [Hn.out] at z1'
   obtain ⟨_,_,Q1',_⟩:=HX.out wr hwr
   obtain ⟨h1,q1,rfl,hh1,r1⟩:=cell_at (d:=0) Q1' b hlt
   have hnx:(q.next.getD s []).getD b 0 = q.nx s b:=rfl
   rw [hnx] at r1
   have u1:=(HW.n.cell b).trans (intsV_at _ hlt)
   have u2:=HW.n.frozen b
   have HWn:=HW.setN b hlt (-1)
   by_cases hneg:q.nx s b < 0
   ·have hnk:¬ kept q pl s b:=fun e => by have:=e.1; omega
    have HR:=Lib.hid (show (∀ j,j < b + 1→(if j = b then -1 else fn j) = nextT q pl s j∧fo j = outsT q k pl s j)∧(∀ j,b + 1≤j→fo j = ByteArray.empty)∧∀ j,j < b + 1→kept q pl s j→(q.os s j).size + (k.l (q.nx s j).toNat).size≤4096 + (k.l s).size from
     turned_skip H1.out H2.out H3.out hnk)
    have HWn':=Lib.hid HWn
    generalize q.nx s b = z at *
    clear HW HWn Q1'
    go_wp2
    go_roundw
    case rel => exact ⟨b + 1,_,_,by omega,by go_num,HWn'.out,HR.out.1,HR.out.2.1,HR.out.2.2⟩
    case measure => simp [intOf]; omega
   ·obtain ⟨z,hz⟩:∃ z:Nat,q.nx s b = (z:Int):=⟨_,(Int.toNat_of_nonneg (by omega)).symm⟩
    have hzn:z < n:=by omega
    have HZ:=Lib.hid hz
    rw [hz] at r1 hneg
    have hzi1:(0:Int)≤(z:Int):=by omega
    have hzi2:(z:Int) < (n:Int):=by omega
    have hbn:Below w.heap.size w (wr.setCell ⟨gN,b,none⟩ (.int .i64 (-1))):=LB.trans (HWn.bel.mono (by omega))
    obtain ⟨_,j2,_,Q2',HL',HM',j5⟩:=HX.out _ hbn
    obtain ⟨gp,op,rfl,hgp,v1⟩:=rowV_cell HM' z hzn
    obtain ⟨pz1,pz2⟩:=HPl.out z hzn
    by_cases hpz:pl z < 0
    ·have hnk:¬ kept q pl s b:=fun e => by have:=e.2; rw [HZ.out,Int.toNat_natCast] at this; omega
     have HR:=Lib.hid (show (∀ j,j < b + 1→(if j = b then -1 else fn j) = nextT q pl s j∧fo j = outsT q k pl s j)∧(∀ j,b + 1≤j→fo j = ByteArray.empty)∧∀ j,j < b + 1→kept q pl s j→(q.os s j).size + (k.l (q.nx s j).toNat).size≤4096 + (k.l s).size from
      turned_skip H1.out H2.out H3.out hnk)
     have HWn':=Lib.hid HWn
     generalize pl z = pz at *
     clear HW HWn Q1' hz Q2' HL' HM' j2 j5
     go_wp2
     go_roundw
     case rel => exact ⟨b + 1,_,_,by omega,by go_num,HWn'.out,HR.out.1,HR.out.2.1,HR.out.2.2⟩
     case measure => simp [intOf]; omega
    ·have hk:kept q pl s b:=⟨by omega,by rw [HZ.out,Int.toNat_natCast]; omega⟩
     have HKp:=Lib.hid hk
     have hpr:=HPre.out b hlt hk
     rw [HZ.out,Int.toNat_natCast] at hpr
     have u3:=(HWn.n.cell b).trans (intsV_at _ hlt)
     have u4:=HWn.n.frozen b
     have HW5:=Lib.hid (HWn.setN b hlt (pl z))
     have hlz:=hl z
     clear HW HWn Q1' hz hk j2 Q2' j5 HL'
     generalize hplz:pl z = pz at *
     have HPz:=Lib.hid hplz
     clear hplz
     go_upto_region 8 with (fail)
     clear u1 u2 u3 u4 v1 r1 HM' hbn
     generalize ((wr.setCell ⟨gN,b,none⟩ (.int .i64 (-1))).setCell ⟨gN,b,none⟩ (.int .i64 pz)) = W5 at *
     have hb5:Below w.heap.size w W5:=LB.trans (HW5.out.bel.mono (by omega))
     obtain ⟨_,j2,_,Q2',HL',_,j5⟩:=HX.out _ hb5
     obtain ⟨h2,q2,rfl,hh2,r2⟩:=cell_at (d:=ByteArray.empty) Q2' b hlt
     have hos:(q.outs.getD s []).getD b ByteArray.empty = q.os s b:=rfl
     rw [hos] at r2
     obtain ⟨gl',ol',e5,hgl',v2⟩:=rowV_cell HL' z hzn
     injection e5 with e5
     injection e5 with e5 e6
     subst e5 e6
     have k2:=(K.below HW5.out.bel (by omega)).cell 2
     have hgx:=Lib.hid (fun (x:ByteArray) hx hsz => turned_put (x:=x) H1.out H2.out H3.out HKp.out HZ.out hx hsz)
     have hlx:LongAt q k pl s∨(q.os s b).size + (k.l z).size≤4096:=by
      by_cases e:(q.os s b).size + (k.l z).size≤4096
      ·exact .inr e
      ·exact .inl ⟨b,hlt,HKp.out,by rw [HZ.out,Int.toNat_natCast]; omega⟩
     have HLx:=Lib.hid hlx
     clear hlx
     have HD:=Lib.hid (fun (W:World) (hb:Below w.heap.size w W) => And.intro ((hb.cell (p:=⟨g2,o2 + s,none⟩) (by show g2 < _; omega)).trans ((hb5.cell (p:=⟨g2,o2 + s,none⟩) (by show g2 < _; omega)).symm.trans j2)) (And.intro ((hb.cell (p:=⟨h2,q2 + b,none⟩) (by show h2 < _; omega)).trans ((hb5.cell (p:=⟨h2,q2 + b,none⟩) (by show h2 < _; omega)).symm.trans r2)) (And.intro ((hb.cell (p:=⟨gl,ol + z,none⟩) (by show gl < _; omega)).trans ((hb5.cell (p:=⟨gl,ol + z,none⟩) (by show gl < _; omega)).symm.trans v2)) ((hb.cell (p:=⟨gl,ol + s,none⟩) (by show gl < _; omega)).trans ((hb5.cell (p:=⟨gl,ol + s,none⟩) (by show gl < _; omega)).symm.trans j5)))))
     generalize k.l z = lz at *
     generalize q.os s b = ot at *
     have y2:=cell_regrown k2
     have y3:=cell_regrown j2
     have y4:=cell_regrown r2
     have y5:=cell_regrown v2
     have y6:=cell_regrown j5
     by_cases hlong:(ot.size:Int) + lz.size - ls.size > 4096
     ·go_wp2
      refine wp_region_quiet_below (by kernel_rfl) (by kernel_rfl) ?_
      repeat (go_big_quiet_step (fail))
      refine wpQuiet_nil ?_
      intro w6 hw6
      have HP:=Lib.hid (show TurnPost q k pl s w (.returned (.tuple #[.slice none 0 0,.slice none 0 0,.bool false])) w6 from ⟨hb5.trans ((below_of hw6).mono hb5.size),.inl ⟨HLx.out.resolve_right (fun e => by omega),rfl⟩⟩)
      clear hw6 k2 j2 r2 v2 j5 y2 y3 y4 y5 y6
      go_wp2
      exact bodyPost_ret (v:=.tuple #[.slice none 0 0,.slice none 0 0,.bool false]) (by simp [results,Tryz.results71,go_sem]) rfl HP.out
     ·go_wp2
      refine wp_region_quiet_below (by kernel_rfl) (by kernel_rfl) ?_
      repeat (go_big_quiet_step (fail))
      refine wpQuiet_nil ?_
      intro w6 hw6
      have HW6:=HW5.out.call (below_of hw6)
      have hb6:Below w.heap.size w w6:=hb5.trans ((below_of hw6).mono hb5.size)
      clear hw6 k2 j2 r2 v2 j5 y2 y3 y4 y5 y6
      obtain ⟨j2,r2,v2,j5⟩:=HD.out w6 hb6
      have k2:=(K.below HW6.bel (by omega)).cell 2
      have y2:=cell_regrown k2
      have y3:=cell_regrown j2
      have y4:=cell_regrown r2
      have y5:=cell_regrown v2
      have y6:=cell_regrown j5
      have hsz:=ByteArray.size_append (a:=ot) (b:=lz)
      have HS9:=Lib.hid hsz
      have hcut:(ls.size:Int)≤(ot.size:Int) + (lz.size:Int):=by omega
      clear hsz
      go_wp2
      refine wp_region_hold_below 21 [0,1,2,3,4,5,6,7,8,9,10,11,12,13,14,15,16,17,18] [19,20] (by kernel_rfl) (by kernel_rfl) rfl (by kernel_rfl) ?_
      simp only [pickOps,List.getElem?_cons_zero,List.getElem?_cons_succ,List.drop_succ_cons,List.drop_zero]
      repeat (go_big_quiet_step (fail))
      refine wpQuiet_nil ?_
      refine wpForce_step rfl (fun KK hKK => ?_)
      go_simp
      refine hKK _ _ (regrown_of_below (Below.refl _ _).drew) ?_
      clear hKK KK
      refine wpForce_step rfl (fun KK hKK => ?_)
      go_simp
      refine hKK _ _ (regrown_of_below (Below.refl _ _).drew) ?_
      clear hKK KK
      refine wpForce_nil ?_
      clear k2 j2 r2 v2 j5 y2 y3 y4 y5 y6
      have HWd:=HW6.call (Below.refl _ _).drew
      have u1:=(HWd.o.cell b).trans (strsV_at _ hlt)
      have u2:=HWd.o.frozen b
      generalize hxx:(ot ++ lz).extract ls.size (ot.size + lz.size) = xx at *
      have HXx:=Lib.hid (hgx.out xx (by rw [← hxx,HS9.out,HLse.out]) (by rw [HLse.out]; omega))
      rw [HPz.out] at HXx
      have HW9:=Lib.hid (HWd.setO b hlt xx)
      generalize hwd:w6.drew = w7 at *
      clear hxx HWd HW6 hwd
      go_wp2
      refine NoPanic.normal ?_
      go_wp2
      go_roundw
      case rel => exact ⟨b + 1,_,_,by omega,by go_num,HW9.out,HXx.out.1,HXx.out.2.1,HXx.out.2.2⟩
      case measure => simp [intOf]; omega
  ·obtain rfl:b = 256:=by omega
   have HP:=Lib.hid (show TurnPost q k pl s w (.returned (.tuple #[.slice (some ⟨gN,0,none⟩) 256 256,.slice (some ⟨gO,0,none⟩) 256 256,.bool true])) wr from ⟨hwr,.inr ⟨gN,gO,rfl,by
    have e:intsV fn 256 = intsV (nextT q pl s) 256:=by
     unfold intsV; exact congrArg _ (rowV_congr fun j hj => by rw [(H1.out j hj).1])
    rw [← e]; exact HW.n,by
    have e:strsV fo 256 = strsV (outsT q k pl s) 256:=by
     unfold strsV; exact congrArg _ (rowV_congr fun j hj => by rw [(H1.out j hj).2])
    rw [← e]; exact HW.o,by have:=HW.bn; omega,by have:=HW.bo; omega,H3.out⟩⟩)
   clear HW
   go_wp2
   exact bodyPost_ret (v:=.tuple #[.slice (some ⟨gN,0,none⟩) 256 256,.slice (some ⟨gO,0,none⟩) 256 256,.bool true]) (by simp [results,Tryz.results71,go_sem]) rfl HP.out
end Go.Proofs.YtcondkihpmmnnaaGreatDoor
namespace Go.Proofs.YtcondkihpmmnnaaGreatDoor
open Go.RowKit Go.Sort
def PickB (L:List Bool) (xs:List Nat) (np:Nat) (w:World) (e:Ending) (w':World):Prop :=
 ∃ g,e = .returned (.slice (some ⟨g,0,none⟩) np np)∧Blk w' g 4 (bV (fun i => L.getD (xs.getD i 0) false) np)∧w.heap.size≤g∧Below w.heap.size w w'
set_option maxRecDepth 100000 in
set_option maxHeartbeats 4000000 in
theorem pickB_any (L:List Bool) (xs:List Nat) (Al Ap:Option Addr) (nl cl np cp B:Nat) (w:World) (HL:Reads w B 1 Al nl (L.map Value.bool)) (HX:Reads w B 1 Ap np (qV xs)) (hB:B≤w.heap.size) (hx:∀ x∈xs,x < nl) (hnp:np≤1024) (_hnl:nl≤1024) (_hcl:nl≤cl) (_hcp:np≤cp) :
    Calls Tryz.prog 36 #[.slice Al nl cl,.slice Ap np cp] w (PickB L xs np w):=by
 have hxl:xs.length = np:=by have:=HX.1; unfold qV at this; rw [List.length_map] at this; omega
 have HX':Reads w B 1 Ap np (xs.map fun z:Nat => Value.int .i64 (z:Int)):=HX
 have HR1:=Lib.hid (fun (k:Nat) (hk:k < np) => cell_at (d:=0) HX' k hk)
 have HR2:=Lib.hid (fun (k:Nat) (hk:k < nl) => cell_at (d:=false) HL k hk)
 have Hx:=Lib.hid (fun (k:Nat) (hk:k < np) => hx (xs.getD k 0) (by rw [List.getD_eq_getElem?_getD,List.getElem?_eq_getElem (by omega)]; exact List.getElem_mem _))
 obtain ⟨i0,hi,hy0,hy1,hy2⟩:=info_parts bool_infoS
 have hbb:i0.bytes * np≤281474976710656:=by rw [hy2]; omega
 have hmx:np≤maxLen:=by unfold maxLen; omega
 clear HX HX' HL hx hxl
 go_enter Tryz.func36,Tryz.ntmps36
 go_upto_region 2 with (at_make; refine wpList_make_full _ rfl _ _ 24 rfl w.heap.size 4 i0 _ 1 Tryz.underlying24 hi hy0 hy1 _ _ (np:Int) (np:Int) np rfl rfl rfl rfl hbb hmx (Nat.le_refl _) ?_; intro w2 hown hgr)
 have hgb:=(Below.refl w.heap.size w).grown hgr (Nat.le_refl _) (fun k e => by cases e)
 rw [show (Value.bool false).cells = #[Value.bool false] from rfl,Nat.mul_one,toList_madeCells_one] at hown
 have hG:=blk_of_made hown
 rw [bV_zero] at hG
 have HG:=Lib.hid (show Blk w2 w.heap.size 4 (bV (fun _ => false) np)∧Below w.heap.size w w2 from ⟨hG,hgb⟩)
 clear hown hgr hgb hG hi hy0 hy1 hy2 hbb
 go_wp2
 go_loopw [13] (fun i wr => ∃ (k:Nat) (fn:Nat→Bool),k≤np∧i = .int .i64 (k:Int)∧Blk wr w.heap.size 4 (bV fn np)∧Below w.heap.size w wr∧∀ j,j < k→fn j = L.getD (xs.getD j 0) false) (fun i _ => np - (intOf i).toNat)
 case atStart => exact ⟨0,_,Nat.zero_le _,rfl,HG.out.1,HG.out.2,fun j h => absurd h (Nat.not_lt_zero _)⟩
 case round =>
  clear HG
  obtain ⟨k,fn,hk,rfl,hG,hb,hf⟩:=hrel
  have Hf:=Lib.hid hf
  clear hf
  by_cases hlt:k < np
  ·have hi1:(0:Int)≤(k:Int):=by omega
   have hi2:(k:Int) < (np:Int):=by omega
   obtain ⟨g1,o1,rfl,hg1,r1⟩:=HR1.out k hlt
   have hz:=Hx.out k hlt
   have HZ:=Lib.hid (Eq.refl (xs.getD k 0))
   generalize hze:xs.getD k 0 = z at *
   obtain ⟨g2,o2,rfl,hg2,r2⟩:=HR2.out z hz
   have hzi1:(0:Int)≤(z:Int):=by omega
   have hzi2:(z:Int) < (nl:Int):=by omega
   have c1:=(hb.cell (p:=⟨g1,o1 + k,none⟩) (by show g1 < _; omega)).trans r1
   have c2:=(hb.cell (p:=⟨g2,o2 + z,none⟩) (by show g2 < _; omega)).trans r2
   have u1:=(hG.cell k).trans (bV_at _ hlt)
   have u2:=hG.frozen k
   have hG':=hG.set_ k (Value.bool (L.getD z false))
   rw [bV_set _ _ _ _ hlt] at hG'
   have HG':=Lib.hid hG'
   have Hb':=Lib.hid (hb.setCell (p:=⟨w.heap.size,k,none⟩) (Nat.le_refl _) (Value.bool (L.getD z false)))
   have HN:=Lib.hid (show ∀ j,j < k + 1→(if j = k then L.getD z false else fn j) = L.getD (xs.getD j 0) false from fun j hj => by
    by_cases e:j = k
    ·rw [if_pos e,e,hze]
    ·rw [if_neg e]; exact Hf.out j (by omega))
   clear hG hG' hb hze HZ r1 r2
   generalize L.getD z false = u at *
   go_wp2
   go_roundw
   case rel => exact ⟨k + 1,_,by omega,by go_num,HG'.out,Hb'.out,HN.out⟩
   case measure => simp [intOf]; omega
  ·obtain rfl:np = k:=by omega
   have e:bV fn np = bV (fun i => L.getD (xs.getD i 0) false) np:=by
    unfold bV
    rw [rowV_congr (fun j hj => by rw [Hf.out j hj])]
   have HP:=Lib.hid (show PickB L xs np w (.returned (.slice (some ⟨w.heap.size,0,none⟩) np np)) wr from ⟨_,rfl,e ▸ hG,Nat.le_refl _,hb⟩)
   clear hG hb e
   go_wp2
   exact bodyPost_ret (v:=.slice (some ⟨w.heap.size,0,none⟩) np np) (by simp [results,Tryz.results36,go_sem]) rfl HP.out
def PickS (L:List ByteArray) (xs:List Nat) (np:Nat) (w:World) (e:Ending) (w':World):Prop :=
 ∃ g,e = .returned (.slice (some ⟨g,0,none⟩) np np)∧Blk w' g 9 (strsV (fun i => L.getD (xs.getD i 0) ByteArray.empty) np)∧w.heap.size≤g∧Below w.heap.size w w'
set_option maxRecDepth 100000 in
set_option maxHeartbeats 4000000 in
theorem pickS_any (L:List ByteArray) (xs:List Nat) (Al Ap:Option Addr) (nl cl np cp B:Nat) (w:World) (HL:Reads w B 1 Al nl (L.map Value.string)) (HX:Reads w B 1 Ap np (qV xs)) (hB:B≤w.heap.size) (hx:∀ x∈xs,x < nl) (hnp:np≤1024) (_hnl:nl≤1024) (_hcl:nl≤cl) (_hcp:np≤cp) :
    Calls Tryz.prog 37 #[.slice Al nl cl,.slice Ap np cp] w (PickS L xs np w):=by
 have hxl:xs.length = np:=by have:=HX.1; unfold qV at this; rw [List.length_map] at this; omega
 have HX':Reads w B 1 Ap np (xs.map fun z:Nat => Value.int .i64 (z:Int)):=HX
 have HR1:=Lib.hid (fun (k:Nat) (hk:k < np) => cell_at (d:=0) HX' k hk)
 have HR2:=Lib.hid (fun (k:Nat) (hk:k < nl) => cell_at (d:=ByteArray.empty) HL k hk)
 have Hx:=Lib.hid (fun (k:Nat) (hk:k < np) => hx (xs.getD k 0) (by rw [List.getD_eq_getElem?_getD,List.getElem?_eq_getElem (by omega)]; exact List.getElem_mem _))
 obtain ⟨i0,hi,hy0,hy1,hy2⟩:=info_parts str_infoS
 have hbb:i0.bytes * np≤281474976710656:=by rw [hy2]; omega
 have hmx:np≤maxLen:=by unfold maxLen; omega
 clear HX HX' HL hx hxl
 go_enter Tryz.func37,Tryz.ntmps37
 go_upto_region 2 with (at_make; refine wpList_make_full _ rfl _ _ 25 rfl w.heap.size 9 i0 _ 1 Tryz.underlying25 hi hy0 hy1 _ _ (np:Int) (np:Int) np rfl rfl rfl rfl hbb hmx (Nat.le_refl _) ?_; intro w2 hown hgr)
 have hgb:=(Below.refl w.heap.size w).grown hgr (Nat.le_refl _) (fun k e => by cases e)
 rw [show (Value.string ByteArray.empty).cells = #[Value.string ByteArray.empty] from rfl,Nat.mul_one,toList_madeCells_one] at hown
 have hG:=blk_of_made hown
 rw [rowV_const] at hG
 have HG:=Lib.hid (show Blk w2 w.heap.size 9 (strsV (fun _ => ByteArray.empty) np)∧Below w.heap.size w w2 from ⟨hG,hgb⟩)
 clear hown hgr hgb hG hi hy0 hy1 hy2 hbb
 go_wp2
 go_loopw [13] (fun i wr => ∃ (k:Nat) (fn:Nat→ByteArray),k≤np∧i = .int .i64 (k:Int)∧Blk wr w.heap.size 9 (strsV fn np)∧Below w.heap.size w wr∧∀ j,j < k→fn j = L.getD (xs.getD j 0) ByteArray.empty) (fun i _ => np - (intOf i).toNat)
 case atStart => exact ⟨0,_,Nat.zero_le _,rfl,HG.out.1,HG.out.2,fun j h => absurd h (Nat.not_lt_zero _)⟩
 case round =>
  clear HG
  obtain ⟨k,fn,hk,rfl,hG,hb,hf⟩:=hrel
  have Hf:=Lib.hid hf
  clear hf
  by_cases hlt:k < np
  ·have hi1:(0:Int)≤(k:Int):=by omega
   have hi2:(k:Int) < (np:Int):=by omega
   obtain ⟨g1,o1,rfl,hg1,r1⟩:=HR1.out k hlt
   have hz:=Hx.out k hlt
   have HZ:=Lib.hid (Eq.refl (xs.getD k 0))
   generalize hze:xs.getD k 0 = z at *
   obtain ⟨g2,o2,rfl,hg2,r2⟩:=HR2.out z hz
   have hzi1:(0:Int)≤(z:Int):=by omega
   have hzi2:(z:Int) < (nl:Int):=by omega
   have c1:=(hb.cell (p:=⟨g1,o1 + k,none⟩) (by show g1 < _; omega)).trans r1
   have c2:=(hb.cell (p:=⟨g2,o2 + z,none⟩) (by show g2 < _; omega)).trans r2
   have u1:=(hG.cell k).trans (strsV_at _ hlt)
   have u2:=hG.frozen k
   have hG':=hG.set_ k (Value.string (L.getD z ByteArray.empty))
   rw [strsV_set _ _ _ _ hlt] at hG'
   have HG':=Lib.hid hG'
   have Hb':=Lib.hid (hb.setCell (p:=⟨w.heap.size,k,none⟩) (Nat.le_refl _) (Value.string (L.getD z ByteArray.empty)))
   have HN:=Lib.hid (show ∀ j,j < k + 1→(if j = k then L.getD z ByteArray.empty else fn j) = L.getD (xs.getD j 0) ByteArray.empty from fun j hj => by
    by_cases e:j = k
    ·rw [if_pos e,e,hze]
    ·rw [if_neg e]; exact Hf.out j (by omega))
   clear hG hG' hb hze HZ r1 r2
   generalize L.getD z ByteArray.empty = u at *
   go_wp2
   go_roundw
   case rel => exact ⟨k + 1,_,by omega,by go_num,HG'.out,Hb'.out,HN.out⟩
   case measure => simp [intOf]; omega
  ·obtain rfl:np = k:=by omega
   have e:strsV fn np = strsV (fun i => L.getD (xs.getD i 0) ByteArray.empty) np:=by
    unfold strsV
    rw [rowV_congr (fun j hj => by rw [Hf.out j hj])]
   have HP:=Lib.hid (show PickS L xs np w (.returned (.slice (some ⟨w.heap.size,0,none⟩) np np)) wr from ⟨_,rfl,e ▸ hG,Nat.le_refl _,hb⟩)
   clear hG hb e
   go_wp2
   exact bodyPost_ret (v:=.slice (some ⟨w.heap.size,0,none⟩) np np) (by simp [results,Tryz.results37,go_sem]) rfl HP.out
end Go.Proofs.YtcondkihpmmnnaaGreatDoor
namespace Go.Proofs.YtcondkihpmmnnaaGreatDoor
open Go.RowKit Go.Sort
theorem qV_at {xs:List Nat} {i s:Nat} (h:xs[i]? = some s) (d:Value):(qV xs).getD i d = .int .i64 (s:Int):=by
 unfold qV
 rw [List.getD_eq_getElem?_getD,List.getElem?_map,h]; rfl
def OrderPost (q:SeqM) (n c:Nat) (m:Nat→Nat) (w:World) (e:Ending) (w':World):Prop :=
 ∃ (v:Value) (xs:List Nat) (gP:Nat) (pl:Nat→Int),e = .returned (.tuple #[v,.slice (some ⟨gP,0,none⟩) c c])∧w'.ownsRow w.heap.size 3 1 v xs.length (qV xs)∧Blk w' gP 3 (intsV pl c)∧w.heap.size≤gP ∧
  Below w.heap.size w w'∧OrdI q n c m xs pl xs.length 0
structure OdrW (w wr:World) (B:Nat) (cs:Array Value) (gP c:Nat) (v:Value) (xs:List Nat) (pl:Nat→Int):Prop where
 box:Blk wr w.heap.size 27 cs
 st:wr.ownsRow B 3 1 v xs.length (qV xs)
 p:Blk wr gP 3 (intsV pl c)
 ap:v.ownBlock≠some gP
 lo:w.heap.size < gP
 lB:w.heap.size < B
 bel:Below w.heap.size w wr
section
variable {w wr w':World} {B gP c:Nat} {cs:Array Value} {v:Value} {xs:List Nat} {pl:Nat→Int}
theorem OdrW.call (h:OdrW w wr B cs gP c v xs pl) (hb:Below wr.heap.size wr w'):OdrW w w' B cs gP c v xs pl :=
 ⟨h.box.below hb h.box.lt,own_below h.st hb,h.p.below hb h.p.lt,h.ap,h.lo,h.lB,h.bel.trans (hb.mono h.bel.size)⟩
theorem OdrW.set (h:OdrW w wr B cs gP c v xs pl) (j:Nat) (hj:j < c) (i:Int):OdrW w (wr.setCell ⟨gP,j,none⟩ (.int .i64 i)) B cs gP c v xs (fun t => if t = j then i else pl t):=by
 have hl:=h.lo
 refine ⟨h.box.far (p:=⟨gP,j,none⟩) (by show w.heap.size≠gP; omega) _,own_setCell h.st h.ap _,?_,h.ap,h.lo,h.lB,h.bel.setCell (p:=⟨gP,j,none⟩) (by show w.heap.size≤gP; omega) _⟩
 have:=h.p.set_ j (.int .i64 i)
 rwa [intsV_set _ _ _ _ hj] at this
theorem OdrW.push (h:OdrW w wr B cs gP c v xs pl) {v':Value} {z:Nat} (ho:w'.ownsRow B 3 1 v' (xs.length + 1) (qV xs ++ [.int .i64 (z:Int)])) (hg:wr.grownBy w' v.ownBlock) (hl:v'.ownBlock = v.ownBlock∨v'.ownBlock = some wr.heap.size) :
    OdrW w w' B cs gP c v' (xs ++ [z]) pl:=by
 have hlo:=h.lo
 have hlB:=h.lB
 refine ⟨blk_keep h.box hg (fun e => ?_),?_,blk_keep h.p hg h.ap,?_,h.lo,h.lB,h.bel.grown hg h.bel.size (fun k hk => by have:=(own_lt h.st k hk).1; omega)⟩
 ·have:=(own_lt h.st _ e).1; omega
 ·have e:qV (xs ++ [z]) = qV xs ++ [.int .i64 (z:Int)]:=by unfold qV; simp
  rw [e,List.length_append]; exact ho
 ·intro e
  rcases hl with h1 | h1
  ·exact h.ap (h1 ▸ e)
  ·rw [h1] at e
   have:=h.p.lt
   have:=Option.some.inj e
   omega
end
end Go.Proofs.YtcondkihpmmnnaaGreatDoor
