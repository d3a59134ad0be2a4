/- Lemmas, part 44 of 50. No condition. -/
import Derived.Test.YtcondkihpmmnnaaGreatDoorQ40
import Derived.Test.YtcondkihpmmnnaaGreatDoorQ09
import Derived.Test.YtcondkihpmmnnaaGreatDoorQ43
import Derived.Test.YtcondkihpmmnnaaGreatDoorQ06
namespace Go.Proofs.YtcondkihpmmnnaaGreatDoor
open Go.RowKit Go.Sort
set_option maxRecDepth 100000 in
set_option maxHeartbeats 8000000 in
theorem order_any (q:SeqM) (v:Value) (B n c gm:Nat) (m:Nat→Nat) (w:World) (HS:SeqAt w B q v) (hB:B≤w.heap.size) (hck:ckB q = true) (hn:q.next.length = n) (hn0:0 < n) (HM:Blk w gm 3 (iV m n)) (hP:PartsOk q n m c) :
    Calls Tryz.prog 35 #[v,.slice (some ⟨gm,0,none⟩) n n,.int .i64 (c:Int)] w (OrderPost q n c m w):=by
 obtain ⟨A1,c1,A2,c2,A3,c3,A4,c4,rfl,hf,l1,l2,l3,l4,m1,m2,m3,m4,R1,hz,R2,hsz,R3,R4,htl⟩:=HS
 obtain ⟨p1,p2,p3,p4,p5,p6⟩:=ck_parts hck
 have HP6:=Lib.hid p6
 have HCk:=Lib.hid (fun s b (hs:s < n) (hb:b < 256) => ckB_nx hck (s:=s) (by rw [hn]; exact hs) hb)
 have HPt:=Lib.hid hP
 rw [p2,p3,p4]
 rw [hn] at p1 l1 R1 ⊢
 have Hn:=Lib.hid hn
 have hcn:c≤n:=onto_le hP.onto
 have hm0c:m 0 < c:=hP.lt 0 hn0
 generalize q.front = fr at *
 have K:=Blk.new w 27 #[.string fr,.slice A1 n c1,.slice A2 n c2,.slice A3 n c3,.slice A4 n c4]
 have LB:=(Below.refl w.heap.size w).alloc (Nat.le_refl _) (.cells #[.string fr,.slice A1 n c1,.slice A2 n c2,.slice A3 n c3,.slice A4 n c4] 27)
 have hlts:=K.lt
 have hgm:=HM.lt
 have HMr:=Lib.hid (fun (W:World) (hb:Below w.heap.size w W) (z:Nat) (hz:z < n) => ((HM.below hb HM.lt).cell z).trans (iV_at m hz))
 have HR1:=Lib.hid R1
 obtain ⟨i0,hi,hy0,hy1,hy2⟩:=info_parts int_infoS
 have hbb:i0.bytes * c≤281474976710656:=by rw [hy2]; omega
 have hmx:c≤maxLen:=by unfold maxLen; omega
 clear R1 R2 R3 R4 hz hsz htl p2 p3 p4 p5 p6 hck hn l2 l3 l4 HM hP
 go_enter Tryz.func35,Tryz.ntmps35
 go_upto_region 2 with (at_make; refine wpList_make_full _ rfl _ _ 55 rfl (w.alloc (.cells #[.string fr,.slice A1 n c1,.slice A2 n c2,.slice A3 n c3,.slice A4 n c4] 27)).heap.size 3 i0 _ 1 Tryz.underlying55 hi hy0 hy1 _ _ (c:Int) (c:Int) c rfl rfl rfl rfl hbb hmx (Nat.le_refl _) ?_; intro w2 hown hgr)
 have hgb:=(Below.refl (w.alloc (.cells #[.string fr,.slice A1 n c1,.slice A2 n c2,.slice A3 n c3,.slice A4 n c4] 27)).heap.size _).grown hgr (Nat.le_refl _) (fun k e => by cases e)
 rw [show (Value.int .i64 0).cells = #[Value.int .i64 0] from rfl,Nat.mul_one,toList_madeCells_one,rowV_const] at hown
 have hG:Blk w2 (w.alloc (.cells #[.string fr,.slice A1 n c1,.slice A2 n c2,.slice A3 n c3,.slice A4 n c4] 27)).heap.size 3 (intsV (fun _ => 0) c):=blk_of_made hown
 rw [World.size_alloc] at hG hgb
 have K2:=K.below hgb (by simp)
 have LB2:=LB.trans (hgb.mono (by omega))
 have HG:=Lib.hid (And.intro hG (And.intro K2 LB2))
 clear hown hgr hgb K LB hi hy0 hy1 hy2 hbb hG K2 LB2
 go_wp2
 go_loopw [18] (fun i wr => ∃ k:Nat,k≤c∧i = .int .i64 (k:Int)∧Blk wr (w.heap.size + 1) 3 (intsV (fun j => if j < k then -1 else 0) c)∧Blk wr w.heap.size 27 #[.string fr,.slice A1 n c1,.slice A2 n c2,.slice A3 n c3,.slice A4 n c4]∧Below w.heap.size w wr) (fun i _ => c - (intOf i).toNat)
 case atStart => exact ⟨0,Nat.zero_le _,rfl,HG.out.1,HG.out.2.1,HG.out.2.2⟩
 case round =>
  clear HG
  obtain ⟨k,hk,rfl,hG,hK,hb⟩:=hrel
  by_cases hlt:k < c
  ·have hi1:(0:Int)≤(k:Int):=by omega
   have hi2:(k:Int) < (c:Int):=by omega
   have u1:=(hG.cell k).trans (intsV_at _ hlt)
   have u2:=hG.frozen k
   have hG':=hG.set_ k (.int .i64 (-1))
   rw [intsV_set _ _ _ _ hlt] at hG'
   have e:(fun j => if j = k then (-1:Int) else if j < k then -1 else 0) = fun j => if j < k + 1 then -1 else 0:=by
    funext j
    by_cases h1:j = k
    ·rw [if_pos h1,if_pos (by omega)]
    ·rw [if_neg h1]
     by_cases h2:j < k
     ·rw [if_pos h2,if_pos (by omega)]
     ·rw [if_neg h2,if_neg (by omega)]
   rw [e] at hG'
   have HG':=Lib.hid (And.intro hG' (And.intro (hK.far (p:=⟨w.heap.size + 1,k,none⟩) (by show w.heap.size≠w.heap.size + 1; omega) (.int .i64 (-1))) (hb.setCell (p:=⟨w.heap.size + 1,k,none⟩) (by show w.heap.size≤w.heap.size + 1; omega) (.int .i64 (-1)))))
   clear hG hG' e hK hb
   go_wp2
   go_roundw
   case rel => exact ⟨k + 1,by omega,by go_num,HG'.out.1,HG'.out.2.1,HG'.out.2.2⟩
   case measure => simp [intOf]; omega
  ·obtain rfl:c = k:=by omega
   have eneg:intsV (fun j => if j < c then (-1:Int) else 0) c = intsV (fun _ => -1) c:=by
    unfold intsV
    rw [rowV_congr (g:=fun _ => .int .i64 (-1)) (fun j hj => by show Value.int _ (if j < c then (-1:Int) else 0) = _; rw [if_pos hj])]
   rw [eneg] at hG
   clear eneg
   have hsz0:=hb.size
   have hGl:=hG.lt
   have LQ:=(Below.refl wr.heap.size wr).alloc (Nat.le_refl _) (.cells #[.int .i64 0] 3)
   have HO0:(wr.alloc (.cells #[.int .i64 0] 3)).ownsRow (w.heap.size + 2) 3 1 (.slice (some ⟨wr.heap.size,0,none⟩) 1 1) 1 [.int .i64 0]:=own_ofBlk (by omega) (Blk.new wr 3 #[.int .i64 0]) (by unfold maxLen; decide)
   have HW0:OdrW w (wr.alloc (.cells #[.int .i64 0] 3)) (w.heap.size + 2) #[.string fr,.slice A1 n c1,.slice A2 n c2,.slice A3 n c3,.slice A4 n c4] (w.heap.size + 1) c (.slice (some ⟨wr.heap.size,0,none⟩) 1 1) [0] (fun _ => -1) :=
    ⟨hK.below LQ hK.lt,HO0,hG.below LQ hGl,(by show some wr.heap.size≠some (w.heap.size + 1); intro e; have:=Option.some.inj e; omega),by omega,by omega,hb.trans (LQ.mono hsz0)⟩
   have a1:=HMr.out _ HW0.bel 0 hn0
   have hi1:(0:Int)≤(m 0:Int):=by omega
   have hi2:(m 0:Int) < (c:Int):=by omega
   have hi3:(0:Int) < (n:Int):=by omega
   have u1:=(HW0.p.cell (m 0)).trans (intsV_at _ hm0c)
   have u2:=HW0.p.frozen (m 0)
   have HW1:=HW0.set (m 0) hm0c 0
   rw [World.setCell_alloc_past _ _ _ _ hGl] at HW1
   have HW1:=Lib.hid HW1
   have HOr:=Lib.hid (OrdI.start (q:=q) (n:=n) (c:=c) (m:=m) hm0c hn0)
   clear HW0 HO0 LQ hG hK hb
   generalize m 0 = z0 at *
   go_wp2
   clear a1 u1 u2
   generalize ((wr.setCell ⟨w.heap.size + 1,z0,none⟩ (.int .i64 0)).alloc (.cells #[.int .i64 0] 3)) = w5 at *
   generalize wr.heap.size = gq at *
   go_loopw [10,11] (fun sv i wr => ∃ (vv:Value) (xs:List Nat) (pl:Nat→Int) (ii:Nat),vv = sv∧i = .int .i64 (ii:Int)∧ii≤xs.length∧OdrW w wr (w.heap.size + 2) #[.string fr,.slice A1 n c1,.slice A2 n c2,.slice A3 n c3,.slice A4 n c4] (w.heap.size + 1) c vv xs pl∧OrdI q n c m xs pl ii 0) (fun _ i _ => c - (intOf i).toNat)
   case atStart => exact ⟨_,[0],_,0,rfl,rfl,Nat.zero_le _,HW1.out,HOr.out⟩
   case round =>
    clear HW1 HOr
    obtain ⟨vv,xs,pl,ii,rfl,rfl,hil,HW,HO⟩:=hrel
    have hxc:=HO.len HPt.out.lt
    have hbz:=HW.bel.size
    obtain ⟨Av,cv,rfl,hv1,hv2,hv3⟩:=own_form HW.st
    by_cases hlt:ii < xs.length
    ·obtain ⟨s,hs⟩:∃ s,xs[ii]? = some s:=⟨_,List.getElem?_eq_getElem hlt⟩
     have hsn:=(HO.lt ii s hs).1
     obtain ⟨ga,rfl,hga1,hga2⟩:=hv3 (by omega)
     have a1:=own_cellAt HW.st ii hlt nilV
     rw [qV_at hs] at a1
     obtain ⟨g1,o1,A1',d1,rfl,hg1,x0,Q0,y1,z1⟩:=HR1.out.at_ s hsn
     have x1:=((HW.bel.mono hB).cell (p:=⟨g1,o1 + s,none⟩) (by show g1 < B; exact hg1)).trans x0
     have e1:(q.next.map fun r => r.map (Value.int .i64)).getD s [] = (q.next.getD s []).map (Value.int .i64):=by
      rw [List.getD_eq_getElem?_getD,List.getD_eq_getElem?_getD,List.getElem?_map]
      cases q.next[s]? <;> rfl
     rw [e1] at x1 Q0 y1
     simp only [List.length_map] at x1 Q0 y1
     rw [(HP6.out s (by rw [Hn.out]; exact hsn)).1] at x1 Q0 y1
     have HNr:=Lib.hid (fun (W:World) (hb:Below w.heap.size w W) => Q0.below (hb.mono hB))
     clear x0 Q0 e1
     have k1:=HW.box.cell 1
     have y2:=cell_regrown a1
     have y3:=cell_regrown x1
     have y4:=cell_regrown k1
     have HWc:=Lib.hid (fun (W:World) (h:Below wr.heap.size wr W) => HW.call h)
     have HOh:=Lib.hid HO
     have Hs:=Lib.hid hs
     have hi1:(0:Int)≤(ii:Int):=by omega
     have hi2:(ii:Int) < (xs.length:Int):=by omega
     have hi3:(0:Int)≤(s:Int):=by omega
     have hi4:(s:Int) < (n:Int):=by omega
     clear HW HO hs hv3
     have HXl:=Lib.hid (Eq.refl xs.length)
     generalize hxl:xs.length = xl at *
     go_wp2
     refine wp_region_quiet_below (by kernel_rfl) (by kernel_rfl) ?_
     repeat (go_big_quiet_step (fail))
     refine wpQuiet_nil ?_
     intro w6 hw6
     have HW6:=Lib.hid (HWc.out w6 (below_of hw6))
     clear hw6 y2 y3 y4 a1 x1 k1
     go_wp2
     go_loopw [10,46] (fun sv i wr => ∃ (vv:Value) (xs:List Nat) (pl:Nat→Int) (b:Nat),vv = sv∧i = .int .i64 (b:Int)∧b≤256∧OdrW w wr (w.heap.size + 2) #[.string fr,.slice (some ⟨g1,o1,none⟩) n c1,.slice A2 n c2,.slice A3 n c3,.slice A4 n c4] (w.heap.size + 1) c vv xs pl∧OrdI q n c m xs pl ii b∧xs[ii]? = some s) (fun _ i _ => 256 - (intOf i).toNat)
     case atStart => exact ⟨_,xs,pl,0,rfl,rfl,Nat.zero_le _,HW6.out,HOh.out,Hs.out⟩
     case round =>
      clear HW6 HOh Hs hxl HXl hlt hi2 hv1
      clear hxc hil
      obtain ⟨vv,xs,pl,b,rfl,rfl,hb,HW,HO,hs⟩:=hrel
      have hxc:=HO.len HPt.out.lt
      have hlt:=some_lt hs
      have hbz':=HW.bel.size
      obtain ⟨Av,cv,rfl,hv1,hv2,hv3⟩:=own_form HW.st
      by_cases hltb:b < 256
      ·have hb1:(0:Int)≤(b:Int):=by omega
       have hb2:(b:Int) < 256:=by omega
       obtain ⟨z0',z1',_⟩:=HCk.out s b hsn hltb
       rw [Hn.out] at z1'
       obtain ⟨h1,q1,rfl,hh1,r1⟩:=cell_at (d:=0) (HNr.out wr HW.bel) b hltb
       have hnx:(q.next.getD s []).getD b 0 = q.nx s b:=rfl
       rw [hnx] at r1
       by_cases hneg:q.nx s b < 0
       ·have HO':=Lib.hid (HO.pass hs (fun h0 => absurd h0 (by omega)))
        have HW':=Lib.hid HW
        have Hs:=Lib.hid hs
        have hge:¬ q.nx s b ≥ 0:=by omega
        clear HO HW hs
        generalize q.nx s b = z at *
        go_wp2
        go_roundw
        case rel => exact ⟨_,xs,pl,b + 1,rfl,by go_num,by omega,HW'.out,HO'.out,Hs.out⟩
        case measure => simp [intOf]; omega
       ·obtain ⟨z,hz⟩:∃ z:Nat,q.nx s b = (z:Int):=⟨_,(Int.toNat_of_nonneg (by omega)).symm⟩
        have hzn:z < n:=by omega
        have hmz:=HPt.out.lt z hzn
        have hzi1:(0:Int)≤(z:Int):=by omega
        have hzi2:(z:Int) < (n:Int):=by omega
        have hge:(z:Int) ≥ 0:=by omega
        have hmi1:(0:Int)≤(m z:Int):=by omega
        have hmi2:(m z:Int) < (c:Int):=by omega
        have a1:=HMr.out wr HW.bel z hzn
        have u1:=(HW.p.cell (m z)).trans (intsV_at _ hmz)
        have hplb:-1≤pl (m z)∧pl (m z)≤1024:=by
         rcases HO.plc (m z) hmz with h1 | ⟨j,t,h1,h2,h3⟩
         ·omega
         ·have:=some_lt h1; omega
        by_cases hpz:pl (m z) < 0
        ·have HO':=Lib.hid (HO.put hs hltb hz hzn hpz (fun t b ht hb h0 => HPt.out.lt _ (by have:=(HCk.out t b ht hb).2.1; rw [Hn.out] at this; omega)))
         have Hs:=Lib.hid (show (xs ++ [z])[ii]? = some s by rw [List.getElem?_append_left hlt]; exact hs)
         have u2:=HW.p.frozen (m z)
         have HW1:=HW.set (m z) hmz (xs.length:Int)
         have LA:=(Below.refl (wr.setCell ⟨w.heap.size + 1,m z,none⟩ (.int .i64 (xs.length:Int))).heap.size (wr.setCell ⟨w.heap.size + 1,m z,none⟩ (.int .i64 (xs.length:Int)))).alloc (Nat.le_refl _) (.cells #[.int .i64 (z:Int)] 3)
         have HW2:=HW1.call LA
         have hst:=HW2.st
         have HWh:=Lib.hid HW2
         have hrd:=reads_allocK (wr.setCell ⟨w.heap.size + 1,m z,none⟩ (.int .i64 (xs.length:Int))) [.int .i64 (z:Int)] 3 1 1 rfl
         obtain ⟨i1,t0,t1,t2,t3⟩:=info_parts int_infoS
         have hone:∀ u∈[Value.int .i64 (z:Int)],u.oneCell' = true:=fun u hu => by rw [List.mem_singleton] at hu; subst hu; rfl
         have h63:xs.length + 1≤maxLen:=by unfold maxLen; omega
         have hby:(xs.length + 1) * 8≤140737488355328:=by omega
         have hbs:w.heap.size + 2≤((wr.setCell ⟨w.heap.size + 1,m z,none⟩ (.int .i64 (xs.length:Int))).alloc (.cells #[.int .i64 (z:Int)] 3)).heap.size:=by
          have:=HW.p.lt
          simp; omega
         rw [hz] at r1 hneg
         clear HW HW1 HW2 LA HO hs hz
         generalize hmze:m z = mz at *
         generalize hple:pl mz = pz at *
         go_upto_region 17 with (fail)
         clear a1 u1 u2 r1
         generalize wr.setCell ⟨w.heap.size + 1,mz,none⟩ (.int .i64 (xs.length:Int)) = w7 at *
         generalize hxl:xs.length = xl at *
         go_wp2_with (at_builtin; refine wpList_append_any _ rfl _ _ 55 rfl (w.heap.size + 2) 3 i1 _ 1 8 Tryz.underlying55 t0 t1 t2 t3 rfl (by decide) _ _ _ rfl hst _ (some ⟨w7.heap.size,0,none⟩) 1 1 [.int .i64 (z:Int)] rfl hrd hone h63 hby hbs ?_; intro v' w8 hown hgrow hloc)
         go_roundw
         case rel => exact ⟨_,xs ++ [z],_,b + 1,rfl,by go_num,by omega,HWh.out.push (by rw [hxl]; exact hown) hgrow hloc,HO'.out,Hs.out⟩
         case measure => simp [intOf]; omega
        ·have HO':=Lib.hid (HO.pass hs (fun h0 => by rw [hz,Int.toNat_natCast]; omega))
         have HW':=Lib.hid HW
         have Hs:=Lib.hid hs
         rw [hz] at r1 hneg
         clear HO HW hs hz
         generalize m z = mz at *
         generalize pl mz = pz at *
         go_wp2
         go_roundw
         case rel => exact ⟨_,xs,pl,b + 1,rfl,by go_num,by omega,HW'.out,HO'.out,Hs.out⟩
         case measure => simp [intOf]; omega
      ·obtain rfl:b = 256:=by omega
       have HO':=Lib.hid HO.next
       have HW':=Lib.hid HW
       clear HO HW hs
       go_wp2
       go_roundw
       case rel => exact ⟨_,xs,pl,ii + 1,rfl,by go_num,by omega,HW'.out,HO'.out⟩
       case measure => simp [intOf]; omega
    ·obtain rfl:ii = xs.length:=by omega
     have hbw:=HW.bel
     have HP:=Lib.hid (show OrderPost q n c m w (.returned (.tuple #[.slice Av xs.length cv,.slice (some ⟨w.heap.size + 1,0,none⟩) c c])) wr from ⟨_,xs,_,pl,rfl,own_base HW.st (by omega),HW.p,by omega,hbw,HO⟩)
     clear HW HO hbw
     generalize xs.length = xl at *
     go_wp2
     exact bodyPost_ret (v:=.tuple #[.slice Av xl cv,.slice (some ⟨w.heap.size + 1,0,none⟩) c c]) (by simp [results,Tryz.results35,go_sem]) rfl HP.out
end Go.Proofs.YtcondkihpmmnnaaGreatDoor
namespace Go.Proofs.YtcondkihpmmnnaaGreatDoor
def eB:ByteArray:=⟨#[]⟩
def xyB:ByteArray:=⟨#[120,121]⟩
def aS:St:=St.ofM (sOf [97])
def oneT:Fs:=⟨2,[⟨0,eB⟩],[⟨1,eB⟩],[⟨0,1,aS,xyB,false⟩]⟩
theorem aS_m {c:Nat} (h:c < 256):aS.m c = (c == 97):=one_m 97 c h
theorem once1_same {α:Type} [DecidableEq α] {x:α}:∀ l:List α,l≠[]→(∀ y∈l,y = x)→once1 l = [x]
 | [],h,_ => absurd rfl h
 | [a],_,h => by rw [h a List.mem_cons_self]; rfl
 | a :: b :: l,_,h => by
  have e1:=h a List.mem_cons_self
  have e2:=h b (List.mem_cons_of_mem _ List.mem_cons_self)
  unfold once1
  rw [if_pos (e1.trans e2.symm)]
  exact once1_same (b :: l) (by simp) fun y hy => h y (List.mem_cons_of_mem _ hy)
theorem ordT_same {x:Tp} {l:List Tp} (h0:l≠[]) (h:∀ y∈l,y = x):ordT l = [x]:=by
 unfold ordT
 refine once1_same _ ?_ fun y hy => h y ((sortT_mem y l).1 hy)
 obtain ⟨y,hy⟩:=List.exists_mem_of_ne_nil _ h0
 exact List.ne_nil_of_mem ((sortT_mem y l).2 hy)
theorem cut_all (x:ByteArray):x.extract x.size x.size = eB:=by
 apply bl_inj
 rw [bl_cut,← bl_len,List.drop_length]; rfl
theorem stripF_same {x:Tp} {l:List Tp} (h0:l≠[]) (h:∀ y∈l,y = x) (hs:x.out.size≤4096):stripF l = .ok (x.out,[⟨x.st,eB⟩]):=by
 unfold stripF
 rw [ordT_same h0 h]
 have e1:lcpA ([x].map Tp.out) = x.out:=rfl
 have e2:cutT x.out.size x = ⟨x.st,eB⟩:=by unfold cutT; rw [cut_all]
 have e3:twin1 [x] = false:=rfl
 simp only [e1,e3]
 rw [if_neg (by decide),if_neg (by omega),if_neg]
 ·simp [e2]
 ·simp only [List.any_cons,List.any_nil,Bool.or_false,e2]
  decide
section
variable {u:Fs} {a b:Int}
structure One (u:Fs) (a b:Int):Prop where
 ne:a≠b
 s0:u.starts≠[]
 s:∀ y∈u.starts,y = ⟨a,eB⟩
 e0:u.ends≠[]
 e:∀ y∈u.ends,y = ⟨b,eB⟩
 c0:u.arcs≠[]
 c:∀ y∈u.arcs,y = ⟨a,b,aS,xyB,false⟩
theorem one_of {f:Int→Int} (h:Trims oneT u f):One u (f 0) (f 1):=by
 have way:Way oneT.arcs 0 [97] (Ar.put ⟨0,1,aS,xyB,false⟩ 97 ++ []) 1:=.cons ⟨0,1,aS,xyB,false⟩ List.mem_cons_self rfl (by rw [aS_m (by decide)]; rfl) (.nil 1)
 have k0:stOk oneT.n 0:=⟨by decide,by decide⟩
 have k1:stOk oneT.n 1:=⟨by decide,by decide⟩
 have u0:Useful oneT 0:=⟨k0,⟨_,List.mem_cons_self,_,_,.nil 0⟩,⟨_,List.mem_cons_self,_,_,way⟩⟩
 have u1:Useful oneT 1:=⟨k1,⟨_,List.mem_cons_self,_,_,way⟩,⟨_,List.mem_cons_self,_,_,.nil 1⟩⟩
 have p0:=(h.use 0 k0).2 u0
 have p1:=(h.use 1 k1).2 u1
 refine ⟨fun e => absurd (h.inj 0 1 k0 k1 p0 e) (by decide),?_,fun y hy => ?_,?_,fun y hy => ?_,?_,fun y hy => ?_⟩
 ·exact List.ne_nil_of_mem ((h.starts ⟨f 0,eB⟩).2 ⟨⟨0,eB⟩,List.mem_cons_self,p0,rfl⟩)
 ·obtain ⟨x,hx,_,rfl⟩:=(h.starts y).1 hy
  obtain rfl:=List.mem_singleton.1 hx
  rfl
 ·exact List.ne_nil_of_mem ((h.ends ⟨f 1,eB⟩).2 ⟨⟨1,eB⟩,List.mem_cons_self,p1,rfl⟩)
 ·obtain ⟨x,hx,_,rfl⟩:=(h.ends y).1 hy
  obtain rfl:=List.mem_singleton.1 hx
  rfl
 ·exact List.ne_nil_of_mem ((h.arcs ⟨f 0,f 1,aS,xyB,false⟩).2 ⟨⟨0,1,aS,xyB,false⟩,List.mem_cons_self,p0,p1,rfl⟩)
 ·obtain ⟨x,hx,_,_,rfl⟩:=(h.arcs y).1 hy
  obtain rfl:=List.mem_singleton.1 hx
  rfl
section
variable (h:One u a b)
include h
theorem One.behind (c:Nat) (hc:c < 256) (hn:c≠97):behindF u.arcs [⟨a,eB⟩] c = []:=by
 rw [List.eq_nil_iff_forall_not_mem]
 intro y hy
 obtain ⟨x,_,z,hz,_,hm,_⟩:=(behindF_mem y).1 hy
 rw [h.c z hz,aS_m hc,beq_iff_eq] at hm
 exact hn hm
theorem One.behindA:behindF u.arcs [⟨a,eB⟩] 97≠[]∧∀ y∈behindF u.arcs [⟨a,eB⟩] 97,y = ⟨b,xyB⟩:=by
 have hput:eB ++ (Ar.putB ⟨a,b,aS,xyB,false⟩ 97) = xyB:=by
  apply bl_inj
  unfold Ar.putB
  rw [bl_app,bl_app]; rfl
 constructor
 ·obtain ⟨z,hz⟩:=List.exists_mem_of_ne_nil _ h.c0
  exact List.ne_nil_of_mem ((behindF_mem ⟨b,xyB⟩).2 ⟨⟨a,eB⟩,List.mem_singleton.2 rfl,z,hz,by rw [h.c z hz],by rw [h.c z hz,aS_m (by decide)]; rfl,by rw [h.c z hz,hput]⟩)
 ·intro y hy
  obtain ⟨x,hx,z,hz,_,_,rfl⟩:=(behindF_mem y).1 hy
  rw [List.mem_singleton.1 hx,h.c z hz,hput]
theorem One.behindB (c:Nat):behindF u.arcs [⟨b,eB⟩] c = []:=by
 rw [List.eq_nil_iff_forall_not_mem]
 intro y hy
 obtain ⟨x,hx,z,hz,hf,_⟩:=(behindF_mem y).1 hy
 rw [List.mem_singleton.1 hx,h.c z hz] at hf
 exact h.ne hf
theorem One.bytesB (rows:List (List Tp)):∀ k,bytesF u.arcs 5 [⟨b,eB⟩] rows k = .ok (rows,List.replicate k (-1),List.replicate k ByteArray.empty)
 | 0 => rfl
 | k + 1 => by
  unfold bytesF
  rw [One.bytesB rows k]
  simp only
  unfold byteF
  rw [h.behindB k]
  simp only [List.replicate_succ']
theorem One.bytesA:∀ k,k≤97→bytesF u.arcs 5 [⟨a,eB⟩] [[⟨a,eB⟩]] k = .ok ([[⟨a,eB⟩]],List.replicate k (-1),List.replicate k ByteArray.empty)
 | 0,_ => rfl
 | k + 1,hk => by
  unfold bytesF
  rw [One.bytesA k (by omega)]
  simp only
  unfold byteF
  rw [h.behind k (by omega) (by omega)]
  simp only [List.replicate_succ']
def nextA (k:Nat):List Int:=List.replicate 97 (-1) ++ [1] ++ List.replicate k (-1)
def outsA1 (k:Nat):List ByteArray:=List.replicate 97 ByteArray.empty ++ [xyB] ++ List.replicate k ByteArray.empty
set_option maxRecDepth 4000 in
theorem One.bytesA2:∀ k,k≤158→bytesF u.arcs 5 [⟨a,eB⟩] [[⟨a,eB⟩]] (98 + k) = .ok ([[⟨a,eB⟩],[⟨b,eB⟩]],nextA k,outsA1 k)
 | 0,_ => by
  show bytesF u.arcs 5 [⟨a,eB⟩] [[⟨a,eB⟩]] (97 + 1) = _
  unfold bytesF
  rw [h.bytesA 97 (Nat.le_refl _)]
  simp only
  unfold byteF
  obtain ⟨h1,h2⟩:=h.behindA
  have hst:=stripF_same h1 h2 (show xyB.size≤4096 by decide)
  rcases hb:behindF u.arcs [⟨a,eB⟩] 97 with _ | ⟨x,r⟩
  ·exact absurd hb h1
  ·rw [hb] at hst
   simp only [hst]
   have hne:¬ ((⟨a,eB⟩:Tp) = ⟨b,eB⟩):=fun e => h.ne (Tp.mk.inj e).1
   have hsf:stateF 5 [[⟨a,eB⟩]] [⟨b,eB⟩] = .ok (1,[[⟨a,eB⟩],[⟨b,eB⟩]]):=by
    unfold stateF
    have:List.idxOf? [(⟨b,eB⟩:Tp)] [[⟨a,eB⟩]] = none:=by
     rw [List.idxOf?_eq_none_iff]
     intro e
     rw [List.mem_singleton] at e
     injection e with e
     exact hne e.symm
    rw [this]
    rfl
   rw [hsf]
   unfold nextA outsA1
   rw [List.replicate_zero,List.replicate_zero,List.append_nil,List.append_nil]
   simp only [show ((1:Nat):Int) = 1 from rfl]
 | k + 1,hk => by
  show bytesF u.arcs 5 [⟨a,eB⟩] [[⟨a,eB⟩]] (98 + k + 1) = _
  unfold bytesF
  rw [One.bytesA2 k (by omega)]
  simp only
  unfold byteF
  rw [h.behind (98 + k) (by omega) (by omega)]
  simp only [nextA,outsA1,List.replicate_succ',List.append_assoc]
theorem One.tailA:tailF u.ends [⟨a,eB⟩] = .ok (false,ByteArray.empty):=by
 unfold tailF
 have:([(⟨a,eB⟩:Tp)].flatMap fun x => (u.ends.filter fun z => z.st == x.st).map fun z => x.out ++ z.out) = []:=by
  rw [List.eq_nil_iff_forall_not_mem]
  intro y hy
  simp only [List.flatMap_cons,List.flatMap_nil,List.append_nil,List.mem_map,List.mem_filter,beq_iff_eq] at hy
  obtain ⟨z,⟨hz,e⟩,_⟩:=hy
  rw [h.e z hz] at e
  exact h.ne e.symm
 rw [this]
theorem One.tailB:tailF u.ends [⟨b,eB⟩] = .ok (true,eB):=by
 unfold tailF
 have hall:∀ y∈([(⟨b,eB⟩:Tp)].flatMap fun x => (u.ends.filter fun z => z.st == x.st).map fun z => x.out ++ z.out),y = eB:=by
  intro y hy
  simp only [List.flatMap_cons,List.flatMap_nil,List.append_nil,List.mem_map,List.mem_filter,beq_iff_eq] at hy
  obtain ⟨z,⟨hz,_⟩,rfl⟩:=hy
  rw [h.e z hz]
  apply bl_inj
  rw [bl_app]; rfl
 have hne:([(⟨b,eB⟩:Tp)].flatMap fun x => (u.ends.filter fun z => z.st == x.st).map fun z => x.out ++ z.out)≠[]:=by
  obtain ⟨z,hz⟩:=List.exists_mem_of_ne_nil _ h.e0
  refine List.ne_nil_of_mem (a:=eB ++ z.out) ?_
  simp only [List.flatMap_cons,List.flatMap_nil,List.append_nil,List.mem_map,List.mem_filter,beq_iff_eq]
  exact ⟨z,⟨hz,by rw [h.e z hz]⟩,rfl⟩
 rcases hl:([(⟨b,eB⟩:Tp)].flatMap fun x => (u.ends.filter fun z => z.st == x.st).map fun z => x.out ++ z.out) with _ | ⟨s,r⟩
 ·exact absurd hl hne
 ·rw [hl] at hall
  have e1:=hall s List.mem_cons_self
  subst e1
  rw [hl]
  simp only
  rw [if_pos,if_neg (by decide)]
  rw [List.all_eq_true]
  intro t ht
  rw [hall t (List.mem_cons_of_mem _ ht)]
  first | exact beq_self_eq_true _ | rfl | decide
def q1:SeqM:=⟨eB,[nextA 158,List.replicate 256 (-1)],[outsA1 158,List.replicate 256 ByteArray.empty],[false,true],[ByteArray.empty,eB]⟩
theorem One.all:allF u 5 = .ok q1:=by
 have hst:=stripF_same h.s0 h.s (show eB.size≤4096 by decide)
 unfold allF
 rcases hs:u.starts with _ | ⟨x,r⟩
 ·exact absurd hs h.s0
 ·rw [hs] at hst
  simp only [hst]
  have hsf:stateF 5 [] [(⟨a,eB⟩:Tp)] = .ok (0,[[⟨a,eB⟩]]):=rfl
  rw [hsf]
  have d0:doF u 5 ⟨[[⟨a,eB⟩]],[],[],[],[]⟩ 0 = .ok ⟨[[⟨a,eB⟩],[⟨b,eB⟩]],[nextA 158],[outsA1 158],[false],[ByteArray.empty]⟩:=by
   unfold doF
   have e0:([[(⟨a,eB⟩:Tp)]].getD 0 []) = [⟨a,eB⟩]:=rfl
   simp only [e0]
   rw [h.tailA]
   have hb:=h.bytesA2 158 (Nat.le_refl _)
   rw [show 98 + 158 = 256 from rfl] at hb
   simp only [hb]
   rfl
  have d1:doF u 5 ⟨[[⟨a,eB⟩],[⟨b,eB⟩]],[nextA 158],[outsA1 158],[false],[ByteArray.empty]⟩ 1 = .ok ⟨[[⟨a,eB⟩],[⟨b,eB⟩]],[nextA 158,List.replicate 256 (-1)],[outsA1 158,List.replicate 256 ByteArray.empty],[false,true],[ByteArray.empty,eB]⟩:=by
   unfold doF
   have e0:([[(⟨a,eB⟩:Tp)],[⟨b,eB⟩]].getD 1 []) = [⟨b,eB⟩]:=rfl
   simp only [e0]
   rw [h.tailB]
   have hb:=h.bytesB [[⟨a,eB⟩],[⟨b,eB⟩]] 256
   simp only [hb]
   rfl
  have hl:loopF u 5 5 0 ⟨[[⟨a,eB⟩]],[],[],[],[]⟩ = .ok ⟨[[⟨a,eB⟩],[⟨b,eB⟩]],[nextA 158,List.replicate 256 (-1)],[outsA1 158,List.replicate 256 ByteArray.empty],[false,true],[ByteArray.empty,eB]⟩:=by
   unfold loopF
   rw [if_pos (by show 0 < 1; decide),d0]
   simp only
   unfold loopF
   rw [if_pos (by show 1 < 2; decide),d1]
   simp only
   unfold loopF
   rw [if_neg (by show ¬ 2 < 2; decide)]
  simp only [hl]
  rfl
end
end
theorem q1_ck:ckB q1 = true:=by decide +kernel
theorem q1_nx:∀ b,b < 256→b≠97→q1.nx 0 b = -1:=by decide +kernel
theorem q1_nx1:∀ b,b < 256→q1.nx 1 b = -1:=by decide +kernel
theorem q1_a:q1.nx 0 97 = 1∧q1.os 0 97 = xyB:=⟨by decide +kernel,by decide +kernel⟩
theorem q1_one:q1.runL 1 [] = some []:=by decide +kernel
theorem q1_two:q1.runL 0 [97] = some [120,121]:=by decide +kernel
theorem q1_run:q1.run [97] = some [120,121]:=by decide +kernel
theorem q1_only {w o:List UInt8} (h:q1.run w = some o):w = [97]∧o = [120,121]:=by
 have hw:w = [97]:=by
  unfold SeqM.run at h
  rw [if_neg (by decide)] at h
  rcases w with _ | ⟨c,w⟩
  ·have:q1.runL 0 [] = none:=by decide +kernel
   rw [this] at h; cases h
  ·by_cases hc:c.toNat = 97
   ·have hc':c = 97:=UInt8.toNat.inj hc
    subst hc'
    rcases w with _ | ⟨d,w⟩
    ·rfl
    ·have e:q1.runL 0 (97 :: d :: w) = none:=by
       unfold SeqM.runL
       rw [show (97:UInt8).toNat = 97 from rfl,q1_a.1,if_neg (by decide)]
       unfold SeqM.runL
       rw [show (1:Int).toNat = 1 from rfl,q1_nx1 _ d.toNat_lt,if_pos (by decide)]
       rfl
     rw [e] at h; cases h
   ·have e:q1.runL 0 (c :: w) = none:=by
      unfold SeqM.runL
      rw [q1_nx _ c.toNat_lt hc,if_pos (by decide)]
    rw [e] at h; cases h
 subst hw
 rw [q1_run] at h
 exact ⟨rfl,(Option.some.inj h).symm⟩
theorem q1_short {k:Frt} (hf:Fronts q1 k):¬ LongQ q1 k:=by
 have b0:k.some 0 = true→(k.l 0).size≤2:=fun hs => by
  have:=(hf.beg 0 (by decide) hs _ ⟨[97],q1_two⟩).length_le
  rwa [bl_len] at this
 have b1:k.some 1 = true→(k.l 1).size≤2:=fun hs => by
  have:=(hf.beg 1 (by decide) hs _ ⟨[],q1_one⟩).length_le
  rw [bl_len] at this
  exact Nat.le_trans this (by decide)
 rintro (⟨s,b,hs,hb,h0,hk,hl⟩ | ⟨hs,hl⟩)
 ·have hs':s = 0∨s = 1:=by
    have:q1.next.length = 2:=rfl
    omega
  rcases hs' with rfl | rfl
  ·by_cases h97:b = 97
   ·subst h97
    rw [q1_a.1,show (1:Int).toNat = 1 from rfl] at hk hl
    have:=b1 hk
    have h2:(q1.os 0 97).size = 2:=by rw [q1_a.2]; rfl
    omega
   ·rw [q1_nx b hb h97] at h0; omega
  ·rw [q1_nx1 b hb] at h0; omega
 ·have:=b0 hs
  have h2:q1.front.size = 0:=rfl
  omega
theorem made_front {r:SeqM} (hc:Canon r) (hr:∀ x,r.run x = q1.run x):r.front = xyB:=by
 have hrun:∀ w,r.run w = (r.runL 0 w).map (bl r.front ++ ·):=fun w => by
  unfold SeqM.run
  rw [if_neg (by have:=hc.pos; omega)]
 obtain ⟨o,w,ho⟩:=hc.tight.live 0 hc.pos
 have h1:=hrun w
 rw [ho,hr] at h1
 obtain ⟨_,h2⟩:=q1_only h1
 replace h2:bl r.front ++ o = [120,121]:=h2
 have hbeg:Beg r 0 o:=fun o' ⟨w',ho'⟩ => by
  have h3:=hrun w'
  rw [ho',hr] at h3
  obtain ⟨_,h4⟩:=q1_only h3
  replace h4:bl r.front ++ o' = [120,121]:=h4
  have:o = o':=List.append_cancel_left (h2.trans h4.symm)
  rw [this]; exact List.prefix_refl _
 have h5:=hc.tight.none 0 hc.pos o hbeg
 rw [h5,List.append_nil] at h2
 exact bl_inj h2
end Go.Proofs.YtcondkihpmmnnaaGreatDoor
