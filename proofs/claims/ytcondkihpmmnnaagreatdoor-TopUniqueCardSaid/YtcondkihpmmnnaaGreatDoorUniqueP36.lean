/- Lemmas, part 36 of 39. No condition. -/
import Derived.Test.YtcondkihpmmnnaaGreatDoorUniqueP30
import Derived.Test.YtcondkihpmmnnaaGreatDoorUniqueP35
import Derived.Test.YtcondkihpmmnnaaGreatDoorUniqueP31
import Derived.Test.YtcondkihpmmnnaaGreatDoorUniqueP29
import Derived.Test.YtcondkihpmmnnaaGreatDoorUniqueP33
import Derived.Test.YtcondkihpmmnnaaGreatDoorUniqueP08
import Derived.Test.YtcondkihpmmnnaaGreatDoorUniqueP34
import Derived.Test.YtcondkihpmmnnaaGreatDoorUniqueP06
import Derived.Test.YtcondkihpmmnnaaGreatDoorUniqueP15
namespace Go.Proofs.YtcondkihpmmnnaaGreatDoor
open Go.RowKit Go.Sort
set_option maxRecDepth 100000 in
set_option maxHeartbeats 16000000 in
theorem parts_any (q:SeqM) (v:Value) (B n:Nat) (w:World) (HS:SeqAt w B q v) (hB:B≤w.heap.size) (hck:ckB q = true) (hn:q.next.length = n) (hP:Pow w w.heap.size) (hq:Tight q) :
    Calls Tryz.prog 34 #[v] w (PartsPost q n w):=by
 have HS0:=Lib.hid HS
 obtain ⟨A1,c1,A2,c2,A3,c3,A4,c4,rfl,hf,l1,l2,l3,l4,m1,m2,m3,m4,R1,hz,R2,hsz,R3,R4,htl⟩:=HS
 obtain ⟨p1,p2,p3,p4,p5,p6⟩:=ck_parts hck
 have HP6:=Lib.hid p6
 have HCk:=Lib.hid (fun s b (hs:s < n) (hb:b < 256) => ckB_nx hck (s:=s) (by rw [hn]; exact hs) hb)
 rw [p2,p3,p4] at HS0
 rw [p2,p3,p4]
 rw [hn] at p1 l1 R1 HS0 ⊢
 have Hn:=Lib.hid (And.intro hn (And.intro hck hq))
 generalize q.front = fr at *
 generalize hW0:w.alloc (.cells #[.string fr,.slice A1 n c1,.slice A2 n c2,.slice A3 n c3,.slice A4 n c4] 27) = W0 at *
 have K:Blk W0 w.heap.size 27 #[.string fr,.slice A1 n c1,.slice A2 n c2,.slice A3 n c3,.slice A4 n c4]:=by rw [← hW0]; exact Blk.new w _ _
 have LB:Below w.heap.size w W0:=by rw [← hW0]; exact (Below.refl w.heap.size w).alloc (Nat.le_refl _) _
 have hz0:W0.heap.size = w.heap.size + 1:=by rw [← hW0]; simp
 have HPW:=Lib.hid ((hP.below LB).mono (show w.heap.size≤W0.heap.size by omega))
 have k1:=K.cell 1
 obtain ⟨i0,hi,hy0,hy1,hy2⟩:=info_parts int_infoS
 have hbb:i0.bytes * n≤281474976710656:=by rw [hy2]; omega
 have hmx:n≤maxLen:=by unfold maxLen; omega
 have HR1:=Lib.hid R1
 have hmm:=@run_makeMap Tryz.prog
 clear R2 R3 R4 hz hsz htl p2 p3 p4 p5 p6 hck hn l2 l3 l4 R1 hP
 go_enter Tryz.func34,Tryz.ntmps34
 go_upto_region 2 with (at_make; refine wpList_make_full _ rfl _ _ 55 rfl W0.heap.size 3 i0 _ 1 Tryz.underlying55 hi hy0 hy1 _ _ (n:Int) (n:Int) n rfl rfl rfl rfl hbb hmx (Nat.le_refl _) ?_; intro w2 hown hgr)
 have hgb:=(Below.refl W0.heap.size W0).grown hgr (Nat.le_refl _) (fun k e => by cases e)
 rw [show (Value.int .i64 0).cells = #[Value.int .i64 0] from rfl,Nat.mul_one,toList_madeCells_one] at hown
 have hL:=blk_of_made hown
 rw [iV_zero,hz0] at hL
 have h1:PrtW W0 ((w2.alloc (.map #[] 0)).alloc (.cells #[.map (some w2.heap.size)] 146)) n (w.heap.size + 1) (w2.heap.size + 1) w2.heap.size (fun _ => 0) []:={
  l:=(hL.alloc _).alloc _
  x:=by
   have:=Blk.new (w2.alloc (.map #[] 0)) 146 #[.map (some w2.heap.size)]
   rwa [World.size_alloc] at this
  num:=(Num.made w2).below ((Below.refl _ (w2.alloc (.map #[] 0))).alloc (Nat.le_refl _) _) (Nat.le_refl _)
  bl:=by omega
  bx:=by have:=hgb.size; omega
  bm:=hgb.size
  bel:=(hgb.alloc hgb.size _).alloc (by have:=hgb.size; simp; omega) _ }
 have HP1:=Lib.hid h1
 clear hown hgr hgb hL h1 k1
 generalize (w2.alloc (.map #[] 0)).alloc (.cells #[.map (some w2.heap.size)] 146) = w3 at *
 generalize hgx:w2.heap.size + 1 = gx at *
 generalize w2.heap.size = bm at *
 generalize hgl:w.heap.size + 1 = gl at *
 go_wp2
 go_loopw [22] (fun i wr => ∃ (s:Nat) (m:Nat→Nat) (ks:List (List UInt8)),s≤n∧i = .int .i64 (s:Int)∧PrtW W0 wr n gl gx bm m ks∧NumI (plainK q) s m ks∧ks.length≤s∧∀ z,m z≤2000) (fun i _ => n - (intOf i).toNat)
 case atStart => exact ⟨0,_,_,Nat.zero_le _,rfl,HP1.out,NumI.start _ _,Nat.le_refl _,fun z => Nat.zero_le _⟩
 case round =>
  clear HP1
  obtain ⟨s,m,ks,hs,rfl,HW,hI,hkl,hml⟩:=hrel
  have HI:=Lib.hid hI
  have Hm:=Lib.hid hml
  clear hI hml
  have hwr:Below w.heap.size w wr:=LB.trans (HW.bel.mono (by omega))
  have hbz:=HW.bel.size
  by_cases hlt:s < n
  ·have hi1:(0:Int)≤(s:Int):=by omega
   have hi2:(s:Int) < (n:Int):=by omega
   have hKr:=K.below HW.bel (by omega)
   have k0:=hKr.cell 0
   have k1:=hKr.cell 1
   have k2:=hKr.cell 2
   have k3:=hKr.cell 3
   have k4:=hKr.cell 4
   have hpl:=plain_any q _ B s n wr (HS0.out.below (hwr.mono hB)) (by omega) Hn.out.2.1 Hn.out.1 hlt ((HPW.out.below HW.bel).mono hbz)
   have hkl2:=plainN_len (q:=q) (s:=s) ((HCk.out s 0 hlt (by decide)).2.2.2.2.1) (fun c hc => (HCk.out s c hlt hc).2.2.1) 256 (Nat.le_refl _)
   have hkl3:(plainK q s).length≤maxLen:=by unfold plainK maxLen; omega
   have Hpl:=Lib.hid hpl
   have HPut:=Lib.hid (fun (i:Nat) hi => HI.out.put (i:=i) hi)
   clear hpl hkl2 hKr
   generalize plainK q s = kk at *
   go_wp2_with fail
   refine Hpl.out.mono ?_
   rintro e w5 ⟨rfl,hb5⟩
   have HW5:=HW.call hb5
   have c5:=HW5.x.cell 0
   clear HW k0 k1 k2 k3 k4
   go_wp2_with fail
   refine (of_num gx bm ks kk w5 c5 HW5.num hkl3 (by omega)).mono ?_
   rintro e w6 ⟨i,rfl,hg6,hn6,hi6⟩
   have HW6:=HW5.num_ hg6 hn6
   have HPi:=Lib.hid (HPut.out i hi6)
   have hpl6:=putK_len ks kk
   have hi7:i < (putK ks kk).length:=by
    rcases Nat.lt_or_ge i (putK ks kk).length with e | e
    ·exact e
    ·rw [List.getElem?_eq_none e] at hi6; cases hi6
   have x1:=(HW6.l.cell s).trans (iV_at _ hlt)
   have x2:=HW6.l.frozen s
   have HW7:=Lib.hid (HW6.set s i hlt)
   clear HW5 HW6 c5 hg6 hn6 hi6
   go_wp2
   go_roundw
   case rel => exact ⟨s + 1,_,_,by omega,by go_num,HW7.out,HPi.out,by omega,fun z => by
    by_cases e:z = s
    ·simp only [e,if_true]; omega
    ·simp only [e,if_false]; exact Hm.out z⟩
   case measure => simp [intOf]; omega
  ·obtain rfl:n = s:=by omega
   have HWl:=Lib.hid (And.intro HW.l HW.bel)
   have c0:=HW.x.cell 0
   obtain ⟨nn,D,hown,hnl,htd,hism,hsz,hnd,hks⟩:=HW.num
   have HPI:=Lib.hid (PartI.start Hn.out.2.2 Hn.out.1 (HI.out.done hnd))
   have hcn:ks.length≤n:=hkl
   have hbl:=HW.bl
   clear HW hks hnd hism htd HI
   go_upto_region 8 with (at_len; refine wpList_len_own _ rfl _ 76 rfl 9 3 Tryz.underlying76 _ bm nn D rfl hown ?_; rw [hsz])
   go_loopw [4,7] (fun lv cv wr => ∃ (l:Nat→Nat) (c g:Nat),lv = .slice (some ⟨g,0,none⟩) n n∧cv = .int .i64 (c:Int)∧Blk wr g 3 (iV l n)∧Below W0.heap.size W0 wr∧W0.heap.size≤g∧PartI q n l c∧∀ z,l z≤2000) (fun _ cv _ => n + 1 - (intOf cv).toNat)
   case atStart => exact ⟨m,ks.length,gl,rfl,rfl,HWl.out.1,HWl.out.2,hbl,HPI.out,Hm.out⟩
   case round =>
    clear HWl HPI Hm c0 hsz hown
    obtain ⟨l,c,g,rfl,rfl,HL,HBw,hgW,HPl,hll⟩:=hrel
    obtain ⟨R0,hR0⟩:∃ W,W = wr:=⟨_,rfl⟩
    subst hR0
    have HPI:=Lib.hid HPl
    have Hll:=Lib.hid hll
    have hzR:=HBw.size
    have hcn:=onto_le HPl.onto
    have hgR:=HL.lt
    have hwR:Below w.heap.size w R0:=LB.trans (HBw.mono (by omega))
    clear HPl hll
    go_upto_region 9 with (at_make; refine wpList_make_full _ rfl _ _ 55 rfl R0.heap.size 3 i0 _ 1 Tryz.underlying55 hi hy0 hy1 _ _ (n:Int) (n:Int) n rfl rfl rfl rfl hbb hmx (Nat.le_refl _) ?_; intro w2 hown hgr)
    have hgb:=(Below.refl R0.heap.size R0).grown hgr (Nat.le_refl _) (fun k e => by cases e)
    rw [show (Value.int .i64 0).cells = #[Value.int .i64 0] from rfl,Nat.mul_one,toList_madeCells_one] at hown
    have hL:=blk_of_made hown
    rw [iV_zero] at hL
    have h1:PrtW R0 ((w2.alloc (.map #[] 0)).alloc (.cells #[.map (some w2.heap.size)] 146)) n R0.heap.size (w2.heap.size + 1) w2.heap.size (fun _ => 0) []:={
     l:=(hL.alloc _).alloc _
     x:=by
      have:=Blk.new (w2.alloc (.map #[] 0)) 146 #[.map (some w2.heap.size)]
      rwa [World.size_alloc] at this
     num:=(Num.made w2).below ((Below.refl _ (w2.alloc (.map #[] 0))).alloc (Nat.le_refl _) _) (Nat.le_refl _)
     bl:=Nat.le_refl _
     bx:=by have:=hgb.size; omega
     bm:=hgb.size
     bel:=(hgb.alloc hgb.size _).alloc (by have:=hgb.size; simp; omega) _ }
    have HP1:=Lib.hid h1
    have HRL:=Lib.hid (fun (W:World) (hb:Below R0.heap.size R0 W) => HL.below hb hgR)
    have HRK:=Lib.hid (fun (W:World) (hb:Below R0.heap.size R0 W) => (K.below (HBw.trans (hb.mono hzR)) (by omega)))
    have HRB:=Lib.hid (fun (W:World) (hb:Below R0.heap.size R0 W) => HBw.trans (hb.mono hzR))
    clear hown hgr hgb hL h1
    generalize (w2.alloc (.map #[] 0)).alloc (.cells #[.map (some w2.heap.size)] 146) = w3 at *
    generalize hgx:w2.heap.size + 1 = gx at *
    generalize w2.heap.size = bm at *
    go_wp2
    go_loopw [43] (fun i wr => ∃ (s:Nat) (m:Nat→Nat) (ks:List (List UInt8)),s≤n∧i = .int .i64 (s:Int)∧PrtW R0 wr n R0.heap.size gx bm m ks∧NumI (keyK q l) s m ks∧ks.length≤s∧∀ z,m z≤2000) (fun i _ => n - (intOf i).toNat)
    case atStart => exact ⟨0,_,_,Nat.zero_le _,rfl,HP1.out,NumI.start _ _,Nat.le_refl _,fun z => Nat.zero_le _⟩
    case round =>
     clear HP1
     obtain ⟨s,m,ks,hs,rfl,HW,hI,hkl,hml⟩:=hrel
     have HI:=Lib.hid hI
     have Hm:=Lib.hid hml
     clear hI hml
     have hbz:=HW.bel.size
     by_cases hlt:s < n
     ·have hi1:(0:Int)≤(s:Int):=by omega
      have hi2:(s:Int) < (n:Int):=by omega
      have hLr:=HRL.out _ (HW.bel)
      have x1:=(hLr.cell s).trans (iV_at _ hlt)
      have x1':=cell_regrown x1
      have hls:=Hll.out s
      have hk0:=enc2_cells hls
      have HKn:=Lib.hid (show keyN q l s 0 = enc2 (l s) by unfold keyN; simp)
      generalize hlse:l s = ls at *
      have Hlse:=Lib.hid hlse
      clear hlse
      go_wp2
      refine wp_region_hold_below 12 [0,1,2,3,4,5,6,7,8,9,10] [11] (by kernel_rfl) (by kernel_rfl) rfl (by kernel_rfl) ?_
      simp only [pickOps,List.getElem?_cons_zero,List.getElem?_cons_succ,List.drop_succ_cons,List.drop_zero]
      repeat (go_big_quiet_step (fail))
      refine wpQuiet_nil ?_
      refine wpForce_step rfl (fun KK hKK => ?_)
      go_simp
      have LA:Below wr.heap.size wr (wr.alloc (.cells #[.int .u8 ((ls:Int) / 256),.int .u8 ((ls:Int) % 256)] 5)).drew:=((Below.refl _ wr).alloc (Nat.le_refl _) _).drew
      refine hKK _ _ (regrown_of_below LA) ?_
      clear hKK KK
      refine wpForce_nil ?_
      have hO:(wr.alloc (.cells #[.int .u8 ((ls:Int) / 256),.int .u8 ((ls:Int) % 256)] 5)).drew.ownsRow R0.heap.size 5 1 (.slice (some ⟨wr.heap.size,0,none⟩) 2 2) 2 [.int .u8 ((ls:Int) / 256),.int .u8 ((ls:Int) % 256)] :=
       own_ofBlk hbz (Blk.new wr 5 #[.int .u8 ((ls:Int) / 256),.int .u8 ((ls:Int) % 256)]) (by unfold maxLen; simp)
      have HW1:=HW.call LA
      have HWd:=Lib.hid HW1
      clear HW1 HW LA x1 x1' hLr
      generalize (wr.alloc (.cells #[.int .u8 ((ls:Int) / 256),.int .u8 ((ls:Int) % 256)] 5)).drew = w4 at *
      generalize wr.heap.size = gk at *
      rw [← hk0,← HKn.out] at hO
      have HO:=Lib.hid hO
      clear hO
      go_wp2
      refine NoPanic.normal ?_
      have k1:=(HRK.out _ (HWd.out.bel)).cell 1
      obtain ⟨g1,o1,A1',d1,rfl,hg1,x0,Q0,y1,z1⟩:=HR1.out.at_ s hlt
      have hbw4:Below B w w4:=(hwR.trans ((HWd.out.bel).mono (by omega))).mono hB
      have x1:=(hbw4.cell (p:=⟨g1,o1 + s,none⟩) (by show g1 < B; exact hg1)).trans x0
      have e1:(q.next.map fun r => r.map (Value.int .i64)).getD s [] = (q.next.getD s []).map (Value.int .i64):=by
       rw [List.getD_eq_getElem?_getD,List.getD_eq_getElem?_getD,List.getElem?_map]
       cases q.next[s]? <;> rfl
      rw [e1] at x1 Q0 y1
      simp only [List.length_map] at x1 Q0 y1
      rw [(HP6.out s (by rw [Hn.out.1]; exact hlt)).1] at x1 Q0 y1
      have HNr:=Lib.hid (fun (W:World) (hb:Below w.heap.size w W) => Q0.below (hb.mono hB))
      clear x0 Q0 e1 hbw4
      go_wp2
      clear k1 x1
      go_loopw [11,64] (fun kv i wr => ∃ (b:Nat) (kw:Value),kw = kv∧b≤256∧i = .int .i64 (b:Int)∧PrtW R0 wr n R0.heap.size gx bm m ks∧wr.ownsRow R0.heap.size 5 1 kw (keyN q l s b).length (Lib.byteCells (keyN q l s b))) (fun _ i _ => 256 - (intOf i).toNat)
      case atStart =>
       refine ⟨0,_,rfl,Nat.zero_le _,rfl,HWd.out,?_⟩
       have h2:(keyN q l s 0).length = 2:=by rw [HKn.out]; rfl
       rw [h2]; exact HO.out
      case round =>
       clear HO HWd
       obtain ⟨b,kw,rfl,hb,rfl,HW,hO⟩:=hrel
       have hbz':=HW.bel.size
       have hW:Below w.heap.size w wr:=hwR.trans (HW.bel.mono (by omega))
       have hkl2:=keyN_len q l s b
       have Hsuc:=Lib.hid (keyN_next q l s b)
       by_cases hltb:b < 256
       ·have hb1:(0:Int)≤(b:Int):=by omega
        have hb2:(b:Int) < 256:=by omega
        obtain ⟨z0,z1',_⟩:=HCk.out s b hlt hltb
        rw [Hn.out.1] at z1'
        obtain ⟨h1,q1,rfl,hh1,r1⟩:=cell_at (d:=0) (HNr.out wr hW) b hltb
        have hnx:(q.next.getD s []).getD b 0 = q.nx s b:=rfl
        rw [hnx] at r1
        by_cases hneg:q.nx s b < 0
        ·have hc:=Lib.hid (show keyN q l s (b + 1) = keyN q l s b by rw [Hsuc.out]; unfold keyB; rw [if_pos hneg,List.append_nil])
         have hge:¬ q.nx s b ≥ 0:=by omega
         generalize q.nx s b = z at *
         go_wp2
         go_roundw
         case rel => exact ⟨b + 1,_,rfl,by omega,by go_num,HW,by rw [hc.out]; exact hO⟩
         case measure => simp [intOf]; omega
        ·obtain ⟨z,hz⟩:∃ z:Nat,q.nx s b = (z:Int):=⟨_,(Int.toNat_of_nonneg (by omega)).symm⟩
         have hzn:z < n:=by omega
         have hc:=Lib.hid (show keyN q l s (b + 1) = keyN q l s b ++ enc2 (l z) by rw [Hsuc.out]; unfold keyB; rw [if_neg hneg,hz,Int.toNat_natCast])
         rw [hz] at r1 hneg
         have hzi1:(0:Int)≤(z:Int):=by omega
         have hzi2:(z:Int) < (n:Int):=by omega
         have hge:(z:Int) ≥ 0:=by omega
         have x1:=((HRL.out _ HW.bel).cell z).trans (iV_at _ hzn)
         have x1':=cell_regrown x1
         have hlz:=Hll.out z
         have hk0:=enc2_cells hlz
         generalize l z = lz at *
         have Hk0:=Lib.hid hk0
         clear hz hk0
         generalize keyN q l s b = acc at *
         go_wp2
         refine wp_region_hold_below 13 [0,1,2,3,4,5,6,7,8,9,10,11] [12] (by kernel_rfl) (by kernel_rfl) rfl (by kernel_rfl) ?_
         simp only [pickOps,List.getElem?_cons_zero,List.getElem?_cons_succ,List.drop_succ_cons,List.drop_zero]
         repeat (go_big_quiet_step (fail))
         refine wpQuiet_nil ?_
         refine wpForce_step rfl (fun KK hKK => ?_)
         go_simp
         have LA:Below wr.heap.size wr (wr.alloc (.cells #[.int .u8 ((lz:Int) / 256),.int .u8 ((lz:Int) % 256)] 5)).drew:=((Below.refl _ wr).alloc (Nat.le_refl _) _).drew
         refine hKK _ _ (regrown_of_below LA) ?_
         clear hKK KK
         refine wpForce_nil ?_
         have HWa:=HW.call LA
         have hOa:=own_below hO LA
         have hrd:=(reads_allocK wr [.int .u8 ((lz:Int) / 256),.int .u8 ((lz:Int) % 256)] 5 1 2 rfl).drew
         obtain ⟨i1,t0,t1,t2,t3⟩:=info_parts byte_info
         have hone:∀ u∈[Value.int .u8 ((lz:Int) / 256),Value.int .u8 ((lz:Int) % 256)],u.oneCell' = true:=fun u hu => by
          simp at hu
          rcases hu with rfl | rfl <;> rfl
         have h63:acc.length + 2≤maxLen:=by unfold maxLen; omega
         have hby:(acc.length + 2) * 1≤140737488355328:=by omega
         have hbs:=HWa.bel.size
         have hcast:=Lib.hid (fun (W:World) (v':Value) (h:W.ownsRow R0.heap.size 5 1 v' (acc.length + 2) (Lib.byteCells acc ++ [.int .u8 ((lz:Int) / 256),.int .u8 ((lz:Int) % 256)])) => show W.ownsRow R0.heap.size 5 1 v' (keyN q l s (b + 1)).length (Lib.byteCells (keyN q l s (b + 1))) by
          rw [hc.out,Lib.byteCells_append,Hk0.out,List.length_append]; exact h)
         clear HW hO LA r1 x1 x1'
         go_wp2_with (at_builtin; refine wpList_append_any _ rfl _ _ 81 rfl R0.heap.size 5 i1 _ 1 1 Tryz.underlying81 t0 t1 t2 t3 rfl (by decide) _ _ _ rfl hOa _ (some ⟨wr.heap.size,0,none⟩) 2 2 [.int .u8 ((lz:Int) / 256),.int .u8 ((lz:Int) % 256)] rfl hrd hone h63 hby hbs ?_; intro v' w7 hown hgrow hloc)
         refine NoPanic.normal ?_
         go_wp2
         go_roundw
         case rel => exact ⟨b + 1,_,rfl,by omega,by go_num,HWa.row hOa hgrow,hcast.out _ _ hown⟩
         case measure => simp [intOf]; omega
       ·obtain rfl:b = 256:=by omega
        have hkk:keyN q l s 256 = keyK q l s:=rfl
        rw [hkk] at hO hkl2
        obtain ⟨Ak,ck,rfl,hk1,hk2,hk3⟩:=own_form hO
        have HPut:=Lib.hid (fun (i:Nat) hi => HI.out.put (i:=i) hi)
        have hpos:0 < (keyK q l s).length:=by
         have h1:keyK q l s = enc2 (l s) ++ (List.range 256).flatMap (keyB q l s):=rfl
         rw [h1,List.length_append,show (enc2 (l s)).length = 2 from rfl]; omega
        obtain ⟨gz,rfl,hgz1,hgz2⟩:=hk3 hpos
        have hcv:=own_string hO
        have hkl3:(keyK q l s).length≤maxLen:=by unfold maxLen; omega
        have c5:=HW.x.cell 0
        clear Hsuc hkk hO
        generalize keyK q l s = kk at *
        go_wp2_with fail
        refine (of_num gx bm ks kk wr c5 HW.num hkl3 (by omega)).mono ?_
        rintro e w6 ⟨i,rfl,hg6,hn6,hi6⟩
        have HW6:=HW.num_ hg6 hn6
        have HPi:=Lib.hid (HPut.out i hi6)
        have hpl6:=putK_len ks kk
        have hi7:i < (putK ks kk).length:=by
         rcases Nat.lt_or_ge i (putK ks kk).length with e | e
         ·exact e
         ·rw [List.getElem?_eq_none e] at hi6; cases hi6
        have x1:=(HW6.l.cell s).trans (iV_at _ hlt)
        have x2:=HW6.l.frozen s
        have HW7:=Lib.hid (HW6.set s i hlt)
        clear HW HW6 c5 hg6 hn6 hi6 hcv
        go_wp2
        go_roundw
        case rel => exact ⟨s + 1,_,_,by omega,by go_num,HW7.out,HPi.out,by omega,fun z => by
         by_cases e:z = s
         ·simp only [e,if_true]; omega
         ·simp only [e,if_false]; exact Hm.out z⟩
        case measure => simp [intOf]; omega
     ·obtain rfl:n = s:=by omega
      have HWl:=Lib.hid (And.intro HW.l HW.bel)
      have c0:=HW.x.cell 0
      obtain ⟨nn,D,hown,hnl,htd,hism,hsz,hnd,hks⟩:=HW.num
      have hnx:=HPI.out.next Hn.out.2.2 Hn.out.1 (fun z => by have:=Hll.out z; omega) (HI.out.done hnd)
      have HNx:=Lib.hid hnx
      have hcc:=hnx.2.1
      have hcn':=onto_le hnx.1.onto
      have hRz:=HRB.out _ HW.bel
      clear HW hks hnd hism htd HI hnx
      by_cases heq:ks.length = c
      ·have HP:=Lib.hid (show PartsPost q n w (.returned (.tuple #[.slice (some ⟨R0.heap.size,0,none⟩) n n,.int .i64 (c:Int)])) wr from ⟨_,m,c,rfl,HWl.out.1,by omega,LB.trans (hRz.mono (by omega)),by rw [← heq]; exact HNx.out.2.2 heq⟩)
       have hsz:Maps.size D = c:=by rw [hsz,heq]
       clear heq
       go_wp2_with (at_len; refine wpList_len_own _ rfl _ 76 rfl 9 3 Tryz.underlying76 _ bm nn D rfl hown ?_; rw [hsz])
       exact bodyPost_ret (v:=.tuple #[.slice (some ⟨R0.heap.size,0,none⟩) n n,.int .i64 (c:Int)]) (by simp [results,Tryz.results34,go_sem]) rfl HP.out
      ·have hne:((ks.length:Int) == (c:Int)) = false:=by simp; omega
       go_wp2_with (at_len; refine wpList_len_own _ rfl _ 76 rfl 9 3 Tryz.underlying76 _ bm nn D rfl hown ?_; rw [hsz])
       exact ⟨⟨m,ks.length,R0.heap.size,rfl,rfl,HWl.out.1,hRz,by omega,HNx.out.1,Hm.out⟩,by simp [intOf]; omega⟩
end Go.Proofs.YtcondkihpmmnnaaGreatDoor
namespace Go.Proofs.YtcondkihpmmnnaaGreatDoor
open Go.RowKit Go.Sort
def PickB (L:List Bool) (xs:List Nat) (np:Nat) (w:World) (e:Ending) (w':World):Prop :=
 ∃ g,e = .returned (.slice (some ⟨g,0,none⟩) np np)∧Blk w' g 4 (bV (fun i => L.getD (xs.getD i 0) false) np)∧w.heap.size≤g∧Below w.heap.size w w'
set_option maxRecDepth 100000 in
set_option maxHeartbeats 4000000 in
theorem pickB_any (L:List Bool) (xs:List Nat) (Al Ap:Option Addr) (nl cl np cp B:Nat) (w:World) (HL:Reads w B 1 Al nl (L.map Value.bool)) (HX:Reads w B 1 Ap np (qV xs)) (hB:B≤w.heap.size) (hx:∀ x∈xs,x < nl) (hnp:np≤1024) (_hnl:nl≤1024) (_hcl:nl≤cl) (_hcp:np≤cp) :
    Calls Tryz.prog 36 #[.slice Al nl cl,.slice Ap np cp] w (PickB L xs np w):=by
 have hxl:xs.length = np:=by have:=HX.1; unfold qV at this; rw [List.length_map] at this; omega
 have HX':Reads w B 1 Ap np (xs.map fun z:Nat => Value.int .i64 (z:Int)):=HX
 have HR1:=Lib.hid (fun (k:Nat) (hk:k < np) => cell_at (d:=0) HX' k hk)
 have HR2:=Lib.hid (fun (k:Nat) (hk:k < nl) => cell_at (d:=false) HL k hk)
 have Hx:=Lib.hid (fun (k:Nat) (hk:k < np) => hx (xs.getD k 0) (by rw [List.getD_eq_getElem?_getD,List.getElem?_eq_getElem (by omega)]; exact List.getElem_mem _))
 obtain ⟨i0,hi,hy0,hy1,hy2⟩:=info_parts bool_infoS
 have hbb:i0.bytes * np≤281474976710656:=by rw [hy2]; omega
 have hmx:np≤maxLen:=by unfold maxLen; omega
 clear HX HX' HL hx hxl
 go_enter Tryz.func36,Tryz.ntmps36
 go_upto_region 2 with (at_make; refine wpList_make_full _ rfl _ _ 24 rfl w.heap.size 4 i0 _ 1 Tryz.underlying24 hi hy0 hy1 _ _ (np:Int) (np:Int) np rfl rfl rfl rfl hbb hmx (Nat.le_refl _) ?_; intro w2 hown hgr)
 have hgb:=(Below.refl w.heap.size w).grown hgr (Nat.le_refl _) (fun k e => by cases e)
 rw [show (Value.bool false).cells = #[Value.bool false] from rfl,Nat.mul_one,toList_madeCells_one] at hown
 have hG:=blk_of_made hown
 rw [bV_zero] at hG
 have HG:=Lib.hid (show Blk w2 w.heap.size 4 (bV (fun _ => false) np)∧Below w.heap.size w w2 from ⟨hG,hgb⟩)
 clear hown hgr hgb hG hi hy0 hy1 hy2 hbb
 go_wp2
 go_loopw [13] (fun i wr => ∃ (k:Nat) (fn:Nat→Bool),k≤np∧i = .int .i64 (k:Int)∧Blk wr w.heap.size 4 (bV fn np)∧Below w.heap.size w wr∧∀ j,j < k→fn j = L.getD (xs.getD j 0) false) (fun i _ => np - (intOf i).toNat)
 case atStart => exact ⟨0,_,Nat.zero_le _,rfl,HG.out.1,HG.out.2,fun j h => absurd h (Nat.not_lt_zero _)⟩
 case round =>
  clear HG
  obtain ⟨k,fn,hk,rfl,hG,hb,hf⟩:=hrel
  have Hf:=Lib.hid hf
  clear hf
  by_cases hlt:k < np
  ·have hi1:(0:Int)≤(k:Int):=by omega
   have hi2:(k:Int) < (np:Int):=by omega
   obtain ⟨g1,o1,rfl,hg1,r1⟩:=HR1.out k hlt
   have hz:=Hx.out k hlt
   have HZ:=Lib.hid (Eq.refl (xs.getD k 0))
   generalize hze:xs.getD k 0 = z at *
   obtain ⟨g2,o2,rfl,hg2,r2⟩:=HR2.out z hz
   have hzi1:(0:Int)≤(z:Int):=by omega
   have hzi2:(z:Int) < (nl:Int):=by omega
   have c1:=(hb.cell (p:=⟨g1,o1 + k,none⟩) (by show g1 < _; omega)).trans r1
   have c2:=(hb.cell (p:=⟨g2,o2 + z,none⟩) (by show g2 < _; omega)).trans r2
   have u1:=(hG.cell k).trans (bV_at _ hlt)
   have u2:=hG.frozen k
   have hG':=hG.set_ k (Value.bool (L.getD z false))
   rw [bV_set _ _ _ _ hlt] at hG'
   have HG':=Lib.hid hG'
   have Hb':=Lib.hid (hb.setCell (p:=⟨w.heap.size,k,none⟩) (Nat.le_refl _) (Value.bool (L.getD z false)))
   have HN:=Lib.hid (show ∀ j,j < k + 1→(if j = k then L.getD z false else fn j) = L.getD (xs.getD j 0) false from fun j hj => by
    by_cases e:j = k
    ·rw [if_pos e,e,hze]
    ·rw [if_neg e]; exact Hf.out j (by omega))
   clear hG hG' hb hze HZ r1 r2
   generalize L.getD z false = u at *
   go_wp2
   go_roundw
   case rel => exact ⟨k + 1,_,by omega,by go_num,HG'.out,Hb'.out,HN.out⟩
   case measure => simp [intOf]; omega
  ·obtain rfl:np = k:=by omega
   have e:bV fn np = bV (fun i => L.getD (xs.getD i 0) false) np:=by
    unfold bV
    rw [rowV_congr (fun j hj => by rw [Hf.out j hj])]
   have HP:=Lib.hid (show PickB L xs np w (.returned (.slice (some ⟨w.heap.size,0,none⟩) np np)) wr from ⟨_,rfl,e ▸ hG,Nat.le_refl _,hb⟩)
   clear hG hb e
   go_wp2
   exact bodyPost_ret (v:=.slice (some ⟨w.heap.size,0,none⟩) np np) (by simp [results,Tryz.results36,go_sem]) rfl HP.out
def PickS (L:List ByteArray) (xs:List Nat) (np:Nat) (w:World) (e:Ending) (w':World):Prop :=
 ∃ g,e = .returned (.slice (some ⟨g,0,none⟩) np np)∧Blk w' g 9 (strsV (fun i => L.getD (xs.getD i 0) ByteArray.empty) np)∧w.heap.size≤g∧Below w.heap.size w w'
set_option maxRecDepth 100000 in
set_option maxHeartbeats 4000000 in
theorem pickS_any (L:List ByteArray) (xs:List Nat) (Al Ap:Option Addr) (nl cl np cp B:Nat) (w:World) (HL:Reads w B 1 Al nl (L.map Value.string)) (HX:Reads w B 1 Ap np (qV xs)) (hB:B≤w.heap.size) (hx:∀ x∈xs,x < nl) (hnp:np≤1024) (_hnl:nl≤1024) (_hcl:nl≤cl) (_hcp:np≤cp) :
    Calls Tryz.prog 37 #[.slice Al nl cl,.slice Ap np cp] w (PickS L xs np w):=by
 have hxl:xs.length = np:=by have:=HX.1; unfold qV at this; rw [List.length_map] at this; omega
 have HX':Reads w B 1 Ap np (xs.map fun z:Nat => Value.int .i64 (z:Int)):=HX
 have HR1:=Lib.hid (fun (k:Nat) (hk:k < np) => cell_at (d:=0) HX' k hk)
 have HR2:=Lib.hid (fun (k:Nat) (hk:k < nl) => cell_at (d:=ByteArray.empty) HL k hk)
 have Hx:=Lib.hid (fun (k:Nat) (hk:k < np) => hx (xs.getD k 0) (by rw [List.getD_eq_getElem?_getD,List.getElem?_eq_getElem (by omega)]; exact List.getElem_mem _))
 obtain ⟨i0,hi,hy0,hy1,hy2⟩:=info_parts str_infoS
 have hbb:i0.bytes * np≤281474976710656:=by rw [hy2]; omega
 have hmx:np≤maxLen:=by unfold maxLen; omega
 clear HX HX' HL hx hxl
 go_enter Tryz.func37,Tryz.ntmps37
 go_upto_region 2 with (at_make; refine wpList_make_full _ rfl _ _ 25 rfl w.heap.size 9 i0 _ 1 Tryz.underlying25 hi hy0 hy1 _ _ (np:Int) (np:Int) np rfl rfl rfl rfl hbb hmx (Nat.le_refl _) ?_; intro w2 hown hgr)
 have hgb:=(Below.refl w.heap.size w).grown hgr (Nat.le_refl _) (fun k e => by cases e)
 rw [show (Value.string ByteArray.empty).cells = #[Value.string ByteArray.empty] from rfl,Nat.mul_one,toList_madeCells_one] at hown
 have hG:=blk_of_made hown
 rw [rowV_const] at hG
 have HG:=Lib.hid (show Blk w2 w.heap.size 9 (strsV (fun _ => ByteArray.empty) np)∧Below w.heap.size w w2 from ⟨hG,hgb⟩)
 clear hown hgr hgb hG hi hy0 hy1 hy2 hbb
 go_wp2
 go_loopw [13] (fun i wr => ∃ (k:Nat) (fn:Nat→ByteArray),k≤np∧i = .int .i64 (k:Int)∧Blk wr w.heap.size 9 (strsV fn np)∧Below w.heap.size w wr∧∀ j,j < k→fn j = L.getD (xs.getD j 0) ByteArray.empty) (fun i _ => np - (intOf i).toNat)
 case atStart => exact ⟨0,_,Nat.zero_le _,rfl,HG.out.1,HG.out.2,fun j h => absurd h (Nat.not_lt_zero _)⟩
 case round =>
  clear HG
  obtain ⟨k,fn,hk,rfl,hG,hb,hf⟩:=hrel
  have Hf:=Lib.hid hf
  clear hf
  by_cases hlt:k < np
  ·have hi1:(0:Int)≤(k:Int):=by omega
   have hi2:(k:Int) < (np:Int):=by omega
   obtain ⟨g1,o1,rfl,hg1,r1⟩:=HR1.out k hlt
   have hz:=Hx.out k hlt
   have HZ:=Lib.hid (Eq.refl (xs.getD k 0))
   generalize hze:xs.getD k 0 = z at *
   obtain ⟨g2,o2,rfl,hg2,r2⟩:=HR2.out z hz
   have hzi1:(0:Int)≤(z:Int):=by omega
   have hzi2:(z:Int) < (nl:Int):=by omega
   have c1:=(hb.cell (p:=⟨g1,o1 + k,none⟩) (by show g1 < _; omega)).trans r1
   have c2:=(hb.cell (p:=⟨g2,o2 + z,none⟩) (by show g2 < _; omega)).trans r2
   have u1:=(hG.cell k).trans (strsV_at _ hlt)
   have u2:=hG.frozen k
   have hG':=hG.set_ k (Value.string (L.getD z ByteArray.empty))
   rw [strsV_set _ _ _ _ hlt] at hG'
   have HG':=Lib.hid hG'
   have Hb':=Lib.hid (hb.setCell (p:=⟨w.heap.size,k,none⟩) (Nat.le_refl _) (Value.string (L.getD z ByteArray.empty)))
   have HN:=Lib.hid (show ∀ j,j < k + 1→(if j = k then L.getD z ByteArray.empty else fn j) = L.getD (xs.getD j 0) ByteArray.empty from fun j hj => by
    by_cases e:j = k
    ·rw [if_pos e,e,hze]
    ·rw [if_neg e]; exact Hf.out j (by omega))
   clear hG hG' hb hze HZ r1 r2
   generalize L.getD z ByteArray.empty = u at *
   go_wp2
   go_roundw
   case rel => exact ⟨k + 1,_,by omega,by go_num,HG'.out,Hb'.out,HN.out⟩
   case measure => simp [intOf]; omega
  ·obtain rfl:np = k:=by omega
   have e:strsV fn np = strsV (fun i => L.getD (xs.getD i 0) ByteArray.empty) np:=by
    unfold strsV
    rw [rowV_congr (fun j hj => by rw [Hf.out j hj])]
   have HP:=Lib.hid (show PickS L xs np w (.returned (.slice (some ⟨w.heap.size,0,none⟩) np np)) wr from ⟨_,rfl,e ▸ hG,Nat.le_refl _,hb⟩)
   clear hG hb e
   go_wp2
   exact bodyPost_ret (v:=.slice (some ⟨w.heap.size,0,none⟩) np np) (by simp [results,Tryz.results37,go_sem]) rfl HP.out
end Go.Proofs.YtcondkihpmmnnaaGreatDoor
namespace Go.Proofs.YtcondkihpmmnnaaGreatDoor
open Go.RowKit Go.Sort
theorem qV_at {xs:List Nat} {i s:Nat} (h:xs[i]? = some s) (d:Value):(qV xs).getD i d = .int .i64 (s:Int):=by
 unfold qV
 rw [List.getD_eq_getElem?_getD,List.getElem?_map,h]; rfl
def OrderPost (q:SeqM) (n c:Nat) (m:Nat→Nat) (w:World) (e:Ending) (w':World):Prop :=
 ∃ (v:Value) (xs:List Nat) (gP:Nat) (pl:Nat→Int),e = .returned (.tuple #[v,.slice (some ⟨gP,0,none⟩) c c])∧w'.ownsRow w.heap.size 3 1 v xs.length (qV xs)∧Blk w' gP 3 (intsV pl c)∧w.heap.size≤gP ∧
  Below w.heap.size w w'∧OrdI q n c m xs pl xs.length 0
structure OdrW (w wr:World) (B:Nat) (cs:Array Value) (gP c:Nat) (v:Value) (xs:List Nat) (pl:Nat→Int):Prop where
 box:Blk wr w.heap.size 27 cs
 st:wr.ownsRow B 3 1 v xs.length (qV xs)
 p:Blk wr gP 3 (intsV pl c)
 ap:v.ownBlock≠some gP
 lo:w.heap.size < gP
 lB:w.heap.size < B
 bel:Below w.heap.size w wr
section
variable {w wr w':World} {B gP c:Nat} {cs:Array Value} {v:Value} {xs:List Nat} {pl:Nat→Int}
theorem OdrW.call (h:OdrW w wr B cs gP c v xs pl) (hb:Below wr.heap.size wr w'):OdrW w w' B cs gP c v xs pl :=
 ⟨h.box.below hb h.box.lt,own_below h.st hb,h.p.below hb h.p.lt,h.ap,h.lo,h.lB,h.bel.trans (hb.mono h.bel.size)⟩
theorem OdrW.set (h:OdrW w wr B cs gP c v xs pl) (j:Nat) (hj:j < c) (i:Int):OdrW w (wr.setCell ⟨gP,j,none⟩ (.int .i64 i)) B cs gP c v xs (fun t => if t = j then i else pl t):=by
 have hl:=h.lo
 refine ⟨h.box.far (p:=⟨gP,j,none⟩) (by show w.heap.size≠gP; omega) _,own_setCell h.st h.ap _,?_,h.ap,h.lo,h.lB,h.bel.setCell (p:=⟨gP,j,none⟩) (by show w.heap.size≤gP; omega) _⟩
 have:=h.p.set_ j (.int .i64 i)
 rwa [intsV_set _ _ _ _ hj] at this
theorem OdrW.push (h:OdrW w wr B cs gP c v xs pl) {v':Value} {z:Nat} (ho:w'.ownsRow B 3 1 v' (xs.length + 1) (qV xs ++ [.int .i64 (z:Int)])) (hg:wr.grownBy w' v.ownBlock) (hl:v'.ownBlock = v.ownBlock∨v'.ownBlock = some wr.heap.size) :
    OdrW w w' B cs gP c v' (xs ++ [z]) pl:=by
 have hlo:=h.lo
 have hlB:=h.lB
 refine ⟨blk_keep h.box hg (fun e => ?_),?_,blk_keep h.p hg h.ap,?_,h.lo,h.lB,h.bel.grown hg h.bel.size (fun k hk => by have:=(own_lt h.st k hk).1; omega)⟩
 ·have:=(own_lt h.st _ e).1; omega
 ·have e:qV (xs ++ [z]) = qV xs ++ [.int .i64 (z:Int)]:=by unfold qV; simp
  rw [e,List.length_append]; exact ho
 ·intro e
  rcases hl with h1 | h1
  ·exact h.ap (h1 ▸ e)
  ·rw [h1] at e
   have:=h.p.lt
   have:=Option.some.inj e
   omega
end
end Go.Proofs.YtcondkihpmmnnaaGreatDoor
namespace Go.Proofs.YtcondkihpmmnnaaGreatDoor
open Go.RowKit Go.Sort
set_option maxRecDepth 100000 in
set_option maxHeartbeats 8000000 in
theorem order_any (q:SeqM) (v:Value) (B n c gm:Nat) (m:Nat→Nat) (w:World) (HS:SeqAt w B q v) (hB:B≤w.heap.size) (hck:ckB q = true) (hn:q.next.length = n) (hn0:0 < n) (HM:Blk w gm 3 (iV m n)) (hP:PartsOk q n m c) :
    Calls Tryz.prog 35 #[v,.slice (some ⟨gm,0,none⟩) n n,.int .i64 (c:Int)] w (OrderPost q n c m w):=by
 obtain ⟨A1,c1,A2,c2,A3,c3,A4,c4,rfl,hf,l1,l2,l3,l4,m1,m2,m3,m4,R1,hz,R2,hsz,R3,R4,htl⟩:=HS
 obtain ⟨p1,p2,p3,p4,p5,p6⟩:=ck_parts hck
 have HP6:=Lib.hid p6
 have HCk:=Lib.hid (fun s b (hs:s < n) (hb:b < 256) => ckB_nx hck (s:=s) (by rw [hn]; exact hs) hb)
 have HPt:=Lib.hid hP
 rw [p2,p3,p4]
 rw [hn] at p1 l1 R1 ⊢
 have Hn:=Lib.hid hn
 have hcn:c≤n:=onto_le hP.onto
 have hm0c:m 0 < c:=hP.lt 0 hn0
 generalize q.front = fr at *
 have K:=Blk.new w 27 #[.string fr,.slice A1 n c1,.slice A2 n c2,.slice A3 n c3,.slice A4 n c4]
 have LB:=(Below.refl w.heap.size w).alloc (Nat.le_refl _) (.cells #[.string fr,.slice A1 n c1,.slice A2 n c2,.slice A3 n c3,.slice A4 n c4] 27)
 have hlts:=K.lt
 have hgm:=HM.lt
 have HMr:=Lib.hid (fun (W:World) (hb:Below w.heap.size w W) (z:Nat) (hz:z < n) => ((HM.below hb HM.lt).cell z).trans (iV_at m hz))
 have HR1:=Lib.hid R1
 obtain ⟨i0,hi,hy0,hy1,hy2⟩:=info_parts int_infoS
 have hbb:i0.bytes * c≤281474976710656:=by rw [hy2]; omega
 have hmx:c≤maxLen:=by unfold maxLen; omega
 clear R1 R2 R3 R4 hz hsz htl p2 p3 p4 p5 p6 hck hn l2 l3 l4 HM hP
 go_enter Tryz.func35,Tryz.ntmps35
 go_upto_region 2 with (at_make; refine wpList_make_full _ rfl _ _ 55 rfl (w.alloc (.cells #[.string fr,.slice A1 n c1,.slice A2 n c2,.slice A3 n c3,.slice A4 n c4] 27)).heap.size 3 i0 _ 1 Tryz.underlying55 hi hy0 hy1 _ _ (c:Int) (c:Int) c rfl rfl rfl rfl hbb hmx (Nat.le_refl _) ?_; intro w2 hown hgr)
 have hgb:=(Below.refl (w.alloc (.cells #[.string fr,.slice A1 n c1,.slice A2 n c2,.slice A3 n c3,.slice A4 n c4] 27)).heap.size _).grown hgr (Nat.le_refl _) (fun k e => by cases e)
 rw [show (Value.int .i64 0).cells = #[Value.int .i64 0] from rfl,Nat.mul_one,toList_madeCells_one,rowV_const] at hown
 have hG:Blk w2 (w.alloc (.cells #[.string fr,.slice A1 n c1,.slice A2 n c2,.slice A3 n c3,.slice A4 n c4] 27)).heap.size 3 (intsV (fun _ => 0) c):=blk_of_made hown
 rw [World.size_alloc] at hG hgb
 have K2:=K.below hgb (by simp)
 have LB2:=LB.trans (hgb.mono (by omega))
 have HG:=Lib.hid (And.intro hG (And.intro K2 LB2))
 clear hown hgr hgb K LB hi hy0 hy1 hy2 hbb hG K2 LB2
 go_wp2
 go_loopw [18] (fun i wr => ∃ k:Nat,k≤c∧i = .int .i64 (k:Int)∧Blk wr (w.heap.size + 1) 3 (intsV (fun j => if j < k then -1 else 0) c)∧Blk wr w.heap.size 27 #[.string fr,.slice A1 n c1,.slice A2 n c2,.slice A3 n c3,.slice A4 n c4]∧Below w.heap.size w wr) (fun i _ => c - (intOf i).toNat)
 case atStart => exact ⟨0,Nat.zero_le _,rfl,HG.out.1,HG.out.2.1,HG.out.2.2⟩
 case round =>
  clear HG
  obtain ⟨k,hk,rfl,hG,hK,hb⟩:=hrel
  by_cases hlt:k < c
  ·have hi1:(0:Int)≤(k:Int):=by omega
   have hi2:(k:Int) < (c:Int):=by omega
   have u1:=(hG.cell k).trans (intsV_at _ hlt)
   have u2:=hG.frozen k
   have hG':=hG.set_ k (.int .i64 (-1))
   rw [intsV_set _ _ _ _ hlt] at hG'
   have e:(fun j => if j = k then (-1:Int) else if j < k then -1 else 0) = fun j => if j < k + 1 then -1 else 0:=by
    funext j
    by_cases h1:j = k
    ·rw [if_pos h1,if_pos (by omega)]
    ·rw [if_neg h1]
     by_cases h2:j < k
     ·rw [if_pos h2,if_pos (by omega)]
     ·rw [if_neg h2,if_neg (by omega)]
   rw [e] at hG'
   have HG':=Lib.hid (And.intro hG' (And.intro (hK.far (p:=⟨w.heap.size + 1,k,none⟩) (by show w.heap.size≠w.heap.size + 1; omega) (.int .i64 (-1))) (hb.setCell (p:=⟨w.heap.size + 1,k,none⟩) (by show w.heap.size≤w.heap.size + 1; omega) (.int .i64 (-1)))))
   clear hG hG' e hK hb
   go_wp2
   go_roundw
   case rel => exact ⟨k + 1,by omega,by go_num,HG'.out.1,HG'.out.2.1,HG'.out.2.2⟩
   case measure => simp [intOf]; omega
  ·obtain rfl:c = k:=by omega
   have eneg:intsV (fun j => if j < c then (-1:Int) else 0) c = intsV (fun _ => -1) c:=by
    unfold intsV
    rw [rowV_congr (g:=fun _ => .int .i64 (-1)) (fun j hj => by show Value.int _ (if j < c then (-1:Int) else 0) = _; rw [if_pos hj])]
   rw [eneg] at hG
   clear eneg
   have hsz0:=hb.size
   have hGl:=hG.lt
   have LQ:=(Below.refl wr.heap.size wr).alloc (Nat.le_refl _) (.cells #[.int .i64 0] 3)
   have HO0:(wr.alloc (.cells #[.int .i64 0] 3)).ownsRow (w.heap.size + 2) 3 1 (.slice (some ⟨wr.heap.size,0,none⟩) 1 1) 1 [.int .i64 0]:=own_ofBlk (by omega) (Blk.new wr 3 #[.int .i64 0]) (by unfold maxLen; decide)
   have HW0:OdrW w (wr.alloc (.cells #[.int .i64 0] 3)) (w.heap.size + 2) #[.string fr,.slice A1 n c1,.slice A2 n c2,.slice A3 n c3,.slice A4 n c4] (w.heap.size + 1) c (.slice (some ⟨wr.heap.size,0,none⟩) 1 1) [0] (fun _ => -1) :=
    ⟨hK.below LQ hK.lt,HO0,hG.below LQ hGl,(by show some wr.heap.size≠some (w.heap.size + 1); intro e; have:=Option.some.inj e; omega),by omega,by omega,hb.trans (LQ.mono hsz0)⟩
   have a1:=HMr.out _ HW0.bel 0 hn0
   have hi1:(0:Int)≤(m 0:Int):=by omega
   have hi2:(m 0:Int) < (c:Int):=by omega
   have hi3:(0:Int) < (n:Int):=by omega
   have u1:=(HW0.p.cell (m 0)).trans (intsV_at _ hm0c)
   have u2:=HW0.p.frozen (m 0)
   have HW1:=HW0.set (m 0) hm0c 0
   rw [World.setCell_alloc_past _ _ _ _ hGl] at HW1
   have HW1:=Lib.hid HW1
   have HOr:=Lib.hid (OrdI.start (q:=q) (n:=n) (c:=c) (m:=m) hm0c hn0)
   clear HW0 HO0 LQ hG hK hb
   generalize m 0 = z0 at *
   go_wp2
   clear a1 u1 u2
   generalize ((wr.setCell ⟨w.heap.size + 1,z0,none⟩ (.int .i64 0)).alloc (.cells #[.int .i64 0] 3)) = w5 at *
   generalize wr.heap.size = gq at *
   go_loopw [10,11] (fun sv i wr => ∃ (vv:Value) (xs:List Nat) (pl:Nat→Int) (ii:Nat),vv = sv∧i = .int .i64 (ii:Int)∧ii≤xs.length∧OdrW w wr (w.heap.size + 2) #[.string fr,.slice A1 n c1,.slice A2 n c2,.slice A3 n c3,.slice A4 n c4] (w.heap.size + 1) c vv xs pl∧OrdI q n c m xs pl ii 0) (fun _ i _ => c - (intOf i).toNat)
   case atStart => exact ⟨_,[0],_,0,rfl,rfl,Nat.zero_le _,HW1.out,HOr.out⟩
   case round =>
    clear HW1 HOr
    obtain ⟨vv,xs,pl,ii,rfl,rfl,hil,HW,HO⟩:=hrel
    have hxc:=HO.len HPt.out.lt
    have hbz:=HW.bel.size
    obtain ⟨Av,cv,rfl,hv1,hv2,hv3⟩:=own_form HW.st
    by_cases hlt:ii < xs.length
    ·obtain ⟨s,hs⟩:∃ s,xs[ii]? = some s:=⟨_,List.getElem?_eq_getElem hlt⟩
     have hsn:=(HO.lt ii s hs).1
     obtain ⟨ga,rfl,hga1,hga2⟩:=hv3 (by omega)
     have a1:=own_cellAt HW.st ii hlt nilV
     rw [qV_at hs] at a1
     obtain ⟨g1,o1,A1',d1,rfl,hg1,x0,Q0,y1,z1⟩:=HR1.out.at_ s hsn
     have x1:=((HW.bel.mono hB).cell (p:=⟨g1,o1 + s,none⟩) (by show g1 < B; exact hg1)).trans x0
     have e1:(q.next.map fun r => r.map (Value.int .i64)).getD s [] = (q.next.getD s []).map (Value.int .i64):=by
      rw [List.getD_eq_getElem?_getD,List.getD_eq_getElem?_getD,List.getElem?_map]
      cases q.next[s]? <;> rfl
     rw [e1] at x1 Q0 y1
     simp only [List.length_map] at x1 Q0 y1
     rw [(HP6.out s (by rw [Hn.out]; exact hsn)).1] at x1 Q0 y1
     have HNr:=Lib.hid (fun (W:World) (hb:Below w.heap.size w W) => Q0.below (hb.mono hB))
     clear x0 Q0 e1
     have k1:=HW.box.cell 1
     have y2:=cell_regrown a1
     have y3:=cell_regrown x1
     have y4:=cell_regrown k1
     have HWc:=Lib.hid (fun (W:World) (h:Below wr.heap.size wr W) => HW.call h)
     have HOh:=Lib.hid HO
     have Hs:=Lib.hid hs
     have hi1:(0:Int)≤(ii:Int):=by omega
     have hi2:(ii:Int) < (xs.length:Int):=by omega
     have hi3:(0:Int)≤(s:Int):=by omega
     have hi4:(s:Int) < (n:Int):=by omega
     clear HW HO hs hv3
     have HXl:=Lib.hid (Eq.refl xs.length)
     generalize hxl:xs.length = xl at *
     go_wp2
     refine wp_region_quiet_below (by kernel_rfl) (by kernel_rfl) ?_
     repeat (go_big_quiet_step (fail))
     refine wpQuiet_nil ?_
     intro w6 hw6
     have HW6:=Lib.hid (HWc.out w6 (below_of hw6))
     clear hw6 y2 y3 y4 a1 x1 k1
     go_wp2
     go_loopw [10,46] (fun sv i wr => ∃ (vv:Value) (xs:List Nat) (pl:Nat→Int) (b:Nat),vv = sv∧i = .int .i64 (b:Int)∧b≤256∧OdrW w wr (w.heap.size + 2) #[.string fr,.slice (some ⟨g1,o1,none⟩) n c1,.slice A2 n c2,.slice A3 n c3,.slice A4 n c4] (w.heap.size + 1) c vv xs pl∧OrdI q n c m xs pl ii b∧xs[ii]? = some s) (fun _ i _ => 256 - (intOf i).toNat)
     case atStart => exact ⟨_,xs,pl,0,rfl,rfl,Nat.zero_le _,HW6.out,HOh.out,Hs.out⟩
     case round =>
      clear HW6 HOh Hs hxl HXl hlt hi2 hv1
      clear hxc hil
      obtain ⟨vv,xs,pl,b,rfl,rfl,hb,HW,HO,hs⟩:=hrel
      have hxc:=HO.len HPt.out.lt
      have hlt:=some_lt hs
      have hbz':=HW.bel.size
      obtain ⟨Av,cv,rfl,hv1,hv2,hv3⟩:=own_form HW.st
      by_cases hltb:b < 256
      ·have hb1:(0:Int)≤(b:Int):=by omega
       have hb2:(b:Int) < 256:=by omega
       obtain ⟨z0',z1',_⟩:=HCk.out s b hsn hltb
       rw [Hn.out] at z1'
       obtain ⟨h1,q1,rfl,hh1,r1⟩:=cell_at (d:=0) (HNr.out wr HW.bel) b hltb
       have hnx:(q.next.getD s []).getD b 0 = q.nx s b:=rfl
       rw [hnx] at r1
       by_cases hneg:q.nx s b < 0
       ·have HO':=Lib.hid (HO.pass hs (fun h0 => absurd h0 (by omega)))
        have HW':=Lib.hid HW
        have Hs:=Lib.hid hs
        have hge:¬ q.nx s b ≥ 0:=by omega
        clear HO HW hs
        generalize q.nx s b = z at *
        go_wp2
        go_roundw
        case rel => exact ⟨_,xs,pl,b + 1,rfl,by go_num,by omega,HW'.out,HO'.out,Hs.out⟩
        case measure => simp [intOf]; omega
       ·obtain ⟨z,hz⟩:∃ z:Nat,q.nx s b = (z:Int):=⟨_,(Int.toNat_of_nonneg (by omega)).symm⟩
        have hzn:z < n:=by omega
        have hmz:=HPt.out.lt z hzn
        have hzi1:(0:Int)≤(z:Int):=by omega
        have hzi2:(z:Int) < (n:Int):=by omega
        have hge:(z:Int) ≥ 0:=by omega
        have hmi1:(0:Int)≤(m z:Int):=by omega
        have hmi2:(m z:Int) < (c:Int):=by omega
        have a1:=HMr.out wr HW.bel z hzn
        have u1:=(HW.p.cell (m z)).trans (intsV_at _ hmz)
        have hplb:-1≤pl (m z)∧pl (m z)≤1024:=by
         rcases HO.plc (m z) hmz with h1 | ⟨j,t,h1,h2,h3⟩
         ·omega
         ·have:=some_lt h1; omega
        by_cases hpz:pl (m z) < 0
        ·have HO':=Lib.hid (HO.put hs hltb hz hzn hpz (fun t b ht hb h0 => HPt.out.lt _ (by have:=(HCk.out t b ht hb).2.1; rw [Hn.out] at this; omega)))
         have Hs:=Lib.hid (show (xs ++ [z])[ii]? = some s by rw [List.getElem?_append_left hlt]; exact hs)
         have u2:=HW.p.frozen (m z)
         have HW1:=HW.set (m z) hmz (xs.length:Int)
         have LA:=(Below.refl (wr.setCell ⟨w.heap.size + 1,m z,none⟩ (.int .i64 (xs.length:Int))).heap.size (wr.setCell ⟨w.heap.size + 1,m z,none⟩ (.int .i64 (xs.length:Int)))).alloc (Nat.le_refl _) (.cells #[.int .i64 (z:Int)] 3)
         have HW2:=HW1.call LA
         have hst:=HW2.st
         have HWh:=Lib.hid HW2
         have hrd:=reads_allocK (wr.setCell ⟨w.heap.size + 1,m z,none⟩ (.int .i64 (xs.length:Int))) [.int .i64 (z:Int)] 3 1 1 rfl
         obtain ⟨i1,t0,t1,t2,t3⟩:=info_parts int_infoS
         have hone:∀ u∈[Value.int .i64 (z:Int)],u.oneCell' = true:=fun u hu => by rw [List.mem_singleton] at hu; subst hu; rfl
         have h63:xs.length + 1≤maxLen:=by unfold maxLen; omega
         have hby:(xs.length + 1) * 8≤140737488355328:=by omega
         have hbs:w.heap.size + 2≤((wr.setCell ⟨w.heap.size + 1,m z,none⟩ (.int .i64 (xs.length:Int))).alloc (.cells #[.int .i64 (z:Int)] 3)).heap.size:=by
          have:=HW.p.lt
          simp; omega
         rw [hz] at r1 hneg
         clear HW HW1 HW2 LA HO hs hz
         generalize hmze:m z = mz at *
         generalize hple:pl mz = pz at *
         go_upto_region 17 with (fail)
         clear a1 u1 u2 r1
         generalize wr.setCell ⟨w.heap.size + 1,mz,none⟩ (.int .i64 (xs.length:Int)) = w7 at *
         generalize hxl:xs.length = xl at *
         go_wp2_with (at_builtin; refine wpList_append_any _ rfl _ _ 55 rfl (w.heap.size + 2) 3 i1 _ 1 8 Tryz.underlying55 t0 t1 t2 t3 rfl (by decide) _ _ _ rfl hst _ (some ⟨w7.heap.size,0,none⟩) 1 1 [.int .i64 (z:Int)] rfl hrd hone h63 hby hbs ?_; intro v' w8 hown hgrow hloc)
         go_roundw
         case rel => exact ⟨_,xs ++ [z],_,b + 1,rfl,by go_num,by omega,HWh.out.push (by rw [hxl]; exact hown) hgrow hloc,HO'.out,Hs.out⟩
         case measure => simp [intOf]; omega
        ·have HO':=Lib.hid (HO.pass hs (fun h0 => by rw [hz,Int.toNat_natCast]; omega))
         have HW':=Lib.hid HW
         have Hs:=Lib.hid hs
         rw [hz] at r1 hneg
         clear HO HW hs hz
         generalize m z = mz at *
         generalize pl mz = pz at *
         go_wp2
         go_roundw
         case rel => exact ⟨_,xs,pl,b + 1,rfl,by go_num,by omega,HW'.out,HO'.out,Hs.out⟩
         case measure => simp [intOf]; omega
      ·obtain rfl:b = 256:=by omega
       have HO':=Lib.hid HO.next
       have HW':=Lib.hid HW
       clear HO HW hs
       go_wp2
       go_roundw
       case rel => exact ⟨_,xs,pl,ii + 1,rfl,by go_num,by omega,HW'.out,HO'.out⟩
       case measure => simp [intOf]; omega
    ·obtain rfl:ii = xs.length:=by omega
     have hbw:=HW.bel
     have HP:=Lib.hid (show OrderPost q n c m w (.returned (.tuple #[.slice Av xs.length cv,.slice (some ⟨w.heap.size + 1,0,none⟩) c c])) wr from ⟨_,xs,_,pl,rfl,own_base HW.st (by omega),HW.p,by omega,hbw,HO⟩)
     clear HW HO hbw
     generalize xs.length = xl at *
     go_wp2
     exact bodyPost_ret (v:=.tuple #[.slice Av xl cv,.slice (some ⟨w.heap.size + 1,0,none⟩) c c]) (by simp [results,Tryz.results35,go_sem]) rfl HP.out
end Go.Proofs.YtcondkihpmmnnaaGreatDoor
namespace Go.Proofs.YtcondkihpmmnnaaGreatDoor
def eB:ByteArray:=⟨#[]⟩
def xyB:ByteArray:=⟨#[120,121]⟩
def aS:St:=St.ofM (sOf [97])
def oneT:Fs:=⟨2,[⟨0,eB⟩],[⟨1,eB⟩],[⟨0,1,aS,xyB,false⟩]⟩
theorem aS_m {c:Nat} (h:c < 256):aS.m c = (c == 97):=one_m 97 c h
theorem once1_same {α:Type} [DecidableEq α] {x:α}:∀ l:List α,l≠[]→(∀ y∈l,y = x)→once1 l = [x]
 | [],h,_ => absurd rfl h
 | [a],_,h => by rw [h a List.mem_cons_self]; rfl
 | a :: b :: l,_,h => by
  have e1:=h a List.mem_cons_self
  have e2:=h b (List.mem_cons_of_mem _ List.mem_cons_self)
  unfold once1
  rw [if_pos (e1.trans e2.symm)]
  exact once1_same (b :: l) (by simp) fun y hy => h y (List.mem_cons_of_mem _ hy)
theorem ordT_same {x:Tp} {l:List Tp} (h0:l≠[]) (h:∀ y∈l,y = x):ordT l = [x]:=by
 unfold ordT
 refine once1_same _ ?_ fun y hy => h y ((sortT_mem y l).1 hy)
 obtain ⟨y,hy⟩:=List.exists_mem_of_ne_nil _ h0
 exact List.ne_nil_of_mem ((sortT_mem y l).2 hy)
theorem cut_all (x:ByteArray):x.extract x.size x.size = eB:=by
 apply bl_inj
 rw [bl_cut,← bl_len,List.drop_length]; rfl
theorem stripF_same {x:Tp} {l:List Tp} (h0:l≠[]) (h:∀ y∈l,y = x) (hs:x.out.size≤4096):stripF l = .ok (x.out,[⟨x.st,eB⟩]):=by
 unfold stripF
 rw [ordT_same h0 h]
 have e1:lcpA ([x].map Tp.out) = x.out:=rfl
 have e2:cutT x.out.size x = ⟨x.st,eB⟩:=by unfold cutT; rw [cut_all]
 have e3:twin1 [x] = false:=rfl
 simp only [e1,e3]
 rw [if_neg (by decide),if_neg (by omega),if_neg]
 ·simp [e2]
 ·simp only [List.any_cons,List.any_nil,Bool.or_false,e2]
  decide
section
variable {u:Fs} {a b:Int}
structure One (u:Fs) (a b:Int):Prop where
 ne:a≠b
 s0:u.starts≠[]
 s:∀ y∈u.starts,y = ⟨a,eB⟩
 e0:u.ends≠[]
 e:∀ y∈u.ends,y = ⟨b,eB⟩
 c0:u.arcs≠[]
 c:∀ y∈u.arcs,y = ⟨a,b,aS,xyB,false⟩
theorem one_of {f:Int→Int} (h:Trims oneT u f):One u (f 0) (f 1):=by
 have way:Way oneT.arcs 0 [97] (Ar.put ⟨0,1,aS,xyB,false⟩ 97 ++ []) 1:=.cons ⟨0,1,aS,xyB,false⟩ List.mem_cons_self rfl (by rw [aS_m (by decide)]; rfl) (.nil 1)
 have k0:stOk oneT.n 0:=⟨by decide,by decide⟩
 have k1:stOk oneT.n 1:=⟨by decide,by decide⟩
 have u0:Useful oneT 0:=⟨k0,⟨_,List.mem_cons_self,_,_,.nil 0⟩,⟨_,List.mem_cons_self,_,_,way⟩⟩
 have u1:Useful oneT 1:=⟨k1,⟨_,List.mem_cons_self,_,_,way⟩,⟨_,List.mem_cons_self,_,_,.nil 1⟩⟩
 have p0:=(h.use 0 k0).2 u0
 have p1:=(h.use 1 k1).2 u1
 refine ⟨fun e => absurd (h.inj 0 1 k0 k1 p0 e) (by decide),?_,fun y hy => ?_,?_,fun y hy => ?_,?_,fun y hy => ?_⟩
 ·exact List.ne_nil_of_mem ((h.starts ⟨f 0,eB⟩).2 ⟨⟨0,eB⟩,List.mem_cons_self,p0,rfl⟩)
 ·obtain ⟨x,hx,_,rfl⟩:=(h.starts y).1 hy
  obtain rfl:=List.mem_singleton.1 hx
  rfl
 ·exact List.ne_nil_of_mem ((h.ends ⟨f 1,eB⟩).2 ⟨⟨1,eB⟩,List.mem_cons_self,p1,rfl⟩)
 ·obtain ⟨x,hx,_,rfl⟩:=(h.ends y).1 hy
  obtain rfl:=List.mem_singleton.1 hx
  rfl
 ·exact List.ne_nil_of_mem ((h.arcs ⟨f 0,f 1,aS,xyB,false⟩).2 ⟨⟨0,1,aS,xyB,false⟩,List.mem_cons_self,p0,p1,rfl⟩)
 ·obtain ⟨x,hx,_,_,rfl⟩:=(h.arcs y).1 hy
  obtain rfl:=List.mem_singleton.1 hx
  rfl
section
variable (h:One u a b)
include h
theorem One.behind (c:Nat) (hc:c < 256) (hn:c≠97):behindF u.arcs [⟨a,eB⟩] c = []:=by
 rw [List.eq_nil_iff_forall_not_mem]
 intro y hy
 obtain ⟨x,_,z,hz,_,hm,_⟩:=(behindF_mem y).1 hy
 rw [h.c z hz,aS_m hc,beq_iff_eq] at hm
 exact hn hm
theorem One.behindA:behindF u.arcs [⟨a,eB⟩] 97≠[]∧∀ y∈behindF u.arcs [⟨a,eB⟩] 97,y = ⟨b,xyB⟩:=by
 have hput:eB ++ (Ar.putB ⟨a,b,aS,xyB,false⟩ 97) = xyB:=by
  apply bl_inj
  unfold Ar.putB
  rw [bl_app,bl_app]; rfl
 constructor
 ·obtain ⟨z,hz⟩:=List.exists_mem_of_ne_nil _ h.c0
  exact List.ne_nil_of_mem ((behindF_mem ⟨b,xyB⟩).2 ⟨⟨a,eB⟩,List.mem_singleton.2 rfl,z,hz,by rw [h.c z hz],by rw [h.c z hz,aS_m (by decide)]; rfl,by rw [h.c z hz,hput]⟩)
 ·intro y hy
  obtain ⟨x,hx,z,hz,_,_,rfl⟩:=(behindF_mem y).1 hy
  rw [List.mem_singleton.1 hx,h.c z hz,hput]
theorem One.behindB (c:Nat):behindF u.arcs [⟨b,eB⟩] c = []:=by
 rw [List.eq_nil_iff_forall_not_mem]
 intro y hy
 obtain ⟨x,hx,z,hz,hf,_⟩:=(behindF_mem y).1 hy
 rw [List.mem_singleton.1 hx,h.c z hz] at hf
 exact h.ne hf
theorem One.bytesB (rows:List (List Tp)):∀ k,bytesF u.arcs 5 [⟨b,eB⟩] rows k = .ok (rows,List.replicate k (-1),List.replicate k ByteArray.empty)
 | 0 => rfl
 | k + 1 => by
  unfold bytesF
  rw [One.bytesB rows k]
  simp only
  unfold byteF
  rw [h.behindB k]
  simp only [List.replicate_succ']
theorem One.bytesA:∀ k,k≤97→bytesF u.arcs 5 [⟨a,eB⟩] [[⟨a,eB⟩]] k = .ok ([[⟨a,eB⟩]],List.replicate k (-1),List.replicate k ByteArray.empty)
 | 0,_ => rfl
 | k + 1,hk => by
  unfold bytesF
  rw [One.bytesA k (by omega)]
  simp only
  unfold byteF
  rw [h.behind k (by omega) (by omega)]
  simp only [List.replicate_succ']
def nextA (k:Nat):List Int:=List.replicate 97 (-1) ++ [1] ++ List.replicate k (-1)
def outsA1 (k:Nat):List ByteArray:=List.replicate 97 ByteArray.empty ++ [xyB] ++ List.replicate k ByteArray.empty
set_option maxRecDepth 4000 in
theorem One.bytesA2:∀ k,k≤158→bytesF u.arcs 5 [⟨a,eB⟩] [[⟨a,eB⟩]] (98 + k) = .ok ([[⟨a,eB⟩],[⟨b,eB⟩]],nextA k,outsA1 k)
 | 0,_ => by
  show bytesF u.arcs 5 [⟨a,eB⟩] [[⟨a,eB⟩]] (97 + 1) = _
  unfold bytesF
  rw [h.bytesA 97 (Nat.le_refl _)]
  simp only
  unfold byteF
  obtain ⟨h1,h2⟩:=h.behindA
  have hst:=stripF_same h1 h2 (show xyB.size≤4096 by decide)
  rcases hb:behindF u.arcs [⟨a,eB⟩] 97 with _ | ⟨x,r⟩
  ·exact absurd hb h1
  ·rw [hb] at hst
   simp only [hst]
   have hne:¬ ((⟨a,eB⟩:Tp) = ⟨b,eB⟩):=fun e => h.ne (Tp.mk.inj e).1
   have hsf:stateF 5 [[⟨a,eB⟩]] [⟨b,eB⟩] = .ok (1,[[⟨a,eB⟩],[⟨b,eB⟩]]):=by
    unfold stateF
    have:List.idxOf? [(⟨b,eB⟩:Tp)] [[⟨a,eB⟩]] = none:=by
     rw [List.idxOf?_eq_none_iff]
     intro e
     rw [List.mem_singleton] at e
     injection e with e
     exact hne e.symm
    rw [this]
    rfl
   rw [hsf]
   unfold nextA outsA1
   rw [List.replicate_zero,List.replicate_zero,List.append_nil,List.append_nil]
   simp only [show ((1:Nat):Int) = 1 from rfl]
 | k + 1,hk => by
  show bytesF u.arcs 5 [⟨a,eB⟩] [[⟨a,eB⟩]] (98 + k + 1) = _
  unfold bytesF
  rw [One.bytesA2 k (by omega)]
  simp only
  unfold byteF
  rw [h.behind (98 + k) (by omega) (by omega)]
  simp only [nextA,outsA1,List.replicate_succ',List.append_assoc]
theorem One.tailA:tailF u.ends [⟨a,eB⟩] = .ok (false,ByteArray.empty):=by
 unfold tailF
 have:([(⟨a,eB⟩:Tp)].flatMap fun x => (u.ends.filter fun z => z.st == x.st).map fun z => x.out ++ z.out) = []:=by
  rw [List.eq_nil_iff_forall_not_mem]
  intro y hy
  simp only [List.flatMap_cons,List.flatMap_nil,List.append_nil,List.mem_map,List.mem_filter,beq_iff_eq] at hy
  obtain ⟨z,⟨hz,e⟩,_⟩:=hy
  rw [h.e z hz] at e
  exact h.ne e.symm
 rw [this]
theorem One.tailB:tailF u.ends [⟨b,eB⟩] = .ok (true,eB):=by
 unfold tailF
 have hall:∀ y∈([(⟨b,eB⟩:Tp)].flatMap fun x => (u.ends.filter fun z => z.st == x.st).map fun z => x.out ++ z.out),y = eB:=by
  intro y hy
  simp only [List.flatMap_cons,List.flatMap_nil,List.append_nil,List.mem_map,List.mem_filter,beq_iff_eq] at hy
  obtain ⟨z,⟨hz,_⟩,rfl⟩:=hy
  rw [h.e z hz]
  apply bl_inj
  rw [bl_app]; rfl
 have hne:([(⟨b,eB⟩:Tp)].flatMap fun x => (u.ends.filter fun z => z.st == x.st).map fun z => x.out ++ z.out)≠[]:=by
  obtain ⟨z,hz⟩:=List.exists_mem_of_ne_nil _ h.e0
  refine List.ne_nil_of_mem (a:=eB ++ z.out) ?_
  simp only [List.flatMap_cons,List.flatMap_nil,List.append_nil,List.mem_map,List.mem_filter,beq_iff_eq]
  exact ⟨z,⟨hz,by rw [h.e z hz]⟩,rfl⟩
 rcases hl:([(⟨b,eB⟩:Tp)].flatMap fun x => (u.ends.filter fun z => z.st == x.st).map fun z => x.out ++ z.out) with _ | ⟨s,r⟩
 ·exact absurd hl hne
 ·rw [hl] at hall
  have e1:=hall s List.mem_cons_self
  subst e1
  rw [hl]
  simp only
  rw [if_pos,if_neg (by decide)]
  rw [List.all_eq_true]
  intro t ht
  rw [hall t (List.mem_cons_of_mem _ ht)]
  first | exact beq_self_eq_true _ | rfl | decide
def q1:SeqM:=⟨eB,[nextA 158,List.replicate 256 (-1)],[outsA1 158,List.replicate 256 ByteArray.empty],[false,true],[ByteArray.empty,eB]⟩
theorem One.all:allF u 5 = .ok q1:=by
 have hst:=stripF_same h.s0 h.s (show eB.size≤4096 by decide)
 unfold allF
 rcases hs:u.starts with _ | ⟨x,r⟩
 ·exact absurd hs h.s0
 ·rw [hs] at hst
  simp only [hst]
  have hsf:stateF 5 [] [(⟨a,eB⟩:Tp)] = .ok (0,[[⟨a,eB⟩]]):=rfl
  rw [hsf]
  have d0:doF u 5 ⟨[[⟨a,eB⟩]],[],[],[],[]⟩ 0 = .ok ⟨[[⟨a,eB⟩],[⟨b,eB⟩]],[nextA 158],[outsA1 158],[false],[ByteArray.empty]⟩:=by
   unfold doF
   have e0:([[(⟨a,eB⟩:Tp)]].getD 0 []) = [⟨a,eB⟩]:=rfl
   simp only [e0]
   rw [h.tailA]
   have hb:=h.bytesA2 158 (Nat.le_refl _)
   rw [show 98 + 158 = 256 from rfl] at hb
   simp only [hb]
   rfl
  have d1:doF u 5 ⟨[[⟨a,eB⟩],[⟨b,eB⟩]],[nextA 158],[outsA1 158],[false],[ByteArray.empty]⟩ 1 = .ok ⟨[[⟨a,eB⟩],[⟨b,eB⟩]],[nextA 158,List.replicate 256 (-1)],[outsA1 158,List.replicate 256 ByteArray.empty],[false,true],[ByteArray.empty,eB]⟩:=by
   unfold doF
   have e0:([[(⟨a,eB⟩:Tp)],[⟨b,eB⟩]].getD 1 []) = [⟨b,eB⟩]:=rfl
   simp only [e0]
   rw [h.tailB]
   have hb:=h.bytesB [[⟨a,eB⟩],[⟨b,eB⟩]] 256
   simp only [hb]
   rfl
  have hl:loopF u 5 5 0 ⟨[[⟨a,eB⟩]],[],[],[],[]⟩ = .ok ⟨[[⟨a,eB⟩],[⟨b,eB⟩]],[nextA 158,List.replicate 256 (-1)],[outsA1 158,List.replicate 256 ByteArray.empty],[false,true],[ByteArray.empty,eB]⟩:=by
   unfold loopF
   rw [if_pos (by show 0 < 1; decide),d0]
   simp only
   unfold loopF
   rw [if_pos (by show 1 < 2; decide),d1]
   simp only
   unfold loopF
   rw [if_neg (by show ¬ 2 < 2; decide)]
  simp only [hl]
  rfl
end
end
theorem q1_ck:ckB q1 = true:=by decide +kernel
theorem q1_nx:∀ b,b < 256→b≠97→q1.nx 0 b = -1:=by decide +kernel
theorem q1_nx1:∀ b,b < 256→q1.nx 1 b = -1:=by decide +kernel
theorem q1_a:q1.nx 0 97 = 1∧q1.os 0 97 = xyB:=⟨by decide +kernel,by decide +kernel⟩
theorem q1_one:q1.runL 1 [] = some []:=by decide +kernel
theorem q1_two:q1.runL 0 [97] = some [120,121]:=by decide +kernel
theorem q1_run:q1.run [97] = some [120,121]:=by decide +kernel
theorem q1_only {w o:List UInt8} (h:q1.run w = some o):w = [97]∧o = [120,121]:=by
 have hw:w = [97]:=by
  unfold SeqM.run at h
  rw [if_neg (by decide)] at h
  rcases w with _ | ⟨c,w⟩
  ·have:q1.runL 0 [] = none:=by decide +kernel
   rw [this] at h; cases h
  ·by_cases hc:c.toNat = 97
   ·have hc':c = 97:=UInt8.toNat.inj hc
    subst hc'
    rcases w with _ | ⟨d,w⟩
    ·rfl
    ·have e:q1.runL 0 (97 :: d :: w) = none:=by
       unfold SeqM.runL
       rw [show (97:UInt8).toNat = 97 from rfl,q1_a.1,if_neg (by decide)]
       unfold SeqM.runL
       rw [show (1:Int).toNat = 1 from rfl,q1_nx1 _ d.toNat_lt,if_pos (by decide)]
       rfl
     rw [e] at h; cases h
   ·have e:q1.runL 0 (c :: w) = none:=by
      unfold SeqM.runL
      rw [q1_nx _ c.toNat_lt hc,if_pos (by decide)]
    rw [e] at h; cases h
 subst hw
 rw [q1_run] at h
 exact ⟨rfl,(Option.some.inj h).symm⟩
theorem q1_short {k:Frt} (hf:Fronts q1 k):¬ LongQ q1 k:=by
 have b0:k.some 0 = true→(k.l 0).size≤2:=fun hs => by
  have:=(hf.beg 0 (by decide) hs _ ⟨[97],q1_two⟩).length_le
  rwa [bl_len] at this
 have b1:k.some 1 = true→(k.l 1).size≤2:=fun hs => by
  have:=(hf.beg 1 (by decide) hs _ ⟨[],q1_one⟩).length_le
  rw [bl_len] at this
  exact Nat.le_trans this (by decide)
 rintro (⟨s,b,hs,hb,h0,hk,hl⟩ | ⟨hs,hl⟩)
 ·have hs':s = 0∨s = 1:=by
    have:q1.next.length = 2:=rfl
    omega
  rcases hs' with rfl | rfl
  ·by_cases h97:b = 97
   ·subst h97
    rw [q1_a.1,show (1:Int).toNat = 1 from rfl] at hk hl
    have:=b1 hk
    have h2:(q1.os 0 97).size = 2:=by rw [q1_a.2]; rfl
    omega
   ·rw [q1_nx b hb h97] at h0; omega
  ·rw [q1_nx1 b hb] at h0; omega
 ·have:=b0 hs
  have h2:q1.front.size = 0:=rfl
  omega
theorem made_front {r:SeqM} (hc:Canon r) (hr:∀ x,r.run x = q1.run x):r.front = xyB:=by
 have hrun:∀ w,r.run w = (r.runL 0 w).map (bl r.front ++ ·):=fun w => by
  unfold SeqM.run
  rw [if_neg (by have:=hc.pos; omega)]
 obtain ⟨o,w,ho⟩:=hc.tight.live 0 hc.pos
 have h1:=hrun w
 rw [ho,hr] at h1
 obtain ⟨_,h2⟩:=q1_only h1
 replace h2:bl r.front ++ o = [120,121]:=h2
 have hbeg:Beg r 0 o:=fun o' ⟨w',ho'⟩ => by
  have h3:=hrun w'
  rw [ho',hr] at h3
  obtain ⟨_,h4⟩:=q1_only h3
  replace h4:bl r.front ++ o' = [120,121]:=h4
  have:o = o':=List.append_cancel_left (h2.trans h4.symm)
  rw [this]; exact List.prefix_refl _
 have h5:=hc.tight.none 0 hc.pos o hbeg
 rw [h5,List.append_nil] at h2
 exact bl_inj h2
end Go.Proofs.YtcondkihpmmnnaaGreatDoor
namespace Go.Proofs.YtcondkihpmmnnaaGreatDoor
open Go.RowKit Go.Sort
set_option maxRecDepth 100000 in
set_option maxHeartbeats 8000000 in
theorem same21_any (q:SeqM) (v1 v2:Value) (B:Nat) (w:World) (HS1:SeqAt w B q v1) (HS2:SeqAt w B q v2) (hB:B≤w.heap.size) (hck:ckB q = true) :
    Calls Tryz.prog 14 #[v1,v2] w (Gives (.bool true) w):=by
 obtain ⟨p1,p2,p3,p4,p5,p6⟩:=ck_parts hck
 obtain ⟨A1,c1,A2,c2,A3,c3,A4,c4,rfl,_,_,_,_,_,_,_,_,_,R1,_,R2,_,R3,R4,_⟩:=HS1
 obtain ⟨D1,d1,D2,d2,D3,d3,D4,d4,rfl,_,_,_,_,_,_,_,_,_,S1,_,S2,_,S3,S4,_⟩:=HS2
 rw [p2] at R2 S2 ⊢
 rw [p3] at R3 S3 ⊢
 rw [p4] at R4 S4 ⊢
 have hE:=Lib.hid (fun (W:World) (hb:Below w.heap.size w W) => bools_eq q.ends A3 D3 q.next.length c3 d3 B W (R3.below (hb.mono hB)) (S3.below (hb.mono hB)) (Nat.le_trans hB hb.size) (by omega))
 have hT:=Lib.hid (fun (W:World) (hb:Below w.heap.size w W) => texts_eq q.tail A4 D4 q.next.length c4 d4 B W (R4.below (hb.mono hB)) (S4.below (hb.mono hB)) (Nat.le_trans hB hb.size) (by omega))
 have HR1:=Lib.hid R1
 have HR2:=Lib.hid R2
 have HS1:=Lib.hid S1
 have HS2:=Lib.hid S2
 have HP6:=Lib.hid p6
 clear R1 R2 R3 R4 S1 S2 S3 S4 p2 p3 p4 p5 p6 hck
 generalize q.front = fr at *
 generalize hn:q.next.length = n at *
 have Hn:=Lib.hid hn
 clear hn
 have B0:Below w.heap.size w ((w.alloc (.cells #[.string fr,.slice A1 n c1,.slice A2 n c2,.slice A3 n c3,.slice A4 n c4] 27)).alloc (.cells #[.string fr,.slice D1 n d1,.slice D2 n d2,.slice D3 n d3,.slice D4 n d4] 27)):=((Below.refl _ w).alloc (Nat.le_refl _) _).alloc (by simp) _
 have Kp:=(Blk.new w 27 #[.string fr,.slice A1 n c1,.slice A2 n c2,.slice A3 n c3,.slice A4 n c4]).alloc (.cells #[.string fr,.slice D1 n d1,.slice D2 n d2,.slice D3 n d3,.slice D4 n d4] 27)
 have Kq:=Blk.new (w.alloc (.cells #[.string fr,.slice A1 n c1,.slice A2 n c2,.slice A3 n c3,.slice A4 n c4] 27)) 27 #[.string fr,.slice D1 n d1,.slice D2 n d2,.slice D3 n d3,.slice D4 n d4]
 simp only [World.size_alloc] at Kq
 have a0:=Kp.cell 0
 have a1:=Kp.cell 1
 have a2:=Kp.cell 2
 have a3:=Kp.cell 3
 have a4:=Kp.cell 4
 have b0:=Kq.cell 0
 have b1:=Kq.cell 1
 have b2:=Kq.cell 2
 have b3:=Kq.cell 3
 have b4:=Kq.cell 4
 go_enter Tryz.func14,Tryz.ntmps14
 go_wp2_with fail
 refine (hE.out _ B0).mono ?_
 rintro e w1 ⟨rfl,hb1⟩
 have Kp1:=Kp.below (hb1.mono (by simp)) Kp.lt
 have Kq1:=Kq.below (hb1.mono (by simp)) Kq.lt
 have B1:=B0.trans (hb1.mono (by simp; omega))
 clear a0 a1 a2 a3 a4 b0 b1 b2 b3 b4 Kp Kq B0 hb1
 have a4:=Kp1.cell 4
 have b4:=Kq1.cell 4
 go_wp2_with fail
 refine (hT.out _ B1).mono ?_
 rintro e w2 ⟨rfl,hb2⟩
 have Kp2:=Kp1.below hb2 Kp1.lt
 have Kq2:=Kq1.below hb2 Kq1.lt
 have B2:=B1.trans (hb2.mono B1.size)
 clear a4 b4 Kp1 Kq1 B1 hb2
 have a1:=Kp2.cell 1
 have HK:=Lib.hid (And.intro Kp2 (And.intro Kq2 B2))
 clear Kp2 Kq2 B2
 go_wp2
 clear a1
 go_loopw [5] (fun i wr => ∃ k:Nat,k≤n∧i = .int .i64 (k:Int)∧Blk wr w.heap.size 27 #[.string fr,.slice A1 n c1,.slice A2 n c2,.slice A3 n c3,.slice A4 n c4]∧Blk wr (w.heap.size + 1) 27 #[.string fr,.slice D1 n d1,.slice D2 n d2,.slice D3 n d3,.slice D4 n d4]∧Below w.heap.size w wr) (fun i _ => n - (intOf i).toNat)
 case atStart => exact ⟨0,Nat.zero_le _,rfl,HK.out.1,HK.out.2.1,HK.out.2.2⟩
 case round =>
  clear HK
  obtain ⟨k,hk,rfl,hKp,hKq,hb⟩:=hrel
  have a1:=hKp.cell 1
  by_cases hlt:k < n
  ·have hi1:(0:Int)≤(k:Int):=by omega
   have hi2:(k:Int) < (n:Int):=by omega
   obtain ⟨g1,o1,X1,e1,rfl,hg1,x1,Q1,_⟩:=HR1.out.at_ k hlt
   obtain ⟨g2,o2,X2,e2,rfl,hg2,x2,Q2,_⟩:=HR2.out.at_ k hlt
   obtain ⟨g3,o3,X3,e3,rfl,hg3,x3,Q3,_⟩:=HS1.out.at_ k hlt
   obtain ⟨g4,o4,X4,e4,rfl,hg4,x4,Q4,_⟩:=HS2.out.at_ k hlt
   have en1:(q.next.map fun r => r.map (Value.int .i64)).getD k [] = (q.next.getD k []).map (Value.int .i64):=by
    rw [List.getD_eq_getElem?_getD,List.getD_eq_getElem?_getD,List.getElem?_map]
    cases q.next[k]? <;> rfl
   have en2:(q.outs.map fun r => r.map Value.string).getD k [] = (q.outs.getD k []).map Value.string:=by
    rw [List.getD_eq_getElem?_getD,List.getD_eq_getElem?_getD,List.getElem?_map]
    cases q.outs[k]? <;> rfl
   obtain ⟨hl1,hl2⟩:=HP6.out k hlt
   rw [en1] at x1 Q1 x3 Q3
   rw [en2] at x2 Q2 x4 Q4
   simp only [List.length_map] at x1 Q1 x2 Q2 x3 Q3 x4 Q4
   rw [hl1] at x1 Q1 x3 Q3
   rw [hl2] at x2 Q2 x4 Q4
   have hbd:=fun d os => hb.trans ((below_regrown wr d os).mono hb.size)
   have hI:=fun d os => ints_eq (q.next.getD k []) X1 X3 256 e1 e3 B (grow (redrawn wr d) os) (Q1.below ((hbd d os).mono hB)) (Q3.below ((hbd d os).mono hB)) (Nat.le_trans hB (hbd d os).size) (by decide)
   have hX:=fun d os => texts_eq (q.outs.getD k []) X2 X4 256 e2 e4 B (grow (redrawn wr d) os) (Q2.below ((hbd d os).mono hB)) (Q4.below ((hbd d os).mono hB)) (Nat.le_trans hB (hbd d os).size) (by decide)
   have y1:=cell_regrown ((hb.cell (p:=⟨g1,o1 + k,none⟩) (by show g1 < _; omega)).trans x1)
   have y2:=cell_regrown ((hb.cell (p:=⟨g2,o2 + k,none⟩) (by show g2 < _; omega)).trans x2)
   have y3:=cell_regrown ((hb.cell (p:=⟨g3,o3 + k,none⟩) (by show g3 < _; omega)).trans x3)
   have y4:=cell_regrown ((hb.cell (p:=⟨g4,o4 + k,none⟩) (by show g4 < _; omega)).trans x4)
   have z1:=cell_regrown (hKp.cell 1)
   have z2:=cell_regrown (hKp.cell 2)
   have z3:=cell_regrown (hKq.cell 1)
   have z4:=cell_regrown (hKq.cell 2)
   have hd:decide ((k:Int) < (n:Int)) = true:=decide_eq_true hi2
   have HK:=Lib.hid (And.intro hKp (And.intro hKq hb))
   clear hKp hKq hb hbd x1 x2 x3 x4 Q1 Q2 Q3 Q4 en1 en2 hl1 hl2
   go_wp2
   refine wp_region_quiet_below (by kernel_rfl) (by kernel_rfl) ?_
   repeat (go_big_quiet_step ((first | (go_at_call 40; with_reducible exact gives_quiet (hI _ _)) | (go_at_call 39; with_reducible exact gives_quiet (hX _ _)))))
   refine wpQuiet_nil ?_
   intro w6 hw6
   have hb6:=below_of hw6
   have HK6:=Lib.hid (And.intro (HK.out.1.below hb6 HK.out.1.lt) (And.intro (HK.out.2.1.below hb6 HK.out.2.1.lt) (HK.out.2.2.trans (hb6.mono HK.out.2.2.size))))
   clear hw6 hb6 hI hX y1 y2 y3 y4 z1 z2 z3 z4 a1
   go_wp2
   go_roundw
   case rel => exact ⟨k + 1,by omega,by go_num,HK6.out.1,HK6.out.2.1,HK6.out.2.2⟩
   case measure => simp [intOf]; omega
  ·obtain rfl:n = k:=by omega
   have HB:=Lib.hid (show Gives (.bool true) w (.returned (.bool true)) wr from ⟨rfl,hb⟩)
   clear hKp hKq hb
   go_wp2
   exact bodyPost_ret (v:=.bool true) (by simp [results,Tryz.results14,go_sem]) rfl HB.out
end Go.Proofs.YtcondkihpmmnnaaGreatDoor
