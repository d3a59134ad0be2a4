/- Lemmas, part 42 of 50. No condition. -/
import Derived.Test.YtcondkihpmmnnaaGreatDoorQ36
import Derived.Test.YtcondkihpmmnnaaGreatDoorQ41
namespace Go.Proofs.YtcondkihpmmnnaaGreatDoor
open Go.RowKit Go.Sort
set_option maxRecDepth 100000 in
set_option maxHeartbeats 16000000 in
theorem parts_any (q:SeqM) (v:Value) (B n:Nat) (w:World) (HS:SeqAt w B q v) (hB:B≤w.heap.size) (hck:ckB q = true) (hn:q.next.length = n) (hP:Pow w w.heap.size) (hq:Tight q) :
    Calls Tryz.prog 34 #[v] w (PartsPost q n w):=by
 have HS0:=Lib.hid HS
 obtain ⟨A1,c1,A2,c2,A3,c3,A4,c4,rfl,hf,l1,l2,l3,l4,m1,m2,m3,m4,R1,hz,R2,hsz,R3,R4,htl⟩:=HS
 obtain ⟨p1,p2,p3,p4,p5,p6⟩:=ck_parts hck
 have HP6:=Lib.hid p6
 have HCk:=Lib.hid (fun s b (hs:s < n) (hb:b < 256) => ckB_nx hck (s:=s) (by rw [hn]; exact hs) hb)
 rw [p2,p3,p4] at HS0
 rw [p2,p3,p4]
 rw [hn] at p1 l1 R1 HS0 ⊢
 have Hn:=Lib.hid (And.intro hn (And.intro hck hq))
 generalize q.front = fr at *
 generalize hW0:w.alloc (.cells #[.string fr,.slice A1 n c1,.slice A2 n c2,.slice A3 n c3,.slice A4 n c4] 27) = W0 at *
 have K:Blk W0 w.heap.size 27 #[.string fr,.slice A1 n c1,.slice A2 n c2,.slice A3 n c3,.slice A4 n c4]:=by rw [← hW0]; exact Blk.new w _ _
 have LB:Below w.heap.size w W0:=by rw [← hW0]; exact (Below.refl w.heap.size w).alloc (Nat.le_refl _) _
 have hz0:W0.heap.size = w.heap.size + 1:=by rw [← hW0]; simp
 have HPW:=Lib.hid ((hP.below LB).mono (show w.heap.size≤W0.heap.size by omega))
 have k1:=K.cell 1
 obtain ⟨i0,hi,hy0,hy1,hy2⟩:=info_parts int_infoS
 have hbb:i0.bytes * n≤281474976710656:=by rw [hy2]; omega
 have hmx:n≤maxLen:=by unfold maxLen; omega
 have HR1:=Lib.hid R1
 have hmm:=@run_makeMap Tryz.prog
 clear R2 R3 R4 hz hsz htl p2 p3 p4 p5 p6 hck hn l2 l3 l4 R1 hP
 go_enter Tryz.func34,Tryz.ntmps34
 go_upto_region 2 with (at_make; refine wpList_make_full _ rfl _ _ 55 rfl W0.heap.size 3 i0 _ 1 Tryz.underlying55 hi hy0 hy1 _ _ (n:Int) (n:Int) n rfl rfl rfl rfl hbb hmx (Nat.le_refl _) ?_; intro w2 hown hgr)
 have hgb:=(Below.refl W0.heap.size W0).grown hgr (Nat.le_refl _) (fun k e => by cases e)
 rw [show (Value.int .i64 0).cells = #[Value.int .i64 0] from rfl,Nat.mul_one,toList_madeCells_one] at hown
 have hL:=blk_of_made hown
 rw [iV_zero,hz0] at hL
 have h1:PrtW W0 ((w2.alloc (.map #[] 0)).alloc (.cells #[.map (some w2.heap.size)] 146)) n (w.heap.size + 1) (w2.heap.size + 1) w2.heap.size (fun _ => 0) []:={
  l:=(hL.alloc _).alloc _
  x:=by
   have:=Blk.new (w2.alloc (.map #[] 0)) 146 #[.map (some w2.heap.size)]
   rwa [World.size_alloc] at this
  num:=(Num.made w2).below ((Below.refl _ (w2.alloc (.map #[] 0))).alloc (Nat.le_refl _) _) (Nat.le_refl _)
  bl:=by omega
  bx:=by have:=hgb.size; omega
  bm:=hgb.size
  bel:=(hgb.alloc hgb.size _).alloc (by have:=hgb.size; simp; omega) _ }
 have HP1:=Lib.hid h1
 clear hown hgr hgb hL h1 k1
 generalize (w2.alloc (.map #[] 0)).alloc (.cells #[.map (some w2.heap.size)] 146) = w3 at *
 generalize hgx:w2.heap.size + 1 = gx at *
 generalize w2.heap.size = bm at *
 generalize hgl:w.heap.size + 1 = gl at *
 go_wp2
 go_loopw [22] (fun i wr => ∃ (s:Nat) (m:Nat→Nat) (ks:List (List UInt8)),s≤n∧i = .int .i64 (s:Int)∧PrtW W0 wr n gl gx bm m ks∧NumI (plainK q) s m ks∧ks.length≤s∧∀ z,m z≤2000) (fun i _ => n - (intOf i).toNat)
 case atStart => exact ⟨0,_,_,Nat.zero_le _,rfl,HP1.out,NumI.start _ _,Nat.le_refl _,fun z => Nat.zero_le _⟩
 case round =>
  clear HP1
  obtain ⟨s,m,ks,hs,rfl,HW,hI,hkl,hml⟩:=hrel
  have HI:=Lib.hid hI
  have Hm:=Lib.hid hml
  clear hI hml
  have hwr:Below w.heap.size w wr:=LB.trans (HW.bel.mono (by omega))
  have hbz:=HW.bel.size
  by_cases hlt:s < n
  ·have hi1:(0:Int)≤(s:Int):=by omega
   have hi2:(s:Int) < (n:Int):=by omega
   have hKr:=K.below HW.bel (by omega)
   have k0:=hKr.cell 0
   have k1:=hKr.cell 1
   have k2:=hKr.cell 2
   have k3:=hKr.cell 3
   have k4:=hKr.cell 4
   have hpl:=plain_any q _ B s n wr (HS0.out.below (hwr.mono hB)) (by omega) Hn.out.2.1 Hn.out.1 hlt ((HPW.out.below HW.bel).mono hbz)
   have hkl2:=plainN_len (q:=q) (s:=s) ((HCk.out s 0 hlt (by decide)).2.2.2.2.1) (fun c hc => (HCk.out s c hlt hc).2.2.1) 256 (Nat.le_refl _)
   have hkl3:(plainK q s).length≤maxLen:=by unfold plainK maxLen; omega
   have Hpl:=Lib.hid hpl
   have HPut:=Lib.hid (fun (i:Nat) hi => HI.out.put (i:=i) hi)
   clear hpl hkl2 hKr
   generalize plainK q s = kk at *
   go_wp2_with fail
   refine Hpl.out.mono ?_
   rintro e w5 ⟨rfl,hb5⟩
   have HW5:=HW.call hb5
   have c5:=HW5.x.cell 0
   clear HW k0 k1 k2 k3 k4
   go_wp2_with fail
   refine (of_num gx bm ks kk w5 c5 HW5.num hkl3 (by omega)).mono ?_
   rintro e w6 ⟨i,rfl,hg6,hn6,hi6⟩
   have HW6:=HW5.num_ hg6 hn6
   have HPi:=Lib.hid (HPut.out i hi6)
   have hpl6:=putK_len ks kk
   have hi7:i < (putK ks kk).length:=by
    rcases Nat.lt_or_ge i (putK ks kk).length with e | e
    ·exact e
    ·rw [List.getElem?_eq_none e] at hi6; cases hi6
   have x1:=(HW6.l.cell s).trans (iV_at _ hlt)
   have x2:=HW6.l.frozen s
   have HW7:=Lib.hid (HW6.set s i hlt)
   clear HW5 HW6 c5 hg6 hn6 hi6
   go_wp2
   go_roundw
   case rel => exact ⟨s + 1,_,_,by omega,by go_num,HW7.out,HPi.out,by omega,fun z => by
    by_cases e:z = s
    ·simp only [e,if_true]; omega
    ·simp only [e,if_false]; exact Hm.out z⟩
   case measure => simp [intOf]; omega
  ·obtain rfl:n = s:=by omega
   have HWl:=Lib.hid (And.intro HW.l HW.bel)
   have c0:=HW.x.cell 0
   obtain ⟨nn,D,hown,hnl,htd,hism,hsz,hnd,hks⟩:=HW.num
   have HPI:=Lib.hid (PartI.start Hn.out.2.2 Hn.out.1 (HI.out.done hnd))
   have hcn:ks.length≤n:=hkl
   have hbl:=HW.bl
   clear HW hks hnd hism htd HI
   go_upto_region 8 with (at_len; refine wpList_len_own _ rfl _ 76 rfl 9 3 Tryz.underlying76 _ bm nn D rfl hown ?_; rw [hsz])
   go_loopw [4,7] (fun lv cv wr => ∃ (l:Nat→Nat) (c g:Nat),lv = .slice (some ⟨g,0,none⟩) n n∧cv = .int .i64 (c:Int)∧Blk wr g 3 (iV l n)∧Below W0.heap.size W0 wr∧W0.heap.size≤g∧PartI q n l c∧∀ z,l z≤2000) (fun _ cv _ => n + 1 - (intOf cv).toNat)
   case atStart => exact ⟨m,ks.length,gl,rfl,rfl,HWl.out.1,HWl.out.2,hbl,HPI.out,Hm.out⟩
   case round =>
    clear HWl HPI Hm c0 hsz hown
    obtain ⟨l,c,g,rfl,rfl,HL,HBw,hgW,HPl,hll⟩:=hrel
    obtain ⟨R0,hR0⟩:∃ W,W = wr:=⟨_,rfl⟩
    subst hR0
    have HPI:=Lib.hid HPl
    have Hll:=Lib.hid hll
    have hzR:=HBw.size
    have hcn:=onto_le HPl.onto
    have hgR:=HL.lt
    have hwR:Below w.heap.size w R0:=LB.trans (HBw.mono (by omega))
    clear HPl hll
    go_upto_region 9 with (at_make; refine wpList_make_full _ rfl _ _ 55 rfl R0.heap.size 3 i0 _ 1 Tryz.underlying55 hi hy0 hy1 _ _ (n:Int) (n:Int) n rfl rfl rfl rfl hbb hmx (Nat.le_refl _) ?_; intro w2 hown hgr)
    have hgb:=(Below.refl R0.heap.size R0).grown hgr (Nat.le_refl _) (fun k e => by cases e)
    rw [show (Value.int .i64 0).cells = #[Value.int .i64 0] from rfl,Nat.mul_one,toList_madeCells_one] at hown
    have hL:=blk_of_made hown
    rw [iV_zero] at hL
    have h1:PrtW R0 ((w2.alloc (.map #[] 0)).alloc (.cells #[.map (some w2.heap.size)] 146)) n R0.heap.size (w2.heap.size + 1) w2.heap.size (fun _ => 0) []:={
     l:=(hL.alloc _).alloc _
     x:=by
      have:=Blk.new (w2.alloc (.map #[] 0)) 146 #[.map (some w2.heap.size)]
      rwa [World.size_alloc] at this
     num:=(Num.made w2).below ((Below.refl _ (w2.alloc (.map #[] 0))).alloc (Nat.le_refl _) _) (Nat.le_refl _)
     bl:=Nat.le_refl _
     bx:=by have:=hgb.size; omega
     bm:=hgb.size
     bel:=(hgb.alloc hgb.size _).alloc (by have:=hgb.size; simp; omega) _ }
    have HP1:=Lib.hid h1
    have HRL:=Lib.hid (fun (W:World) (hb:Below R0.heap.size R0 W) => HL.below hb hgR)
    have HRK:=Lib.hid (fun (W:World) (hb:Below R0.heap.size R0 W) => (K.below (HBw.trans (hb.mono hzR)) (by omega)))
    have HRB:=Lib.hid (fun (W:World) (hb:Below R0.heap.size R0 W) => HBw.trans (hb.mono hzR))
    clear hown hgr hgb hL h1
    generalize (w2.alloc (.map #[] 0)).alloc (.cells #[.map (some w2.heap.size)] 146) = w3 at *
    generalize hgx:w2.heap.size + 1 = gx at *
    generalize w2.heap.size = bm at *
    go_wp2
    go_loopw [43] (fun i wr => ∃ (s:Nat) (m:Nat→Nat) (ks:List (List UInt8)),s≤n∧i = .int .i64 (s:Int)∧PrtW R0 wr n R0.heap.size gx bm m ks∧NumI (keyK q l) s m ks∧ks.length≤s∧∀ z,m z≤2000) (fun i _ => n - (intOf i).toNat)
    case atStart => exact ⟨0,_,_,Nat.zero_le _,rfl,HP1.out,NumI.start _ _,Nat.le_refl _,fun z => Nat.zero_le _⟩
    case round =>
     clear HP1
     obtain ⟨s,m,ks,hs,rfl,HW,hI,hkl,hml⟩:=hrel
     have HI:=Lib.hid hI
     have Hm:=Lib.hid hml
     clear hI hml
     have hbz:=HW.bel.size
     by_cases hlt:s < n
     ·have hi1:(0:Int)≤(s:Int):=by omega
      have hi2:(s:Int) < (n:Int):=by omega
      have hLr:=HRL.out _ (HW.bel)
      have x1:=(hLr.cell s).trans (iV_at _ hlt)
      have x1':=cell_regrown x1
      have hls:=Hll.out s
      have hk0:=enc2_cells hls
      have HKn:=Lib.hid (show keyN q l s 0 = enc2 (l s) by unfold keyN; simp)
      generalize hlse:l s = ls at *
      have Hlse:=Lib.hid hlse
      clear hlse
      go_wp2
      refine wp_region_hold_below 12 [0,1,2,3,4,5,6,7,8,9,10] [11] (by kernel_rfl) (by kernel_rfl) rfl (by kernel_rfl) ?_
      simp only [pickOps,List.getElem?_cons_zero,List.getElem?_cons_succ,List.drop_succ_cons,List.drop_zero]
      repeat (go_big_quiet_step (fail))
      refine wpQuiet_nil ?_
      refine wpForce_step rfl (fun KK hKK => ?_)
      go_simp
      have LA:Below wr.heap.size wr (wr.alloc (.cells #[.int .u8 ((ls:Int) / 256),.int .u8 ((ls:Int) % 256)] 5)).drew:=((Below.refl _ wr).alloc (Nat.le_refl _) _).drew
      refine hKK _ _ (regrown_of_below LA) ?_
      clear hKK KK
      refine wpForce_nil ?_
      have hO:(wr.alloc (.cells #[.int .u8 ((ls:Int) / 256),.int .u8 ((ls:Int) % 256)] 5)).drew.ownsRow R0.heap.size 5 1 (.slice (some ⟨wr.heap.size,0,none⟩) 2 2) 2 [.int .u8 ((ls:Int) / 256),.int .u8 ((ls:Int) % 256)] :=
       own_ofBlk hbz (Blk.new wr 5 #[.int .u8 ((ls:Int) / 256),.int .u8 ((ls:Int) % 256)]) (by unfold maxLen; simp)
      have HW1:=HW.call LA
      have HWd:=Lib.hid HW1
      clear HW1 HW LA x1 x1' hLr
      generalize (wr.alloc (.cells #[.int .u8 ((ls:Int) / 256),.int .u8 ((ls:Int) % 256)] 5)).drew = w4 at *
      generalize wr.heap.size = gk at *
      rw [← hk0,← HKn.out] at hO
      have HO:=Lib.hid hO
      clear hO
      go_wp2
      refine NoPanic.normal ?_
      have k1:=(HRK.out _ (HWd.out.bel)).cell 1
      obtain ⟨g1,o1,A1',d1,rfl,hg1,x0,Q0,y1,z1⟩:=HR1.out.at_ s hlt
      have hbw4:Below B w w4:=(hwR.trans ((HWd.out.bel).mono (by omega))).mono hB
      have x1:=(hbw4.cell (p:=⟨g1,o1 + s,none⟩) (by show g1 < B; exact hg1)).trans x0
      have e1:(q.next.map fun r => r.map (Value.int .i64)).getD s [] = (q.next.getD s []).map (Value.int .i64):=by
       rw [List.getD_eq_getElem?_getD,List.getD_eq_getElem?_getD,List.getElem?_map]
       cases q.next[s]? <;> rfl
      rw [e1] at x1 Q0 y1
      simp only [List.length_map] at x1 Q0 y1
      rw [(HP6.out s (by rw [Hn.out.1]; exact hlt)).1] at x1 Q0 y1
      have HNr:=Lib.hid (fun (W:World) (hb:Below w.heap.size w W) => Q0.below (hb.mono hB))
      clear x0 Q0 e1 hbw4
      go_wp2
      clear k1 x1
      go_loopw [11,64] (fun kv i wr => ∃ (b:Nat) (kw:Value),kw = kv∧b≤256∧i = .int .i64 (b:Int)∧PrtW R0 wr n R0.heap.size gx bm m ks∧wr.ownsRow R0.heap.size 5 1 kw (keyN q l s b).length (Lib.byteCells (keyN q l s b))) (fun _ i _ => 256 - (intOf i).toNat)
      case atStart =>
       refine ⟨0,_,rfl,Nat.zero_le _,rfl,HWd.out,?_⟩
       have h2:(keyN q l s 0).length = 2:=by rw [HKn.out]; rfl
       rw [h2]; exact HO.out
      case round =>
       clear HO HWd
       obtain ⟨b,kw,rfl,hb,rfl,HW,hO⟩:=hrel
       have hbz':=HW.bel.size
       have hW:Below w.heap.size w wr:=hwR.trans (HW.bel.mono (by omega))
       have hkl2:=keyN_len q l s b
       have Hsuc:=Lib.hid (keyN_next q l s b)
       by_cases hltb:b < 256
       ·have hb1:(0:Int)≤(b:Int):=by omega
        have hb2:(b:Int) < 256:=by omega
        obtain ⟨z0,z1',_⟩:=HCk.out s b hlt hltb
        rw [Hn.out.1] at z1'
        obtain ⟨h1,q1,rfl,hh1,r1⟩:=cell_at (d:=0) (HNr.out wr hW) b hltb
        have hnx:(q.next.getD s []).getD b 0 = q.nx s b:=rfl
        rw [hnx] at r1
        by_cases hneg:q.nx s b < 0
        ·have hc:=Lib.hid (show keyN q l s (b + 1) = keyN q l s b by rw [Hsuc.out]; unfold keyB; rw [if_pos hneg,List.append_nil])
         have hge:¬ q.nx s b ≥ 0:=by omega
         generalize q.nx s b = z at *
         go_wp2
         go_roundw
         case rel => exact ⟨b + 1,_,rfl,by omega,by go_num,HW,by rw [hc.out]; exact hO⟩
         case measure => simp [intOf]; omega
        ·obtain ⟨z,hz⟩:∃ z:Nat,q.nx s b = (z:Int):=⟨_,(Int.toNat_of_nonneg (by omega)).symm⟩
         have hzn:z < n:=by omega
         have hc:=Lib.hid (show keyN q l s (b + 1) = keyN q l s b ++ enc2 (l z) by rw [Hsuc.out]; unfold keyB; rw [if_neg hneg,hz,Int.toNat_natCast])
         rw [hz] at r1 hneg
         have hzi1:(0:Int)≤(z:Int):=by omega
         have hzi2:(z:Int) < (n:Int):=by omega
         have hge:(z:Int) ≥ 0:=by omega
         have x1:=((HRL.out _ HW.bel).cell z).trans (iV_at _ hzn)
         have x1':=cell_regrown x1
         have hlz:=Hll.out z
         have hk0:=enc2_cells hlz
         generalize l z = lz at *
         have Hk0:=Lib.hid hk0
         clear hz hk0
         generalize keyN q l s b = acc at *
         go_wp2
         refine wp_region_hold_below 13 [0,1,2,3,4,5,6,7,8,9,10,11] [12] (by kernel_rfl) (by kernel_rfl) rfl (by kernel_rfl) ?_
         simp only [pickOps,List.getElem?_cons_zero,List.getElem?_cons_succ,List.drop_succ_cons,List.drop_zero]
         repeat (go_big_quiet_step (fail))
         refine wpQuiet_nil ?_
         refine wpForce_step rfl (fun KK hKK => ?_)
         go_simp
         have LA:Below wr.heap.size wr (wr.alloc (.cells #[.int .u8 ((lz:Int) / 256),.int .u8 ((lz:Int) % 256)] 5)).drew:=((Below.refl _ wr).alloc (Nat.le_refl _) _).drew
         refine hKK _ _ (regrown_of_below LA) ?_
         clear hKK KK
         refine wpForce_nil ?_
         have HWa:=HW.call LA
         have hOa:=own_below hO LA
         have hrd:=(reads_allocK wr [.int .u8 ((lz:Int) / 256),.int .u8 ((lz:Int) % 256)] 5 1 2 rfl).drew
         obtain ⟨i1,t0,t1,t2,t3⟩:=info_parts byte_info
         have hone:∀ u∈[Value.int .u8 ((lz:Int) / 256),Value.int .u8 ((lz:Int) % 256)],u.oneCell' = true:=fun u hu => by
          simp at hu
          rcases hu with rfl | rfl <;> rfl
         have h63:acc.length + 2≤maxLen:=by unfold maxLen; omega
         have hby:(acc.length + 2) * 1≤140737488355328:=by omega
         have hbs:=HWa.bel.size
         have hcast:=Lib.hid (fun (W:World) (v':Value) (h:W.ownsRow R0.heap.size 5 1 v' (acc.length + 2) (Lib.byteCells acc ++ [.int .u8 ((lz:Int) / 256),.int .u8 ((lz:Int) % 256)])) => show W.ownsRow R0.heap.size 5 1 v' (keyN q l s (b + 1)).length (Lib.byteCells (keyN q l s (b + 1))) by
          rw [hc.out,Lib.byteCells_append,Hk0.out,List.length_append]; exact h)
         clear HW hO LA r1 x1 x1'
         go_wp2_with (at_builtin; refine wpList_append_any _ rfl _ _ 81 rfl R0.heap.size 5 i1 _ 1 1 Tryz.underlying81 t0 t1 t2 t3 rfl (by decide) _ _ _ rfl hOa _ (some ⟨wr.heap.size,0,none⟩) 2 2 [.int .u8 ((lz:Int) / 256),.int .u8 ((lz:Int) % 256)] rfl hrd hone h63 hby hbs ?_; intro v' w7 hown hgrow hloc)
         refine NoPanic.normal ?_
         go_wp2
         go_roundw
         case rel => exact ⟨b + 1,_,rfl,by omega,by go_num,HWa.row hOa hgrow,hcast.out _ _ hown⟩
         case measure => simp [intOf]; omega
       ·obtain rfl:b = 256:=by omega
        have hkk:keyN q l s 256 = keyK q l s:=rfl
        rw [hkk] at hO hkl2
        obtain ⟨Ak,ck,rfl,hk1,hk2,hk3⟩:=own_form hO
        have HPut:=Lib.hid (fun (i:Nat) hi => HI.out.put (i:=i) hi)
        have hpos:0 < (keyK q l s).length:=by
         have h1:keyK q l s = enc2 (l s) ++ (List.range 256).flatMap (keyB q l s):=rfl
         rw [h1,List.length_append,show (enc2 (l s)).length = 2 from rfl]; omega
        obtain ⟨gz,rfl,hgz1,hgz2⟩:=hk3 hpos
        have hcv:=own_string hO
        have hkl3:(keyK q l s).length≤maxLen:=by unfold maxLen; omega
        have c5:=HW.x.cell 0
        clear Hsuc hkk hO
        generalize keyK q l s = kk at *
        go_wp2_with fail
        refine (of_num gx bm ks kk wr c5 HW.num hkl3 (by omega)).mono ?_
        rintro e w6 ⟨i,rfl,hg6,hn6,hi6⟩
        have HW6:=HW.num_ hg6 hn6
        have HPi:=Lib.hid (HPut.out i hi6)
        have hpl6:=putK_len ks kk
        have hi7:i < (putK ks kk).length:=by
         rcases Nat.lt_or_ge i (putK ks kk).length with e | e
         ·exact e
         ·rw [List.getElem?_eq_none e] at hi6; cases hi6
        have x1:=(HW6.l.cell s).trans (iV_at _ hlt)
        have x2:=HW6.l.frozen s
        have HW7:=Lib.hid (HW6.set s i hlt)
        clear HW HW6 c5 hg6 hn6 hi6 hcv
        go_wp2
        go_roundw
        case rel => exact ⟨s + 1,_,_,by omega,by go_num,HW7.out,HPi.out,by omega,fun z => by
         by_cases e:z = s
         ·simp only [e,if_true]; omega
         ·simp only [e,if_false]; exact Hm.out z⟩
        case measure => simp [intOf]; omega
     ·obtain rfl:n = s:=by omega
      have HWl:=Lib.hid (And.intro HW.l HW.bel)
      have c0:=HW.x.cell 0
      obtain ⟨nn,D,hown,hnl,htd,hism,hsz,hnd,hks⟩:=HW.num
      have hnx:=HPI.out.next Hn.out.2.2 Hn.out.1 (fun z => by have:=Hll.out z; omega) (HI.out.done hnd)
      have HNx:=Lib.hid hnx
      have hcc:=hnx.2.1
      have hcn':=onto_le hnx.1.onto
      have hRz:=HRB.out _ HW.bel
      clear HW hks hnd hism htd HI hnx
      by_cases heq:ks.length = c
      ·have HP:=Lib.hid (show PartsPost q n w (.returned (.tuple #[.slice (some ⟨R0.heap.size,0,none⟩) n n,.int .i64 (c:Int)])) wr from ⟨_,m,c,rfl,HWl.out.1,by omega,LB.trans (hRz.mono (by omega)),by rw [← heq]; exact HNx.out.2.2 heq⟩)
       have hsz:Maps.size D = c:=by rw [hsz,heq]
       clear heq
       go_wp2_with (at_len; refine wpList_len_own _ rfl _ 76 rfl 9 3 Tryz.underlying76 _ bm nn D rfl hown ?_; rw [hsz])
       exact bodyPost_ret (v:=.tuple #[.slice (some ⟨R0.heap.size,0,none⟩) n n,.int .i64 (c:Int)]) (by simp [results,Tryz.results34,go_sem]) rfl HP.out
      ·have hne:((ks.length:Int) == (c:Int)) = false:=by simp; omega
       go_wp2_with (at_len; refine wpList_len_own _ rfl _ 76 rfl 9 3 Tryz.underlying76 _ bm nn D rfl hown ?_; rw [hsz])
       exact ⟨⟨m,ks.length,R0.heap.size,rfl,rfl,HWl.out.1,hRz,by omega,HNx.out.1,Hm.out⟩,by simp [intOf]; omega⟩
end Go.Proofs.YtcondkihpmmnnaaGreatDoor
