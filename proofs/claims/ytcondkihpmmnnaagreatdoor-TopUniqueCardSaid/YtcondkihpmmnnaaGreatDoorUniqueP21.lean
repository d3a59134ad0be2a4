/- Lemmas, part 21 of 39. No condition. -/
import Derived.Test.YtcondkihpmmnnaaGreatDoorUniqueP20
namespace Go.Proofs.YtcondkihpmmnnaaGreatDoor
open Go.RowKit Go.Sort
def StopsPost (c:Ch) (a b:Fs) (vS vA:Value) (S:List Tp) (A:List Ar) (e:Ending) (w':World):Prop :=
 e = .returned (.tuple #[])∧∃ v E ov,ChW c w' vS v vA S E A ov∧Puts E ov (endsL a b c.n)∧TipsB (a.n * b.n) E
set_option maxRecDepth 100000 in
set_option maxHeartbeats 8000000 in
theorem stops_any (c:Ch) (a b:Fs) (HE:ChE c a b) (wr:World) (vS vE vA:Value) (S:List Tp) (A:List Ar) (HW:ChW c wr vS vE vA S [] A false) :
    Calls Tryz.prog 25 #[.pointer (some ⟨c.G,0,none⟩)] wr (StopsPost c a b vS vA S A):=by
 obtain ⟨A1,c1,haS,hR1⟩:=HE.aE
 have HP:=Lib.hid (fun w' v E ov (h:ChW c w' vS v vA S E A ov) (h2:Puts E ov (endsL a b c.n)) (h3:TipsB (a.n * b.n) E) => show StopsPost c a b vS vA S A (.returned (.tuple #[])) w' from ⟨rfl,v,E,ov,h,h2,h3⟩)
 have hHs:=HE.he
 have hN:=HE.n
 have hBn:=HE.bn
 have hmul:=HE.mul
 have ha0:=HE.a0
 have hcn:=HE.hn
 have HS:=Lib.hid hHs.2
 have KE:=Lib.hid HE.ke
 have hn1:=hHs.1
 have HN:=Lib.hid hN
 have HMUL:=Lib.hid hmul
 have HA0:=Lib.hid ha0
 have HGE:=HE.ends
 have b1:∀ w' v E ov,ChW c w' vS v vA S E A ov→w'.cell? ⟨c.G,2,none⟩ = some (.slice A1 a.ends.length c1):=fun w' v E ov h => by rw [← haS]; exact h.box.cell 2
 have b4:∀ w' v E ov,ChW c w' vS v vA S E A ov→w'.cell? ⟨c.G,4,none⟩ = some (.int .i64 b.n):=fun w' v E ov h => by rw [← hBn]; exact h.box.cell 4
 have b4n:∀ w' v E ov,ChW c w' vS v vA S E A ov→w'.cell? ⟨c.G,4,none⟩ = some (.int .i64 (c.n:Int)):=fun w' v E ov h => by rw [← hN,← hBn]; exact h.box.cell 4
 have b9:∀ w' v E ov,ChW c w' vS v vA S E A ov→w'.cell? ⟨c.G,9,none⟩ = some (.slice (some ⟨c.E,0,none⟩) c.n c.n):=fun w' v E ov h => h.box.cell 9
 have b17:∀ w' v E ov,ChW c w' vS v vA S E A ov→w'.cell? ⟨c.G,17,none⟩ = some (.bool ov):=fun w' v E ov h => h.box.cell 17
 have B1:=Lib.hid b1
 have B4:=Lib.hid b4
 have B4N:=Lib.hid b4n
 have B9:=Lib.hid b9
 have B17:=Lib.hid b17
 clear b1 b4 b4n b9 b17 hHs hN hBn haS hmul ha0
 generalize hl1:a.ends.length = n1 at *
 have HL1:=Lib.hid hl1
 clear hl1
 have c1':=B1.out _ _ _ _ HW
 go_enter Tryz.func25,Tryz.ntmps25
 go_wp2
 clear c1'
 go_loopw [15] (fun i w1 => ∃ (j:Nat) (v:Value) (E:List Tp),j≤n1∧i = .int .i64 ((j:Nat):Int)∧ChW c w1 vS v vA S E A false∧Puts E false ((a.ends.take j).flatMap fun q => (List.range c.n).flatMap (enT b q))∧TipsB (a.n * b.n) E) (fun i _ => n1 - (intOf i).toNat)
 case atStart => exact ⟨0,vE,[],Nat.zero_le _,rfl,HW,Puts.nil,⟨Nat.zero_le _,fun _ h => (List.not_mem_nil h).elim⟩⟩
 case round =>
  clear HW
  obtain ⟨j,v1,S1,hj,rfl,HW1,hp1,ht1⟩:=hrel
  have Hp1:=Lib.hid hp1
  have Ht1:=Lib.hid ht1
  clear hp1 ht1
  by_cases hlt:j < n1
  ·have hi1:(0:Int)≤(j:Int):=by omega
   have hi2:(j:Int) < (n1:Int):=by omega
   obtain ⟨g,o,rfl,hgB,d0,d1⟩:=tip_cell ((hR1.kept HW1.keep).reads (B:=wr.heap.size) fun k hk => Nat.lt_of_lt_of_le hk.1 HW1.size) j hlt
   have hq:=HS.out _ (getD_in a.ends tp0 j (by have:=HL1.out; omega))
   have Hpre:=Lib.hid (flatMap_next a.ends tp0 (fun q => (List.range c.n).flatMap (enT b q)) j (by have:=HL1.out; omega))
   generalize a.ends.getD j tp0 = q at *
   obtain ⟨qs,qo⟩:=q
   simp only at d0 d1 hq
   have HW2:=HW1.call ((Below.refl wr.heap.size wr).alloc (Nat.le_refl _) (.cells #[.int .i64 qs,.string qo] 54))
   have HG3:=Blk.new wr 54 #[.int .i64 qs,.string qo]
   have HF3:Fr c (wr.alloc (.cells #[.int .i64 qs,.string qo] 54)) v1 wr.heap.size:=⟨HW1.size,by simp,fun e => by have:=(own_lt HW1.oE _ e).2; omega⟩
   have c4:=B4N.out _ _ _ _ HW2
   clear HW1
   go_wp2
   generalize wr.heap.size = G3 at *
   clear d0 d1 c4
   go_loopw [24] (fun i w2 => ∃ (k:Nat) (v:Value) (E:List Tp),k≤c.n∧i = .int .i64 ((k:Nat):Int)∧ChW c w2 vS v vA S E A false∧Puts E false (((a.ends.take j).flatMap fun q => (List.range c.n).flatMap (enT b q)) ++ (List.range k).flatMap (enT b ⟨qs,qo⟩))∧TipsB (a.n * b.n) E∧Blk w2 G3 54 #[.int .i64 qs,.string qo]∧Fr c w2 v G3) (fun i _ => c.n - (intOf i).toNat)
   case atStart => exact ⟨0,v1,S1,Nat.zero_le _,rfl,HW2,by rw [List.range_zero,List.flatMap_nil,List.append_nil]; exact Hp1.out,Ht1.out,HG3,HF3⟩
   case round =>
    clear HW2 HG3 HF3
    obtain ⟨y,v2,S2,hk,rfl,HW2,hp2,ht2,HG3,HF3⟩:=hrel
    have Hp2:=Lib.hid hp2
    have Ht2:=Lib.hid ht2
    clear hp2 ht2
    by_cases hy:y < c.n
    ·have hk1:(0:Int)≤(y:Int):=by omega
     have hk2:(y:Int) < (c.n:Int):=by omega
     have hG31:=HG3.cell 1
     have hC:=chWaysG_any HE _ vS v2 vA S S2 A HW2 y qo hy hq.2.2
     have hv2:∀ g,v2.ownBlock = some g→g < wr.heap.size:=fun g e => (own_lt HW2.oE g e).2
     have hz2:=HW2.size
     clear HW2
     go_wp2_with fail
     refine hC.mono ?_
     rintro e w3 ⟨Aw,cw,l,ov3,rfl,hl3,hst,hRw,HW4,hok,hel⟩
     have HG3':=(hst v2).blk HG3 HF3
     have HF3':=(hst v2 _ HF3).1
     have hRf:=reads_fr hv2 hz2 hRw
     have HOK:=Lib.hid hok
     have HEL:=Lib.hid hel
     clear hC hst hRw hok hel hG31 HG3 HF3 hv2 hz2
     generalize hml:l.length = m at *
     have HML:=Lib.hid hml
     clear hml
     go_wp2
     go_loopw [33] (fun i w4 => ∃ (x:Nat) (v:Value) (E:List Tp) (ov:Bool),x≤m∧i = .int .i64 ((x:Nat):Int)∧ChW c w4 vS v vA S E A ov∧Puts E ov ((((a.ends.take j).flatMap fun q => (List.range c.n).flatMap (enT b q)) ++ (List.range y).flatMap (enT b ⟨qs,qo⟩)) ++ (l.take x).flatMap fun u => (endS b.ends b.ends.length u.st.toNat).map fun z => some (enX b ⟨qs,qo⟩ (y:Int) u z))∧TipsB (a.n * b.n) E∧Blk w4 G3 54 #[.int .i64 qs,.string qo]∧Fr c w4 v G3∧ReadsP (Fr c w4 v) w4 2 Aw m (encs encT l)∧(ov = false→ov3 = false)) (fun i _ => m - (intOf i).toNat)
     case atStart => exact ⟨0,v2,S2,ov3,Nat.zero_le _,rfl,HW4,by rw [List.take_zero,List.flatMap_nil,List.append_nil]; exact fun h => by (have:=Hp2.out); exact this rfl,Ht2.out,HG3',HF3',hRf,id⟩
     case round =>
      clear HW4 HG3' HF3' hRf
      obtain ⟨x,v4,S4,ov4,hx,rfl,HW4,hp4,ht4,HG3,HF3,hRf,hov⟩:=hrel
      have Hp4:=Lib.hid hp4
      have Ht4:=Lib.hid ht4
      have Hov:=Lib.hid hov
      clear hp4 ht4 hov
      by_cases hlt3:x < m
      ·have hx1:(0:Int)≤(x:Int):=by omega
       have hx2:(x:Int) < (m:Int):=by omega
       obtain ⟨gw,ow,rfl,hgw,u0,u1⟩:=tip_cell (hRf.reads (B:=wr.heap.size) fun k hk => hk.2.1) x hlt3
       have hp:=HEL.out _ (getD_in l tp0 x (by have:=HML.out; omega))
       have Hpre3:=Lib.hid (flatMap_next l tp0 (fun u => (endS b.ends b.ends.length u.st.toNat).map fun z => some (enX b ⟨qs,qo⟩ (y:Int) u z)) x (by have:=HML.out; omega))
       generalize l.getD x tp0 = p at *
       obtain ⟨ps,po⟩:=p
       simp only at u0 u1 hp
       obtain ⟨sv,rfl⟩:∃ sv:Nat,ps = (sv:Int):=⟨_,(Int.toNat_of_nonneg hp.1).symm⟩
       have hsv:sv < c.n:=by omega
       have hsv1:(0:Int)≤(sv:Int):=by omega
       have hsv2:(sv:Int) < (c.n:Int):=by omega
       have LB:=(Below.refl wr.heap.size wr).alloc (Nat.le_refl _) (.cells #[.int .i64 (sv:Int),.string po] 54)
       have HW5:=HW4.call LB
       have HG6:=Blk.new wr 54 #[.int .i64 (sv:Int),.string po]
       have HF6:Fr c (wr.alloc (.cells #[.int .i64 (sv:Int),.string po] 54)) v4 wr.heap.size:=⟨HW4.size,by simp,fun e => by have:=(own_lt HW4.oE _ e).2; omega⟩
       have ST:=Stays.call (c:=c) (v:=v4) LB
       have HG3':=ST.blk HG3 HF3
       have HF3':=(ST _ HF3).1
       have HR':=ST.reads hRf
       obtain ⟨AZ,cZ,z0,z1,z2,z3⟩:=HGE.2 sv hsv
       have y0:=(cell_kept (a:=⟨c.E,sv,none⟩) (HW5.keep _ HGE.1)).trans z0
       have HZM:=Lib.hid (show ∀ z∈endS b.ends b.ends.length sv,z∈b.ends from fun z hz => List.mem_of_mem_take (List.mem_filter.1 hz).1)
       have hzl:(endS b.ends b.ends.length sv).length≤1024:=Nat.le_trans (List.length_filter_le _ _) (by rw [List.length_take]; have:=KE.out.1; omega)
       generalize hzs:endS b.ends b.ends.length sv = zs at *
       have HZS:=Lib.hid hzs
       generalize hmz:zs.length = mz at *
       have HMZ:=Lib.hid hmz
       have k60:=cell_regrown (HG6.cell 0)
       have k9:=cell_regrown (B9.out _ _ _ _ HW5)
       have kz:=cell_regrown y0
       clear hzs hmz HG3 HF3 hRf LB HW4 hgw ST z0 y0
       go_wp2
       clear u0 u1
       refine wp_region_quiet_below (by kernel_rfl) (by kernel_rfl) ?_
       repeat (go_big_quiet_step (fail))
       refine wpQuiet_nil ?_
       intro w5 hw5
       have LB:=below_of hw5
       have HW6:=HW5.call LB
       have ST:=Stays.call (c:=c) (v:=v4) LB
       have HG3:=ST.blk HG3' HF3'
       have HF3:=(ST _ HF3').1
       have HG6':=ST.blk HG6 HF6
       have HF6':=(ST _ HF6).1
       have HR6:=ST.reads HR'
       clear hw5 k60 k9 kz HW5 HG3' HF3' HG6 HF6 HR' LB ST
       go_wp2
       generalize wr.heap.size = G6 at *
       go_loopw [46] (fun i w6 => ∃ (k:Nat) (v:Value) (E:List Tp) (ov:Bool),k≤mz∧i = .int .i64 ((k:Nat):Int)∧ChW c w6 vS v vA S E A ov∧Puts E ov (((((a.ends.take j).flatMap fun q => (List.range c.n).flatMap (enT b q)) ++ (List.range y).flatMap (enT b ⟨qs,qo⟩)) ++ (l.take x).flatMap fun u => (endS b.ends b.ends.length u.st.toNat).map fun z => some (enX b ⟨qs,qo⟩ (y:Int) u z)) ++ (zs.take k).map fun z => some (enX b ⟨qs,qo⟩ (y:Int) ⟨(sv:Int),po⟩ z))∧TipsB (a.n * b.n) E∧Blk w6 G3 54 #[.int .i64 qs,.string qo]∧Fr c w6 v G3∧Blk w6 G6 54 #[.int .i64 (sv:Int),.string po]∧Fr c w6 v G6∧ReadsP (Fr c w6 v) w6 2 (some ⟨gw,ow,none⟩) m (encs encT l)∧(ov = false→ov3 = false)) (fun i _ => mz - (intOf i).toNat)
       case atStart => exact ⟨0,v4,S4,ov4,Nat.zero_le _,rfl,HW6,by rw [List.take_zero,List.map_nil,List.append_nil]; exact Hp4.out,Ht4.out,HG3,HF3,HG6',HF6',HR6,Hov.out⟩
       case round =>
        clear HW6 HG3 HF3 HG6' HF6' HR6
        obtain ⟨k,v6,S6,ov6,hk6,rfl,HW6,hp6,ht6,HG3,HF3,HG6,HF6,HR6,hov6⟩:=hrel
        have Hp6:=Lib.hid hp6
        have Ht6:=Lib.hid ht6
        have Hov6:=Lib.hid hov6
        clear hp6 ht6 hov6
        by_cases hlt4:k < mz
        ·have hk1:(0:Int)≤(k:Int):=by omega
         have hk2:(k:Int) < (mz:Int):=by omega
         obtain ⟨gz,oz,rfl,hgz,t0,t1⟩:=tip_cell ((z3.kept HW6.keep).reads (B:=wr.heap.size) fun k hk => Nat.lt_of_lt_of_le hk.1 HW6.size) k hlt4
         have hzb:=KE.out.2 _ (HZM.out _ (getD_in zs tp0 k (by have:=HMZ.out; omega)))
         have Hpre4:=Lib.hid (map_next zs tp0 (fun z => some (enX b ⟨qs,qo⟩ (y:Int) ⟨(sv:Int),po⟩ z)) k (by have:=HMZ.out; omega))
         generalize zs.getD k tp0 = z at *
         obtain ⟨zt,zo⟩:=z
         simp only at t0 t1 hzb
         have hpl:=pair_lt hq.1 hq.2.1 (show (0:Int)≤(y:Int) by omega) (show (y:Int) < b.n by have:=HN.out; omega)
         have hm2:=HMUL.out
         have hb0:0≤b.n:=by have:=HN.out; omega
         have LB:=(Below.refl wr.heap.size wr).alloc (Nat.le_refl _) (.cells #[.int .i64 zt,.string zo] 54)
         have HW7:=HW6.call LB
         have HG8:=Blk.new wr 54 #[.int .i64 zt,.string zo]
         have ST:=Stays.call (c:=c) (v:=v6) LB
         have HG3':=ST.blk HG3 HF3
         have HG6':=ST.blk HG6 HF6
         have HF3':=(ST _ HF3).1
         have HF6':=(ST _ HF6).1
         have HR':=ST.reads HR6
         have k30:=cell_regrown (HG3'.cell 0)
         have k61:=cell_regrown (HG6'.cell 1)
         have k81:=cell_regrown (HG8.cell 1)
         have hat:=fun n os => at_gives c.G b.n qs (y:Int) _ (cell_regrown (B4.out _ _ _ _ HW7) n os) hq.1 hb0 (by omega) (show (0:Int)≤(y:Int) by omega) (by omega)
         have hT:=fun W (h:ChW c W vS v6 vA S S6 A ov6) => tipE_any c (enX b ⟨qs,qo⟩ (y:Int) ⟨(sv:Int),po⟩ ⟨zt,zo⟩) W vS v6 vA S S6 A ov6 h ⟨by show (-9223372036854775808:Int)≤qs * b.n + (y:Int); omega,by show qs * b.n + (y:Int)≤(9223372036854775807:Int); omega,by show (po ++ zo).size≤maxLen; unfold maxLen; have e:=congrArg List.length (bl_app po zo); rw [bl_len,List.length_append,bl_len,bl_len] at e; omega⟩ Ht6.out.1
         replace hT:∀ W,ChW c W vS v6 vA S S6 A ov6→Calls Tryz.prog 55 #[.pointer (some ⟨c.G,0,none⟩),.int .i64 1,.pointer (some ⟨c.G,15,none⟩),.agg #[.int .i64 (qs * b.n + (y:Int)),.string (po ++ zo)]] W _:=hT
         have HT:=Lib.hid hT
         have hzo:zo.size≤1024:=hzb.2.2
         have hpo:po.size≤1049600:=hp.2.2
         clear hT HG3 HG6 HF3 HF6 HR6 LB HW6 hm2 hpl hgz ST
         go_wp2
         clear t0 t1
         refine wp_region_tail_below 16 (by kernel_rfl) (by kernel_rfl) ?_
         simp only [List.take_succ_cons,List.take_zero,List.drop_succ_cons,List.drop_zero]
         repeat (go_big_quiet_step ((go_at_call 56; exact gives_quiet (hat _ _))))
         refine wpQuiet_nil ?_
         intro w7 hw7
         have LB:=below_of hw7
         have HW8:=HW7.call LB
         have ST:=Stays.call (c:=c) (v:=v6) LB
         have HG3:=ST.blk HG3' HF3'
         have HG6:=ST.blk HG6' HF6'
         have HF3:=(ST _ HF3').1
         have HF6:=(ST _ HF6').1
         have HR8:=ST.reads HR'
         clear hw7 hat k30 k61 k81 HW7 HG3' HG6' HF3' HF6' HR' LB HG8 ST
         go_wp2_with fail
         refine (HT.out _ HW8).mono ?_
         rintro e w9 ⟨rfl,v9,ST9,HW9⟩
         have HG3':=ST9.blk HG3 HF3
         have HG6':=ST9.blk HG6 HF6
         have HF3':=(ST9 _ HF3).1
         have HF6':=(ST9 _ HF6).1
         have HR9:=ST9.reads HR8
         have hp9:=Hp6.out.tip (enX b ⟨qs,qo⟩ (y:Int) ⟨(sv:Int),po⟩ ⟨zt,zo⟩)
         rw [List.append_assoc (_ ++ _),← Hpre4.out] at hp9
         have Hp9:=Lib.hid hp9
         have Ht9:=Lib.hid (Ht6.out.tip (enX b ⟨qs,qo⟩ (y:Int) ⟨(sv:Int),po⟩ ⟨zt,zo⟩) ov6 (by
          have hpl:=pair_lt hq.1 hq.2.1 (show (0:Int)≤(y:Int) by omega) (show (y:Int) < b.n by have:=HN.out; omega)
          exact ⟨hpl.1,hpl.2.1⟩))
         have Hov9:=Lib.hid (fun h => Hov6.out (tipF_false (x:=enX b ⟨qs,qo⟩ (y:Int) ⟨(sv:Int),po⟩ ⟨zt,zo⟩) (S:=S6) h))
         clear hp9
         go_wp2
         go_roundw
         case rel => exact ⟨k + 1,v9,_,_,by omega,by go_num,HW9,Hp9.out,Ht9.out,HG3',HF3',HG6',HF6',HR9,Hov9.out⟩
         case measure => simp [intOf]; omega
        ·obtain rfl:k = mz:=by omega
         have hfin:Puts S6 ov6 ((((a.ends.take j).flatMap fun q => (List.range c.n).flatMap (enT b q)) ++ (List.range y).flatMap (enT b ⟨qs,qo⟩)) ++ (l.take (x + 1)).flatMap fun u => (endS b.ends b.ends.length u.st.toNat).map fun z => some (enX b ⟨qs,qo⟩ (y:Int) u z)):=by
          have:=Hp6.out
          have e:zs.take k = zs:=List.take_of_length_le (by have:=HMZ.out; omega)
          rw [e] at this
          rw [Hpre3.out,← List.append_assoc]
          have e2:(endS b.ends b.ends.length (Tp.mk (sv:Int) po).st.toNat) = zs:=HZS.out
          rw [e2]
          exact this
         have Hfin:=Lib.hid hfin
         clear hfin
         go_wp2
         go_roundw
         case rel => exact ⟨x + 1,v6,S6,ov6,by omega,by go_num,HW6,Hfin.out,Ht6.out,HG3,HF3,HR6,Hov6.out⟩
         case measure => simp [intOf]; omega
      ·obtain rfl:x = m:=by omega
       have c17:=B17.out _ _ _ _ HW4
       rcases ov4 with _ | _
       ·have hfin:Puts S4 false (((a.ends.take j).flatMap fun q => (List.range c.n).flatMap (enT b q)) ++ (List.range (y + 1)).flatMap (enT b ⟨qs,qo⟩)):=by
          have:=Hp4.out
          have e:l.take x = l:=List.take_of_length_le (by have:=HML.out; omega)
          obtain ⟨l0,hw0,hl0⟩:=HOK.out (Hov.out rfl)
          rw [e] at this
          rw [List.range_succ,List.flatMap_append,List.flatMap_singleton,← List.append_assoc]
          have e2:enT b ⟨qs,qo⟩ y = l.flatMap fun u => (endS b.ends b.ends.length u.st.toNat).map fun z => some (enX b ⟨qs,qo⟩ (y:Int) u z):=by
           unfold enT
           simp only
           rw [hw0,hl0]
          rw [e2]
          exact this
        have Hfin:=Lib.hid hfin
        clear hfin
        go_wp2
        go_roundw
        case rel => exact ⟨y + 1,v4,S4,by omega,by go_num,HW4,Hfin.out,Ht4.out,HG3,HF3⟩
        case measure => simp [intOf]; omega
       ·go_wp2
        go_end0
        exact HP.out _ _ _ _ HW4 (Puts.over _ _) Ht4.out
    ·obtain rfl:y = c.n:=by omega
     have hfin:Puts S2 false ((a.ends.take (j + 1)).flatMap fun q => (List.range c.n).flatMap (enT b q)):=by
      rw [Hpre.out]
      exact Hp2.out
     have Hfin:=Lib.hid hfin
     clear hfin
     go_wp2
     go_roundw
     case rel => exact ⟨j + 1,v2,S2,by omega,by go_num,HW2,Hfin.out,Ht2.out⟩
     case measure => simp [intOf]; omega
  ·obtain rfl:j = n1:=by omega
   have hfin:Puts S1 false (endsL a b c.n):=by
    have:=Hp1.out
    rwa [List.take_of_length_le (by have:=HL1.out; omega)] at this
   have Hfin:=Lib.hid hfin
   clear hfin
   go_wp2
   go_end0
   exact HP.out _ _ _ _ HW1 Hfin.out Ht1.out
end Go.Proofs.YtcondkihpmmnnaaGreatDoor
