/- Lemmas, part 22 of 50. No condition. -/
import Derived.Test.YtcondkihpmmnnaaGreatDoorQ20
import Derived.Test.YtcondkihpmmnnaaGreatDoorQ13
namespace Go.Proofs.YtcondkihpmmnnaaGreatDoor
open Go.RowKit Go.Sort
def StepsPost (c:Ch) (a b:Fs) (vS vE:Value) (S E:List Tp) (e:Ending) (w':World):Prop :=
 e = .returned (.tuple #[])∧∃ v A ov,ChW c w' vS vE v S E A ov∧Puts A ov (arcsL a b c.n)∧ArcsB (a.n * b.n) A
set_option maxRecDepth 100000 in
set_option maxHeartbeats 16000000 in
theorem steps_any (c:Ch) (a b:Fs) (HE:ChE c a b) (wr:World) (vS vE vA:Value) (S E:List Tp) (HW:ChW c wr vS vE vA S E [] false) :
    Calls Tryz.prog 26 #[.pointer (some ⟨c.G,0,none⟩)] wr (StepsPost c a b vS vE S E):=by
 obtain ⟨A1,c1,haS,hR1⟩:=HE.aA
 have HP:=Lib.hid (fun w' v A ov (h:ChW c w' vS vE v S E A ov) (h2:Puts A ov (arcsL a b c.n)) (h3:ArcsB (a.n * b.n) A) => show StepsPost c a b vS vE S E (.returned (.tuple #[])) w' from ⟨rfl,v,A,ov,h,h2,h3⟩)
 have hHs:=HE.ha
 have hN:=HE.n
 have hBn:=HE.bn
 have hmul:=HE.mul
 have ha0:=HE.a0
 have hcn:=HE.hn
 have HS:=Lib.hid hHs.2
 have KA:=Lib.hid HE.ka
 have hn1:=hHs.1
 have HN:=Lib.hid hN
 have HMUL:=Lib.hid hmul
 have HA0:=Lib.hid ha0
 have HGA:=HE.arcs
 have b1:∀ w' v A ov,ChW c w' vS vE v S E A ov→w'.cell? ⟨c.G,3,none⟩ = some (.slice A1 a.arcs.length c1):=fun w' v A ov h => by rw [← haS]; exact h.box.cell 3
 have b4:∀ w' v A ov,ChW c w' vS vE v S E A ov→w'.cell? ⟨c.G,4,none⟩ = some (.int .i64 b.n):=fun w' v A ov h => by rw [← hBn]; exact h.box.cell 4
 have b4n:∀ w' v A ov,ChW c w' vS vE v S E A ov→w'.cell? ⟨c.G,4,none⟩ = some (.int .i64 (c.n:Int)):=fun w' v A ov h => by rw [← hN,← hBn]; exact h.box.cell 4
 have b8:∀ w' v A ov,ChW c w' vS vE v S E A ov→w'.cell? ⟨c.G,8,none⟩ = some (.slice (some ⟨c.L,0,none⟩) c.n c.n):=fun w' v A ov h => h.box.cell 8
 have b17:∀ w' v A ov,ChW c w' vS vE v S E A ov→w'.cell? ⟨c.G,17,none⟩ = some (.bool ov):=fun w' v A ov h => h.box.cell 17
 have B1:=Lib.hid b1
 have B4:=Lib.hid b4
 have B4N:=Lib.hid b4n
 have B8:=Lib.hid b8
 have B17:=Lib.hid b17
 clear b1 b4 b4n b8 b17 hHs hN hBn haS hmul ha0
 generalize hl1:a.arcs.length = n1 at *
 have HL1:=Lib.hid hl1
 clear hl1
 have c1':=B1.out _ _ _ _ HW
 go_enter Tryz.func26,Tryz.ntmps26
 go_wp2
 clear c1'
 go_loopw [17] (fun i w1 => ∃ (j:Nat) (v:Value) (A:List Ar),j≤n1∧i = .int .i64 ((j:Nat):Int)∧ChW c w1 vS vE v S E A false∧Puts A false ((a.arcs.take j).flatMap fun q => (List.range c.n).flatMap (arT b q))∧ArcsB (a.n * b.n) A) (fun i _ => n1 - (intOf i).toNat)
 case atStart => exact ⟨0,vA,[],Nat.zero_le _,rfl,HW,Puts.nil,⟨Nat.zero_le _,fun _ h => (List.not_mem_nil h).elim⟩⟩
 case round =>
  clear HW
  obtain ⟨j,v1,S1,hj,rfl,HW1,hp1,ht1⟩:=hrel
  have Hp1:=Lib.hid hp1
  have Ht1:=Lib.hid ht1
  clear hp1 ht1
  by_cases hlt:j < n1
  ·have hi1:(0:Int)≤(j:Int):=by omega
   have hi2:(j:Int) < (n1:Int):=by omega
   obtain ⟨g,o,rfl,hgB,d0,d1,d2,d3,d4,d5,d6,d7⟩:=arc_cell ((hR1.kept HW1.keep).reads (B:=wr.heap.size) fun k hk => Nat.lt_of_lt_of_le hk.1 HW1.size) j hlt
   have hq:=HS.out _ (getD_in a.arcs ar0 j (by have:=HL1.out; omega))
   have Hpre:=Lib.hid (flatMap_next a.arcs ar0 (fun q => (List.range c.n).flatMap (arT b q)) j (by have:=HL1.out; omega))
   generalize a.arcs.getD j ar0 = q at *
   obtain ⟨xf,xt,⟨s1,s2,s3,s4⟩,xo,cp⟩:=q
   simp only at d0 d1 d2 d3 d4 d5 d6 d7 hq
   have HW2:=HW1.call ((Below.refl wr.heap.size wr).alloc (Nat.le_refl _) (.cells #[.int .i64 xf,.int .i64 xt,.int .u64 (s1:Int),.int .u64 (s2:Int),.int .u64 (s3:Int),.int .u64 (s4:Int),.string xo,.bool cp] 61))
   have HG3:=Blk.new wr 61 #[.int .i64 xf,.int .i64 xt,.int .u64 (s1:Int),.int .u64 (s2:Int),.int .u64 (s3:Int),.int .u64 (s4:Int),.string xo,.bool cp]
   have HF3:Fr c (wr.alloc (.cells #[.int .i64 xf,.int .i64 xt,.int .u64 (s1:Int),.int .u64 (s2:Int),.int .u64 (s3:Int),.int .u64 (s4:Int),.string xo,.bool cp] 61)) v1 wr.heap.size:=⟨HW1.size,by simp,fun e => by have:=(own_lt HW1.oA _ e).2; omega⟩
   have c4:=B4N.out _ _ _ _ HW2
   clear HW1
   go_wp2
   generalize wr.heap.size = G3 at *
   clear d0 d1 d2 d3 d4 d5 d6 d7 c4
   go_loopw [26] (fun i w2 => ∃ (k:Nat) (v:Value) (A:List Ar),k≤c.n∧i = .int .i64 ((k:Nat):Int)∧ChW c w2 vS vE v S E A false∧Puts A false (((a.arcs.take j).flatMap fun q => (List.range c.n).flatMap (arT b q)) ++ (List.range k).flatMap (arT b ⟨xf,xt,⟨s1,s2,s3,s4⟩,xo,cp⟩))∧ArcsB (a.n * b.n) A∧Blk w2 G3 61 #[.int .i64 xf,.int .i64 xt,.int .u64 (s1:Int),.int .u64 (s2:Int),.int .u64 (s3:Int),.int .u64 (s4:Int),.string xo,.bool cp]∧Fr c w2 v G3) (fun i _ => c.n - (intOf i).toNat)
   case atStart => exact ⟨0,v1,S1,Nat.zero_le _,rfl,HW2,by rw [List.range_zero,List.flatMap_nil,List.append_nil]; exact Hp1.out,Ht1.out,HG3,HF3⟩
   case round =>
    clear HW2 HG3 HF3
    obtain ⟨y,v2,S2,hk,rfl,HW2,hp2,ht2,HG3,HF3⟩:=hrel
    have Hp2:=Lib.hid hp2
    have Ht2:=Lib.hid ht2
    clear hp2 ht2
    by_cases hy:y < c.n
    ·have hk1:(0:Int)≤(y:Int):=by omega
     have hk2:(y:Int) < (c.n:Int):=by omega
     have hG30:=HG3.cell 0
     have hG36:=HG3.cell 6
     have hpl:=pair_lt hq.1 hq.2.1 hk1 (show (y:Int) < b.n by have:=HN.out; omega)
     have hm2:=HMUL.out
     have hb0:0≤b.n:=by have:=HN.out; omega
     have hatf:=at_any c.G b.n xf (y:Int) wr (B4.out _ _ _ _ HW2) hq.1 hb0 (by omega) hk1 (by omega)
     have hC:=chWaysG_any HE _ vS vE v2 S E S2 HW2 y xo hy hq.2.2.2.2.1
     have hv2:∀ g,v2.ownBlock = some g→g < wr.heap.size:=fun g e => (own_lt HW2.oA g e).2
     have hz2:=HW2.size
     clear HW2 hm2 hpl
     go_wp2_with fail
     refine hatf.mono ?_
     rintro e w2 ⟨rfl,rfl⟩
     go_wp2_with fail
     refine hC.mono ?_
     rintro e w3 ⟨Aw,cw,l,ov3,rfl,hl3,hst,hRw,HW4,hok,hel⟩
     have HG3':=(hst v2).blk HG3 HF3
     have HF3':=(hst v2 _ HF3).1
     have hRf:=reads_fr hv2 hz2 hRw
     have HOK:=Lib.hid hok
     have HEL:=Lib.hid hel
     clear hC hst hRw hok hel hG30 hG36 HG3 HF3 hv2 hz2 hatf
     generalize hml:l.length = m at *
     have HML:=Lib.hid hml
     clear hml
     go_wp2
     go_loopw [40] (fun i w4 => ∃ (x:Nat) (v:Value) (A:List Ar) (ov:Bool),x≤m∧i = .int .i64 ((x:Nat):Int)∧ChW c w4 vS vE v S E A ov∧Puts A ov ((((a.arcs.take j).flatMap fun q => (List.range c.n).flatMap (arT b q)) ++ (List.range y).flatMap (arT b ⟨xf,xt,⟨s1,s2,s3,s4⟩,xo,cp⟩)) ++ (l.take x).flatMap (arV b ⟨xf,xt,⟨s1,s2,s3,s4⟩,xo,cp⟩ (y:Int)))∧ArcsB (a.n * b.n) A∧Blk w4 G3 61 #[.int .i64 xf,.int .i64 xt,.int .u64 (s1:Int),.int .u64 (s2:Int),.int .u64 (s3:Int),.int .u64 (s4:Int),.string xo,.bool cp]∧Fr c w4 v G3∧ReadsP (Fr c w4 v) w4 2 Aw m (encs encT l)∧(ov = false→ov3 = false)) (fun i _ => m - (intOf i).toNat)
     case atStart => exact ⟨0,v2,S2,ov3,Nat.zero_le _,rfl,HW4,by rw [List.take_zero,List.flatMap_nil,List.append_nil]; exact fun h => by (have:=Hp2.out); exact this rfl,Ht2.out,HG3',HF3',hRf,id⟩
     case round =>
      clear HW4 HG3' HF3' hRf
      obtain ⟨x,v4,S4,ov4,hx,rfl,HW4,hp4,ht4,HG3,HF3,hRf,hov⟩:=hrel
      have Hp4:=Lib.hid hp4
      have Ht4:=Lib.hid ht4
      have Hov:=Lib.hid hov
      clear hp4 ht4 hov
      by_cases hlt3:x < m
      ·have hx1:(0:Int)≤(x:Int):=by omega
       have hx2:(x:Int) < (m:Int):=by omega
       obtain ⟨gw,ow,rfl,hgw,u0,u1⟩:=tip_cell (hRf.reads (B:=wr.heap.size) fun k hk => hk.2.1) x hlt3
       have hp:=HEL.out _ (getD_in l tp0 x (by have:=HML.out; omega))
       have Hpre3:=Lib.hid (flatMap_next l tp0 (arV b ⟨xf,xt,⟨s1,s2,s3,s4⟩,xo,cp⟩ (y:Int)) x (by have:=HML.out; omega))
       generalize l.getD x tp0 = p at *
       obtain ⟨ps,po⟩:=p
       simp only at u0 u1 hp
       obtain ⟨sv,rfl⟩:∃ sv:Nat,ps = (sv:Int):=⟨_,(Int.toNat_of_nonneg hp.1).symm⟩
       have hsv:sv < c.n:=by omega
       have hsv1:(0:Int)≤(sv:Int):=by omega
       have hsv2:(sv:Int) < (c.n:Int):=by omega
       have LB:=(Below.refl wr.heap.size wr).alloc (Nat.le_refl _) (.cells #[.int .i64 (sv:Int),.string po] 54)
       have HW5:=HW4.call LB
       have HG6:=Blk.new wr 54 #[.int .i64 (sv:Int),.string po]
       have HF6:Fr c (wr.alloc (.cells #[.int .i64 (sv:Int),.string po] 54)) v4 wr.heap.size:=⟨HW4.size,by simp,fun e => by have:=(own_lt HW4.oA _ e).2; omega⟩
       have ST:=Stays.call (c:=c) (v:=v4) LB
       have HG3':=ST.blk HG3 HF3
       have HF3':=(ST _ HF3).1
       have HR':=ST.reads hRf
       have k37:=HG3'.cell 7
       have hpo:po.size≤1049600:=hp.2.2
       have hVF:=Lib.hid (show arV b ⟨xf,xt,⟨s1,s2,s3,s4⟩,xo,cp⟩ (y:Int) ⟨(sv:Int),po⟩ = if cp = true then (leavS b.arcs b.arcs.length sv).flatMap (arU b ⟨xf,xt,⟨s1,s2,s3,s4⟩,xo,cp⟩ (y:Int) ⟨(sv:Int),po⟩) else [some (arX b ⟨xf,xt,⟨s1,s2,s3,s4⟩,xo,cp⟩ (y:Int) ⟨(sv:Int),po⟩)] from rfl)
       have hpl:=pair_lt hq.2.2.1 hq.2.2.2.1 hp.1 (show (sv:Int) < b.n by have:=HN.out; omega)
       have hpl0:=pair_lt hq.1 hq.2.1 hk1 (show (y:Int) < b.n by have:=HN.out; omega)
       have hm2:=HMUL.out
       have hb0:0≤b.n:=by have:=HN.out; omega
       clear HG3 HF3 hRf LB HW4 hgw ST
       rcases cp with _ | _
       ·rw [if_neg (by decide)] at hVF
        have k30:=cell_regrown (HG3'.cell 1)
        have k32:=cell_regrown (HG3'.cell 2)
        have k33:=cell_regrown (HG3'.cell 3)
        have k34:=cell_regrown (HG3'.cell 4)
        have k35:=cell_regrown (HG3'.cell 5)
        have k60:=cell_regrown (HG6.cell 0)
        have k61:=cell_regrown (HG6.cell 1)
        have hat:=fun n os => at_gives c.G b.n xt (sv:Int) _ (cell_regrown (B4.out _ _ _ _ HW5) n os) hq.2.2.1 hb0 (by omega) hp.1 (by omega)
        have hT:=fun W (h:ChW c W vS vE v4 S E S4 ov4) => arc_any c (arX b ⟨xf,xt,⟨s1,s2,s3,s4⟩,xo,false⟩ (y:Int) ⟨(sv:Int),po⟩) W vS vE v4 S E S4 ov4 h ⟨by show (-9223372036854775808:Int)≤xf * b.n + (y:Int); omega,by show xf * b.n + (y:Int)≤(9223372036854775807:Int); omega,by show (-9223372036854775808:Int)≤xt * b.n + (sv:Int); omega,by show xt * b.n + (sv:Int)≤(9223372036854775807:Int); omega,hq.2.2.2.2.2.1,by show po.size≤maxLen; unfold maxLen; omega⟩ Ht4.out.1
        replace hT:∀ W,ChW c W vS vE v4 S E S4 ov4→Calls Tryz.prog 57 #[.pointer (some ⟨c.G,0,none⟩),.agg #[.int .i64 (xf * b.n + (y:Int)),.int .i64 (xt * b.n + (sv:Int)),.int .u64 (s1:Int),.int .u64 (s2:Int),.int .u64 (s3:Int),.int .u64 (s4:Int),.string po,.bool false]] W _:=hT
        have HT:=Lib.hid hT
        clear hT hm2
        go_wp2
        clear u0 u1
        refine wp_region_tail_below 13 (by kernel_rfl) (by kernel_rfl) ?_
        simp only [List.take_succ_cons,List.take_zero,List.drop_succ_cons,List.drop_zero]
        repeat (go_big_quiet_step ((go_at_call 56; exact gives_quiet (hat _ _))))
        refine wpQuiet_nil ?_
        intro w7 hw7
        have LB:=below_of hw7
        have HW8:=HW5.call LB
        have ST:=Stays.call (c:=c) (v:=v4) LB
        have HG3:=ST.blk HG3' HF3'
        have HF3:=(ST _ HF3').1
        have HR8:=ST.reads HR'
        clear hw7 hat k30 k32 k33 k34 k35 k37 k60 k61 HW5 HG3' HF3' HR' LB HG6 HF6 ST
        go_wp2_with fail
        refine (HT.out _ HW8).mono ?_
        rintro e w9 ⟨rfl,v9,ST9,HW9⟩
        have HG3':=ST9.blk HG3 HF3
        have HF3':=(ST9 _ HF3).1
        have HR9:=ST9.reads HR8
        have hp9:=Hp4.out.arc (arX b ⟨xf,xt,⟨s1,s2,s3,s4⟩,xo,false⟩ (y:Int) ⟨(sv:Int),po⟩)
        rw [List.append_assoc (_ ++ _),← hVF.out,← Hpre3.out] at hp9
        have Hp9:=Lib.hid hp9
        have Ht9:=Lib.hid (Ht4.out.arc (arX b ⟨xf,xt,⟨s1,s2,s3,s4⟩,xo,false⟩ (y:Int) ⟨(sv:Int),po⟩) ov4 ⟨hpl0.1,hpl0.2.1,hpl.1,hpl.2.1⟩ ⟨hq.2.2.2.2.2.1,hq.2.2.2.2.2.2⟩)
        have Hov9:=Lib.hid (fun h => Hov.out (arcF_false (x:=arX b ⟨xf,xt,⟨s1,s2,s3,s4⟩,xo,false⟩ (y:Int) ⟨(sv:Int),po⟩) (S:=S4) h))
        clear hp9
        go_wp2
        go_roundw
        case rel => exact ⟨x + 1,v9,_,_,by omega,by go_num,HW9,Hp9.out,Ht9.out,HG3',HF3',HR9,Hov9.out⟩
        case measure => simp [intOf]; omega
       ·rw [if_pos rfl] at hVF
        obtain ⟨AZ,cZ,z0,z1,z2,z3⟩:=HGA.2 sv hsv
        have y0:=(cell_kept (a:=⟨c.L,sv,none⟩) (HW5.keep _ HGA.1)).trans z0
        have HZM:=Lib.hid (show ∀ z∈leavS b.arcs b.arcs.length sv,z∈b.arcs from fun z hz => List.mem_of_mem_take (List.mem_filter.1 hz).1)
        have hzl:(leavS b.arcs b.arcs.length sv).length≤16384:=Nat.le_trans (leavS_len _ _ _) KA.out.1
        generalize hzs:leavS b.arcs b.arcs.length sv = us at *
        generalize hmz:us.length = mz at *
        have HMZ:=Lib.hid hmz
        have k60:=cell_regrown (HG6.cell 0)
        have k8:=cell_regrown (B8.out _ _ _ _ HW5)
        have kz:=cell_regrown y0
        clear hzs hmz z0 y0 hm2 hpl hpl0
        go_wp2
        clear u0 u1
        refine wp_region_quiet_below (by kernel_rfl) (by kernel_rfl) ?_
        repeat (go_big_quiet_step (fail))
        refine wpQuiet_nil ?_
        intro w5 hw5
        have LB:=below_of hw5
        have HW6:=HW5.call LB
        have ST:=Stays.call (c:=c) (v:=v4) LB
        have HG3:=ST.blk HG3' HF3'
        have HF3:=(ST _ HF3').1
        have HG6':=ST.blk HG6 HF6
        have HF6':=(ST _ HF6).1
        have HR6:=ST.reads HR'
        clear hw5 k60 k8 kz k37 HW5 HG3' HF3' HG6 HF6 HR' LB ST
        go_wp2
        generalize wr.heap.size = G6 at *
        go_loopw [70] (fun i w6 => ∃ (k:Nat) (v:Value) (A:List Ar) (ov:Bool),k≤mz∧i = .int .i64 ((k:Nat):Int)∧ChW c w6 vS vE v S E A ov∧Puts A ov (((((a.arcs.take j).flatMap fun q => (List.range c.n).flatMap (arT b q)) ++ (List.range y).flatMap (arT b ⟨xf,xt,⟨s1,s2,s3,s4⟩,xo,true⟩)) ++ (l.take x).flatMap (arV b ⟨xf,xt,⟨s1,s2,s3,s4⟩,xo,true⟩ (y:Int))) ++ (us.take k).flatMap (arU b ⟨xf,xt,⟨s1,s2,s3,s4⟩,xo,true⟩ (y:Int) ⟨(sv:Int),po⟩))∧ArcsB (a.n * b.n) A∧Blk w6 G3 61 #[.int .i64 xf,.int .i64 xt,.int .u64 (s1:Int),.int .u64 (s2:Int),.int .u64 (s3:Int),.int .u64 (s4:Int),.string xo,.bool true]∧Fr c w6 v G3∧Blk w6 G6 54 #[.int .i64 (sv:Int),.string po]∧Fr c w6 v G6∧ReadsP (Fr c w6 v) w6 2 (some ⟨gw,ow,none⟩) m (encs encT l)∧(ov = false→ov3 = false)) (fun i _ => mz - (intOf i).toNat)
        case atStart => exact ⟨0,v4,S4,ov4,Nat.zero_le _,rfl,HW6,by rw [List.take_zero,List.flatMap_nil,List.append_nil]; exact Hp4.out,Ht4.out,HG3,HF3,HG6',HF6',HR6,Hov.out⟩
        case round =>
         clear HW6 HG3 HF3 HG6' HF6' HR6
         obtain ⟨k,v6,S6,ov6,hk6,rfl,HW6,hp6,ht6,HG3,HF3,HG6,HF6,HR6,hov6⟩:=hrel
         have Hp6:=Lib.hid hp6
         have Ht6:=Lib.hid ht6
         have Hov6:=Lib.hid hov6
         clear hp6 ht6 hov6
         by_cases hlt4:k < mz
         ·have hk1':(0:Int)≤(k:Int):=by omega
          have hk2':(k:Int) < (mz:Int):=by omega
          obtain ⟨gz,oz,rfl,hgz,t0',t1',t2',t3',t4',t5',t6',t7'⟩:=arc_cell ((z3.kept HW6.keep).reads (B:=wr.heap.size) fun k hk => Nat.lt_of_lt_of_le hk.1 HW6.size) k hlt4
          have hub:=KA.out.2 _ (HZM.out _ (getD_in us ar0 k (by have:=HMZ.out; omega)))
          have Hpre4:=Lib.hid (flatMap_next us ar0 (arU b ⟨xf,xt,⟨s1,s2,s3,s4⟩,xo,true⟩ (y:Int) ⟨(sv:Int),po⟩) k (by have:=HMZ.out; omega))
          generalize us.getD k ar0 = u at *
          obtain ⟨uf,ut,⟨t1,t2,t3,t4⟩,uo,uc⟩:=u
          simp only at t0' t1' t2' t3' t4' t5' t6' t7' hub
          obtain ⟨⟨_,_,_,_,hutw,_⟩,hu1,hu2,hu3⟩:=hub
          have LB:=(Below.refl wr.heap.size wr).alloc (Nat.le_refl _) (.cells #[.int .i64 uf,.int .i64 ut,.int .u64 (t1:Int),.int .u64 (t2:Int),.int .u64 (t3:Int),.int .u64 (t4:Int),.string uo,.bool uc] 61)
          have HW7:=HW6.call LB
          have HG9:=Blk.new wr 61 #[.int .i64 uf,.int .i64 ut,.int .u64 (t1:Int),.int .u64 (t2:Int),.int .u64 (t3:Int),.int .u64 (t4:Int),.string uo,.bool uc]
          have HF9:Fr c (wr.alloc (.cells #[.int .i64 uf,.int .i64 ut,.int .u64 (t1:Int),.int .u64 (t2:Int),.int .u64 (t3:Int),.int .u64 (t4:Int),.string uo,.bool uc] 61)) v6 wr.heap.size:=⟨HW6.size,by simp,fun e => by have:=(own_lt HW6.oA _ e).2; omega⟩
          have ST:=Stays.call (c:=c) (v:=v6) LB
          have HG3':=ST.blk HG3 HF3
          have HG6':=ST.blk HG6 HF6
          have HF3':=(ST _ HF3).1
          have HF6':=(ST _ HF6).1
          have HR':=ST.reads HR6
          have k2:=HG3'.cell 2
          have k3:=HG3'.cell 3
          have k4:=HG3'.cell 4
          have k5:=HG3'.cell 5
          have j2:=HG9.cell 2
          have j3:=HG9.cell 3
          have j4:=HG9.cell 4
          have j5:=HG9.cell 5
          have hbo:=bothS_any ⟨s1,s2,s3,s4⟩ ⟨t1,t2,t3,t4⟩ hq.2.2.2.2.2.1 hutw (wr.alloc (.cells #[.int .i64 uf,.int .i64 ut,.int .u64 (t1:Int),.int .u64 (t2:Int),.int .u64 (t3:Int),.int .u64 (t4:Int),.string uo,.bool uc] 61))
          have hbw:=St.both_w ⟨s1,s2,s3,s4⟩ ⟨t1,t2,t3,t4⟩ hq.2.2.2.2.2.1 hutw
          have hUF:=Lib.hid (show arU b ⟨xf,xt,⟨s1,s2,s3,s4⟩,xo,true⟩ (y:Int) ⟨(sv:Int),po⟩ ⟨uf,ut,⟨t1,t2,t3,t4⟩,uo,uc⟩ = if (St.both ⟨s1,s2,s3,s4⟩ ⟨t1,t2,t3,t4⟩) = St.none then [] else [some (arY b ⟨xf,xt,⟨s1,s2,s3,s4⟩,xo,true⟩ (y:Int) ⟨(sv:Int),po⟩ ⟨uf,ut,⟨t1,t2,t3,t4⟩,uo,uc⟩)] from rfl)
          have hYF:=Lib.hid (show arY b ⟨xf,xt,⟨s1,s2,s3,s4⟩,xo,true⟩ (y:Int) ⟨(sv:Int),po⟩ ⟨uf,ut,⟨t1,t2,t3,t4⟩,uo,uc⟩ = ⟨xf * b.n + (y:Int),xt * b.n + ut,(St.both ⟨s1,s2,s3,s4⟩ ⟨t1,t2,t3,t4⟩),po ++ uo,uc⟩ from rfl)
          clear hutw
          generalize (St.both ⟨s1,s2,s3,s4⟩ ⟨t1,t2,t3,t4⟩) = bt at *
          clear HG3 HG6 HF3 HF6 HR6 LB HW6 hgz ST
          go_wp2_with fail
          refine hbo.mono ?_
          rintro e w8 ⟨rfl,LB⟩
          have HW8:=HW7.call LB
          have ST:=Stays.call (c:=c) (v:=v6) LB
          have HG3:=ST.blk HG3' HF3'
          have HG6:=ST.blk HG6' HF6'
          have HG9':=ST.blk HG9 HF9
          have HF3:=(ST _ HF3').1
          have HF6:=(ST _ HF6').1
          have HF9':=(ST _ HF9).1
          have HR8:=ST.reads HR'
          have LB2:=(Below.refl w8.heap.size w8).alloc (Nat.le_refl _) (.cells #[.int .u64 (bt.a:Int),.int .u64 (bt.b:Int),.int .u64 (bt.c:Int),.int .u64 (bt.d:Int)] 58)
          have HWA:=HW8.call LB2
          have HGA2:=Blk.new w8 58 #[.int .u64 (bt.a:Int),.int .u64 (bt.b:Int),.int .u64 (bt.c:Int),.int .u64 (bt.d:Int)]
          have ST2:=Stays.call (c:=c) (v:=v6) LB2
          have HG3a:=ST2.blk HG3 HF3
          have HG6a:=ST2.blk HG6 HF6
          have HG9a:=ST2.blk HG9' HF9'
          have HF3a:=(ST2 _ HF3).1
          have HF6a:=(ST2 _ HF6).1
          have HRa:=ST2.reads HR8
          have l0':=HGA2.cell 0
          have l1':=HGA2.cell 1
          have l2':=HGA2.cell 2
          have l3':=HGA2.cell 3
          have hne:=fun W => neqS bt W
          clear HW7 HG3' HG6' HG9 HF9 HF3' HF6' HR' LB ST hbo k2 k3 k4 k5 j2 j3 j4 j5 t0' t1' t2' t3' t4' t5' t6' t7' HW8 HG3 HG6 HG9' HF3 HF6 HF9' HR8 LB2 ST2
          by_cases hbn:bt = St.none
          ·rw [show decide (bt≠St.none) = false by rw [hbn]; decide] at hne
           have e2:arU b ⟨xf,xt,⟨s1,s2,s3,s4⟩,xo,true⟩ (y:Int) ⟨(sv:Int),po⟩ ⟨uf,ut,⟨t1,t2,t3,t4⟩,uo,uc⟩ = []:=by rw [hUF.out,if_pos hbn]
           have hp9:=Hp6.out
           rw [← List.append_nil (List.flatMap (arU b ⟨xf,xt,⟨s1,s2,s3,s4⟩,xo,true⟩ (y:Int) ⟨(sv:Int),po⟩) (List.take k us)),← e2,← Hpre4.out] at hp9
           have Hp9:=Lib.hid hp9
           clear hp9 e2 hbn
           go_wp2
           go_roundw
           case rel => exact ⟨k + 1,v6,S6,ov6,by omega,by go_num,HWA,Hp9.out,Ht6.out,HG3a,HF3a,HG6a,HF6a,HRa,Hov6.out⟩
           case measure => simp [intOf]; omega
          ·rw [show decide (bt≠St.none) = true from decide_eq_true hbn] at hne
           have e2:arU b ⟨xf,xt,⟨s1,s2,s3,s4⟩,xo,true⟩ (y:Int) ⟨(sv:Int),po⟩ ⟨uf,ut,⟨t1,t2,t3,t4⟩,uo,uc⟩ = [some (arY b ⟨xf,xt,⟨s1,s2,s3,s4⟩,xo,true⟩ (y:Int) ⟨(sv:Int),po⟩ ⟨uf,ut,⟨t1,t2,t3,t4⟩,uo,uc⟩)]:=by rw [hUF.out,if_neg hbn]
           have hp9:=Hp6.out.arc (arY b ⟨xf,xt,⟨s1,s2,s3,s4⟩,xo,true⟩ (y:Int) ⟨(sv:Int),po⟩ ⟨uf,ut,⟨t1,t2,t3,t4⟩,uo,uc⟩)
           rw [List.append_assoc,← e2,← Hpre4.out] at hp9
           have hpl:=pair_lt hq.2.2.1 hq.2.2.2.1 hu1 (show ut < b.n by have:=HN.out; omega)
           have hpl0:=pair_lt hq.1 hq.2.1 hk1 (show (y:Int) < b.n by have:=HN.out; omega)
           have hm2:=HMUL.out
           have hb0:0≤b.n:=by have:=HN.out; omega
           have Ht9:=Ht6.out.arc (arY b ⟨xf,xt,⟨s1,s2,s3,s4⟩,xo,true⟩ (y:Int) ⟨(sv:Int),po⟩ ⟨uf,ut,⟨t1,t2,t3,t4⟩,uo,uc⟩) ov6 (by rw [hYF.out]; exact ⟨hpl0.1,hpl0.2.1,hpl.1,hpl.2.1⟩) (by rw [hYF.out]; exact ⟨hbw,hbn⟩)
           have Hov9:=fun h => Hov6.out (arcF_false (x:=arY b ⟨xf,xt,⟨s1,s2,s3,s4⟩,xo,true⟩ (y:Int) ⟨(sv:Int),po⟩ ⟨uf,ut,⟨t1,t2,t3,t4⟩,uo,uc⟩) (S:=S6) h)
           rw [hYF.out] at hp9 Ht9 Hov9
           have Hp9:=Lib.hid hp9
           have Ht9:=Lib.hid Ht9
           have Hov9:=Lib.hid Hov9
           have hat:=fun n os => at_gives c.G b.n xt ut _ (cell_regrown (B4.out _ _ _ _ HWA) n os) hq.2.2.1 hb0 (by omega) hu1 (by omega)
           have hT:=fun W (h:ChW c W vS vE v6 S E S6 ov6) => arc_any c ⟨xf * b.n + (y:Int),xt * b.n + ut,bt,po ++ uo,uc⟩ W vS vE v6 S E S6 ov6 h ⟨by show (-9223372036854775808:Int)≤xf * b.n + (y:Int); omega,by show xf * b.n + (y:Int)≤(9223372036854775807:Int); omega,by show (-9223372036854775808:Int)≤xt * b.n + ut; omega,by show xt * b.n + ut≤(9223372036854775807:Int); omega,hbw,by show (po ++ uo).size≤maxLen; unfold maxLen; have e:=congrArg List.length (bl_app po uo); rw [bl_len,List.length_append,bl_len,bl_len] at e; omega⟩ Ht6.out.1
           replace hT:∀ W,ChW c W vS vE v6 S E S6 ov6→Calls Tryz.prog 57 #[.pointer (some ⟨c.G,0,none⟩),.agg #[.int .i64 (xf * b.n + (y:Int)),.int .i64 (xt * b.n + ut),.int .u64 (bt.a:Int),.int .u64 (bt.b:Int),.int .u64 (bt.c:Int),.int .u64 (bt.d:Int),.string (po ++ uo),.bool uc]] W _:=hT
           have HT:=Lib.hid hT
           have k1:=cell_regrown (HG3a.cell 1)
           have j1:=cell_regrown (HG9a.cell 1)
           have j6:=cell_regrown (HG9a.cell 6)
           have j7:=cell_regrown (HG9a.cell 7)
           have m1:=cell_regrown (HG6a.cell 1)
           have n0:=cell_regrown l0'
           have n1':=cell_regrown l1'
           have n2':=cell_regrown l2'
           have n3':=cell_regrown l3'
           clear hT hp9 hpl hpl0 hm2 e2 hbn
           go_wp2
           clear l0' l1' l2' l3' hne
           refine wp_region_tail_below 17 (by kernel_rfl) (by kernel_rfl) ?_
           simp only [List.take_succ_cons,List.take_zero,List.drop_succ_cons,List.drop_zero]
           repeat (go_big_quiet_step ((go_at_call 56; exact gives_quiet (hat _ _))))
           refine wpQuiet_nil ?_
           intro wb hwb
           have LB:=below_of hwb
           have HWB:=HWA.call LB
           have ST:=Stays.call (c:=c) (v:=v6) LB
           have HG3b:=ST.blk HG3a HF3a
           have HG6b:=ST.blk HG6a HF6a
           have HF3b:=(ST _ HF3a).1
           have HF6b:=(ST _ HF6a).1
           have HRb:=ST.reads HRa
           clear hwb hat k1 j1 j6 j7 m1 n0 n1' n2' n3' HWA HG3a HG6a HF3a HF6a HRa LB ST HG9a HGA2
           go_wp2_with fail
           refine (HT.out _ HWB).mono ?_
           rintro e wc ⟨rfl,vc,STc,HWC⟩
           have HG3c:=STc.blk HG3b HF3b
           have HG6c:=STc.blk HG6b HF6b
           have HF3c:=(STc _ HF3b).1
           have HF6c:=(STc _ HF6b).1
           have HRc:=STc.reads HRb
           go_wp2
           go_roundw
           case rel => exact ⟨k + 1,vc,_,_,by omega,by go_num,HWC,Hp9.out,Ht9.out,HG3c,HF3c,HG6c,HF6c,HRc,Hov9.out⟩
           case measure => simp [intOf]; omega
         ·obtain rfl:k = mz:=by omega
          have hfin:Puts S6 ov6 ((((a.arcs.take j).flatMap fun q => (List.range c.n).flatMap (arT b q)) ++ (List.range y).flatMap (arT b ⟨xf,xt,⟨s1,s2,s3,s4⟩,xo,true⟩)) ++ (l.take (x + 1)).flatMap (arV b ⟨xf,xt,⟨s1,s2,s3,s4⟩,xo,true⟩ (y:Int))):=by
           have:=Hp6.out
           have e:us.take k = us:=List.take_of_length_le (by have:=HMZ.out; omega)
           rw [e] at this
           rw [Hpre3.out,← List.append_assoc,hVF.out]
           exact this
          have Hfin:=Lib.hid hfin
          clear hfin
          go_wp2
          go_roundw
          case rel => exact ⟨x + 1,v6,S6,ov6,by omega,by go_num,HW6,Hfin.out,Ht6.out,HG3,HF3,HR6,Hov6.out⟩
          case measure => simp [intOf]; omega
      ·obtain rfl:x = m:=by omega
       have c17:=B17.out _ _ _ _ HW4
       rcases ov4 with _ | _
       ·have hfin:Puts S4 false (((a.arcs.take j).flatMap fun q => (List.range c.n).flatMap (arT b q)) ++ (List.range (y + 1)).flatMap (arT b ⟨xf,xt,⟨s1,s2,s3,s4⟩,xo,cp⟩)):=by
          have:=Hp4.out
          have e:l.take x = l:=List.take_of_length_le (by have:=HML.out; omega)
          obtain ⟨l0,hw0,hl0⟩:=HOK.out (Hov.out rfl)
          rw [e] at this
          rw [List.range_succ,List.flatMap_append,List.flatMap_singleton,← List.append_assoc]
          have e2:arT b ⟨xf,xt,⟨s1,s2,s3,s4⟩,xo,cp⟩ y = l.flatMap (arV b ⟨xf,xt,⟨s1,s2,s3,s4⟩,xo,cp⟩ (y:Int)):=by
           unfold arT
           simp only
           rw [hw0,hl0]
          rw [e2]
          exact this
        have Hfin:=Lib.hid hfin
        clear hfin
        go_wp2
        go_roundw
        case rel => exact ⟨y + 1,v4,S4,by omega,by go_num,HW4,Hfin.out,Ht4.out,HG3,HF3⟩
        case measure => simp [intOf]; omega
       ·go_wp2
        go_end0
        exact HP.out _ _ _ _ HW4 (Puts.over _ _) Ht4.out
    ·obtain rfl:y = c.n:=by omega
     have hfin:Puts S2 false ((a.arcs.take (j + 1)).flatMap fun q => (List.range c.n).flatMap (arT b q)):=by
      rw [Hpre.out]
      exact Hp2.out
     have Hfin:=Lib.hid hfin
     clear hfin
     go_wp2
     go_roundw
     case rel => exact ⟨j + 1,v2,S2,by omega,by go_num,HW2,Hfin.out,Ht2.out⟩
     case measure => simp [intOf]; omega
  ·obtain rfl:j = n1:=by omega
   have hfin:Puts S1 false (arcsL a b c.n):=by
    have:=Hp1.out
    rwa [List.take_of_length_le (by have:=HL1.out; omega)] at this
   have Hfin:=Lib.hid hfin
   clear hfin
   go_wp2
   go_end0
   exact HP.out _ _ _ _ HW1 Hfin.out Ht1.out
end Go.Proofs.YtcondkihpmmnnaaGreatDoor
