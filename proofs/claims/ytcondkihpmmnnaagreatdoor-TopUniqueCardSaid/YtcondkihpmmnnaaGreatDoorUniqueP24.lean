/- Lemmas, part 24 of 39. No condition. -/
import Derived.Test.YtcondkihpmmnnaaGreatDoorUniqueP20
import Derived.Test.YtcondkihpmmnnaaGreatDoorUniqueP11
import Derived.Test.YtcondkihpmmnnaaGreatDoorUniqueP18
import Derived.Test.YtcondkihpmmnnaaGreatDoorUniqueP19
import Derived.Test.YtcondkihpmmnnaaGreatDoorUniqueP04
import Derived.Laws.IdiomArrays
import Derived.Test.YtcondkihpmmnnaaGreatDoorUniqueP23
import Derived.Test.YtcondkihpmmnnaaGreatDoorUniqueP21
import Derived.Test.YtcondkihpmmnnaaGreatDoorUniqueP10
import Derived.Test.YtcondkihpmmnnaaGreatDoorUniqueP14
import Derived.RangeFuncNested
import Derived.RangeFuncBound
import Derived.RangeFuncCalls
import Derived.RangeFuncLeaves
import Derived.RangeFuncBox
import Derived.Shelf.Abstract
import Derived.Shelf.RegionOpen
import Derived.OwnWalkIn
import Derived.TacticsInMore
import Derived.LoopNIn
import Derived.LoopIn
import Derived.Test.YtcondkihpmmnnaaGreatDoorUniqueP15
import Derived.Test.YtcondkihpmmnnaaGreatDoorUniqueP22
import Derived.Test.YtcondkihpmmnnaaGreatDoorTie
import Derived.Test.YtcondkihpmmnnaaGreatDoorCards
import Derived.LaidMore
import Derived.OpenShut
import Derived.Stop.Joined
import Derived.SevenTiedAt
import Derived.Lib.LaidTab
namespace Go.Proofs.YtcondkihpmmnnaaGreatDoor
open Go.RowKit Go.Sort
def StepsPost (c:Ch) (a b:Fs) (vS vE:Value) (S E:List Tp) (e:Ending) (w':World):Prop :=
 e = .returned (.tuple #[])∧∃ v A ov,ChW c w' vS vE v S E A ov∧Puts A ov (arcsL a b c.n)∧ArcsB (a.n * b.n) A
set_option maxRecDepth 100000 in
set_option maxHeartbeats 16000000 in
theorem steps_any (c:Ch) (a b:Fs) (HE:ChE c a b) (wr:World) (vS vE vA:Value) (S E:List Tp) (HW:ChW c wr vS vE vA S E [] false) :
    Calls Tryz.prog 26 #[.pointer (some ⟨c.G,0,none⟩)] wr (StepsPost c a b vS vE S E):=by
 obtain ⟨A1,c1,haS,hR1⟩:=HE.aA
 have HP:=Lib.hid (fun w' v A ov (h:ChW c w' vS vE v S E A ov) (h2:Puts A ov (arcsL a b c.n)) (h3:ArcsB (a.n * b.n) A) => show StepsPost c a b vS vE S E (.returned (.tuple #[])) w' from ⟨rfl,v,A,ov,h,h2,h3⟩)
 have hHs:=HE.ha
 have hN:=HE.n
 have hBn:=HE.bn
 have hmul:=HE.mul
 have ha0:=HE.a0
 have hcn:=HE.hn
 have HS:=Lib.hid hHs.2
 have KA:=Lib.hid HE.ka
 have hn1:=hHs.1
 have HN:=Lib.hid hN
 have HMUL:=Lib.hid hmul
 have HA0:=Lib.hid ha0
 have HGA:=HE.arcs
 have b1:∀ w' v A ov,ChW c w' vS vE v S E A ov→w'.cell? ⟨c.G,3,none⟩ = some (.slice A1 a.arcs.length c1):=fun w' v A ov h => by rw [← haS]; exact h.box.cell 3
 have b4:∀ w' v A ov,ChW c w' vS vE v S E A ov→w'.cell? ⟨c.G,4,none⟩ = some (.int .i64 b.n):=fun w' v A ov h => by rw [← hBn]; exact h.box.cell 4
 have b4n:∀ w' v A ov,ChW c w' vS vE v S E A ov→w'.cell? ⟨c.G,4,none⟩ = some (.int .i64 (c.n:Int)):=fun w' v A ov h => by rw [← hN,← hBn]; exact h.box.cell 4
 have b8:∀ w' v A ov,ChW c w' vS vE v S E A ov→w'.cell? ⟨c.G,8,none⟩ = some (.slice (some ⟨c.L,0,none⟩) c.n c.n):=fun w' v A ov h => h.box.cell 8
 have b17:∀ w' v A ov,ChW c w' vS vE v S E A ov→w'.cell? ⟨c.G,17,none⟩ = some (.bool ov):=fun w' v A ov h => h.box.cell 17
 have B1:=Lib.hid b1
 have B4:=Lib.hid b4
 have B4N:=Lib.hid b4n
 have B8:=Lib.hid b8
 have B17:=Lib.hid b17
 clear b1 b4 b4n b8 b17 hHs hN hBn haS hmul ha0
 generalize hl1:a.arcs.length = n1 at *
 have HL1:=Lib.hid hl1
 clear hl1
 have c1':=B1.out _ _ _ _ HW
 go_enter Tryz.func26,Tryz.ntmps26
 go_wp2
 clear c1'
 go_loopw [17] (fun i w1 => ∃ (j:Nat) (v:Value) (A:List Ar),j≤n1∧i = .int .i64 ((j:Nat):Int)∧ChW c w1 vS vE v S E A false∧Puts A false ((a.arcs.take j).flatMap fun q => (List.range c.n).flatMap (arT b q))∧ArcsB (a.n * b.n) A) (fun i _ => n1 - (intOf i).toNat)
 case atStart => exact ⟨0,vA,[],Nat.zero_le _,rfl,HW,Puts.nil,⟨Nat.zero_le _,fun _ h => (List.not_mem_nil h).elim⟩⟩
 case round =>
  clear HW
  obtain ⟨j,v1,S1,hj,rfl,HW1,hp1,ht1⟩:=hrel
  have Hp1:=Lib.hid hp1
  have Ht1:=Lib.hid ht1
  clear hp1 ht1
  by_cases hlt:j < n1
  ·have hi1:(0:Int)≤(j:Int):=by omega
   have hi2:(j:Int) < (n1:Int):=by omega
   obtain ⟨g,o,rfl,hgB,d0,d1,d2,d3,d4,d5,d6,d7⟩:=arc_cell ((hR1.kept HW1.keep).reads (B:=wr.heap.size) fun k hk => Nat.lt_of_lt_of_le hk.1 HW1.size) j hlt
   have hq:=HS.out _ (getD_in a.arcs ar0 j (by have:=HL1.out; omega))
   have Hpre:=Lib.hid (flatMap_next a.arcs ar0 (fun q => (List.range c.n).flatMap (arT b q)) j (by have:=HL1.out; omega))
   generalize a.arcs.getD j ar0 = q at *
   obtain ⟨xf,xt,⟨s1,s2,s3,s4⟩,xo,cp⟩:=q
   simp only at d0 d1 d2 d3 d4 d5 d6 d7 hq
   have HW2:=HW1.call ((Below.refl wr.heap.size wr).alloc (Nat.le_refl _) (.cells #[.int .i64 xf,.int .i64 xt,.int .u64 (s1:Int),.int .u64 (s2:Int),.int .u64 (s3:Int),.int .u64 (s4:Int),.string xo,.bool cp] 61))
   have HG3:=Blk.new wr 61 #[.int .i64 xf,.int .i64 xt,.int .u64 (s1:Int),.int .u64 (s2:Int),.int .u64 (s3:Int),.int .u64 (s4:Int),.string xo,.bool cp]
   have HF3:Fr c (wr.alloc (.cells #[.int .i64 xf,.int .i64 xt,.int .u64 (s1:Int),.int .u64 (s2:Int),.int .u64 (s3:Int),.int .u64 (s4:Int),.string xo,.bool cp] 61)) v1 wr.heap.size:=⟨HW1.size,by simp,fun e => by have:=(own_lt HW1.oA _ e).2; omega⟩
   have c4:=B4N.out _ _ _ _ HW2
   clear HW1
   go_wp2
   generalize wr.heap.size = G3 at *
   clear d0 d1 d2 d3 d4 d5 d6 d7 c4
   go_loopw [26] (fun i w2 => ∃ (k:Nat) (v:Value) (A:List Ar),k≤c.n∧i = .int .i64 ((k:Nat):Int)∧ChW c w2 vS vE v S E A false∧Puts A false (((a.arcs.take j).flatMap fun q => (List.range c.n).flatMap (arT b q)) ++ (List.range k).flatMap (arT b ⟨xf,xt,⟨s1,s2,s3,s4⟩,xo,cp⟩))∧ArcsB (a.n * b.n) A∧Blk w2 G3 61 #[.int .i64 xf,.int .i64 xt,.int .u64 (s1:Int),.int .u64 (s2:Int),.int .u64 (s3:Int),.int .u64 (s4:Int),.string xo,.bool cp]∧Fr c w2 v G3) (fun i _ => c.n - (intOf i).toNat)
   case atStart => exact ⟨0,v1,S1,Nat.zero_le _,rfl,HW2,by rw [List.range_zero,List.flatMap_nil,List.append_nil]; exact Hp1.out,Ht1.out,HG3,HF3⟩
   case round =>
    clear HW2 HG3 HF3
    obtain ⟨y,v2,S2,hk,rfl,HW2,hp2,ht2,HG3,HF3⟩:=hrel
    have Hp2:=Lib.hid hp2
    have Ht2:=Lib.hid ht2
    clear hp2 ht2
    by_cases hy:y < c.n
    ·have hk1:(0:Int)≤(y:Int):=by omega
     have hk2:(y:Int) < (c.n:Int):=by omega
     have hG30:=HG3.cell 0
     have hG36:=HG3.cell 6
     have hpl:=pair_lt hq.1 hq.2.1 hk1 (show (y:Int) < b.n by have:=HN.out; omega)
     have hm2:=HMUL.out
     have hb0:0≤b.n:=by have:=HN.out; omega
     have hatf:=at_any c.G b.n xf (y:Int) wr (B4.out _ _ _ _ HW2) hq.1 hb0 (by omega) hk1 (by omega)
     have hC:=chWaysG_any HE _ vS vE v2 S E S2 HW2 y xo hy hq.2.2.2.2.1
     have hv2:∀ g,v2.ownBlock = some g→g < wr.heap.size:=fun g e => (own_lt HW2.oA g e).2
     have hz2:=HW2.size
     clear HW2 hm2 hpl
     go_wp2_with fail
     refine hatf.mono ?_
     rintro e w2 ⟨rfl,rfl⟩
     go_wp2_with fail
     refine hC.mono ?_
     rintro e w3 ⟨Aw,cw,l,ov3,rfl,hl3,hst,hRw,HW4,hok,hel⟩
     have HG3':=(hst v2).blk HG3 HF3
     have HF3':=(hst v2 _ HF3).1
     have hRf:=reads_fr hv2 hz2 hRw
     have HOK:=Lib.hid hok
     have HEL:=Lib.hid hel
     clear hC hst hRw hok hel hG30 hG36 HG3 HF3 hv2 hz2 hatf
     generalize hml:l.length = m at *
     have HML:=Lib.hid hml
     clear hml
     go_wp2
     go_loopw [40] (fun i w4 => ∃ (x:Nat) (v:Value) (A:List Ar) (ov:Bool),x≤m∧i = .int .i64 ((x:Nat):Int)∧ChW c w4 vS vE v S E A ov∧Puts A ov ((((a.arcs.take j).flatMap fun q => (List.range c.n).flatMap (arT b q)) ++ (List.range y).flatMap (arT b ⟨xf,xt,⟨s1,s2,s3,s4⟩,xo,cp⟩)) ++ (l.take x).flatMap (arV b ⟨xf,xt,⟨s1,s2,s3,s4⟩,xo,cp⟩ (y:Int)))∧ArcsB (a.n * b.n) A∧Blk w4 G3 61 #[.int .i64 xf,.int .i64 xt,.int .u64 (s1:Int),.int .u64 (s2:Int),.int .u64 (s3:Int),.int .u64 (s4:Int),.string xo,.bool cp]∧Fr c w4 v G3∧ReadsP (Fr c w4 v) w4 2 Aw m (encs encT l)∧(ov = false→ov3 = false)) (fun i _ => m - (intOf i).toNat)
     case atStart => exact ⟨0,v2,S2,ov3,Nat.zero_le _,rfl,HW4,by rw [List.take_zero,List.flatMap_nil,List.append_nil]; exact fun h => by (have:=Hp2.out); exact this rfl,Ht2.out,HG3',HF3',hRf,id⟩
     case round =>
      clear HW4 HG3' HF3' hRf
      obtain ⟨x,v4,S4,ov4,hx,rfl,HW4,hp4,ht4,HG3,HF3,hRf,hov⟩:=hrel
      have Hp4:=Lib.hid hp4
      have Ht4:=Lib.hid ht4
      have Hov:=Lib.hid hov
      clear hp4 ht4 hov
      by_cases hlt3:x < m
      ·have hx1:(0:Int)≤(x:Int):=by omega
       have hx2:(x:Int) < (m:Int):=by omega
       obtain ⟨gw,ow,rfl,hgw,u0,u1⟩:=tip_cell (hRf.reads (B:=wr.heap.size) fun k hk => hk.2.1) x hlt3
       have hp:=HEL.out _ (getD_in l tp0 x (by have:=HML.out; omega))
       have Hpre3:=Lib.hid (flatMap_next l tp0 (arV b ⟨xf,xt,⟨s1,s2,s3,s4⟩,xo,cp⟩ (y:Int)) x (by have:=HML.out; omega))
       generalize l.getD x tp0 = p at *
       obtain ⟨ps,po⟩:=p
       simp only at u0 u1 hp
       obtain ⟨sv,rfl⟩:∃ sv:Nat,ps = (sv:Int):=⟨_,(Int.toNat_of_nonneg hp.1).symm⟩
       have hsv:sv < c.n:=by omega
       have hsv1:(0:Int)≤(sv:Int):=by omega
       have hsv2:(sv:Int) < (c.n:Int):=by omega
       have LB:=(Below.refl wr.heap.size wr).alloc (Nat.le_refl _) (.cells #[.int .i64 (sv:Int),.string po] 54)
       have HW5:=HW4.call LB
       have HG6:=Blk.new wr 54 #[.int .i64 (sv:Int),.string po]
       have HF6:Fr c (wr.alloc (.cells #[.int .i64 (sv:Int),.string po] 54)) v4 wr.heap.size:=⟨HW4.size,by simp,fun e => by have:=(own_lt HW4.oA _ e).2; omega⟩
       have ST:=Stays.call (c:=c) (v:=v4) LB
       have HG3':=ST.blk HG3 HF3
       have HF3':=(ST _ HF3).1
       have HR':=ST.reads hRf
       have k37:=HG3'.cell 7
       have hpo:po.size≤1049600:=hp.2.2
       have hVF:=Lib.hid (show arV b ⟨xf,xt,⟨s1,s2,s3,s4⟩,xo,cp⟩ (y:Int) ⟨(sv:Int),po⟩ = if cp = true then (leavS b.arcs b.arcs.length sv).flatMap (arU b ⟨xf,xt,⟨s1,s2,s3,s4⟩,xo,cp⟩ (y:Int) ⟨(sv:Int),po⟩) else [some (arX b ⟨xf,xt,⟨s1,s2,s3,s4⟩,xo,cp⟩ (y:Int) ⟨(sv:Int),po⟩)] from rfl)
       have hpl:=pair_lt hq.2.2.1 hq.2.2.2.1 hp.1 (show (sv:Int) < b.n by have:=HN.out; omega)
       have hpl0:=pair_lt hq.1 hq.2.1 hk1 (show (y:Int) < b.n by have:=HN.out; omega)
       have hm2:=HMUL.out
       have hb0:0≤b.n:=by have:=HN.out; omega
       clear HG3 HF3 hRf LB HW4 hgw ST
       rcases cp with _ | _
       ·rw [if_neg (by decide)] at hVF
        have k30:=cell_regrown (HG3'.cell 1)
        have k32:=cell_regrown (HG3'.cell 2)
        have k33:=cell_regrown (HG3'.cell 3)
        have k34:=cell_regrown (HG3'.cell 4)
        have k35:=cell_regrown (HG3'.cell 5)
        have k60:=cell_regrown (HG6.cell 0)
        have k61:=cell_regrown (HG6.cell 1)
        have hat:=fun n os => at_gives c.G b.n xt (sv:Int) _ (cell_regrown (B4.out _ _ _ _ HW5) n os) hq.2.2.1 hb0 (by omega) hp.1 (by omega)
        have hT:=fun W (h:ChW c W vS vE v4 S E S4 ov4) => arc_any c (arX b ⟨xf,xt,⟨s1,s2,s3,s4⟩,xo,false⟩ (y:Int) ⟨(sv:Int),po⟩) W vS vE v4 S E S4 ov4 h ⟨by show (-9223372036854775808:Int)≤xf * b.n + (y:Int); omega,by show xf * b.n + (y:Int)≤(9223372036854775807:Int); omega,by show (-9223372036854775808:Int)≤xt * b.n + (sv:Int); omega,by show xt * b.n + (sv:Int)≤(9223372036854775807:Int); omega,hq.2.2.2.2.2.1,by show po.size≤maxLen; unfold maxLen; omega⟩ Ht4.out.1
        replace hT:∀ W,ChW c W vS vE v4 S E S4 ov4→Calls Tryz.prog 57 #[.pointer (some ⟨c.G,0,none⟩),.agg #[.int .i64 (xf * b.n + (y:Int)),.int .i64 (xt * b.n + (sv:Int)),.int .u64 (s1:Int),.int .u64 (s2:Int),.int .u64 (s3:Int),.int .u64 (s4:Int),.string po,.bool false]] W _:=hT
        have HT:=Lib.hid hT
        clear hT hm2
        go_wp2
        clear u0 u1
        refine wp_region_tail_below 13 (by kernel_rfl) (by kernel_rfl) ?_
        simp only [List.take_succ_cons,List.take_zero,List.drop_succ_cons,List.drop_zero]
        repeat (go_big_quiet_step ((go_at_call 56; exact gives_quiet (hat _ _))))
        refine wpQuiet_nil ?_
        intro w7 hw7
        have LB:=below_of hw7
        have HW8:=HW5.call LB
        have ST:=Stays.call (c:=c) (v:=v4) LB
        have HG3:=ST.blk HG3' HF3'
        have HF3:=(ST _ HF3').1
        have HR8:=ST.reads HR'
        clear hw7 hat k30 k32 k33 k34 k35 k37 k60 k61 HW5 HG3' HF3' HR' LB HG6 HF6 ST
        go_wp2_with fail
        refine (HT.out _ HW8).mono ?_
        rintro e w9 ⟨rfl,v9,ST9,HW9⟩
        have HG3':=ST9.blk HG3 HF3
        have HF3':=(ST9 _ HF3).1
        have HR9:=ST9.reads HR8
        have hp9:=Hp4.out.arc (arX b ⟨xf,xt,⟨s1,s2,s3,s4⟩,xo,false⟩ (y:Int) ⟨(sv:Int),po⟩)
        rw [List.append_assoc (_ ++ _),← hVF.out,← Hpre3.out] at hp9
        have Hp9:=Lib.hid hp9
        have Ht9:=Lib.hid (Ht4.out.arc (arX b ⟨xf,xt,⟨s1,s2,s3,s4⟩,xo,false⟩ (y:Int) ⟨(sv:Int),po⟩) ov4 ⟨hpl0.1,hpl0.2.1,hpl.1,hpl.2.1⟩ ⟨hq.2.2.2.2.2.1,hq.2.2.2.2.2.2⟩)
        have Hov9:=Lib.hid (fun h => Hov.out (arcF_false (x:=arX b ⟨xf,xt,⟨s1,s2,s3,s4⟩,xo,false⟩ (y:Int) ⟨(sv:Int),po⟩) (S:=S4) h))
        clear hp9
        go_wp2
        go_roundw
        case rel => exact ⟨x + 1,v9,_,_,by omega,by go_num,HW9,Hp9.out,Ht9.out,HG3',HF3',HR9,Hov9.out⟩
        case measure => simp [intOf]; omega
       ·rw [if_pos rfl] at hVF
        obtain ⟨AZ,cZ,z0,z1,z2,z3⟩:=HGA.2 sv hsv
        have y0:=(cell_kept (a:=⟨c.L,sv,none⟩) (HW5.keep _ HGA.1)).trans z0
        have HZM:=Lib.hid (show ∀ z∈leavS b.arcs b.arcs.length sv,z∈b.arcs from fun z hz => List.mem_of_mem_take (List.mem_filter.1 hz).1)
        have hzl:(leavS b.arcs b.arcs.length sv).length≤16384:=Nat.le_trans (leavS_len _ _ _) KA.out.1
        generalize hzs:leavS b.arcs b.arcs.length sv = us at *
        generalize hmz:us.length = mz at *
        have HMZ:=Lib.hid hmz
        have k60:=cell_regrown (HG6.cell 0)
        have k8:=cell_regrown (B8.out _ _ _ _ HW5)
        have kz:=cell_regrown y0
        clear hzs hmz z0 y0 hm2 hpl hpl0
        go_wp2
        clear u0 u1
        refine wp_region_quiet_below (by kernel_rfl) (by kernel_rfl) ?_
        repeat (go_big_quiet_step (fail))
        refine wpQuiet_nil ?_
        intro w5 hw5
        have LB:=below_of hw5
        have HW6:=HW5.call LB
        have ST:=Stays.call (c:=c) (v:=v4) LB
        have HG3:=ST.blk HG3' HF3'
        have HF3:=(ST _ HF3').1
        have HG6':=ST.blk HG6 HF6
        have HF6':=(ST _ HF6).1
        have HR6:=ST.reads HR'
        clear hw5 k60 k8 kz k37 HW5 HG3' HF3' HG6 HF6 HR' LB ST
        go_wp2
        generalize wr.heap.size = G6 at *
        go_loopw [70] (fun i w6 => ∃ (k:Nat) (v:Value) (A:List Ar) (ov:Bool),k≤mz∧i = .int .i64 ((k:Nat):Int)∧ChW c w6 vS vE v S E A ov∧Puts A ov (((((a.arcs.take j).flatMap fun q => (List.range c.n).flatMap (arT b q)) ++ (List.range y).flatMap (arT b ⟨xf,xt,⟨s1,s2,s3,s4⟩,xo,true⟩)) ++ (l.take x).flatMap (arV b ⟨xf,xt,⟨s1,s2,s3,s4⟩,xo,true⟩ (y:Int))) ++ (us.take k).flatMap (arU b ⟨xf,xt,⟨s1,s2,s3,s4⟩,xo,true⟩ (y:Int) ⟨(sv:Int),po⟩))∧ArcsB (a.n * b.n) A∧Blk w6 G3 61 #[.int .i64 xf,.int .i64 xt,.int .u64 (s1:Int),.int .u64 (s2:Int),.int .u64 (s3:Int),.int .u64 (s4:Int),.string xo,.bool true]∧Fr c w6 v G3∧Blk w6 G6 54 #[.int .i64 (sv:Int),.string po]∧Fr c w6 v G6∧ReadsP (Fr c w6 v) w6 2 (some ⟨gw,ow,none⟩) m (encs encT l)∧(ov = false→ov3 = false)) (fun i _ => mz - (intOf i).toNat)
        case atStart => exact ⟨0,v4,S4,ov4,Nat.zero_le _,rfl,HW6,by rw [List.take_zero,List.flatMap_nil,List.append_nil]; exact Hp4.out,Ht4.out,HG3,HF3,HG6',HF6',HR6,Hov.out⟩
        case round =>
         clear HW6 HG3 HF3 HG6' HF6' HR6
         obtain ⟨k,v6,S6,ov6,hk6,rfl,HW6,hp6,ht6,HG3,HF3,HG6,HF6,HR6,hov6⟩:=hrel
         have Hp6:=Lib.hid hp6
         have Ht6:=Lib.hid ht6
         have Hov6:=Lib.hid hov6
         clear hp6 ht6 hov6
         by_cases hlt4:k < mz
         ·have hk1':(0:Int)≤(k:Int):=by omega
          have hk2':(k:Int) < (mz:Int):=by omega
          obtain ⟨gz,oz,rfl,hgz,t0',t1',t2',t3',t4',t5',t6',t7'⟩:=arc_cell ((z3.kept HW6.keep).reads (B:=wr.heap.size) fun k hk => Nat.lt_of_lt_of_le hk.1 HW6.size) k hlt4
          have hub:=KA.out.2 _ (HZM.out _ (getD_in us ar0 k (by have:=HMZ.out; omega)))
          have Hpre4:=Lib.hid (flatMap_next us ar0 (arU b ⟨xf,xt,⟨s1,s2,s3,s4⟩,xo,true⟩ (y:Int) ⟨(sv:Int),po⟩) k (by have:=HMZ.out; omega))
          generalize us.getD k ar0 = u at *
          obtain ⟨uf,ut,⟨t1,t2,t3,t4⟩,uo,uc⟩:=u
          simp only at t0' t1' t2' t3' t4' t5' t6' t7' hub
          obtain ⟨⟨_,_,_,_,hutw,_⟩,hu1,hu2,hu3⟩:=hub
          have LB:=(Below.refl wr.heap.size wr).alloc (Nat.le_refl _) (.cells #[.int .i64 uf,.int .i64 ut,.int .u64 (t1:Int),.int .u64 (t2:Int),.int .u64 (t3:Int),.int .u64 (t4:Int),.string uo,.bool uc] 61)
          have HW7:=HW6.call LB
          have HG9:=Blk.new wr 61 #[.int .i64 uf,.int .i64 ut,.int .u64 (t1:Int),.int .u64 (t2:Int),.int .u64 (t3:Int),.int .u64 (t4:Int),.string uo,.bool uc]
          have HF9:Fr c (wr.alloc (.cells #[.int .i64 uf,.int .i64 ut,.int .u64 (t1:Int),.int .u64 (t2:Int),.int .u64 (t3:Int),.int .u64 (t4:Int),.string uo,.bool uc] 61)) v6 wr.heap.size:=⟨HW6.size,by simp,fun e => by have:=(own_lt HW6.oA _ e).2; omega⟩
          have ST:=Stays.call (c:=c) (v:=v6) LB
          have HG3':=ST.blk HG3 HF3
          have HG6':=ST.blk HG6 HF6
          have HF3':=(ST _ HF3).1
          have HF6':=(ST _ HF6).1
          have HR':=ST.reads HR6
          have k2:=HG3'.cell 2
          have k3:=HG3'.cell 3
          have k4:=HG3'.cell 4
          have k5:=HG3'.cell 5
          have j2:=HG9.cell 2
          have j3:=HG9.cell 3
          have j4:=HG9.cell 4
          have j5:=HG9.cell 5
          have hbo:=bothS_any ⟨s1,s2,s3,s4⟩ ⟨t1,t2,t3,t4⟩ hq.2.2.2.2.2.1 hutw (wr.alloc (.cells #[.int .i64 uf,.int .i64 ut,.int .u64 (t1:Int),.int .u64 (t2:Int),.int .u64 (t3:Int),.int .u64 (t4:Int),.string uo,.bool uc] 61))
          have hbw:=St.both_w ⟨s1,s2,s3,s4⟩ ⟨t1,t2,t3,t4⟩ hq.2.2.2.2.2.1 hutw
          have hUF:=Lib.hid (show arU b ⟨xf,xt,⟨s1,s2,s3,s4⟩,xo,true⟩ (y:Int) ⟨(sv:Int),po⟩ ⟨uf,ut,⟨t1,t2,t3,t4⟩,uo,uc⟩ = if (St.both ⟨s1,s2,s3,s4⟩ ⟨t1,t2,t3,t4⟩) = St.none then [] else [some (arY b ⟨xf,xt,⟨s1,s2,s3,s4⟩,xo,true⟩ (y:Int) ⟨(sv:Int),po⟩ ⟨uf,ut,⟨t1,t2,t3,t4⟩,uo,uc⟩)] from rfl)
          have hYF:=Lib.hid (show arY b ⟨xf,xt,⟨s1,s2,s3,s4⟩,xo,true⟩ (y:Int) ⟨(sv:Int),po⟩ ⟨uf,ut,⟨t1,t2,t3,t4⟩,uo,uc⟩ = ⟨xf * b.n + (y:Int),xt * b.n + ut,(St.both ⟨s1,s2,s3,s4⟩ ⟨t1,t2,t3,t4⟩),po ++ uo,uc⟩ from rfl)
          clear hutw
          generalize (St.both ⟨s1,s2,s3,s4⟩ ⟨t1,t2,t3,t4⟩) = bt at *
          clear HG3 HG6 HF3 HF6 HR6 LB HW6 hgz ST
          go_wp2_with fail
          refine hbo.mono ?_
          rintro e w8 ⟨rfl,LB⟩
          have HW8:=HW7.call LB
          have ST:=Stays.call (c:=c) (v:=v6) LB
          have HG3:=ST.blk HG3' HF3'
          have HG6:=ST.blk HG6' HF6'
          have HG9':=ST.blk HG9 HF9
          have HF3:=(ST _ HF3').1
          have HF6:=(ST _ HF6').1
          have HF9':=(ST _ HF9).1
          have HR8:=ST.reads HR'
          have LB2:=(Below.refl w8.heap.size w8).alloc (Nat.le_refl _) (.cells #[.int .u64 (bt.a:Int),.int .u64 (bt.b:Int),.int .u64 (bt.c:Int),.int .u64 (bt.d:Int)] 58)
          have HWA:=HW8.call LB2
          have HGA2:=Blk.new w8 58 #[.int .u64 (bt.a:Int),.int .u64 (bt.b:Int),.int .u64 (bt.c:Int),.int .u64 (bt.d:Int)]
          have ST2:=Stays.call (c:=c) (v:=v6) LB2
          have HG3a:=ST2.blk HG3 HF3
          have HG6a:=ST2.blk HG6 HF6
          have HG9a:=ST2.blk HG9' HF9'
          have HF3a:=(ST2 _ HF3).1
          have HF6a:=(ST2 _ HF6).1
          have HRa:=ST2.reads HR8
          have l0':=HGA2.cell 0
          have l1':=HGA2.cell 1
          have l2':=HGA2.cell 2
          have l3':=HGA2.cell 3
          have hne:=fun W => neqS bt W
          clear HW7 HG3' HG6' HG9 HF9 HF3' HF6' HR' LB ST hbo k2 k3 k4 k5 j2 j3 j4 j5 t0' t1' t2' t3' t4' t5' t6' t7' HW8 HG3 HG6 HG9' HF3 HF6 HF9' HR8 LB2 ST2
          by_cases hbn:bt = St.none
          ·rw [show decide (bt≠St.none) = false by rw [hbn]; decide] at hne
           have e2:arU b ⟨xf,xt,⟨s1,s2,s3,s4⟩,xo,true⟩ (y:Int) ⟨(sv:Int),po⟩ ⟨uf,ut,⟨t1,t2,t3,t4⟩,uo,uc⟩ = []:=by rw [hUF.out,if_pos hbn]
           have hp9:=Hp6.out
           rw [← List.append_nil (List.flatMap (arU b ⟨xf,xt,⟨s1,s2,s3,s4⟩,xo,true⟩ (y:Int) ⟨(sv:Int),po⟩) (List.take k us)),← e2,← Hpre4.out] at hp9
           have Hp9:=Lib.hid hp9
           clear hp9 e2 hbn
           go_wp2
           go_roundw
           case rel => exact ⟨k + 1,v6,S6,ov6,by omega,by go_num,HWA,Hp9.out,Ht6.out,HG3a,HF3a,HG6a,HF6a,HRa,Hov6.out⟩
           case measure => simp [intOf]; omega
          ·rw [show decide (bt≠St.none) = true from decide_eq_true hbn] at hne
           have e2:arU b ⟨xf,xt,⟨s1,s2,s3,s4⟩,xo,true⟩ (y:Int) ⟨(sv:Int),po⟩ ⟨uf,ut,⟨t1,t2,t3,t4⟩,uo,uc⟩ = [some (arY b ⟨xf,xt,⟨s1,s2,s3,s4⟩,xo,true⟩ (y:Int) ⟨(sv:Int),po⟩ ⟨uf,ut,⟨t1,t2,t3,t4⟩,uo,uc⟩)]:=by rw [hUF.out,if_neg hbn]
           have hp9:=Hp6.out.arc (arY b ⟨xf,xt,⟨s1,s2,s3,s4⟩,xo,true⟩ (y:Int) ⟨(sv:Int),po⟩ ⟨uf,ut,⟨t1,t2,t3,t4⟩,uo,uc⟩)
           rw [List.append_assoc,← e2,← Hpre4.out] at hp9
           have hpl:=pair_lt hq.2.2.1 hq.2.2.2.1 hu1 (show ut < b.n by have:=HN.out; omega)
           have hpl0:=pair_lt hq.1 hq.2.1 hk1 (show (y:Int) < b.n by have:=HN.out; omega)
           have hm2:=HMUL.out
           have hb0:0≤b.n:=by have:=HN.out; omega
           have Ht9:=Ht6.out.arc (arY b ⟨xf,xt,⟨s1,s2,s3,s4⟩,xo,true⟩ (y:Int) ⟨(sv:Int),po⟩ ⟨uf,ut,⟨t1,t2,t3,t4⟩,uo,uc⟩) ov6 (by rw [hYF.out]; exact ⟨hpl0.1,hpl0.2.1,hpl.1,hpl.2.1⟩) (by rw [hYF.out]; exact ⟨hbw,hbn⟩)
           have Hov9:=fun h => Hov6.out (arcF_false (x:=arY b ⟨xf,xt,⟨s1,s2,s3,s4⟩,xo,true⟩ (y:Int) ⟨(sv:Int),po⟩ ⟨uf,ut,⟨t1,t2,t3,t4⟩,uo,uc⟩) (S:=S6) h)
           rw [hYF.out] at hp9 Ht9 Hov9
           have Hp9:=Lib.hid hp9
           have Ht9:=Lib.hid Ht9
           have Hov9:=Lib.hid Hov9
           have hat:=fun n os => at_gives c.G b.n xt ut _ (cell_regrown (B4.out _ _ _ _ HWA) n os) hq.2.2.1 hb0 (by omega) hu1 (by omega)
           have hT:=fun W (h:ChW c W vS vE v6 S E S6 ov6) => arc_any c ⟨xf * b.n + (y:Int),xt * b.n + ut,bt,po ++ uo,uc⟩ W vS vE v6 S E S6 ov6 h ⟨by show (-9223372036854775808:Int)≤xf * b.n + (y:Int); omega,by show xf * b.n + (y:Int)≤(9223372036854775807:Int); omega,by show (-9223372036854775808:Int)≤xt * b.n + ut; omega,by show xt * b.n + ut≤(9223372036854775807:Int); omega,hbw,by show (po ++ uo).size≤maxLen; unfold maxLen; have e:=congrArg List.length (bl_app po uo); rw [bl_len,List.length_append,bl_len,bl_len] at e; omega⟩ Ht6.out.1
           replace hT:∀ W,ChW c W vS vE v6 S E S6 ov6→Calls Tryz.prog 57 #[.pointer (some ⟨c.G,0,none⟩),.agg #[.int .i64 (xf * b.n + (y:Int)),.int .i64 (xt * b.n + ut),.int .u64 (bt.a:Int),.int .u64 (bt.b:Int),.int .u64 (bt.c:Int),.int .u64 (bt.d:Int),.string (po ++ uo),.bool uc]] W _:=hT
           have HT:=Lib.hid hT
           have k1:=cell_regrown (HG3a.cell 1)
           have j1:=cell_regrown (HG9a.cell 1)
           have j6:=cell_regrown (HG9a.cell 6)
           have j7:=cell_regrown (HG9a.cell 7)
           have m1:=cell_regrown (HG6a.cell 1)
           have n0:=cell_regrown l0'
           have n1':=cell_regrown l1'
           have n2':=cell_regrown l2'
           have n3':=cell_regrown l3'
           clear hT hp9 hpl hpl0 hm2 e2 hbn
           go_wp2
           clear l0' l1' l2' l3' hne
           refine wp_region_tail_below 17 (by kernel_rfl) (by kernel_rfl) ?_
           simp only [List.take_succ_cons,List.take_zero,List.drop_succ_cons,List.drop_zero]
           repeat (go_big_quiet_step ((go_at_call 56; exact gives_quiet (hat _ _))))
           refine wpQuiet_nil ?_
           intro wb hwb
           have LB:=below_of hwb
           have HWB:=HWA.call LB
           have ST:=Stays.call (c:=c) (v:=v6) LB
           have HG3b:=ST.blk HG3a HF3a
           have HG6b:=ST.blk HG6a HF6a
           have HF3b:=(ST _ HF3a).1
           have HF6b:=(ST _ HF6a).1
           have HRb:=ST.reads HRa
           clear hwb hat k1 j1 j6 j7 m1 n0 n1' n2' n3' HWA HG3a HG6a HF3a HF6a HRa LB ST HG9a HGA2
           go_wp2_with fail
           refine (HT.out _ HWB).mono ?_
           rintro e wc ⟨rfl,vc,STc,HWC⟩
           have HG3c:=STc.blk HG3b HF3b
           have HG6c:=STc.blk HG6b HF6b
           have HF3c:=(STc _ HF3b).1
           have HF6c:=(STc _ HF6b).1
           have HRc:=STc.reads HRb
           go_wp2
           go_roundw
           case rel => exact ⟨k + 1,vc,_,_,by omega,by go_num,HWC,Hp9.out,Ht9.out,HG3c,HF3c,HG6c,HF6c,HRc,Hov9.out⟩
           case measure => simp [intOf]; omega
         ·obtain rfl:k = mz:=by omega
          have hfin:Puts S6 ov6 ((((a.arcs.take j).flatMap fun q => (List.range c.n).flatMap (arT b q)) ++ (List.range y).flatMap (arT b ⟨xf,xt,⟨s1,s2,s3,s4⟩,xo,true⟩)) ++ (l.take (x + 1)).flatMap (arV b ⟨xf,xt,⟨s1,s2,s3,s4⟩,xo,true⟩ (y:Int))):=by
           have:=Hp6.out
           have e:us.take k = us:=List.take_of_length_le (by have:=HMZ.out; omega)
           rw [e] at this
           rw [Hpre3.out,← List.append_assoc,hVF.out]
           exact this
          have Hfin:=Lib.hid hfin
          clear hfin
          go_wp2
          go_roundw
          case rel => exact ⟨x + 1,v6,S6,ov6,by omega,by go_num,HW6,Hfin.out,Ht6.out,HG3,HF3,HR6,Hov6.out⟩
          case measure => simp [intOf]; omega
      ·obtain rfl:x = m:=by omega
       have c17:=B17.out _ _ _ _ HW4
       rcases ov4 with _ | _
       ·have hfin:Puts S4 false (((a.arcs.take j).flatMap fun q => (List.range c.n).flatMap (arT b q)) ++ (List.range (y + 1)).flatMap (arT b ⟨xf,xt,⟨s1,s2,s3,s4⟩,xo,cp⟩)):=by
          have:=Hp4.out
          have e:l.take x = l:=List.take_of_length_le (by have:=HML.out; omega)
          obtain ⟨l0,hw0,hl0⟩:=HOK.out (Hov.out rfl)
          rw [e] at this
          rw [List.range_succ,List.flatMap_append,List.flatMap_singleton,← List.append_assoc]
          have e2:arT b ⟨xf,xt,⟨s1,s2,s3,s4⟩,xo,cp⟩ y = l.flatMap (arV b ⟨xf,xt,⟨s1,s2,s3,s4⟩,xo,cp⟩ (y:Int)):=by
           unfold arT
           simp only
           rw [hw0,hl0]
          rw [e2]
          exact this
        have Hfin:=Lib.hid hfin
        clear hfin
        go_wp2
        go_roundw
        case rel => exact ⟨y + 1,v4,S4,by omega,by go_num,HW4,Hfin.out,Ht4.out,HG3,HF3⟩
        case measure => simp [intOf]; omega
       ·go_wp2
        go_end0
        exact HP.out _ _ _ _ HW4 (Puts.over _ _) Ht4.out
    ·obtain rfl:y = c.n:=by omega
     have hfin:Puts S2 false ((a.arcs.take (j + 1)).flatMap fun q => (List.range c.n).flatMap (arT b q)):=by
      rw [Hpre.out]
      exact Hp2.out
     have Hfin:=Lib.hid hfin
     clear hfin
     go_wp2
     go_roundw
     case rel => exact ⟨j + 1,v2,S2,by omega,by go_num,HW2,Hfin.out,Ht2.out⟩
     case measure => simp [intOf]; omega
  ·obtain rfl:j = n1:=by omega
   have hfin:Puts S1 false (arcsL a b c.n):=by
    have:=Hp1.out
    rwa [List.take_of_length_le (by have:=HL1.out; omega)] at this
   have Hfin:=Lib.hid hfin
   clear hfin
   go_wp2
   go_end0
   exact HP.out _ _ _ _ HW1 Hfin.out Ht1.out
end Go.Proofs.YtcondkihpmmnnaaGreatDoor
namespace Go.Proofs.YtcondkihpmmnnaaGreatDoor
open Go.ChangeShapes Go.WideShapes Go.ChangeAt Go.RowKit Go.Joins Go.Deep
section
variable {H:Type} {enc:TypeId × Value→H} {P:Program} {W:World}
theorem trod_encs {α:Type} [Inhabited α] (en:α→List Value) (k:Nat) (ok:α→Prop) {t e:TypeId} {fuel:Nat} {v:Value} {y:DataW H × List MemPlace} (hk:∀ x,(en x).length = k) (hk0:0 < k) (ht:P.underlying t = some (.slice e)) (hc:P.cellsOf e = k)
    (hel:∀ {fuel:Nat} {cs:List Value} {y:DataW H × List MemPlace},cs.length = k→DataW.trod enc P W 0 (fun _ => true) true fuel e cs = some y→∃ x:α,cs = en x∧ok x)
    (hf:DataW.trod enc P W 0 (fun _ => true) true fuel t [v] = some y) (hlt:∀ x∈y.2,x.block < W.heap.size) :
    ∃ (A:Option Addr) (c:Nat) (l:List α),v = .slice A l.length c∧Reads W W.heap.size k A l.length (encs en l)∧l.length≤c∧c≤maxLen∧∀ x∈l,ok x:=by
 rcases open_slice ht hf with ⟨hcs,hx⟩ | ⟨a,len,cap,m,n,D,Pl,hcs,_,hl,hm,hmm,hx,hi⟩
 ·simp at hcs
  subst hcs
  exact ⟨none,0,[],rfl,⟨by simp [encs],fun h => absurd h (Nat.lt_irrefl 0)⟩,Nat.le_refl _,Nat.zero_le _,by simp⟩
 ·simp at hcs
  subst hcs
  simp only [if_true] at hmm
  subst hmm
  subst hx
  have hR:∀ i:Nat,∃ x:α,i < m→(∀ j,j < k→W.cell? (a.add (i * k + j)) = (en x)[j]?)∧ok x:=fun i => by
   by_cases him:i < m
   ·obtain ⟨cs',hcell,htr⟩:=hi i him
    rw [hc] at hcell
    obtain ⟨_,hcl,hat⟩:=World.cells?_some hcell
    obtain ⟨x,rfl,hx⟩:=hel hcl htr
    exact ⟨x,fun _ => ⟨fun j hj => by rw [← hat j hj,Go.Deep.add_add],hx⟩⟩
   ·exact ⟨default,fun h => absurd h him⟩
  obtain ⟨F,hF⟩:=Classical.axiomOfChoice hR
  have hlen:((List.range len).map F).length = len:=by simp
  refine ⟨some a,m,(List.range len).map F,by rw [hlen],⟨by rw [encs_length hk],fun h0 => ⟨a,rfl,?_,fun q u hu => ?_⟩⟩,by omega,hm,fun x hx => ?_⟩
  ·refine row_block (a:=a) (n:=m * P.cellsOf e) (fun x hx => hlt x (List.mem_append_left _ hx)) ?_
   rw [hc]
   exact Nat.mul_pos (by omega) hk0
  ·have hq:q < len * k:=by
     have:=(List.getElem?_eq_some_iff.1 hu).1
     rwa [encs_length hk,hlen] at this
   have hqk:q / k < len:=Nat.div_lt_of_lt_mul (by rw [Nat.mul_comm]; exact hq)
   have hqm:q % k < k:=Nat.mod_lt _ hk0
   have hqe:q / k * k + q % k = q:=by rw [Nat.mul_comm]; exact Nat.div_add_mod q k
   have h1:=encs_get hk ((List.range len).map F) default (q / k) (q % k) (by rw [hlen]; exact hqk) hqm
   rw [hqe,hu] at h1
   have h2:=(hF (q / k) (by omega)).1 (q % k) hqm
   rw [hqe] at h2
   rw [h2,h1]
   congr 2
   rw [List.getD_eq_getElem?_getD,List.getElem?_map,List.getElem?_range hqk]; rfl
  ·obtain ⟨i,hi,rfl⟩:=List.mem_map.1 hx
   exact (hF i (by have:=List.mem_range.1 hi; omega)).2
end
section
variable {H:Type} {enc:TypeId × Value→H} {W:World}
theorem c1_int:Tryz.prog.cellsOf 3 = 1:=by kernel_rfl
theorem c1_str:Tryz.prog.cellsOf 9 = 1:=by kernel_rfl
theorem c1_bool:Tryz.prog.cellsOf 4 = 1:=by kernel_rfl
theorem c1_u64:Tryz.prog.cellsOf 56 = 1:=by kernel_rfl
theorem c4_set:Tryz.prog.cellsOf 58 = 4:=by kernel_rfl
set_option maxRecDepth 100000 in
theorem trod_tip {fuel:Nat} {cs:List Value} {y:DataW H × List MemPlace} (hl:cs.length = 2) (h:DataW.trod enc Tryz.prog W 0 (fun _ => true) true fuel 54 cs = some y):∃ x:Tp,cs = encT x∧TpW x:=by
 obtain ⟨xs,n,_,hx,_,hlen,hg⟩:=DataW.trod_struct Tryz.underlying54 h
 match cs,hl with
 | [c0,c1],_ =>
  have h0:DataW.trod enc Tryz.prog W 0 (fun _ => true) true n 3 ((List.drop 0 [c0,c1]).take (Tryz.prog.cellsOf 3)) = xs[0]?:=hg 0 _ rfl
  have h1:DataW.trod enc Tryz.prog W 0 (fun _ => true) true n 9 ((List.drop 1 [c0,c1]).take (Tryz.prog.cellsOf 9)) = xs[1]?:=hg 1 _ rfl
  rw [c1_int] at h0
  rw [c1_str] at h1
  match xs,hlen with
  | [y0,y1],_ =>
   have h0:DataW.trod enc Tryz.prog W 0 (fun _ => true) true n 3 [c0] = some y0:=by simpa using h0
   have h1:DataW.trod enc Tryz.prog W 0 (fun _ => true) true n 9 [c1] = some y1:=by simpa using h1
   obtain ⟨a,e0,_,w0⟩:=DataW.trod_int Tryz.underlying3 h0
   obtain ⟨s,e1,_,w1⟩:=DataW.trod_string Tryz.underlying9 h1
   simp at e0 e1
   subst e0 e1
   exact ⟨⟨a,s⟩,rfl,(bounds_i64 w0).1,(bounds_i64 w0).2,w1⟩
set_option maxRecDepth 100000 in
theorem trod_arc {fuel:Nat} {cs:List Value} {y:DataW H × List MemPlace} (hl:cs.length = 8) (h:DataW.trod enc Tryz.prog W 0 (fun _ => true) true fuel 61 cs = some y):∃ x:Ar,cs = encA x∧ArW x:=by
 obtain ⟨xs,n,_,hx,_,hlen,hg⟩:=DataW.trod_struct Tryz.underlying61 h
 match cs,hl with
 | [c0,c1,c2,c3,c4,c5,c6,c7],_ =>
  have h0:DataW.trod enc Tryz.prog W 0 (fun _ => true) true n 3 ((List.drop 0 [c0,c1,c2,c3,c4,c5,c6,c7]).take (Tryz.prog.cellsOf 3)) = xs[0]?:=hg 0 _ rfl
  have h1:DataW.trod enc Tryz.prog W 0 (fun _ => true) true n 3 ((List.drop 1 [c0,c1,c2,c3,c4,c5,c6,c7]).take (Tryz.prog.cellsOf 3)) = xs[1]?:=hg 1 _ rfl
  have h2:DataW.trod enc Tryz.prog W 0 (fun _ => true) true n 58 ((List.drop 2 [c0,c1,c2,c3,c4,c5,c6,c7]).take (Tryz.prog.cellsOf 58)) = xs[2]?:=hg 2 _ rfl
  have h3:DataW.trod enc Tryz.prog W 0 (fun _ => true) true n 9 ((List.drop 6 [c0,c1,c2,c3,c4,c5,c6,c7]).take (Tryz.prog.cellsOf 9)) = xs[3]?:=hg 3 _ rfl
  have h4:DataW.trod enc Tryz.prog W 0 (fun _ => true) true n 4 ((List.drop 7 [c0,c1,c2,c3,c4,c5,c6,c7]).take (Tryz.prog.cellsOf 4)) = xs[4]?:=hg 4 _ rfl
  rw [c1_int] at h0 h1
  rw [c4_set] at h2
  rw [c1_str] at h3
  rw [c1_bool] at h4
  match xs,hlen with
  | [y0,y1,y2,y3,y4],_ =>
   have h0:DataW.trod enc Tryz.prog W 0 (fun _ => true) true n 3 [c0] = some y0:=by simpa using h0
   have h1:DataW.trod enc Tryz.prog W 0 (fun _ => true) true n 3 [c1] = some y1:=by simpa using h1
   have h2:DataW.trod enc Tryz.prog W 0 (fun _ => true) true n 58 [c2,c3,c4,c5] = some y2:=by simpa using h2
   have h3:DataW.trod enc Tryz.prog W 0 (fun _ => true) true n 9 [c6] = some y3:=by simpa using h3
   have h4:DataW.trod enc Tryz.prog W 0 (fun _ => true) true n 4 [c7] = some y4:=by simpa using h4
   obtain ⟨a,e0,_,w0⟩:=DataW.trod_int Tryz.underlying3 h0
   obtain ⟨b,e1,_,w1⟩:=DataW.trod_int Tryz.underlying3 h1
   obtain ⟨z0,z1,z2,z3,n',_,g0,g1,g2,g3⟩:=trod_array4 Tryz.underlying58 c1_u64 h2
   obtain ⟨a0,rfl,l0⟩:=open_word Tryz.underlying56 g0
   obtain ⟨a1,rfl,l1⟩:=open_word Tryz.underlying56 g1
   obtain ⟨a2,rfl,l2⟩:=open_word Tryz.underlying56 g2
   obtain ⟨a3,rfl,l3⟩:=open_word Tryz.underlying56 g3
   obtain ⟨s,e3,_,w3⟩:=DataW.trod_string Tryz.underlying9 h3
   obtain ⟨c,e4,_⟩:=DataW.trod_bool Tryz.underlying4 h4
   simp at e0 e1 e3 e4
   subst e0 e1 e3 e4
   exact ⟨⟨a,b,⟨a0,a1,a2,a3⟩,s,c⟩,rfl,(bounds_i64 w0).1,(bounds_i64 w0).2,(bounds_i64 w1).1,(bounds_i64 w1).2,⟨l0,l1,l2,l3⟩,w3⟩
instance lawTp:Inhabited Tp:=⟨⟨0,ByteArray.empty⟩⟩
instance lawAr:Inhabited Ar:=⟨⟨0,0,⟨0,0,0,0⟩,ByteArray.empty,false⟩⟩
set_option maxRecDepth 100000 in
theorem open_fst {r:Reach} {b:Nat} {v:Value} {d:DataW H} {ps:List MemPlace} (hval:Value.okWide Tryz.prog W r b 32 v) (hd:DataW.Trod enc Tryz.prog W 0 (fun _ => true) true 32 v d ps) (hlt:∀ x∈ps,x.block < W.heap.size) :
    ∃ t:Fs,FstAt W W.heap.size t v:=by
 obtain ⟨v0,v1,v2,v3,y0,y1,y2,y3,n,rfl,_,rfl,h0,h1,h2,h3⟩:=open_agg4 Tryz.underlying32 (by kernel_rfl) (by kernel_rfl) hval hd
 obtain ⟨s,e0,_,hs⟩:=DataW.trod_int Tryz.underlying3 h0
 simp at e0
 subst e0
 obtain ⟨A1,c1,N,rfl,R1,k1,m1,z1⟩:=trod_encs encT 2 TpW (fun _ => rfl) (by decide) Tryz.underlying29 (by kernel_rfl) (fun hl h => trod_tip hl h) h1 (fun x hx => hlt x (by simp [hx]))
 obtain ⟨A2,c2,O,rfl,R2,k2,m2,z2⟩:=trod_encs encT 2 TpW (fun _ => rfl) (by decide) Tryz.underlying29 (by kernel_rfl) (fun hl h => trod_tip hl h) h2 (fun x hx => hlt x (by simp [hx]))
 obtain ⟨A3,c3,E,rfl,R3,k3,m3,z3⟩:=trod_encs encA 8 ArW (fun _ => rfl) (by decide) Tryz.underlying30 (by kernel_rfl) (fun hl h => trod_arc hl h) h3 (fun x hx => hlt x (by simp [hx]))
 exact ⟨⟨s,N,O,E⟩,A1,c1,A2,c2,A3,c3,rfl,k1,k2,k3,m1,m2,m3,(bounds_i64 hs).1,(bounds_i64 hs).2,R1,z1,R2,z2,R3,z3⟩
end
end Go.Proofs.YtcondkihpmmnnaaGreatDoor
namespace Go.Proofs.YtcondkihpmmnnaaGreatDoor
open Go.RowKit Go.Sort
def ComposePost (a b:Fs) (w:World) (e:Ending) (w':World):Prop :=
 ∃ t r,GF t r w e w'∧(r = 0→fckB a = true∧fckB b = true∧Chain a b t∧Right t∧t.arcs.length≤16384)
theorem once1_short {α:Type} [DecidableEq α]:∀ l:List α,(once1 l).length≤l.length
 | [] => Nat.le_refl _
 | [_] => Nat.le_refl _
 | x :: y :: l => by
  unfold once1
  have:=once1_short (y :: l)
  split
  ·simp only [List.length_cons] at this ⊢; omega
  ·simp only [List.length_cons] at this ⊢; omega
theorem sortF_arcs {t:Fs} (h:fckB t = true):(sortF t).arcs.length≤16384:=by
 show (ordA t.arcs).length≤16384
 unfold ordA sortA
 refine Nat.le_trans (once1_short _) ?_
 rw [List.length_mergeSort]
 unfold fckB at h
 simp only [Bool.and_eq_true,decide_eq_true_eq] at h
 exact h.1.1.1.2
theorem slTip_info:(Tryz.prog.info? 29).map (fun i => (i.zero,i.size,i.bytes)) = some (some (.slice none 0 0),1,24):=by kernel_rfl
theorem grp_madeG {α:Type} {enc:α→List Value} {k:Nat} {w':World} {base L n:Nat} {eL e:TypeId} (h:w'.ownsRow base eL 1 (.slice (some ⟨L,0,none⟩) n n) n (List.replicate n nilV)):Grp enc k w' base L n eL e (List.replicate n nilV) (fun _ => []):=by
 have hv:∀ s,(List.replicate n nilV).getD s nilV = nilV:=by
  intro s
  rw [List.getD_eq_getElem?_getD,List.getElem?_replicate]
  split <;> rfl
 refine ⟨h,fun s _ => ?_,fun s t _ _ _ => ?_⟩
 ·rw [hv]; exact World.ownsRow_nil _ _ _ _
 ·rw [hv,hv]; intro g hg; cases hg
theorem endS_succ (l:List Tp) (k:Nat) (hk:k < l.length) (s:Nat):endS l (k + 1) s = if (s:Int) = (l.getD k tp0).st then endS l k s ++ [l.getD k tp0] else endS l k s:=by
 unfold endS
 rw [take_next l tp0 k hk,List.filter_append]
 by_cases h:(l.getD k tp0).st = (s:Int)
 ·rw [if_pos h.symm,List.filter_cons_of_pos (by simpa using h)]; rfl
 ·rw [if_neg (fun x => h x.symm),List.filter_cons_of_neg (by simpa using h)]; simp
theorem eg_leaving:∀ args w,(callFunc 23 args).run Tryz.prog w = .ok (.enter 23 args) w:=enters_of Tryz.func23 (by kernel_rfl) rfl
set_option maxRecDepth 100000 in
set_option maxHeartbeats 16000000 in
theorem compose_any (a b:Fs) (va vb:Value) (B:Nat) (w:World) (HSa:FstAt w B a va) (HSb:FstAt w B b vb) (hB:B≤w.heap.size) :
    Calls Tryz.prog 9 #[va,vb] w (ComposePost a b w):=by
 have HSa':=HSa
 have HSb':=HSb
 obtain ⟨A1,c1,A2,c2,A3,c3,rfl,h1,h2,h3,h4,h5,h6,h7,h8,R1,W1,R2,W2,R3,W3⟩:=HSa
 obtain ⟨D1,e1,D2,e2,D3,e3,rfl,k1,k2,k3,k4,k5,k6,k7,k8,Q1,X1,Q2,X2,Q3,X3⟩:=HSb
 have B0:Below w.heap.size w (((w.alloc (.cells #[.int .i64 a.n,.slice A1 a.starts.length c1,.slice A2 a.ends.length c2,.slice A3 a.arcs.length c3] 32)).alloc (.cells #[.int .i64 b.n,.slice D1 b.starts.length e1,.slice D2 b.ends.length e2,.slice D3 b.arcs.length e3] 32)).alloc (.cells #[.int .i64 0,.slice none 0 0,.slice none 0 0,.slice none 0 0] 32)) :=
  (((Below.refl _ w).alloc (Nat.le_refl _) _).alloc (by simp) _).alloc (by simp; omega) _
 have Ja:=((Blk.new w 32 #[.int .i64 a.n,.slice A1 a.starts.length c1,.slice A2 a.ends.length c2,.slice A3 a.arcs.length c3]).alloc (.cells #[.int .i64 b.n,.slice D1 b.starts.length e1,.slice D2 b.ends.length e2,.slice D3 b.arcs.length e3] 32)).alloc (.cells #[.int .i64 0,.slice none 0 0,.slice none 0 0,.slice none 0 0] 32)
 have Jb:=(Blk.new (w.alloc (.cells #[.int .i64 a.n,.slice A1 a.starts.length c1,.slice A2 a.ends.length c2,.slice A3 a.arcs.length c3] 32)) 32 #[.int .i64 b.n,.slice D1 b.starts.length e1,.slice D2 b.ends.length e2,.slice D3 b.arcs.length e3]).alloc (.cells #[.int .i64 0,.slice none 0 0,.slice none 0 0,.slice none 0 0] 32)
 have Jr:=Blk.new ((w.alloc (.cells #[.int .i64 a.n,.slice A1 a.starts.length c1,.slice A2 a.ends.length c2,.slice A3 a.arcs.length c3] 32)).alloc (.cells #[.int .i64 b.n,.slice D1 b.starts.length e1,.slice D2 b.ends.length e2,.slice D3 b.arcs.length e3] 32)) 32 #[.int .i64 0,.slice none 0 0,.slice none 0 0,.slice none 0 0]
 simp only [World.size_alloc] at Jb Jr
 have hcka:=fun W (hb:Below w.heap.size w W) => fstCheck_any a _ B W (HSa'.below (hb.mono hB)) (Nat.le_trans hB hb.size)
 have hckb:=fun W (hb:Below w.heap.size w W) => fstCheck_any b _ B W (HSb'.below (hb.mono hB)) (Nat.le_trans hB hb.size)
 have HP1:=Lib.hid (fun w' (r:Int) (hr:r≠0) (hb:Below w.heap.size w w') => show ComposePost a b w (.returned (.tuple #[.agg #[.int .i64 0,.slice none 0 0,.slice none 0 0,.slice none 0 0],.int .i64 r])) w' from ⟨fs0,r,⟨_,rfl,fst0_at _ _,fst0_new _,hb⟩,fun h => absurd h hr⟩)
 have hend:∀ (r:Int) (W:World),r≠0→Below w.heap.size w W→Blk W (w.heap.size + 1 + 1) 32 #[.int .i64 0,.slice none 0 0,.slice none 0 0,.slice none 0 0]→ComposePost a b w (.returned (.tuple #[.agg #[.int .i64 0,.slice none 0 0,.slice none 0 0,.slice none 0 0],.int .i64 r])) ((((W.setCell ⟨w.heap.size + 1 + 1,0,none⟩ (.int .i64 0)).setCell ⟨w.heap.size + 1 + 1,1,none⟩ (.slice none 0 0)).setCell ⟨w.heap.size + 1 + 1,2,none⟩ (.slice none 0 0)).setCell ⟨w.heap.size + 1 + 1,3,none⟩ (.slice none 0 0)):=fun r W hr hb _ => HP1.out _ r hr (below_set4 hb (by omega) _ _ _ _)
 have HEND:=Lib.hid hend
 have HFB0:=Lib.hid (fun W (hb:Below w.heap.size w W) => HSb'.below (hb.mono hB))
 clear hend HSa' HSb'
 have hck1:=hcka _ B0
 rcases hfa:fckB a with _ | _
 ·rw [hfa] at hck1
  replace hck1:Calls Tryz.prog 20 _ _ (Gives (.int .i64 1) _):=hck1
  clear hfa hcka hckb R1 W1 R2 W2 R3 W3 Q1 X1 Q2 X2 Q3 X3 Jb
  have j0:=Ja.cell 0
  have j1:=Ja.cell 1
  have j2:=Ja.cell 2
  have j3:=Ja.cell 3
  generalize a.starts.length = n1 at *
  generalize a.ends.length = n2 at *
  generalize a.arcs.length = n3 at *
  generalize b.starts.length = m1 at *
  generalize b.ends.length = m2 at *
  generalize b.arcs.length = m3 at *
  go_enter Tryz.func9,Tryz.ntmps9
  go_wp2_with fail
  refine hck1.mono ?_
  rintro e w1 ⟨rfl,HB1⟩
  have Jr1:=Jr.below HB1 Jr.lt
  have hb1:=B0.trans (HB1.mono (by simp; omega))
  have q0:=Jr1.cell 0
  have q1:=Jr1.cell 1
  have q2:=Jr1.cell 2
  have q3:=Jr1.cell 3
  have f0:=Jr1.frozen 0
  have f1:=Jr1.frozen 1
  have f2:=Jr1.frozen 2
  have f3:=Jr1.frozen 3
  clear Ja Jr j0 j1 j2 j3 HB1 B0 hck1
  go_wp2
  refine bodyPost_ret (v:=.tuple #[.agg #[.int .i64 0,.slice none 0 0,.slice none 0 0,.slice none 0 0],.int .i64 1]) (by simp [results,Tryz.results9,go_sem,q0,q1,q2,q3]) rfl (HEND.out 1 _ (by decide) hb1 Jr1)
 ·rw [hfa] at hck1
  replace hck1:Calls Tryz.prog 20 _ _ (Gives (.int .i64 0) _):=hck1
  have HFA:=Lib.hid hfa
  have hpa:=fck_parts hfa
  have j0:=Ja.cell 0
  have j1:=Ja.cell 1
  have j2:=Ja.cell 2
  have j3:=Ja.cell 3
  clear hfa
  generalize hla1:a.starts.length = n1 at *
  generalize hla2:a.ends.length = n2 at *
  generalize hla3:a.arcs.length = n3 at *
  generalize hlb1:b.starts.length = m1 at *
  generalize hlb2:b.ends.length = m2 at *
  generalize hlb3:b.arcs.length = m3 at *
  have HLA:=Lib.hid (show a.starts.length = n1∧a.ends.length = n2∧a.arcs.length = n3 from ⟨hla1,hla2,hla3⟩)
  have HLB:=Lib.hid (show b.starts.length = m1∧b.ends.length = m2∧b.arcs.length = m3 from ⟨hlb1,hlb2,hlb3⟩)
  have HPA:=Lib.hid hpa
  have HW3:=Lib.hid W3
  have HX3:=Lib.hid X3
  clear hla1 hla2 hla3 hlb1 hlb2 hlb3 hpa W1 W2 W3 X1 X2 X3 hcka
  go_enter Tryz.func9,Tryz.ntmps9
  go_wp2_with fail
  refine hck1.mono ?_
  rintro e w1 ⟨rfl,HB1⟩
  have Jr1:=Jr.below HB1 Jr.lt
  have Ja1:=Ja.below HB1 Ja.lt
  have Jb1:=Jb.below HB1 Jb.lt
  have hb1:=B0.trans (HB1.mono (by simp; omega))
  have hck2:=hckb _ hb1
  have p0:=Jb1.cell 0
  have p1:=Jb1.cell 1
  have p2:=Jb1.cell 2
  have p3:=Jb1.cell 3
  clear Ja Jb Jr j0 j1 j2 j3 HB1 B0 hck1 hckb
  rcases hfb:fckB b with _ | _
  ·rw [hfb] at hck2
   replace hck2:Calls Tryz.prog 20 _ _ (Gives (.int .i64 1) _):=hck2
   clear hfb
   go_wp2_with fail
   refine hck2.mono ?_
   rintro e w2 ⟨rfl,HB2⟩
   have Jr2:=Jr1.below HB2 Jr1.lt
   have hb2:=hb1.trans (HB2.mono hb1.size)
   clear Ja1 Jb1 Jr1 p0 p1 p2 p3 HB2 hb1 hck2
   have q0:=Jr2.cell 0
   have q1:=Jr2.cell 1
   have q2:=Jr2.cell 2
   have q3:=Jr2.cell 3
   have f0:=Jr2.frozen 0
   have f1:=Jr2.frozen 1
   have f2:=Jr2.frozen 2
   have f3:=Jr2.frozen 3
   go_wp2
   refine bodyPost_ret (v:=.tuple #[.agg #[.int .i64 0,.slice none 0 0,.slice none 0 0,.slice none 0 0],.int .i64 1]) (by simp [results,Tryz.results9,go_sem,q0,q1,q2,q3]) rfl (HEND.out 1 _ (by decide) hb2 Jr2)
  ·rw [hfb] at hck2
   replace hck2:Calls Tryz.prog 20 _ _ (Gives (.int .i64 0) _):=hck2
   have HFB:=Lib.hid hfb
   have hpb:=fck_parts hfb
   have HPB:=Lib.hid hpb
   clear hfb hpb
   go_wp2_with fail
   refine hck2.mono ?_
   rintro e w2 ⟨rfl,HB2⟩
   have Jr2:=Jr1.below HB2 Jr1.lt
   have Ja2:=Ja1.below HB2 Ja1.lt
   have Jb2:=Jb1.below HB2 Jb1.lt
   have hb2:=hb1.trans (HB2.mono hb1.size)
   clear Ja1 Jb1 Jr1 p0 p1 p2 p3 HB2 hb1 hck2
   obtain ⟨a0,a1,_⟩:=HPA.out
   obtain ⟨b0,b1,_⟩:=HPB.out
   have u0:=Ja2.cell 0
   have v0:=Jb2.cell 0
   have hmm:0≤a.n * b.n:=Int.mul_nonneg a0 b0
   have hmm2:a.n * b.n≤1024 * 1024:=Int.le_trans (Int.mul_le_mul_of_nonneg_right a1 b0) (Int.mul_le_mul_of_nonneg_left b1 (by decide))
   have e1':IntKind.i64.wrap (a.n * b.n) = a.n * b.n:=IntWalk.i64_in _ (by omega)
   by_cases hbig:1024 < a.n * b.n
   ·clear HFA HFB HPA HPB HW3 HX3
    have q0:=Jr2.cell 0
    have q1:=Jr2.cell 1
    have q2:=Jr2.cell 2
    have q3:=Jr2.cell 3
    have f0:=Jr2.frozen 0
    have f1:=Jr2.frozen 1
    have f2:=Jr2.frozen 2
    have f3:=Jr2.frozen 3
    go_wp2
    refine bodyPost_ret (v:=.tuple #[.agg #[.int .i64 0,.slice none 0 0,.slice none 0 0,.slice none 0 0],.int .i64 2]) (by simp [results,Tryz.results9,go_sem,q0,q1,q2,q3]) rfl (HEND.out 2 _ (by decide) hb2 Jr2)
   ·have hbig2:a.n * b.n≤1024:=by omega
    obtain ⟨n,hbn⟩:∃ n:Nat,b.n = (n:Int):=⟨_,(Int.toNat_of_nonneg b0).symm⟩
    have HBN:=Lib.hid hbn
    have hn1024:n≤1024:=by omega
    have hlv:∀ W,Below w2.heap.size w2.drew W→Calls Tryz.prog 23 #[.agg #[.int .i64 b.n,.slice D1 m1 e1,.slice D2 m2 e2,.slice D3 m3 e3]] W fun e W' => ∃ v,e = .returned v∧Below W.heap.size W W'∧∃ L vs base,v = .slice (some ⟨L,0,none⟩) n n∧w2.heap.size≤L∧w2.heap.size≤base∧L < W'.heap.size∧Grp encA 8 W' base L n 30 61 vs (leavS b.arcs m3):=fun W hb => by
     have hbw:=hb2.trans ((show Below w2.heap.size w2 W from (Below.refl _ w2).drew.trans hb).mono hb2.size)
     have hl3:=HLB.out.2.2
     refine (leaving_any b _ B W (HFB0.out W hbw) (Nat.le_trans hB hbw.size) n hbn (by omega) HPB.out.2.2.2.2.1 (fun k hk => ?_)).mono ?_
     ·have:=HPB.out.2.2.2.2.2 _ (getD_in b.arcs ar0 k hk)
      exact ⟨this.1,by rw [← hbn]; exact this.2.1⟩
     ·rintro e W' ⟨L,vs,rfl,hL,hG,hB'⟩
      have hz:w2.heap.size≤W.heap.size:=hb.size
      exact ⟨_,rfl,hB',L,vs,_,rfl,by omega,Nat.le_trans hz (Nat.le_succ _),(own_lt hG.own L rfl).2,by rw [hl3] at hG; exact hG⟩
    have HLV:=Lib.hid hlv
    have r0:=cell_regrown u0
    have r1:=cell_regrown (Ja2.cell 1)
    have r2:=cell_regrown (Ja2.cell 2)
    have r3:=cell_regrown (Ja2.cell 3)
    have s0:=cell_regrown v0
    have s1:=cell_regrown (Jb2.cell 1)
    have s2:=cell_regrown (Jb2.cell 2)
    have s3:=cell_regrown (Jb2.cell 3)
    obtain ⟨i0,hi,hy0,hy1,hy2⟩:=info_parts slTip_info
    have hbb:i0.bytes * n≤281474976710656:=by rw [hy2]; omega
    have hmx:n≤maxLen:=by unfold maxLen; omega
    clear hbn hlv a0 a1 b0 b1
    go_wp2
    clear u0 v0
    refine wp_region_fan_below 8 [0,1,2,4,5] [3,6,7] (by kernel_rfl) (by kernel_rfl) rfl (by kernel_rfl) ?_
    simp only [pickOps,List.getElem?_cons_zero,List.getElem?_cons_succ,List.drop_succ_cons,List.drop_zero,List.length_cons,List.length_nil]
    repeat (go_big_quiet_step (fail))
    refine wpQuiet_nil ?_
    clear r0 r1 r2 r3 s0 s1 s2 s3
    refine fan3 (i:=3) (j:=6) (k:=7) (di:=31) (dj:=34) (dk:=35) (by decide) (by decide) (by decide) (by decide) (by decide) (by decide) rfl rfl rfl
     (maker_call rfl rfl 30 (by decide) 23 _ rfl eg_leaving ?_ HLV.out)
     (maker_slice rfl rfl 33 (by decide) 68 rfl 29 i0 _ 1 Tryz.underlying68 hi hy0 hy1 n ?_ hbb hmx)
     (maker_map (T:=61) (enc:=encA) (ok:=ArW) rfl rfl _ rfl) ?_
    ·rintro v W W' ⟨L,vs,base,rfl,g1,g2,g3,hG⟩ hb
     exact ⟨L,vs,base,rfl,g1,g2,Nat.lt_of_lt_of_le g3 hb.size,hG.call hb⟩
    ·show Value.int .i64 b.n = _
     rw [HBN.out]
    ·rintro vi vj vk W hbW ⟨L,vs,base,rfl,g1,g2,g3,HGA⟩ ⟨E,rfl,g4,HGE0⟩ ⟨M2,rfl,g5,HSA⟩
     simp only [Act.put]
     go_wp2
     refine NoPanic.normal ?_
     have hbW2:Below w2.heap.size w2 W:=(Below.refl _ w2).drew.trans hbW
     rw [show (Value.slice none 0 0).cells = #[Value.slice none 0 0] from rfl,Nat.mul_one,toList_madeCells_one] at HGE0
     have HC0:CmW w (W.alloc (.cells #[.int .i64 a.n,.slice A1 n1 c1,.slice A2 n2 c2,.slice A3 n3 c3,.int .i64 b.n,.slice D1 m1 e1,.slice D2 m2 e2,.slice D3 m3 e3,.slice (some ⟨L,0,none⟩) n n,.slice (some ⟨E,0,none⟩) n n,.map (some M2),.map none,.map none,.int .i64 0,.slice none 0 0,.slice none 0 0,.slice none 0 0,.bool false] 73)) W.heap.size L E M2 n base w2.heap.size _ _ _ vs (List.replicate n nilV) (leavS b.arcs m3) (fun _ => []) :=
      ⟨(Ja2.below hbW2 Ja2.lt).alloc _,(Jb2.below hbW2 Jb2.lt).alloc _,(Jr2.below hbW2 Jr2.lt).alloc _,HGA.call ((Below.refl _ W).alloc (Nat.le_refl _) _),(grp_madeG HGE0).call ((Below.refl _ W).alloc (Nat.le_refl _) _),HSA.below ((Below.refl _ W).alloc (Nat.le_refl _) _) (Nat.le_refl _),Blk.new W _ _,
       (hb2.trans (hbW2.mono hb2.size)).alloc (Nat.le_trans hb2.size hbW2.size) _,by have:=hb2.size; omega,hb2.size,by have:=Jr2.lt; have:=hbW2.size; omega,by have:=hb2.size; have g5':w2.heap.size≤M2:=g5; omega⟩
     clear HGA HGE0 HSA Ja2 Jb2 Jr2 hbW hbW2 hb2 g1 g2 g3 g4 g5 hi hy0 hy1 hy2 hbb
     have hmm0:=@run_makeMap Tryz.prog
     generalize W.heap.size = G at *
     go_wp2
     go_loopw [38] (fun i wr => ∃ (k:Nat) (mv0 mv1:Value),k≤2∧i = .int .i64 ((k:Nat):Int)∧CmW w wr G L E M2 n base w2.heap.size #[.int .i64 a.n,.slice A1 n1 c1,.slice A2 n2 c2,.slice A3 n3 c3] #[.int .i64 b.n,.slice D1 m1 e1,.slice D2 m2 e2,.slice D3 m3 e3] #[.int .i64 a.n,.slice A1 n1 c1,.slice A2 n2 c2,.slice A3 n3 c3,.int .i64 b.n,.slice D1 m1 e1,.slice D2 m2 e2,.slice D3 m3 e3,.slice (some ⟨L,0,none⟩) n n,.slice (some ⟨E,0,none⟩) n n,.map (some M2),mv0,mv1,.int .i64 0,.slice none 0 0,.slice none 0 0,.slice none 0 0,.bool false] vs (List.replicate n nilV) (leavS b.arcs m3) (fun _ => []) ∧
      (k = 0→mv0 = .map none∧mv1 = .map none)∧(1≤k→∃ M0,mv0 = .map (some M0)∧w.heap.size≤M0∧M0≠M2∧Seen 54 encT TpW wr M0 []∧(k = 1→mv1 = .map none)∧(2≤k→∃ M1,mv1 = .map (some M1)∧w.heap.size≤M1∧M1≠M2∧M0≠M1∧Seen 54 encT TpW wr M1 []))) (fun i _ => 2 - (intOf i).toNat)
     case atStart => exact ⟨0,_,_,Nat.zero_le _,rfl,HC0,fun _ => ⟨rfl,rfl⟩,fun h => absurd h (by decide)⟩
     case round =>
      clear HC0
      obtain ⟨k,mv0,mv1,hk,rfl,HC,hk0,hk1⟩:=hrel
      have hz:=HC.bel.size
      have lG:=HC.lG
      have lM:=HC.lM
      have hMl:=HC.sa.lt
      by_cases hlt:k < 2
      ·have LBm:=(Below.refl wr.heap.size wr).alloc (Nat.le_refl _) (.map #[] 0)
       have HCa:=HC.call LBm
       have HSn:=Seen.made (T:=54) (enc:=encT) (ok:=TpW) wr
       have hGl:=HC.box.lt
       rcases Nat.eq_zero_or_pos k with rfl | hkp
       ·obtain ⟨rfl,rfl⟩:=hk0 rfl
        have q11:=HCa.box.cell 11
        have f11:=HCa.box.frozen 11
        have HCs:=HCa.setG 11 (.map (some wr.heap.size))
        have HSs:=HSn.setCell (a:=⟨G,11,none⟩) (by show wr.heap.size≠G; omega) (.map (some wr.heap.size))
        have hne:wr.heap.size≠M2:=by omega
        rw [World.setCell_alloc_past _ _ _ _ hGl] at HCs HSs
        clear hk0 hk1 HC LBm HCa HSn
        go_wp2
        go_roundw
        case rel => exact ⟨1,_,_,by decide,rfl,HCs,fun h => absurd h (by decide),fun _ => ⟨_,rfl,hz,hne,HSs,fun _ => rfl,fun h => absurd h (by decide)⟩⟩
        case measure => decide
       ·obtain rfl:k = 1:=by omega
        obtain ⟨M0,rfl,lM0,nM0,HS0,hm1,_⟩:=hk1 (Nat.le_refl _)
        obtain rfl:=hm1 rfl
        have hM0:=HS0.lt
        have q12:=HCa.box.cell 12
        have f12:=HCa.box.frozen 12
        have HCs:=HCa.setG 12 (.map (some wr.heap.size))
        have HSs:=HSn.setCell (a:=⟨G,12,none⟩) (by show wr.heap.size≠G; omega) (.map (some wr.heap.size))
        have HS0s:=(HS0.below LBm (Nat.le_refl _)).setCell (a:=⟨G,12,none⟩) (fun e => HS0.blk_ne HC.box e.symm) (.map (some wr.heap.size))
        have hne:wr.heap.size≠M2:=by omega
        have hne2:M0≠wr.heap.size:=by omega
        rw [World.setCell_alloc_past _ _ _ _ hGl] at HCs HSs HS0s
        clear hk0 hk1 HC LBm HCa HSn hm1 HS0
        go_wp2
        go_roundw
        case rel => exact ⟨2,_,_,by decide,rfl,HCs,fun h => absurd h (by decide),fun _ => ⟨_,rfl,lM0,nM0,HS0s,fun h => absurd h (by decide),fun _ => ⟨_,rfl,hz,hne,hne2,HSs⟩⟩⟩
        case measure => decide
      ·obtain rfl:k = 2:=by omega
       obtain ⟨M0,rfl,lM0,nM0,HS0,_,hk2⟩:=hk1 (by decide)
       obtain ⟨M1,rfl,lM1,nM1,n01,HS1⟩:=hk2 (Nat.le_refl _)
       clear hk0 hk1 hk2 hz hMl lM lG
       have p2:=HC.jb.cell 2
       have HGRP:(fun _ => []) = endS b.ends 0:=by funext t; rfl
       rw [HGRP] at HC
       clear HGRP
       go_wp2
       clear p2
       rw [show ((2:Nat):Int) = (2:Int) from rfl]
       go_loopw [51] (fun i wr => ∃ (k:Nat) (ves:List Value),k≤m2∧i = .int .i64 ((k:Nat):Int)∧CmW w wr G L E M2 n base w2.heap.size #[.int .i64 a.n,.slice A1 n1 c1,.slice A2 n2 c2,.slice A3 n3 c3] #[.int .i64 b.n,.slice D1 m1 e1,.slice D2 m2 e2,.slice D3 m3 e3] #[.int .i64 a.n,.slice A1 n1 c1,.slice A2 n2 c2,.slice A3 n3 c3,.int .i64 b.n,.slice D1 m1 e1,.slice D2 m2 e2,.slice D3 m3 e3,.slice (some ⟨L,0,none⟩) n n,.slice (some ⟨E,0,none⟩) n n,.map (some M2),.map (some M0),.map (some M1),.int .i64 0,.slice none 0 0,.slice none 0 0,.slice none 0 0,.bool false] vs ves (leavS b.arcs m3) (endS b.ends k)∧Seen 54 encT TpW wr M0 []∧Seen 54 encT TpW wr M1 []) (fun i _ => m2 - (intOf i).toNat)
       case atStart => exact ⟨0,_,Nat.zero_le _,rfl,HC,HS0,HS1⟩
       case round =>
        clear HC HS0 HS1
        obtain ⟨k,ves,hk,rfl,HC,HS0,HS1⟩:=hrel
        have lG:=HC.lG
        by_cases hlt:k < m2
        ·have hi1:(0:Int)≤(k:Int):=by omega
         have hi2:(k:Int) < (m2:Int):=by omega
         obtain ⟨gz,oz,rfl,hgz,t0,t1⟩:=tip_cell (Q2.below (HC.bel.mono hB)) k hlt
         have hkl:k < b.ends.length:=by have:=HLB.out.2.1; omega
         have hzb:=HPB.out.2.2.2.1.2 _ (getD_in b.ends tp0 k hkl)
         have hsucc:=Lib.hid (endS_succ b.ends k hkl)
         have hrl:∀ s,(endS b.ends k s).length≤1024:=fun s => Nat.le_trans (List.length_filter_le _ _) (by rw [List.length_take]; have:=HPB.out.2.2.2.1.1; omega)
         generalize b.ends.getD k tp0 = z at *
         obtain ⟨zs,zo⟩:=z
         simp only at t0 t1 hzb
         obtain ⟨s,rfl⟩:∃ s:Nat,zs = (s:Int):=⟨_,(Int.toNat_of_nonneg hzb.1).symm⟩
         have hsn:s < n:=by have:=HBN.out; omega
         have hs1:(0:Int)≤(s:Int):=by omega
         have hs2:(s:Int) < (n:Int):=by omega
         have hrs:=hrl s
         clear hrl
         generalize endS b.ends k = rows at *
         have LB:=(Below.refl wr.heap.size wr).alloc (Nat.le_refl _) (.cells #[.int .i64 (s:Int),.string zo] 54)
         have HCa:=HC.call LB
         have HGz:=Blk.new wr 54 #[.int .i64 (s:Int),.string zo]
         have HS0a:=HS0.below LB (Nat.le_refl _)
         have HS1a:=HS1.below LB (Nat.le_refl _)
         have hrow:=HCa.ge.row s hsn
         obtain ⟨Av,cv,hv,hv1,hv2,hv3⟩:=own_form hrow
         have hcl:=own_cellAt HCa.ge.own s hsn nilV
         rw [hv] at hcl
         have hngz:(ves.getD s nilV).ownBlock≠some wr.heap.size:=fun e => by have:=(own_lt (HC.ge.row s hsn) _ e).2; omega
         rw [hv] at hngz
         obtain ⟨Sx,hSdef⟩:∃ Sx:World→Prop,Sx = fun W => Blk W wr.heap.size 54 #[.int .i64 (s:Int),.string zo]∧Blk W G 73 #[.int .i64 a.n,.slice A1 n1 c1,.slice A2 n2 c2,.slice A3 n3 c3,.int .i64 b.n,.slice D1 m1 e1,.slice (some ⟨gz,oz,none⟩) m2 e2,.slice D3 m3 e3,.slice (some ⟨L,0,none⟩) n n,.slice (some ⟨E,0,none⟩) n n,.map (some M2),.map (some M0),.map (some M1),.int .i64 0,.slice none 0 0,.slice none 0 0,.slice none 0 0,.bool false]∧W.cell? ⟨E,s,none⟩ = some (.slice Av (rows s).length cv):=⟨_,rfl⟩
         have hSi:=fun W x1 x2 x3 => show Sx W by rw [hSdef]; exact ⟨x1,x2,x3⟩
         have hSo:=fun W (h:Sx W) => show Blk W wr.heap.size 54 #[.int .i64 (s:Int),.string zo]∧Blk W G 73 #[.int .i64 a.n,.slice A1 n1 c1,.slice A2 n2 c2,.slice A3 n3 c3,.int .i64 b.n,.slice D1 m1 e1,.slice (some ⟨gz,oz,none⟩) m2 e2,.slice D3 m3 e3,.slice (some ⟨L,0,none⟩) n n,.slice (some ⟨E,0,none⟩) n n,.map (some M2),.map (some M0),.map (some M1),.int .i64 0,.slice none 0 0,.slice none 0 0,.slice none 0 0,.bool false]∧W.cell? ⟨E,s,none⟩ = some (.slice Av (rows s).length cv) by rw [hSdef] at h; exact h
         have y0:=fun p:Held Sx => (hSo p.w p.2).1.cell 0
         have y1:=fun p:Held Sx => (hSo p.w p.2).1.cell 1
         have y9:=fun p:Held Sx => (hSo p.w p.2).2.1.cell 9
         have yE:=fun p:Held Sx => (hSo p.w p.2).2.2
         have hS0x:Sx (wr.alloc (.cells #[.int .i64 (s:Int),.string zo] 54)).drew:=hSi _ HGz HCa.box hcl
         clear hSdef
         have:Nonempty (Held Sx):=⟨⟨_,hS0x⟩⟩
         go_wp2
         clear t0 t1
         refine wp_region_hold_at Sx 17 [0,1,2,3,4,5,6,7,8,9,10,11,12,13,14] [15,16] (by kernel_rfl) (by kernel_rfl) rfl (by kernel_rfl) hS0x ?_
         simp only [pickOps,List.getElem?_cons_zero,List.getElem?_cons_succ,List.drop_succ_cons,List.drop_zero]
         repeat (go_big_quiet_step (fail))
         refine wpQuiet_nil ?_
         clear y0 y1 y9 yE
         refine wpForce_step rfl (fun KK hKK => ?_)
         go_simp
         generalize hwa:wr.alloc (.cells #[.int .i64 (s:Int),.string zo] 54) = wa at *
         have hsa:wa.heap.size = wr.heap.size + 1:=by rw [← hwa]; simp
         have LA:Below wa.heap.size wa (wa.drew.alloc (.cells #[.int .i64 (s:Int),.string zo] 54)):=(Below.refl _ wa).drew.alloc (Nat.le_refl _) _
         have HGz2:=HGz.below LA HGz.lt
         have HC2:=HCa.call LA
         have HS02:=HS0a.below LA (Nat.le_refl _)
         have HS12:=HS1a.below LA (Nat.le_refl _)
         have hcl2:=own_cellAt HC2.ge.own s hsn nilV
         rw [hv] at hcl2
         refine hKK _ _ (HeldIn.of (hSi _ HGz2 HC2.box hcl2)) ?_
         clear hKK KK
         have hrd:=reads_allocK wa.drew [.int .i64 (s:Int),.string zo] 54 2 1 rfl
         rw [show wa.drew.heap.size = wr.heap.size + 1 from hsa] at hrd
         have hrow2:=HC2.ge.row s hsn
         rw [hv] at hrow2
         have hone:=encT_one ⟨(s:Int),zo⟩
         have h63:(rows s).length + 1≤maxLen:=by unfold maxLen; omega
         have hby:((rows s).length + 1) * 24≤140737488355328:=by omega
         have hbs:w2.heap.size≤(wa.drew.alloc (.cells #[.int .i64 (s:Int),.string zo] 54)).heap.size:=by
          have:=(own_lt HC2.ge.own E rfl)
          omega
         obtain ⟨ia,hia,hya0,hya1,hya2⟩:=info_parts tip_info
         refine wpForce_step rfl (fun KK hKK => ?_)
         refine wp_append_any _ _ _ 29 rfl w2.heap.size 54 ia _ 2 24 Tryz.underlying29 hia hya0 hya1 hya2 rfl (by decide) _ _ _ rfl hrow2 _ (some ⟨wr.heap.size + 1,0,none⟩) 1 1 [.int .i64 (s:Int),.string zo] rfl hrd hone h63 hby hbs ?_
         intro v' w5 hown hgrow hloc
         have hgrow':=hgrow
         rw [← hv] at hgrow'
         have HW:=HC2.putE s hsn ⟨(s:Int),zo⟩ hgrow' hown (by rw [hv]; exact hloc)
         have k5:=HC2.ge.own.kept hgrow' (apart_types HC2.ge.own (HC2.ge.row s hsn) (by decide)).or_none
         have hcl5:=own_cellAt k5 s hsn nilV
         have hfz5:=own_frozenAt k5 s
         rw [hv] at hcl5
         have HG5:=blk_keep HGz2 hgrow hngz
         have HX5:=blk_keep HC2.box hgrow' (own_blk (HC2.ge.row s hsn) HC2.box (by decide))
         have HS05:=HS02.kept hgrow' (HS02.ne (HC2.ge.row s hsn))
         have HS15:=HS12.kept hgrow' (HS12.ne (HC2.ge.row s hsn))
         have HS06:=HS05.setCell (a:=⟨E,s,none⟩) (fun e => HS05.ne k5 (congrArg some e)) v'
         have HS16:=HS15.setCell (a:=⟨E,s,none⟩) (fun e => HS15.ne k5 (congrArg some e)) v'
         refine hKK _ _ (HeldIn.of (hSi _ HG5 HX5 hcl5)) ?_
         clear hKK KK
         obtain ⟨Av2,cv2,rfl,_,_,_⟩:=own_form hown
         clear hown hgrow hgrow' hloc hrd hrow2 HGz2 HG5 HGz HC2 HCa HC hSi hSo hS0x k5 LA hcl hcl2 HX5 HS05 HS15 HS02 HS12 HS0a HS1a HS0 HS1 LB
         refine wpForce_nil ?_
         go_wp2
         refine NoPanic.normal ?_
         go_wp2
         go_roundw
         case rel =>
          refine ⟨k + 1,ves.set s (.slice Av2 ((rows s).length + 1) cv2),by omega,by go_num,?_,HS06,HS16⟩
          have e:endS b.ends (k + 1) = fun u => if u = s then rows s ++ [(⟨(s:Int),zo⟩:Tp)] else rows u:=by
           funext u
           rw [hsucc.out u]
           by_cases hu:u = s
           ·subst hu; rw [if_pos rfl,if_pos rfl]
           ·rw [if_neg (show ¬ ((u:Int) = (s:Int)) by omega),if_neg hu]
          rw [e]
          exact HW
         case measure => simp [intOf]; omega
        ·obtain rfl:k = m2:=by omega
         have p0:=HC.ja.cell 0
         have q0:=HC.jb.cell 0
         have b13:=HC.box.cell 13
         have f13:=HC.box.frozen 13
         have hmf:∀ (fn:Fn) (first cap:Array Value) (w:World),(Instr.makeFunc fn first cap).run Tryz.prog w = .ok (.func fn first cap) w:=fun _ _ _ _ => rfl
         have HC1:=(HC.setG 13 (.int .i64 (a.n * b.n)))
         have HS01:=HS0.setCell (a:=⟨G,13,none⟩) (fun e => HS0.blk_ne HC.box e.symm) (.int .i64 (a.n * b.n))
         have HS11:=HS1.setCell (a:=⟨G,13,none⟩) (fun e => HS1.blk_ne HC.box e.symm) (.int .i64 (a.n * b.n))
         clear HC HS0 HS1
         go_wp2
         clear p0 q0 b13 f13
         generalize hwf:(wr.setCell ⟨G,13,none⟩ (.int .i64 (a.n * b.n))) = wf at *
         have hwfs:wf.heap.size = wr.heap.size:=by rw [← hwf]; simp
         have LBf:=(Below.refl wf.heap.size wf).alloc (Nat.le_refl _) (.cells #[.func (.func 24) #[.pointer (some ⟨G,0,none⟩)] #[],.func (.func 25) #[.pointer (some ⟨G,0,none⟩)] #[],.func (.func 26) #[.pointer (some ⟨G,0,none⟩)] #[]] 1)
         have HC2:=HC1.call LBf
         have HS02:=HS01.below LBf (Nat.le_refl _)
         have HS12:=HS11.below LBf (Nat.le_refl _)
         have HFb:=Blk.new wf 1 #[.func (.func 24) #[.pointer (some ⟨G,0,none⟩)] #[],.func (.func 25) #[.pointer (some ⟨G,0,none⟩)] #[],.func (.func 26) #[.pointer (some ⟨G,0,none⟩)] #[]]
         rw [hwfs] at HFb
         have hGf:=HC1.box.lt
         have hM0f:=HS01.lt
         have hM1f:=HS11.lt
         have hM2f:=HC1.sa.lt
         have lM2:=HC1.lM
         have hwz:=HC1.bel.size
         obtain ⟨c,hc⟩:∃ c:Ch,c = ⟨wf.alloc (.cells #[.func (.func 24) #[.pointer (some ⟨G,0,none⟩)] #[],.func (.func 25) #[.pointer (some ⟨G,0,none⟩)] #[],.func (.func 26) #[.pointer (some ⟨G,0,none⟩)] #[]] 1),G,M0,M1,M2,L,E,n,a.n,b.n,.slice A1 n1 c1,.slice A2 n2 c2,.slice A3 n3 c3,.slice D1 m1 e1,.slice D2 k e2,.slice D3 m3 e3⟩:=⟨_,rfl⟩
         have hcG:c.G = G:=by rw [hc]
         have hcw:c.w = wf.alloc (.cells #[.func (.func 24) #[.pointer (some ⟨G,0,none⟩)] #[],.func (.func 25) #[.pointer (some ⟨G,0,none⟩)] #[],.func (.func 26) #[.pointer (some ⟨G,0,none⟩)] #[]] 1):=by rw [hc]
         have HW0:ChW c (wf.alloc (.cells #[.func (.func 24) #[.pointer (some ⟨G,0,none⟩)] #[],.func (.func 25) #[.pointer (some ⟨G,0,none⟩)] #[],.func (.func 26) #[.pointer (some ⟨G,0,none⟩)] #[]] 1)) (.slice none 0 0) (.slice none 0 0) (.slice none 0 0) [] [] [] false:=by
          subst hc
          exact ⟨HC2.box,World.ownsRow_nil _ _ _ _,World.ownsRow_nil _ _ _ _,World.ownsRow_nil _ _ _ _,(fun g h => by cases h),HS02,HS12,HC2.sa,HC2.box.lt,HS02.lt,HS12.lt,HC2.sa.lt,n01,nM0,nM1,Nat.le_refl _,rfl,rfl,rfl,fun _ _ => rfl⟩
         have hPl:∀ x,x < w.heap.size→c.P x:=by
          have l0:w.heap.size≤M0:=lM0
          have l1:w.heap.size≤M1:=lM1
          subst hc
          intro x hx
          exact ⟨by show x < (wf.alloc _).heap.size; rw [World.size_alloc]; omega,by show x≠G; omega,by show x≠M0; omega,by show x≠M1; omega,by show x≠M2; omega⟩
         have hPr:c.P (w.heap.size + 1 + 1):=by
          have n0:=HS02.blk_ne HC2.jr
          have n1:=HS12.blk_ne HC2.jr
          have n2:=HC2.sa.blk_ne HC2.jr
          have hl:=HC2.jr.lt
          subst hc
          exact ⟨hl,by show w.heap.size + 1 + 1≠G; omega,n0,n1,n2⟩
         have HE:ChE c a b:=by
          obtain ⟨la1,la2,la3⟩:=HLA.out
          obtain ⟨lb1,lb2,lb3⟩:=HLB.out
          have hga:=HC2.grpA HS02 HS12
          have hge:=HC2.grpE HS02 HS12
          have rd:∀ {A0:Option Addr} {size m:Nat} {xs:List Value},Reads w B size A0 m xs→ReadsP c.P c.w size A0 m xs:=fun {A0 size m xs} h => ReadsP.of_reads (by rw [hcw]; exact h.below (HC2.bel.mono hB)) fun k hk => hPl k (Nat.lt_of_lt_of_le hk hB)
          obtain ⟨pa1,pa2,pa3,pa4,pa5⟩:=HPA.out
          obtain ⟨pb1,pb2,pb3,pb4,pb5⟩:=HPB.out
          have hA3:=HW3.out
          have hX3:=HX3.out
          have hbn:=HBN.out
          refine ⟨by rw [hc],by rw [hc],by rw [hc]; exact hbn,by rw [hc]; exact hn1024,pa1,hbig2,⟨A1,c1,by rw [hc,la1],by rw [la1]; exact rd R1⟩,⟨A2,c2,by rw [hc,la2],by rw [la2]; exact rd R2⟩,⟨A3,c3,by rw [hc,la3],by rw [la3]; exact rd R3⟩,⟨D1,e1,by rw [hc,lb1],by rw [lb1]; exact rd Q1⟩,⟨by rw [la1]; exact pa3.1,pa3.2⟩,⟨by rw [la2]; exact pa4.1,pa4.2⟩,⟨by rw [la3]; exact pa5.1,fun x hx => ?_⟩,pb3,pb4,⟨pb5.1,fun x hx => ?_⟩,?_,?_⟩
          ·obtain ⟨y1,y2,y3,y4,y5,y6⟩:=pa5.2 x hx
           exact ⟨y1,y2,y3,y4,y5,(hA3 x hx).2.2.2.2.1,y6⟩
          ·obtain ⟨y1,y2,y3,y4,y5,y6⟩:=pb5.2 x hx
           refine ⟨hX3 x hx,y3,?_,y5⟩
           rw [hc]
           show x.to < (n:Int)
           omega
          ·subst hc
           rw [lb3]
           exact hga
          ·subst hc
           rw [lb2]
           exact hge
         have hFP:c.P wr.heap.size:=by
          subst hc
          exact ⟨by show wr.heap.size < (wf.alloc _).heap.size; rw [World.size_alloc]; omega,by show wr.heap.size≠G; omega,by show wr.heap.size≠M0; omega,by show wr.heap.size≠M1; omega,by show wr.heap.size≠M2; omega⟩
         have HFc:=HFb
         rw [← hcw] at HFc
         have HRb:=HC2.jr
         rw [← hcw] at HRb
         have hbw:=HC2.bel
         rw [← hcw] at hbw
         have HCW:=Lib.hid hcw
         have HCG:=Lib.hid hcG
         clear hc HC1 HC2 HS01 HS11 HS02 HS12 HFb hwf LBf hmf hmm0 hwfs hGf hM0f hM1f hM2f hwz
         generalize wr.heap.size = F at *
         go_loopw [91] (fun i wr => ∃ (k:Nat) (vS vE vA:Value) (S E':List Tp) (A:List Ar),k≤3∧i = .int .i64 ((k:Nat):Int)∧ChW c wr vS vE vA S E' A false∧(k≤0→S = [])∧(k≤1→E' = [])∧(k≤2→A = [])∧(1≤k→Puts S false (startsL a b))∧TipsB (a.n * b.n) S∧(2≤k→Puts E' false (endsL a b c.n))∧TipsB (a.n * b.n) E'∧(3≤k→Puts A false (arcsL a b c.n))∧ArcsB (a.n * b.n) A) (fun i _ => 3 - (intOf i).toNat)
         case atStart => exact ⟨0,_,_,_,[],[],[],by decide,rfl,HW0,fun _ => rfl,fun _ => rfl,fun _ => rfl,fun h => absurd h (by decide),⟨Nat.zero_le _,fun _ h => (List.not_mem_nil h).elim⟩,fun h => absurd h (by decide),⟨Nat.zero_le _,fun _ h => (List.not_mem_nil h).elim⟩,fun h => absurd h (by decide),⟨Nat.zero_le _,fun _ h => (List.not_mem_nil h).elim⟩⟩
         case round =>
          clear HW0
          obtain ⟨q,vS,vE,vA,S,E',A,hq,rfl,HW,z1,z2,z3,z4,z5,z6,z7,z8,z9⟩:=hrel
          have HFr:Blk wr F 1 _:=(HW.keep _ hFP).trans HFc
          by_cases hlt:q < 3
          ·have hq1:(0:Int)≤(q:Int):=by omega
           have hq2:(q:Int) < (3:Int):=by omega
           rcases Nat.eq_zero_or_pos q with rfl | hqp
           ·obtain rfl:=z1 (Nat.le_refl _)
            have g0:wr.cell? ⟨F,0,none⟩ = some (.func (.func 24) #[.pointer (some ⟨G,0,none⟩)] #[]):=HFr.cell 0
            have hC:=starts_any c a b HE wr vS vE vA E' A HW
            rw [HCG.out] at hC
            go_wp2_with fail
            refine hC.mono ?_
            rintro e w3 ⟨rfl,vS1,S1,ov,HW1,hp1,ht1⟩
            have k17:w3.cell? ⟨c.G,17,none⟩ = some (.bool ov):=HW1.box.cell 17
            rw [HCG.out] at k17
            have Hp1:=Lib.hid hp1
            have Ht1:=Lib.hid ht1
            clear hC g0 hp1 ht1
            rcases ov with _ | _
            ·go_wp2
             go_roundw
             case rel => exact ⟨1,vS1,vE,vA,S1,E',A,by decide,rfl,HW1,(fun h => absurd h (by decide)),(fun _ => z2 (by decide)),(fun _ => z3 (by decide)),(fun _ => Hp1.out),Ht1.out,(fun h => absurd h (by decide)),z7,(fun h => absurd h (by decide)),z9⟩
             case measure => decide
            ·have Jrx:Blk _ (w.heap.size + 1 + 1) 32 #[.int .i64 0,.slice none 0 0,.slice none 0 0,.slice none 0 0]:=(HW1.keep _ hPr).trans HRb
             have hbx:=HW1.below hbw hPl
             have q0:=Blk.cell Jrx 0
             have q1:=Blk.cell Jrx 1
             have q2:=Blk.cell Jrx 2
             have q3:=Blk.cell Jrx 3
             have f0:=Blk.frozen Jrx 0
             have f1:=Blk.frozen Jrx 1
             have f2:=Blk.frozen Jrx 2
             have f3:=Blk.frozen Jrx 3
             go_wp2
             refine bodyPost_ret (v:=.tuple #[.agg #[.int .i64 0,.slice none 0 0,.slice none 0 0,.slice none 0 0],.int .i64 2]) (by simp [results,Tryz.results9,go_sem,q0,q1,q2,q3]) rfl (HEND.out 2 _ (by decide) hbx Jrx)
           ·rcases Nat.lt_or_ge 1 q with hq3 | hq3
            ·obtain rfl:q = 2:=by omega
             obtain rfl:=z3 (Nat.le_refl _)
             have g0:wr.cell? ⟨F,2,none⟩ = some (.func (.func 26) #[.pointer (some ⟨G,0,none⟩)] #[]):=HFr.cell 2
             have hC:=steps_any c a b HE wr vS vE vA S E' HW
             rw [HCG.out] at hC
             go_wp2_with fail
             refine hC.mono ?_
             rintro e w3 ⟨rfl,vA1,A1',ov,HW1,hp1,ht1⟩
             have k17:w3.cell? ⟨c.G,17,none⟩ = some (.bool ov):=HW1.box.cell 17
             rw [HCG.out] at k17
             have Hp1:=Lib.hid hp1
             have Ht1:=Lib.hid ht1
             clear hC g0 hp1 ht1
             rcases ov with _ | _
             ·go_wp2
              go_roundw
              case rel => exact ⟨3,vS,vE,vA1,S,E',A1',by decide,rfl,HW1,(fun h => absurd h (by decide)),(fun h => absurd h (by decide)),(fun h => absurd h (by decide)),(fun _ => z4 (by decide)),z5,(fun _ => z6 (by decide)),z7,(fun _ => Hp1.out),Ht1.out⟩
              case measure => decide
             ·have Jrx:Blk _ (w.heap.size + 1 + 1) 32 #[.int .i64 0,.slice none 0 0,.slice none 0 0,.slice none 0 0]:=(HW1.keep _ hPr).trans HRb
              have hbx:=HW1.below hbw hPl
              have q0:=Blk.cell Jrx 0
              have q1:=Blk.cell Jrx 1
              have q2:=Blk.cell Jrx 2
              have q3:=Blk.cell Jrx 3
              have f0:=Blk.frozen Jrx 0
              have f1:=Blk.frozen Jrx 1
              have f2:=Blk.frozen Jrx 2
              have f3:=Blk.frozen Jrx 3
              go_wp2
              refine bodyPost_ret (v:=.tuple #[.agg #[.int .i64 0,.slice none 0 0,.slice none 0 0,.slice none 0 0],.int .i64 2]) (by simp [results,Tryz.results9,go_sem,q0,q1,q2,q3]) rfl (HEND.out 2 _ (by decide) hbx Jrx)
            ·obtain rfl:q = 1:=by omega
             obtain rfl:=z2 (Nat.le_refl _)
             have g0:wr.cell? ⟨F,1,none⟩ = some (.func (.func 25) #[.pointer (some ⟨G,0,none⟩)] #[]):=HFr.cell 1
             have hC:=stops_any c a b HE wr vS vE vA S A HW
             rw [HCG.out] at hC
             go_wp2_with fail
             refine hC.mono ?_
             rintro e w3 ⟨rfl,vE1,E1,ov,HW1,hp1,ht1⟩
             have k17:w3.cell? ⟨c.G,17,none⟩ = some (.bool ov):=HW1.box.cell 17
             rw [HCG.out] at k17
             have Hp1:=Lib.hid hp1
             have Ht1:=Lib.hid ht1
             clear hC g0 hp1 ht1
             rcases ov with _ | _
             ·go_wp2
              go_roundw
              case rel => exact ⟨2,vS,vE1,vA,S,E1,A,by decide,rfl,HW1,(fun h => absurd h (by decide)),(fun h => absurd h (by decide)),(fun _ => z3 (by decide)),(fun _ => z4 (by decide)),z5,(fun _ => Hp1.out),Ht1.out,(fun h => absurd h (by decide)),z9⟩
              case measure => decide
             ·have Jrx:Blk _ (w.heap.size + 1 + 1) 32 #[.int .i64 0,.slice none 0 0,.slice none 0 0,.slice none 0 0]:=(HW1.keep _ hPr).trans HRb
              have hbx:=HW1.below hbw hPl
              have q0:=Blk.cell Jrx 0
              have q1:=Blk.cell Jrx 1
              have q2:=Blk.cell Jrx 2
              have q3:=Blk.cell Jrx 3
              have f0:=Blk.frozen Jrx 0
              have f1:=Blk.frozen Jrx 1
              have f2:=Blk.frozen Jrx 2
              have f3:=Blk.frozen Jrx 3
              go_wp2
              refine bodyPost_ret (v:=.tuple #[.agg #[.int .i64 0,.slice none 0 0,.slice none 0 0,.slice none 0 0],.int .i64 2]) (by simp [results,Tryz.results9,go_sem,q0,q1,q2,q3]) rfl (HEND.out 2 _ (by decide) hbx Jrx)
          ·obtain rfl:q = 3:=by omega
           obtain ⟨AS,cS,rfl,_,_,_⟩:=own_form HW.oS
           obtain ⟨AE,cE,rfl,_,_,_⟩:=own_form HW.oE
           obtain ⟨AA,cA,rfl,_,_,_⟩:=own_form HW.oA
           have hnm:0≤a.n * b.n∧a.n * b.n≤1024:=⟨hmm,hbig2⟩
           have HF:=HW.fst hnm z5 z7 z9
           have hck:=fckB_of hnm z5 z7 z9
           have hSo:=fstSort_any ⟨a.n * b.n,S,E',A⟩ _ wr.heap.size wr HF (Nat.le_refl _)
           rw [hck,if_pos rfl] at hSo
           replace hSo:Calls Tryz.prog 21 #[.agg #[.int .i64 (a.n * b.n),.slice AS S.length cS,.slice AE E'.length cE,.slice AA A.length cA]] wr (GF (sortF ⟨a.n * b.n,S,E',A⟩) 0 wr):=hSo
           have HCh:=Lib.hid (chain_of (N:=a.n * b.n) (fckB_right HFB.out) (n:=c.n) (by rw [← HE.n]) (z4 (by decide)) (z6 (by decide)) (z8 (Nat.le_refl _)))
           have HRt:=Lib.hid (right_sortF hck)
           have HLt:=Lib.hid (sortF_arcs hck)
           have g13:wr.cell? ⟨c.G,13,none⟩ = some (.int .i64 (a.n * b.n)):=by
            have e:wr.cell? ⟨c.G,13,none⟩ = some (.int .i64 (c.an * c.bn)):=HW.box.cell 13
            rw [e,HE.an,HE.bn]
           have g14:wr.cell? ⟨c.G,14,none⟩ = some (.slice AS S.length cS):=HW.box.cell 14
           have g15:wr.cell? ⟨c.G,15,none⟩ = some (.slice AE E'.length cE):=HW.box.cell 15
           have g16:wr.cell? ⟨c.G,16,none⟩ = some (.slice AA A.length cA):=HW.box.cell 16
           rw [HCG.out] at g13 g14 g15 g16
           have Jrx:Blk _ (w.heap.size + 1 + 1) 32 #[.int .i64 0,.slice none 0 0,.slice none 0 0,.slice none 0 0]:=(HW.keep _ hPr).trans HRb
           have hbx:=HW.below hbw hPl
           clear HF hck z1 z2 z3 z4 z5 z6 z7 z8 z9 HFr
           go_wp2_with fail
           refine hSo.mono ?_
           rintro e w7 ⟨v7,rfl,HF7,HN7,HB7⟩
           obtain ⟨N7,Y1,y1,u1,Y2,y2,u2,Y3,y3,u3,hv7,_,_,_⟩:=id HN7
           subst hv7
           have Jr7:=Jrx.below HB7 Jrx.lt
           have hb7:=hbx.trans (HB7.mono hbx.size)
           have hlt7:=Jrx.lt
           have q0:=Jr7.cell 0
           have q1:=Jr7.cell 1
           have q2:=Jr7.cell 2
           have q3:=Jr7.cell 3
           have f0:=Jr7.frozen 0
           have f1:=Jr7.frozen 1
           have f2:=Jr7.frozen 2
           have f3:=Jr7.frozen 3
           have HEs:=Lib.hid (HF7.freshSet4 HN7 (g:=w.heap.size + 1 + 1) hlt7 (.int .i64 N7) (.slice Y1 y1 u1) (.slice Y2 y2 u2) (.slice Y3 y3 u3))
           have HNl:=Lib.hid (HN7.less (B':=w.heap.size) (by omega))
           have hpost:=Lib.hid (fun e w' (h:GF (sortF ⟨a.n * b.n,S,E',A⟩) 0 w e w') => show ComposePost a b w e w' from ⟨_,0,h,fun _ => ⟨HFA.out,HFB.out,HCh.out,HRt.out,HLt.out⟩⟩)
           clear HF7 HN7 g13 g14 g15 g16 hSo
           go_wp2
           refine bodyPost_ret (v:=.tuple #[.agg #[.int .i64 N7,.slice Y1 y1 u1,.slice Y2 y2 u2,.slice Y3 y3 u3],.int .i64 0]) (by simp [results,Tryz.results9,go_sem,q0,q1,q2,q3]) rfl (hpost.out _ _ ⟨_,rfl,HEs.out,HNl.out,below_set4 hb7 (by omega) _ _ _ _⟩)
end Go.Proofs.YtcondkihpmmnnaaGreatDoor
namespace Go.Proofs.YtcondkihpmmnnaaGreatDoor
open Go.RowKit Go.Sort Go.Shelf
attribute [local go_sem] Oper.semAt_some
theorem abides_below {β:Type} {B:Nat} {J:β→World→Prop} (hJ:AbidesFrom B J) {s:β} {w w':World} (h:J s w) (hb:Below w.heap.size w w'):J s w' :=
 hJ s w w' none h (grown_of_below hb) (fun r e => by cases e)
def KeepF (B:Nat) (X Y:World):Prop:=X.heap.size≤Y.heap.size∧∀ k cs T fr,B≤k→X.heap[k]? = some (.cells cs T fr)→Y.heap[k]? = X.heap[k]?
theorem KeepF.trans {B:Nat} {X Y Z:World} (h:KeepF B X Y) (k:KeepF B Y Z):KeepF B X Z :=
 ⟨Nat.le_trans h.1 k.1,fun q cs T fr hq hx => by
  have e1:=h.2 q cs T fr hq hx
  exact (k.2 q cs T fr hq (e1.trans hx)).trans e1⟩
theorem Blk.keepF {B:Nat} {X Y:World} {g:Nat} {T:TypeId} {cs:Array Value} (h:Blk X g T cs) (k:KeepF B X Y) (hg:B≤g):Blk Y g T cs:=(k.2 g cs T (0,0) hg h).trans h
def Leads (tips:List Tp) (succ:Nat→List Int) (x:Nat):Prop:=∃ t∈tips,∃ s:Nat,t.st = (s:Int)∧RT succ s x
def Uses (t:Fs) (n:Nat) (ys:List Nat):Prop:=∃ p:Nat→Bool,(∀ s,s < n→(p s = true↔Leads t.starts (onS t.arcs t.arcs.length) s∧Leads t.ends (backS t.arcs t.arcs.length) s))∧ys = (List.range n).filter p
theorem maker_call2 {Q:Exit→Act→World→Prop} {base:Act} {w:World} {ds:List Tmp} {o:Oper} {d:Tmp} {F:Value→World→Prop} (hd:o.dst = some d) (hg:o.guard = none) (x y:Tmp) (hx:x ∉ ds) (hy:y ∉ ds) (f:FuncId) (ts:Array TypeId) (hop:o.op = Op.call { callee:=.value (.func f),args:=#[.tmp x,.tmp y],argTypes:=ts })
    (he:∀ args W,(callFunc f args).run Tryz.prog W = .ok (.enter f args) W) (hs:∀ v W W',F v W→Below W.heap.size W W'→F v W')
    (h:∀ W,Below w.heap.size w W→Calls Tryz.prog f #[base.eval (.tmp x),base.eval (.tmp y)] W fun e W' => ∃ v,e = .returned v∧Below W.heap.size W W'∧F v W') :
    Maker Tryz.prog Q base w ds o d F:=by
 refine ⟨hd,hg,hs,?_⟩
 intro act W K hag hb hK
 have hl':act.eval (.tmp x) = base.eval (.tmp x):=eval_agrees hag x hx
 have hl2:act.eval (.tmp y) = base.eval (.tmp y):=eval_agrees hag y hy
 have hf:act.eval (.func f) = .func (.func f) #[] #[]:=rfl
 unfold Oper.wp execOp
 simp only [hop,resolve,invoke,Sem.run_bind,List.map_toArray,List.map_cons,List.map_nil,hl',hl2,hf]
 have hdv:(Deferred.ofValue (Value.func (Fn.func f) #[] #[]) #[base.eval (.tmp x),base.eval (.tmp y)]).run Tryz.prog W = .ok { target:=.fn (.func f) #[],args:=#[base.eval (.tmp x),base.eval (.tmp y)] } W:=by rfl
 rw [hdv,Result.andThen_ok]
 simp only [Array.append_empty,he]
 rw [Oper.upon_enter]
 refine (h W hb).mono ?_
 rintro e W' ⟨v,rfl,hb2,hF⟩
 show K (act.put o.dst v) W'
 rw [hd]
 exact hK _ _ hb2 hF
set_option maxRecDepth 100000 in
set_option maxHeartbeats 4000000 in
theorem useful1_in (d:Nat) (hd:1≤d) (l Bt Bo Bb L1 L2 n B0:Nat) (t:Fs) (A1 A2 A3:Option Addr) (n1 c1 n2 c2 n3 c3:Nat) (J Jx:List Nat→World→Prop) (W:World) (hJ:AbidesFrom W.heap.size J) (hB0:B0≤W.heap.size)
    (hY:∀ pre x W1,x < n→J pre W1→pre.length < n→YieldAt Fence.wide (d - 1) Tryz.prog l #[.int .i64 ((x:Nat):Int)] W1 fun e W' =>
     (e = .returned (.bool true)∧J (pre ++ [x]) W'∧KeepF B0 W1 W')∨(e = .returned (.bool false)∧Jx (pre ++ [x]) W'))
    (hbt:Blk W Bt 32 #[.int .i64 (n:Int),.slice A1 n1 c1,.slice A2 n2 c2,.slice A3 n3 c3]) (hbo:Blk W Bo 22 #[.slice (some ⟨L1,0,none⟩) n n]) (hbb:Blk W Bb 22 #[.slice (some ⟨L2,0,none⟩) n n])
    (hg1:GrpP (fun k => k < W.heap.size) encI 1 W L1 n (onS t.arcs t.arcs.length)) (hg2:GrpP (fun k => k < W.heap.size) encI 1 W L2 n (backS t.arcs t.arcs.length))
    (hR1:Reads W W.heap.size 2 A1 n1 (encs encT t.starts)) (hR2:Reads W W.heap.size 2 A2 n2 (encs encT t.ends)) (hn:n≤1024)
    (hs1:n1≤100000∧∀ x∈t.starts,0≤x.st∧x.st < (n:Int)) (hs2:n2≤100000∧∀ x∈t.ends,0≤x.st∧x.st < (n:Int)) (hal:t.arcs.length≤16384) (hok:∀ x∈t.arcs,0≤x.fr∧x.fr < (n:Int)∧0≤x.to∧x.to < (n:Int)) (h0:J [] W) :
    CallsIn Fence.wide d Tryz.prog 91 #[.func (.yield l) #[] #[],.pointer (some ⟨Bt,0,none⟩),.pointer (some ⟨Bo,0,none⟩),.pointer (some ⟨Bb,0,none⟩)] W fun e W' => (∃ v,e = .returned v) ∧
     ((∃ ys,Uses t n ys∧J ys W')∨(∃ pre,True∧Jx pre W')):=by
 have hok1:∀ s,s < n→(onS t.arcs t.arcs.length s).length≤20000∧∀ z∈onS t.arcs t.arcs.length s,0≤z∧z < (n:Int):=fun s hs => ⟨Nat.le_trans (onS_len _ _ _) (by omega),fun z hz => by
  unfold onS at hz
  obtain ⟨x,hx,rfl⟩:=List.mem_map.1 hz
  have:=hok x (List.mem_of_mem_take (List.mem_filter.1 hx).1)
  exact ⟨this.2.2.1,this.2.2.2⟩⟩
 have hok2:∀ s,s < n→(backS t.arcs t.arcs.length s).length≤20000∧∀ z∈backS t.arcs t.arcs.length s,0≤z∧z < (n:Int):=fun s hs => ⟨Nat.le_trans (backS_len _ _ _) (by omega),fun z hz => by
  unfold backS at hz
  obtain ⟨x,hx,rfl⟩:=List.mem_map.1 hz
  have:=hok x (List.mem_of_mem_take (List.mem_filter.1 hx).1)
  exact ⟨this.1,this.2.1⟩⟩
 have k1:=cell_regrown (hbt.cell 1)
 have k2:=cell_regrown (hbt.cell 2)
 have k3:=cell_regrown (hbo.cell 0)
 have k4:=cell_regrown (hbb.cell 0)
 refine callsIn_of_wp Tryz.func91 rfl trivial ?_ rfl
 simp only [Tryz.ntmps91,List.size_toArray,List.length_cons,List.length_nil,Nat.reduceAdd,Nat.reduceSub,Array.replicate_succ,Array.replicate_zero,List.push_toArray,List.append_toArray,List.nil_append,List.cons_append]
 gi_wp2
 refine wpIn_wide.2 ?_
 refine wp_region_hold_below 8 [0,1,2,4,5,6] [3,7] (by kernel_rfl) (by kernel_rfl) rfl (by kernel_rfl) ?_
 simp only [pickOps,List.getElem?_cons_zero,List.getElem?_cons_succ,List.drop_succ_cons,List.drop_zero]
 repeat (go_big_quiet_step (fail))
 refine wpQuiet_nil ?_
 clear k1 k2 k3 k4
 have HR1:=reach_any A1 n1 c1 W.heap.size L1 n t.starts _ W.drew hR1 (Nat.le_refl _) hg1 hn hok1 hs1
 have HR2:=fun W1 (hb:Below W.heap.size W W1) => reach_any A2 n2 c2 W1.heap.size L2 n t.ends _ W1 ((hR2.below hb).more hb.size) (Nat.le_refl _) ⟨Nat.lt_of_lt_of_le hg2.1 hb.size,fun s hs => by
  obtain ⟨A0,c0,x1,x2,x3,x4⟩:=(hg2.kept (w':=W1) fun k hk => hb.block k hk).2 s hs
  exact ⟨A0,c0,x1,x2,x3,x4.mono fun k hk => Nat.lt_of_lt_of_le hk hb.size⟩⟩ hn hok2 hs2
 clear hg1 hg2 hR1 hR2 hok1 hok2 hbt hbo hbb
 refine wpForce_step rfl (fun KK hKK => ?_)
 go_simp
 refine HR1.mono ?_
 rintro e W1 ⟨g1,b1,rfl,z1,hB1,hl1,hb1,hbl1⟩
 have hbl1':Below W.heap.size W W1:=(Below.refl _ W).drew.trans hbl1
 have HR2':=HR2 W1 hbl1'
 have Hb1:=Lib.hid hb1
 have Hl1:=Lib.hid hl1
 clear HR1 HR2 hb1 hl1
 refine hKK _ _ (regrown_of_below hbl1') ?_
 clear hKK KK
 refine wpForce_step rfl (fun KK hKK => ?_)
 go_simp
 refine HR2'.mono ?_
 rintro e W2 ⟨g2,b2,rfl,z2,hB2,hl2,hb2,hbl2⟩
 have hB1':=hB1.below hbl2 hB1.lt
 have hbW:=hbl1'.trans (hbl2.mono hbl1'.size)
 have Hb2:=Lib.hid hb2
 have Hl2:=Lib.hid hl2
 have z1':W.heap.size≤g1:=z1
 have z2':W.heap.size≤g2:=Nat.le_trans hbl1'.size z2
 clear HR2' hb2 hl2 z1 z2
 refine hKK _ _ (regrown_of_below hbW) ?_
 clear hKK KK
 refine wpForce_nil ?_
 go_wp2
 refine NoPanic.normal ?_
 have hJ2:=Lib.hid (abides_below hJ h0 hbW)
 obtain ⟨p,hp⟩:∃ p:Nat→Bool,p = fun s => b1.getD s false && b2.getD s false:=⟨_,rfl⟩
 have Hp:=Lib.hid hp
 have HJ:=Lib.hid hJ
 clear hp hJ h0 hB1 hbl1 hbl2 hbl1'
 gi_wp2
 gi_loopw [18] (fun i wr => ∃ (k:Nat),k≤n∧i = .int .i64 ((k:Nat):Int)∧J ((List.range k).filter p) wr∧Blk wr g1 4 (b1.map Value.bool).toArray∧Blk wr g2 4 (b2.map Value.bool).toArray) (fun i _ => n - (intOf i).toNat)
 case atStart => exact ⟨0,Nat.zero_le _,rfl,hJ2.out,hB1',hB2⟩
 case round =>
  clear hB1' hB2
  obtain ⟨k,hk,rfl,hJk,hX1,hX2⟩:=hrel
  have HJk:=Lib.hid hJk
  clear hJk
  by_cases hlt:k < n
  ·have hi1:(0:Int)≤(k:Int):=by omega
   have hi2:(k:Int) < (n:Int):=by omega
   have c1:wr.cell? ⟨g1,k,none⟩ = some (.bool (b1.getD k false)):=by rw [hX1.cell]; simp [Hl1.out,hlt]
   have c2:wr.cell? ⟨g2,k,none⟩ = some (.bool (b2.getD k false)):=by rw [hX2.cell]; simp [Hl2.out,hlt]
   have hpk:p k = (b1.getD k false && b2.getD k false):=by rw [Hp.out]
   have hfl:(List.range (k + 1)).filter p = (List.range k).filter p ++ if p k = true then [k] else []:=by
    rw [List.range_succ,List.filter_append]
    by_cases h:p k = true
    ·rw [if_pos h,List.filter_cons_of_pos h]; rfl
    ·rw [if_neg h,List.filter_cons_of_neg h]; rfl
   rw [hpk] at hfl
   have Hfl:=Lib.hid hfl
   have hpl:((List.range k).filter p).length < n:=Nat.lt_of_le_of_lt (List.length_filter_le _ _) (by rw [List.length_range]; exact hlt)
   have hHY:=Lib.hid (hY _ k wr hlt HJk.out hpl)
   clear hpk hfl hpl
   generalize b1.getD k false = x1 at *
   generalize b2.getD k false = x2 at *
   rcases x1 with _ | _
   ·gi_wp2
    refine ⟨(fun _ h => by cases h),?_⟩
    gi_wp2
    go_roundw
    case rel => exact ⟨k + 1,by omega,by go_num,by rw [Hfl.out]; simp only [Bool.false_and,Bool.false_eq_true,if_false,List.append_nil]; exact HJk.out,hX1,hX2⟩
    case measure => simp [intOf]; omega
   ·rcases x2 with _ | _
    ·gi_wp2
     refine ⟨(fun _ h => by cases h),?_⟩
     gi_wp2
     go_roundw
     case rel => exact ⟨k + 1,by omega,by go_num,by rw [Hfl.out]; simp only [Bool.and_false,Bool.false_eq_true,if_false,List.append_nil]; exact HJk.out,hX1,hX2⟩
     case measure => simp [intOf]; omega
    ·obtain ⟨fn,tmps,assign,body,hy,hR⟩:=hHY.out
     clear hHY
     gi_wp2
     refine hR.mono ?_
     rintro e W3 (⟨rfl,hJ3,hk3⟩ | ⟨rfl,hJx3⟩)
     ·have hX1':=hX1.keepF hk3 (by omega)
      have hX2':=hX2.keepF hk3 (by omega)
      have HJ3:=Lib.hid hJ3
      clear hJ3 hk3
      gi_wp2
      go_roundw
      case rel => exact ⟨k + 1,by omega,by go_num,by rw [Hfl.out]; exact HJ3.out,hX1',hX2'⟩
      case measure => simp [intOf]; omega
     ·have HJ3:=Lib.hid hJx3
      clear hJx3
      gi_wp2
      refine bodyPost_ret (results_none rfl _ _ _) rfl ?_
      exact ⟨⟨_,rfl⟩,.inr ⟨_,trivial,HJ3.out⟩⟩
  ·obtain rfl:n = k:=by omega
   gi_wp2
   go_end0
   refine ⟨⟨_,rfl⟩,.inl ⟨_,⟨p,fun s hs => ?_,rfl⟩,HJk.out⟩⟩
   rw [Hp.out,Bool.and_eq_true,Hb1.out s,Hb2.out s]
   exact Iff.rfl
end Go.Proofs.YtcondkihpmmnnaaGreatDoor
namespace Go.Proofs.YtcondkihpmmnnaaGreatDoor
open Go.ChangeShapes Go.WideShapes Go.ChangeAt Go.WideMaps Go.WideElems Go.RowKit
def laidL:List (String × DataW Unit):=[("math/bits.deBruijn32tab",Rows.laid_math_bits_deBruijn32tab),("math/bits.deBruijn64tab",Rows.laid_math_bits_deBruijn64tab),("internal/strconv.uint64pow10",Rows.laid_internal_strconv_uint64pow10)]
theorem tPow:(Tryz.prog.globals[2]?).map (·.type) = some 254:=by kernel_rfl
theorem pow_list:(Rows.laid_internal_strconv_uint64pow10:DataW Unit) = Lib.tabData .u64 Lib.pow10Tab:=by rfl
theorem pow_of_laid {W:World} (h:laidMetH Tryz.prog laidL W):Pow W W.heap.size:=by
 rw [MakeChecks.laidMetH_plain _ _ _ (by kernel_rfl)] at h
 obtain ⟨ps,⟨_,_,_,_,_,_,_,_,_,_,⟨_,_,_,_,_,_,_,_,_,_,⟨g0,t0,cs0,f0,p0,q0,hg0,ht0,hv0,hd0,_⟩,_⟩,_⟩,_,_⟩:=h
 obtain rfl:=Option.some.inj (gPow.symm.trans hg0)
 obtain rfl:=Option.some.inj (tPow.symm.trans ht0)
 have ht:Lib.TabIs Tryz.prog W "internal/strconv.uint64pow10" .u64 Lib.pow10Tab:=by
  unfold Lib.TabIs
  rw [pow_list] at hd0
  rw [hv0,← Lib.cells_of_tab Tryz.underlying254 Tryz.underlying56 (by kernel_rfl) (by kernel_rfl) hd0]
 exact ⟨ht,block_lt_of_cell (ht.cell gPow 0 (by rw [Lib.pow10Tab_length]; decide))⟩
theorem door_met (os:Os) (args:Array Value):laidMetH Tryz.prog laidL ((World.doorLaid Tryz.prog 14 os).forCall (fun _ _ => 0) ⟨#[],args,[]⟩).memory :=
 laidMetH_of_parts3 (fuel:=8) (laidMet_of_run' 8 (by kernel_rfl) (by kernel_rfl)) (by kernel_rfl) (by kernel_rfl)
set_option maxRecDepth 100000 in
theorem law_lifted_laid {H:Type} {enc:TypeId × Value→H} {os:Os} {f:FuncId} {fn:Func} {s:ChangeSpec} {tb:TypeId} (started:os.Started) (noInit:Tryz.checked.prog.inits.idxOf? f = none) (hfn:Tryz.checked.prog.funcs[f]? = some fn)
    (hv:s.vars = [])
    (hs:∀ ds:List (DataW H),ds.length = fn.params.size→s.fn H ds = { results:=[.lit (.bool true)],args:=ds })
    (hr:fn.resultTypes = #[tb]) (htb:Tryz.checked.prog.underlying tb = some .bool) (hp:(fn.params.toList.all fun t => Tryz.checked.prog.readableRec t && decide (t < Tryz.checked.prog.types.size)) = true)
    (witness:∃ (w:World) (tape:Tape) (i:Input),w.os = os∧(w.forCall tape i).Shaped Tryz.checked.prog∧i.vars = []∧Input.okWide Tryz.checked.prog (w.forCall tape i) .any w.heap.size f i ∧
     ((s.pre enc Tryz.checked.prog fn [] false (w.forCall tape i).memory i.args∧laidMetH Tryz.prog laidL (w.forCall tape i).memory)∧sizedMet enc Tryz.checked.prog fn (OpenSpec.ofChange s) false (w.forCall tape i).memory i.args)∧({}:Assume).holds Tryz.checked.prog (lone (Frame.enter Tryz.checked.prog f i.args .normal) [] (w.forCall tape i)))
    (walk:∀ (W:World) (base:Nat) (args:Array Value) (ds:List (DataW H)) (before:List MemPlace),
     (∀ (j:Nat) t v,fn.params[j]? = some t→args[j]? = some v→Value.okWide Tryz.checked.prog W .any base t v) →
     DataW.TrodAll enc Tryz.checked.prog W 0 (fun _ => true) true fn.params.toList args.toList ds before→(∀ p∈before,p.block < W.heap.size) →
     (DataW.weightsEach Tryz.checked.prog fn.params.toList ds).all (·≤reachBytes) = true→Pow W W.heap.size →
     Calls Tryz.checked.prog f args W (Gives (.bool true) W)) :
    ReturnsInHanded {} Tryz.checked os f .any (fun w args => (s.pre enc Tryz.checked.prog fn [] false w args∧laidMetH Tryz.prog laidL w)∧sizedMet enc Tryz.checked.prog fn (OpenSpec.ofChange s) false w args) (s.post enc Tryz.checked.prog fn false true false false):=by
 refine returnsInHanded_of_change_and (C:=Tryz.checked) (X:=fun w _ => laidMetH Tryz.prog laidL w) (fun _ _ _ hh h => h.of_heap hh) ownNone started noInit hfn witness ?_
 intro W base args ds gs before hval hW _ hsz hL _
 have hl:laidOutB Tryz.checked.prog = true:=laidOut
 have hlt:∀ p∈before,p.block < W.heap.size:=fun p hp => hW.lt p hp
 have hW':=hW
 rw [hv] at hW'
 obtain ⟨p,q,hA,hV,rfl,_,_⟩:=hW'
 obtain ⟨rfl,rfl⟩:=trodVars_none hV
 simp only [List.append_nil] at hlt
 have hsz':(DataW.weightsEach Tryz.checked.prog fn.params.toList ds).all (·≤reachBytes) = true:=by
  have e:s.plain.varTypes Tryz.checked.prog = []:=by
   simp [ChangeSpec.plain,DataSpec.varTypes,hv]
  rw [e] at hsz
  simpa using hsz
 have hlen:ds.length = fn.params.size:=by
  have:∀ {ts:List TypeId} {vs:List Value} {ds:List (DataW H)} {ps:List MemPlace},DataW.TrodAll enc Tryz.checked.prog W 0 (fun _ => true) true ts vs ds ps→ds.length = ts.length:=by
   intro ts
   induction ts with
   | nil => intro vs ds ps h; cases vs <;> cases ds <;> simp_all [DataW.TrodAll]
   | cons t ts ih =>
    intro vs ds ps h
    cases vs with
    | nil => simp [DataW.TrodAll] at h
    | cons v vs =>
     cases ds with
     | nil => simp [DataW.TrodAll] at h
     | cons d ds =>
      obtain ⟨_,_,_,h2,_⟩:=h
      simpa using ih h2
  simpa using this hA
 refine (walk W base args ds p hval hA hlt hsz' (pow_of_laid hL)).mono fun e W' ⟨he,hb⟩ => ⟨_,he,?_⟩
 have e1:s.fn H (ds ++ []) = { results:=[.lit (.bool true)],args:=ds }:=by rw [List.append_nil]; exact hs ds hlen
 refine post_of_below (pa:=p) (pv:=[]) hW ?_ ?_ ?_ (by simp) hb (ok_one hr rfl (okWide_bool_mk htb _))
 ·intro b sp hd
  rw [e1,hr]
  exact trodAll_mk1 (shut_bool htb _)
 ·intro sp hsp
  rw [e1]
  exact trodAll_stays hl hb hp hA hlt (fun x hx => hsp x (by simpa using hx))
 ·intro sp _
  rw [e1,hv]
  rfl
end Go.Proofs.YtcondkihpmmnnaaGreatDoor
