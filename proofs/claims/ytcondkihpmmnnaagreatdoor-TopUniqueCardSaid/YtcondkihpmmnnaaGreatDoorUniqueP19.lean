/- Lemmas, part 19 of 39. No condition. -/
import Derived.Test.YtcondkihpmmnnaaGreatDoorUniqueP17
import Derived.Test.YtcondkihpmmnnaaGreatDoorUniqueP15
import Derived.Test.YtcondkihpmmnnaaGreatDoorUniqueP16
import Derived.Laws.IdiomArrays
import Derived.OpenShut
namespace Go.Proofs.YtcondkihpmmnnaaGreatDoor
open Go.RowKit Go.Sort
def ArcPost (c:Ch) (x:Ar) (wr:World) (vS vE vA:Value) (S E:List Tp) (A:List Ar) (ov:Bool) (e:Ending) (w':World):Prop :=
 e = .returned (.tuple #[])∧∃ v,Stays c wr vA w' v∧ChW c w' vS vE v S E (arcF x A ov).1 (arcF x A ov).2
set_option maxRecDepth 100000 in
set_option maxHeartbeats 4000000 in
theorem arc_any (c:Ch) (x:Ar) (wr:World) (vS vE vA:Value) (S E:List Tp) (A:List Ar) (ov:Bool) (HW:ChW c wr vS vE vA S E A ov) (hx:ArW x) (hS:A.length≤16384) :
    Calls Tryz.prog 57 #[.pointer (some ⟨c.G,0,none⟩),.agg (encA x).toArray] wr (ArcPost c x wr vS vE vA S E A ov):=by
 obtain ⟨kl,hkey⟩:=keyOf_arc x hx
 have HB:=(Below.refl wr.heap.size wr).alloc (Nat.le_refl _) (.cells (encA x).toArray 61)
 have H1:=HW.call HB
 have HX:=Blk.new wr 61 (encA x).toArray
 have hlk:=fun (n:Nat) os => seen_look law_arc Tryz.underlying69 zero_unit (H1.sA.below (below_regrown (wr.alloc (.cells (encA x).toArray 61)) n os) (Nat.le_refl _)) x hx hkey
 have HP:=Lib.hid (fun w' v A' ov' (he:arcF x A ov = (A',ov')) (hs:Stays c wr vA w' v) (h:ChW c w' vS vE v S E A' ov') => show ArcPost c x wr vS vE vA S E A ov (.returned (.tuple #[])) w' from ⟨rfl,v,hs,by rw [he]; exact h⟩)
 have HF:=Lib.hid (show arcF x A ov = if x∈A∨ov = true then (A,ov) else if 16384≤A.length∨1024 < x.out.size then (A,true) else (A ++ [x],false) from rfl)
 obtain ⟨fr,tt,⟨s1,s2,s3,s4⟩,xo,cp⟩:=x
 replace hkey:keyOf Tryz.prog 61 (.agg #[.int .i64 fr,.int .i64 tt,.int .u64 (s1:Int),.int .u64 (s2:Int),.int .u64 (s3:Int),.int .u64 (s4:Int),.string xo,.bool cp]) = some kl:=hkey
 replace HB:Below wr.heap.size wr (wr.alloc (.cells #[.int .i64 fr,.int .i64 tt,.int .u64 (s1:Int),.int .u64 (s2:Int),.int .u64 (s3:Int),.int .u64 (s4:Int),.string xo,.bool cp] 61)):=HB
 replace H1:ChW c (wr.alloc (.cells #[.int .i64 fr,.int .i64 tt,.int .u64 (s1:Int),.int .u64 (s2:Int),.int .u64 (s3:Int),.int .u64 (s4:Int),.string xo,.bool cp] 61)) vS vE vA S E A ov:=H1
 replace HX:Blk (wr.alloc (.cells #[.int .i64 fr,.int .i64 tt,.int .u64 (s1:Int),.int .u64 (s2:Int),.int .u64 (s3:Int),.int .u64 (s4:Int),.string xo,.bool cp] 61)) wr.heap.size 61 #[.int .i64 fr,.int .i64 tt,.int .u64 (s1:Int),.int .u64 (s2:Int),.int .u64 (s3:Int),.int .u64 (s4:Int),.string xo,.bool cp]:=HX
 have hmem:=Lib.hid (show (decide ((⟨fr,tt,⟨s1,s2,s3,s4⟩,xo,cp⟩:Ar)∈A) = true↔(⟨fr,tt,⟨s1,s2,s3,s4⟩,xo,cp⟩:Ar)∈A) from decide_eq_true_iff)
 generalize decide ((⟨fr,tt,⟨s1,s2,s3,s4⟩,xo,cp⟩:Ar)∈A) = bm at *
 replace hlk:∀ n os,(Instr.lookup 69 (.map (some c.M2)) (.agg #[.int .i64 fr,.int .i64 tt,.int .u64 (s1:Int),.int .u64 (s2:Int),.int .u64 (s3:Int),.int .u64 (s4:Int),.string xo,.bool cp]) true).run Tryz.prog (grow (redrawn (wr.alloc (.cells #[.int .i64 fr,.int .i64 tt,.int .u64 (s1:Int),.int .u64 (s2:Int),.int .u64 (s3:Int),.int .u64 (s4:Int),.string xo,.bool cp] 61)) n) os) = .ok (.tuple #[.agg #[],.bool bm]) (grow (redrawn (wr.alloc (.cells #[.int .i64 fr,.int .i64 tt,.int .u64 (s1:Int),.int .u64 (s2:Int),.int .u64 (s3:Int),.int .u64 (s4:Int),.string xo,.bool cp] 61)) n) os):=hlk
 have b10:∀ n os,(grow (redrawn (wr.alloc (.cells #[.int .i64 fr,.int .i64 tt,.int .u64 (s1:Int),.int .u64 (s2:Int),.int .u64 (s3:Int),.int .u64 (s4:Int),.string xo,.bool cp] 61)) n) os).cell? ⟨c.G,10,none⟩ = some (.map (some c.M2)):=cell_regrown (H1.box.cell 10)
 have x0:=cell_regrown (HX.cell 0)
 have x1:=cell_regrown (HX.cell 1)
 have x2:=cell_regrown (HX.cell 2)
 have x3:=cell_regrown (HX.cell 3)
 have x4:=cell_regrown (HX.cell 4)
 have x5:=cell_regrown (HX.cell 5)
 have x6:=cell_regrown (HX.cell 6)
 have x7:=cell_regrown (HX.cell 7)
 show Calls Tryz.prog 57 #[.pointer (some ⟨c.G,0,none⟩),.agg #[.int .i64 fr,.int .i64 tt,.int .u64 (s1:Int),.int .u64 (s2:Int),.int .u64 (s3:Int),.int .u64 (s4:Int),.string xo,.bool cp]] wr _
 go_enter Tryz.func57,Tryz.ntmps57
 go_wp2
 refine wp_region_hold_below 11 [0,1,2,3,4,5,6,7,8] [9,10] (by kernel_rfl) (by kernel_rfl) rfl (by kernel_rfl) ?_
 simp only [pickOps,List.getElem?_cons_zero,List.getElem?_cons_succ,List.drop_succ_cons,List.drop_zero]
 repeat (go_big_quiet_step (fail))
 refine wpQuiet_nil ?_
 clear hlk b10 x0 x1 x2 x3 x4 x5 x6 x7
 have LA:Below (wr.alloc (.cells #[.int .i64 fr,.int .i64 tt,.int .u64 (s1:Int),.int .u64 (s2:Int),.int .u64 (s3:Int),.int .u64 (s4:Int),.string xo,.bool cp] 61)).heap.size (wr.alloc (.cells #[.int .i64 fr,.int .i64 tt,.int .u64 (s1:Int),.int .u64 (s2:Int),.int .u64 (s3:Int),.int .u64 (s4:Int),.string xo,.bool cp] 61)) ((wr.alloc (.cells #[.int .i64 fr,.int .i64 tt,.int .u64 (s1:Int),.int .u64 (s2:Int),.int .u64 (s3:Int),.int .u64 (s4:Int),.string xo,.bool cp] 61)).alloc (.cells #[] 158)).drew:=((Below.refl _ _).alloc (Nat.le_refl _) _).drew
 refine wpForce_step rfl (fun KK hKK => ?_)
 go_simp
 refine hKK _ _ (regrown_of_below LA) ?_
 clear hKK KK
 refine wpForce_step rfl (fun KK hKK => ?_)
 go_simp
 refine hKK _ _ (regrown_of_below LA) ?_
 clear hKK KK
 refine wpForce_nil ?_
 go_wp2
 refine NoPanic.normal ?_
 have hgx:vA.ownBlock≠some wr.heap.size:=fun e => by have:=(own_lt HW.oA _ e).2; omega
 have ST2:Stays c wr vA _ vA:=(Stays.call HB).trans (Stays.call LA)
 have H2:=H1.call LA
 have HX2:=HX.below LA HX.lt
 have hgz:wr.heap.size < ((wr.alloc (.cells #[.int .i64 fr,.int .i64 tt,.int .u64 (s1:Int),.int .u64 (s2:Int),.int .u64 (s3:Int),.int .u64 (s4:Int),.string xo,.bool cp] 61)).alloc (.cells #[] 158)).drew.heap.size:=by simp; omega
 clear HB H1 HX LA HW
 generalize ((wr.alloc (.cells #[.int .i64 fr,.int .i64 tt,.int .u64 (s1:Int),.int .u64 (s2:Int),.int .u64 (s3:Int),.int .u64 (s4:Int),.string xo,.bool cp] 61)).alloc (.cells #[] 158)).drew = w2 at *
 generalize wr.heap.size = gx at *
 rcases bm with _ | _
 ·have hno:(⟨fr,tt,⟨s1,s2,s3,s4⟩,xo,cp⟩:Ar) ∉ A:=fun h => by have:=hmem.out.2 h; cases this
  have HNO:=Lib.hid hno
  clear hno hmem
  have k17:w2.cell? ⟨c.G,17,none⟩ = some (.bool ov):=H2.box.cell 17
  rcases ov with _ | _
  ·have k14:w2.cell? ⟨c.G,16,none⟩ = some vA:=H2.box.cell 16
   obtain ⟨AS,cS,rfl,j1,j2,j3⟩:=own_form H2.oA
   have y1:=HX2.cell 6
   have y0:=HX2.cell 0
   by_cases hful:16384≤A.length
   ·have hful2:(16384:Int)≤(A.length:Int):=by omega
    have he:arcF ⟨fr,tt,⟨s1,s2,s3,s4⟩,xo,cp⟩ A false = (A,true):=by rw [HF.out,if_neg (by simp [HNO.out]),if_pos (.inl hful)]
    have HE:=Lib.hid he
    have f17:=H2.box.frozen 17
    have H3:=H2.over
    clear he H2 HF
    go_wp2
    go_end0
    exact HP.out _ _ _ _ HE.out (ST2.trans (Stays.set H3.gG 17 _)) H3
   ·have hful2:(A.length:Int) < 16384:=by omega
    by_cases hlong:1024 < xo.size
    ·have hlong2:(1024:Int) < (xo.size:Int):=by omega
     have he:arcF ⟨fr,tt,⟨s1,s2,s3,s4⟩,xo,cp⟩ A false = (A,true):=by rw [HF.out,if_neg (by simp [HNO.out]),if_pos (.inr hlong)]
     have HE:=Lib.hid he
     have f17:=H2.box.frozen 17
     have H3:=H2.over
     clear he H2 HF
     go_wp2
     go_end0
     exact HP.out _ _ _ _ HE.out (ST2.trans (Stays.set H3.gG 17 _)) H3
    ·have hlong2:(xo.size:Int)≤1024:=by omega
     have he:arcF ⟨fr,tt,⟨s1,s2,s3,s4⟩,xo,cp⟩ A false = (A ++ [⟨fr,tt,⟨s1,s2,s3,s4⟩,xo,cp⟩],false):=by rw [HF.out,if_neg (by simp [HNO.out]),if_neg (fun h => h.elim hful hlong)]
     have HE:=Lib.hid he
     clear he HF
     have z10:=cell_regrown (show w2.cell? ⟨c.G,10,none⟩ = some (.map (some c.M2)) from H2.box.cell 10)
     have z0:=cell_regrown (HX2.cell 0)
     have z1:=cell_regrown (HX2.cell 1)
     have z2:=cell_regrown (HX2.cell 2)
     have z3:=cell_regrown (HX2.cell 3)
     have z4:=cell_regrown (HX2.cell 4)
     have z5:=cell_regrown (HX2.cell 5)
     have z6:=cell_regrown (HX2.cell 6)
     have z7:=cell_regrown (HX2.cell 7)
     go_wp2
     refine wp_region_tail_below 6 (by kernel_rfl) (by kernel_rfl) ?_
     simp only [List.take_succ_cons,List.take_zero,List.drop_succ_cons,List.drop_zero]
     repeat (go_big_quiet_step (fail))
     refine wpQuiet_nil ?_
     intro w5 hw5
     have HB5:=below_of hw5
     have H5:=H2.call HB5
     have HX5:=HX2.below HB5 HX2.lt
     obtain ⟨nD,D,hownM,hnD,hIs,hhas⟩:=id H5.sA
     have hnM:nD < maxLen:=by unfold maxLen; omega
     have HAS:=Lib.hid hhas
     have hxM:=blk_map_ne HX5 hownM
     clear hw5 z10 z0 z1 z2 z3 z4 z5 z6 z7 H2 HX2 hhas y0 y1 k14 k17
     go_wp2_with (at_mapUpdate; refine wpList_mapUpdate_own _ rfl _ _ _ 69 rfl 61 158 law_arc Tryz.underlying69 _ c.M2 nD D rfl hownM hnM _ _ kl rfl rfl hkey _ [] unitElem_mk ?_; intro w6 hown6 hg6)
     have hg6d:w5.grownBy w6.drew (some c.M2):=⟨hg6.os,hg6.tape,hg6.output,hg6.size,hg6.block⟩
     have hS6:=seen_put law_arc encA_inj hnD hIs HAS.out ⟨fr,tt,⟨s1,s2,s3,s4⟩,xo,cp⟩ hkey (show w6.drew.ownsMap Tryz.prog 61 unitElem c.M2 (nD + 1) _ from hown6)
     have hbx6:=H5.box.grown hg6d (fun e => H5.neG.2.2 (Option.some.inj e))
     have hx6:=HX5.grown hg6d hxM
     have ho6:=ChW.own1 (o:=.cells #[.int .i64 fr,.int .i64 tt,.int .u64 (s1:Int),.int .u64 (s2:Int),.int .u64 (s3:Int),.int .u64 (s4:Int),.string xo,.bool cp] 61) H5.oA (H5.sA.ne H5.oA) hg6d H5.size
     obtain ⟨Sx,hSdef⟩:∃ Sx:World→Prop,Sx = fun W => Blk W c.G 73 (c.cs vS vE (.slice AS A.length cS) false)∧Blk W gx 61 #[.int .i64 fr,.int .i64 tt,.int .u64 (s1:Int),.int .u64 (s2:Int),.int .u64 (s3:Int),.int .u64 (s4:Int),.string xo,.bool cp]:=⟨_,rfl⟩
     have hSi:=fun W h1 h2 => show Sx W by rw [hSdef]; exact ⟨h1,h2⟩
     have hSo:=fun W (h:Sx W) => show Blk W c.G 73 (c.cs vS vE (.slice AS A.length cS) false)∧Blk W gx 61 #[.int .i64 fr,.int .i64 tt,.int .u64 (s1:Int),.int .u64 (s2:Int),.int .u64 (s3:Int),.int .u64 (s4:Int),.string xo,.bool cp] by rw [hSdef] at h; exact h
     have z14:=fun p:Held Sx => show p.w.cell? ⟨c.G,16,none⟩ = some (.slice AS A.length cS) from (hSo p.w p.2).1.cell 16
     have z0:=fun p:Held Sx => (hSo p.w p.2).2.cell 0
     have z1:=fun p:Held Sx => (hSo p.w p.2).2.cell 1
     have z2:=fun p:Held Sx => (hSo p.w p.2).2.cell 2
     have z3:=fun p:Held Sx => (hSo p.w p.2).2.cell 3
     have z4:=fun p:Held Sx => (hSo p.w p.2).2.cell 4
     have z5:=fun p:Held Sx => (hSo p.w p.2).2.cell 5
     have z6:=fun p:Held Sx => (hSo p.w p.2).2.cell 6
     have z7:=fun p:Held Sx => (hSo p.w p.2).2.cell 7
     have hS0:Sx w6.drew:=hSi _ hbx6 hx6
     clear hSdef
     have:Nonempty (Held Sx):=⟨⟨_,hS0⟩⟩
     refine wp_region_hold_at Sx 9 [0,1,2,3,4,5,6] [7,8] (by kernel_rfl) (by kernel_rfl) rfl (by kernel_rfl) hS0 ?_
     simp only [pickOps,List.getElem?_cons_zero,List.getElem?_cons_succ,List.drop_succ_cons,List.drop_zero,Act.put]
     repeat (go_big_quiet_step (fail))
     refine wpQuiet_nil ?_
     clear z0 z1 z2 z3 z4 z5 z6 z7 z14
     have LA:Below w6.drew.heap.size w6.drew (w6.drew.alloc (.cells #[.int .i64 fr,.int .i64 tt,.int .u64 (s1:Int),.int .u64 (s2:Int),.int .u64 (s3:Int),.int .u64 (s4:Int),.string xo,.bool cp] 61)):=(Below.refl _ w6.drew).alloc (Nat.le_refl _) _
     have hbx7:=hbx6.below LA hbx6.lt
     have hx7:=hx6.below LA hx6.lt
     refine wpForce_step rfl (fun KK hKK => ?_)
     go_simp
     refine hKK _ _ (HeldIn.of (hSi _ hbx7 hx7)) ?_
     clear hKK KK
     have hrd:=reads_allocK w6.drew [.int .i64 fr,.int .i64 tt,.int .u64 (s1:Int),.int .u64 (s2:Int),.int .u64 (s3:Int),.int .u64 (s4:Int),.string xo,.bool cp] 61 8 1 rfl
     have hone:=encA_one ⟨fr,tt,⟨s1,s2,s3,s4⟩,xo,cp⟩
     have h63:A.length + 1≤maxLen:=by unfold maxLen; omega
     have hby:(A.length + 1) * 72≤140737488355328:=by omega
     obtain ⟨i0,hi,hy0,hy1,hy2⟩:=info_parts arc_info
     refine wpForce_step rfl (fun KK hKK => ?_)
     refine wp_append_any _ _ _ 30 rfl c.w.heap.size 61 i0 _ 8 72 Tryz.underlying30 hi hy0 hy1 hy2 rfl (by decide) _ _ _ rfl ho6.1 _ (some ⟨w6.drew.heap.size,0,none⟩) 1 1 [.int .i64 fr,.int .i64 tt,.int .u64 (s1:Int),.int .u64 (s2:Int),.int .u64 (s3:Int),.int .u64 (s4:Int),.string xo,.bool cp] rfl hrd hone h63 hby ho6.2 ?_
     intro v' w7 hown hgrow hloc
     have hbx8:=hbx7.grown hgrow (fun e => own_blk ho6.1 hbx7 (by decide) e.symm)
     have hx8:=hx7.grown hgrow (fun e => hgx e.symm)
     refine hKK _ _ (HeldIn.of (hSi _ hbx8 hx8)) ?_
     clear hKK KK
     have hP7:=H5.putA ⟨fr,tt,⟨s1,s2,s3,s4⟩,xo,cp⟩ hg6d hS6 hgrow hown hloc
     have k14:w7.cell? ⟨c.G,16,none⟩ = some (.slice AS A.length cS):=hbx8.cell 16
     have f14:=hbx8.frozen 16
     have ST7:=(((ST2.trans (Stays.call HB5)).trans (Stays.map hg6d H5.g2)).trans (Stays.call LA)).trans (Stays.app hgrow hloc)
     obtain ⟨Av2,cv2,rfl,_,_,_⟩:=own_form hown
     clear hown hgrow hloc hrd hbx6 hbx7 hx6 hx7 hx8 hbx8 hSi hSo hS0 LA ho6 hS6 H5 HX5 hown6 hownM
     refine wpForce_nil ?_
     go_wp2
     refine NoPanic.normal ?_
     go_wp2
     go_end0
     exact HP.out _ _ _ _ HE.out (ST7.trans (Stays.set hP7.gG 16 _)) hP7
  ·have he:arcF ⟨fr,tt,⟨s1,s2,s3,s4⟩,xo,cp⟩ A true = (A,true):=arcF_over _ _
   have HE:=Lib.hid he
   clear he HF
   go_wp2
   go_end0
   exact HP.out _ _ _ _ HE.out ST2 H2
 ·have hyes:(⟨fr,tt,⟨s1,s2,s3,s4⟩,xo,cp⟩:Ar)∈A:=hmem.out.1 rfl
  have he:arcF ⟨fr,tt,⟨s1,s2,s3,s4⟩,xo,cp⟩ A ov = (A,ov):=by rw [HF.out,if_pos (.inl hyes)]
  have HE:=Lib.hid he
  clear he hyes hmem HF
  go_wp2
  go_end0
  exact HP.out _ _ _ _ HE.out ST2 H2
end Go.Proofs.YtcondkihpmmnnaaGreatDoor
namespace Go.Proofs.YtcondkihpmmnnaaGreatDoor
open Go.ChangeShapes Go.WideShapes Go.ChangeAt Go.RowKit
section
variable {H:Type} {enc:TypeId × Value→H} {P:Program}
theorem wf_u64 {n:Int} (h:(Lit.int .u64 n).wf = true):0≤n∧n < 18446744073709551616:=by
 have:=bounds_u64 h
 omega
theorem open_word {e:TypeId} {W:World} {base fuel:Nat} {sp:Nat→Bool} {held:Bool} {c:Value} {y:DataW H × List MemPlace} (he:P.underlying e = some (.int .u64)) (h:DataW.trod enc P W base sp held fuel e [c] = some y) :
    ∃ n:Nat,c = .int .u64 ((n:Nat):Int)∧n < 18446744073709551616:=by
 obtain ⟨n,h1,_,hw⟩:=DataW.trod_int he h
 simp at h1
 subst h1
 obtain ⟨h0,h2⟩:=wf_u64 hw
 obtain ⟨k,rfl⟩:=Int.eq_ofNat_of_zero_le h0
 exact ⟨k,rfl,by omega⟩
end
end Go.Proofs.YtcondkihpmmnnaaGreatDoor
