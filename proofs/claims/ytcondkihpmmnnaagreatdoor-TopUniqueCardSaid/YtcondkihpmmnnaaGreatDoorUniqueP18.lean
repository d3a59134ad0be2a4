/- Lemmas, part 18 of 39. No condition. -/
import Derived.Test.YtcondkihpmmnnaaGreatDoorUniqueP14
import Derived.Test.YtcondkihpmmnnaaGreatDoorUniqueP16
import Derived.Test.YtcondkihpmmnnaaGreatDoorUniqueP17
import Derived.Test.YtcondkihpmmnnaaGreatDoorUniqueP15
import Derived.Test.YtcondkihpmmnnaaGreatDoorUniqueP02
import Derived.OpenShut
import Derived.Lib.SmallJoins
import Derived.Deep.Slices
import Derived.Deep.Fields
import Derived.Deep.Grids
import Derived.ChangeSame
namespace Go.Proofs.YtcondkihpmmnnaaGreatDoor
open Go.RowKit Go.Sort
end Go.Proofs.YtcondkihpmmnnaaGreatDoor
namespace Go.Proofs.YtcondkihpmmnnaaGreatDoor
open Go.RowKit Go.Sort
def TipPostE (c:Ch) (x:Tp) (wr:World) (vS vE vA:Value) (S E:List Tp) (A:List Ar) (ov:Bool) (e:Ending) (w':World):Prop :=
 e = .returned (.tuple #[])∧∃ v,Stays c wr vE w' v∧ChW c w' vS v vA S (tipF x E ov).1 A (tipF x E ov).2
set_option maxRecDepth 100000 in
set_option maxHeartbeats 4000000 in
theorem tipE_any (c:Ch) (x:Tp) (wr:World) (vS vE vA:Value) (S E:List Tp) (A:List Ar) (ov:Bool) (HW:ChW c wr vS vE vA S E A ov) (hx:TpW x) (hS:E.length≤1024) :
    Calls Tryz.prog 55 #[.pointer (some ⟨c.G,0,none⟩),.int .i64 1,.pointer (some ⟨c.G,15,none⟩),.agg (encT x).toArray] wr (TipPostE c x wr vS vE vA S E A ov):=by
 obtain ⟨kl,hkey⟩:=keyOf_tip x hx
 have HB:=(Below.refl wr.heap.size wr).alloc (Nat.le_refl _) (.cells (encT x).toArray 54)
 have H1:=HW.call HB
 have HX:=Blk.new wr 54 (encT x).toArray
 have hlk:=fun (n:Nat) os => seen_look law_tip Tryz.underlying70 zero_unit (H1.sE.below (below_regrown (wr.alloc (.cells (encT x).toArray 54)) n os) (Nat.le_refl _)) x hx hkey
 have HP:=Lib.hid (fun w' v E' ov' (he:tipF x E ov = (E',ov')) (hs:Stays c wr vE w' v) (h:ChW c w' vS v vA S E' A ov') => show TipPostE c x wr vS vE vA S E A ov (.returned (.tuple #[])) w' from ⟨rfl,v,hs,by rw [he]; exact h⟩)
 have HF:=Lib.hid (show tipF x E ov = if x∈E∨ov = true then (E,ov) else if 1024≤E.length∨1024 < x.out.size then (E,true) else (E ++ [x],false) from rfl)
 obtain ⟨xs,xo⟩:=x
 replace hkey:keyOf Tryz.prog 54 (.agg #[.int .i64 xs,.string xo]) = some kl:=hkey
 replace HB:Below wr.heap.size wr (wr.alloc (.cells #[.int .i64 xs,.string xo] 54)):=HB
 replace H1:ChW c (wr.alloc (.cells #[.int .i64 xs,.string xo] 54)) vS vE vA S E A ov:=H1
 replace HX:Blk (wr.alloc (.cells #[.int .i64 xs,.string xo] 54)) wr.heap.size 54 #[.int .i64 xs,.string xo]:=HX
 have hmem:=Lib.hid (show (decide ((⟨xs,xo⟩:Tp)∈E) = true↔(⟨xs,xo⟩:Tp)∈E) from decide_eq_true_iff)
 generalize decide ((⟨xs,xo⟩:Tp)∈E) = bm at *
 replace hlk:∀ n os,(Instr.lookup 70 (.map (some c.M1)) (.agg #[.int .i64 xs,.string xo]) true).run Tryz.prog (grow (redrawn (wr.alloc (.cells #[.int .i64 xs,.string xo] 54)) n) os) = .ok (.tuple #[.agg #[],.bool bm]) (grow (redrawn (wr.alloc (.cells #[.int .i64 xs,.string xo] 54)) n) os):=hlk
 have b12:∀ n os,(grow (redrawn (wr.alloc (.cells #[.int .i64 xs,.string xo] 54)) n) os).cell? ⟨c.G,12,none⟩ = some (.map (some c.M1)):=cell_regrown (H1.box.cell 12)
 have x0:=cell_regrown (HX.cell 0)
 have x1:=cell_regrown (HX.cell 1)
 show Calls Tryz.prog 55 #[.pointer (some ⟨c.G,0,none⟩),.int .i64 1,.pointer (some ⟨c.G,15,none⟩),.agg #[.int .i64 xs,.string xo]] wr _
 go_enter Tryz.func55,Tryz.ntmps55
 go_wp2
 refine wp_region_hold_below 13 [0,1,2,3,4,5,6,7,8,9,10] [11,12] (by kernel_rfl) (by kernel_rfl) rfl (by kernel_rfl) ?_
 simp only [pickOps,List.getElem?_cons_zero,List.getElem?_cons_succ,List.drop_succ_cons,List.drop_zero]
 repeat (go_big_quiet_step (fail))
 refine wpQuiet_nil ?_
 clear hlk b12 x0 x1
 have LA:Below (wr.alloc (.cells #[.int .i64 xs,.string xo] 54)).heap.size (wr.alloc (.cells #[.int .i64 xs,.string xo] 54)) ((wr.alloc (.cells #[.int .i64 xs,.string xo] 54)).alloc (.cells #[] 158)).drew:=((Below.refl _ _).alloc (Nat.le_refl _) _).drew
 refine wpForce_step rfl (fun KK hKK => ?_)
 go_simp
 refine hKK _ _ (regrown_of_below LA) ?_
 clear hKK KK
 refine wpForce_step rfl (fun KK hKK => ?_)
 go_simp
 refine hKK _ _ (regrown_of_below LA) ?_
 clear hKK KK
 refine wpForce_nil ?_
 go_wp2
 refine NoPanic.normal ?_
 have hgx:vE.ownBlock≠some wr.heap.size:=fun e => by have:=(own_lt HW.oE _ e).2; omega
 have ST2:Stays c wr vE _ vE:=(Stays.call HB).trans (Stays.call LA)
 have H2:=H1.call LA
 have HX2:=HX.below LA HX.lt
 have hgz:wr.heap.size < ((wr.alloc (.cells #[.int .i64 xs,.string xo] 54)).alloc (.cells #[] 158)).drew.heap.size:=by simp; omega
 clear HB H1 HX LA HW
 generalize ((wr.alloc (.cells #[.int .i64 xs,.string xo] 54)).alloc (.cells #[] 158)).drew = w2 at *
 generalize wr.heap.size = gx at *
 rcases bm with _ | _
 ·have hno:(⟨xs,xo⟩:Tp) ∉ E:=fun h => by have:=hmem.out.2 h; cases this
  have HNO:=Lib.hid hno
  clear hno hmem
  have k17:w2.cell? ⟨c.G,17,none⟩ = some (.bool ov):=H2.box.cell 17
  rcases ov with _ | _
  ·have k14:w2.cell? ⟨c.G,15,none⟩ = some vE:=H2.box.cell 15
   obtain ⟨AS,cS,rfl,s1,s2,s3⟩:=own_form H2.oE
   have y1:=HX2.cell 1
   have y0:=HX2.cell 0
   by_cases hful:1024≤E.length
   ·have hful2:(1024:Int)≤(E.length:Int):=by omega
    have he:tipF ⟨xs,xo⟩ E false = (E,true):=by rw [HF.out,if_neg (by simp [HNO.out]),if_pos (.inl hful)]
    have HE:=Lib.hid he
    have f17:=H2.box.frozen 17
    have H3:=H2.over
    clear he H2 HF
    go_wp2
    go_end0
    exact HP.out _ _ _ _ HE.out (ST2.trans (Stays.set H3.gG 17 _)) H3
   ·have hful2:(E.length:Int) < 1024:=by omega
    by_cases hlong:1024 < xo.size
    ·have hlong2:(1024:Int) < (xo.size:Int):=by omega
     have he:tipF ⟨xs,xo⟩ E false = (E,true):=by rw [HF.out,if_neg (by simp [HNO.out]),if_pos (.inr hlong)]
     have HE:=Lib.hid he
     have f17:=H2.box.frozen 17
     have H3:=H2.over
     clear he H2 HF
     go_wp2
     go_end0
     exact HP.out _ _ _ _ HE.out (ST2.trans (Stays.set H3.gG 17 _)) H3
    ·have hlong2:(xo.size:Int)≤1024:=by omega
     have he:tipF ⟨xs,xo⟩ E false = (E ++ [⟨xs,xo⟩],false):=by rw [HF.out,if_neg (by simp [HNO.out]),if_neg (fun h => h.elim hful hlong)]
     have HE:=Lib.hid he
     clear he HF
     have z12:=cell_regrown (show w2.cell? ⟨c.G,12,none⟩ = some (.map (some c.M1)) from H2.box.cell 12)
     have z0:=cell_regrown (HX2.cell 0)
     have z1:=cell_regrown (HX2.cell 1)
     go_wp2
     refine wp_region_tail_below 8 (by kernel_rfl) (by kernel_rfl) ?_
     simp only [List.take_succ_cons,List.take_zero,List.drop_succ_cons,List.drop_zero]
     repeat (go_big_quiet_step (fail))
     refine wpQuiet_nil ?_
     intro w5 hw5
     have HB5:=below_of hw5
     have H5:=H2.call HB5
     have HX5:=HX2.below HB5 HX2.lt
     obtain ⟨nD,D,hownM,hnD,hIs,hhas⟩:=id H5.sE
     have hnM:nD < maxLen:=by unfold maxLen; omega
     have HAS:=Lib.hid hhas
     have hxM:=blk_map_ne HX5 hownM
     clear hw5 z12 z0 z1 H2 HX2 hhas y0 y1 k14 k17
     go_wp2_with (at_mapUpdate; refine wpList_mapUpdate_own _ rfl _ _ _ 70 rfl 54 158 law_tip Tryz.underlying70 _ c.M1 nD D rfl hownM hnM _ _ kl rfl rfl hkey _ [] unitElem_mk ?_; intro w6 hown6 hg6)
     have hg6d:w5.grownBy w6.drew (some c.M1):=⟨hg6.os,hg6.tape,hg6.output,hg6.size,hg6.block⟩
     have hS6:=seen_put law_tip encT_inj hnD hIs HAS.out ⟨xs,xo⟩ hkey (show w6.drew.ownsMap Tryz.prog 54 unitElem c.M1 (nD + 1) _ from hown6)
     have hbx6:=H5.box.grown hg6d (fun e => H5.neG.2.1 (Option.some.inj e))
     have hx6:=HX5.grown hg6d hxM
     have ho6:=ChW.own1 (o:=.cells #[.int .i64 xs,.string xo] 54) H5.oE (H5.sE.ne H5.oE) hg6d H5.size
     obtain ⟨Sx,hSdef⟩:∃ Sx:World→Prop,Sx = fun W => Blk W c.G 73 (c.cs vS (.slice AS E.length cS) vA false)∧Blk W gx 54 #[.int .i64 xs,.string xo]:=⟨_,rfl⟩
     have hSi:=fun W h1 h2 => show Sx W by rw [hSdef]; exact ⟨h1,h2⟩
     have hSo:=fun W (h:Sx W) => show Blk W c.G 73 (c.cs vS (.slice AS E.length cS) vA false)∧Blk W gx 54 #[.int .i64 xs,.string xo] by rw [hSdef] at h; exact h
     have z14:=fun p:Held Sx => show p.w.cell? ⟨c.G,15,none⟩ = some (.slice AS E.length cS) from (hSo p.w p.2).1.cell 15
     have z0:=fun p:Held Sx => (hSo p.w p.2).2.cell 0
     have z1:=fun p:Held Sx => (hSo p.w p.2).2.cell 1
     have hS0:Sx w6.drew:=hSi _ hbx6 hx6
     clear hSdef
     have:Nonempty (Held Sx):=⟨⟨_,hS0⟩⟩
     refine wp_region_hold_at Sx 7 [0,1,2,3,4] [5,6] (by kernel_rfl) (by kernel_rfl) rfl (by kernel_rfl) hS0 ?_
     simp only [pickOps,List.getElem?_cons_zero,List.getElem?_cons_succ,List.drop_succ_cons,List.drop_zero,Act.put]
     repeat (go_big_quiet_step (fail))
     refine wpQuiet_nil ?_
     clear z0 z1 z14
     have LA:Below w6.drew.heap.size w6.drew (w6.drew.alloc (.cells #[.int .i64 xs,.string xo] 54)):=(Below.refl _ w6.drew).alloc (Nat.le_refl _) _
     have hbx7:=hbx6.below LA hbx6.lt
     have hx7:=hx6.below LA hx6.lt
     refine wpForce_step rfl (fun KK hKK => ?_)
     go_simp
     refine hKK _ _ (HeldIn.of (hSi _ hbx7 hx7)) ?_
     clear hKK KK
     have hrd:=reads_allocK w6.drew [.int .i64 xs,.string xo] 54 2 1 rfl
     have hone:=encT_one ⟨xs,xo⟩
     have h63:E.length + 1≤maxLen:=by unfold maxLen; omega
     have hby:(E.length + 1) * 24≤140737488355328:=by omega
     obtain ⟨i0,hi,hy0,hy1,hy2⟩:=info_parts tip_info
     refine wpForce_step rfl (fun KK hKK => ?_)
     refine wp_append_any _ _ _ 29 rfl c.w.heap.size 54 i0 _ 2 24 Tryz.underlying29 hi hy0 hy1 hy2 rfl (by decide) _ _ _ rfl ho6.1 _ (some ⟨w6.drew.heap.size,0,none⟩) 1 1 [.int .i64 xs,.string xo] rfl hrd hone h63 hby ho6.2 ?_
     intro v' w7 hown hgrow hloc
     have hbx8:=hbx7.grown hgrow (fun e => own_blk ho6.1 hbx7 (by decide) e.symm)
     have hx8:=hx7.grown hgrow (fun e => hgx e.symm)
     refine hKK _ _ (HeldIn.of (hSi _ hbx8 hx8)) ?_
     clear hKK KK
     have hP7:=H5.putE ⟨xs,xo⟩ hg6d hS6 hgrow hown hloc
     have k14:w7.cell? ⟨c.G,15,none⟩ = some (.slice AS E.length cS):=hbx8.cell 15
     have f14:=hbx8.frozen 15
     have ST7:=(((ST2.trans (Stays.call HB5)).trans (Stays.map hg6d H5.g1)).trans (Stays.call LA)).trans (Stays.app hgrow hloc)
     obtain ⟨Av2,cv2,rfl,_,_,_⟩:=own_form hown
     clear hown hgrow hloc hrd hbx6 hbx7 hx6 hx7 hx8 hbx8 hSi hSo hS0 LA ho6 hS6 H5 HX5 hown6 hownM
     refine wpForce_nil ?_
     go_wp2
     refine NoPanic.normal ?_
     go_wp2
     go_end0
     exact HP.out _ _ _ _ HE.out (ST7.trans (Stays.set hP7.gG 15 _)) hP7
  ·have he:tipF ⟨xs,xo⟩ E true = (E,true):=tipF_over _ _
   have HE:=Lib.hid he
   clear he HF
   go_wp2
   go_end0
   exact HP.out _ _ _ _ HE.out ST2 H2
 ·have hyes:(⟨xs,xo⟩:Tp)∈E:=hmem.out.1 rfl
  have he:tipF ⟨xs,xo⟩ E ov = (E,ov):=by rw [HF.out,if_pos (.inl hyes)]
  have HE:=Lib.hid he
  clear he hyes hmem HF
  go_wp2
  go_end0
  exact HP.out _ _ _ _ HE.out ST2 H2
end Go.Proofs.YtcondkihpmmnnaaGreatDoor
namespace Go.Proofs.YtcondkihpmmnnaaGreatDoor
open Go.ChangeShapes Go.WideShapes Go.ChangeAt Go.RowKit Go.Joins Go.Deep
section
variable {H:Type} {enc:TypeId × Value→H} {P:Program} {W:World}
end
section
variable {H:Type} {enc:TypeId × Value→H} {W:World}
set_option maxRecDepth 100000 in
end
end Go.Proofs.YtcondkihpmmnnaaGreatDoor
