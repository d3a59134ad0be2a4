/- The walks of the references Parts and Class of layer 2. -/
import Derived.Test.YtbjgkolldmplkaaDoorPartL
namespace Go.Proofs.YtbjgkolldmplkaaDoor
open Go.RowKit Go.Sort

theorem rparts_long (A : Option Addr) (n c : Nat) (w : World) (hn : (1024 : Int) < n) :
    Calls Tryd.prog 10 #[.slice A n c] w (GSets [] 2 w) := by
  go_enter Tryd.func10, Tryd.ntmps10
  go_wp2
  go_ret2
  exact ⟨none, 0, rfl, Reads.none_, Nat.le_refl _, Nat.zero_le _, Below.refl _ _⟩

theorem gsets_then {R : List (Nat → Bool)} {er : Int} {w w1 : World} (hb : Below w.heap.size w w1) {e : Ending} {W' : World} (h : GSets R er w1 e W') : GSets R er w e W' := by
  obtain ⟨A, c, h1, h2, h3, h4, h5⟩ := h
  exact ⟨A, c, h1, h2, h3, h4, hb.trans (h5.mono hb.size)⟩

set_option maxRecDepth 100000 in
theorem rparts_any (L : List (Nat → Bool)) (A : Option Addr) (n c B : Nat) (w : World) (HR0 : Reads w B 4 A n (setVals L)) (hB : B ≤ w.heap.size) (hn : n ≤ 1024) :
    Calls Tryd.prog 10 #[.slice A n c] w (GSets (partN (cl (keyL L)) 256) 0 w) := by
  have hle : ¬ (1024 : Int) < (n : Int) := by omega
  have HC := classes_any L A n c B w HR0 hB (by omega)
  have HS : ∀ (W : World) (A' : Option Addr) (c' : Nat), Reads W W.heap.size 1 A' 256 (intVals (clsL (keyL L))) → Calls Tryd.prog 29 #[.slice A' 256 c'] W (GSets (partN (cl (keyL L)) 256) 0 W) := fun W A' c' h => by
    obtain ⟨e1, e2⟩ := setsR_clsG (cl_rgs (keyL L) 256)
    have := rsets_any (clsL (keyL L)) A' 256 c' _ W h (Nat.le_refl _)
    rw [clsL_clsG, e1, e2] at this
    exact this
  clear HR0
  generalize clsL (keyL L) = C at *
  generalize partN (cl (keyL L)) 256 = P at *
  go_enter Tryd.func10, Tryd.ntmps10
  go_wp2_with (first
    | (go_at_call 34; refine HC.mono ?_; rintro e w1 ⟨A1, c1, rfl, HR1, hc1, hm1, HB1⟩)
    | (go_at_call 29; refine (HS _ A1 c1 HR1).mono ?_; rintro e w2 ⟨A2, c2, rfl, HR2, hc2, hm2, HB2⟩))
  go_ret2
  exact ⟨A2, c2, rfl, HR2, hc2, hm2, HB1.trans (HB2.mono HB1.size)⟩

set_option maxRecDepth 100000 in
theorem rclass_any (L : List (Nat → Bool)) (A : Option Addr) (n c B : Nat) (w : World) (HR0 : Reads w B 4 A n (setVals L)) (hB : B ≤ w.heap.size) (hm : n ≤ 100000) :
    Calls Tryd.prog 12 #[.slice A n c] w (GInts (classR L) (classE L) w) := by
  have HRT := right_any L A n c B w HR0 hB hm
  have HC := fun W (hW : Below w.heap.size w W) => classes_any L A n c _ W ((HR0.more hB).below hW) hW.size hm
  clear HR0
  cases hr : rightL L
  · obtain ⟨e1, e2⟩ := class_no (L := L) (by rw [← right_class]; exact hr)
    rw [hr] at HRT
    rw [e1, e2]
    clear HC e1 e2 hr
    go_enter Tryd.func12, Tryd.ntmps12
    go_wp2_with (go_at_call 36; refine HRT.mono ?_; rintro e w1 ⟨rfl, HB1⟩)
    go_ret2
    exact gints_none HB1
  · obtain ⟨e1, e2⟩ := classR_right hr
    rw [hr] at HRT
    rw [e1, e2]
    have hl : (clsL (keyL L)).length = 256 := clsG_length _
    have HL := fun _ : Unit => hl
    clear e1 e2 hr hl
    generalize clsL (keyL L) = C at *
    go_enter Tryd.func12, Tryd.ntmps12
    go_wp2_with (first
      | (go_at_call 36; refine HRT.mono ?_; rintro e w1 ⟨rfl, HB1⟩)
      | (go_at_call 34; refine (HC _ HB1).mono ?_; rintro e w2 ⟨A2, c2, rfl, HR2, hc2, hm2, HB2⟩))
    go_ret2
    refine ⟨A2, c2, ?_⟩
    rw [HL ()]
    exact ⟨rfl, HR2, hc2, hm2, HB1.trans (HB2.mono HB1.size)⟩

end Go.Proofs.YtbjgkolldmplkaaDoor
