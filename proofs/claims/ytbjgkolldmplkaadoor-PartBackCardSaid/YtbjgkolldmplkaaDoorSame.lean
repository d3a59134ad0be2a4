/- The walks of the references Same and Ints of layer 2 at rows that are the same. -/
import Derived.Test.YtbjgkolldmplkaaDoorRSets
import Derived.Test.YtbjgkolldmplkaaDoorClasses
namespace Go.Proofs.YtbjgkolldmplkaaDoor
open Go.RowKit Go.Sort

set_option maxRecDepth 100000 in
set_option maxHeartbeats 8000000 in
theorem same_any (L : List (Nat → Bool)) (A A' : Option Addr) (n c c' B : Nat) (w : World) (HR0 : Reads w B 4 A n (setVals L)) (HR0' : Reads w B 4 A' n (setVals L)) (hB : B ≤ w.heap.size) (hm : n ≤ 100000) :
    Calls Tryd.prog 14 #[.slice A n c, .slice A' n c'] w (Gives (.bool true) w) := by
  have HR := HR0.more hB
  have HR' := HR0'.more hB
  clear HR0 HR0'
  go_enter Tryd.func14, Tryd.ntmps14
  go_wp2
  go_loopw [5] (fun i wr => ∃ k : Nat, k ≤ n ∧ i = .int .i64 k ∧ Below w.heap.size w wr) (fun i _ => n - (intOf i).toNat)
  case atStart => exact ⟨0, by omega, rfl, Below.refl _ _⟩
  case round =>
    obtain ⟨k, hk, rfl, HB⟩ := hrel
    have hsz := HB.size
    by_cases hlt : k < n
    · have hi1 : (0 : Int) ≤ (k : Int) := by omega
      have hi2 : (k : Int) < (n : Int) := by omega
      obtain ⟨g, o, rfl, hgB, c0, c1, c2, c3⟩ := setsD_cell (HR.below HB) k hlt
      obtain ⟨g', o', rfl, hgB', d0, d1, d2, d3⟩ := setsD_cell (HR'.below HB) k hlt
      generalize L.getD k sNone = q at *
      have hne := fun W => neq_eqB q q W
      rw [show eqB q q = true from (eqB_iff q q).2 fun _ _ => rfl, show (!true) = false from rfl] at hne
      have c0' := cell_regrown c0
      have c1' := cell_regrown c1
      have c2' := cell_regrown c2
      have c3' := cell_regrown c3
      have d0' := cell_regrown d0
      have d1' := cell_regrown d1
      have d2' := cell_regrown d2
      have d3' := cell_regrown d3
      clear c0 c1 c2 c3 d0 d1 d2 d3
      go_wp2
      refine wp_region_quiet_below (by kernel_rfl) (by kernel_rfl) ?_
      repeat (go_big_quiet_step (fail))
      refine wpQuiet_nil ?_
      intro w5 hw5
      have HB5 := below_of hw5
      have L5 := HB.trans (HB5.mono hsz)
      clear hw5 c0' c1' c2' c3' d0' d1' d2' d3'
      go_wp2
      go_roundw
      case rel => exact ⟨k + 1, by omega, by go_num, L5⟩
      case measure => simp [intOf]; omega
    · have e : k = n := by omega
      subst e
      go_wp2
      go_ret
      exact ⟨rfl, HB⟩

set_option maxRecDepth 100000 in
set_option maxHeartbeats 8000000 in
theorem ints_any (L : List Int) (A A' : Option Addr) (n c c' B : Nat) (w : World) (HR0 : Reads w B 1 A n (intVals L)) (HR0' : Reads w B 1 A' n (intVals L)) (hB : B ≤ w.heap.size) (hm : n ≤ 100000) :
    Calls Tryd.prog 15 #[.slice A n c, .slice A' n c'] w (Gives (.bool true) w) := by
  have HR := HR0.more hB
  have HR' := HR0'.more hB
  clear HR0 HR0'
  go_enter Tryd.func15, Tryd.ntmps15
  go_wp2
  go_loopw [5] (fun i wr => ∃ k : Nat, k ≤ n ∧ i = .int .i64 k ∧ Below w.heap.size w wr) (fun i _ => n - (intOf i).toNat)
  case atStart => exact ⟨0, by omega, rfl, Below.refl _ _⟩
  case round =>
    obtain ⟨k, hk, rfl, HB⟩ := hrel
    have hsz := HB.size
    by_cases hlt : k < n
    · have hi1 : (0 : Int) ≤ (k : Int) := by omega
      have hi2 : (k : Int) < (n : Int) := by omega
      obtain ⟨g, o, rfl, hgB, c0⟩ := int_cell (HR.below HB) k hlt
      obtain ⟨g', o', rfl, hgB', d0⟩ := int_cell (HR'.below HB) k hlt
      generalize L.getD k 0 = q at *
      have c0' := cell_regrown c0
      have d0' := cell_regrown d0
      clear c0 d0
      go_wp2
      refine wp_region_quiet_below (by kernel_rfl) (by kernel_rfl) ?_
      repeat (go_big_quiet_step (fail))
      refine wpQuiet_nil ?_
      intro w5 hw5
      have HB5 := below_of hw5
      have L5 := HB.trans (HB5.mono hsz)
      clear hw5 c0' d0'
      go_wp2
      go_roundw
      case rel => exact ⟨k + 1, by omega, by go_num, L5⟩
      case measure => simp [intOf]; omega
    · have e : k = n := by omega
      subst e
      go_wp2
      go_ret
      exact ⟨rfl, HB⟩

end Go.Proofs.YtbjgkolldmplkaaDoor
