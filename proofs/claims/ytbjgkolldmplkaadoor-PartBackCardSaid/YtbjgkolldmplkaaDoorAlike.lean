/- The walks of the references alike and classes of layer 2. -/
import Derived.Test.YtbjgkolldmplkaaDoorOver
namespace Go.Proofs.YtbjgkolldmplkaaDoor
open Go.RowKit Go.Sort

/-- Do the first n sets say the same of two bytes? -/
def alikeTo (L : List (Nat → Bool)) (a b : Nat) : Nat → Bool
  | 0 => true
  | n + 1 => alikeTo L a b n && (L.getD n sNone a == L.getD n sNone b)

theorem alikeTo_no {L : List (Nat → Bool)} {a b : Nat} : ∀ (n k : Nat), k < n → L.getD k sNone a ≠ L.getD k sNone b → alikeTo L a b n = false
  | 0, k, h, _ => absurd h (by omega)
  | n + 1, k, h, h1 => by
    rw [alikeTo]
    by_cases e : k = n
    · subst e; rw [beq_eq_false_iff_ne.2 h1, Bool.and_false]
    · rw [alikeTo_no n k (by omega) h1]; rfl
theorem alikeTo_yes {L : List (Nat → Bool)} {a b : Nat} (n : Nat) (h : alikeTo L a b n = true) (h1 : L.getD n sNone a = L.getD n sNone b) : alikeTo L a b (n + 1) = true := by
  rw [alikeTo, h, h1, beq_self_eq_true]; rfl

theorem alikeTo_all {L : List (Nat → Bool)} {a b : Nat} : ∀ n, alikeTo L a b n = true ↔ ∀ k, k < n → L.getD k sNone a = L.getD k sNone b
  | 0 => ⟨fun _ k h => absurd h (by omega), fun _ => rfl⟩
  | n + 1 => by
    rw [alikeTo, Bool.and_eq_true, alikeTo_all n, beq_iff_eq]
    constructor
    · rintro ⟨h1, h2⟩ k hk
      by_cases e : k = n
      · subst e; exact h2
      · exact h1 k (by omega)
    · intro h
      exact ⟨fun k hk => h k (by omega), h n (by omega)⟩

theorem alike_key (L : List (Nat → Bool)) (a b : Nat) : alikeTo L a b L.length = (keyL L a == keyL L b) := by
  rw [Bool.eq_iff_iff, alikeTo_all, beq_iff_eq]
  unfold keyL
  have hd : ∀ k (hk : k < L.length), L.getD k sNone = L[k] := fun k hk => by rw [List.getD_eq_getElem?_getD, List.getElem?_eq_getElem hk]; rfl
  constructor
  · intro h
    apply List.ext_getElem (by simp)
    intro i h1 h2
    simp only [List.length_map] at h1
    have := h i h1
    rw [hd i h1] at this
    simpa using this
  · intro h k hk
    have := congrArg (fun l => l[k]?) h
    simp [hk] at this
    rw [hd k hk]
    exact this

set_option maxRecDepth 100000 in
set_option maxHeartbeats 8000000 in
theorem alike_any (L : List (Nat → Bool)) (A : Option Addr) (n c B a b : Nat) (w : World) (HR0 : Reads w B 4 A n (setVals L)) (hB : B ≤ w.heap.size) (hm : n ≤ 100000) (ha : a < 256) (hb : b < 256) :
    Calls Tryd.prog 42 #[.slice A n c, .int .i64 (a : Int), .int .i64 (b : Int)] w (Gives (.bool (keyL L a == keyL L b)) w) := by
  have HR := HR0.more hB
  have HLN : Unit → L.length = n := fun _ => by
    have := HR.1
    rw [setVals_length] at this
    omega
  have HRES : Unit → (keyL L a == keyL L b) = alikeTo L a b n := fun _ => by rw [← alike_key, HLN ()]
  clear HR0
  generalize hres : (keyL L a == keyL L b) = res at *
  clear hres
  go_enter Tryd.func42, Tryd.ntmps42
  go_wp2
  go_loopw [7] (fun i wr => ∃ k : Nat, k ≤ n ∧ i = .int .i64 k ∧ alikeTo L a b k = true ∧ Below w.heap.size w wr) (fun i _ => n - (intOf i).toNat)
  case atStart => exact ⟨0, by omega, rfl, rfl, Below.refl _ _⟩
  case round =>
    obtain ⟨k, hk, rfl, hal, HB⟩ := hrel
    have HAL := fun _ : Unit => hal
    clear hal
    by_cases hlt : k < n
    · obtain ⟨g, o, rfl, hgB, c0, c1, c2, c3⟩ := setsD_cell (HR.below HB) k hlt
      have HNO := fun _ : Unit => alikeTo_no (L := L) (a := a) (b := b) n k hlt
      have HYE := fun _ : Unit => alikeTo_yes (L := L) (a := a) (b := b) k (HAL ())
      have hsz := HB.size
      generalize L.getD k sNone = q at *
      have H1 := fun W => rhas_any q a W ha
      have H2 := fun W => rhas_any q b W hb
      have c0' := cell_regrown c0
      have c1' := cell_regrown c1
      have c2' := cell_regrown c2
      have c3' := cell_regrown c3
      have hi1 : (0 : Int) ≤ (k : Int) := by omega
      have hi2 : (k : Int) < (n : Int) := by omega
      have HNO2 := fun (_ : Unit) (h : q a ≠ q b) => HNO () h
      have HYE2 := fun (_ : Unit) (h : q a = q b) => HYE () h
      clear HNO HYE c0 c1 c2 c3
      generalize q a = x at *
      generalize q b = y at *
      cases x <;> cases y
      all_goals
        go_wp2
        refine wp_region_quiet_below (by kernel_rfl) (by kernel_rfl) ?_
        repeat (go_big_quiet_step ((first
          | (go_at_call 37; with_reducible exact gives_quiet (H1 _))
          | (go_at_call 37; with_reducible exact gives_quiet (H2 _)))))
        refine wpQuiet_nil ?_
        intro w5 hw5
        have HB5 := below_of hw5
        have L5 := HB.trans (HB5.mono hsz)
        clear hw5 c0' c1' c2' c3'
        go_wp2
      · go_roundw
        case rel => exact ⟨k + 1, by omega, by go_num, HYE2 () trivial, L5⟩
        case measure => simp [intOf]; omega
      · go_ret
        exact ⟨by rw [HRES (), HNO2 () (by decide)]; rfl, L5⟩
      · go_ret
        exact ⟨by rw [HRES (), HNO2 () (by decide)]; rfl, L5⟩
      · go_roundw
        case rel => exact ⟨k + 1, by omega, by go_num, HYE2 () trivial, L5⟩
        case measure => simp [intOf]; omega
    · have e : k = n := by omega
      subst e
      go_wp2
      go_ret
      exact ⟨by rw [HRES (), HAL ()]; rfl, HB⟩

end Go.Proofs.YtbjgkolldmplkaaDoor
