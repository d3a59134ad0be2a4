/- Plain laws: the rows of a set. -/
import Derived.Test.YtbjgkolldmplkaaSetW
namespace Go.Proofs.Ytbjgkolldmplkaa

/-- The last one of the row that c is in. -/
def runEnd (m : Nat → Bool) : Nat → Nat → Nat
  | 0, c => c
  | n + 1, c => if c < 255 ∧ m (c + 1) = true then runEnd m n (c + 1) else c

theorem runEnd_fuel (m : Nat → Bool) : ∀ n n' c, 255 - c ≤ n → 255 - c ≤ n' → runEnd m n c = runEnd m n' c
  | 0, 0, _, _, _ => rfl
  | 0, n' + 1, c, h, _ => by
    rw [runEnd, runEnd, if_neg (by omega)]
  | n + 1, 0, c, _, h => by
    rw [runEnd, runEnd, if_neg (by omega)]
  | n + 1, n' + 1, c, h, h' => by
    rw [runEnd, runEnd]
    split
    · exact runEnd_fuel m n n' (c + 1) (by omega) (by omega)
    · rfl

def runE (m : Nat → Bool) (c : Nat) : Nat := runEnd m 256 c

theorem runE_yes (m : Nat → Bool) (c : Nat) (h : c < 255) (hm : m (c + 1) = true) : runE m c = runE m (c + 1) := by
  unfold runE
  rw [show (256 : Nat) = 255 + 1 from rfl, runEnd, if_pos ⟨h, hm⟩]
  exact runEnd_fuel m 255 (255 + 1) (c + 1) (by omega) (by omega)

theorem runE_no (m : Nat → Bool) (c : Nat) (h : ¬ (c < 255 ∧ m (c + 1) = true)) : runE m c = c := by
  unfold runE
  rw [show (256 : Nat) = 255 + 1 from rfl, runEnd, if_neg h]

theorem runE_spec (m : Nat → Bool) : ∀ d c, 255 - c ≤ d → c ≤ 255 → c ≤ runE m c ∧ runE m c ≤ 255 ∧ (∀ x, c < x → x ≤ runE m c → m x = true) ∧ (runE m c = 255 ∨ m (runE m c + 1) = false)
  | 0, c, h, hc => by
    rw [runE_no m c (by omega)]
    exact ⟨Nat.le_refl _, hc, fun x h1 h2 => by omega, .inl (by omega)⟩
  | d + 1, c, h, hc => by
    by_cases h2 : c < 255 ∧ m (c + 1) = true
    · rw [runE_yes m c h2.1 h2.2]
      obtain ⟨a, b, e, f⟩ := runE_spec m d (c + 1) (by omega) (by omega)
      refine ⟨by omega, b, fun x hx hx2 => ?_, f⟩
      by_cases hx3 : x = c + 1
      · subst hx3; exact h2.2
      · exact e x (by omega) hx2
    · rw [runE_no m c h2]
      refine ⟨Nat.le_refl _, hc, fun x h1 h3 => by omega, ?_⟩
      by_cases h3 : c = 255
      · exact .inl h3
      · refine .inr ?_
        cases hm : m (c + 1)
        · rfl
        · exact absurd ⟨by omega, hm⟩ h2

def rowsF (m : Nat → Bool) : Nat → Nat → List (Nat × Nat)
  | 0, _ => []
  | n + 1, c => if c < 256 then (if m c = true then (c, runE m c) :: rowsF m n (runE m c + 1) else rowsF m n (c + 1)) else []

theorem rowsF_fuel (m : Nat → Bool) : ∀ n n' c, 256 - c ≤ n → 256 - c ≤ n' → rowsF m n c = rowsF m n' c
  | 0, 0, _, _, _ => rfl
  | 0, n' + 1, c, h, _ => by
    rw [rowsF, rowsF, if_neg (by omega)]
  | n + 1, 0, c, _, h => by
    rw [rowsF, rowsF, if_neg (by omega)]
  | n + 1, n' + 1, c, h, h' => by
    rw [rowsF, rowsF]
    split
    · have := (runE_spec m 255 c (by omega) (by omega)).1
      split
      · rw [rowsF_fuel m n n' (runE m c + 1) (by omega) (by omega)]
      · exact rowsF_fuel m n n' (c + 1) (by omega) (by omega)
    · rfl

/-- The rows from c on. -/
def rowsFrom (m : Nat → Bool) (c : Nat) : List (Nat × Nat) := rowsF m 256 c

theorem rowsFrom_yes (m : Nat → Bool) (c : Nat) (h : c < 256) (hm : m c = true) : rowsFrom m c = (c, runE m c) :: rowsFrom m (runE m c + 1) := by
  unfold rowsFrom
  have := (runE_spec m 255 c (by omega) (by omega)).1
  rw [show (256 : Nat) = 255 + 1 from rfl, rowsF, if_pos h, if_pos hm, rowsF_fuel m 255 (255 + 1) _ (by omega) (by omega)]

theorem rowsFrom_no (m : Nat → Bool) (c : Nat) (h : c < 256) (hm : m c = false) : rowsFrom m c = rowsFrom m (c + 1) := by
  unfold rowsFrom
  rw [show (256 : Nat) = 255 + 1 from rfl, rowsF, if_pos h, if_neg (by rw [hm]; decide), rowsF_fuel m 255 (255 + 1) _ (by omega) (by omega)]

theorem rowsFrom_end (m : Nat → Bool) (c : Nat) (h : 256 ≤ c) : rowsFrom m c = [] := by
  unfold rowsFrom
  rw [show (256 : Nat) = 255 + 1 from rfl, rowsF, if_neg (by omega)]

/-- The rows of a set, rising. -/
def rowsOf (m : Nat → Bool) : List (Nat × Nat) := rowsFrom m 0

/-- Each row lies behind the one ahead, not beside it; of each row all are in the set, of the rest none. -/
theorem rowsFrom_spec (m : Nat → Bool) : ∀ d c, 256 - c ≤ d → (∀ r ∈ rowsFrom m c, c ≤ r.1 ∧ r.1 ≤ r.2 ∧ r.2 ≤ 255) ∧
    (∀ b, c ≤ b → b < 256 → (m b = true ↔ ∃ r ∈ rowsFrom m c, r.1 ≤ b ∧ b ≤ r.2)) ∧
    (rowsFrom m c).Pairwise (fun r s => r.2 + 1 < s.1)
  | 0, c, h => by
    rw [rowsFrom_end m c (by omega)]
    exact ⟨by simp, fun b h1 h2 => by omega, .nil⟩
  | d + 1, c, h => by
    by_cases hc : c < 256
    · obtain ⟨e1, e2, e3, e4⟩ := runE_spec m 255 c (by omega) (by omega)
      cases hm : m c
      · rw [rowsFrom_no m c hc hm]
        obtain ⟨f1, f2, f3⟩ := rowsFrom_spec m d (c + 1) (by omega)
        refine ⟨fun r hr => ?_, fun b h1 h2 => ?_, f3⟩
        · have := f1 r hr; omega
        · by_cases hb : b = c
          · subst hb
            rw [hm]
            constructor
            · intro h; cases h
            · rintro ⟨r, hr, h3, _⟩
              have := f1 r hr; omega
          · exact f2 b (by omega) h2
      · rw [rowsFrom_yes m c hc hm]
        obtain ⟨f1, f2, f3⟩ := rowsFrom_spec m d (runE m c + 1) (by omega)
        refine ⟨fun r hr => ?_, fun b h1 h2 => ?_, .cons (fun r hr => ?_) f3⟩
        · rcases List.mem_cons.1 hr with rfl | hr
          · exact ⟨Nat.le_refl _, e1, e2⟩
          · have := f1 r hr; omega
        · by_cases hb : b ≤ runE m c
          · refine ⟨fun _ => ⟨_, List.mem_cons_self, h1, hb⟩, fun _ => ?_⟩
            by_cases hbc : b = c
            · subst hbc; exact hm
            · exact e3 b (by omega) hb
          · rw [f2 b (by omega) h2]
            constructor
            · rintro ⟨r, hr, h3⟩
              exact ⟨r, List.mem_cons_of_mem _ hr, h3⟩
            · rintro ⟨r, hr, h3⟩
              rcases List.mem_cons.1 hr with rfl | hr
              · exact absurd h3.2 hb
              · exact ⟨r, hr, h3⟩
        · have h1 := f1 r hr
          show runE m c + 1 < r.1
          rcases Nat.lt_or_ge (runE m c + 1) r.1 with h5 | h5
          · exact h5
          · have h6 : r.1 = runE m c + 1 := by omega
            have h7 : m (runE m c + 1) = true := (f2 (runE m c + 1) (Nat.le_refl _) (by omega)).2 ⟨r, hr, by omega, by omega⟩
            rcases e4 with h8 | h8
            · omega
            · rw [h8] at h7; cases h7
    · rw [rowsFrom_end m c (by omega)]
      exact ⟨by simp, fun b h1 h2 => by omega, .nil⟩

theorem rowsFrom_length (m : Nat → Bool) : ∀ d c, 256 - c ≤ d → (rowsFrom m c).length ≤ 256 - c
  | 0, c, h => by rw [rowsFrom_end m c (by omega)]; simp
  | d + 1, c, h => by
    by_cases hc : c < 256
    · have e1 := (runE_spec m 255 c (by omega) (by omega)).1
      cases hm : m c
      · rw [rowsFrom_no m c hc hm]
        have := rowsFrom_length m d (c + 1) (by omega)
        omega
      · rw [rowsFrom_yes m c hc hm, List.length_cons]
        have := rowsFrom_length m d (runE m c + 1) (by omega)
        omega
    · rw [rowsFrom_end m c (by omega)]; simp

end Go.Proofs.Ytbjgkolldmplkaa
