/- Plain laws of layer 6: how long tokens are. -/
import Derived.Test.YtbjgkolldmplkaaLexQ
namespace Go.Proofs.Ytbjgkolldmplkaa
open Go.RowKit

theorem quo_len : ∀ (f : Nat) (l acc : List UInt8) (n : Nat), (quoA f l acc n).1 = 0 → (quoA f l acc n).2.2 ≤ n + l.length
  | 0, l, acc, n, h => by simp [quoA] at h
  | f + 1, [], acc, n, h => by simp [quoA] at h
  | f + 1, c :: r, acc, n, h => by
    by_cases hq : c.toNat = 34
    · rw [quo_q hq, List.length_cons]; simp only; omega
    · by_cases ho : (oneL (c :: r)).1 = 0
      · rw [quo_go hq ho] at h ⊢
        have := quo_len f _ _ _ h
        have h2 := one_len _ ho
        rw [List.length_drop] at this
        omega
      · rw [quo_no hq ho] at h
        exact absurd h ho

theorem set_len : ∀ (f : Nat) (l : List UInt8) (of : Nat → Bool) (n : Nat), (setA f l of n).1 = 0 → (setA f l of n).2.2 ≤ n + l.length
  | 0, l, of, n, h => by simp [setA] at h
  | f + 1, [], of, n, h => by simp [setA] at h
  | f + 1, c :: r, of, n, h => by
    by_cases hq : c.toNat = 93
    · rw [set_q hq, List.length_cons]; simp only; omega
    · by_cases ho : (oneL (c :: r)).1 = 0
      · obtain ⟨b, m, hbm⟩ : ∃ b m, oneL (c :: r) = (0, b, m) := ⟨(oneL (c :: r)).2.1, (oneL (c :: r)).2.2, by rw [← ho]⟩
        have h2 := one_len _ ho
        rw [hbm] at h2
        simp only at h2
        cases hd : (c :: r).drop m with
        | nil =>
          rw [set_one hq hbm (by rw [hd]; intro d hd; cases hd)] at h ⊢
          have := set_len f _ _ _ h
          rw [List.length_drop] at this
          omega
        | cons d r' =>
          have hl : r'.length + 1 = (c :: r).length - m := by rw [← List.length_drop, hd]; rfl
          by_cases h45 : d.toNat = 45
          · by_cases ho2 : (oneL r').1 = 0
            · obtain ⟨b2, m2, hbm2⟩ : ∃ b2 m2, oneL r' = (0, b2, m2) := ⟨(oneL r').2.1, (oneL r').2.2, by rw [← ho2]⟩
              have h3 := one_len _ ho2
              rw [hbm2] at h3
              simp only at h3
              by_cases hbb : b2.toNat < b.toNat
              · rw [set_less hq hbm hd h45 hbm2 hbb] at h; simp at h
              · rw [set_two hq hbm hd h45 hbm2 hbb] at h ⊢
                have := set_len f _ _ _ h
                rw [List.length_drop] at this
                omega
            · rw [set_bad hq hbm hd h45 ho2] at h
              exact absurd h ho2
          · rw [set_one hq hbm (by rw [hd]; intro x hx; obtain rfl : d = x := (by simpa using hx); exact h45)] at h ⊢
            have := set_len f _ _ _ h
            rw [List.length_drop] at this
            omega
      · rw [set_no hq ho] at h
        exact absurd h ho

theorem text_len (l : List UInt8) (h : (textL l).1 = 0) : (textL l).2.2 ≤ l.length ∧ (textL l).2.1.kind = 2 := by
  unfold textL at h ⊢
  by_cases h1 : (quoL l).1 = 0
  · rw [if_pos h1] at h ⊢
    have := quo_len _ l [] 0 h1
    by_cases h2 : 256 < (quoL l).2.1.length
    · rw [if_pos h2] at h; simp at h
    · rw [if_neg h2]
      refine ⟨?_, rfl⟩
      show (quoL l).2.2 ≤ l.length
      unfold quoL
      omega
  · rw [if_neg h1] at h
    exact absurd h h1

theorem setT_len (l : List UInt8) (h : (setTL l).1 = 0) : (setTL l).2.2 ≤ l.length ∧ (setTL l).2.1.kind = 3 := by
  have hE : ∀ (r : Int × (Nat → Bool) × Nat) (b : Bool), (setE r b).1 = 0 → r.1 = 0 ∧ (setE r b).2.2 = r.2.2 ∧ (setE r b).2.1.kind = 3 := fun r b h => by
    unfold setE at h ⊢
    by_cases h1 : r.1 = 0
    · rw [if_pos h1]; exact ⟨h1, rfl, rfl⟩
    · rw [if_neg h1] at h; exact absurd h h1
  unfold setTL at h ⊢
  cases hh : hatB l
  · rw [hh] at h
    simp only [Bool.false_eq_true, if_false] at h ⊢
    obtain ⟨h1, h2, h3⟩ := hE _ _ h
    rw [h2]
    have := set_len _ l sNone 0 h1
    exact ⟨by unfold setLA; omega, h3⟩
  · rw [hh] at h
    simp only [if_true] at h ⊢
    obtain ⟨h1, h2, h3⟩ := hE _ _ h
    rw [h2]
    have := set_len _ (l.drop 1) sNone 1 h1
    have hl : 1 ≤ l.length := by
      cases l with
      | nil => cases hh
      | cons c r => simp
    rw [List.length_drop] at this
    exact ⟨by unfold setLA; rw [List.length_drop]; omega, h3⟩

theorem ar_len (l : List UInt8) (h : arB l = true) : 2 ≤ l.length := by
  match l with
  | [] => cases h
  | [_] => cases h
  | _ :: _ :: _ => simp

theorem tok_len (l : List UInt8) (h : (tokL l).1 = 0) : 1 ≤ (tokL l).2.2 ∧ (tokL l).2.2 ≤ l.length ∧ (tokL l).2.1.kind ≠ 0 := by
  match l with
  | [] => simp [tokL] at h
  | c :: r =>
    unfold tokL at h ⊢
    simp only at h ⊢
    cases hl : letB c
    · rw [hl] at h
      simp only [Bool.false_eq_true, if_false] at h ⊢
      cases hd : digB c
      · rw [hd] at h
        simp only [Bool.false_eq_true, if_false] at h ⊢
        by_cases hq : c.toNat = 34
        · rw [if_pos hq] at h ⊢
          obtain ⟨h1, h2⟩ := text_len r h
          simp only [List.length_cons]
          exact ⟨by omega, by omega, by rw [h2]; decide⟩
        · rw [if_neg hq] at h ⊢
          by_cases hb : c.toNat = 91
          · rw [if_pos hb] at h ⊢
            obtain ⟨h1, h2⟩ := setT_len r h
            simp only [List.length_cons]
            exact ⟨by omega, by omega, by rw [h2]; decide⟩
          · rw [if_neg hb] at h ⊢
            unfold signL at h ⊢
            simp only at h ⊢
            cases ha : arB (c :: r)
            · rw [ha] at h
              simp only [Bool.false_eq_true, if_false] at h ⊢
              cases hs : sgB c
              · rw [hs] at h; simp at h
              · simp
            · have := ar_len _ ha
              simp only [if_true]
              exact ⟨by decide, this, by decide⟩
      · rw [hd] at h
        simp only [if_true] at h ⊢
        unfold numL at h ⊢
        by_cases h4 : 4 < tw digB (c :: r)
        · rw [if_pos h4] at h; simp at h
        · rw [if_neg h4]
          have := tw_le digB (c :: r)
          simp only
          exact ⟨by rw [tw_yes r hd]; omega, this, by decide⟩
    · rw [hl] at h
      simp only [if_true] at h ⊢
      unfold nameL at h ⊢
      have hn : nmB c = true := by unfold nmB; rw [hl]; rfl
      by_cases h4 : 31 < tw nmB (c :: r)
      · rw [if_pos h4] at h; simp at h
      · rw [if_neg h4]
        have := tw_le nmB (c :: r)
        simp only
        exact ⟨by rw [tw_yes r hn]; omega, this, by decide⟩

/-- What Next says: the end, a token, or an error. -/
theorem next_cases (l : List UInt8) :
    (whL false l = l.length ∧ nextL l = (0, tk0, l.length, l.length)) ∨
    (whL false l < l.length ∧ (tokL (l.drop (whL false l))).1 = 0 ∧ nextL l = (0, (tokL (l.drop (whL false l))).2.1, whL false l, whL false l + (tokL (l.drop (whL false l))).2.2) ∧
      (nextL l).2.1.kind ≠ 0 ∧ whL false l < (nextL l).2.2.2 ∧ (nextL l).2.2.2 ≤ l.length) ∨
    (whL false l < l.length ∧ (tokL (l.drop (whL false l))).1 ≠ 0 ∧ nextL l = ((tokL (l.drop (whL false l))).1, tk0, 0, whL false l)) := by
  have hw := whL_le false l
  by_cases h : whL false l = l.length
  · exact .inl ⟨h, if_pos h⟩
  · have hlt : whL false l < l.length := by omega
    by_cases h2 : (tokL (l.drop (whL false l))).1 = 0
    · have e : nextL l = (0, (tokL (l.drop (whL false l))).2.1, whL false l, whL false l + (tokL (l.drop (whL false l))).2.2) := (if_neg h).trans (if_pos h2)
      obtain ⟨t1, t2, t3⟩ := tok_len _ h2
      rw [List.length_drop] at t2
      refine .inr (.inl ⟨hlt, h2, e, ?_, ?_, ?_⟩)
      · rw [e]; exact t3
      · rw [e]; simp only; omega
      · rw [e]; simp only; omega
    · exact .inr (.inr ⟨hlt, h2, (if_neg h).trans (if_neg h2)⟩)

/-- All tokens from a place on. -/
def allA : Nat → List UInt8 → Nat → List (Tk × Nat) → Int × List (Tk × Nat) × Nat
  | 0, l, k, acc => (0, acc, k + l.length)
  | f + 1, l, k, acc => if (nextL l).1 = 0 then (if (nextL l).2.1.kind = 0 then (0, acc, k + l.length) else allA f (l.drop (nextL l).2.2.2) (k + (nextL l).2.2.2) (acc ++ [((nextL l).2.1, k + (nextL l).2.2.1)]))
    else ((nextL l).1, [], k + (nextL l).2.2.2)

def allL (l : List UInt8) : Int × List (Tk × Nat) × Nat := allA (l.length + 1) l 0 []

end Go.Proofs.Ytbjgkolldmplkaa
