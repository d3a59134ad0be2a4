/- SpanThrough: the walk of the law. -/
import Derived.Test.YtgaboipigdkefaaSpan5
namespace Go.Proofs.Ytgaboipigdkefaa.SpanThrough
open Go.RowKit Go.Sort

/-- Each at its own place. -/
def ownL : Nat → List (Int × Int)
  | 0 => []
  | k + 1 => ownL k ++ [((k : Int), (k : Int) + 1)]

theorem ownL_length (k : Nat) : (ownL k).length = k := by
  induction k with
  | zero => rfl
  | succ k ih => simp [ownL, ih]

theorem ownL_get (k j : Nat) (h : j < k) : (ownL k)[j]? = some ((j : Int), (j : Int) + 1) := by
  induction k with
  | zero => omega
  | succ k ih =>
    rw [ownL]
    by_cases hj : j < k
    · rw [List.getElem?_append_left (by rw [ownL_length]; exact hj)]
      exact ih hj
    · obtain rfl : j = k := by omega
      rw [List.getElem?_append_right (by rw [ownL_length]; omega), ownL_length]
      simp

theorem mays_own (n : Nat) : ∀ k, k ≤ n → mays n (ownL k) = true
  | 0, _ => rfl
  | k + 1, h => by
    have ih := mays_own n k (by omega)
    unfold mays at ih ⊢
    rw [ownL, List.all_append, ih]
    simp [may]
    omega

theorem hullL_spec : ∀ (l : List (Int × Int)) (p : Int × Int), (hullL p l).1 ≤ p.1 ∧ p.2 ≤ (hullL p l).2 ∧ (∀ q ∈ l, (hullL p l).1 ≤ q.1 ∧ q.2 ≤ (hullL p l).2) ∧ ((hullL p l).1 = p.1 ∨ ∃ q ∈ l, (hullL p l).1 = q.1) ∧ ((hullL p l).2 = p.2 ∨ ∃ q ∈ l, (hullL p l).2 = q.2)
  | [], p => ⟨Int.le_refl _, Int.le_refl _, by simp, .inl rfl, .inl rfl⟩
  | r :: l, p => by
    obtain ⟨h1, h2, h3, h4, h5⟩ := hullL_spec l (min p.1 r.1, max p.2 r.2)
    simp only [hullL]
    simp only at h1 h2 h4 h5
    refine ⟨by clear h3 h4 h5; omega, by clear h3 h4 h5; omega, fun q hq => ?_, ?_, ?_⟩
    · rcases List.mem_cons.1 hq with rfl | hq
      · clear h3 h4 h5; omega
      · exact h3 q hq
    · clear h5
      rcases h4 with h4 | ⟨q, hq, h4⟩
      · rw [h4]
        rcases Int.le_total p.1 r.1 with h | h
        · exact .inl (by omega)
        · exact .inr ⟨r, List.mem_cons_self, by omega⟩
      · exact .inr ⟨q, List.mem_cons_of_mem _ hq, h4⟩
    · clear h4
      rcases h5 with h5 | ⟨q, hq, h5⟩
      · rw [h5]
        rcases Int.le_total r.2 p.2 with h | h
        · exact .inl (by omega)
        · exact .inr ⟨r, List.mem_cons_self, by omega⟩
      · exact .inr ⟨q, List.mem_cons_of_mem _ hq, h5⟩

theorem hullL_app : ∀ (l : List (Int × Int)) (p : Int × Int) (m : List (Int × Int)), hullL p (l ++ m) = hullL (hullL p l) m
  | [], _, _ => rfl
  | r :: l, p, m => hullL_app l _ m

/-- The hull does not ask where one begins. -/
theorem hullL_min : ∀ (m : List (Int × Int)) (p q : Int × Int), hullL (min p.1 q.1, max p.2 q.2) m = (min p.1 (hullL q m).1, max p.2 (hullL q m).2)
  | [], p, q => rfl
  | r :: m, p, q => by
    simp only [hullL]
    have := hullL_min m p (min q.1 r.1, max q.2 r.2)
    simp only at this
    rw [← this]
    congr 1
    rw [Prod.mk.injEq]
    omega

/-- Of two parts side by side. -/
theorem hullL_two (p q : Int × Int) (l m : List (Int × Int)) : hullL p (l ++ q :: m) = (min (hullL p l).1 (hullL q m).1, max (hullL p l).2 (hullL q m).2) := by
  rw [hullL_app]
  simp only [hullL]
  exact hullL_min m _ q

/-- Through its own places a span is itself. -/
theorem allV_own (n i j : Nat) (hij : i < j) (hj : j ≤ n) : allV (((ownL n).drop i).take (j - i)) = .tuple #[.agg #[.int .i64 (i), .int .i64 (j)], .int .i64 0] := by
  have hlen : (((ownL n).drop i).take (j - i)).length = j - i := by rw [List.length_take, List.length_drop, ownL_length]; omega
  have hget : ∀ k, k < j - i → (((ownL n).drop i).take (j - i))[k]? = some (((i + k : Nat) : Int), ((i + k : Nat) : Int) + 1) := fun k hk => by
    rw [List.getElem?_take, if_pos hk, List.getElem?_drop]
    exact ownL_get n (i + k) (by omega)
  generalize (((ownL n).drop i).take (j - i)) = L at hlen hget
  cases L with
  | nil => simp at hlen; omega
  | cons p l =>
    have h0 := hget 0 (by omega)
    simp at h0
    have hmem : ∀ q ∈ l, (i : Int) ≤ q.1 ∧ q.2 ≤ j := fun q hq => by
      obtain ⟨k, hk, rfl⟩ := List.getElem_of_mem hq
      simp only [List.length_cons] at hlen
      have := hget (k + 1) (by omega)
      rw [List.getElem?_cons_succ, List.getElem?_eq_getElem hk] at this
      injection this with this
      rw [this]
      simp only
      omega
    obtain ⟨h1, h2, h3, h4, h5⟩ := hullL_spec l p
    have hlast : (hullL p l).2 = j := by
      clear h4
      have hl := hget (j - i - 1) (by omega)
      have hb : (hullL p l).2 ≤ j := by
        rcases h5 with h5 | ⟨q, hq, h5⟩
        · rw [h5, h0]; simp only; omega
        · rw [h5]; exact (hmem q hq).2
      have ha : (j : Int) ≤ (hullL p l).2 := by
        clear h5
        have hm := List.mem_of_getElem? hl
        rcases List.mem_cons.1 hm with hm | hm
        · have e2 := congrArg Prod.snd hm; simp only at e2; omega
        · have := (h3 _ hm).2; simp only at this; omega
      clear h5
      omega
    have hfirst : (hullL p l).1 = i := by
      clear h5
      rcases h4 with h4 | ⟨q, hq, h4⟩
      · rw [h4, h0]
      · have := (hmem q hq).1
        have e1 := congrArg Prod.fst h0
        simp only at e1
        omega
    rw [show allV (p :: l) = .tuple #[.agg #[.int .i64 ((hullL p l).1), .int .i64 ((hullL p l).2)], .int .i64 0] from rfl, hlast, hfirst]

end Go.Proofs.Ytgaboipigdkefaa.SpanThrough
