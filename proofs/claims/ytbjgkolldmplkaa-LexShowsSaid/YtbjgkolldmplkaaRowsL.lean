/- Plain laws: what the rows are together; the rows of a span. -/
import Derived.Test.YtbjgkolldmplkaaRowsP
namespace Go.Proofs.Ytbjgkolldmplkaa

/-- The first k rows together. -/
def sPart (l : List (Nat × Nat)) : Nat → Bool := fun b => l.any fun r => decide (r.1 ≤ b) && decide (b ≤ r.2)

theorem sPart_step (l : List (Nat × Nat)) (k : Nat) (hk : k < l.length) : sPart (l.take (k + 1)) = sAny (sPart (l.take k)) (sSpan l[k].1 l[k].2) := by
  funext b
  unfold sPart sAny sSpan
  rw [List.take_succ_eq_append_getElem hk, List.any_append]
  simp only [List.any_cons, List.any_nil, Bool.or_false]

theorem sPart_rows (m : Nat → Bool) (i : Nat) (hi : i < 4) : word (sPart (rowsOf m)) i = word m i := by
  refine word_ext fun k hk => ?_
  have h := (rowsFrom_spec m 256 0 (by omega)).2.1 (64 * i + k) (by omega) (by omega)
  rw [Bool.eq_iff_iff, h]
  unfold sPart rowsOf
  simp only [List.any_eq_true, Bool.and_eq_true, decide_eq_true_eq]

theorem rows_ok (m : Nat → Bool) (k : Nat) (hk : k < (rowsOf m).length) : (rowsOf m)[k].1 ≤ (rowsOf m)[k].2 ∧ (rowsOf m)[k].2 < 256 := by
  have h := (rowsFrom_spec m 256 0 (by omega)).1 _ (List.getElem_mem hk)
  exact ⟨h.2.1, Nat.lt_succ_of_le h.2.2⟩

theorem rows_far (m : Nat → Bool) (k : Nat) (hk : k + 1 < (rowsOf m).length) : (rowsOf m)[k].2 + 1 < (rowsOf m)[k + 1].1 :=
  List.pairwise_iff_getElem.1 (rowsFrom_spec m 256 0 (by omega)).2.2 k (k + 1) (Nat.lt_of_succ_lt hk) hk (by omega)

theorem rowsFrom_void (m : Nat → Bool) : ∀ d c, 256 - c ≤ d → (∀ x, c ≤ x → m x = false) → rowsFrom m c = []
  | 0, c, h, _ => rowsFrom_end m c (by omega)
  | d + 1, c, h, hv => by
    by_cases hc : c < 256
    · rw [rowsFrom_no m c hc (hv c (Nat.le_refl _))]
      exact rowsFrom_void m d (c + 1) (by omega) fun x hx => hv x (by omega)
    · exact rowsFrom_end m c (by omega)

theorem rowsFrom_skip (m : Nat → Bool) (f : Nat) (hf : f < 256) : ∀ d c, f - c ≤ d → c ≤ f → (∀ x, c ≤ x → x < f → m x = false) → rowsFrom m c = rowsFrom m f
  | 0, c, h, h2, _ => by rw [show c = f by omega]
  | d + 1, c, h, h2, hv => by
    by_cases hc : c = f
    · rw [hc]
    · rw [rowsFrom_no m c (by omega) (hv c (Nat.le_refl _) (by omega))]
      exact rowsFrom_skip m f hf d (c + 1) (by omega) (by omega) fun x h3 h4 => hv x (by omega) h4

theorem rows_span (f t : Nat) (hf : f < 256) (ht : t < 256) : rowsOf (sSpan f t) = if f ≤ t then [(f, t)] else [] := by
  unfold rowsOf
  split
  · rename_i h
    rw [rowsFrom_skip _ f hf f 0 (by omega) (by omega) (fun x _ h2 => by unfold sSpan; simp; omega)]
    rw [rowsFrom_yes _ f hf (by unfold sSpan; simp; omega)]
    obtain ⟨e1, e2, e3, e4⟩ := runE_spec (sSpan f t) 255 f (by omega) (by omega)
    have hE : runE (sSpan f t) f = t := by
      rcases Nat.lt_or_ge t (runE (sSpan f t) f) with h5 | h5
      · have := e3 _ (by omega) (Nat.le_refl _)
        unfold sSpan at this
        simp at this
        unfold sSpan at h5
        omega
      · rcases e4 with h6 | h6
        · omega
        · rcases Nat.lt_or_ge (runE (sSpan f t) f) t with h7 | h7
          · unfold sSpan at h6 h7 e1
            simp at h6
            omega
          · omega
    rw [hE, rowsFrom_void _ 256 (t + 1) (by omega) (fun x hx => by unfold sSpan; simp; omega)]
  · exact rowsFrom_void _ 256 0 (by omega) (fun x _ => by unfold sSpan; simp; omega)

end Go.Proofs.Ytbjgkolldmplkaa
