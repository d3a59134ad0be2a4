/- Plain law: the rows that the reference finds are those of the set. -/
import Derived.Test.YtbjgkolldmplkaaBytes
import Derived.Test.YtbjgkolldmplkaaRowsP
namespace Go.Proofs.Ytbjgkolldmplkaa

def Good (l : List (Nat × Nat)) : Prop := l.Pairwise (fun r s => r.2 + 1 < s.1) ∧ ∀ r ∈ l, r.1 ≤ r.2
def Cov (l : List (Nat × Nat)) (b : Nat) : Prop := ∃ r ∈ l, r.1 ≤ b ∧ b ≤ r.2

theorem Good.tail {r : Nat × Nat} {l : List (Nat × Nat)} (h : Good (r :: l)) : Good l :=
  ⟨(List.pairwise_cons.1 h.1).2, fun x hx => h.2 x (List.mem_cons_of_mem _ hx)⟩

theorem Good.least {r : Nat × Nat} {l : List (Nat × Nat)} (h : Good (r :: l)) {b : Nat} (hb : Cov (r :: l) b) : r.1 ≤ b := by
  obtain ⟨x, hx, h1, h2⟩ := hb
  rcases List.mem_cons.1 hx with rfl | hx
  · exact h1
  · have := (List.pairwise_cons.1 h.1).1 x hx
    have := h.2 r List.mem_cons_self
    omega

theorem Good.gap {r : Nat × Nat} {l : List (Nat × Nat)} (h : Good (r :: l)) : ¬ Cov (r :: l) (r.2 + 1) := by
  rintro ⟨x, hx, h1, h2⟩
  rcases List.mem_cons.1 hx with rfl | hx
  · omega
  · have := (List.pairwise_cons.1 h.1).1 x hx
    omega

theorem rows_unique : ∀ (l l' : List (Nat × Nat)), Good l → Good l' → (∀ b, Cov l b ↔ Cov l' b) → l = l'
  | [], [], _, _, _ => rfl
  | [], r :: l', _, h', hc => by
    obtain ⟨x, hx, _⟩ := (hc r.1).2 ⟨r, List.mem_cons_self, Nat.le_refl _, h'.2 r List.mem_cons_self⟩
    cases hx
  | r :: l, [], h, _, hc => by
    obtain ⟨x, hx, _⟩ := (hc r.1).1 ⟨r, List.mem_cons_self, Nat.le_refl _, h.2 r List.mem_cons_self⟩
    cases hx
  | r :: l, s :: l', h, h', hc => by
    have hr := h.2 r List.mem_cons_self
    have hs := h'.2 s List.mem_cons_self
    have e1 : r.1 = s.1 := by
      have a := h'.least ((hc r.1).1 ⟨r, List.mem_cons_self, Nat.le_refl _, hr⟩)
      have b := h.least ((hc s.1).2 ⟨s, List.mem_cons_self, Nat.le_refl _, hs⟩)
      omega
    have e2 : r.2 = s.2 := by
      rcases Nat.lt_trichotomy r.2 s.2 with hlt | heq | hgt
      · exact absurd ((hc (r.2 + 1)).2 ⟨s, List.mem_cons_self, by omega, by omega⟩) h.gap
      · exact heq
      · exact absurd ((hc (s.2 + 1)).1 ⟨r, List.mem_cons_self, by omega, by omega⟩) h'.gap
    have e : r = s := Prod.ext e1 e2
    subst e
    refine congrArg (r :: ·) (rows_unique l l' h.tail h'.tail fun b => ?_)
    constructor
    · rintro ⟨x, hx, h1, h2⟩
      obtain ⟨y, hy, h3, h4⟩ := (hc b).1 ⟨x, List.mem_cons_of_mem _ hx, h1, h2⟩
      rcases List.mem_cons.1 hy with rfl | hy
      · have := (List.pairwise_cons.1 h.1).1 x hx
        omega
      · exact ⟨y, hy, h3, h4⟩
    · rintro ⟨x, hx, h1, h2⟩
      obtain ⟨y, hy, h3, h4⟩ := (hc b).2 ⟨x, List.mem_cons_of_mem _ hx, h1, h2⟩
      rcases List.mem_cons.1 hy with rfl | hy
      · have := (List.pairwise_cons.1 h'.1).1 x hx
        omega
      · exact ⟨y, hy, h3, h4⟩

/-- Does a row end at the place i of l? -/
def rrEnd (l : List Nat) (i : Nat) : Bool := (i + 1 == l.length) || (l.getD (i + 1) 0 != l.getD i 0 + 1)

/-- What the reference has behind i rounds: the rows, and where the next one begins. -/
def rrSt (l : List Nat) : Nat → List (Nat × Nat) × Nat
  | 0 => ([], 0)
  | i + 1 => if rrEnd l i then ((rrSt l i).1 ++ [(l.getD (rrSt l i).2 0, l.getD i 0)], i + 1) else rrSt l i

theorem rrSt_yes (l : List Nat) (i : Nat) (h : rrEnd l i = true) : rrSt l (i + 1) = ((rrSt l i).1 ++ [(l.getD (rrSt l i).2 0, l.getD i 0)], i + 1) := by rw [rrSt, if_pos h]
theorem rrSt_no (l : List Nat) (i : Nat) (h : rrEnd l i = false) : rrSt l (i + 1) = rrSt l i := by rw [rrSt, if_neg (by rw [h]; decide)]

theorem rrSt_le (l : List Nat) : ∀ i, (rrSt l i).2 ≤ i ∧ (rrSt l i).1.length ≤ i
  | 0 => ⟨Nat.le_refl _, Nat.le_refl _⟩
  | i + 1 => by
    have := rrSt_le l i
    cases h : rrEnd l i
    · rw [rrSt_no l i h]; omega
    · rw [rrSt_yes l i h]; simp; omega

structure RR (l : List Nat) (i : Nat) (s : List (Nat × Nat) × Nat) : Prop where
  le : s.2 ≤ i
  good : Good s.1
  cov : ∀ b, Cov s.1 b ↔ ∃ j, j < s.2 ∧ l.getD j 0 = b
  far : s.2 < l.length → ∀ r ∈ s.1, r.2 + 1 < l.getD s.2 0
  run : ∀ j, s.2 ≤ j → j < i → l.getD (j + 1) 0 = l.getD j 0 + 1
  last : i = l.length → s.2 = i

theorem run_at {l : List Nat} {f i : Nat} (h : ∀ j, f ≤ j → j < i → l.getD (j + 1) 0 = l.getD j 0 + 1) : ∀ d, f + d ≤ i → l.getD (f + d) 0 = l.getD f 0 + d
  | 0, _ => rfl
  | d + 1, hd => by
    rw [← Nat.add_assoc, h (f + d) (by omega) (by omega), run_at h d (by omega), Nat.add_assoc]

theorem rr_inv (l : List Nat) (hs : ∀ j, j + 1 < l.length → l.getD j 0 < l.getD (j + 1) 0) : ∀ i, i ≤ l.length → RR l i (rrSt l i)
  | 0, _ => by
    refine ⟨Nat.le_refl _, ⟨.nil, fun r h => (by cases h)⟩, fun b => ⟨?_, ?_⟩, fun _ r h => (by cases h), fun j _ h => absurd h (by omega), fun _ => rfl⟩
    · rintro ⟨r, h, _⟩
      cases h
    · rintro ⟨j, h, _⟩
      exact absurd h (by simp [rrSt])
  | i + 1, hi => by
    have I := rr_inv l hs i (by omega)
    cases h : rrEnd l i
    · rw [rrSt_no l i h]
      unfold rrEnd at h
      simp only [Bool.or_eq_false_iff, beq_eq_false_iff_ne, bne_eq_false_iff_eq] at h
      refine ⟨Nat.le_succ_of_le I.le, I.good, I.cov, I.far, fun j h1 h2 => ?_, fun e => absurd e h.1⟩
      by_cases hj : j = i
      · subst hj; exact h.2
      · exact I.run j h1 (by omega)
    · rw [rrSt_yes l i h]
      have hle := I.le
      generalize rrSt l i = s at *
      obtain ⟨out, f⟩ := s
      simp only at hle
      have hrun := run_at I.run
      have hend : i + 1 < l.length → l.getD i 0 + 1 < l.getD (i + 1) 0 := fun h1 => by
        unfold rrEnd at h
        simp only [Bool.or_eq_true, beq_iff_eq, bne_iff_ne] at h
        have := hs i h1
        rcases h with h | h <;> omega
      have hi2 := hrun (i - f) (by simp only; omega)
      simp only [show f + (i - f) = i by omega] at hi2
      refine ⟨Nat.le_refl _, ⟨?_, ?_⟩, fun b => ?_, fun h1 r hr => ?_, fun j h1 h2 => absurd h2 (by simp only at h1; omega), fun _ => rfl⟩
      · refine List.pairwise_append.2 ⟨I.good.1, List.pairwise_singleton _ _, fun r hr s hs' => ?_⟩
        obtain rfl : s = _ := List.mem_singleton.1 hs'
        exact I.far (by simp only; omega) r hr
      · intro r hr
        rcases List.mem_append.1 hr with hr | hr
        · exact I.good.2 r hr
        · obtain rfl : r = _ := List.mem_singleton.1 hr
          simp only
          omega
      · constructor
        · rintro ⟨r, hr, h1, h2⟩
          rcases List.mem_append.1 hr with hr | hr
          · obtain ⟨j, hj, e⟩ := (I.cov b).1 ⟨r, hr, h1, h2⟩
            exact ⟨j, by simp only at hj ⊢; omega, e⟩
          · obtain rfl : r = _ := List.mem_singleton.1 hr
            simp only at h1 h2
            refine ⟨f + (b - l.getD f 0), by simp only; omega, ?_⟩
            rw [hrun _ (by simp only; omega)]
            simp only
            omega
        · rintro ⟨j, hj, e⟩
          simp only at hj
          by_cases hjf : j < f
          · obtain ⟨r, hr, h1, h2⟩ := (I.cov b).2 ⟨j, hjf, e⟩
            exact ⟨r, List.mem_append_left _ hr, h1, h2⟩
          · refine ⟨_, List.mem_append_right _ (List.mem_singleton_self _), ?_⟩
            have := hrun (j - f) (by simp only; omega)
            simp only [show f + (j - f) = j by omega] at this
            simp only
            omega
      · simp only at h1
        have h3 := hend h1
        rcases List.mem_append.1 hr with hr | hr
        · have := I.far (by simp only; omega) r hr
          simp only at this ⊢
          omega
        · obtain rfl : r = _ := List.mem_singleton.1 hr
          simp only
          omega

theorem bytesTo_rise (m : Nat → Bool) : ∀ n, (bytesTo m n).Pairwise (· < ·)
  | 0 => .nil
  | n + 1 => by
    rw [bytesTo]
    split
    · exact List.pairwise_append.2 ⟨bytesTo_rise m n, List.pairwise_singleton _ _, fun a ha b hb => by
        obtain rfl : b = n := by simpa using hb
        exact (bytesTo_lt m b a ha).1⟩
    · exact bytesTo_rise m n

theorem bytesTo_mem (m : Nat → Bool) : ∀ n b, b < n → m b = true → b ∈ bytesTo m n
  | n + 1, b, h, hm => by
    rw [bytesTo]
    by_cases hb : b = n
    · subst hb; rw [if_pos hm]; simp
    · have := bytesTo_mem m n b (by omega) hm
      split
      · exact List.mem_append_left _ this
      · exact this

theorem getD_nat (l : List Nat) (j : Nat) (h : j < l.length) : l.getD j 0 = l[j] := by
  rw [List.getD_eq_getElem?_getD, List.getElem?_eq_getElem h]; rfl

/-- The reference's rows are the set's. -/
theorem rr_rows (m : Nat → Bool) : (rrSt (bytesOf m) (bytesOf m).length).1 = rowsOf m := by
  have hs : ∀ j, j + 1 < (bytesOf m).length → (bytesOf m).getD j 0 < (bytesOf m).getD (j + 1) 0 := fun j hj => by
    rw [getD_nat _ _ (by omega), getD_nat _ _ hj]
    exact List.pairwise_iff_getElem.1 (bytesTo_rise m 256) j (j + 1) (by have := hj; unfold bytesOf at this; omega) hj (by omega)
  have I := rr_inv (bytesOf m) hs _ (Nat.le_refl _)
  obtain ⟨h1, h2, h3⟩ := rowsFrom_spec m 256 0 (by omega)
  refine rows_unique _ _ I.good ⟨h3, fun r hr => (h1 r hr).2.1⟩ fun b => ?_
  rw [I.cov b, I.last rfl]
  constructor
  · rintro ⟨j, hj, rfl⟩
    rw [getD_nat _ _ hj]
    have := bytesTo_lt m 256 _ (List.getElem_mem hj)
    exact (h2 _ (Nat.zero_le _) this.1).1 this.2
  · rintro ⟨r, hr, h4, h5⟩
    have := (h1 r hr).2.2
    have hm := (h2 b (Nat.zero_le _) (by omega)).2 ⟨r, hr, h4, h5⟩
    obtain ⟨j, hj, e⟩ := List.getElem_of_mem (bytesTo_mem m 256 b (by omega) hm)
    exact ⟨j, hj, (getD_nat (bytesTo m 256) j hj).trans e⟩

end Go.Proofs.Ytbjgkolldmplkaa
