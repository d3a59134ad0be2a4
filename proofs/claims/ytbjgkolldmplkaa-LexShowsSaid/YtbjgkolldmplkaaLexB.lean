/- Plain laws of layer 6: what is shown is read as itself. -/
import Derived.Test.YtbjgkolldmplkaaLexL
import Derived.Test.YtbjgkolldmplkaaLex12
import Derived.Test.YtbjgkolldmplkaaRowsL
import Derived.Test.YtbjgkolldmplkaaOnes
namespace Go.Proofs.Ytbjgkolldmplkaa
open Go.RowKit

theorem hex_back : ∀ q : Fin 16, hexV (hexC q.val) = ((q.val : Nat) : Int) := by decide +kernel

theorem spB_iff (c : UInt8) : spB c = true ↔ c.toNat = 92 ∨ c.toNat = 34 ∨ c.toNat = 91 ∨ c.toNat = 93 ∨ c.toNat = 94 ∨ c.toNat = 45 := by
  have h : ∀ k : Nat, k < 256 → (c = UInt8.ofNat k ↔ c.toNat = k) := fun k hk => by
    rw [← UInt8.toNat_inj, UInt8.toNat_ofNat']
    simp [Nat.mod_eq_of_lt hk]
  unfold spB spL
  simp only [List.contains_eq_mem, List.mem_cons, List.not_mem_nil, or_false, decide_eq_true_eq]
  have h1 := h 92 (by decide)
  have h2 := h 34 (by decide)
  have h3 := h 91 (by decide)
  have h4 := h 93 (by decide)
  have h5 := h 94 (by decide)
  have h6 := h 45 (by decide)
  exact or_congr h1 (or_congr h2 (or_congr h3 (or_congr h4 (or_congr h5 h6))))

/-- A byte as it is written is read as itself, whatever stands behind. -/
theorem one_wr (c : UInt8) (y : List UInt8) : oneL (wrL c ++ y) = (0, c, (wrL c).length) := by
  have hs92 : ((92 : UInt8).toNat) = 92 := rfl
  by_cases h1 : c.toNat = 10
  · have e : wrL c = [92, 110] := if_pos h1
    have ec : c = 10 := UInt8.toNat_inj.1 h1
    rw [e, List.cons_append, List.cons_append, one_esc _ hs92, esc_n _ rfl, ec]
    rfl
  by_cases h2 : c.toNat = 9
  · have e : wrL c = [92, 116] := (if_neg h1).trans (if_pos h2)
    have ec : c = 9 := UInt8.toNat_inj.1 h2
    rw [e, List.cons_append, List.cons_append, one_esc _ hs92, esc_t _ rfl, ec]
    rfl
  by_cases h3 : c.toNat = 13
  · have e : wrL c = [92, 114] := (if_neg h1).trans ((if_neg h2).trans (if_pos h3))
    have ec : c = 13 := UInt8.toNat_inj.1 h3
    rw [e, List.cons_append, List.cons_append, one_esc _ hs92, esc_r _ rfl, ec]
    rfl
  have hw : wrL c = if spB c then [92, c] else if plB c then [c] else [92, 120, hexC (c.toNat / 16), hexC (c.toNat % 16)] := (if_neg h1).trans ((if_neg h2).trans (if_neg h3))
  cases hs : spB c
  · cases hp : plB c
    · rw [hw, hs, hp]
      simp only [Bool.false_eq_true, if_false, List.cons_append, List.nil_append]
      rw [one_esc _ hs92, esc_x _ rfl]
      have hlt := UInt8.toNat_lt c
      have b1 := hex_back ⟨c.toNat / 16, by omega⟩
      have b2 := hex_back ⟨c.toNat % 16, by omega⟩
      simp only at b1 b2
      rw [two_ok y (by rw [b1]; omega) (by rw [b2]; omega), b1, b2]
      have e : (16 * (((c.toNat / 16 : Nat) : Nat) : Int) + ((c.toNat % 16 : Nat) : Int)).toNat = c.toNat := by omega
      rw [e, UInt8.ofNat_toNat]
      rfl
    · rw [hw, hs, hp]
      simp only [Bool.false_eq_true, if_false, if_true, List.cons_append, List.nil_append]
      have hn : c.toNat ≠ 92 := fun h => by
        have := (spB_iff c).2 (.inl h)
        rw [this] at hs; cases hs
      rw [one_plain _ hn hp]
      rfl
  · rw [hw, hs]
    simp only [if_true, List.cons_append, List.nil_append]
    have hsp := (spB_iff c).1 hs
    rw [one_esc _ hs92, esc_sp _ (by omega) (by omega) (by omega) (by omega) hs]
    rfl

/-- It begins neither with a quote, a bracket's end, a hat nor a line. -/
theorem wr_head (c : UInt8) : ∃ d r, wrL c = d :: r ∧ d.toNat ≠ 34 ∧ d.toNat ≠ 93 ∧ d.toNat ≠ 94 ∧ d.toNat ≠ 45 := by
  by_cases h1 : c.toNat = 10
  · exact ⟨92, [110], if_pos h1, by decide, by decide, by decide, by decide⟩
  by_cases h2 : c.toNat = 9
  · exact ⟨92, [116], (if_neg h1).trans (if_pos h2), by decide, by decide, by decide, by decide⟩
  by_cases h3 : c.toNat = 13
  · exact ⟨92, [114], (if_neg h1).trans ((if_neg h2).trans (if_pos h3)), by decide, by decide, by decide, by decide⟩
  have hw : wrL c = if spB c then [92, c] else if plB c then [c] else [92, 120, hexC (c.toNat / 16), hexC (c.toNat % 16)] := (if_neg h1).trans ((if_neg h2).trans (if_neg h3))
  cases hs : spB c
  · cases hp : plB c
    · exact ⟨92, _, by rw [hw, hs, hp]; rfl, by decide, by decide, by decide, by decide⟩
    · have hn : ¬ (c.toNat = 92 ∨ c.toNat = 34 ∨ c.toNat = 91 ∨ c.toNat = 93 ∨ c.toNat = 94 ∨ c.toNat = 45) := fun h => by
        have := (spB_iff c).2 h
        rw [this] at hs; cases hs
      exact ⟨c, [], by rw [hw, hs, hp]; rfl, by omega, by omega, by omega, by omega⟩
  · exact ⟨92, [c], by rw [hw, hs]; rfl, by decide, by decide, by decide, by decide⟩

theorem drop_wr (c : UInt8) (y : List UInt8) : (wrL c ++ y).drop (wrL c).length = y := by simp

theorem wr_pos (c : UInt8) : 1 ≤ (wrL c).length := by
  obtain ⟨d, r, e, _⟩ := wr_head c
  rw [e]; simp

theorem quo_step (c : UInt8) (y acc : List UInt8) (f n : Nat) : quoA (f + 1) (wrL c ++ y) acc n = quoA f y (acc ++ [c]) (n + (wrL c).length) := by
  obtain ⟨d, r, e, h34, _⟩ := wr_head c
  have ho := one_wr c y
  have hd := drop_wr c y
  rw [e, List.cons_append] at ho hd ⊢
  rw [quo_go h34 (by rw [ho]), ho]
  simp only
  rw [hd]

theorem quo_all (y : List UInt8) : ∀ (b acc : List UInt8) (f n : Nat), b.length < f → quoA f (wrAll b ++ 34 :: y) acc n = (0, acc ++ b, n + (wrAll b).length + 1)
  | [], acc, f, n, hf => by
    obtain ⟨f, rfl⟩ : ∃ g, f = g + 1 := ⟨f - 1, by simp at hf; omega⟩
    show quoA (f + 1) (34 :: y) acc n = _
    rw [quo_q (by rfl)]
    simp [wrAll]
  | c :: b, acc, f, n, hf => by
    obtain ⟨f, rfl⟩ : ∃ g, f = g + 1 := ⟨f - 1, by simp at hf; omega⟩
    have e : wrAll (c :: b) ++ 34 :: y = wrL c ++ (wrAll b ++ 34 :: y) := by simp [wrAll]
    rw [e, quo_step, quo_all y b _ f _ (by simp at hf; omega)]
    simp [wrAll]
    omega

theorem wrAll_ge (b : List UInt8) : b.length ≤ (wrAll b).length := by
  induction b with
  | nil => simp
  | cons c b ih =>
    have := wr_pos c
    show b.length + 1 ≤ (wrL c ++ wrAll b).length
    rw [List.length_append]
    omega

theorem tok_q {c : UInt8} (r : List UInt8) (hl : letB c = false) (hd : digB c = false) (hq : c.toNat = 34) : tokL (c :: r) = ((textL r).1, (textL r).2.1, (textL r).2.2 + 1) :=
  (if_neg (by rw [hl]; decide)).trans ((if_neg (by rw [hd]; decide)).trans (if_pos hq))
theorem tok_b {c : UInt8} (r : List UInt8) (hl : letB c = false) (hd : digB c = false) (hq : ¬ c.toNat = 34) (hb : c.toNat = 91) : tokL (c :: r) = ((setTL r).1, (setTL r).2.1, (setTL r).2.2 + 1) :=
  (if_neg (by rw [hl]; decide)).trans ((if_neg (by rw [hd]; decide)).trans ((if_neg hq).trans (if_pos hb)))

/-- A text that is shown is read as itself, or is too long. -/
theorem next_text (b y : List UInt8) : nextL (txL b ++ y) = if 256 < b.length then (2, tk0, 0, 0) else (0, ⟨2, b, sNone, 0⟩, 0, (txL b).length) := by
  have e : txL b ++ y = 34 :: (wrAll b ++ 34 :: y) := by simp [txL]
  have hq : quoL (wrAll b ++ 34 :: y) = (0, b, (wrAll b).length + 1) := by
    unfold quoL
    rw [quo_all y b [] _ 0 (by have := wrAll_ge b; rw [List.length_append]; omega)]
    simp
  have ht : textL (wrAll b ++ 34 :: y) = if 256 < b.length then (2, tk0, 0) else (0, ⟨2, b, sNone, 0⟩, (wrAll b).length + 1) := by
    unfold textL
    rw [hq]
    rfl
  have htk : tokL (34 :: (wrAll b ++ 34 :: y)) = ((textL (wrAll b ++ 34 :: y)).1, (textL (wrAll b ++ 34 :: y)).2.1, (textL (wrAll b ++ 34 :: y)).2.2 + 1) :=
    tok_q _ (by decide) (by decide) rfl
  have hw : whL false (34 :: (wrAll b ++ 34 :: y)) = 0 := whL_no _ (by decide) (by decide)
  have hl : (txL b).length = (wrAll b).length + 2 := by simp [txL]
  rw [e]
  unfold nextL
  rw [hw, List.drop_zero, htk, ht, hl, if_neg (by simp)]
  by_cases h : 256 < b.length
  · simp [h]
  · simp [h]

/-- A row as it is shown. -/
def rowTx (r : Nat × Nat) : List UInt8 := wrL (UInt8.ofNat r.1) ++ if r.1 < r.2 then 45 :: wrL (UInt8.ofNat r.2) else []
def rowsTx (l : List (Nat × Nat)) : List UInt8 := l.flatMap rowTx
theorem rowsTx_snoc (l : List (Nat × Nat)) (r : Nat × Nat) : rowsTx (l ++ [r]) = rowsTx l ++ rowTx r := by simp [rowsTx]
/-- A set as it is shown. -/
def stL (m : Nat → Bool) : List UInt8 := if 128 < sSize m then [91, 94] ++ rowsTx (rowsOf (sNot m)) ++ [93] else [91] ++ rowsTx (rowsOf m) ++ [93]

theorem rowTx_len (r : Nat × Nat) : 1 ≤ (rowTx r).length ∧ (rowTx r).length ≤ 9 := by
  have h1 := wr_pos (UInt8.ofNat r.1)
  have h2 := wrL_len (UInt8.ofNat r.1)
  have h3 := wrL_len (UInt8.ofNat r.2)
  unfold rowTx
  rw [List.length_append]
  split
  · rw [List.length_cons]; omega
  · simp; omega

theorem rowsTx_len (l : List (Nat × Nat)) : l.length ≤ (rowsTx l).length ∧ (rowsTx l).length ≤ 9 * l.length := by
  induction l with
  | nil => simp [rowsTx]
  | cons r l ih =>
    have := rowTx_len r
    show l.length + 1 ≤ (rowTx r ++ rowsTx l).length ∧ (rowTx r ++ rowsTx l).length ≤ 9 * (l.length + 1)
    rw [List.length_append]
    omega

theorem ofNat_back {n : Nat} (h : n < 256) : (UInt8.ofNat n).toNat = n := by rw [UInt8.toNat_ofNat', Nat.mod_eq_of_lt h]

/-- What stands behind a row begins with no line. -/
def NoLine (y : List UInt8) : Prop := ∀ d ∈ y.head?, d.toNat ≠ 45

theorem set_step (r : Nat × Nat) (h1 : r.1 ≤ r.2) (h2 : r.2 < 256) (y : List UInt8) (hy : NoLine y) (f n : Nat) (of : Nat → Bool) :
    setA (f + 1) (rowTx r ++ y) of n = setA f y (sAny of (sSpan r.1 r.2)) (n + (rowTx r).length) := by
  have e1 := ofNat_back (show r.1 < 256 by omega)
  have e2 := ofNat_back h2
  obtain ⟨d, w, ew, _, h93, _⟩ := wr_head (UInt8.ofNat r.1)
  by_cases hlt : r.1 < r.2
  · have e : rowTx r ++ y = wrL (UInt8.ofNat r.1) ++ (45 :: (wrL (UInt8.ofNat r.2) ++ y)) := by unfold rowTx; rw [if_pos hlt]; simp
    have ho := one_wr (UInt8.ofNat r.1) (45 :: (wrL (UInt8.ofNat r.2) ++ y))
    have hd := drop_wr (UInt8.ofNat r.1) (45 :: (wrL (UInt8.ofNat r.2) ++ y))
    have ho2 := one_wr (UInt8.ofNat r.2) y
    have hl : (rowTx r).length = (wrL (UInt8.ofNat r.1)).length + 1 + (wrL (UInt8.ofNat r.2)).length := by unfold rowTx; rw [if_pos hlt]; simp; omega
    rw [e, hl]
    rw [ew, List.cons_append] at ho hd ⊢
    rw [set_two h93 ho hd (by rfl) ho2 (by rw [e1, e2]; omega), drop_wr, e1, e2, Nat.add_assoc, Nat.add_assoc, Nat.add_assoc]
  · have heq : r.1 = r.2 := by omega
    have e : rowTx r ++ y = wrL (UInt8.ofNat r.1) ++ y := by unfold rowTx; rw [if_neg hlt, List.append_nil]
    have ho := one_wr (UInt8.ofNat r.1) y
    have hd := drop_wr (UInt8.ofNat r.1) y
    have hl : (rowTx r).length = (wrL (UInt8.ofNat r.1)).length := by unfold rowTx; rw [if_neg hlt, List.append_nil]
    rw [e, hl]
    rw [ew, List.cons_append] at ho hd ⊢
    rw [set_one h93 ho (by rw [hd]; exact hy), hd, e1, ← heq]

theorem rows_noline (l : List (Nat × Nat)) (y : List UInt8) (hy : NoLine y) : NoLine (rowsTx l ++ y) := by
  cases l with
  | nil => exact hy
  | cons r l =>
    obtain ⟨d, w, ew, _, _, _, h45⟩ := wr_head (UInt8.ofNat r.1)
    have e : rowsTx (r :: l) = rowTx r ++ rowsTx l := rfl
    intro x hx
    rw [e] at hx
    unfold rowTx at hx
    rw [ew] at hx
    obtain rfl : d = x := by simpa using hx
    exact h45

theorem set_all (y : List UInt8) : ∀ (l : List (Nat × Nat)), (∀ r ∈ l, r.1 ≤ r.2 ∧ r.2 < 256) → ∀ (f n : Nat) (of : Nat → Bool), l.length < f →
    ∃ of', setA f (rowsTx l ++ 93 :: y) of n = (0, of', n + (rowsTx l).length + 1) ∧ ∀ b, of' b = (of b || sPart l b)
  | [], _, f, n, of, hf => by
    obtain ⟨f, rfl⟩ : ∃ g, f = g + 1 := ⟨f - 1, by simp at hf; omega⟩
    refine ⟨of, ?_, fun b => by simp [sPart]⟩
    show setA (f + 1) (93 :: y) of n = _
    rw [set_q (by rfl)]
    simp [rowsTx]
  | r :: l, h, f, n, of, hf => by
    obtain ⟨f, rfl⟩ : ∃ g, f = g + 1 := ⟨f - 1, by simp at hf; omega⟩
    have hr := h r (List.mem_cons_self ..)
    have hy : NoLine (93 :: y) := fun d hd => by
      obtain rfl : (93 : UInt8) = d := by simpa using hd
      decide
    have e : rowsTx (r :: l) ++ 93 :: y = rowTx r ++ (rowsTx l ++ 93 :: y) := by simp [rowsTx]
    obtain ⟨of', h1, h2⟩ := set_all y l (fun x hx => h x (List.mem_cons_of_mem _ hx)) f (n + (rowTx r).length) (sAny of (sSpan r.1 r.2)) (by simp at hf; omega)
    refine ⟨of', ?_, fun b => ?_⟩
    · rw [e, set_step r hr.1 hr.2 _ (rows_noline l _ hy), h1]
      have : rowsTx (r :: l) = rowTx r ++ rowsTx l := rfl
      rw [this, List.length_append]
      congr 2
      omega
    · rw [h2]
      simp [sAny, sSpan, sPart, Bool.or_assoc]

theorem rows_mem (m : Nat → Bool) : ∀ r ∈ rowsOf m, r.1 ≤ r.2 ∧ r.2 < 256 := fun r hr => by
  obtain ⟨k, hk, rfl⟩ := List.mem_iff_getElem.1 hr
  exact rows_ok m k hk

theorem rows_len (m : Nat → Bool) : (rowsOf m).length ≤ 256 := by
  have := rowsFrom_length m 256 0 (by omega)
  exact this

/-- A set that is shown is read as itself. -/
theorem next_set (m : Nat → Bool) (y : List UInt8) : ∃ of, nextL (stL m ++ y) = (0, ⟨3, [], of, 0⟩, 0, (stL m).length) ∧ ∀ i, i < 4 → word of i = word m i := by
  have hpart : ∀ (m : Nat → Bool) (of' : Nat → Bool), (∀ b, of' b = (sNone b || sPart (rowsOf m) b)) → ∀ i, i < 4 → word of' i = word m i := fun m of' h i hi => by
    rw [← sPart_rows m i hi]
    exact word_ext fun k _ => by rw [h]; rfl
  have key : ∀ (l : List UInt8) (of : Nat → Bool) (n : Nat), setTL l = (0, ⟨3, [], of, 0⟩, n) → nextL (91 :: l) = (0, ⟨3, [], of, 0⟩, 0, n + 1) := fun l of n h => by
    have htk : tokL (91 :: l) = ((setTL l).1, (setTL l).2.1, (setTL l).2.2 + 1) :=
      tok_b _ (by decide) (by decide) (by decide) rfl
    have hw : whL false (91 :: l) = 0 := whL_no _ (by decide) (by decide)
    unfold nextL
    rw [hw, List.drop_zero, htk, h, if_neg (by simp)]
    simp
  by_cases h : 128 < sSize m
  · have e : stL m ++ y = 91 :: 94 :: (rowsTx (rowsOf (sNot m)) ++ 93 :: y) := by unfold stL; rw [if_pos h]; simp
    have hl : (stL m).length = (rowsTx (rowsOf (sNot m))).length + 3 := by unfold stL; rw [if_pos h]; simp
    obtain ⟨of', h1, h2⟩ := set_all y (rowsOf (sNot m)) (rows_mem _) ((rowsTx (rowsOf (sNot m)) ++ 93 :: y).length + 1) 1 sNone (by have := rowsTx_len (rowsOf (sNot m)); rw [List.length_append]; omega)
    refine ⟨sNot of', ?_, fun i hi => ?_⟩
    · rw [e, hl]
      refine key _ _ ((rowsTx (rowsOf (sNot m))).length + 2) ?_
      have hT : setTL (94 :: (rowsTx (rowsOf (sNot m)) ++ 93 :: y)) = setE (setA ((rowsTx (rowsOf (sNot m)) ++ 93 :: y).length + 1) (rowsTx (rowsOf (sNot m)) ++ 93 :: y) sNone 1) true := if_pos rfl
      rw [hT, h1]
      show (0, (⟨3, [], sNot of', 0⟩ : Tk), 1 + (rowsTx (rowsOf (sNot m))).length + 1) = _
      rw [show 1 + (rowsTx (rowsOf (sNot m))).length + 1 = (rowsTx (rowsOf (sNot m))).length + 2 by omega]
    · have := hpart (sNot m) of' h2 i hi
      have e2 : word (sNot of') i = word (sNot (sNot m)) i := by
        rw [← word_not_nat, ← word_not_nat, this]
      rw [e2]
      exact word_ext fun k _ => by simp [sNot]
  · have e : stL m ++ y = 91 :: (rowsTx (rowsOf m) ++ 93 :: y) := by unfold stL; rw [if_neg h]; simp
    have hl : (stL m).length = (rowsTx (rowsOf m)).length + 2 := by unfold stL; rw [if_neg h]; simp
    obtain ⟨of', h1, h2⟩ := set_all y (rowsOf m) (rows_mem m) ((rowsTx (rowsOf m) ++ 93 :: y).length + 1) 0 sNone (by have := rowsTx_len (rowsOf m); rw [List.length_append]; omega)
    refine ⟨of', ?_, hpart m of' h2⟩
    rw [e, hl]
    refine key _ _ ((rowsTx (rowsOf m)).length + 1) ?_
    have hh : hatB (rowsTx (rowsOf m) ++ 93 :: y) = false := by
      cases hr : rowsOf m with
      | nil => rfl
      | cons r l =>
        obtain ⟨d, w, ew, _, _, h94, _⟩ := wr_head (UInt8.ofNat r.1)
        have : rowsTx (r :: l) = rowTx r ++ rowsTx l := rfl
        rw [this]
        unfold rowTx
        rw [ew]
        simpa [hatB] using h94
    have hT : setTL (rowsTx (rowsOf m) ++ 93 :: y) = setE (setA ((rowsTx (rowsOf m) ++ 93 :: y).length + 1) (rowsTx (rowsOf m) ++ 93 :: y) sNone 0) false := if_neg (by rw [hh]; decide)
    rw [hT, h1, Nat.zero_add]
    rfl

theorem stL_len (m : Nat → Bool) : (stL m).length ≤ 3000 := by
  have h1 := rowsTx_len (rowsOf m)
  have h2 := rowsTx_len (rowsOf (sNot m))
  have h3 := rows_len m
  have h4 := rows_len (sNot m)
  unfold stL
  split
  · simp; omega
  · simp; omega

end Go.Proofs.Ytbjgkolldmplkaa
