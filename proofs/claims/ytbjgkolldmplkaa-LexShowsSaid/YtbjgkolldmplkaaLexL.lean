/- Plain laws of layer 6: what stands behind a token changes nothing; white ahead; two texts, one behind the other. -/
import Derived.Test.YtbjgkolldmplkaaLexT
namespace Go.Proofs.Ytbjgkolldmplkaa
open Go.RowKit

theorem two_app (l y : List UInt8) (h : (twoL l).1 = 0) : twoL (l ++ y) = twoL l := by
  match l with
  | [] => simp [twoL] at h
  | [a] =>
    by_cases h1 : hexV a < 0
    · rw [two_a _ h1] at h; simp at h
    · rw [two_e h1] at h; simp at h
  | a :: b :: r =>
    by_cases h1 : hexV a < 0
    · rw [two_a _ h1] at h; simp at h
    · by_cases h2 : hexV b < 0
      · rw [two_b _ h1 h2] at h; simp at h
      · rw [List.cons_append, List.cons_append, two_ok _ h1 h2, two_ok _ h1 h2]

theorem esc_app (l y : List UInt8) (h : (escL l).1 = 0) : escL (l ++ y) = escL l := by
  match l with
  | [] => simp [escL] at h
  | d :: r =>
    rw [List.cons_append]
    by_cases h1 : d.toNat = 110
    · rw [esc_n _ h1, esc_n _ h1]
    by_cases h2 : d.toNat = 116
    · rw [esc_t _ h2, esc_t _ h2]
    by_cases h3 : d.toNat = 114
    · rw [esc_r _ h3, esc_r _ h3]
    by_cases h4 : d.toNat = 120
    · rw [esc_x _ h4] at h
      rw [esc_x _ h4, esc_x _ h4, two_app r y h]
    cases hs : spB d
    · rw [esc_no _ h1 h2 h3 h4 hs] at h; simp at h
    · rw [esc_sp _ h1 h2 h3 h4 hs, esc_sp _ h1 h2 h3 h4 hs]

theorem one_app (l y : List UInt8) (h : (oneL l).1 = 0) : oneL (l ++ y) = oneL l := by
  match l with
  | [] => simp [oneL] at h
  | c :: r =>
    rw [List.cons_append]
    by_cases h1 : c.toNat = 92
    · rw [one_esc _ h1] at h
      rw [one_esc _ h1, one_esc _ h1, esc_app r y h]
    · cases hp : plB c
      · rw [one_no _ h1 hp] at h; simp at h
      · rw [one_plain _ h1 hp, one_plain _ h1 hp]

theorem drop_app {l y : List UInt8} {m : Nat} (h : m ≤ l.length) : (l ++ y).drop m = l.drop m ++ y := List.drop_append_of_le_length h

theorem quo_app (y : List UInt8) : ∀ (f f' : Nat) (l acc : List UInt8) (n : Nat), f ≤ f' → (quoA f l acc n).1 = 0 → quoA f' (l ++ y) acc n = quoA f l acc n
  | 0, _, l, acc, n, _, h => by simp [quoA] at h
  | f + 1, f', [], acc, n, _, h => by simp [quoA] at h
  | f + 1, 0, c :: r, acc, n, hf, _ => absurd hf (by omega)
  | f + 1, f' + 1, c :: r, acc, n, hf, h => by
    rw [List.cons_append]
    by_cases hq : c.toNat = 34
    · rw [quo_q hq, quo_q hq]
    · by_cases ho : (oneL (c :: r)).1 = 0
      · have e := one_app (c :: r) y ho
        rw [List.cons_append] at e
        rw [quo_go hq ho] at h
        rw [quo_go hq ho, quo_go hq (by rw [e]; exact ho), e]
        have h2 := one_len _ ho
        rw [← List.cons_append, drop_app h2.2]
        exact quo_app y f f' _ _ _ (by omega) h
      · rw [quo_no hq ho] at h
        exact absurd h ho

theorem set_app (y : List UInt8) : ∀ (f f' : Nat) (l : List UInt8) (of : Nat → Bool) (n : Nat), f ≤ f' → (setA f l of n).1 = 0 → setA f' (l ++ y) of n = setA f l of n
  | 0, _, l, of, n, _, h => by simp [setA] at h
  | f + 1, f', [], of, n, _, h => by simp [setA] at h
  | f + 1, 0, c :: r, of, n, hf, _ => absurd hf (by omega)
  | f + 1, f' + 1, c :: r, of, n, hf, h => by
    by_cases hq : c.toNat = 93
    · rw [List.cons_append, set_q hq, set_q hq]
    · by_cases ho : (oneL (c :: r)).1 = 0
      · have e := one_app (c :: r) y ho
        obtain ⟨b, m, hbm⟩ : ∃ b m, oneL (c :: r) = (0, b, m) := ⟨(oneL (c :: r)).2.1, (oneL (c :: r)).2.2, by rw [← ho]⟩
        have h2 := one_len _ ho
        rw [hbm] at h2 e
        simp only at h2
        have hd' := drop_app (y := y) h2.2
        rw [List.cons_append] at e hd' ⊢
        cases hd : (c :: r).drop m with
        | nil =>
          rw [set_one hq hbm (by rw [hd]; intro d hd; cases hd), hd, set_end] at h
          simp at h
        | cons d r' =>
          rw [hd, List.cons_append] at hd'
          by_cases h45 : d.toNat = 45
          · by_cases ho2 : (oneL r').1 = 0
            · have e2 := one_app r' y ho2
              obtain ⟨b2, m2, hbm2⟩ : ∃ b2 m2, oneL r' = (0, b2, m2) := ⟨(oneL r').2.1, (oneL r').2.2, by rw [← ho2]⟩
              have h3 := one_len _ ho2
              rw [hbm2] at h3 e2
              simp only at h3
              by_cases hbb : b2.toNat < b.toNat
              · rw [set_less hq hbm hd h45 hbm2 hbb] at h; simp at h
              · rw [set_two hq hbm hd h45 hbm2 hbb] at h
                rw [set_two hq hbm hd h45 hbm2 hbb, set_two hq e hd' h45 e2 hbb, drop_app h3.2]
                exact set_app y f f' _ _ _ (by omega) h
            · rw [set_bad hq hbm hd h45 ho2] at h
              exact absurd h ho2
          · have hh : ∀ z, ∀ x ∈ (d :: z).head?, x.toNat ≠ 45 := fun z x hx => by
              obtain rfl : d = x := (by simpa using hx)
              exact h45
            rw [set_one hq hbm (by rw [hd]; exact hh _)] at h
            rw [set_one hq hbm (by rw [hd]; exact hh _), set_one hq e (by rw [hd']; exact hh _), hd', hd, ← List.cons_append]
            rw [hd] at h
            exact set_app y f f' _ _ _ (by omega) h
      · rw [set_no hq ho] at h
        exact absurd h ho

theorem text_app (l y : List UInt8) (h : (quoL l).1 = 0) : quoL (l ++ y) = quoL l := by
  unfold quoL at h ⊢
  exact quo_app y _ _ l [] 0 (by rw [List.length_append]; omega) h

theorem setT_app (l y : List UInt8) (h : (setTL l).1 = 0) : setTL (l ++ y) = setTL l := by
  have hE : ∀ (r : Int × (Nat → Bool) × Nat) (b : Bool), (setE r b).1 = 0 → r.1 = 0 := fun r b h => by
    unfold setE at h
    by_cases h1 : r.1 = 0
    · exact h1
    · rw [if_neg h1] at h; exact absurd h h1
  match l with
  | [] => exact absurd h (by decide)
  | c :: r =>
    unfold setTL at h ⊢
    have hh : hatB (c :: r ++ y) = hatB (c :: r) := rfl
    rw [hh]
    cases hb : hatB (c :: r)
    · rw [hb] at h
      simp only [Bool.false_eq_true, if_false] at h ⊢
      have := hE _ _ h
      unfold setLA at this ⊢
      rw [set_app y _ _ _ _ _ (by rw [List.length_append]; omega) this]
    · rw [hb] at h
      simp only [if_true] at h ⊢
      have := hE _ _ h
      unfold setLA at this ⊢
      have hd : (c :: r ++ y).drop 1 = (c :: r).drop 1 ++ y := rfl
      rw [hd, set_app y _ _ _ _ _ (by rw [List.length_append]; omega) this]

theorem tw_app {p : UInt8 → Bool} {c : UInt8} (hc : p c = false) (x : List UInt8) : ∀ l : List UInt8, tw p (l ++ c :: x) = tw p l
  | [] => tw_no x hc
  | d :: r => by
    rw [List.cons_append]
    cases hd : p d
    · rw [tw_no _ hd, tw_no _ hd]
    · rw [tw_yes _ hd, tw_yes _ hd, tw_app hc x r]

/-- A token stays where a line's end follows. -/
theorem tok_app (l x : List UInt8) (h : (tokL l).1 = 0) : tokL (l ++ 10 :: x) = tokL l := by
  match l with
  | [] => simp [tokL] at h
  | c :: r =>
    rw [List.cons_append]
    unfold tokL at h ⊢
    simp only at h ⊢
    cases hl : letB c
    · rw [hl] at h
      simp only [Bool.false_eq_true, if_false] at h ⊢
      cases hd : digB c
      · rw [hd] at h
        simp only [Bool.false_eq_true, if_false] at h ⊢
        by_cases hq : c.toNat = 34
        · rw [if_pos hq] at h
          rw [if_pos hq, if_pos hq]
          have h0 : (quoL r).1 = 0 := by
            by_cases h1 : (quoL r).1 = 0
            · exact h1
            · have : (textL r).1 = (quoL r).1 := by unfold textL; rw [if_neg h1]
              exact this ▸ h
          have : textL (r ++ 10 :: x) = textL r := by unfold textL; rw [text_app r _ h0]
          rw [this]
        · rw [if_neg hq] at h
          rw [if_neg hq, if_neg hq]
          by_cases hb : c.toNat = 91
          · rw [if_pos hb] at h
            rw [if_pos hb, if_pos hb, setT_app r _ h]
          · rw [if_neg hb, if_neg hb]
            unfold signL
            simp only
            have ha : arB (c :: (r ++ 10 :: x)) = arB (c :: r) := by
              match r with
              | [] => simp [arB]
              | d :: r' => rfl
            rw [ha]
      · simp only [if_true]
        unfold numL
        rw [← List.cons_append, tw_app (by decide) x (c :: r), List.take_append_of_le_length (tw_le _ _)]
    · simp only [if_true]
      unfold nameL
      rw [← List.cons_append, tw_app (by decide) x (c :: r), List.take_append_of_le_length (tw_le _ _)]

theorem wh_app (x : List UInt8) : ∀ (b : Bool) (l : List UInt8), whL b l < l.length → whL b (l ++ x) = whL b l
  | b, [], h => by rw [whL_end] at h; simp at h
  | false, c :: r, h => by
    rw [List.cons_append]
    by_cases h1 : c.toNat = 32 ∨ c.toNat = 10 ∨ c.toNat = 13 ∨ c.toNat = 9
    · rw [whL_ws _ h1] at h ⊢
      rw [whL_ws _ h1, wh_app x false r (by simpa using h)]
    · by_cases h2 : c.toNat = 35
      · have h3 : c.toNat ≠ 10 := by omega
        rw [whL_rem _ h2, whL_in _ h3] at h ⊢
        rw [whL_rem _ h2, whL_in _ h3, wh_app x true r (by simpa using h)]
      · rw [whL_no _ h1 h2, whL_no _ h1 h2]
  | true, c :: r, h => by
    rw [List.cons_append]
    by_cases h1 : c.toNat = 10
    · have h2 : c.toNat = 32 ∨ c.toNat = 10 ∨ c.toNat = 13 ∨ c.toNat = 9 := by omega
      rw [whL_out _ h1, whL_ws _ h2] at h ⊢
      rw [whL_out _ h1, whL_ws _ h2, wh_app x false r (by simpa using h)]
    · rw [whL_in _ h1] at h ⊢
      rw [whL_in _ h1, wh_app x true r (by simpa using h)]

/-- White to the end, then a line's end. -/
theorem wh_line (x : List UInt8) : ∀ (b : Bool) (l : List UInt8), whL b l = l.length → whL b (l ++ 10 :: x) = l.length + 1 + whL false x
  | false, [], _ => by
    show whL false (10 :: x) = _
    rw [whL_ws x (.inr (.inl rfl))]
    simp
    omega
  | true, [], _ => by
    show whL true (10 :: x) = _
    rw [whL_out x rfl, whL_ws x (.inr (.inl rfl))]
    simp
    omega
  | false, c :: r, h => by
    rw [List.cons_append]
    by_cases h1 : c.toNat = 32 ∨ c.toNat = 10 ∨ c.toNat = 13 ∨ c.toNat = 9
    · rw [whL_ws _ h1, List.length_cons] at h
      rw [whL_ws _ h1, wh_line x false r (by omega), List.length_cons]
      omega
    · by_cases h2 : c.toNat = 35
      · have h3 : c.toNat ≠ 10 := by omega
        rw [whL_rem _ h2, whL_in _ h3, List.length_cons] at h
        rw [whL_rem _ h2, whL_in _ h3, wh_line x true r (by omega), List.length_cons]
        omega
      · rw [whL_no _ h1 h2] at h; simp at h
  | true, c :: r, h => by
    rw [List.cons_append]
    by_cases h1 : c.toNat = 10
    · have h2 : c.toNat = 32 ∨ c.toNat = 10 ∨ c.toNat = 13 ∨ c.toNat = 9 := by omega
      rw [whL_out _ h1, whL_ws _ h2, List.length_cons] at h
      rw [whL_out _ h1, whL_ws _ h2, wh_line x false r (by omega), List.length_cons]
      omega
    · rw [whL_in _ h1, List.length_cons] at h
      rw [whL_in _ h1, wh_line x true r (by omega), List.length_cons]
      omega

/-- Behind white stands none. -/
theorem wh_drop : ∀ (b : Bool) (l : List UInt8), whL false (l.drop (whL b l)) = 0
  | b, [] => by rw [whL_end]; rfl
  | false, c :: r => by
    by_cases h1 : c.toNat = 32 ∨ c.toNat = 10 ∨ c.toNat = 13 ∨ c.toNat = 9
    · rw [whL_ws _ h1, List.drop_succ_cons]; exact wh_drop false r
    · by_cases h2 : c.toNat = 35
      · rw [whL_rem _ h2, whL_in _ (by omega), List.drop_succ_cons]; exact wh_drop true r
      · rw [whL_no _ h1 h2, List.drop_zero, whL_no _ h1 h2]
  | true, c :: r => by
    by_cases h1 : c.toNat = 10
    · rw [whL_out _ h1, whL_ws _ (by omega), List.drop_succ_cons]; exact wh_drop false r
    · rw [whL_in _ h1, List.drop_succ_cons]; exact wh_drop true r

/-- At a token's own place. -/
theorem next_own (l : List UInt8) (h : whL false l < l.length) (h2 : (tokL (l.drop (whL false l))).1 = 0) :
    nextL (l.drop (whL false l)) = (0, (nextL l).2.1, 0, (nextL l).2.2.2 - whL false l) := by
  have e : nextL l = (0, (tokL (l.drop (whL false l))).2.1, whL false l, whL false l + (tokL (l.drop (whL false l))).2.2) := (if_neg (by omega)).trans (if_pos h2)
  have hw := wh_drop false l
  rw [e]
  simp only
  have hl : (l.drop (whL false l)).length ≠ 0 := by rw [List.length_drop]; omega
  generalize l.drop (whL false l) = l' at *
  refine (if_neg (by rw [hw]; exact fun e => hl e.symm)).trans ?_
  rw [hw, List.drop_zero, if_pos h2]
  simp

/-- Behind a front that is white, with its last line ended. -/
theorem next_front {fl : List UInt8} (hw : ∀ l, whL false (fl ++ l) = fl.length + whL false l) (l : List UInt8) :
    (nextL (fl ++ l)).1 = (nextL l).1 ∧ (nextL (fl ++ l)).2.1 = (nextL l).2.1 ∧ ((nextL l).1 = 0 → (nextL (fl ++ l)).2.2.1 = fl.length + (nextL l).2.2.1) ∧ (nextL (fl ++ l)).2.2.2 = fl.length + (nextL l).2.2.2 := by
  have hd : (fl ++ l).drop (fl.length + whL false l) = l.drop (whL false l) := by rw [List.drop_append]; simp
  by_cases h : whL false l = l.length
  · have e1 : nextL l = (0, tk0, l.length, l.length) := if_pos h
    have e2 : nextL (fl ++ l) = (0, tk0, (fl ++ l).length, (fl ++ l).length) := if_pos (by rw [hw, h, List.length_append])
    rw [e1, e2]
    simp
  · have hn : ¬ whL false (fl ++ l) = (fl ++ l).length := by rw [hw, List.length_append]; omega
    by_cases h2 : (tokL (l.drop (whL false l))).1 = 0
    · have e1 : nextL l = (0, (tokL (l.drop (whL false l))).2.1, whL false l, whL false l + (tokL (l.drop (whL false l))).2.2) := (if_neg h).trans (if_pos h2)
      have e2 : nextL (fl ++ l) = (0, (tokL ((fl ++ l).drop (whL false (fl ++ l)))).2.1, whL false (fl ++ l), whL false (fl ++ l) + (tokL ((fl ++ l).drop (whL false (fl ++ l)))).2.2) := (if_neg hn).trans (if_pos (by rw [hw, hd]; exact h2))
      rw [e1, e2, hw, hd]
      simp
      omega
    · have e1 : nextL l = ((tokL (l.drop (whL false l))).1, tk0, 0, whL false l) := (if_neg h).trans (if_neg h2)
      have e2 : nextL (fl ++ l) = ((tokL ((fl ++ l).drop (whL false (fl ++ l)))).1, tk0, 0, whL false (fl ++ l)) := (if_neg hn).trans (if_neg (by rw [hw, hd]; exact h2))
      rw [e1, e2, hw, hd]
      simp
      exact fun e => absurd e h2

theorem next_prog (l : List UInt8) (h : (nextL l).1 = 0) (hk : (nextL l).2.1.kind ≠ 0) : 1 ≤ (nextL l).2.2.2 ∧ (nextL l).2.2.2 ≤ l.length := by
  rcases next_cases l with ⟨_, e⟩ | ⟨_, _, _, _, h3, h4⟩ | ⟨_, h3, e⟩
  · rw [e] at hk; exact absurd rfl hk
  · exact ⟨by omega, h4⟩
  · rw [e] at h; exact absurd h h3

theorem all_end {f : Nat} {l : List UInt8} {k : Nat} {acc : List (Tk × Nat)} (h : (nextL l).1 = 0) (hk : (nextL l).2.1.kind = 0) : allA (f + 1) l k acc = (0, acc, k + l.length) := (if_pos h).trans (if_pos hk)
theorem all_go {f : Nat} {l : List UInt8} {k : Nat} {acc : List (Tk × Nat)} (h : (nextL l).1 = 0) (hk : (nextL l).2.1.kind ≠ 0) :
    allA (f + 1) l k acc = allA f (l.drop (nextL l).2.2.2) (k + (nextL l).2.2.2) (acc ++ [((nextL l).2.1, k + (nextL l).2.2.1)]) := (if_pos h).trans (if_neg hk)
theorem all_err {f : Nat} {l : List UInt8} {k : Nat} {acc : List (Tk × Nat)} (h : (nextL l).1 ≠ 0) : allA (f + 1) l k acc = ((nextL l).1, [], k + (nextL l).2.2.2) := if_neg h

/-- Fuel enough is enough. -/
theorem all_fuel : ∀ (f f' : Nat) (l : List UInt8) (k : Nat) (acc : List (Tk × Nat)), l.length < f → l.length < f' → allA f l k acc = allA f' l k acc
  | 0, _, l, k, acc, h, _ => absurd h (by omega)
  | _ + 1, 0, l, k, acc, _, h => absurd h (by omega)
  | f + 1, f' + 1, l, k, acc, h, h' => by
    by_cases h1 : (nextL l).1 = 0
    · by_cases h2 : (nextL l).2.1.kind = 0
      · rw [all_end h1 h2, all_end h1 h2]
      · have := next_prog l h1 h2
        rw [all_go h1 h2, all_go h1 h2]
        exact all_fuel f f' _ _ _ (by rw [List.length_drop]; omega) (by rw [List.length_drop]; omega)
    · rw [all_err h1, all_err h1]

/-- Places turned by d. -/
def shT (d : Nat) (L : List (Tk × Nat)) : List (Tk × Nat) := L.map fun t => (t.1, t.2 + d)

theorem shT_length (d : Nat) (L : List (Tk × Nat)) : (shT d L).length = L.length := by simp [shT]

theorem all_shift (d : Nat) : ∀ (f : Nat) (l : List UInt8) (k : Nat) (acc : List (Tk × Nat)),
    allA f l (k + d) (shT d acc) = ((allA f l k acc).1, shT d (allA f l k acc).2.1, (allA f l k acc).2.2 + d)
  | 0, l, k, acc => by simp [allA]; omega
  | f + 1, l, k, acc => by
    by_cases h1 : (nextL l).1 = 0
    · by_cases h2 : (nextL l).2.1.kind = 0
      · rw [all_end h1 h2, all_end h1 h2]; simp; omega
      · rw [all_go h1 h2, all_go h1 h2, ← all_shift d f]
        congr 1
        · omega
        · simp [shT]; omega
    · rw [all_err h1, all_err h1]; simp [shT]; omega

theorem all_acc : ∀ (f : Nat) (l : List UInt8) (k : Nat) (acc : List (Tk × Nat)),
    allA f l k acc = ((allA f l k []).1, if (allA f l k []).1 = 0 then acc ++ (allA f l k []).2.1 else [], (allA f l k []).2.2)
  | 0, l, k, acc => by simp [allA]
  | f + 1, l, k, acc => by
    by_cases h1 : (nextL l).1 = 0
    · by_cases h2 : (nextL l).2.1.kind = 0
      · rw [all_end h1 h2, all_end h1 h2]; simp
      · rw [all_go h1 h2, all_go h1 h2, all_acc f _ _ (acc ++ _), all_acc f _ _ ([] ++ _)]
        simp only [List.nil_append, Prod.mk.injEq, true_and, and_true]
        split
        · rw [List.append_assoc]
        · rfl
    · rw [all_err h1, all_err h1]; simp [h1]

/-- A front that is white turns nothing but places. -/
theorem all_front {fl : List UInt8} (hw : ∀ l, whL false (fl ++ l) = fl.length + whL false l) (f f' : Nat) (l : List UInt8) (k : Nat) (acc : List (Tk × Nat)) (h : (fl ++ l).length < f) (h' : l.length < f') :
    allA f (fl ++ l) k acc = allA f' l (k + fl.length) acc := by
  obtain ⟨f, rfl⟩ : ∃ g, f = g + 1 := ⟨f - 1, by omega⟩
  obtain ⟨f', rfl⟩ : ∃ g, f' = g + 1 := ⟨f' - 1, by omega⟩
  obtain ⟨e1, e2, e3, e4⟩ := next_front hw l
  rw [List.length_append] at h
  by_cases h1 : (nextL l).1 = 0
  · by_cases h2 : (nextL l).2.1.kind = 0
    · rw [all_end h1 h2, all_end (by rw [e1]; exact h1) (by rw [e2]; exact h2), List.length_append, Nat.add_assoc]
    · have hp := next_prog l h1 h2
      rw [all_go h1 h2, all_go (by rw [e1]; exact h1) (by rw [e2]; exact h2), e2, e3 h1, e4]
      have hd : (fl ++ l).drop (fl.length + (nextL l).2.2.2) = l.drop (nextL l).2.2.2 := by rw [List.drop_append]; simp
      rw [hd, Nat.add_assoc, Nat.add_assoc]
      exact all_fuel _ _ _ _ _ (by rw [List.length_drop]; omega) (by rw [List.length_drop]; omega)
  · rw [all_err h1, all_err (by rw [e1]; exact h1), e1, e4, Nat.add_assoc]

theorem all_white {fl : List UInt8} (hw : ∀ l, whL false (fl ++ l) = fl.length + whL false l) (l : List UInt8) :
    allL (fl ++ l) = ((allL l).1, shT fl.length (allL l).2.1, (allL l).2.2 + fl.length) := by
  unfold allL
  rw [all_front hw _ (l.length + 1) l 0 [] (Nat.lt_succ_self _) (Nat.lt_succ_self _)]
  exact all_shift fl.length _ l 0 []

/-- A text that is told to its end, a line's end, another text. -/
theorem all_line (x : List UInt8) : ∀ (f F F' : Nat) (l : List UInt8) (k : Nat) (acc : List (Tk × Nat)), l.length < f → (l ++ 10 :: x).length < F → x.length < F' → (allA f l k acc).1 = 0 →
    allA F (l ++ 10 :: x) k acc = allA F' x (k + (l.length + 1)) (allA f l k acc).2.1
  | 0, _, _, l, k, acc, h, _, _, _ => absurd h (by omega)
  | f + 1, F, F', l, k, acc, hf, hF, hF', h => by
    rcases next_cases l with ⟨hw, e⟩ | ⟨hlt, ht, e, hk, h3, h4⟩ | ⟨hlt, ht, e⟩
    · have h1 : (nextL l).1 = 0 := by rw [e]
      have h2 : (nextL l).2.1.kind = 0 := by rw [e]; rfl
      rw [all_end h1 h2]
      have hfr : ∀ y, whL false ((l ++ [10]) ++ y) = (l ++ [10]).length + whL false y := fun y => by
        rw [List.append_assoc]
        have := wh_line y false l hw
        rw [List.length_append]
        exact this
      have := all_front hfr F F' x k acc (by rw [List.append_assoc]; exact hF) hF'
      rw [List.append_assoc, List.length_append] at this
      exact this
    · have h1 : (nextL l).1 = 0 := by rw [e]
      have hw := wh_app (10 :: x) false l hlt
      have hdr : (l ++ 10 :: x).drop (whL false l) = l.drop (whL false l) ++ 10 :: x := drop_app (by omega)
      have e' : nextL (l ++ 10 :: x) = nextL l := by
        rw [e]
        refine (if_neg (by rw [hw, List.length_append]; omega)).trans ?_
        rw [hw, hdr, tok_app _ x ht]
        exact if_pos ht
      obtain ⟨F, rfl⟩ : ∃ g, F = g + 1 := ⟨F - 1, by omega⟩
      rw [all_go h1 hk] at h ⊢
      rw [all_go (by rw [e']; exact h1) (by rw [e']; exact hk), e', drop_app h4]
      rw [List.length_append] at hF
      have ih := all_line x f F F' (l.drop (nextL l).2.2.2) (k + (nextL l).2.2.2) _ (by rw [List.length_drop]; omega) (by rw [List.length_append, List.length_drop]; omega) hF' h
      rw [ih, List.length_drop]
      congr 1
      omega
    · have h1 : (nextL l).1 ≠ 0 := by rw [e]; exact ht
      rw [all_err h1] at h
      exact absurd h h1

theorem all_join (l x : List UInt8) (h : (allL l).1 = 0) :
    allL (l ++ 10 :: x) = ((allL x).1, if (allL x).1 = 0 then (allL l).2.1 ++ shT (l.length + 1) (allL x).2.1 else [], (allL x).2.2 + (l.length + 1)) := by
  unfold allL at h ⊢
  rw [all_line x _ _ (x.length + 1) l 0 [] (Nat.lt_succ_self _) (Nat.lt_succ_self _) (Nat.lt_succ_self _) h, all_acc]
  have := all_shift (l.length + 1) (x.length + 1) x 0 []
  rw [show shT (l.length + 1) [] = [] from rfl] at this
  rw [this]

/-- Tokens one behind the other. -/
def Ch (l : List UInt8) : Nat → List (Tk × Nat) → Prop
  | _, [] => True
  | k, t :: rest => k ≤ t.2 ∧ ∃ n, 1 ≤ n ∧ nextL (l.drop t.2) = (0, t.1, 0, n) ∧ t.2 + n ≤ l.length ∧ Ch l (t.2 + n) rest

theorem all_chain (l : List UInt8) : ∀ (f k : Nat) (acc : List (Tk × Nat)), k ≤ l.length → (allA f (l.drop k) k acc).1 = 0 → ∃ rest, (allA f (l.drop k) k acc).2.1 = acc ++ rest ∧ Ch l k rest
  | 0, k, acc, _, _ => ⟨[], by simp [allA], trivial⟩
  | f + 1, k, acc, hk, h => by
    rcases next_cases (l.drop k) with ⟨hw, e⟩ | ⟨hlt, ht, e, hkd, h3, h4⟩ | ⟨hlt, ht, e⟩
    · have h1 : (nextL (l.drop k)).1 = 0 := by rw [e]
      have h2 : (nextL (l.drop k)).2.1.kind = 0 := by rw [e]; rfl
      rw [all_end h1 h2]
      exact ⟨[], by simp, trivial⟩
    · have h1 : (nextL (l.drop k)).1 = 0 := by rw [e]
      rw [all_go h1 hkd] at h ⊢
      have hown := next_own _ hlt ht
      have ha : (nextL (l.drop k)).2.2.1 = whL false (l.drop k) := by rw [e]
      rw [List.length_drop] at h4 hlt
      rw [List.drop_drop] at h hown ⊢
      generalize nextL (l.drop k) = r at *
      obtain ⟨rest, hr1, hr2⟩ := all_chain l f (k + r.2.2.2) _ (by omega) h
      refine ⟨(r.2.1, k + r.2.2.1) :: rest, by rw [hr1]; simp, by simp, r.2.2.2 - whL false (l.drop k), by omega, ?_, by simp only; omega, ?_⟩
      · rw [ha]; exact hown
      · simp only
        rw [ha, show k + whL false (l.drop k) + (r.2.2.2 - whL false (l.drop k)) = k + r.2.2.2 by omega]
        exact hr2
    · have h1 : (nextL (l.drop k)).1 ≠ 0 := by rw [e]; exact ht
      rw [all_err h1] at h
      exact absurd h h1

theorem ch_at (l : List UInt8) : ∀ (k : Nat) (L : List (Tk × Nat)) (i : Nat), Ch l k L → i < L.length →
    ∃ n, 1 ≤ n ∧ nextL (l.drop (L.getD i (tk0, 0)).2) = (0, (L.getD i (tk0, 0)).1, 0, n) ∧ (L.getD i (tk0, 0)).2 + n ≤ l.length ∧ (i + 1 < L.length → (L.getD i (tk0, 0)).2 + n ≤ (L.getD (i + 1) (tk0, 0)).2)
  | _, [], i, _, hi => absurd hi (by simp)
  | k, t :: rest, 0, ⟨_, n, h1, h2, h3, h4⟩, _ => by
    refine ⟨n, h1, h2, h3, fun hlt => ?_⟩
    cases rest with
    | nil => simp at hlt
    | cons t2 rest => exact h4.1
  | k, t :: rest, i + 1, ⟨_, n, _, _, _, h4⟩, hi => by
    obtain ⟨m, g1, g2, g3, g4⟩ := ch_at l _ rest i h4 (by simpa using hi)
    exact ⟨m, g1, g2, g3, fun hlt => g4 (by simpa using hlt)⟩

theorem all_at (l : List UInt8) (h : (allL l).1 = 0) (i : Nat) (hi : i < (allL l).2.1.length) :
    ∃ n, 1 ≤ n ∧ nextL (l.drop ((allL l).2.1.getD i (tk0, 0)).2) = (0, ((allL l).2.1.getD i (tk0, 0)).1, 0, n) ∧ ((allL l).2.1.getD i (tk0, 0)).2 + n ≤ l.length ∧
      (i + 1 < (allL l).2.1.length → ((allL l).2.1.getD i (tk0, 0)).2 + n ≤ ((allL l).2.1.getD (i + 1) (tk0, 0)).2) := by
  obtain ⟨rest, hr, hc⟩ := all_chain l (l.length + 1) 0 [] (Nat.zero_le _) h
  rw [List.nil_append] at hr
  have e : (allL l).2.1 = rest := hr
  rw [e] at hi ⊢
  exact ch_at l 0 rest i hc hi

theorem all_len (l : List UInt8) : (allL l).2.1.length ≤ l.length := by
  have : ∀ (f : Nat) (l : List UInt8) (k : Nat) (acc : List (Tk × Nat)), (allA f l k acc).2.1.length ≤ acc.length + l.length := by
    intro f
    induction f with
    | zero => intro l k acc; simp [allA]
    | succ f ih =>
      intro l k acc
      by_cases h1 : (nextL l).1 = 0
      · by_cases h2 : (nextL l).2.1.kind = 0
        · rw [all_end h1 h2]; simp
        · have hp := next_prog l h1 h2
          rw [all_go h1 h2]
          have := ih (l.drop (nextL l).2.2.2) (k + (nextL l).2.2.2) (acc ++ [((nextL l).2.1, k + (nextL l).2.2.1)])
          rw [List.length_append, List.length_drop] at this
          simp at this
          omega
      · rw [all_err h1]; simp
  have := this (l.length + 1) l 0 []
  simpa [allL] using this

/-- An error leaves no tokens. -/
theorem all_none (l : List UInt8) (h : (allL l).1 ≠ 0) : (allL l).2.1 = [] := by
  have : ∀ (f : Nat) (l : List UInt8) (k : Nat) (acc : List (Tk × Nat)), (allA f l k acc).1 ≠ 0 → (allA f l k acc).2.1 = [] := by
    intro f
    induction f with
    | zero => intro l k acc h; exact absurd rfl h
    | succ f ih =>
      intro l k acc h
      by_cases h1 : (nextL l).1 = 0
      · by_cases h2 : (nextL l).2.1.kind = 0
        · rw [all_end h1 h2] at h; exact absurd rfl h
        · rw [all_go h1 h2] at h ⊢
          exact ih _ _ _ h
      · rw [all_err h1]
  exact this _ l 0 [] h

end Go.Proofs.Ytbjgkolldmplkaa
