/- Plain words of layer 6: texts, sets, signs, tokens, read from a place on. -/
import Derived.Test.YtbjgkolldmplkaaLexP
namespace Go.Proofs.Ytbjgkolldmplkaa
open Go.RowKit

theorem two_len (l : List UInt8) (h : (twoL l).1 = 0) : (twoL l).2.2 = 2 ∧ 2 ≤ l.length := by
  match l with
  | [] => simp [twoL] at h
  | [a] =>
    by_cases h1 : hexV a < 0
    · rw [two_a _ h1] at h; simp at h
    · rw [two_e h1] at h; simp at h
  | a :: b :: r =>
    by_cases h1 : hexV a < 0
    · rw [two_a _ h1] at h; simp at h
    · by_cases h2 : hexV b < 0
      · rw [two_b _ h1 h2] at h; simp at h
      · rw [two_ok _ h1 h2]; exact ⟨rfl, by simp⟩

theorem esc_len (l : List UInt8) (h : (escL l).1 = 0) : 2 ≤ (escL l).2.2 ∧ (escL l).2.2 ≤ l.length + 1 := by
  match l with
  | [] => simp [escL] at h
  | d :: r =>
    by_cases h1 : d.toNat = 110
    · rw [esc_n _ h1]; exact ⟨Nat.le_refl _, by simp⟩
    by_cases h2 : d.toNat = 116
    · rw [esc_t _ h2]; exact ⟨Nat.le_refl _, by simp⟩
    by_cases h3 : d.toNat = 114
    · rw [esc_r _ h3]; exact ⟨Nat.le_refl _, by simp⟩
    by_cases h4 : d.toNat = 120
    · rw [esc_x _ h4] at h ⊢
      obtain ⟨e1, e2⟩ := two_len r h
      simp only [e1, List.length_cons]
      omega
    cases hs : spB d
    · rw [esc_no _ h1 h2 h3 h4 hs] at h; simp at h
    · rw [esc_sp _ h1 h2 h3 h4 hs]; exact ⟨Nat.le_refl _, by simp⟩

theorem one_len (l : List UInt8) (h : (oneL l).1 = 0) : 1 ≤ (oneL l).2.2 ∧ (oneL l).2.2 ≤ l.length := by
  match l with
  | [] => simp [oneL] at h
  | c :: r =>
    by_cases h1 : c.toNat = 92
    · rw [one_esc _ h1] at h ⊢
      have := esc_len r h
      rw [List.length_cons]
      omega
    · cases hp : plB c
      · rw [one_no _ h1 hp] at h; simp at h
      · rw [one_plain _ h1 hp]; exact ⟨Nat.le_refl _, by simp⟩

/-- A text's bytes up to the quote. -/
def quoA : Nat → List UInt8 → List UInt8 → Nat → Int × List UInt8 × Nat
  | 0, _, _, _ => (6, [], 0)
  | _ + 1, [], _, _ => (6, [], 0)
  | f + 1, c :: r, acc, n => if c.toNat = 34 then (0, acc, n + 1) else if (oneL (c :: r)).1 = 0 then quoA f ((c :: r).drop (oneL (c :: r)).2.2) (acc ++ [(oneL (c :: r)).2.1]) (n + (oneL (c :: r)).2.2) else ((oneL (c :: r)).1, [], 0)

theorem quo_q {f : Nat} {c : UInt8} {r acc : List UInt8} {n : Nat} (h : c.toNat = 34) : quoA (f + 1) (c :: r) acc n = (0, acc, n + 1) := if_pos h
theorem quo_go {f : Nat} {c : UInt8} {r acc : List UInt8} {n : Nat} (h : c.toNat ≠ 34) (h2 : (oneL (c :: r)).1 = 0) :
    quoA (f + 1) (c :: r) acc n = quoA f ((c :: r).drop (oneL (c :: r)).2.2) (acc ++ [(oneL (c :: r)).2.1]) (n + (oneL (c :: r)).2.2) := (if_neg h).trans (if_pos h2)
theorem quo_no {f : Nat} {c : UInt8} {r acc : List UInt8} {n : Nat} (h : c.toNat ≠ 34) (h2 : (oneL (c :: r)).1 ≠ 0) : quoA (f + 1) (c :: r) acc n = ((oneL (c :: r)).1, [], 0) := (if_neg h).trans (if_neg h2)
theorem quo_end {f : Nat} {acc : List UInt8} {n : Nat} : quoA f [] acc n = (6, [], 0) := by cases f <;> rfl

def quoL (l : List UInt8) : Int × List UInt8 × Nat := quoA (l.length + 1) l [] 0
/-- A text, behind its quote. -/
def textL (l : List UInt8) : Int × Tk × Nat := if (quoL l).1 = 0 then (if 256 < (quoL l).2.1.length then (2, tk0, 0) else (0, ⟨2, (quoL l).2.1, sNone, 0⟩, (quoL l).2.2)) else ((quoL l).1, tk0, 0)

/-- A set's bytes up to the bracket. -/
def setA : Nat → List UInt8 → (Nat → Bool) → Nat → Int × (Nat → Bool) × Nat
  | 0, _, _, _ => (6, sNone, 0)
  | _ + 1, [], _, _ => (6, sNone, 0)
  | f + 1, c :: r, of, n =>
    if c.toNat = 93 then (0, of, n + 1) else if (oneL (c :: r)).1 = 0 then
      (match (c :: r).drop (oneL (c :: r)).2.2 with
        | [] => setA f [] (sAny of (sSpan (oneL (c :: r)).2.1.toNat (oneL (c :: r)).2.1.toNat)) (n + (oneL (c :: r)).2.2)
        | d :: r' => if d.toNat = 45 then
            (if (oneL r').1 = 0 then
              (if (oneL r').2.1.toNat < (oneL (c :: r)).2.1.toNat then (4, sNone, 0)
               else setA f (r'.drop (oneL r').2.2) (sAny of (sSpan (oneL (c :: r)).2.1.toNat (oneL r').2.1.toNat)) (n + (oneL (c :: r)).2.2 + 1 + (oneL r').2.2))
             else ((oneL r').1, sNone, 0))
          else setA f (d :: r') (sAny of (sSpan (oneL (c :: r)).2.1.toNat (oneL (c :: r)).2.1.toNat)) (n + (oneL (c :: r)).2.2))
    else ((oneL (c :: r)).1, sNone, 0)

theorem set_end {f : Nat} {of : Nat → Bool} {n : Nat} : setA f [] of n = (6, sNone, 0) := by cases f <;> rfl
theorem set_q {f : Nat} {c : UInt8} {r : List UInt8} {of : Nat → Bool} {n : Nat} (h : c.toNat = 93) : setA (f + 1) (c :: r) of n = (0, of, n + 1) := if_pos h
theorem set_no {f : Nat} {c : UInt8} {r : List UInt8} {of : Nat → Bool} {n : Nat} (h : c.toNat ≠ 93) (h2 : (oneL (c :: r)).1 ≠ 0) : setA (f + 1) (c :: r) of n = ((oneL (c :: r)).1, sNone, 0) :=
  (if_neg h).trans (if_neg h2)
/-- One byte alone. -/
theorem set_one {f : Nat} {c : UInt8} {r : List UInt8} {of : Nat → Bool} {n : Nat} {b : UInt8} {m : Nat} (h : c.toNat ≠ 93) (h2 : oneL (c :: r) = (0, b, m)) (h3 : ∀ d ∈ ((c :: r).drop m).head?, d.toNat ≠ 45) :
    setA (f + 1) (c :: r) of n = setA f ((c :: r).drop m) (sAny of (sSpan b.toNat b.toNat)) (n + m) := by
  refine (if_neg h).trans ((if_pos (by rw [h2])).trans ?_)
  rw [h2]
  simp only
  cases hd : (c :: r).drop m with
  | nil => rfl
  | cons d r' =>
    rw [hd] at h3
    exact if_neg (h3 d rfl)
theorem set_two {f : Nat} {c : UInt8} {r : List UInt8} {of : Nat → Bool} {n : Nat} {b b2 d : UInt8} {m m2 : Nat} {r' : List UInt8} (h : c.toNat ≠ 93) (h2 : oneL (c :: r) = (0, b, m)) (h3 : (c :: r).drop m = d :: r') (h4 : d.toNat = 45)
    (h5 : oneL r' = (0, b2, m2)) (h6 : ¬ b2.toNat < b.toNat) :
    setA (f + 1) (c :: r) of n = setA f (r'.drop m2) (sAny of (sSpan b.toNat b2.toNat)) (n + m + 1 + m2) := by
  refine (if_neg h).trans ((if_pos (by rw [h2])).trans ?_)
  rw [h2]
  simp only
  rw [h3]
  simp only
  rw [if_pos h4, if_pos (by rw [h5]), if_neg (by rw [h5]; exact h6), h5]
theorem set_less {f : Nat} {c : UInt8} {r : List UInt8} {of : Nat → Bool} {n : Nat} {b b2 d : UInt8} {m m2 : Nat} {r' : List UInt8} (h : c.toNat ≠ 93) (h2 : oneL (c :: r) = (0, b, m)) (h3 : (c :: r).drop m = d :: r') (h4 : d.toNat = 45)
    (h5 : oneL r' = (0, b2, m2)) (h6 : b2.toNat < b.toNat) : setA (f + 1) (c :: r) of n = (4, sNone, 0) := by
  refine (if_neg h).trans ((if_pos (by rw [h2])).trans ?_)
  rw [h2]
  simp only
  rw [h3]
  simp only
  rw [if_pos h4, if_pos (by rw [h5]), if_pos (by rw [h5]; exact h6)]
theorem set_bad {f : Nat} {c : UInt8} {r : List UInt8} {of : Nat → Bool} {n : Nat} {b d : UInt8} {m : Nat} {r' : List UInt8} (h : c.toNat ≠ 93) (h2 : oneL (c :: r) = (0, b, m)) (h3 : (c :: r).drop m = d :: r') (h4 : d.toNat = 45)
    (h5 : (oneL r').1 ≠ 0) : setA (f + 1) (c :: r) of n = ((oneL r').1, sNone, 0) := by
  refine (if_neg h).trans ((if_pos (by rw [h2])).trans ?_)
  rw [h2]
  simp only
  rw [h3]
  simp only
  rw [if_pos h4, if_neg h5]

def setLA (l : List UInt8) (n : Nat) : Int × (Nat → Bool) × Nat := setA (l.length + 1) l sNone n
/-- Does a set begin with ^? -/
def hatB : List UInt8 → Bool
  | [] => false
  | c :: _ => decide (c.toNat = 94)
def setE (r : Int × (Nat → Bool) × Nat) (neg : Bool) : Int × Tk × Nat := if r.1 = 0 then (0, ⟨3, [], if neg then sNot r.2.1 else r.2.1, 0⟩, r.2.2) else (r.1, tk0, 0)
/-- A set, behind its bracket. -/
def setTL (l : List UInt8) : Int × Tk × Nat := if hatB l then setE (setLA (l.drop 1) 1) true else setE (setLA l 0) false

/-- The signs of one byte. -/
def sgL : List UInt8 := [61, 59, 40, 41, 124, 38, 33, 42, 43, 63, 58, 46, 47, 44, 123, 125, 126, 62]
def sgB (c : UInt8) : Bool := sgL.contains c
/-- Does it begin with the arrow? -/
def arB : List UInt8 → Bool
  | a :: b :: _ => decide (a.toNat = 45) && decide (b.toNat = 62)
  | _ => false
/-- A sign. -/
def signL : List UInt8 → Int × Tk × Nat
  | [] => (4, tk0, 0)
  | c :: r => if arB (c :: r) then (0, ⟨4, [45, 62], sNone, 0⟩, 2) else if sgB c then (0, ⟨4, [c], sNone, 0⟩, 1) else (4, tk0, 0)

/-- A token. -/
def tokL : List UInt8 → Int × Tk × Nat
  | [] => (4, tk0, 0)
  | c :: r => if letB c then nameL (c :: r) else if digB c then numL (c :: r) else if c.toNat = 34 then ((textL r).1, (textL r).2.1, (textL r).2.2 + 1)
    else if c.toNat = 91 then ((setTL r).1, (setTL r).2.1, (setTL r).2.2 + 1) else signL (c :: r)

/-- The token behind white: the error's number, the token, its place, the place behind. -/
def nextL (l : List UInt8) : Int × Tk × Nat × Nat :=
  if whL false l = l.length then (0, tk0, l.length, l.length) else
    if (tokL (l.drop (whL false l))).1 = 0 then (0, (tokL (l.drop (whL false l))).2.1, whL false l, whL false l + (tokL (l.drop (whL false l))).2.2)
    else ((tokL (l.drop (whL false l))).1, tk0, 0, whL false l)

end Go.Proofs.Ytbjgkolldmplkaa
