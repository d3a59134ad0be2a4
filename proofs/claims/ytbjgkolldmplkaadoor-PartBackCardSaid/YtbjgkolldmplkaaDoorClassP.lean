/- Plain laws of part.Class: which set has a byte. -/
import Derived.Test.YtbjgkolldmplkaaDoorSetsF
import Derived.Test.YtbjgkolldmplkaaDoorFirst
namespace Go.Proofs.YtbjgkolldmplkaaDoor
open Go.RowKit Go.Sort

/-- A result that is a row of numbers, and an error. -/
def GInts (R : List Int) (er : Int) (w : World) (e : Ending) (W' : World) : Prop :=
  ∃ A c, e = .returned (.tuple #[.slice A R.length c, .int .i64 er]) ∧ Reads W' W'.heap.size 1 A R.length (intVals R) ∧ R.length ≤ c ∧ c ≤ maxLen ∧ Below w.heap.size w W'

theorem gints_none {w w' : World} (hb : Below w.heap.size w w') : GInts [] 1 w (.returned (.tuple #[.slice none 0 0, .int .i64 1])) w' :=
  ⟨none, 0, rfl, Reads.none_, Nat.le_refl _, Nat.zero_le _, hb⟩

/-- A row of 256 numbers, as cells. -/
def iCells (f : Nat → Int) : Array Value := ((List.range 256).map fun b => .int .i64 (f b)).toArray

theorem iCells_get (f : Nat → Int) (b : Nat) (h : b < 256) : (iCells f)[b]? = some (.int .i64 (f b)) := by simp [iCells, h]

theorem iCells_set (f : Nat → Int) (b : Nat) (v : Int) : (iCells f).setIfInBounds b (.int .i64 v) = iCells (fun c => if c = b then v else f c) := by
  unfold iCells
  rw [List.setIfInBounds_toArray]
  congr 1
  apply List.ext_getElem?
  intro j
  rw [List.getElem?_set]
  by_cases hj : b = j
  · subst hj
    by_cases h : b < 256 <;> simp [h]
  · have hj2 : ¬ j = b := fun e => hj e.symm
    by_cases h : j < 256 <;> simp [h, hj, hj2]

theorem iCells_congr {f g : Nat → Int} (h : ∀ b, b < 256 → f b = g b) : iCells f = iCells g := by
  unfold iCells
  congr 1
  apply List.map_congr_left
  intro b hb
  rw [h b (by simpa using hb)]

theorem int_info : (Tryd.prog.info? 3).map (fun i => (i.zero, i.size, i.bytes)) = some (some (.int .i64 0), 1, 8) := by kernel_rfl

theorem madeI256 (W : World) : (Instr.makeSlice 26 (.int .i64 256) (.int .i64 256)).run Tryd.prog W = .ok (.slice (some ⟨W.heap.size, 0, none⟩) 256 256) (W.alloc (.cells (iCells (fun _ => 0)) 3)) := by
  obtain ⟨i0, hi0, hz0, hz1, hz2⟩ := info_parts int_info
  have hr := run_make (P := Tryd.prog) W 26 3 i0 _ Tryd.underlying26 hi0 hz0 .i64 .i64 256 256 (by omega) (by omega) (by rw [hz2]; decide) (by decide)
  rw [hr, hz1]
  have e : madeCells (Value.int .i64 0).cells (Int.toNat 256 * 1) = iCells (fun _ => 0) := by kernel_rfl
  rw [e]
  rfl

/-- The class of each byte after i sets; below 0: none. -/
def clsA (L : List (Nat → Bool)) : Nat → Nat → Int
  | 0, _ => -1
  | i + 1, b => if L.getD i sNone b then (i : Int) else clsA L i b

/-- The least byte of the set ahead. -/
def lastI (L : List (Nat → Bool)) : Nat → Int
  | 0 => -1
  | i + 1 => ((sLeast (L.getD i sNone) : Nat) : Int)

/-- No byte of m below n has a class. -/
def noHit (m : Nat → Bool) (f : Nat → Int) : Nat → Bool
  | 0 => true
  | n + 1 => noHit m f n && (!m n || decide (f n < 0))

/-- The first i sets: none is empty, the least ones rise, none has a byte of another. -/
def okC (L : List (Nat → Bool)) : Nat → Bool
  | 0 => true
  | i + 1 => okC L i && (decide (sLeast (L.getD i sNone) < 256) && (decide (lastI L i < ((sLeast (L.getD i sNone) : Nat) : Int)) && noHit (L.getD i sNone) (clsA L i) 256))

/-- Each byte below n has a class. -/
def covI (f : Nat → Int) : Nat → Bool
  | 0 => true
  | n + 1 => covI f n && decide (0 ≤ f n)

theorem noHit_no {m : Nat → Bool} {f : Nat → Int} : ∀ (n k : Nat), k < n → m k = true → 0 ≤ f k → noHit m f n = false
  | 0, k, h, _, _ => absurd h (by omega)
  | n + 1, k, h, h1, h2 => by
    rw [noHit]
    by_cases e : k = n
    · subst e
      have : decide (f k < 0) = false := by simp; omega
      rw [h1, this]; simp
    · rw [noHit_no n k (by omega) h1 h2]; rfl

theorem noHit_yes {m : Nat → Bool} {f : Nat → Int} (n : Nat) (h : noHit m f n = true) (h1 : m n = false ∨ f n < 0) : noHit m f (n + 1) = true := by
  rw [noHit, h]
  rcases h1 with h1 | h1 <;> simp [h1]

theorem okC_no {L : List (Nat → Bool)} : ∀ (n k : Nat), k < n → okC L (k + 1) = false → okC L n = false
  | 0, k, h, _ => absurd h (by omega)
  | n + 1, k, h, h1 => by
    by_cases e : k = n
    · subst e; exact h1
    · rw [okC, okC_no n k (by omega) h1]; rfl

theorem okC_empty {L : List (Nat → Bool)} (i : Nat) (h : ¬ sLeast (L.getD i sNone) < 256) : okC L (i + 1) = false := by
  rw [okC, decide_eq_false h]; simp
theorem okC_last {L : List (Nat → Bool)} (i : Nat) (h : ¬ lastI L i < ((sLeast (L.getD i sNone) : Nat) : Int)) : okC L (i + 1) = false := by
  rw [okC, decide_eq_false h]; simp
theorem okC_hit {L : List (Nat → Bool)} (i : Nat) (h : noHit (L.getD i sNone) (clsA L i) 256 = false) : okC L (i + 1) = false := by
  rw [okC, h]; simp
theorem okC_yes {L : List (Nat → Bool)} (i : Nat) (h0 : okC L i = true) (h1 : sLeast (L.getD i sNone) < 256) (h2 : lastI L i < ((sLeast (L.getD i sNone) : Nat) : Int)) (h3 : noHit (L.getD i sNone) (clsA L i) 256 = true) : okC L (i + 1) = true := by
  rw [okC, h0, decide_eq_true h1, decide_eq_true h2, h3]; rfl

theorem covI_no {f : Nat → Int} : ∀ (n k : Nat), k < n → f k < 0 → covI f n = false
  | 0, k, h, _ => absurd h (by omega)
  | n + 1, k, h, h1 => by
    rw [covI]
    by_cases e : k = n
    · subst e
      have : decide (0 ≤ f k) = false := by simp; omega
      rw [this]; simp
    · rw [covI_no n k (by omega) h1]; rfl
theorem covI_yes {f : Nat → Int} (n : Nat) (h : covI f n = true) (h1 : 0 ≤ f n) : covI f (n + 1) = true := by
  rw [covI, h, decide_eq_true h1]; rfl

/-- Is a row a partition, as Class asks it? -/
def classB (L : List (Nat → Bool)) : Bool := okC L L.length && covI (clsA L L.length) 256
/-- What Class gives. -/
def classR (L : List (Nat → Bool)) : List Int := if classB L then (List.range 256).map (clsA L L.length) else []
def classE (L : List (Nat → Bool)) : Int := if classB L then 0 else 1

theorem class_no {L : List (Nat → Bool)} (h : classB L = false) : classR L = [] ∧ classE L = 1 := by
  unfold classR classE
  rw [h]
  exact ⟨rfl, rfl⟩

theorem intVals_iCells (f : Nat → Int) : (intVals ((List.range 256).map f)).toArray = iCells f := by
  unfold intVals iCells
  rw [List.map_map]
  rfl

/-- Amid a set: the first b bytes are done. -/
def midA (m : Nat → Bool) (i : Int) (f : Nat → Int) (b c : Nat) : Int := if decide (c < b) && m c then i else f c

theorem midA_zero (m : Nat → Bool) (i : Int) (f : Nat → Int) : iCells (midA m i f 0) = iCells f := iCells_congr fun b _ => by simp [midA]
theorem midA_no (m : Nat → Bool) (i : Int) (f : Nat → Int) (b : Nat) (h : m b = false) : iCells (midA m i f (b + 1)) = iCells (midA m i f b) := iCells_congr fun c _ => by
  unfold midA
  by_cases e : c = b
  · subst e; simp [h]
  · have : (c < b + 1) = (c < b) := by apply propext; omega
    simp only [this]
theorem midA_yes (m : Nat → Bool) (i : Int) (f : Nat → Int) (b : Nat) (h : m b = true) : (iCells (midA m i f b)).setIfInBounds b (.int .i64 i) = iCells (midA m i f (b + 1)) := by
  rw [iCells_set]
  refine iCells_congr fun c _ => ?_
  unfold midA
  by_cases e : c = b
  · subst e; simp [h]
  · have : (c < b + 1) = (c < b) := by apply propext; omega
    simp only [this, e, if_false]
theorem midA_at (m : Nat → Bool) (i : Int) (f : Nat → Int) (b : Nat) : midA m i f b b = f b := by simp [midA]
theorem midA_all (L : List (Nat → Bool)) (i : Nat) : iCells (midA (L.getD i sNone) (i : Int) (clsA L i) 256) = iCells (clsA L (i + 1)) := iCells_congr fun c hc => by
  unfold midA
  rw [clsA, decide_eq_true hc]
  simp

end Go.Proofs.YtbjgkolldmplkaaDoor
