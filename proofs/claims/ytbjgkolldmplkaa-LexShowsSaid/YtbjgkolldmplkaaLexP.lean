/- Plain words of layer 6: what bytes are within a rule file, read from a place on. -/
import Derived.Test.YtbjgkolldmplkaaSetW
import Derived.Lib.Bytealg
import Derived.Lib.Strings
import Derived.WideShapes
namespace Go.Proofs.Ytbjgkolldmplkaa
open Go.RowKit

/-- The bytes of s from the place k on. -/
def sf (s : ByteArray) (k : Nat) : List UInt8 := s.data.toList.drop k

theorem sf_cons (s : ByteArray) (k : Nat) (h : k < s.size) : sf s k = s[k] :: sf s (k + 1) := by
  unfold sf
  rw [List.drop_eq_getElem_cons (by simpa using h)]
  rfl
theorem sf_end (s : ByteArray) (k : Nat) (h : s.size ≤ k) : sf s k = [] := by
  unfold sf
  exact List.drop_eq_nil_of_le (by simpa using h)
theorem sf_len (s : ByteArray) (k : Nat) : (sf s k).length = s.size - k := by
  unfold sf
  rw [List.length_drop]
  rfl
theorem sf_drop (s : ByteArray) (k n : Nat) : (sf s k).drop n = sf s (k + n) := by
  unfold sf
  rw [List.drop_drop]

def letB (c : UInt8) : Bool := (decide (97 ≤ c.toNat) && decide (c.toNat ≤ 122)) || (decide (65 ≤ c.toNat) && decide (c.toNat ≤ 90)) || decide (c.toNat = 95)
def digB (c : UInt8) : Bool := decide (48 ≤ c.toNat) && decide (c.toNat ≤ 57)
/-- Those that stand behind a backslash. -/
def spL : List UInt8 := [92, 34, 91, 93, 94, 45]
def spB (c : UInt8) : Bool := spL.contains c
def plB (c : UInt8) : Bool := decide (32 ≤ c.toNat) && decide (c.toNat ≤ 126) && !spB c
def hexL : List UInt8 := [48, 49, 50, 51, 52, 53, 54, 55, 56, 57, 97, 98, 99, 100, 101, 102]
def hexV (c : UInt8) : Int := Lib.indexByte hexL c

theorem index_neg : ∀ (l : List UInt8) (c : UInt8), Lib.indexByte l c < 0 ↔ l.contains c = false
  | [], c => by simp [Lib.indexByte]
  | b :: l, c => by
    have ih := index_neg l c
    have hg := Lib.indexByte_ge l c
    unfold Lib.indexByte
    rw [List.contains_cons]
    by_cases hb : b = c
    · subst hb; simp
    · have h1 : (b == c) = false := by simpa using hb
      have h2 : (c == b) = false := by simpa using fun e => hb e.symm
      rw [h1, h2, Bool.false_or, ← ih]
      simp only [Bool.false_eq_true, if_false]
      split <;> rename_i h
      · have : Lib.indexByte l c = -1 := by simpa using h
        omega
      · have : Lib.indexByte l c ≠ -1 := by simpa using h
        omega

theorem index_lt : ∀ (l : List UInt8) (c : UInt8), Lib.indexByte l c < l.length
  | [], c => by simp [Lib.indexByte]
  | b :: l, c => by
    have ih := index_lt l c
    unfold Lib.indexByte
    rw [List.length_cons]
    split
    · omega
    · split <;> omega

theorem hexV_bd (c : UInt8) : -1 ≤ hexV c ∧ hexV c < 16 := ⟨Lib.indexByte_ge _ _, index_lt hexL c⟩

theorem spL_idx (c : UInt8) : Lib.indexByte spL c < 0 ↔ spB c = false := index_neg spL c

/-- How much white stands ahead (cm: within a remark). -/
def whL : Bool → List UInt8 → Nat
  | _, [] => 0
  | false, c :: r => if c.toNat = 32 ∨ c.toNat = 10 ∨ c.toNat = 13 ∨ c.toNat = 9 then whL false r + 1 else if c.toNat = 35 then whL true r + 1 else 0
  | true, c :: r => if c.toNat = 10 then whL false r + 1 else whL true r + 1

theorem whL_ws {c : UInt8} (r : List UInt8) (h : c.toNat = 32 ∨ c.toNat = 10 ∨ c.toNat = 13 ∨ c.toNat = 9) : whL false (c :: r) = whL false r + 1 := if_pos h
theorem whL_rem {c : UInt8} (r : List UInt8) (h : c.toNat = 35) : whL false (c :: r) = whL true (c :: r) :=
  (if_neg (by omega)).trans ((if_pos h).trans (if_neg (show ¬ c.toNat = 10 by omega)).symm)
theorem whL_no {c : UInt8} (r : List UInt8) (h : ¬ (c.toNat = 32 ∨ c.toNat = 10 ∨ c.toNat = 13 ∨ c.toNat = 9)) (h2 : c.toNat ≠ 35) : whL false (c :: r) = 0 := (if_neg h).trans (if_neg h2)
theorem whL_in {c : UInt8} (r : List UInt8) (h : c.toNat ≠ 10) : whL true (c :: r) = whL true r + 1 := if_neg h
theorem whL_out {c : UInt8} (r : List UInt8) (h : c.toNat = 10) : whL true (c :: r) = whL false (c :: r) := (if_pos h).trans (whL_ws r (by omega)).symm
theorem whL_end (b : Bool) : whL b [] = 0 := by cases b <;> rfl

theorem whL_le : ∀ (b : Bool) (l : List UInt8), whL b l ≤ l.length
  | true, [] => by simp [whL]
  | false, [] => by simp [whL]
  | false, c :: r => by
    have h1 := whL_le false r
    have h2 := whL_le true r
    unfold whL
    rw [List.length_cons]
    split
    · omega
    · split <;> omega
  | true, c :: r => by
    have h1 := whL_le false r
    have h2 := whL_le true r
    unfold whL
    rw [List.length_cons]
    split <;> omega

/-- Two digits in sixteens: the error's number, the byte, how many bytes. -/
def twoL : List UInt8 → Int × UInt8 × Nat
  | [] => (6, 0, 0)
  | a :: r => if hexV a < 0 then (4, 0, 0) else match r with
    | [] => (6, 0, 0)
    | b :: _ => if hexV b < 0 then (4, 0, 0) else (0, UInt8.ofNat (16 * hexV a + hexV b).toNat, 2)

theorem two_a {a : UInt8} (r : List UInt8) (h : hexV a < 0) : twoL (a :: r) = (4, 0, 0) := if_pos h
theorem two_e {a : UInt8} (h : ¬ hexV a < 0) : twoL [a] = (6, 0, 0) := if_neg h
theorem two_b {a b : UInt8} (r : List UInt8) (h : ¬ hexV a < 0) (h2 : hexV b < 0) : twoL (a :: b :: r) = (4, 0, 0) := (if_neg h).trans (if_pos h2)
theorem two_ok {a b : UInt8} (r : List UInt8) (h : ¬ hexV a < 0) (h2 : ¬ hexV b < 0) : twoL (a :: b :: r) = (0, UInt8.ofNat (16 * hexV a + hexV b).toNat, 2) := (if_neg h).trans (if_neg h2)

/-- Behind a backslash. -/
def escL : List UInt8 → Int × UInt8 × Nat
  | [] => (6, 0, 0)
  | d :: r => if d.toNat = 110 then (0, 10, 2) else if d.toNat = 116 then (0, 9, 2) else if d.toNat = 114 then (0, 13, 2)
    else if d.toNat = 120 then ((twoL r).1, (twoL r).2.1, (twoL r).2.2 + 2) else if spB d then (0, d, 2) else (4, 0, 0)

/-- A byte within a text or a set: the error's number, the byte, how many bytes. -/
def oneL : List UInt8 → Int × UInt8 × Nat
  | [] => (6, 0, 0)
  | c :: r => if c.toNat = 92 then escL r else if plB c then (0, c, 1) else (4, 0, 0)

theorem one_no {c : UInt8} (r : List UInt8) (h : c.toNat ≠ 92) (h2 : plB c = false) : oneL (c :: r) = (4, 0, 0) := (if_neg h).trans (if_neg (by rw [h2]; decide))
theorem one_plain {c : UInt8} (r : List UInt8) (h : c.toNat ≠ 92) (h2 : plB c = true) : oneL (c :: r) = (0, c, 1) := (if_neg h).trans (if_pos h2)
theorem one_esc {c : UInt8} (r : List UInt8) (h : c.toNat = 92) : oneL (c :: r) = escL r := if_pos h
theorem esc_n {d : UInt8} (r : List UInt8) (h : d.toNat = 110) : escL (d :: r) = (0, 10, 2) := if_pos h
theorem esc_t {d : UInt8} (r : List UInt8) (h : d.toNat = 116) : escL (d :: r) = (0, 9, 2) := (if_neg (by omega)).trans (if_pos h)
theorem esc_r {d : UInt8} (r : List UInt8) (h : d.toNat = 114) : escL (d :: r) = (0, 13, 2) := (if_neg (by omega)).trans ((if_neg (by omega)).trans (if_pos h))
theorem esc_x {d : UInt8} (r : List UInt8) (h : d.toNat = 120) : escL (d :: r) = ((twoL r).1, (twoL r).2.1, (twoL r).2.2 + 2) := (if_neg (by omega)).trans ((if_neg (by omega)).trans ((if_neg (by omega)).trans (if_pos h)))
theorem esc_sp {d : UInt8} (r : List UInt8) (h1 : d.toNat ≠ 110) (h2 : d.toNat ≠ 116) (h3 : d.toNat ≠ 114) (h4 : d.toNat ≠ 120) (h : spB d = true) : escL (d :: r) = (0, d, 2) :=
  (if_neg h1).trans ((if_neg h2).trans ((if_neg h3).trans ((if_neg h4).trans (if_pos h))))
theorem esc_no {d : UInt8} (r : List UInt8) (h1 : d.toNat ≠ 110) (h2 : d.toNat ≠ 116) (h3 : d.toNat ≠ 114) (h4 : d.toNat ≠ 120) (h : spB d = false) : escL (d :: r) = (4, 0, 0) :=
  (if_neg h1).trans ((if_neg h2).trans ((if_neg h3).trans ((if_neg h4).trans (if_neg (by rw [h]; decide)))))

/-- A place behind, 0 at an error. -/
def plc (e : Int) (k n : Nat) : Int := if e = 0 then ((k + n : Nat) : Int) else 0

/-- A token but its place. -/
structure Tk where
  kind : Int
  text : List UInt8
  set : Nat → Bool
  num : Int

def tk0 : Tk := ⟨0, [], sNone, 0⟩

/-- Its value, with its place. -/
def tkV (t : Tk) (p : Int) : Value := .agg #[.int .i64 t.kind, .string ⟨t.text.toArray⟩, .int .u64 ((word t.set 0 : Nat) : Int), .int .u64 ((word t.set 1 : Nat) : Int), .int .u64 ((word t.set 2 : Nat) : Int), .int .u64 ((word t.set 3 : Nat) : Int), .int .i64 t.num, .int .i64 p]

theorem word_void (i : Nat) : word sNone i = 0 := by
  apply Nat.eq_of_testBit_eq
  intro j
  rw [word_testBit]
  simp [sNone]

theorem tkV_plain (kd : Int) (x : List UInt8) (n p : Int) : tkV ⟨kd, x, sNone, n⟩ p = .agg #[.int .i64 kd, .string ⟨x.toArray⟩, .int .u64 0, .int .u64 0, .int .u64 0, .int .u64 0, .int .i64 n, .int .i64 p] := by
  unfold tkV
  simp only [word_void]
  rfl

/-- How many bytes ahead are such. -/
def tw (p : UInt8 → Bool) (l : List UInt8) : Nat := (l.takeWhile p).length
theorem tw_nil (p : UInt8 → Bool) : tw p [] = 0 := rfl
theorem tw_yes {p : UInt8 → Bool} {c : UInt8} (r : List UInt8) (h : p c = true) : tw p (c :: r) = tw p r + 1 := by unfold tw; rw [List.takeWhile_cons_of_pos h]; rfl
theorem tw_no {p : UInt8 → Bool} {c : UInt8} (r : List UInt8) (h : p c = false) : tw p (c :: r) = 0 := by unfold tw; rw [List.takeWhile_cons_of_neg (by rw [h]; decide)]; rfl
theorem tw_le (p : UInt8 → Bool) : ∀ l : List UInt8, tw p l ≤ l.length
  | [] => Nat.le_refl _
  | c :: r => by
    have := tw_le p r
    cases h : p c
    · rw [tw_no r h]; exact Nat.zero_le _
    · rw [tw_yes r h, List.length_cons]; omega

def nmB (c : UInt8) : Bool := letB c || digB c
/-- A name. -/
def nameL (l : List UInt8) : Int × Tk × Nat := if 31 < tw nmB l then (2, tk0, 0) else (0, ⟨1, l.take (tw nmB l), sNone, 0⟩, tw nmB l)

/-- What digits tell. -/
def numV (l : List UInt8) : Nat := l.foldl (fun n c => 10 * n + (c.toNat - 48)) 0
/-- A number. -/
def numL (l : List UInt8) : Int × Tk × Nat := if 4 < tw digB l then (2, tk0, 0) else (0, ⟨5, [], sNone, ((numV (l.take (tw digB l)) : Nat) : Int)⟩, tw digB l)

theorem tw_at {p : UInt8 → Bool} : ∀ (l : List UInt8) (i : Nat), i < tw p l → ∃ h : i < l.length, p l[i] = true
  | [], i, h => absurd h (by rw [tw_nil]; omega)
  | c :: r, i, h => by
    cases hc : p c
    · rw [tw_no r hc] at h; omega
    · rw [tw_yes r hc] at h
      cases i with
      | zero => exact ⟨by simp, hc⟩
      | succ i =>
        obtain ⟨h1, h2⟩ := tw_at (p := p) r i (by omega)
        exact ⟨by simp; omega, h2⟩

theorem numV_snoc (l : List UInt8) (c : UInt8) : numV (l ++ [c]) = 10 * numV l + (c.toNat - 48) := by simp [numV]

theorem digB_bd {c : UInt8} (h : digB c = true) : 48 ≤ c.toNat ∧ c.toNat ≤ 57 := by simpa [digB] using h

theorem numV_bd (l : List UInt8) : ∀ i, i ≤ tw digB l → numV (l.take i) < 10 ^ i
  | 0, _ => by simp [numV]
  | i + 1, h => by
    have ih := numV_bd l i (by omega)
    obtain ⟨h1, h2⟩ := tw_at (p := digB) l i (by omega)
    have := digB_bd h2
    rw [List.take_succ_eq_append_getElem h1, numV_snoc, Nat.pow_succ]
    omega

theorem sf_get (s : ByteArray) (k j : Nat) (hk : k ≤ j) (hj : j < s.size) (h : j - k < (sf s k).length) : (sf s k)[j - k] = s[j] := by
  have e : (sf s k)[j - k]? = s.data.toList[k + (j - k)]? := List.getElem?_drop
  rw [List.getElem?_eq_getElem h, show k + (j - k) = j by omega, get_some s j hj, Option.some.injEq] at e
  exact e

theorem sf_snoc (s : ByteArray) (k j : Nat) (hk : k ≤ j) (hj : j < s.size) : (sf s k).take (j + 1 - k) = (sf s k).take (j - k) ++ [s[j]] := by
  have hl : j - k < (sf s k).length := by rw [sf_len]; omega
  rw [show j + 1 - k = j - k + 1 by omega, List.take_succ_eq_append_getElem hl]
  rw [sf_get s k j hk hj hl]

theorem sf_at (s : ByteArray) (k j : Nat) (hk : k ≤ j) (hj : j < s.size) {p : UInt8 → Bool} (h : j < k + tw p (sf s k)) : p s[j] = true := by
  obtain ⟨h1, h2⟩ := tw_at (p := p) (sf s k) (j - k) (by omega)
  rw [sf_get s k j hk hj h1] at h2
  exact h2

theorem ext_sf (s : ByteArray) (k n : Nat) : s.extract k (k + n) = ⟨((sf s k).take n).toArray⟩ := by
  apply WideShapes.bytes_inj
  rw [Lib.extract_data]
  unfold sf
  simp

end Go.Proofs.Ytbjgkolldmplkaa
