/- Plain laws of sets as words: a set is what it has, four numbers of 64 bits. -/
import Derived.Test.YtbjgkolldmplkaaKit
import Derived.Laws.BitsAllLaws
namespace Go.Proofs.Ytbjgkolldmplkaa
open Go.RowKit

/-- The number of which the bit k is 1 just if g k, k below n. -/
def bitsum (g : Nat → Bool) : Nat → Nat
  | 0 => 0
  | n + 1 => bitsum g n + (if g n then 2 ^ n else 0)

theorem bitsum_lt (g : Nat → Bool) : ∀ n, bitsum g n < 2 ^ n
  | 0 => by simp [bitsum]
  | n + 1 => by
    have := bitsum_lt g n
    unfold bitsum
    rw [Nat.pow_succ]
    split <;> omega

theorem bitsum_testBit (g : Nat → Bool) : ∀ n k, (bitsum g n).testBit k = (decide (k < n) && g k)
  | 0, k => by simp [bitsum]
  | n + 1, k => by
    have hl := bitsum_lt g n
    have ih := bitsum_testBit g n k
    unfold bitsum
    by_cases hg : g n = true
    · rw [if_pos hg, Nat.add_comm]
      by_cases hk : k = n
      · subst hk
        rw [Nat.testBit_two_pow_add_eq, Nat.testBit_lt_two_pow hl]
        simp [hg]
      · rcases Nat.lt_or_ge k n with h | h
        · rw [Nat.testBit_two_pow_add_gt h, ih]
          simp [h, Nat.lt_succ_of_lt h]
        · have h2 : 2 ^ n + bitsum g n < 2 ^ k := by
            have : 2 ^ (n + 1) ≤ 2 ^ k := Nat.pow_le_pow_right (by decide) (by omega)
            rw [Nat.pow_succ] at this
            omega
          rw [Nat.testBit_lt_two_pow h2]
          simp; omega
    · rw [if_neg hg, Nat.add_zero, ih]
      by_cases hk : k = n
      · subst hk; simp at hg; simp [hg]
      · have : (k < n + 1) = (k < n) := by apply propext; omega
        simp only [this]

/-- The word number i of the set of those of which m holds. -/
def word (m : Nat → Bool) (i : Nat) : Nat := bitsum (fun k => m (64 * i + k)) 64

theorem word_lt (m : Nat → Bool) (i : Nat) : word m i < 18446744073709551616 := bitsum_lt _ 64

theorem word_testBit (m : Nat → Bool) (i k : Nat) : (word m i).testBit k = (decide (k < 64) && m (64 * i + k)) := bitsum_testBit _ 64 k

theorem word_ext {m m' : Nat → Bool} {i : Nat} (h : ∀ k, k < 64 → m (64 * i + k) = m' (64 * i + k)) : word m i = word m' i := by
  apply Nat.eq_of_testBit_eq
  intro k
  rw [word_testBit, word_testBit]
  by_cases hk : k < 64
  · rw [h k hk]
  · simp [hk]

theorem word_inj {m m' : Nat → Bool} {i : Nat} (h : word m i = word m' i) {k : Nat} (hk : k < 64) : m (64 * i + k) = m' (64 * i + k) := by
  have := congrArg (fun n => n.testBit k) h
  simp only [word_testBit] at this
  simpa [hk] using this

/-- What numbers are: a set. -/
theorem word_of (n : Nat) (h : n < 18446744073709551616) (m : Nat → Bool) (i : Nat) (hm : ∀ k, k < 64 → m (64 * i + k) = n.testBit k) : word m i = n := by
  apply Nat.eq_of_testBit_eq
  intro k
  rw [word_testBit]
  by_cases hk : k < 64
  · rw [hm k hk]; simp [hk]
  · have : n < 2 ^ k := Nat.lt_of_lt_of_le h (by have : (2 : Nat) ^ 64 ≤ 2 ^ k := Nat.pow_le_pow_right (by decide) (by omega)
                                                 simpa using this)
    rw [Nat.testBit_lt_two_pow this]; simp [hk]

def sBoth (m k : Nat → Bool) : Nat → Bool := fun b => m b && k b
def sAny (m k : Nat → Bool) : Nat → Bool := fun b => m b || k b
def sLess (m k : Nat → Bool) : Nat → Bool := fun b => m b && !k b
def sNot (m : Nat → Bool) : Nat → Bool := fun b => !m b
def sSpan (f t : Nat) : Nat → Bool := fun b => decide (f ≤ b) && decide (b ≤ t)
def sOf (l : List Nat) : Nat → Bool := fun b => l.contains b
def sNone : Nat → Bool := fun _ => false

theorem word_both (m k : Nat → Bool) (i : Nat) : bits .and .u64 (word m i : Int) (word k i : Int) = (word (sBoth m k) i : Int) := by
  rw [u64_and_nat _ _ (word_lt m i) (word_lt k i)]
  congr 1
  apply Nat.eq_of_testBit_eq
  intro j
  rw [Nat.testBit_and, word_testBit, word_testBit, word_testBit]
  unfold sBoth
  cases decide (j < 64) <;> simp

theorem word_any (m k : Nat → Bool) (i : Nat) : bits .or .u64 (word m i : Int) (word k i : Int) = (word (sAny m k) i : Int) := by
  rw [u64_or_nat _ _ (word_lt m i) (word_lt k i)]
  congr 1
  apply Nat.eq_of_testBit_eq
  intro j
  rw [Nat.testBit_or, word_testBit, word_testBit, word_testBit]
  unfold sAny
  cases decide (j < 64) <;> simp

theorem full_testBit (j : Nat) : Nat.testBit 18446744073709551615 j = decide (j < 64) :=
  Nat.testBit_two_pow_sub_one 64 j

theorem word_not_nat (m : Nat → Bool) (i : Nat) : 18446744073709551615 - word m i = word (sNot m) i := by
  apply Nat.eq_of_testBit_eq
  intro j
  have h := word_lt m i
  have := Nat.testBit_two_pow_sub_succ (x := word m i) (n := 64) h j
  rw [show (18446744073709551615 - word m i) = 2 ^ 64 - (word m i + 1) by omega, this, word_testBit, word_testBit]
  unfold sNot
  cases decide (j < 64) <;> simp

theorem word_less (m k : Nat → Bool) (i : Nat) : bits .andNot .u64 (word m i : Int) (word k i : Int) = (word (sLess m k) i : Int) := by
  rw [u64_andNot_nat _ _ (word_lt m i) (word_lt k i), word_not_nat, ← u64_and_nat _ _ (word_lt m i) (word_lt _ i), word_both]
  rfl

theorem bit_nat (n k : Nat) (h : n < 18446744073709551616) : (bits .and .u64 ((n : Int) / 2 ^ k) 1 == 1) = n.testBit k := by
  have e : ((n : Int) / 2 ^ k) = ((n / 2 ^ k : Nat) : Int) := by
    rw [Int.natCast_ediv, Int.natCast_pow]; rfl
  have hle : n / 2 ^ k < 18446744073709551616 := Nat.lt_of_le_of_lt (Nat.div_le_self _ _) h
  rw [e]
  have := u64_and_nat (n / 2 ^ k) 1 hle (by decide)
  rw [show (1 : Int) = ((1 : Nat) : Int) from rfl, this, Nat.and_one_is_mod]
  rw [Nat.testBit_eq_decide_div_mod_eq, Bool.eq_iff_iff, beq_iff_eq, decide_eq_true_eq]
  omega

theorem word_has (m : Nat → Bool) (b : Nat) : (bits .and .u64 (((word m (b / 64) : Nat) : Int) / 2 ^ (b % 64)) 1 == 1) = m b := by
  rw [bit_nat _ _ (word_lt _ _), word_testBit, Nat.div_add_mod]
  have : b % 64 < 64 := Nat.mod_lt _ (by decide)
  simp [this]

/-- The first k words are of n, the rest of m. -/
def sMix (n m : Nat → Bool) (k : Nat) : Nat → Bool := fun b => if b < 64 * k then n b else m b

theorem word_mix_lt (n m : Nat → Bool) (k i : Nat) (h : i < k) : word (sMix n m k) i = word n i :=
  word_ext fun j hj => by unfold sMix; rw [if_pos (by omega)]
theorem word_mix_ge (n m : Nat → Bool) (k i : Nat) (h : k ≤ i) : word (sMix n m k) i = word m i :=
  word_ext fun j hj => by unfold sMix; rw [if_neg (by omega)]
theorem word_mix_zero (n m : Nat → Bool) (i : Nat) : word (sMix n m 0) i = word m i := word_mix_ge n m 0 i (Nat.zero_le _)

/-- The four words of a set, as cells. -/
def sCells (m : Nat → Bool) : Array Value := #[.int .u64 ((word m 0 : Nat) : Int), .int .u64 ((word m 1 : Nat) : Int), .int .u64 ((word m 2 : Nat) : Int), .int .u64 ((word m 3 : Nat) : Int)]

theorem sCells_get (m : Nat → Bool) (i : Nat) (h : i < 4) : (sCells m)[i]? = some (.int .u64 ((word m i : Nat) : Int)) := by
  match i, h with
  | 0, _ => rfl
  | 1, _ => rfl
  | 2, _ => rfl
  | 3, _ => rfl

theorem sCells_congr {m m' : Nat → Bool} (h : ∀ i, i < 4 → word m i = word m' i) : sCells m = sCells m' := by
  unfold sCells
  rw [h 0 (by decide), h 1 (by decide), h 2 (by decide), h 3 (by decide)]

theorem sCells_set (m m' : Nat → Bool) (i : Nat) (h : i < 4) (h2 : ∀ j, j ≠ i → word m' j = word m j) :
    (sCells m).setIfInBounds i (.int .u64 ((word m' i : Nat) : Int)) = sCells m' := by
  match i, h with
  | 0, _ => simp [sCells, h2]
  | 1, _ => simp [sCells, h2]
  | 2, _ => simp [sCells, h2]
  | 3, _ => simp [sCells, h2]

theorem sCells_mix (n m : Nat → Bool) (k : Nat) (h : k < 4) : (sCells (sMix n m k)).setIfInBounds k (.int .u64 ((word n k : Nat) : Int)) = sCells (sMix n m (k + 1)) := by
  have e : word n k = word (sMix n m (k + 1)) k := (word_mix_lt n m (k + 1) k (by omega)).symm
  rw [e]
  refine sCells_set _ _ k h fun j hj => ?_
  rcases Nat.lt_or_ge j k with h1 | h1
  · rw [word_mix_lt _ _ _ _ h1, word_mix_lt _ _ _ _ (by omega)]
  · rw [word_mix_ge _ _ _ _ h1, word_mix_ge _ _ _ _ (by omega)]

/-- One more. -/
def sIns (m : Nat → Bool) (b : Nat) : Nat → Bool := fun x => m x || x == b

theorem two_pow_testBit (b k : Nat) (hb : b < 64) : (2 ^ b : Nat).testBit k = (decide (k < 64) && (k == b)) := by
  rw [Nat.testBit_two_pow, Bool.eq_iff_iff, Bool.and_eq_true, decide_eq_true_eq, decide_eq_true_eq, beq_iff_eq]
  omega

theorem wrap_pow (b : Nat) (hb : b < 64) : IntKind.u64.wrap ((2 : Int) ^ b) = ((2 ^ b : Nat) : Int) := by
  have h : (2 : Nat) ^ b < 2 ^ 64 := Nat.pow_lt_pow_right (by decide) hb
  have e : ((2 : Int) ^ b) = ((2 ^ b : Nat) : Int) := by rw [Int.natCast_pow]; rfl
  have h2 : (2 : Nat) ^ 64 = 18446744073709551616 := rfl
  rw [h2] at h
  rw [e, IntKind.wrap_u64]
  generalize (2 : Nat) ^ b = p at h ⊢
  omega

theorem word_ins_self (m : Nat → Bool) (b : Nat) : bits .or .u64 ((word m (b / 64) : Nat) : Int) (IntKind.u64.wrap ((2 : Int) ^ (b % 64))) = ((word (sIns m b) (b / 64) : Nat) : Int) := by
  have hb : b % 64 < 64 := Nat.mod_lt _ (by decide)
  have h : (2 : Nat) ^ (b % 64) < 18446744073709551616 := by
    have := Nat.pow_lt_pow_right (a := 2) (by decide) hb
    have h2 : (2 : Nat) ^ 64 = 18446744073709551616 := rfl
    omega
  rw [wrap_pow _ hb, u64_or_nat _ _ (word_lt m _) h]
  congr 1
  apply Nat.eq_of_testBit_eq
  intro j
  rw [Nat.testBit_or, word_testBit, word_testBit, two_pow_testBit _ _ hb]
  unfold sIns
  have e : (64 * (b / 64) + j == b) = (j == b % 64) := by rw [Bool.eq_iff_iff, beq_iff_eq, beq_iff_eq]; omega
  rw [e]
  cases decide (j < 64) <;> simp

theorem word_ins_other (m : Nat → Bool) (b j : Nat) (h : j ≠ b / 64) : word (sIns m b) j = word m j :=
  word_ext fun k hk => by
    unfold sIns
    have : (64 * j + k == b) = false := by rw [beq_eq_false_iff_ne]; omega
    rw [this, Bool.or_false]

theorem sCells_ins (m : Nat → Bool) (b : Nat) (h : b < 256) : (sCells m).setIfInBounds (b / 64) (.int .u64 (bits .or .u64 ((word m (b / 64) : Nat) : Int) (IntKind.u64.wrap ((2 : Int) ^ (b % 64))))) = sCells (sIns m b) := by
  rw [word_ins_self]
  exact sCells_set _ _ _ (by omega) fun j hj => word_ins_other m b j hj

theorem sOf_snoc (l : List Nat) (b : Nat) : sOf (l ++ [b]) = sIns (sOf l) b := by
  funext x
  simp only [sOf, sIns, List.contains_eq_mem, List.mem_append, List.mem_singleton]
  rw [Bool.eq_iff_iff]
  simp

/-- Two to k, behind a name. -/
def pw (k : Nat) : Nat := 2 ^ k

theorem pw_pos (k : Nat) : 0 < pw k := Nat.pow_pos (by decide)
theorem pw_lt (k : Nat) (h : k < 64) : pw k < 18446744073709551616 := by
  have := Nat.pow_lt_pow_right (a := 2) (by decide) h
  exact this

theorem pw_step (k : Nat) (h : k < 63) : IntKind.u64.wrap (2 * ((pw k : Nat) : Int)) = ((pw (k + 1) : Nat) : Int) := by
  have hl := pw_lt (k + 1) (by omega)
  have e : pw (k + 1) = pw k * 2 := Nat.pow_succ ..
  rw [IntKind.wrap_u64]
  rw [e] at hl ⊢
  omega

theorem word_rhas (m : Nat → Bool) (b : Nat) : (((word m (b / 64) : Nat) : Int) / ((pw (b % 64) : Nat) : Int) % 2 == 1) = m b := by
  have h := word_testBit m (b / 64) (b % 64)
  rw [Nat.div_add_mod] at h
  have : b % 64 < 64 := Nat.mod_lt _ (by decide)
  rw [Nat.testBit_eq_decide_div_mod_eq] at h
  simp only [this, decide_true, Bool.true_and] at h
  rw [← h]
  unfold pw
  generalize (2 : Nat) ^ (b % 64) = p
  generalize word m (b / 64) = x
  rw [Bool.eq_iff_iff, beq_iff_eq, decide_eq_true_eq]
  rw [← Int.natCast_ediv]
  omega

theorem bitsum_ins (g : Nat → Bool) (j : Nat) (h : g j = false) : ∀ n, bitsum (fun k => g k || k == j) n = bitsum g n + (if j < n then 2 ^ j else 0)
  | 0 => by simp [bitsum]
  | n + 1 => by
    have ih := bitsum_ins g j h n
    unfold bitsum
    rw [ih]
    by_cases hj : n = j
    · subst hj
      simp [h]
    · have h1 : (n == j) = false := by rw [beq_eq_false_iff_ne]; exact hj
      have h2 : (j < n + 1) = (j < n) := by apply propext; omega
      simp only [h1, Bool.or_false, h2]
      omega

theorem word_rhas' (m : Nat → Bool) (b : Nat) : ((IntKind.u64.wrap (((word m (b / 64) : Nat) : Int) / ((pw (b % 64) : Nat) : Int))).tmod 2 == 1) = m b := by
  have hl := word_lt m (b / 64)
  have h1 : word m (b / 64) / pw (b % 64) ≤ word m (b / 64) := Nat.div_le_self _ _
  have e : IntKind.u64.wrap (((word m (b / 64) : Nat) : Int) / ((pw (b % 64) : Nat) : Int)) = ((word m (b / 64) : Nat) : Int) / ((pw (b % 64) : Nat) : Int) := by
    rw [IntKind.wrap_u64, ← Int.natCast_ediv]
    generalize word m (b / 64) / pw (b % 64) = q at h1 ⊢
    omega
  rw [e, Int.tmod_eq_emod_of_nonneg (by rw [← Int.natCast_ediv]; exact Int.natCast_nonneg _)]
  exact word_rhas m b

/-- Another bit. -/
theorem word_plus (m : Nat → Bool) (b : Nat) (h : m b = false) : word m (b / 64) + pw (b % 64) = word (sIns m b) (b / 64) := by
  have hb : b % 64 < 64 := Nat.mod_lt _ (by decide)
  have e := bitsum_ins (fun k => m (64 * (b / 64) + k)) (b % 64) (by rw [Nat.div_add_mod]; exact h) 64
  rw [if_pos hb] at e
  unfold word pw
  rw [← e]
  congr 1
  funext k
  unfold sIns
  congr 1
  rw [Bool.eq_iff_iff, beq_iff_eq, beq_iff_eq]
  omega

end Go.Proofs.Ytbjgkolldmplkaa
