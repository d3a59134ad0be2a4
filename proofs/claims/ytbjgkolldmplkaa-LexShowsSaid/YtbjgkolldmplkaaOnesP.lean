/- Counting the ones of a number of 64 bits by halves: the plain law. -/
import Derived.Test.YtbjgkolldmplkaaSetW
namespace Go.Proofs.Ytbjgkolldmplkaa

/-- How many of the lowest n bits are 1. -/
def onesB : Nat → Nat → Nat
  | 0, _ => 0
  | n + 1, x => x % 2 + onesB n (x / 2)

/-- How many of the numbers below n are let in. -/
def cnt (g : Nat → Bool) : Nat → Nat
  | 0 => 0
  | n + 1 => cnt g n + (g n).toNat

theorem cnt_ext {g h : Nat → Bool} : ∀ n, (∀ k, k < n → g k = h k) → cnt g n = cnt h n
  | 0, _ => rfl
  | n + 1, e => by rw [cnt, cnt, cnt_ext n (fun k hk => e k (by omega)), e n (by omega)]

theorem cnt_front (g : Nat → Bool) : ∀ n, cnt g (n + 1) = (g 0).toNat + cnt (fun k => g (k + 1)) n
  | 0 => by simp [cnt]
  | n + 1 => by rw [cnt, cnt_front g n, cnt]; omega

theorem cnt_add (g : Nat → Bool) (a : Nat) : ∀ b, cnt g (a + b) = cnt g a + cnt (fun k => g (a + k)) b
  | 0 => by simp [cnt]
  | b + 1 => by rw [← Nat.add_assoc, cnt, cnt_add g a b, cnt]; omega

theorem cnt_le (g : Nat → Bool) : ∀ n, cnt g n ≤ n
  | 0 => Nat.le_refl _
  | n + 1 => by
    have := cnt_le g n
    rw [cnt]
    cases g n <;> simp <;> omega

theorem cnt_two (g h : Nat → Bool) : ∀ n, cnt (fun k => g k && h k) n + cnt (fun k => g k || h k) n = cnt g n + cnt h n
  | 0 => rfl
  | n + 1 => by
    have := cnt_two g h n
    simp only [cnt]
    cases g n <;> cases h n <;> simp <;> omega

theorem cnt_not (g : Nat → Bool) : ∀ n, cnt g n + cnt (fun k => !g k) n = n
  | 0 => rfl
  | n + 1 => by
    have := cnt_not g n
    simp only [cnt]
    cases g n <;> simp <;> omega

theorem onesB_cnt : ∀ n x, onesB n x = cnt (fun k => x.testBit k) n
  | 0, _ => rfl
  | n + 1, x => by
    rw [onesB, onesB_cnt n, cnt_front]
    congr 1
    · rw [Nat.testBit_zero]
      have : x % 2 < 2 := Nat.mod_lt _ (by decide)
      rcases Nat.lt_or_ge (x % 2) 1 with h | h
      · have e : x % 2 = 0 := by omega
        simp [e]
      · have e : x % 2 = 1 := by omega
        simp [e]
    · apply cnt_ext
      intro k _
      rw [Nat.testBit_succ]

theorem onesB_word (m : Nat → Bool) (i : Nat) : onesB 64 (word m i) = cnt (fun k => m (64 * i + k)) 64 := by
  rw [onesB_cnt]
  apply cnt_ext
  intro k hk
  rw [word_testBit]
  simp [hk]

theorem onesB_byte (n q r : Nat) (hr : r < 256) : onesB (n + 8) (256 * q + r) = onesB n q + onesB 8 r := by
  simp only [onesB]
  have e : (256 * q + r) / 2 / 2 / 2 / 2 / 2 / 2 / 2 / 2 = q := by omega
  rw [e]
  omega

theorem and_cut (q r M m : Nat) (hr : r < 256) (hm : m < 256) : (256 * q + r) &&& (256 * M + m) = 256 * (q &&& M) + (r &&& m) := by
  have hrm : r &&& m < 256 := Nat.lt_of_le_of_lt Nat.and_le_left hr
  apply Nat.eq_of_testBit_eq
  intro k
  rw [Nat.testBit_and, show (256 : Nat) = 2 ^ 8 by decide, Nat.testBit_two_pow_mul_add q hr, Nat.testBit_two_pow_mul_add M hm, Nat.testBit_two_pow_mul_add _ hrm]
  split
  · rw [Nat.testBit_and]
  · rw [Nat.testBit_and]

/-- The mask of n bytes m. -/
def mask (m : Nat) : Nat → Nat
  | 0 => 0
  | n + 1 => 256 * mask m n + m

def st1 (n x : Nat) : Nat := (x / 2 &&& mask 85 n) + (x &&& mask 85 n)
def st2 (n x : Nat) : Nat := (x / 4 &&& mask 51 n) + (x &&& mask 51 n)
def st3 (n x : Nat) : Nat := (x / 16 + x) &&& mask 15 n
def s1 (r : Nat) : Nat := (r / 2 &&& 85) + (r &&& 85)
def s2 (r : Nat) : Nat := (r / 4 &&& 51) + (r &&& 51)
def s3 (r : Nat) : Nat := (r / 16 + r) &&& 15

theorem fact1 : ∀ e, e < 2 → ∀ r, r < 256 → (128 * e + r / 2) &&& 85 = (r / 2) &&& 85 := by decide +kernel
theorem fact2 : ∀ e, e < 4 → ∀ r, r < 256 → (64 * e + r / 4) &&& 51 = (r / 4) &&& 51 := by decide +kernel
theorem fact3 : ∀ r, r < 256 → s2 (s1 r) / 16 ≤ 4 ∧ s2 (s1 r) % 16 ≤ 4 ∧ s1 r < 256 ∧ s2 (s1 r) < 256 ∧ s3 (s2 (s1 r)) = onesB 8 r := by decide +kernel
theorem fact4 : ∀ e, e < 5 → ∀ r, r < 69 → r % 16 ≤ 4 → (16 * e + (r / 16 + r)) &&& 15 = (r / 16 + r) &&& 15 := by decide +kernel

theorem st1_step (n q r : Nat) (hr : r < 256) : st1 (n + 1) (256 * q + r) = 256 * st1 n q + s1 r := by
  unfold st1 s1
  rw [mask, show (256 * q + r) / 2 = 256 * (q / 2) + (128 * (q % 2) + r / 2) by omega, and_cut _ _ _ _ (by omega) (by decide), and_cut _ _ _ _ hr (by decide), fact1 _ (Nat.mod_lt _ (by decide)) r hr]
  omega
theorem st2_step (n q r : Nat) (hr : r < 256) : st2 (n + 1) (256 * q + r) = 256 * st2 n q + s2 r := by
  unfold st2 s2
  rw [mask, show (256 * q + r) / 4 = 256 * (q / 4) + (64 * (q % 4) + r / 4) by omega, and_cut _ _ _ _ (by omega) (by decide), and_cut _ _ _ _ hr (by decide), fact2 _ (Nat.mod_lt _ (by decide)) r hr]
  omega
theorem st12_step (n q r : Nat) (hr : r < 256) : st2 (n + 1) (st1 (n + 1) (256 * q + r)) = 256 * st2 n (st1 n q) + s2 (s1 r) := by
  rw [st1_step n q r hr, st2_step _ _ _ (fact3 r hr).2.2.1]
theorem st12_zero (x : Nat) : st2 0 (st1 0 x) = 0 := by simp [st2, mask]
theorem st12_low : ∀ n x, st2 n (st1 n x) % 16 ≤ 4
  | 0, x => by rw [st12_zero]; decide
  | n + 1, x => by
    have hr : x % 256 < 256 := Nat.mod_lt _ (by decide)
    have h := st12_step n (x / 256) (x % 256) hr
    rw [Nat.div_add_mod] at h
    rw [h]
    have := (fact3 _ hr).2.1
    omega
theorem st_step (n q r : Nat) (hr : r < 256) : st3 (n + 1) (st2 (n + 1) (st1 (n + 1) (256 * q + r))) = 256 * st3 n (st2 n (st1 n q)) + onesB 8 r := by
  obtain ⟨f1, f2, _, f4, f5⟩ := fact3 r hr
  rw [st12_step n q r hr, ← f5]
  have hl := st12_low n q
  generalize st2 n (st1 n q) = Q at *
  generalize s2 (s1 r) = t at *
  unfold st3 s3
  rw [mask, show (256 * Q + t) / 16 + (256 * Q + t) = 256 * (Q / 16 + Q) + (16 * (Q % 16) + (t / 16 + t)) by omega, and_cut _ _ _ _ (by omega) (by decide), fact4 _ (by omega) t (by omega) f2]

theorem st_bytes (c0 c1 c2 c3 c4 c5 c6 c7 : Nat) (h0 : c0 < 256) (h1 : c1 < 256) (h2 : c2 < 256) (h3 : c3 < 256) (h4 : c4 < 256) (h5 : c5 < 256) (h6 : c6 < 256) (h7 : c7 < 256) :
    st3 8 (st2 8 (st1 8 (256 * (256 * (256 * (256 * (256 * (256 * (256 * (256 * 0 + c7) + c6) + c5) + c4) + c3) + c2) + c1) + c0))) =
      256 * (256 * (256 * (256 * (256 * (256 * (256 * (256 * 0 + onesB 8 c7) + onesB 8 c6) + onesB 8 c5) + onesB 8 c4) + onesB 8 c3) + onesB 8 c2) + onesB 8 c1) + onesB 8 c0 := by
  rw [st_step 7 _ _ h0, st_step 6 _ _ h1, st_step 5 _ _ h2, st_step 4 _ _ h3, st_step 3 _ _ h4, st_step 2 _ _ h5, st_step 1 _ _ h6, st_step 0 _ _ h7]
  simp [st3, mask]

theorem onesB_le : ∀ n x, onesB n x ≤ n
  | 0, _ => Nat.le_refl _
  | n + 1, x => by
    have := onesB_le n (x / 2)
    have : x % 2 < 2 := Nat.mod_lt _ (by decide)
    rw [onesB]
    omega

/-- The seven sums behind the masks. -/
def fold7 (c : Nat) : Nat := ((c + c / 256) + (c + c / 256) / 65536) + ((c + c / 256) + (c + c / 256) / 65536) / 4294967296

theorem fold7_sum (c0 c1 c2 c3 c4 c5 c6 c7 : Nat) (h0 : c0 ≤ 8) (h1 : c1 ≤ 8) (h2 : c2 ≤ 8) (h3 : c3 ≤ 8) (h4 : c4 ≤ 8) (h5 : c5 ≤ 8) (h6 : c6 ≤ 8) (h7 : c7 ≤ 8) :
    fold7 (256 * (256 * (256 * (256 * (256 * (256 * (256 * (256 * 0 + c7) + c6) + c5) + c4) + c3) + c2) + c1) + c0) % 256 = c0 + c1 + c2 + c3 + c4 + c5 + c6 + c7 := by
  have q1 : ∀ Y c, c ≤ 8 → (256 * Y + c) / 256 = Y := fun Y c h => by omega
  have q2 : ∀ Z d1 d0, d1 ≤ 16 → d0 ≤ 16 → (256 * (256 * Z + d1) + d0) / 65536 = Z := fun Z d1 d0 h h' => by omega
  have q3 : ∀ Z d3 d2 d1 d0, d3 ≤ 32 → d2 ≤ 32 → d1 ≤ 32 → d0 ≤ 32 → (256 * (256 * (256 * (256 * Z + d3) + d2) + d1) + d0) / 4294967296 = Z := fun Z d3 d2 d1 d0 a b c d => by omega
  have q4 : ∀ A B a b, a ≤ 32 → b ≤ 32 → (256 * A + a + (256 * B + b)) % 256 = a + b := fun A B a b h h' => by omega
  have e1 : 256 * (256 * (256 * (256 * (256 * (256 * (256 * (256 * 0 + c7) + c6) + c5) + c4) + c3) + c2) + c1) + c0 + (256 * (256 * (256 * (256 * (256 * (256 * (256 * 0 + c7) + c6) + c5) + c4) + c3) + c2) + c1) =
      256 * (256 * (256 * (256 * (256 * (256 * (256 * c7 + (c6 + c7)) + (c5 + c6)) + (c4 + c5)) + (c3 + c4)) + (c2 + c3)) + (c1 + c2)) + (c0 + c1) := by omega
  unfold fold7
  rw [q1 _ _ h0, e1, q2 _ _ _ (by omega) (by omega)]
  have e2 : 256 * (256 * (256 * (256 * (256 * (256 * (256 * c7 + (c6 + c7)) + (c5 + c6)) + (c4 + c5)) + (c3 + c4)) + (c2 + c3)) + (c1 + c2)) + (c0 + c1) + (256 * (256 * (256 * (256 * (256 * c7 + (c6 + c7)) + (c5 + c6)) + (c4 + c5)) + (c3 + c4)) + (c2 + c3)) =
      256 * (256 * (256 * (256 * (256 * (256 * (256 * c7 + (c6 + c7)) + (c5 + c6 + c7)) + (c4 + c5 + c6 + c7)) + (c3 + c4 + c5 + c6)) + (c2 + c3 + c4 + c5)) + (c1 + c2 + c3 + c4)) + (c0 + c1 + c2 + c3) := by omega
  rw [e2, q3 _ _ _ _ _ (by omega) (by omega) (by omega) (by omega), q4 _ _ _ _ (by omega) (by omega)]
  omega

theorem ones_whole (x : Nat) (hx : x < 18446744073709551616) : fold7 (st3 8 (st2 8 (st1 8 x))) % 256 = onesB 64 x := by
  obtain ⟨c0, q0, h0, rfl⟩ : ∃ c q, c < 256 ∧ x = 256 * q + c := ⟨x % 256, x / 256, Nat.mod_lt _ (by decide), by omega⟩
  obtain ⟨c1, q1, h1, rfl⟩ : ∃ c q, c < 256 ∧ q0 = 256 * q + c := ⟨q0 % 256, q0 / 256, Nat.mod_lt _ (by decide), by omega⟩
  obtain ⟨c2, q2, h2, rfl⟩ : ∃ c q, c < 256 ∧ q1 = 256 * q + c := ⟨q1 % 256, q1 / 256, Nat.mod_lt _ (by decide), by omega⟩
  obtain ⟨c3, q3, h3, rfl⟩ : ∃ c q, c < 256 ∧ q2 = 256 * q + c := ⟨q2 % 256, q2 / 256, Nat.mod_lt _ (by decide), by omega⟩
  obtain ⟨c4, q4, h4, rfl⟩ : ∃ c q, c < 256 ∧ q3 = 256 * q + c := ⟨q3 % 256, q3 / 256, Nat.mod_lt _ (by decide), by omega⟩
  obtain ⟨c5, q5, h5, rfl⟩ : ∃ c q, c < 256 ∧ q4 = 256 * q + c := ⟨q4 % 256, q4 / 256, Nat.mod_lt _ (by decide), by omega⟩
  obtain ⟨c6, q6, h6, rfl⟩ : ∃ c q, c < 256 ∧ q5 = 256 * q + c := ⟨q5 % 256, q5 / 256, Nat.mod_lt _ (by decide), by omega⟩
  obtain ⟨c7, q7, h7, rfl⟩ : ∃ c q, c < 256 ∧ q6 = 256 * q + c := ⟨q6 % 256, q6 / 256, Nat.mod_lt _ (by decide), by omega⟩
  obtain rfl : q7 = 0 := by omega
  rw [st_bytes c0 c1 c2 c3 c4 c5 c6 c7 h0 h1 h2 h3 h4 h5 h6 h7, fold7_sum _ _ _ _ _ _ _ _ (onesB_le 8 _) (onesB_le 8 _) (onesB_le 8 _) (onesB_le 8 _) (onesB_le 8 _) (onesB_le 8 _) (onesB_le 8 _) (onesB_le 8 _)]
  rw [onesB_byte 56 _ _ h0, onesB_byte 48 _ _ h1, onesB_byte 40 _ _ h2, onesB_byte 32 _ _ h3, onesB_byte 24 _ _ h4, onesB_byte 16 _ _ h5, onesB_byte 8 _ _ h6, onesB_byte 0 _ _ h7]
  simp only [onesB, Nat.zero_add]
  omega

theorem mask_85 : mask 85 8 = 6148914691236517205 := by decide
theorem mask_51 : mask 51 8 = 3689348814741910323 := by decide
theorem mask_15 : mask 15 8 = 1085102592571150095 := by decide

end Go.Proofs.Ytbjgkolldmplkaa
