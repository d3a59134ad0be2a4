/- The walks of math/bits.TrailingZeros64 and of set.First. -/
import Derived.Test.YtbjgkolldmplkaaDoorOnes
import Derived.Lib.TrailingZeros
import Derived.Laws.Bits64b
namespace Go.Proofs.YtbjgkolldmplkaaDoor
open Go.RowKit Go.Sort

/-- The table of math/bits lies as its initialiser laid it. -/
def TabD (w : World) : Prop := ∀ j, j < 64 → w.cell? ⟨0, j, none⟩ = some (.int .u8 ((Lib.deBruijn64tab.getD j 0 : Nat) : Int))

theorem tz_key (x a : Nat) (hx : x < 18446744073709551616) (hx0 : x ≠ 0) (hlow : x &&& (18446744073709551616 - x) = a) :
    IntKind.u64.wrap (bits BinOp.and IntKind.u64 (x : Int) (IntKind.u64.wrap (-(x : Int))) * 285870213051353865) / 288230376151711744 = ((a * 285870213051353865 % 18446744073709551616 / 288230376151711744 : Nat) : Int) := by
  have e1 : IntKind.u64.wrap (-(x : Int)) = ((18446744073709551616 - x : Nat) : Int) := by rw [IntKind.wrap_u64]; omega
  rw [e1, u64_and_nat x _ hx (by omega), hlow, IntKind.wrap_u64]
  omega

set_option maxHeartbeats 1000000 in
theorem tz_core (x k idx : Nat) (w : World) (hx0 : ((x : Int) == 0) = false)
    (key : IntKind.u64.wrap (bits BinOp.and IntKind.u64 (x : Int) (IntKind.u64.wrap (-(x : Int))) * 285870213051353865) / 288230376151711744 = (idx : Int))
    (hi : idx < 64) (hk : k < 64) (hcell : w.cell? ⟨0, idx, none⟩ = some (.int .u8 k)) :
    Calls Tryd.prog 38 #[.int .u64 x] w fun e w' => e = .returned (.int .i64 k) ∧ w' = w := by
  go_enter Tryd.func38, Tryd.ntmps38
  go_wp2_with (simp only [key])
  go_ret
  exact ⟨rfl, rfl⟩

theorem tz_any (x : Nat) (hx : x < 18446744073709551616) (hx0 : x ≠ 0) (w : World) (hT : TabD w) :
    Calls Tryd.prog 38 #[.int .u64 x] w (Gives (.int .i64 ((Lib.ctz 64 x : Nat) : Int)) w) := by
  obtain ⟨hlow, hk⟩ := Lib.lowest_bit 64 x hx0 hx
  obtain ⟨hi, htab⟩ := Lib.deBruijn64_at _ hk
  have hcell := hT _ hi
  rw [htab] at hcell
  exact (tz_core x _ _ w (by simp; omega) (tz_key x _ hx hx0 hlow) hi hk hcell).mono fun _ _ ⟨he, hw⟩ => ⟨he, hw ▸ Below.refl _ _⟩

theorem ctz_least (x : Nat) (hx : x < 18446744073709551616) (hx0 : x ≠ 0) : Lib.ctz 64 x < 64 ∧ x.testBit (Lib.ctz 64 x) = true ∧ ∀ k, k < Lib.ctz 64 x → x.testBit k = false := by
  unfold Lib.ctz
  rw [if_neg hx0]
  obtain ⟨m, hm, hk⟩ := Lib.ctzFrom_spec 64 x (by omega) hx
  generalize Lib.ctzFrom 64 x = c at *
  refine ⟨hk, ?_, fun k hkc => ?_⟩
  · rw [hm, Nat.mul_comm, Nat.testBit_mul_two_pow]
    simp [Nat.testBit_zero]
  · rw [hm, Nat.mul_comm, Nat.testBit_mul_two_pow]
    have : ¬ c ≤ k := by omega
    simp [this]

/-- The least of a set below n; n: there is none. -/
def leastTo (m : Nat → Bool) : Nat → Nat
  | 0 => 0
  | n + 1 => if leastTo m n < n then leastTo m n else if m n then n else n + 1

theorem leastTo_spec (m : Nat → Bool) : ∀ n, leastTo m n ≤ n ∧ (∀ k, k < leastTo m n → m k = false) ∧ (leastTo m n < n → m (leastTo m n) = true)
  | 0 => ⟨Nat.le_refl _, fun k h => absurd h (by simp [leastTo]), fun h => absurd h (by simp [leastTo])⟩
  | n + 1 => by
    obtain ⟨h1, h2, h3⟩ := leastTo_spec m n
    rw [leastTo]
    split
    · rename_i h
      exact ⟨by omega, h2, fun _ => h3 h⟩
    · rename_i h
      have e : leastTo m n = n := by omega
      rw [e] at h2
      split
      · rename_i hm
        exact ⟨by omega, h2, fun _ => hm⟩
      · rename_i hm
        refine ⟨Nat.le_refl _, fun k hk => ?_, fun h => absurd h (by omega)⟩
        by_cases hkn : k = n
        · subst hkn; simpa using hm
        · exact h2 k (by omega)

theorem leastTo_eq (m : Nat → Bool) (n k : Nat) (hk : k < n) (hm : m k = true) (hl : ∀ j, j < k → m j = false) : leastTo m n = k := by
  obtain ⟨h1, h2, h3⟩ := leastTo_spec m n
  rcases Nat.lt_trichotomy (leastTo m n) k with h | h | h
  · have := h3 (by omega)
    rw [hl _ h] at this
    cases this
  · exact h
  · rw [h2 k h] at hm
    cases hm

theorem leastTo_none (m : Nat → Bool) (n : Nat) (h : ∀ k, k < n → m k = false) : leastTo m n = n := by
  obtain ⟨h1, _, h3⟩ := leastTo_spec m n
  rcases Nat.lt_or_ge (leastTo m n) n with h2 | h2
  · rw [h _ h2] at h3
    exact absurd (h3 h2) (by simp)
  · omega

/-- The least byte of a set; 256: there is none. -/
def sLeast (m : Nat → Bool) : Nat := leastTo m 256

/-- What First gives. -/
def firstV (m : Nat → Bool) : Value := if sLeast m < 256 then .tuple #[.int .u8 ((sLeast m : Nat) : Int), .bool true] else .tuple #[.int .u8 0, .bool false]

set_option maxHeartbeats 2000000 in
theorem first_any (m : Nat → Bool) (w : World) (hT : ∀ W, Below w.heap.size w W → TabD W) :
    Calls Tryd.prog 18 #[.agg #[.int .u64 ((word m 0 : Nat) : Int), .int .u64 ((word m 1 : Nat) : Int), .int .u64 ((word m 2 : Nat) : Int), .int .u64 ((word m 3 : Nat) : Int)]] w (Gives (firstV m) w) := by
  have hb := new_blk w m 35
  obtain ⟨c0, c1, c2, c3⟩ := hb.cells4
  go_enter Tryd.func18, Tryd.ntmps18
  go_wp2
  go_loopw [7] (fun i wr => ∃ k : Nat, k ≤ 4 ∧ i = .int .i64 k ∧ (∀ b, b < 64 * k → m b = false) ∧ Below w.heap.size w wr) (fun i _ => 4 - (intOf i).toNat)
  case atStart => exact ⟨0, by omega, rfl, fun b hb => absurd hb (by omega), (Below.refl _ _).alloc (Nat.le_refl _) _⟩
  case round =>
    obtain ⟨k, hk, rfl, hno, HB⟩ := hrel
    have HNO := Lib.hid hno
    clear hno
    by_cases hlt : k < 4
    · have hidx := set_index m k hlt
      by_cases h0 : word m k = 0
      · have hd : (((word m k : Nat) : Int) != 0) = false := by rw [h0]; rfl
        have hd2 : (((word m k : Nat) : Int) == 0) = true := by rw [h0]; rfl
        have H0 := Lib.hid h0
        clear h0
        generalize hx : word m k = x at *
        have HX := Lib.hid hx
        clear hx
        go_wp2
        go_roundw
        case rel =>
          refine ⟨k + 1, by omega, by go_num, fun b hb => ?_, HB⟩
          rcases Nat.lt_or_ge b (64 * k) with h | h
          · exact HNO.out b h
          · have := word_testBit m k (b - 64 * k)
            rw [HX.out, H0.out, show 64 * k + (b - 64 * k) = b by omega] at this
            simpa [show b - 64 * k < 64 by omega] using this.symm
        case measure => simp [intOf]; omega
      · obtain ⟨x, z, HX, hx0, hz, HE, HC⟩ : ∃ x z : Nat, Hid (word m k = x) ∧ x ≠ 0 ∧ z < 64 ∧ (Unit → sLeast m = 64 * k + z) ∧ ∀ W, Below w.heap.size w W → Calls Tryd.prog 38 #[.int .u64 (x : Int)] W (Gives (.int .i64 (z : Int)) W) := by
          have hl := ctz_least (word m k) (word_lt m k) h0
          refine ⟨word m k, Lib.ctz 64 (word m k), Lib.hid rfl, h0, hl.1, fun _ => leastTo_eq m 256 _ (by omega) ?_ fun j hj => ?_, fun W hW => tz_any (word m k) (word_lt m k) h0 W (hT W hW)⟩
          · have := word_testBit m k (Lib.ctz 64 (word m k))
            rw [hl.2.1] at this
            simpa [hl.1] using this.symm
          · rcases Nat.lt_or_ge j (64 * k) with h | h
            · exact HNO.out j h
            · have := word_testBit m k (j - 64 * k)
              rw [hl.2.2 _ (by omega), show 64 * k + (j - 64 * k) = j by omega] at this
              simpa [show j - 64 * k < 64 by omega] using this.symm
        rw [HX.out] at hidx
        have hd : ((x : Int) != 0) = true := by simp [bne]; omega
        have hd2 : ((x : Int) == 0) = false := by simp; omega
        clear h0 hx0 HX
        go_wp2_with (go_at_call 38; refine (HC _ HB).mono ?_; rintro e w1 ⟨rfl, HB1⟩; have L1 := below_then HB HB1)
        go_ret2
        refine ⟨?_, L1⟩
        unfold firstV
        rw [HE (), if_pos (by omega)]
        rw [show ((64 * k + z : Nat) : Int) = 64 * (k : Int) + (z : Int) by omega]
        rfl
    · have hk4 : k = 4 := by omega
      subst hk4
      go_wp2
      go_ret2
      refine ⟨?_, HB⟩
      unfold firstV
      rw [show sLeast m = 256 from leastTo_none m 256 fun b hb => HNO.out b (by omega), if_neg (by omega)]
      rfl

end Go.Proofs.YtbjgkolldmplkaaDoor
