/- The walks of math/bits.OnesCount64 and of set.Size. -/
import Derived.Test.YtbjgkolldmplkaaOnesP
import Derived.Test.YtbjgkolldmplkaaSet2
namespace Go.Proofs.Ytbjgkolldmplkaa
open Go.RowKit Go.Sort

theorem ofInt_i64 (a : Nat) (ha : a < 9223372036854775808) : (BitVec.ofInt 64 (a : Int)).toNat = a := by
  rw [BitVec.ofInt_natCast, BitVec.toNat_ofNat]; exact Nat.mod_eq_of_lt (by omega)
theorem i64_and_nat (a b : Nat) (ha : a < 9223372036854775808) (hb : b < 9223372036854775808) : bits .and .i64 (a : Int) (b : Int) = ((a &&& b : Nat) : Int) := by
  have hx : a &&& b < 2 ^ 63 := Nat.and_lt_two_pow _ (by omega)
  show IntKind.i64.wrap ((BitVec.ofInt 64 (a : Int) &&& BitVec.ofInt 64 (b : Int)).toNat : Int) = _
  rw [BitVec.toNat_and, ofInt_i64 a ha, ofInt_i64 b hb, IntKind.wrap_i64]
  omega

theorem u64_in (n : Nat) (h : n < 18446744073709551616) : IntKind.u64.wrap (n : Int) = (n : Int) := by
  rw [IntKind.wrap_u64]; omega

theorem u64_mask (a m : Nat) (M : Int) (ha : a < 18446744073709551616) (hm : M = (m : Int)) (h : m < 18446744073709551616) : bits .and .u64 (a : Int) M = ((a &&& m : Nat) : Int) := by
  rw [hm, u64_and_nat a m ha h]

/-- What the seven steps are, letter by letter. -/
theorem ones_steps (x : Nat) (hx : x < 18446744073709551616) : ∃ a1 a2 a3 b1 b2 b3 : Nat,
    IntKind.u64.wrap (bits .and .u64 ((x : Int) / 2) 6148914691236517205 + bits .and .u64 (x : Int) 6148914691236517205) = (a1 : Int) ∧
    IntKind.u64.wrap (bits .and .u64 ((a1 : Int) / 4) 3689348814741910323 + bits .and .u64 (a1 : Int) 3689348814741910323) = (a2 : Int) ∧
    bits .and .u64 (IntKind.u64.wrap ((a2 : Int) / 16 + (a2 : Int))) 1085102592571150095 = (a3 : Int) ∧
    IntKind.u64.wrap ((a3 : Int) + (a3 : Int) / 256) = (b1 : Int) ∧ IntKind.u64.wrap ((b1 : Int) + (b1 : Int) / 65536) = (b2 : Int) ∧ IntKind.u64.wrap ((b2 : Int) + (b2 : Int) / 4294967296) = (b3 : Int) ∧
    b3 < 9223372036854775808 ∧ bits .and .i64 (b3 : Int) 127 = ((onesB 64 x : Nat) : Int) := by
  have e1 : st1 8 x ≤ 6148914691236517205 + 6148914691236517205 := by
    unfold st1; rw [mask_85]; exact Nat.add_le_add Nat.and_le_right Nat.and_le_right
  have e2 : st2 8 (st1 8 x) ≤ 3689348814741910323 + 3689348814741910323 := by
    unfold st2; rw [mask_51]; exact Nat.add_le_add Nat.and_le_right Nat.and_le_right
  have e3 : st3 8 (st2 8 (st1 8 x)) ≤ 1085102592571150095 := by
    unfold st3; rw [mask_15]; exact Nat.and_le_right
  have hw := ones_whole x hx
  have hl := onesB_le 64 x
  refine ⟨st1 8 x, st2 8 (st1 8 x), st3 8 (st2 8 (st1 8 x)), st3 8 (st2 8 (st1 8 x)) + st3 8 (st2 8 (st1 8 x)) / 256, (st3 8 (st2 8 (st1 8 x)) + st3 8 (st2 8 (st1 8 x)) / 256) + (st3 8 (st2 8 (st1 8 x)) + st3 8 (st2 8 (st1 8 x)) / 256) / 65536, fold7 (st3 8 (st2 8 (st1 8 x))), ?_, ?_, ?_, ?_, ?_, ?_, ?_, ?_⟩
  · rw [show (x : Int) / 2 = ((x / 2 : Nat) : Int) by omega, u64_mask _ 6148914691236517205 6148914691236517205 (by omega) rfl (by decide), u64_mask _ 6148914691236517205 6148914691236517205 hx rfl (by decide), ← Int.natCast_add]
    unfold st1 at e1 ⊢
    rw [mask_85] at e1 ⊢
    exact u64_in _ (by omega)
  · generalize st1 8 x = a at *
    rw [show (a : Int) / 4 = ((a / 4 : Nat) : Int) by omega, u64_mask _ 3689348814741910323 3689348814741910323 (by omega) rfl (by decide), u64_mask _ 3689348814741910323 3689348814741910323 (by omega) rfl (by decide), ← Int.natCast_add]
    unfold st2 at e2 ⊢
    rw [mask_51] at e2 ⊢
    exact u64_in _ (by omega)
  · generalize st2 8 (st1 8 x) = a at *
    rw [show (a : Int) / 16 + (a : Int) = ((a / 16 + a : Nat) : Int) by omega, u64_in _ (by omega), u64_mask _ 1085102592571150095 1085102592571150095 (by omega) rfl (by decide)]
    unfold st3
    rw [mask_15]
  · generalize st3 8 (st2 8 (st1 8 x)) = a at *
    rw [IntKind.wrap_u64]; omega
  · generalize st3 8 (st2 8 (st1 8 x)) = a at *
    generalize hb : a + a / 256 = b at *
    rw [IntKind.wrap_u64]; omega
  · unfold fold7
    generalize st3 8 (st2 8 (st1 8 x)) = a at *
    rw [IntKind.wrap_u64]; omega
  · unfold fold7
    generalize st3 8 (st2 8 (st1 8 x)) = a at *
    omega
  · have hb : fold7 (st3 8 (st2 8 (st1 8 x))) < 9223372036854775808 := by
      unfold fold7
      generalize st3 8 (st2 8 (st1 8 x)) = a at *
      omega
    rw [show (127 : Int) = ((127 : Nat) : Int) from rfl, i64_and_nat _ _ hb (by decide), show (127 : Nat) = 2 ^ 7 - 1 by decide, Nat.and_two_pow_sub_one_eq_mod]
    generalize fold7 (st3 8 (st2 8 (st1 8 x))) = f at *
    omega

set_option maxHeartbeats 1000000 in
theorem ones64_any (x : Nat) (w : World) (hx : x < 18446744073709551616) :
    Calls Try.prog 34 #[.int .u64 x] w (Gives (.int .i64 ((onesB 64 x : Nat) : Int)) w) := by
  obtain ⟨a1, a2, a3, b1, b2, b3, h1, h2, h3, h4, h5, h6, h7, h8⟩ := ones_steps x hx
  go_enter Try.func34, Try.ntmps34
  go_wp2
  go_ret
  refine ⟨?_, Below.refl _ _⟩
  rfl

/-- How many bytes are in a set. -/
def sSize (m : Nat → Bool) : Nat := cnt m 256

theorem cnt_word (m : Nat → Bool) (k : Nat) : cnt m (64 * (k + 1)) = cnt m (64 * k) + onesB 64 (word m k) := by
  rw [onesB_word, show 64 * (k + 1) = 64 * k + 64 by omega, cnt_add]

theorem set_index0 (m : Nat → Bool) (W : World) : (Instr.index 25 (.agg #[.int .u64 ((word m 0 : Nat) : Int), .int .u64 ((word m 1 : Nat) : Int), .int .u64 ((word m 2 : Nat) : Int), .int .u64 ((word m 3 : Nat) : Int)]) (.int .i64 0)).run Try.prog W = .ok (.int .u64 ((word m 0 : Nat) : Int)) W := by kernel_rfl
theorem set_index1 (m : Nat → Bool) (W : World) : (Instr.index 25 (.agg #[.int .u64 ((word m 0 : Nat) : Int), .int .u64 ((word m 1 : Nat) : Int), .int .u64 ((word m 2 : Nat) : Int), .int .u64 ((word m 3 : Nat) : Int)]) (.int .i64 1)).run Try.prog W = .ok (.int .u64 ((word m 1 : Nat) : Int)) W := by kernel_rfl
theorem set_index2 (m : Nat → Bool) (W : World) : (Instr.index 25 (.agg #[.int .u64 ((word m 0 : Nat) : Int), .int .u64 ((word m 1 : Nat) : Int), .int .u64 ((word m 2 : Nat) : Int), .int .u64 ((word m 3 : Nat) : Int)]) (.int .i64 2)).run Try.prog W = .ok (.int .u64 ((word m 2 : Nat) : Int)) W := by kernel_rfl
theorem set_index3 (m : Nat → Bool) (W : World) : (Instr.index 25 (.agg #[.int .u64 ((word m 0 : Nat) : Int), .int .u64 ((word m 1 : Nat) : Int), .int .u64 ((word m 2 : Nat) : Int), .int .u64 ((word m 3 : Nat) : Int)]) (.int .i64 3)).run Try.prog W = .ok (.int .u64 ((word m 3 : Nat) : Int)) W := by kernel_rfl
theorem set_index (m : Nat → Bool) (k : Nat) (hk : k < 4) (W : World) : (Instr.index 25 (.agg #[.int .u64 ((word m 0 : Nat) : Int), .int .u64 ((word m 1 : Nat) : Int), .int .u64 ((word m 2 : Nat) : Int), .int .u64 ((word m 3 : Nat) : Int)]) (.int .i64 (k : Int))).run Try.prog W = .ok (.int .u64 ((word m k : Nat) : Int)) W := by
  match k, hk with
  | 0, _ => exact set_index0 m W
  | 1, _ => exact set_index1 m W
  | 2, _ => exact set_index2 m W
  | 3, _ => exact set_index3 m W

set_option maxHeartbeats 1000000 in
theorem size_any (m : Nat → Bool) (w : World) :
    Calls Try.prog 22 #[.agg #[.int .u64 ((word m 0 : Nat) : Int), .int .u64 ((word m 1 : Nat) : Int), .int .u64 ((word m 2 : Nat) : Int), .int .u64 ((word m 3 : Nat) : Int)]] w (Gives (.int .i64 ((sSize m : Nat) : Int)) w) := by
  have hb := new_blk w m 25
  obtain ⟨c0, c1, c2, c3⟩ := hb.cells4
  go_enter Try.func22, Try.ntmps22
  go_wp2
  go_loopw [3, 7] (fun n i wr => ∃ k : Nat, k ≤ 4 ∧ i = .int .i64 k ∧ n = .int .i64 ((cnt m (64 * k) : Nat) : Int) ∧ Below w.heap.size w wr) (fun _ i _ => 4 - (intOf i).toNat)
  case atStart => exact ⟨0, by omega, rfl, rfl, (Below.refl _ _).alloc (Nat.le_refl _) _⟩
  case round =>
    obtain ⟨k, hk, rfl, rfl, HB⟩ := hrel
    by_cases hlt : k < 4
    · have hidx := set_index m k hlt
      have E := Lib.hid (cnt_word m k)
      have hl := cnt_le m (64 * k)
      have hl2 := onesB_le 64 (word m k)
      have HC := fun W => ones64_any (word m k) W (word_lt m k)
      generalize onesB 64 (word m k) = c at *
      generalize cnt m (64 * k) = d at *
      go_wp2_with (go_at_call 34; refine (HC _).mono ?_; rintro e w1 ⟨rfl, HB1⟩; have L1 := below_then HB HB1)
      go_roundw
      case rel => exact ⟨k + 1, by omega, by go_num, by rw [E.out]; go_num, L1⟩
      case measure => simp [intOf]; omega
    · have hk4 : k = 4 := by omega
      subst hk4
      go_wp2
      go_ret
      exact ⟨rfl, HB⟩

end Go.Proofs.Ytbjgkolldmplkaa
