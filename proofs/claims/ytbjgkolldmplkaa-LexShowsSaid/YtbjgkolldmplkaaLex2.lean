/- The walks of white, name, number of package lex. -/
import Derived.Test.YtbjgkolldmplkaaLex1
namespace Go.Proofs.Ytbjgkolldmplkaa
open Go.RowKit Go.Sort

theorem ret_int {k : IntKind} {a b : Int} (h : a = b) : Ending.returned (.int k a) = .returned (.int k b) := by rw [h]

set_option maxRecDepth 100000 in
set_option maxHeartbeats 2000000 in
theorem white_any (s : ByteArray) (k : Nat) (w : World) (hs : s.size ≤ maxLen) (hk : k ≤ s.size) :
    Calls Try.prog 35 #[.string s, .int .i64 k] w fun e w' => e = .returned (.int .i64 ((k + whL false (sf s k) : Nat) : Int)) ∧ w = w' := by
  unfold maxLen at hs
  generalize hT : k + whL false (sf s k) = T
  go_enter Try.func35, Try.ntmps35
  go_wp2
  go_loop [1] (fun t => ∃ j : Nat, j ≤ s.size ∧ t = .int .i64 j ∧ j + whL false (sf s j) = T) (fun t => s.size - (intOf t).toNat)
  case atStart => exact ⟨k, hk, rfl, hT⟩
  case round =>
    clear hT
    obtain ⟨j, hj, rfl, hJ⟩ := hrel
    have HJ := fun _ : Unit => hJ
    clear hJ
    by_cases hlt : j < s.size
    · have hcons := fun _ : Unit => sf_cons s j hlt
      by_cases h32 : s[j].toNat = 32
      · have e1 : (((s[j].toNat : Nat) : Int) == 32) = true := eq_yes h32
        have hst : Unit → j + 1 + whL false (sf s (j + 1)) = T := fun _ => by have := HJ (); rw [hcons (), whL_ws _ (.inl h32)] at this; omega
        clear h32
        go_wp2
        go_round
        case rel => exact ⟨j + 1, by omega, by go_num, hst ()⟩
        case measure => simp [intOf]; omega
      have e1 : (((s[j].toNat : Nat) : Int) == 32) = false := eq_no h32
      by_cases h10 : s[j].toNat = 10
      · have e2 : (((s[j].toNat : Nat) : Int) == 10) = true := eq_yes h10
        have hst : Unit → j + 1 + whL false (sf s (j + 1)) = T := fun _ => by have := HJ (); rw [hcons (), whL_ws _ (.inr (.inl h10))] at this; omega
        clear h32 h10
        go_wp2
        go_round
        case rel => exact ⟨j + 1, by omega, by go_num, hst ()⟩
        case measure => simp [intOf]; omega
      have e2 : (((s[j].toNat : Nat) : Int) == 10) = false := eq_no h10
      by_cases h13 : s[j].toNat = 13
      · have e3 : (((s[j].toNat : Nat) : Int) == 13) = true := eq_yes h13
        have hst : Unit → j + 1 + whL false (sf s (j + 1)) = T := fun _ => by have := HJ (); rw [hcons (), whL_ws _ (.inr (.inr (.inl h13)))] at this; omega
        clear h32 h10 h13
        go_wp2
        go_round
        case rel => exact ⟨j + 1, by omega, by go_num, hst ()⟩
        case measure => simp [intOf]; omega
      have e3 : (((s[j].toNat : Nat) : Int) == 13) = false := eq_no h13
      by_cases h9 : s[j].toNat = 9
      · have e4 : (((s[j].toNat : Nat) : Int) == 9) = true := eq_yes h9
        have hst : Unit → j + 1 + whL false (sf s (j + 1)) = T := fun _ => by have := HJ (); rw [hcons (), whL_ws _ (.inr (.inr (.inr h9)))] at this; omega
        clear h32 h10 h13 h9
        go_wp2
        go_round
        case rel => exact ⟨j + 1, by omega, by go_num, hst ()⟩
        case measure => simp [intOf]; omega
      have e4 : (((s[j].toNat : Nat) : Int) == 9) = false := eq_no h9
      by_cases h35 : s[j].toNat = 35
      · have e5 : (((s[j].toNat : Nat) : Int) == 35) = true := eq_yes h35
        have hst : Unit → j + whL true (sf s j) = T := fun _ => by have := HJ (); rw [hcons (), whL_rem _ h35] at this; rw [hcons ()]; exact this
        have H35 := fun _ : Unit => h35
        clear h32 h10 h13 h9 h35
        go_wp2
        clear e1 e2 e3 e4 e5
        go_loop [1] (fun t => ∃ i : Nat, j ≤ i ∧ i ≤ s.size ∧ t = .int .i64 i ∧ i + whL true (sf s i) = T) (fun t => s.size - (intOf t).toNat)
        case atStart => exact ⟨j, Nat.le_refl _, by omega, rfl, hst ()⟩
        case round =>
          clear hst
          obtain ⟨i, hji, hi, rfl, hI⟩ := hrel
          have HI := fun _ : Unit => hI
          clear hI
          by_cases hil : i < s.size
          · have hcon2 := fun _ : Unit => sf_cons s i hil
            by_cases hn : s[i].toNat = 10
            · have f1 : (((s[i].toNat : Nat) : Int) != 10) = false := ne_no hn
              have hji2 : j < i := by
                rcases Nat.lt_or_ge j i with h | h
                · exact h
                · obtain rfl : i = j := by omega
                  have := H35 ()
                  omega
              have hst : Unit → i + whL false (sf s i) = T := fun _ => by have := HI (); rw [hcon2 (), whL_out _ hn] at this; rw [hcon2 ()]; exact this
              clear hn
              go_wp2
              go_round
              case rel => exact ⟨i, by omega, rfl, hst ()⟩
              case measure => simp [intOf]; omega
            · have f1 : (((s[i].toNat : Nat) : Int) != 10) = true := ne_yes hn
              have hst : Unit → i + 1 + whL true (sf s (i + 1)) = T := fun _ => by have := HI (); rw [hcon2 (), whL_in _ hn] at this; omega
              clear hn
              go_wp2
              go_round
              case rel => exact ⟨i + 1, by omega, by omega, by go_num, hst ()⟩
              case measure => simp [intOf]; omega
          · have hst : Unit → i + whL false (sf s i) = T := fun _ => by have := HI (); rw [sf_end s i (by omega), whL_end] at this; rw [sf_end s i (by omega), whL_end]; exact this
            go_wp2
            go_round
            case rel => exact ⟨i, by omega, rfl, hst ()⟩
            case measure => simp [intOf]; omega
      have e5 : (((s[j].toNat : Nat) : Int) == 35) = false := eq_no h35
      have hst : Unit → j = T := fun _ => by have := HJ (); rw [hcons (), whL_no _ (by omega) h35] at this; omega
      clear h32 h10 h13 h9 h35
      go_wp2
      go_ret
      exact ⟨ret_int (by rw [← hst ()]), rfl⟩
    · have hst : Unit → j = T := fun _ => by have := HJ (); rw [sf_end s j (by omega), whL_end] at this; omega
      clear HJ
      have hge : s.size ≤ j := by omega
      clear hlt
      go_wp2
      go_ret
      exact ⟨ret_int (by rw [← hst ()]), rfl⟩

end Go.Proofs.Ytbjgkolldmplkaa
