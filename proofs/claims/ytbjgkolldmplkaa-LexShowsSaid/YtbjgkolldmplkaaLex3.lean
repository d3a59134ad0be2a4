/- The walks of name, number of package lex. -/
import Derived.Test.YtbjgkolldmplkaaLex2
namespace Go.Proofs.Ytbjgkolldmplkaa
open Go.RowKit Go.Sort

/-- A token, a place and an error's number come back; what was there has not turned. -/
def Tkn (r : Int × Tk × Nat) (k : Nat) (w : World) (e : Ending) (w' : World) : Prop :=
  e = .returned (.tuple #[tkV r.2.1 0, .int .i64 (plc r.1 k r.2.2), .int .i64 r.1]) ∧ Below w.heap.size w w'

theorem tkn_no {n k : Nat} {w w' : World} {x : Int} (hx : x ≠ 0) (hb : Below w.heap.size w w') :
    Tkn (x, tk0, n) k w (.returned (.tuple #[.agg #[.int .i64 0, .string ⟨#[]⟩, .int .u64 0, .int .u64 0, .int .u64 0, .int .u64 0, .int .i64 0, .int .i64 0], .int .i64 0, .int .i64 x])) w' := by
  refine ⟨?_, hb⟩
  unfold plc
  rw [if_neg hx]
  show _ = Ending.returned (.tuple #[tkV tk0 0, .int .i64 0, .int .i64 x])
  unfold tk0
  rw [tkV_plain]

theorem tkn_ok {n k : Nat} {w w' : World} {t : Tk} {v : Value} {y : Int} (hv : v = tkV t 0) (hy : y = ((k + n : Nat) : Int)) (hb : Below w.heap.size w w') :
    Tkn (0, t, n) k w (.returned (.tuple #[v, .int .i64 y, .int .i64 0])) w' := by
  subst hv hy
  exact ⟨rfl, hb⟩

set_option maxRecDepth 100000 in
set_option maxHeartbeats 2000000 in
theorem name_any (s : ByteArray) (k : Nat) (w : World) (hs : s.size ≤ maxLen) (hk : k ≤ s.size) :
    Calls Try.prog 45 #[.string s, .int .i64 k] w (Tkn (nameL (sf s k)) k w) := by
  unfold maxLen at hs
  have hR : nameL (sf s k) = if 31 < tw nmB (sf s k) then (2, tk0, 0) else (0, ⟨1, (sf s k).take (tw nmB (sf s k)), sNone, 0⟩, tw nmB (sf s k)) := rfl
  generalize nameL (sf s k) = R at *
  have hX := ext_sf s k (tw nmB (sf s k))
  generalize hT : tw nmB (sf s k) = T at *
  have HX := fun _ : Unit => hX
  have HR := fun _ : Unit => hR
  clear hX hR
  generalize (sf s k).take T = x at *
  go_enter Try.func45, Try.ntmps45
  go_wp2
  go_loop [7] (fun t => ∃ j : Nat, k ≤ j ∧ j ≤ s.size ∧ t = .int .i64 j ∧ j + tw nmB (sf s j) = k + T) (fun t => s.size - (intOf t).toNat)
  case atStart => exact ⟨k, Nat.le_refl _, hk, rfl, by rw [hT]⟩
  case round =>
    clear hT
    obtain ⟨j, hkj, hj, rfl, hJ⟩ := hrel
    have HJ := fun _ : Unit => hJ
    clear hJ
    by_cases hlt : j < s.size
    · have hcons := fun _ : Unit => sf_cons s j hlt
      have HL := fun W => letter_any s[j] W
      have HD := fun W => digit_any s[j] W
      cases hl : letB s[j]
      · cases hd : digB s[j]
        · have hp : nmB s[j] = false := by unfold nmB; rw [hl, hd]; rfl
          have hst : Unit → j = k + T := fun _ => by have := HJ (); rw [hcons (), tw_no _ hp] at this; omega
          rw [hl] at HL
          rw [hd] at HD
          have HL' := Lib.hid HL
          have HD' := Lib.hid HD
          clear HL HD hl hd hp
          obtain rfl : j = k + T := hst ()
          by_cases h31 : 31 < T
          · have hR2 : Unit → R = (2, tk0, 0) := fun _ => by rw [HR (), if_pos h31]
            go_wp2_with (first | (go_at_call 44; refine (HL'.out _).mono ?_; rintro e w' ⟨rfl, rfl⟩) | (go_at_call 46; refine (HD'.out _).mono ?_; rintro e w' ⟨rfl, rfl⟩))
            rw [hR2 ()]
            exact bodyPost_ret (v := .tuple #[.agg #[.int .i64 0, .string ⟨#[]⟩, .int .u64 0, .int .u64 0, .int .u64 0, .int .u64 0, .int .i64 0, .int .i64 0], .int .i64 0, .int .i64 2]) (by simp [results, Try.results45, go_sem]) rfl (tkn_no (by decide) ((Below.refl _ _).alloc (Nat.le_refl _) _))
          · have hR2 : Unit → R = (0, ⟨1, x, sNone, 0⟩, T) := fun _ => by rw [HR (), if_neg h31]
            go_wp2_with (first | (go_at_call 44; refine (HL'.out _).mono ?_; rintro e w' ⟨rfl, rfl⟩) | (go_at_call 46; refine (HD'.out _).mono ?_; rintro e w' ⟨rfl, rfl⟩))
            rw [hR2 ()]
            exact bodyPost_ret (v := .tuple #[.agg #[.int .i64 1, .string (s.extract k (k + T)), .int .u64 0, .int .u64 0, .int .u64 0, .int .u64 0, .int .i64 0, .int .i64 0], .int .i64 ((k + T : Nat) : Int), .int .i64 0]) (by simp [results, Try.results45, go_sem]) rfl (tkn_ok (by rw [tkV_plain, HX ()]) rfl ((Below.refl _ _).alloc (Nat.le_refl _) _))
        · have hp : nmB s[j] = true := by unfold nmB; rw [hl, hd]; rfl
          have hst : Unit → j + 1 + tw nmB (sf s (j + 1)) = k + T := fun _ => by have := HJ (); rw [hcons (), tw_yes _ hp] at this; omega
          rw [hl] at HL
          rw [hd] at HD
          have HL' := Lib.hid HL
          have HD' := Lib.hid HD
          clear HL HD hl hd hp
          go_wp2_with (first | (go_at_call 44; refine (HL'.out _).mono ?_; rintro e w' ⟨rfl, rfl⟩) | (go_at_call 46; refine (HD'.out _).mono ?_; rintro e w' ⟨rfl, rfl⟩))
          go_round
          case rel => exact ⟨j + 1, by omega, by omega, by go_num, hst ()⟩
          case measure => simp [intOf]; omega
      · have hp : nmB s[j] = true := by unfold nmB; rw [hl]; rfl
        have hst : Unit → j + 1 + tw nmB (sf s (j + 1)) = k + T := fun _ => by have := HJ (); rw [hcons (), tw_yes _ hp] at this; omega
        rw [hl] at HL
        have HL' := Lib.hid HL
        clear HL HD hl hp
        go_wp2_with (first | (go_at_call 44; refine (HL'.out _).mono ?_; rintro e w' ⟨rfl, rfl⟩))
        go_round
        case rel => exact ⟨j + 1, by omega, by omega, by go_num, hst ()⟩
        case measure => simp [intOf]; omega
    · have hst : Unit → j = k + T := fun _ => by have := HJ (); rw [sf_end s j (by omega), tw_nil] at this; omega
      have hge : s.size ≤ j := by omega
      obtain rfl : j = k + T := hst ()
      by_cases h31 : 31 < T
      · have hR2 : Unit → R = (2, tk0, 0) := fun _ => by rw [HR (), if_pos h31]
        clear hlt HJ
        go_wp2
        rw [hR2 ()]
        exact bodyPost_ret (v := .tuple #[.agg #[.int .i64 0, .string ⟨#[]⟩, .int .u64 0, .int .u64 0, .int .u64 0, .int .u64 0, .int .i64 0, .int .i64 0], .int .i64 0, .int .i64 2]) (by simp [results, Try.results45, go_sem]) rfl (tkn_no (by decide) ((Below.refl _ _).alloc (Nat.le_refl _) _))
      · have hR2 : Unit → R = (0, ⟨1, x, sNone, 0⟩, T) := fun _ => by rw [HR (), if_neg h31]
        clear hlt HJ
        go_wp2
        rw [hR2 ()]
        exact bodyPost_ret (v := .tuple #[.agg #[.int .i64 1, .string (s.extract k (k + T)), .int .u64 0, .int .u64 0, .int .u64 0, .int .u64 0, .int .i64 0, .int .i64 0], .int .i64 ((k + T : Nat) : Int), .int .i64 0]) (by simp [results, Try.results45, go_sem]) rfl (tkn_ok (by rw [tkV_plain, HX ()]) rfl ((Below.refl _ _).alloc (Nat.le_refl _) _))

end Go.Proofs.Ytbjgkolldmplkaa
