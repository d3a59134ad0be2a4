/- The walk of number of package lex. -/
import Derived.Test.YtbjgkolldmplkaaLex3
namespace Go.Proofs.Ytbjgkolldmplkaa
open Go.RowKit Go.Sort

set_option maxRecDepth 100000 in
set_option maxHeartbeats 4000000 in
theorem number_any (s : ByteArray) (k : Nat) (w : World) (hs : s.size ≤ maxLen) (hk : k ≤ s.size) :
    Calls Try.prog 47 #[.string s, .int .i64 k] w (Tkn (numL (sf s k)) k w) := by
  unfold maxLen at hs
  have hR : numL (sf s k) = if 4 < tw digB (sf s k) then (2, tk0, 0) else (0, ⟨5, [], sNone, ((numV ((sf s k).take (tw digB (sf s k))) : Nat) : Int)⟩, tw digB (sf s k)) := rfl
  generalize numL (sf s k) = R at *
  have hle : k + tw digB (sf s k) ≤ s.size := by have := tw_le digB (sf s k); rw [sf_len] at this; omega
  have hbd := numV_bd (sf s k)
  have hat := fun j hkj hj => sf_at s k j hkj hj (p := digB)
  generalize hT : tw digB (sf s k) = T at *
  have HR := fun _ : Unit => hR
  have HBD := Lib.hid hbd
  have HAT := Lib.hid hat
  clear hR hbd hat
  go_enter Try.func47, Try.ntmps47
  go_wp2
  go_loop [7] (fun t => ∃ j : Nat, k ≤ j ∧ j ≤ s.size ∧ t = .int .i64 j ∧ j + tw digB (sf s j) = k + T) (fun t => s.size - (intOf t).toNat)
  case atStart => exact ⟨k, Nat.le_refl _, hk, rfl, by rw [hT]⟩
  case round =>
    clear hT
    obtain ⟨j, hkj, hj, rfl, hJ⟩ := hrel
    have HJ := fun _ : Unit => hJ
    clear hJ
    by_cases hcase : ∃ h : j < s.size, digB s[j] = true
    · obtain ⟨hlt, hd⟩ := hcase
      have hcons := fun _ : Unit => sf_cons s j hlt
      have HD := fun W => digit_any s[j] W
      have hst : Unit → j + 1 + tw digB (sf s (j + 1)) = k + T := fun _ => by have := HJ (); rw [hcons (), tw_yes _ hd] at this; omega
      rw [hd] at HD
      have HD' := Lib.hid HD
      clear HD hd
      go_wp2_with (go_at_call 46; refine (HD'.out _).mono ?_; rintro e w' ⟨rfl, rfl⟩)
      go_round
      case rel => exact ⟨j + 1, by omega, by omega, by go_num, hst ()⟩
      case measure => simp [intOf]; omega
    · have hst : Unit → j = k + T := fun _ => by
        have := HJ ()
        by_cases hlt : j < s.size
        · have hd : digB s[j] = false := by rw [Bool.eq_false_iff]; exact fun h => hcase ⟨hlt, h⟩
          rw [sf_cons s j hlt, tw_no _ hd] at this
          omega
        · rw [sf_end s j (by omega), tw_nil] at this; omega
      obtain rfl : j = k + T := hst ()
      have hends : (∃ h : k + T < s.size, digB s[k + T] = false) ∨ s.size ≤ k + T := by
        by_cases hlt : k + T < s.size
        · exact .inl ⟨hlt, by rw [Bool.eq_false_iff]; exact fun h => hcase ⟨hlt, h⟩⟩
        · exact .inr (by omega)
      clear hcase HJ hst
      by_cases h4 : 4 < T
      · have hR2 : Unit → R = (2, tk0, 0) := fun _ => by rw [HR (), if_pos h4]
        rcases hends with ⟨hlt, hd⟩ | hge
        · have HD := fun W => digit_any s[k + T] W
          rw [hd] at HD
          have HD' := Lib.hid HD
          clear HD hd
          go_wp2_with (go_at_call 46; refine (HD'.out _).mono ?_; rintro e w' ⟨rfl, rfl⟩)
          rw [hR2 ()]
          exact bodyPost_ret (v := .tuple #[.agg #[.int .i64 0, .string ⟨#[]⟩, .int .u64 0, .int .u64 0, .int .u64 0, .int .u64 0, .int .i64 0, .int .i64 0], .int .i64 0, .int .i64 2]) (by simp [results, Try.results47, go_sem]) rfl (tkn_no (by decide) ((Below.refl _ _).alloc (Nat.le_refl _) _))
        · go_wp2
          rw [hR2 ()]
          exact bodyPost_ret (v := .tuple #[.agg #[.int .i64 0, .string ⟨#[]⟩, .int .u64 0, .int .u64 0, .int .u64 0, .int .u64 0, .int .i64 0, .int .i64 0], .int .i64 0, .int .i64 2]) (by simp [results, Try.results47, go_sem]) rfl (tkn_no (by decide) ((Below.refl _ _).alloc (Nat.le_refl _) _))
      · have hR2 : Unit → R = (0, ⟨5, [], sNone, ((numV ((sf s k).take T) : Nat) : Int)⟩, T) := fun _ => by rw [HR (), if_neg h4]
        obtain ⟨n, hn⟩ : ∃ n, n = k + T := ⟨_, rfl⟩
        have hTn : T = n - k := by omega
        rw [← hn] at hends hkj hj
        rw [← hn]
        have hn4 : n ≤ k + 4 := by omega
        have HN := fun _ : Unit => hn
        clear hn hle
        rcases hends with ⟨hlt, hd⟩ | hge
        · have HD := fun W => digit_any s[n] W
          rw [hd] at HD
          have HD' := Lib.hid HD
          clear HD hd
          subst hTn
          go_wp2_with (go_at_call 46; refine (HD'.out _).mono ?_; rintro e w' ⟨rfl, rfl⟩)
          go_loop [8, 9] (fun v t => ∃ j : Nat, k ≤ j ∧ j ≤ n ∧ t = .int .i64 j ∧ v = .int .i64 ((numV ((sf s k).take (j - k)) : Nat) : Int)) (fun _ t => n - (intOf t).toNat)
          case atStart => exact ⟨k, Nat.le_refl _, hkj, rfl, by rw [Nat.sub_self]; rfl⟩
          case round =>
            obtain ⟨j, hkj2, hj2, rfl, rfl⟩ := hrel
            by_cases hjn : j < n
            · have hjs : j < s.size := by omega
              obtain ⟨d1, d2⟩ := digB_bd (HAT.out j hkj2 hjs (by omega))
              have hm := HBD.out (j - k) (by omega)
              have hm2 : numV ((sf s k).take (j - k)) < 1000 := Nat.lt_of_lt_of_le hm (Nat.le_trans (Nat.pow_le_pow_right (by decide) (show j - k ≤ 3 by omega)) (by decide))
              have hsn : Unit → numV ((sf s k).take (j + 1 - k)) = 10 * numV ((sf s k).take (j - k)) + (s[j].toNat - 48) := fun _ => by rw [sf_snoc s k j hkj2 hjs, numV_snoc]
              clear hm
              generalize numV ((sf s k).take (j - k)) = m at *
              have d3 : (48 : Int) ≤ ((s[j].toNat : Nat) : Int) := by omega
              have d4 : ((s[j].toNat : Nat) : Int) ≤ 57 := by omega
              have hm3 : (m : Int) < 1000 := by omega
              clear d1 d2 hm2
              go_wp2
              go_round
              case rel => exact ⟨j + 1, by omega, by omega, by go_num, by rw [hsn ()]; congr 1; omega⟩
              case measure => simp [intOf]; omega
            · obtain rfl : j = n := by omega
              go_wp2
              rw [hR2 ()]
              generalize hv : ((numV ((sf s k).take (j - k)) : Nat) : Int) = v
              exact bodyPost_ret (v := .tuple #[.agg #[.int .i64 5, .string ⟨#[]⟩, .int .u64 0, .int .u64 0, .int .u64 0, .int .u64 0, .int .i64 v, .int .i64 0], .int .i64 (j : Int), .int .i64 0]) (by simp [results, Try.results47, go_sem]) rfl (tkn_ok (by rw [tkV_plain]) (by omega) ((Below.refl _ _).alloc (Nat.le_refl _) _))
        · subst hTn
          go_wp2
          go_loop [8, 9] (fun v t => ∃ j : Nat, k ≤ j ∧ j ≤ n ∧ t = .int .i64 j ∧ v = .int .i64 ((numV ((sf s k).take (j - k)) : Nat) : Int)) (fun _ t => n - (intOf t).toNat)
          case atStart => exact ⟨k, Nat.le_refl _, hkj, rfl, by rw [Nat.sub_self]; rfl⟩
          case round =>
            obtain ⟨j, hkj2, hj2, rfl, rfl⟩ := hrel
            by_cases hjn : j < n
            · have hjs : j < s.size := by omega
              obtain ⟨d1, d2⟩ := digB_bd (HAT.out j hkj2 hjs (by omega))
              have hm := HBD.out (j - k) (by omega)
              have hm2 : numV ((sf s k).take (j - k)) < 1000 := Nat.lt_of_lt_of_le hm (Nat.le_trans (Nat.pow_le_pow_right (by decide) (show j - k ≤ 3 by omega)) (by decide))
              have hsn : Unit → numV ((sf s k).take (j + 1 - k)) = 10 * numV ((sf s k).take (j - k)) + (s[j].toNat - 48) := fun _ => by rw [sf_snoc s k j hkj2 hjs, numV_snoc]
              clear hm
              generalize numV ((sf s k).take (j - k)) = m at *
              have d3 : (48 : Int) ≤ ((s[j].toNat : Nat) : Int) := by omega
              have d4 : ((s[j].toNat : Nat) : Int) ≤ 57 := by omega
              have hm3 : (m : Int) < 1000 := by omega
              clear d1 d2 hm2
              go_wp2
              go_round
              case rel => exact ⟨j + 1, by omega, by omega, by go_num, by rw [hsn ()]; congr 1; omega⟩
              case measure => simp [intOf]; omega
            · obtain rfl : j = n := by omega
              go_wp2
              rw [hR2 ()]
              generalize hv : ((numV ((sf s k).take (j - k)) : Nat) : Int) = v
              exact bodyPost_ret (v := .tuple #[.agg #[.int .i64 5, .string ⟨#[]⟩, .int .u64 0, .int .u64 0, .int .u64 0, .int .u64 0, .int .i64 v, .int .i64 0], .int .i64 (j : Int), .int .i64 0]) (by simp [results, Try.results47, go_sem]) rfl (tkn_ok (by rw [tkV_plain]) (by omega) ((Below.refl _ _).alloc (Nat.le_refl _) _))

end Go.Proofs.Ytbjgkolldmplkaa
