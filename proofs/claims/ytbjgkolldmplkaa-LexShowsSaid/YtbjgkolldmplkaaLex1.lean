/- The walks of letter, digit, IndexByte, plain, twoDigits, one of package lex. -/
import Derived.Test.YtbjgkolldmplkaaKit
import Derived.Test.YtbjgkolldmplkaaLexP
import Derived.Laws.Externs
import Derived.LoopN
namespace Go.Proofs.Ytbjgkolldmplkaa
open Go.RowKit Go.Sort

theorem ret_bool {a b : Bool} (h : a = b) : Ending.returned (.bool a) = .returned (.bool b) := by rw [h]

theorem letter_any (c : UInt8) (w : World) : Calls Try.prog 44 #[.int .u8 ((c.toNat : Nat) : Int)] w fun e w' => e = .returned (.bool (letB c)) ∧ w = w' := by
  have hc : letB c = ((decide (97 ≤ c.toNat) && decide (c.toNat ≤ 122)) || (decide (65 ≤ c.toNat) && decide (c.toNat ≤ 90)) || decide (c.toNat = 95)) := rfl
  have HC := Lib.hid hc
  clear hc
  generalize c.toNat = n at *
  generalize letB c = b at *
  go_enter Try.func44, Try.ntmps44
  go_wp2
  all_goals
    go_ret
    refine ⟨ret_bool ?_, rfl⟩
    rw [HC.out, Bool.eq_iff_iff]
    simp
    try omega

theorem digit_any (c : UInt8) (w : World) : Calls Try.prog 46 #[.int .u8 ((c.toNat : Nat) : Int)] w fun e w' => e = .returned (.bool (digB c)) ∧ w = w' := by
  have hc : digB c = (decide (48 ≤ c.toNat) && decide (c.toNat ≤ 57)) := rfl
  have HC := Lib.hid hc
  clear hc
  generalize c.toNat = n at *
  generalize digB c = b at *
  go_enter Try.func46, Try.ntmps46
  go_wp2
  all_goals
    go_ret
    refine ⟨ret_bool ?_, rfl⟩
    rw [HC.out, Bool.eq_iff_iff]
    simp
    try omega

theorem u8_back (c : UInt8) : ((c.toNat : Nat) : Int).toNat.toUInt8 = c := by
  rw [Int.toNat_natCast]
  exact UInt8.ofNat_toNat

theorem slib_any (s : ByteArray) (c : UInt8) (w : World) :
    Calls Try.prog 57 #[.string s, .int .u8 ((c.toNat : Nat) : Int)] w fun e w' => e = .returned (.int .i64 (Lib.indexByte s.data.toList c)) ∧ w = w' := by
  have hu := u8_back c
  go_enter Try.func57, Try.ntmps57
  go_wp2
  rw [run_callFunc_extern Try.func60 (by kernel_rfl) (by kernel_rfl) (by kernel_rfl) (e := Extern.BytealgIndexByte.indexByte) (by kernel_rfl), Lib.run_indexByteString]
  simp only [Result.andThen]
  rw [Oper.upon_value]
  go_wp2
  go_ret
  exact ⟨rfl, rfl⟩

theorem index_any (s : ByteArray) (c : UInt8) (w : World) :
    Calls Try.prog 51 #[.string s, .int .u8 ((c.toNat : Nat) : Int)] w fun e w' => e = .returned (.int .i64 (Lib.indexByte s.data.toList c)) ∧ w = w' := by
  go_enter Try.func51, Try.ntmps51
  go_wp2_with (go_at_call 57; refine (slib_any _ _ _).mono ?_; rintro e w' ⟨rfl, rfl⟩)
  go_ret
  exact ⟨rfl, rfl⟩

theorem plain_any (c : UInt8) (w : World) : Calls Try.prog 52 #[.int .u8 ((c.toNat : Nat) : Int)] w fun e w' => e = .returned (.bool (plB c)) ∧ w = w' := by
  have hc : plB c = (decide (32 ≤ c.toNat) && decide (c.toNat ≤ 126) && !spL.contains c) := rfl
  have HC := Lib.hid hc
  have HI := Lib.hid (index_any ⟨#[92, 34, 91, 93, 94, 45]⟩ c w)
  have HN := Lib.hid (index_neg spL c)
  have e0 : Lib.indexByte (⟨#[92, 34, 91, 93, 94, 45]⟩ : ByteArray).data.toList c = Lib.indexByte spL c := rfl
  rw [e0] at HI
  clear hc e0
  generalize Lib.indexByte spL c = i at *
  generalize plB c = b at *
  by_cases h1 : 32 ≤ c.toNat
  · by_cases h2 : c.toNat ≤ 126
    · go_enter Try.func52, Try.ntmps52
      go_wp2_with (go_at_call 51; refine HI.out.mono ?_; rintro e w' ⟨rfl, rfl⟩)
      go_ret
      refine ⟨ret_bool ?_, rfl⟩
      rw [HC.out, Bool.eq_iff_iff]
      have := HN.out
      simp [h1, h2, this]
    · go_enter Try.func52, Try.ntmps52
      go_wp2
      go_ret
      refine ⟨ret_bool ?_, rfl⟩
      rw [HC.out]
      simp [h2]
  · go_enter Try.func52, Try.ntmps52
    go_wp2
    go_ret
    refine ⟨ret_bool ?_, rfl⟩
    rw [HC.out]
    simp [h1]

theorem hex_any (c : UInt8) (w : World) :
    Calls Try.prog 51 #[.string ⟨#[48, 49, 50, 51, 52, 53, 54, 55, 56, 57, 97, 98, 99, 100, 101, 102]⟩, .int .u8 ((c.toNat : Nat) : Int)] w fun e w' => e = .returned (.int .i64 (hexV c)) ∧ w = w' :=
  index_any _ c w

/-- A byte, a place and an error's number come back; all is as it was. -/
def Byt (r : Int × UInt8 × Nat) (k : Nat) (w : World) (e : Ending) (w' : World) : Prop :=
  e = .returned (.tuple #[.int .u8 ((r.2.1.toNat : Nat) : Int), .int .i64 (plc r.1 k r.2.2), .int .i64 r.1]) ∧ w = w'

theorem byt_ok {c : UInt8} {n k : Nat} {w : World} {x y : Int} (hx : x = ((c.toNat : Nat) : Int)) (hy : y = ((k + n : Nat) : Int)) :
    Byt (0, c, n) k w (.returned (.tuple #[.int .u8 x, .int .i64 y, .int .i64 0])) w := by
  subst hx hy
  exact ⟨rfl, rfl⟩
theorem byt_no {n k : Nat} {w : World} {x : Int} (hx : x ≠ 0) : Byt (x, 0, n) k w (.returned (.tuple #[.int .u8 0, .int .i64 0, .int .i64 x])) w := by
  refine ⟨?_, rfl⟩
  unfold plc
  rw [if_neg hx]
  rfl

set_option maxRecDepth 100000 in
set_option maxHeartbeats 1000000 in
theorem two_any (s : ByteArray) (k : Nat) (w : World) (hs : s.size ≤ maxLen) (hk : k ≤ s.size) :
    Calls Try.prog 58 #[.string s, .int .i64 k] w (Byt (twoL (sf s k)) k w) := by
  unfold maxLen at hs
  by_cases h0 : k = s.size
  · subst h0
    have hT : twoL (sf s s.size) = (6, 0, 0) := by rw [sf_end s _ (Nat.le_refl _)]; rfl
    rw [hT]
    clear hT
    go_enter Try.func58, Try.ntmps58
    go_wp2
    refine wp_loop_rounds 1 ?_
    rw [rounds_succ]
    go_wp2
    go_ret3
    exact ⟨rfl, rfl⟩
  have hk1 : k < s.size := by omega
  have hk2 : ((k : Int) == (s.size : Int)) = false := by rw [beq_eq_false_iff_ne]; omega
  have hk3 : (k == s.size) = false := by rw [beq_eq_false_iff_ne]; exact h0
  have HA := fun W => hex_any s[k] W
  have hab := hexV_bd s[k]
  by_cases h1 : hexV s[k] < 0
  · have hT : twoL (sf s k) = (4, 0, 0) := by
      rw [sf_cons s k hk1]
      exact two_a _ h1
    rw [hT]
    clear hT
    generalize hexV s[k] = a at *
    have HA' := Lib.hid HA
    clear HA h0
    go_enter Try.func58, Try.ntmps58
    go_wp2
    refine wp_loop_rounds 1 ?_
    rw [rounds_succ]
    go_wp2_with (go_at_call 51; refine (HA'.out _).mono ?_; rintro e w' ⟨rfl, rfl⟩)
    go_ret3
    exact ⟨rfl, rfl⟩
  have h1' : 0 ≤ hexV s[k] := by omega
  by_cases h2 : k + 1 = s.size
  · have hT : twoL (sf s k) = (6, 0, 0) := by
      rw [sf_cons s k hk1, sf_end s (k + 1) (by omega)]
      exact two_e h1
    rw [hT]
    clear hT
    have h2a : ((k : Int) + 1 == (s.size : Int)) = true := by rw [beq_iff_eq]; omega
    generalize hexV s[k] = a at *
    have HA' := Lib.hid HA
    clear HA h0 h1 h2
    go_enter Try.func58, Try.ntmps58
    go_wp2
    refine wp_loop_rounds 2 ?_
    rw [rounds_succ]
    go_wp2_with (go_at_call 51; refine (HA'.out _).mono ?_; rintro e w' ⟨rfl, rfl⟩)
    rw [rounds_succ]
    go_wp2
    go_ret3
    exact ⟨rfl, rfl⟩
  have hk4 : k + 1 < s.size := by omega
  have hk5 : ((k : Int) + 1 == (s.size : Int)) = false := by rw [beq_eq_false_iff_ne]; omega
  have HB := fun W => hex_any s[k + 1] W
  have hbb := hexV_bd s[k + 1]
  by_cases h3 : hexV s[k + 1] < 0
  · have hT : twoL (sf s k) = (4, 0, 0) := by
      rw [sf_cons s k hk1, sf_cons s (k + 1) hk4]
      exact two_b _ h1 h3
    rw [hT]
    clear hT
    generalize hexV s[k] = a at *
    generalize hexV s[k + 1] = b at *
    have HA' := Lib.hid HA
    have HB' := Lib.hid HB
    clear HA HB h0 h1 h2
    go_enter Try.func58, Try.ntmps58
    go_wp2
    refine wp_loop_rounds 2 ?_
    rw [rounds_succ]
    go_wp2_with (go_at_call 51; refine (HA'.out _).mono ?_; rintro e w' ⟨rfl, rfl⟩)
    rw [rounds_succ]
    go_wp2_with (go_at_call 51; refine (HB'.out _).mono ?_; rintro e w' ⟨rfl, rfl⟩)
    go_ret3
    exact ⟨rfl, rfl⟩
  · have hT : twoL (sf s k) = (0, UInt8.ofNat (16 * hexV s[k] + hexV s[k + 1]).toNat, 2) := by
      rw [sf_cons s k hk1, sf_cons s (k + 1) hk4]
      exact two_ok _ h1 h3
    rw [hT]
    clear hT
    have h3' : 0 ≤ hexV s[k + 1] := by omega
    generalize hexV s[k] = a at *
    generalize hexV s[k + 1] = b at *
    have HA' := Lib.hid HA
    have HB' := Lib.hid HB
    clear HA HB h0 h1 h2 h3
    go_enter Try.func58, Try.ntmps58
    go_wp2
    refine wp_loop_rounds 3 ?_
    rw [rounds_succ]
    go_wp2_with (go_at_call 51; refine (HA'.out _).mono ?_; rintro e w' ⟨rfl, rfl⟩)
    rw [rounds_succ]
    go_wp2_with (go_at_call 51; refine (HB'.out _).mono ?_; rintro e w' ⟨rfl, rfl⟩)
    rw [rounds_succ]
    go_wp2
    go_ret3
    exact byt_ok (by
      rw [UInt8.toNat_ofNat']
      omega) (by omega)

theorem eq_yes {m : Nat} {n : Nat} (h : m = n) : (((m : Nat) : Int) == ((n : Nat) : Int)) = true := by rw [h]; exact beq_self_eq_true _
theorem eq_no {m : Nat} {n : Nat} (h : m ≠ n) : (((m : Nat) : Int) == ((n : Nat) : Int)) = false := by rw [beq_eq_false_iff_ne]; omega
theorem ne_yes {m : Nat} {n : Nat} (h : m ≠ n) : (((m : Nat) : Int) != ((n : Nat) : Int)) = true := by rw [bne_iff_ne]; omega
theorem ne_no {m : Nat} {n : Nat} (h : m = n) : (((m : Nat) : Int) != ((n : Nat) : Int)) = false := by rw [h]; exact bne_self_eq_false _

set_option maxRecDepth 100000 in
set_option maxHeartbeats 2000000 in
theorem one_any (s : ByteArray) (k : Nat) (w : World) (hs : s.size ≤ maxLen) (hk : k ≤ s.size) :
    Calls Try.prog 55 #[.string s, .int .i64 k] w (Byt (oneL (sf s k)) k w) := by
  have hs' := hs
  unfold maxLen at hs
  by_cases h0 : k = s.size
  · subst h0
    have hT : oneL (sf s s.size) = (6, 0, 0) := by rw [sf_end s _ (Nat.le_refl _)]; rfl
    rw [hT]
    clear hT
    go_enter Try.func55, Try.ntmps55
    go_wp2
    go_ret3
    exact ⟨rfl, rfl⟩
  have hk1 : k < s.size := by omega
  have hk2 : ((k : Int) == (s.size : Int)) = false := eq_no h0
  have hk3 : (k == s.size) = false := by rw [beq_eq_false_iff_ne]; exact h0
  by_cases hc : s[k].toNat = 92
  · have c1 : (((s[k].toNat : Nat) : Int) != 92) = false := ne_no hc
    by_cases h1 : k + 1 = s.size
    · have hT : oneL (sf s k) = (6, 0, 0) := by
        rw [sf_cons s k hk1, sf_end s (k + 1) (by omega)]
        exact one_esc _ hc
      rw [hT]
      have h1a : ((k : Int) + 1 == (s.size : Int)) = true := by rw [beq_iff_eq]; omega
      clear hT hc h1 h0
      go_enter Try.func55, Try.ntmps55
      go_wp2
      go_ret3
      exact ⟨rfl, rfl⟩
    have hk4 : k + 1 < s.size := by omega
    have hk5 : ((k : Int) + 1 == (s.size : Int)) = false := by rw [beq_eq_false_iff_ne]; omega
    have hT : oneL (sf s k) = escL (s[k + 1] :: sf s (k + 2)) := by
      rw [sf_cons s k hk1, sf_cons s (k + 1) hk4]
      exact one_esc _ hc
    rw [hT]
    clear hT hc h1 h0
    by_cases d1 : s[k + 1].toNat = 110
    · have e1 : (((s[k + 1].toNat : Nat) : Int) == 110) = true := eq_yes d1
      rw [esc_n _ d1]
      clear d1
      go_enter Try.func55, Try.ntmps55
      go_wp2
      go_ret3
      exact byt_ok rfl (by omega)
    have e1 : (((s[k + 1].toNat : Nat) : Int) == 110) = false := eq_no d1
    by_cases d2 : s[k + 1].toNat = 116
    · have e2 : (((s[k + 1].toNat : Nat) : Int) == 116) = true := eq_yes d2
      rw [esc_t _ d2]
      clear d1 d2
      go_enter Try.func55, Try.ntmps55
      go_wp2
      go_ret3
      exact byt_ok rfl (by omega)
    have e2 : (((s[k + 1].toNat : Nat) : Int) == 116) = false := eq_no d2
    by_cases d3 : s[k + 1].toNat = 114
    · have e3 : (((s[k + 1].toNat : Nat) : Int) == 114) = true := eq_yes d3
      rw [esc_r _ d3]
      clear d1 d2 d3
      go_enter Try.func55, Try.ntmps55
      go_wp2
      go_ret3
      exact byt_ok rfl (by omega)
    have e3 : (((s[k + 1].toNat : Nat) : Int) == 114) = false := eq_no d3
    by_cases d4 : s[k + 1].toNat = 120
    · have e4 : (((s[k + 1].toNat : Nat) : Int) == 120) = true := eq_yes d4
      rw [esc_x _ d4]
      have H2 := fun W => two_any s (k + 2) W hs' (by omega)
      rw [show ((k + 2 : Nat) : Int) = (k : Int) + 1 + 1 by omega] at H2
      have H := Lib.hid H2
      clear d1 d2 d3 d4 H2
      generalize twoL (sf s (k + 2)) = T at *
      go_enter Try.func55, Try.ntmps55
      go_wp2_with (go_at_call 58; refine (H.out _).mono ?_; rintro e w' ⟨rfl, rfl⟩)
      go_ret3
      refine ⟨?_, rfl⟩
      have e : plc T.1 k (T.2.2 + 2) = plc T.1 (k + 2) T.2.2 := by unfold plc; split <;> omega
      rw [e]
      rfl
    have e4 : (((s[k + 1].toNat : Nat) : Int) == 120) = false := eq_no d4
    have HI := Lib.hid (fun W => index_any ⟨#[92, 34, 91, 93, 94, 45]⟩ s[k + 1] W)
    have HN := spL_idx s[k + 1]
    rw [show Lib.indexByte (⟨#[92, 34, 91, 93, 94, 45]⟩ : ByteArray).data.toList s[k + 1] = Lib.indexByte spL s[k + 1] from rfl] at HI
    cases hsp : spB s[k + 1]
    · rw [esc_no _ d1 d2 d3 d4 hsp]
      have hi := HN.2 hsp
      clear d1 d2 d3 d4 hsp HN
      generalize Lib.indexByte spL s[k + 1] = i at *
      go_enter Try.func55, Try.ntmps55
      go_wp2_with (go_at_call 51; refine (HI.out _).mono ?_; rintro e w' ⟨rfl, rfl⟩)
      go_ret3
      exact ⟨rfl, rfl⟩
    · rw [esc_sp _ d1 d2 d3 d4 hsp]
      have hi : 0 ≤ Lib.indexByte spL s[k + 1] := by
        rcases (show Lib.indexByte spL s[k + 1] < 0 ∨ 0 ≤ Lib.indexByte spL s[k + 1] by omega) with h | h
        · rw [HN.1 h] at hsp; cases hsp
        · exact h
      clear d1 d2 d3 d4 hsp HN
      generalize Lib.indexByte spL s[k + 1] = i at *
      go_enter Try.func55, Try.ntmps55
      go_wp2_with (go_at_call 51; refine (HI.out _).mono ?_; rintro e w' ⟨rfl, rfl⟩)
      go_ret3
      exact byt_ok rfl (by omega)
  · have c1 : (((s[k].toNat : Nat) : Int) != 92) = true := ne_yes hc
    have HP := Lib.hid (fun W => plain_any s[k] W)
    cases hp : plB s[k]
    · have hT : oneL (sf s k) = (4, 0, 0) := by
        rw [sf_cons s k hk1]
        exact one_no _ hc hp
      rw [hT]
      rw [hp] at HP
      clear hT hc hp h0
      go_enter Try.func55, Try.ntmps55
      go_wp2_with (go_at_call 52; refine (HP.out _).mono ?_; rintro e w' ⟨rfl, rfl⟩)
      go_ret3
      exact ⟨rfl, rfl⟩
    · have hT : oneL (sf s k) = (0, s[k], 1) := by
        rw [sf_cons s k hk1]
        exact one_plain _ hc hp
      rw [hT]
      rw [hp] at HP
      clear hT hc hp h0
      go_enter Try.func55, Try.ntmps55
      go_wp2_with (go_at_call 52; refine (HP.out _).mono ?_; rintro e w' ⟨rfl, rfl⟩)
      go_ret3
      exact byt_ok rfl (by omega)

end Go.Proofs.Ytbjgkolldmplkaa
