/- The walks of the references in, plain, Byte, Text of layer 6. -/
import Derived.Test.YtbjgkolldmplkaaLexB
import Derived.Laws.Concat
import Derived.Outline
namespace Go.Proofs.Ytbjgkolldmplkaa
open Go.RowKit Go.Sort

theorem sp_at (k : Nat) (hk : k < 6) (W : World) : (Instr.index 9 (.string ⟨#[92, 34, 91, 93, 94, 45]⟩) (.int .i64 ((k : Nat) : Int))).run Try.prog W = .ok (.int .u8 (((spL.getD k 0).toNat : Nat) : Int)) W := by
  rw [run_index_string (h := Try.underlying9)]
  have h : (0 : Int) ≤ ((k : Nat) : Int) ∧ ((k : Nat) : Int) < (((⟨#[92, 34, 91, 93, 94, 45]⟩ : ByteArray).size : Nat) : Int) := by
    have : (⟨#[92, 34, 91, 93, 94, 45]⟩ : ByteArray).size = 6 := rfl
    rw [this]
    omega
  have e : (⟨#[92, 34, 91, 93, 94, 45]⟩ : ByteArray)[k]'hk = spL.getD k 0 := by
    have : ∀ p : Fin 6, (⟨#[92, 34, 91, 93, 94, 45]⟩ : ByteArray)[p.val]'p.isLt = spL.getD p.val 0 := by decide +kernel
    exact this ⟨k, hk⟩
  simp only [h, and_self, dite_true, Int.toNat_natCast]
  rw [e]

set_option maxHeartbeats 1000000 in
theorem rin_any (c : UInt8) (w : World) : Calls Try.prog 54 #[.int .u8 ((c.toNat : Nat) : Int), .string ⟨#[92, 34, 91, 93, 94, 45]⟩] w fun e w' => e = .returned (.bool (spB c)) ∧ w = w' := by
  have hspl : spL.length = 6 := rfl
  go_enter Try.func54, Try.ntmps54
  go_wp2
  go_loop [5] (fun t => ∃ k : Nat, k ≤ 6 ∧ t = .int .i64 k ∧ spB c = (spL.drop k).contains c) (fun t => 6 - (intOf t).toNat)
  case atStart => exact ⟨0, by omega, rfl, rfl⟩
  case round =>
    obtain ⟨k, hk, rfl, hC⟩ := hrel
    have HC := fun _ : Unit => hC
    clear hC
    by_cases hlt : k < 6
    · have hx := sp_at k hlt
      have hdr : Unit → spB c = ((c == spL.getD k 0) || (spL.drop (k + 1)).contains c) := fun _ => by
        rw [HC (), List.drop_eq_getElem_cons (show k < spL.length from hlt), List.contains_cons, List.getD_eq_getElem?_getD, List.getElem?_eq_getElem (show k < spL.length from hlt), Option.getD_some]
      generalize spL.getD k 0 = d at *
      by_cases he : d = c
      · have e1 : (((d.toNat : Nat) : Int) == ((c.toNat : Nat) : Int)) = true := eq_yes (by rw [he])
        have hR : Unit → spB c = true := fun _ => by rw [hdr (), he]; simp
        clear he HC hdr
        go_wp2
        go_ret
        exact ⟨ret_bool (hR ()).symm, rfl⟩
      · have e1 : (((d.toNat : Nat) : Int) == ((c.toNat : Nat) : Int)) = false := eq_no (fun h => he (UInt8.toNat_inj.1 h))
        have hst : Unit → spB c = (spL.drop (k + 1)).contains c := fun _ => by
          rw [hdr ()]
          have : (c == d) = false := by simpa using fun e => he e.symm
          rw [this, Bool.false_or]
        clear he HC hdr
        go_wp2
        go_round
        case rel => exact ⟨k + 1, by omega, by go_num, hst ()⟩
        case measure => simp [intOf]; omega
    · obtain rfl : k = 6 := by omega
      have hR : Unit → spB c = false := fun _ => by rw [HC ()]; rfl
      clear HC
      go_wp2
      go_ret
      exact ⟨ret_bool (hR ()).symm, rfl⟩

theorem rplain_any (c : UInt8) (w : World) : Calls Try.prog 53 #[.int .u8 ((c.toNat : Nat) : Int)] w fun e w' => e = .returned (.bool (plB c)) ∧ w = w' := by
  have hc : plB c = (decide (32 ≤ c.toNat) && decide (c.toNat ≤ 126) && !spB c) := rfl
  have HC := Lib.hid hc
  have HI := Lib.hid (rin_any c w)
  clear hc
  generalize plB c = b at *
  by_cases h1 : 32 ≤ c.toNat
  · by_cases h2 : c.toNat ≤ 126
    · go_enter Try.func53, Try.ntmps53
      go_wp2_with (go_at_call 54; refine HI.out.mono ?_; rintro e w' ⟨rfl, rfl⟩)
      go_ret
      refine ⟨ret_bool ?_, rfl⟩
      rw [HC.out]
      simp [h1, h2]
    · go_enter Try.func53, Try.ntmps53
      go_wp2
      go_ret
      refine ⟨ret_bool ?_, rfl⟩
      rw [HC.out]
      simp [h2]
  · go_enter Try.func53, Try.ntmps53
    go_wp2
    go_ret
    refine ⟨ret_bool ?_, rfl⟩
    rw [HC.out]
    simp [h1]

theorem own_new (w : World) (cs : Array Value) (l : List UInt8) (n : Nat) (h : cs.toList = uVals l) (hn : l.length = n) (hm : n ≤ maxLen) :
    (w.alloc (.cells cs 5)).ownsRow w.heap.size 5 1 (.slice (some ⟨w.heap.size, 0, none⟩) n n) n (uVals l) := by
  have hc : cs.size = n := by rw [← Array.length_toList, h]; simp [uVals, hn]
  refine ⟨by simp [uVals, hn], .inr ⟨w.heap.size, n, cs, rfl, Nat.le_refl _, heap_alloc_new w _, Nat.le_refl _, hm, by omega, ?_⟩⟩
  rw [Nat.mul_one, ← hc, ← Array.length_toList, List.take_length, h]

theorem hex_ext (n : Nat) (h : n < 16) : (⟨#[48, 49, 50, 51, 52, 53, 54, 55, 56, 57, 97, 98, 99, 100, 101, 102]⟩ : ByteArray).extract n (n + 1) = ⟨#[hexC n]⟩ := by
  have : ∀ p : Fin 16, (⟨#[48, 49, 50, 51, 52, 53, 54, 55, 56, 57, 97, 98, 99, 100, 101, 102]⟩ : ByteArray).extract p.val (p.val + 1) = ⟨#[hexC p.val]⟩ := by decide +kernel
  exact this ⟨n, h⟩

set_option maxRecDepth 100000 in
set_option maxHeartbeats 2000000 in
theorem rbyte_any (c : UInt8) (w : World) : Calls Try.prog 39 #[.int .u8 ((c.toNat : Nat) : Int)] w (Gives (.string ⟨(wrL c).toArray⟩) w) := by
  have HP := fun W => rplain_any c W
  have HI := fun W => rin_any c W
  cases hp : plB c
  · rw [hp] at HP
    have HP' := Lib.hid HP
    clear HP
    cases hs : spB c
    · rw [hs] at HI
      have HI' := Lib.hid HI
      clear HI
      by_cases h1 : c.toNat = 10
      · have hw : wrL c = [92, 110] := if_pos h1
        have e1 : (((c.toNat : Nat) : Int) == 10) = true := eq_yes h1
        rw [hw]
        clear hw h1 hp hs
        go_enter Try.func39, Try.ntmps39
        go_wp2_with (first | (go_at_call 53; refine (HP'.out _).mono ?_; rintro e w' ⟨rfl, rfl⟩) | (go_at_call 54; refine (HI'.out _).mono ?_; rintro e w' ⟨rfl, rfl⟩))
        go_ret
        exact ⟨rfl, Below.refl _ _⟩
      have e1 : (((c.toNat : Nat) : Int) == 10) = false := eq_no h1
      by_cases h2 : c.toNat = 9
      · have hw : wrL c = [92, 116] := (if_neg h1).trans (if_pos h2)
        have e2 : (((c.toNat : Nat) : Int) == 9) = true := eq_yes h2
        rw [hw]
        clear hw h1 h2 hp hs
        go_enter Try.func39, Try.ntmps39
        go_wp2_with (first | (go_at_call 53; refine (HP'.out _).mono ?_; rintro e w' ⟨rfl, rfl⟩) | (go_at_call 54; refine (HI'.out _).mono ?_; rintro e w' ⟨rfl, rfl⟩))
        go_ret
        exact ⟨rfl, Below.refl _ _⟩
      have e2 : (((c.toNat : Nat) : Int) == 9) = false := eq_no h2
      by_cases h3 : c.toNat = 13
      · have hw : wrL c = [92, 114] := (if_neg h1).trans ((if_neg h2).trans (if_pos h3))
        have e3 : (((c.toNat : Nat) : Int) == 13) = true := eq_yes h3
        rw [hw]
        clear hw h1 h2 h3 hp hs
        go_enter Try.func39, Try.ntmps39
        go_wp2_with (first | (go_at_call 53; refine (HP'.out _).mono ?_; rintro e w' ⟨rfl, rfl⟩) | (go_at_call 54; refine (HI'.out _).mono ?_; rintro e w' ⟨rfl, rfl⟩))
        go_ret
        exact ⟨rfl, Below.refl _ _⟩
      have e3 : (((c.toNat : Nat) : Int) == 13) = false := eq_no h3
      have hw : wrL c = [92, 120, hexC (c.toNat / 16), hexC (c.toNat % 16)] := by
        have : wrL c = if spB c then [92, c] else if plB c then [c] else [92, 120, hexC (c.toNat / 16), hexC (c.toNat % 16)] := (if_neg h1).trans ((if_neg h2).trans (if_neg h3))
        rw [this, hs, hp]
        rfl
      rw [hw]
      clear hw h1 h2 h3 hp hs
      have hlt := UInt8.toNat_lt c
      have hlt2 : ((c.toNat : Nat) : Int) < 256 := by omega
      go_enter Try.func39, Try.ntmps39
      go_wp2_with (first | (go_at_call 53; refine (HP'.out _).mono ?_; rintro e w' ⟨rfl, rfl⟩) | (go_at_call 54; refine (HI'.out _).mono ?_; rintro e w' ⟨rfl, rfl⟩))
      refine wp_region_quiet_lit (by kernel_rfl) (by kernel_rfl) ?_
      repeat (go_big_quiet_step (fail))
      refine wpQuiet_nil ?_
      intro _ hw'
      obtain ⟨nq, hw''⟩ := hw'
      subst hw''
      rw [hex_ext _ (show c.toNat / 16 < 16 by omega), hex_ext _ (show c.toNat % 16 < 16 by omega)]
      go_wp2
      go_ret
      exact ⟨rfl, below_drewN (Below.refl _ w) nq⟩
    · rw [hs] at HI
      have HI' := Lib.hid HI
      clear HI
      have hsp := (spB_iff c).1 hs
      have hw : wrL c = [92, c] := by
        have : wrL c = if spB c then [92, c] else if plB c then [c] else [92, 120, hexC (c.toNat / 16), hexC (c.toNat % 16)] := (if_neg (show ¬ c.toNat = 10 by omega)).trans ((if_neg (show ¬ c.toNat = 9 by omega)).trans (if_neg (show ¬ c.toNat = 13 by omega)))
        rw [this, hs]
        rfl
      have hconv := conv_own (own_new w #[.int .u8 92, .int .u8 ((c.toNat : Nat) : Int)] [92, c] 2 rfl rfl (by unfold maxLen; decide))
      rw [hw]
      clear hw hsp hp hs
      go_enter Try.func39, Try.ntmps39
      go_wp2_with (first | (go_at_call 53; refine (HP'.out _).mono ?_; rintro e w' ⟨rfl, rfl⟩) | (go_at_call 54; refine (HI'.out _).mono ?_; rintro e w' ⟨rfl, rfl⟩))
      go_ret
      exact ⟨rfl, (Below.refl _ _).alloc (Nat.le_refl _) _⟩
  · rw [hp] at HP
    have HP' := Lib.hid HP
    clear HP HI
    have hb : (32 ≤ c.toNat ∧ c.toNat ≤ 126) ∧ spB c = false := by
      have h : (decide (32 ≤ c.toNat) && decide (c.toNat ≤ 126) && !spB c) = true := hp
      simpa using h
    have hw : wrL c = [c] := by
      have : wrL c = if spB c then [92, c] else if plB c then [c] else [92, 120, hexC (c.toNat / 16), hexC (c.toNat % 16)] := (if_neg (show ¬ c.toNat = 10 by omega)).trans ((if_neg (show ¬ c.toNat = 9 by omega)).trans (if_neg (show ¬ c.toNat = 13 by omega)))
      rw [this, hb.2, hp]
      rfl
    have hconv := conv_own (own_new w #[.int .u8 ((c.toNat : Nat) : Int)] [c] 1 rfl rfl (by unfold maxLen; decide))
    rw [hw]
    clear hw hb hp
    go_enter Try.func39, Try.ntmps39
    go_wp2_with (go_at_call 53; refine (HP'.out _).mono ?_; rintro e w' ⟨rfl, rfl⟩)
    go_ret
    exact ⟨rfl, (Below.refl _ _).alloc (Nat.le_refl _) _⟩

theorem str_data (F : ByteArray) (l : List UInt8) (h : F.data.toList = l) : F = ⟨l.toArray⟩ := by
  subst h
  obtain ⟨⟨x⟩⟩ := F
  rfl

set_option maxRecDepth 100000 in
set_option maxHeartbeats 2000000 in
theorem rtext_any (b : ByteArray) (w : World) (hs : b.size ≤ 1000) : Calls Try.prog 27 #[.string b] w (Gives (.string ⟨(txL b.data.toList).toArray⟩) w) := by
  go_enter Try.func27, Try.ntmps27
  go_wp2
  go_loopw [3, 4] (fun v t wr => ∃ (k : Nat) (F : ByteArray), k ≤ b.size ∧ t = .int .i64 k ∧ v = .string F ∧ F.data.toList = wrAll (b.data.toList.take k) ∧ Below w.heap.size w wr) (fun _ t _ => b.size - (intOf t).toNat)
  case atStart => exact ⟨0, ⟨#[]⟩, Nat.zero_le _, rfl, rfl, rfl, Below.refl _ _⟩
  case round =>
    obtain ⟨k, F, hk, rfl, rfl, hF, HB⟩ := hrel
    have hFs : F.size ≤ 4000 := by
      have h1 : F.data.toList.length = F.size := by simp
      have h2 := wrAll_len (b.data.toList.take k)
      have h3 : (b.data.toList.take k).length ≤ k := List.length_take_le _ _
      rw [hF] at h1
      omega
    have HF := fun _ : Unit => hF
    clear hF
    by_cases hlt : k < b.size
    · have hst := take_snocU b k hlt
      have hwl := wrL_len b[k]
      have hsn : Unit → wrAll (b.data.toList.take (k + 1)) = wrAll (b.data.toList.take k) ++ wrL b[k] := fun _ => by rw [hst, wrAll_snoc]
      clear hst
      have HW := Lib.hid (fun W => rbyte_any b[k] W)
      generalize wrL b[k] = ad at *
      have hsz : (⟨ad.toArray⟩ : ByteArray).size ≤ 4 := hwl
      generalize hG : (⟨ad.toArray⟩ : ByteArray) = G at *
      have HG := fun _ : Unit => hG
      clear hG
      go_wp2_with (go_at_call 39; refine (HW.out _).mono ?_; rintro e w1 ⟨rfl, HB1⟩; have L1 := HB.trans (HB1.mono HB.size))
      go_roundw
      case rel => exact ⟨k + 1, _, by omega, by go_num, rfl, by rw [hsn (), ← HF (), ← HG ()]; simp, L1⟩
      case measure => simp [intOf]; omega
    · obtain rfl : k = b.size := by omega
      have hall : b.data.toList.take b.size = b.data.toList := List.take_of_length_le (by simp)
      have hR : Unit → (⟨#[34]⟩ ++ F ++ ⟨#[34]⟩ : ByteArray) = ⟨(txL b.data.toList).toArray⟩ := fun _ => str_data _ _ (by
        have := HF ()
        rw [hall] at this
        simp [txL, this])
      clear HF hall
      go_wp2
      go_ret
      exact ⟨by rw [← hR ()]; rfl, HB⟩

end Go.Proofs.Ytbjgkolldmplkaa
