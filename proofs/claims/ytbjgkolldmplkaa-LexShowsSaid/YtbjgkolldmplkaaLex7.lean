/- The walk of sign of package lex. -/
import Derived.Test.YtbjgkolldmplkaaLexW
import Derived.Laws.RangeString
namespace Go.Proofs.Ytbjgkolldmplkaa
open Go.RowKit Go.Sort

/-- Does s begin with p? -/
def preB (p s : ByteArray) : Bool := Lib.hasPrefix s.data.toList p.data.toList

theorem preB_yes (s p : ByteArray) (h : p.size ≤ s.size) : ((s.extract 0 p.size).toList == p.toList) = preB p s := by
  unfold preB; rw [← Lib.hasPrefix_raw]; simp [h]
theorem preB_no (s p : ByteArray) (h : ¬ p.size ≤ s.size) : preB p s = false := by
  unfold preB; rw [← Lib.hasPrefix_raw]; simp [h]

set_option maxHeartbeats 400000 in
theorem slpre_any (s p : ByteArray) (w : World) (_hs : s.size ≤ maxLen) (_hp : p.size ≤ maxLen) :
    Calls Try.prog 59 #[.string s, .string p] w fun e w' => e = .returned (.bool (preB p s)) ∧ w = w' := by
  unfold maxLen at _hs _hp
  by_cases h : p.size ≤ s.size
  · go_enter Try.func59, Try.ntmps59
    go_wp2
    go_ret
    exact ⟨by simp [preB_yes s p h], rfl⟩
  · go_enter Try.func59, Try.ntmps59
    go_wp2
    go_ret
    exact ⟨by simp [preB_no s p h], rfl⟩

theorem pre_any (s p : ByteArray) (w : World) (hs : s.size ≤ maxLen) (hp : p.size ≤ maxLen) :
    Calls Try.prog 56 #[.string s, .string p] w fun e w' => e = .returned (.bool (preB p s)) ∧ w = w' := by
  go_enter Try.func56, Try.ntmps56
  go_wp2_with (go_at_call 59; refine (slpre_any _ _ _ hs hp).mono ?_; rintro e w' ⟨rfl, rfl⟩)
  go_ret
  exact ⟨rfl, rfl⟩

theorem pre_arrow (s : ByteArray) (k : Nat) : preB ⟨#[45, 62]⟩ (s.extract k s.size) = arB (sf s k) := by
  unfold preB
  have e : (s.extract k s.size).data.toList = sf s k := by
    rw [Lib.extract_data]
    exact List.take_of_length_le (by rw [List.length_drop]; exact Nat.le_refl _)
  rw [e]
  match sf s k with
  | [] => rfl
  | [a] => simp [Lib.hasPrefix, arB, List.isPrefixOf]
  | a :: b :: r =>
    rw [Bool.eq_iff_iff]
    simp only [Lib.hasPrefix, arB, List.isPrefixOf, Bool.and_true, Bool.and_eq_true, beq_iff_eq, decide_eq_true_eq, ← UInt8.toNat_inj]
    constructor
    · rintro ⟨h1, h2⟩
      exact ⟨h1.symm, h2.symm⟩
    · rintro ⟨h1, h2⟩
      exact ⟨h1.symm, h2.symm⟩

theorem sg_some : ∀ (pos : Nat) (h : pos < 18), ∃ d : UInt8, (⟨#[61, 59, 40, 41, 124, 38, 33, 42, 43, 63, 58, 46, 47, 44, 123, 125, 126, 62]⟩ : ByteArray)[pos]'h = d ∧ d.toNat < 128 ∧ sgL.drop pos = d :: sgL.drop (pos + 1) := by
  intro pos h
  refine ⟨_, rfl, ?_, ?_⟩
  · have : ∀ p : Fin 18, ((⟨#[61, 59, 40, 41, 124, 38, 33, 42, 43, 63, 58, 46, 47, 44, 123, 125, 126, 62]⟩ : ByteArray)[p.val]'p.isLt).toNat < 128 := by decide +kernel
    exact this ⟨pos, h⟩
  · rw [List.drop_eq_getElem_cons (show pos < sgL.length from h)]
    rfl

set_option maxRecDepth 100000 in
set_option maxHeartbeats 4000000 in
theorem sign_any (s : ByteArray) (k : Nat) (w : World) (hs : s.size ≤ 1000000) (hk : k < s.size) :
    Calls Try.prog 50 #[.string s, .int .i64 k] w (Tkn (signL (sf s k)) k w) := by
  have hsm : s.size ≤ maxLen := by unfold maxLen; omega
  have HP : ∀ W, Calls Try.prog 56 #[.string (s.extract k s.size), .string ⟨#[45, 62]⟩] W fun e w' => e = .returned (.bool (arB (sf s k))) ∧ W = w' := fun W => by
    rw [← pre_arrow]
    refine pre_any _ _ W ?_ (by unfold maxLen; decide)
    have : (s.extract k s.size).size ≤ s.size := by simp
    omega
  have hb := Blk.new w 46 #[.int .i64 0, .string ⟨#[]⟩, .int .u64 0, .int .u64 0, .int .u64 0, .int .u64 0, .int .i64 0, .int .i64 0]
  have HB : Below w.heap.size w (w.alloc (.cells #[.int .i64 0, .string ⟨#[]⟩, .int .u64 0, .int .u64 0, .int .u64 0, .int .u64 0, .int .i64 0, .int .i64 0] 46)) := (Below.refl _ _).alloc (Nat.le_refl _) _
  cases ha : arB (sf s k)
  · have hR : signL (sf s k) = if sgB s[k] then (0, ⟨4, [s[k]], sNone, 0⟩, 1) else (4, tk0, 0) := by
      rw [sf_cons s k hk] at ha ⊢
      exact if_neg (by rw [ha]; decide)
    rw [ha] at HP
    have HP' := Lib.hid HP
    clear HP ha
    have hx := ext_sf s k 1
    rw [sf_cons s k hk] at hx
    have HX := fun _ : Unit => hx
    have HR := fun _ : Unit => hR
    clear hx hR
    generalize signL (sf s k) = R at *
    go_enter Try.func50, Try.ntmps50
    go_wp2_with (go_at_call 56; refine (HP'.out _).mono ?_; rintro e w' ⟨rfl, rfl⟩)
    have hsz1 : (w.alloc (.cells #[.int .i64 0, .string ⟨#[]⟩, .int .u64 0, .int .u64 0, .int .u64 0, .int .u64 0, .int .i64 0, .int .i64 0] 46)).heap.size = w.heap.size + 1 := by simp
    generalize w.alloc (.cells #[.int .i64 0, .string ⟨#[]⟩, .int .u64 0, .int .u64 0, .int .u64 0, .int .u64 0, .int .i64 0, .int .i64 0] 46) = W1 at *
    have HSZ := fun _ : Unit => hsz1
    clear hsz1
    go_loopw [8] (fun _ w' => ∃ pos : Nat, pos ≤ 18 ∧ w' = W1.iter ⟨#[61, 59, 40, 41, 124, 38, 33, 42, 43, 63, 58, 46, 47, 44, 123, 125, 126, 62]⟩ pos ∧ sgB s[k] = (sgL.drop pos).contains s[k]) (fun _ w' => 18 - w'.iterPos (w.heap.size + 1))
    case atStart => exact ⟨0, by omega, rfl, rfl⟩
    case round =>
      obtain ⟨pos, hp, rfl, hC⟩ := hrel
      have HC := fun _ : Unit => hC
      clear hC
      by_cases hlt : pos < 18
      · obtain ⟨d, hd, hd2, hd3⟩ := sg_some pos hlt
        have hnx : ∀ ty, (Instr.next (.pointer (some ⟨w.heap.size + 1, 0, none⟩)) true ty).run Try.prog (W1.iter ⟨#[61, 59, 40, 41, 124, 38, 33, 42, 43, 63, 58, 46, 47, 44, 123, 125, 126, 62]⟩ pos) =
            .ok (.tuple #[.bool true, .int .i64 pos, .int .i32 ((d.toNat : Nat) : Int)]) (W1.iter ⟨#[61, 59, 40, 41, 124, 38, 33, 42, 43, 63, 58, 46, 47, 44, 123, 125, 126, 62]⟩ (pos + 1)) := fun ty => by
          rw [← HSZ ()]
          have := run_next_ascii (P := Try.prog) W1 ⟨#[61, 59, 40, 41, 124, 38, 33, 42, 43, 63, 58, 46, 47, 44, 123, 125, 126, 62]⟩ pos ty hlt (by rw [hd]; exact hd2)
          rw [hd] at this
          exact this
        have hcon : Unit → sgB s[k] = ((s[k] == d) || (sgL.drop (pos + 1)).contains s[k]) := fun _ => by rw [HC (), hd3, List.contains_cons]
        have hb2 : Blk (W1.iter ⟨#[61, 59, 40, 41, 124, 38, 33, 42, 43, 63, 58, 46, 47, 44, 123, 125, 126, 62]⟩ (pos + 1)) w.heap.size 46 #[.int .i64 0, .string ⟨#[]⟩, .int .u64 0, .int .u64 0, .int .u64 0, .int .u64 0, .int .i64 0, .int .i64 0] := hb.alloc _
        have HB2 : Below w.heap.size w (W1.iter ⟨#[61, 59, 40, 41, 124, 38, 33, 42, 43, 63, 58, 46, 47, 44, 123, 125, 126, 62]⟩ (pos + 1)) := HB.alloc (HSZ () ▸ Nat.le_succ _) _
        obtain ⟨⟨c0, c1, c2, c3, c4, c5, c6, c7⟩, f0, f1, f2, f3, f4, f5, f6, f7⟩ := hb2.cells8
        clear hd hd3 HC
        by_cases he : d = s[k]
        · have e1 : (((d.toNat : Nat) : Int) == ((s[k].toNat : Nat) : Int)) = true := eq_yes (by rw [he])
          have hR2 : Unit → R = (0, ⟨4, [s[k]], sNone, 0⟩, 1) := fun _ => by rw [HR (), hcon (), he]; simp
          have h256 : ((s[k].toNat : Nat) : Int) < 256 := by have := UInt8.toNat_lt s[k]; omega
          clear he hcon
          have hk1 : (k : Int) + 1 ≤ (s.size : Int) := by omega
          go_wp2
          rw [hR2 ()]
          exact bodyPost_ret (gets_tok Try.results50 rfl (hb2.set8 _ _ _ _ _ _ _ _)) rfl (tkn_ok (by rw [tkV_plain, HX ()]; rfl) (by omega) (below8 HB2 (Nat.le_refl _) _ _ _ _ _ _ _ _))
        · have e1 : (((d.toNat : Nat) : Int) == ((s[k].toNat : Nat) : Int)) = false := eq_no (fun h => he (UInt8.toNat_inj.1 h))
          have hst : Unit → sgB s[k] = (sgL.drop (pos + 1)).contains s[k] := fun _ => by
            rw [hcon ()]
            have : (s[k] == d) = false := by simpa using fun e => he e.symm
            rw [this, Bool.false_or]
          have h256 : ((s[k].toNat : Nat) : Int) < 256 := by have := UInt8.toNat_lt s[k]; omega
          clear he hcon
          go_wp2
          go_roundw
          case rel => exact ⟨pos + 1, by omega, rfl, hst ()⟩
          case measure =>
            rw [← HSZ ()]
            simp
            omega
      · obtain rfl : pos = 18 := by omega
        have hnx : ∀ ty, (Instr.next (.pointer (some ⟨w.heap.size + 1, 0, none⟩)) true ty).run Try.prog (W1.iter ⟨#[61, 59, 40, 41, 124, 38, 33, 42, 43, 63, 58, 46, 47, 44, 123, 125, 126, 62]⟩ 18) =
            .ok (.tuple #[.bool false]) (W1.iter ⟨#[61, 59, 40, 41, 124, 38, 33, 42, 43, 63, 58, 46, 47, 44, 123, 125, 126, 62]⟩ 18) := fun ty => by
          rw [← HSZ ()]
          exact run_next_end (P := Try.prog) W1 ⟨#[61, 59, 40, 41, 124, 38, 33, 42, 43, 63, 58, 46, 47, 44, 123, 125, 126, 62]⟩ 18 ty (by decide)
        have hR2 : Unit → R = (4, tk0, 0) := fun _ => by rw [HR (), HC ()]; rfl
        have hb2 : Blk (W1.iter ⟨#[61, 59, 40, 41, 124, 38, 33, 42, 43, 63, 58, 46, 47, 44, 123, 125, 126, 62]⟩ 18) w.heap.size 46 #[.int .i64 0, .string ⟨#[]⟩, .int .u64 0, .int .u64 0, .int .u64 0, .int .u64 0, .int .i64 0, .int .i64 0] := hb.alloc _
        have HB2 : Below w.heap.size w (W1.iter ⟨#[61, 59, 40, 41, 124, 38, 33, 42, 43, 63, 58, 46, 47, 44, 123, 125, 126, 62]⟩ 18) := HB.alloc (HSZ () ▸ Nat.le_succ _) _
        obtain ⟨⟨c0, c1, c2, c3, c4, c5, c6, c7⟩, f0, f1, f2, f3, f4, f5, f6, f7⟩ := hb2.cells8
        clear HC
        go_wp2
        rw [hR2 ()]
        exact bodyPost_ret (gets_tok Try.results50 rfl (hb2.set8 _ _ _ _ _ _ _ _)) rfl (tkn_no (by decide) (below8 HB2 (Nat.le_refl _) _ _ _ _ _ _ _ _))
  · have hR : signL (sf s k) = (0, ⟨4, [45, 62], sNone, 0⟩, 2) := by
      rw [sf_cons s k hk] at ha ⊢
      exact if_pos ha
    rw [hR]
    rw [ha] at HP
    have HP' := Lib.hid HP
    clear HP ha hR
    go_enter Try.func50, Try.ntmps50
    go_wp2_with (go_at_call 56; refine (HP'.out _).mono ?_; rintro e w' ⟨rfl, rfl⟩)
    exact bodyPost_ret (v := .tuple #[.agg #[.int .i64 4, .string ⟨#[45, 62]⟩, .int .u64 0, .int .u64 0, .int .u64 0, .int .u64 0, .int .i64 0, .int .i64 0], .int .i64 ((k : Int) + 2), .int .i64 0]) (by simp [results, Try.results50, go_sem]) rfl (tkn_ok (by rw [tkV_plain]) (by omega) ((Below.refl _ _).alloc (Nat.le_refl _) _))

end Go.Proofs.Ytbjgkolldmplkaa
