/- The walk of quoted of package lex. -/
import Derived.Test.YtbjgkolldmplkaaLexW

namespace Go.Proofs.Ytbjgkolldmplkaa
open Go.RowKit Go.Sort

set_option maxRecDepth 100000 in
set_option maxHeartbeats 8000000 in
theorem quoted_any (s : ByteArray) (k : Nat) (w : World) (hs : s.size ≤ 1000000) (hk : k ≤ s.size) :
    Calls Try.prog 48 #[.string s, .int .i64 k] w (Tkn (textL (sf s k)) k w) := by
  have hsm : s.size ≤ maxLen := by unfold maxLen; omega
  have hR : textL (sf s k) = if (quoL (sf s k)).1 = 0 then (if 256 < (quoL (sf s k)).2.1.length then (2, tk0, 0) else (0, ⟨2, (quoL (sf s k)).2.1, sNone, 0⟩, (quoL (sf s k)).2.2)) else ((quoL (sf s k)).1, tk0, 0) := rfl
  generalize textL (sf s k) = R at *
  have hQ : quoA ((sf s k).length + 1) (sf s k) [] 0 = quoL (sf s k) := rfl
  generalize quoL (sf s k) = Q at *
  have HR := fun _ : Unit => hR
  clear hR
  obtain ⟨i0, hi0, hz0, hz1, hz2⟩ := info_parts lx_info
  go_enter Try.func48, Try.ntmps48
  go_wp2
  go_loopw [1, 7] (fun t v wr => ∃ (j f : Nat) (acc : List UInt8), k ≤ j ∧ j ≤ s.size ∧ t = .int .i64 j ∧ (sf s j).length < f ∧ quoA f (sf s j) acc (j - k) = Q ∧ acc.length ≤ j - k ∧
    wr.ownsRow (w.heap.size + 1) 5 1 v acc.length (uVals acc) ∧ Blk wr w.heap.size 46 #[.int .i64 0, .string ⟨#[]⟩, .int .u64 0, .int .u64 0, .int .u64 0, .int .u64 0, .int .i64 0, .int .i64 0] ∧ Below w.heap.size w wr) (fun t _ _ => s.size - (intOf t).toNat)
  case atStart => exact ⟨k, _, [], Nat.le_refl _, hk, rfl, Nat.lt_succ_self _, by rw [Nat.sub_self]; exact hQ, Nat.zero_le _, ⟨rfl, .inl ⟨rfl, rfl⟩⟩, Blk.new w _ _, (Below.refl _ _).alloc (Nat.le_refl _) _⟩
  case round =>
    clear hQ
    obtain ⟨j, f, acc, hkj, hj, rfl, hf, hJ, hal, hown, hb, HB⟩ := hrel
    obtain ⟨A, c, rfl, _, _, _⟩ := own_reads hown
    have hsz := HB.size
    have hlt8 := hb.lt
    obtain ⟨⟨c0, c1, c2, c3, c4, c5, c6, c7⟩, f0, f1, f2, f3, f4, f5, f6, f7⟩ := hb.cells8
    obtain ⟨f, rfl⟩ : ∃ g, f = g + 1 := ⟨f - 1, by omega⟩
    have HJ := fun _ : Unit => hJ
    clear hJ
    by_cases hq : ∃ h : j < s.size, s[j].toNat = 34
    · obtain ⟨hlt, hq⟩ := hq
      have e0 : ((j : Int) == (s.size : Int)) = false := eq_no (by omega)
      have e1 : (((s[j].toNat : Nat) : Int) != 34) = false := ne_no hq
      have hQ2 : Unit → Q = (0, acc, j - k + 1) := fun _ => by rw [← HJ (), sf_cons s j hlt]; exact quo_q hq
      clear hq HJ
      have hconv := conv_own hown
      generalize hn : acc.length = n at *
      by_cases h256 : 256 < n
      · have hR2 : Unit → R = (2, tk0, 0) := fun _ => by rw [HR (), hQ2 ()]; simp [hn, h256]
        go_wp2
        rw [hR2 ()]
        exact bodyPost_ret (gets_tok Try.results48 rfl (hb.set8 _ _ _ _ _ _ _ _)) rfl (tkn_no (by decide) (below8 HB (Nat.le_refl _) _ _ _ _ _ _ _ _))
      · have hR2 : Unit → R = (0, ⟨2, acc, sNone, 0⟩, j - k + 1) := fun _ => by rw [HR (), hQ2 ()]; simp [hn, h256]
        go_wp2
        rw [hR2 ()]
        exact bodyPost_ret (gets_tok Try.results48 rfl (hb.set8 _ _ _ _ _ _ _ _)) rfl (tkn_ok (by rw [tkV_plain]) (by omega) (below8 HB (Nat.le_refl _) _ _ _ _ _ _ _ _))
    · by_cases ho : (oneL (sf s j)).1 = 0
      · obtain ⟨hm1, hm2⟩ := one_len _ ho
        rw [sf_len] at hm2
        have hlt : j < s.size := by omega
        obtain ⟨b, m, hbm⟩ : ∃ b m, oneL (sf s j) = (0, b, m) := ⟨(oneL (sf s j)).2.1, (oneL (sf s j)).2.2, by rw [← ho]⟩
        have e0 : ((j : Int) == (s.size : Int)) = false := eq_no (by omega)
        have hn34 : s[j].toNat ≠ 34 := fun h => hq ⟨hlt, h⟩
        have e1 : (((s[j].toNat : Nat) : Int) != 34) = true := ne_yes hn34
        have HO := Lib.hid (fun W => one_ok W hsm hj hbm)
        have hst : Unit → quoA f (sf s (j + m)) (acc ++ [b]) (j + m - k) = Q := fun _ => by
          have := HJ ()
          rw [sf_cons s j hlt, quo_go hn34 (by rw [← sf_cons s j hlt]; exact ho), ← sf_cons s j hlt, hbm] at this
          simp only at this
          rw [sf_drop, show j - k + m = j + m - k by omega] at this
          exact this
        rw [hbm] at hm1 hm2
        simp only at hm1 hm2
        have hfl : Unit → (sf s (j + m)).length < f := fun _ => by rw [sf_len] at hf ⊢; omega
        have hfr := own_base hown
        clear ho hbm hn34 hq HJ hf
        generalize hn : acc.length = n at *
        have HN := fun _ : Unit => hn
        clear hn
        go_wp2_with (first
          | (go_at_call 55
             refine (HO.out _).mono ?_
             rintro e w' ⟨rfl, rfl⟩)
          | (at_builtin
             refine wpList_append_any _ rfl (.tmp 32) (.tmp 34) _ rfl (w.heap.size + 1) 5 i0 _ 1 1 Try.underlying22 hi0 hz0 hz1 hz2 rfl (by omega) _ n _ rfl
               (hown.alloc _) _ _ 1 1 [.int .u8 ((b.toNat : Nat) : Int)] rfl (reads_blk (xs := [.int .u8 ((b.toNat : Nat) : Int)]) (Blk.new wr _ _)) (by simp [Value.oneCell']) (by simp only [maxLen]; omega) (by omega) (by simp; omega) ?_
             intro v4 w4 hown4 hg4 hat4
             have hb4 := (hb.alloc (.cells #[.int .u8 ((b.toNat : Nat) : Int)] 5)).grown hg4 (own_blk_ne hown hb (by decide)).symm
             have L4 : Below w.heap.size w w4 := (HB.alloc hsz _).grown hg4 (by simp; omega) (fun g hg => by have := hfr g hg; omega)
             rw [uVals_snoc] at hown4))
        go_roundw
        case rel => exact ⟨j + m, f, acc ++ [b], by omega, by omega, by go_num, hfl (), hst (), by rw [List.length_append, HN ()]; simp; omega, by rw [List.length_append, HN ()]; exact hown4, hb4, L4⟩
        case measure => simp [intOf]; omega
      · have HO := Lib.hid (fun W => one_er W hsm hj ho)
        have hx1 : ((oneL (sf s j)).1 != 0) = true := bne_iff_ne.2 ho
        have hR2 : Unit → R = ((oneL (sf s j)).1, tk0, 0) := fun _ => by
          have hQ : Q = ((oneL (sf s j)).1, [], 0) := by
            rw [← HJ ()]
            by_cases hlt : j < s.size
            · have hn34 : s[j].toNat ≠ 34 := fun h => hq ⟨hlt, h⟩
              rw [sf_cons s j hlt] at ho ⊢
              exact quo_no hn34 ho
            · rw [sf_end s j (by omega)]
              exact quo_end
          rw [HR (), hQ]
          exact if_neg ho
        have hcase : (j = s.size) ∨ ∃ h : j < s.size, s[j].toNat ≠ 34 := by
          by_cases hlt : j < s.size
          · exact .inr ⟨hlt, fun h => hq ⟨hlt, h⟩⟩
          · exact .inl (by omega)
        have hxx := fun _ : Unit => ho
        clear hq HJ ho
        generalize (oneL (sf s j)).1 = x at *
        generalize (((oneL (sf s j)).2.1.toNat : Nat) : Int) = y at *
        rcases hcase with hjs | ⟨hlt, hn34⟩
        · have e0 : ((j : Int) == (s.size : Int)) = true := eq_yes hjs
          clear hjs
          go_wp2_with (go_at_call 55; refine (HO.out _).mono ?_; rintro e w' ⟨rfl, rfl⟩)
          rw [hR2 ()]
          exact bodyPost_ret (gets_tok Try.results48 rfl (hb.set8 _ _ _ _ _ _ _ _)) rfl (tkn_no (hxx ()) (below8 HB (Nat.le_refl _) _ _ _ _ _ _ _ _))
        · have e0 : ((j : Int) == (s.size : Int)) = false := eq_no (by omega)
          have e1 : (((s[j].toNat : Nat) : Int) != 34) = true := ne_yes hn34
          clear hn34
          go_wp2_with (go_at_call 55; refine (HO.out _).mono ?_; rintro e w' ⟨rfl, rfl⟩)
          rw [hR2 ()]
          exact bodyPost_ret (gets_tok Try.results48 rfl (hb.set8 _ _ _ _ _ _ _ _)) rfl (tkn_no (hxx ()) (below8 HB (Nat.le_refl _) _ _ _ _ _ _ _ _))

end Go.Proofs.Ytbjgkolldmplkaa
