/- The walk of token of package lex. -/
import Derived.Test.YtbjgkolldmplkaaLex5
import Derived.Test.YtbjgkolldmplkaaLex6
import Derived.Test.YtbjgkolldmplkaaLex7
namespace Go.Proofs.Ytbjgkolldmplkaa
open Go.RowKit Go.Sort

/-- A token's cells, a place and an error's number come back. -/
def TknX (kd : Int) (tx : ByteArray) (x0 x1 x2 x3 nm pl er : Int) (w : World) (e : Ending) (w' : World) : Prop :=
  e = .returned (.tuple #[.agg #[.int .i64 kd, .string tx, .int .u64 x0, .int .u64 x1, .int .u64 x2, .int .u64 x3, .int .i64 nm, .int .i64 0], .int .i64 pl, .int .i64 er]) ∧ Below w.heap.size w w'

theorem tkn_x {r : Int × Tk × Nat} {k : Nat} {w : World} {e : Ending} {w' : World} :
    Tkn r k w e w' ↔ TknX r.2.1.kind ⟨r.2.1.text.toArray⟩ ((word r.2.1.set 0 : Nat) : Int) ((word r.2.1.set 1 : Nat) : Int) ((word r.2.1.set 2 : Nat) : Int) ((word r.2.1.set 3 : Nat) : Int) r.2.1.num (plc r.1 k r.2.2) r.1 w e w' := Iff.rfl

theorem plc_next (e : Int) (k n : Nat) : plc e (k + 1) n = plc e k (n + 1) := by unfold plc; split <;> omega

set_option maxRecDepth 100000 in
set_option maxHeartbeats 2000000 in
theorem token_letter (s : ByteArray) (k : Nat) (w : World) (hs : s.size ≤ 1000000) (hk : k < s.size) (hl : letB s[k] = true) :
    Calls Try.prog 36 #[.string s, .int .i64 k] w (Tkn (tokL (sf s k)) k w) := by
  have hsm : s.size ≤ maxLen := by unfold maxLen; omega
  have hT : tokL (sf s k) = nameL (sf s k) := by
    rw [sf_cons s k hk]
    exact if_pos hl
  have H := fun W => name_any s k W hsm (by omega)
  rw [hT]
  have H2 := fun W => (H W).mono fun e w' h => tkn_x.1 h
  generalize hr : nameL (sf s k) = r at *
  clear hT H
  have hF : ∀ e w', TknX r.2.1.kind ⟨r.2.1.text.toArray⟩ ((word r.2.1.set 0 : Nat) : Int) ((word r.2.1.set 1 : Nat) : Int) ((word r.2.1.set 2 : Nat) : Int) ((word r.2.1.set 3 : Nat) : Int) r.2.1.num (plc r.1 k r.2.2) r.1 w e w' → Tkn r k w e w' := fun e w' h => tkn_x.2 h
  generalize hP : Tkn r k w = PP at *
  generalize plc r.1 k r.2.2 = pl at *
  clear hr hP
  generalize (⟨r.2.1.text.toArray⟩ : ByteArray) = tx at *
  generalize ((word r.2.1.set 0 : Nat) : Int) = x0 at *
  generalize ((word r.2.1.set 1 : Nat) : Int) = x1 at *
  generalize ((word r.2.1.set 2 : Nat) : Int) = x2 at *
  generalize ((word r.2.1.set 3 : Nat) : Int) = x3 at *
  generalize r.2.1.kind = kd at *
  generalize r.2.1.num = nm at *
  generalize r.1 = er at *
  have HF := Lib.hid hF
  have H' := Lib.hid H2
  clear hF H2
  have HL := fun W => letter_any s[k] W
  rw [hl] at HL
  have HL' := Lib.hid HL
  clear hl HL
  have hb0 := Blk.new w 46 #[.int .i64 0, .string ⟨#[]⟩, .int .u64 0, .int .u64 0, .int .u64 0, .int .u64 0, .int .i64 0, .int .i64 0]
  have HB0 : Below w.heap.size w (w.alloc (.cells #[.int .i64 0, .string ⟨#[]⟩, .int .u64 0, .int .u64 0, .int .u64 0, .int .u64 0, .int .i64 0, .int .i64 0] 46)) := (Below.refl _ _).alloc (Nat.le_refl _) _
  go_enter Try.func36, Try.ntmps36
  go_wp2_with (first | (go_at_call 44; refine (HL'.out _).mono ?_; rintro e w' ⟨rfl, rfl⟩) | (go_at_call 45; refine (H'.out _).mono ?_; rintro e w1 ⟨rfl, HB1⟩; have hb1 := hb0.below HB1 hb0.lt; have LB := below_then HB0 HB1; obtain ⟨⟨c0, c1, c2, c3, c4, c5, c6, c7⟩, f0, f1, f2, f3, f4, f5, f6, f7⟩ := hb1.cells8))
  exact bodyPost_ret (gets_tok Try.results36 rfl (hb1.set8 _ _ _ _ _ _ _ _)) rfl (HF.out _ _ ⟨rfl, below8 LB (Nat.le_refl _) _ _ _ _ _ _ _ _⟩)

set_option maxRecDepth 100000 in
set_option maxHeartbeats 2000000 in
theorem token_digit (s : ByteArray) (k : Nat) (w : World) (hs : s.size ≤ 1000000) (hk : k < s.size) (hl : letB s[k] = false) (hd : digB s[k] = true) :
    Calls Try.prog 36 #[.string s, .int .i64 k] w (Tkn (tokL (sf s k)) k w) := by
  have hsm : s.size ≤ maxLen := by unfold maxLen; omega
  have hT : tokL (sf s k) = numL (sf s k) := by
    rw [sf_cons s k hk]
    exact (if_neg (by rw [hl]; decide)).trans (if_pos hd)
  have H := fun W => number_any s k W hsm (by omega)
  rw [hT]
  have H2 := fun W => (H W).mono fun e w' h => tkn_x.1 h
  generalize hr : numL (sf s k) = r at *
  clear hT H
  have hF : ∀ e w', TknX r.2.1.kind ⟨r.2.1.text.toArray⟩ ((word r.2.1.set 0 : Nat) : Int) ((word r.2.1.set 1 : Nat) : Int) ((word r.2.1.set 2 : Nat) : Int) ((word r.2.1.set 3 : Nat) : Int) r.2.1.num (plc r.1 k r.2.2) r.1 w e w' → Tkn r k w e w' := fun e w' h => tkn_x.2 h
  generalize hP : Tkn r k w = PP at *
  generalize plc r.1 k r.2.2 = pl at *
  clear hr hP
  generalize (⟨r.2.1.text.toArray⟩ : ByteArray) = tx at *
  generalize ((word r.2.1.set 0 : Nat) : Int) = x0 at *
  generalize ((word r.2.1.set 1 : Nat) : Int) = x1 at *
  generalize ((word r.2.1.set 2 : Nat) : Int) = x2 at *
  generalize ((word r.2.1.set 3 : Nat) : Int) = x3 at *
  generalize r.2.1.kind = kd at *
  generalize r.2.1.num = nm at *
  generalize r.1 = er at *
  have HF := Lib.hid hF
  have H' := Lib.hid H2
  clear hF H2
  have HL := fun W => letter_any s[k] W
  rw [hl] at HL
  have HL' := Lib.hid HL
  have HD := fun W => digit_any s[k] W
  rw [hd] at HD
  have HD' := Lib.hid HD
  clear HD hd
  clear hl HL
  have hb0 := Blk.new w 46 #[.int .i64 0, .string ⟨#[]⟩, .int .u64 0, .int .u64 0, .int .u64 0, .int .u64 0, .int .i64 0, .int .i64 0]
  have HB0 : Below w.heap.size w (w.alloc (.cells #[.int .i64 0, .string ⟨#[]⟩, .int .u64 0, .int .u64 0, .int .u64 0, .int .u64 0, .int .i64 0, .int .i64 0] 46)) := (Below.refl _ _).alloc (Nat.le_refl _) _
  go_enter Try.func36, Try.ntmps36
  go_wp2_with (first | (go_at_call 44; refine (HL'.out _).mono ?_; rintro e w' ⟨rfl, rfl⟩) | (go_at_call 46; refine (HD'.out _).mono ?_; rintro e w' ⟨rfl, rfl⟩) | (go_at_call 47; refine (H'.out _).mono ?_; rintro e w1 ⟨rfl, HB1⟩; have hb1 := hb0.below HB1 hb0.lt; have LB := below_then HB0 HB1; obtain ⟨⟨c0, c1, c2, c3, c4, c5, c6, c7⟩, f0, f1, f2, f3, f4, f5, f6, f7⟩ := hb1.cells8))
  exact bodyPost_ret (gets_tok Try.results36 rfl (hb1.set8 _ _ _ _ _ _ _ _)) rfl (HF.out _ _ ⟨rfl, below8 LB (Nat.le_refl _) _ _ _ _ _ _ _ _⟩)

set_option maxRecDepth 100000 in
set_option maxHeartbeats 2000000 in
theorem token_quote (s : ByteArray) (k : Nat) (w : World) (hs : s.size ≤ 1000000) (hk : k < s.size) (hl : letB s[k] = false) (hd : digB s[k] = false) (hq : s[k].toNat = 34) :
    Calls Try.prog 36 #[.string s, .int .i64 k] w (Tkn (tokL (sf s k)) k w) := by
  have hsm : s.size ≤ maxLen := by unfold maxLen; omega
  have hT : tokL (sf s k) = ((textL (sf s (k + 1))).1, (textL (sf s (k + 1))).2.1, (textL (sf s (k + 1))).2.2 + 1) := by
    rw [sf_cons s k hk]
    exact (if_neg (by rw [hl]; decide)).trans ((if_neg (by rw [hd]; decide)).trans (if_pos hq))
  have H := fun W => quoted_any s (k + 1) W hs (by omega)
  rw [show ((k + 1 : Nat) : Int) = (k : Int) + 1 by omega] at H
  rw [hT]
  have H2 := fun W => (H W).mono fun e w' h => tkn_x.1 h
  generalize hr : textL (sf s (k + 1)) = r at *
  clear hT H
  have hF : ∀ e w', TknX r.2.1.kind ⟨r.2.1.text.toArray⟩ ((word r.2.1.set 0 : Nat) : Int) ((word r.2.1.set 1 : Nat) : Int) ((word r.2.1.set 2 : Nat) : Int) ((word r.2.1.set 3 : Nat) : Int) r.2.1.num (plc r.1 (k + 1) r.2.2) r.1 w e w' → Tkn (r.1, r.2.1, r.2.2 + 1) k w e w' := fun e w' h => by
    rw [plc_next] at h
    exact tkn_x.2 h
  generalize hP : Tkn (r.1, r.2.1, r.2.2 + 1) k w = PP at *
  generalize plc r.1 (k + 1) r.2.2 = pl at *
  clear hr hP
  generalize (⟨r.2.1.text.toArray⟩ : ByteArray) = tx at *
  generalize ((word r.2.1.set 0 : Nat) : Int) = x0 at *
  generalize ((word r.2.1.set 1 : Nat) : Int) = x1 at *
  generalize ((word r.2.1.set 2 : Nat) : Int) = x2 at *
  generalize ((word r.2.1.set 3 : Nat) : Int) = x3 at *
  generalize r.2.1.kind = kd at *
  generalize r.2.1.num = nm at *
  generalize r.1 = er at *
  have HF := Lib.hid hF
  have H' := Lib.hid H2
  clear hF H2
  have HL := fun W => letter_any s[k] W
  rw [hl] at HL
  have HL' := Lib.hid HL
  have HD := fun W => digit_any s[k] W
  rw [hd] at HD
  have HD' := Lib.hid HD
  clear HD hd
  have e34 : (((s[k].toNat : Nat) : Int) == 34) = true := eq_yes hq
  clear hl HL hq
  have hb0 := Blk.new w 46 #[.int .i64 0, .string ⟨#[]⟩, .int .u64 0, .int .u64 0, .int .u64 0, .int .u64 0, .int .i64 0, .int .i64 0]
  have HB0 : Below w.heap.size w (w.alloc (.cells #[.int .i64 0, .string ⟨#[]⟩, .int .u64 0, .int .u64 0, .int .u64 0, .int .u64 0, .int .i64 0, .int .i64 0] 46)) := (Below.refl _ _).alloc (Nat.le_refl _) _
  go_enter Try.func36, Try.ntmps36
  go_wp2_with (first | (go_at_call 44; refine (HL'.out _).mono ?_; rintro e w' ⟨rfl, rfl⟩) | (go_at_call 46; refine (HD'.out _).mono ?_; rintro e w' ⟨rfl, rfl⟩) | (go_at_call 48; refine (H'.out _).mono ?_; rintro e w1 ⟨rfl, HB1⟩; have hb1 := hb0.below HB1 hb0.lt; have LB := below_then HB0 HB1; obtain ⟨⟨c0, c1, c2, c3, c4, c5, c6, c7⟩, f0, f1, f2, f3, f4, f5, f6, f7⟩ := hb1.cells8))
  exact bodyPost_ret (gets_tok Try.results36 rfl (hb1.set8 _ _ _ _ _ _ _ _)) rfl (HF.out _ _ ⟨rfl, below8 LB (Nat.le_refl _) _ _ _ _ _ _ _ _⟩)

set_option maxRecDepth 100000 in
set_option maxHeartbeats 2000000 in
theorem token_bracket (s : ByteArray) (k : Nat) (w : World) (hs : s.size ≤ 1000000) (hk : k < s.size) (hl : letB s[k] = false) (hd : digB s[k] = false) (hq : ¬ s[k].toNat = 34) (hb : s[k].toNat = 91) :
    Calls Try.prog 36 #[.string s, .int .i64 k] w (Tkn (tokL (sf s k)) k w) := by
  have hsm : s.size ≤ maxLen := by unfold maxLen; omega
  have hT : tokL (sf s k) = ((setTL (sf s (k + 1))).1, (setTL (sf s (k + 1))).2.1, (setTL (sf s (k + 1))).2.2 + 1) := by
    rw [sf_cons s k hk]
    exact (if_neg (by rw [hl]; decide)).trans ((if_neg (by rw [hd]; decide)).trans ((if_neg hq).trans (if_pos hb)))
  have H := fun W => bytesOf_any s (k + 1) W hs (by omega)
  rw [show ((k + 1 : Nat) : Int) = (k : Int) + 1 by omega] at H
  rw [hT]
  have H2 := fun W => (H W).mono fun e w' h => tkn_x.1 h
  generalize hr : setTL (sf s (k + 1)) = r at *
  clear hT H
  have hF : ∀ e w', TknX r.2.1.kind ⟨r.2.1.text.toArray⟩ ((word r.2.1.set 0 : Nat) : Int) ((word r.2.1.set 1 : Nat) : Int) ((word r.2.1.set 2 : Nat) : Int) ((word r.2.1.set 3 : Nat) : Int) r.2.1.num (plc r.1 (k + 1) r.2.2) r.1 w e w' → Tkn (r.1, r.2.1, r.2.2 + 1) k w e w' := fun e w' h => by
    rw [plc_next] at h
    exact tkn_x.2 h
  generalize hP : Tkn (r.1, r.2.1, r.2.2 + 1) k w = PP at *
  generalize plc r.1 (k + 1) r.2.2 = pl at *
  clear hr hP
  generalize (⟨r.2.1.text.toArray⟩ : ByteArray) = tx at *
  generalize ((word r.2.1.set 0 : Nat) : Int) = x0 at *
  generalize ((word r.2.1.set 1 : Nat) : Int) = x1 at *
  generalize ((word r.2.1.set 2 : Nat) : Int) = x2 at *
  generalize ((word r.2.1.set 3 : Nat) : Int) = x3 at *
  generalize r.2.1.kind = kd at *
  generalize r.2.1.num = nm at *
  generalize r.1 = er at *
  have HF := Lib.hid hF
  have H' := Lib.hid H2
  clear hF H2
  have HL := fun W => letter_any s[k] W
  rw [hl] at HL
  have HL' := Lib.hid HL
  have HD := fun W => digit_any s[k] W
  rw [hd] at HD
  have HD' := Lib.hid HD
  clear HD hd
  have e34 : (((s[k].toNat : Nat) : Int) == 34) = false := eq_no hq
  have e91 : (((s[k].toNat : Nat) : Int) == 91) = true := eq_yes hb
  clear hl HL hq hb
  have hb0 := Blk.new w 46 #[.int .i64 0, .string ⟨#[]⟩, .int .u64 0, .int .u64 0, .int .u64 0, .int .u64 0, .int .i64 0, .int .i64 0]
  have HB0 : Below w.heap.size w (w.alloc (.cells #[.int .i64 0, .string ⟨#[]⟩, .int .u64 0, .int .u64 0, .int .u64 0, .int .u64 0, .int .i64 0, .int .i64 0] 46)) := (Below.refl _ _).alloc (Nat.le_refl _) _
  go_enter Try.func36, Try.ntmps36
  go_wp2_with (first | (go_at_call 44; refine (HL'.out _).mono ?_; rintro e w' ⟨rfl, rfl⟩) | (go_at_call 46; refine (HD'.out _).mono ?_; rintro e w' ⟨rfl, rfl⟩) | (go_at_call 49; refine (H'.out _).mono ?_; rintro e w1 ⟨rfl, HB1⟩; have hb1 := hb0.below HB1 hb0.lt; have LB := below_then HB0 HB1; obtain ⟨⟨c0, c1, c2, c3, c4, c5, c6, c7⟩, f0, f1, f2, f3, f4, f5, f6, f7⟩ := hb1.cells8))
  exact bodyPost_ret (gets_tok Try.results36 rfl (hb1.set8 _ _ _ _ _ _ _ _)) rfl (HF.out _ _ ⟨rfl, below8 LB (Nat.le_refl _) _ _ _ _ _ _ _ _⟩)

set_option maxRecDepth 100000 in
set_option maxHeartbeats 2000000 in
theorem token_sign (s : ByteArray) (k : Nat) (w : World) (hs : s.size ≤ 1000000) (hk : k < s.size) (hl : letB s[k] = false) (hd : digB s[k] = false) (hq : ¬ s[k].toNat = 34) (hb : ¬ s[k].toNat = 91) :
    Calls Try.prog 36 #[.string s, .int .i64 k] w (Tkn (tokL (sf s k)) k w) := by
  have hsm : s.size ≤ maxLen := by unfold maxLen; omega
  have hT : tokL (sf s k) = signL (sf s k) := by
    rw [sf_cons s k hk]
    exact (if_neg (by rw [hl]; decide)).trans ((if_neg (by rw [hd]; decide)).trans ((if_neg hq).trans (if_neg hb)))
  have H := fun W => sign_any s k W hs hk
  rw [hT]
  have H2 := fun W => (H W).mono fun e w' h => tkn_x.1 h
  generalize hr : signL (sf s k) = r at *
  clear hT H
  have hF : ∀ e w', TknX r.2.1.kind ⟨r.2.1.text.toArray⟩ ((word r.2.1.set 0 : Nat) : Int) ((word r.2.1.set 1 : Nat) : Int) ((word r.2.1.set 2 : Nat) : Int) ((word r.2.1.set 3 : Nat) : Int) r.2.1.num (plc r.1 k r.2.2) r.1 w e w' → Tkn r k w e w' := fun e w' h => tkn_x.2 h
  generalize hP : Tkn r k w = PP at *
  generalize plc r.1 k r.2.2 = pl at *
  clear hr hP
  generalize (⟨r.2.1.text.toArray⟩ : ByteArray) = tx at *
  generalize ((word r.2.1.set 0 : Nat) : Int) = x0 at *
  generalize ((word r.2.1.set 1 : Nat) : Int) = x1 at *
  generalize ((word r.2.1.set 2 : Nat) : Int) = x2 at *
  generalize ((word r.2.1.set 3 : Nat) : Int) = x3 at *
  generalize r.2.1.kind = kd at *
  generalize r.2.1.num = nm at *
  generalize r.1 = er at *
  have HF := Lib.hid hF
  have H' := Lib.hid H2
  clear hF H2
  have HL := fun W => letter_any s[k] W
  rw [hl] at HL
  have HL' := Lib.hid HL
  have HD := fun W => digit_any s[k] W
  rw [hd] at HD
  have HD' := Lib.hid HD
  clear HD hd
  have e34 : (((s[k].toNat : Nat) : Int) == 34) = false := eq_no hq
  have e91 : (((s[k].toNat : Nat) : Int) == 91) = false := eq_no hb
  clear hl HL hq hb
  have hb0 := Blk.new w 46 #[.int .i64 0, .string ⟨#[]⟩, .int .u64 0, .int .u64 0, .int .u64 0, .int .u64 0, .int .i64 0, .int .i64 0]
  have HB0 : Below w.heap.size w (w.alloc (.cells #[.int .i64 0, .string ⟨#[]⟩, .int .u64 0, .int .u64 0, .int .u64 0, .int .u64 0, .int .i64 0, .int .i64 0] 46)) := (Below.refl _ _).alloc (Nat.le_refl _) _
  go_enter Try.func36, Try.ntmps36
  go_wp2_with (first | (go_at_call 44; refine (HL'.out _).mono ?_; rintro e w' ⟨rfl, rfl⟩) | (go_at_call 46; refine (HD'.out _).mono ?_; rintro e w' ⟨rfl, rfl⟩) | (go_at_call 50; refine (H'.out _).mono ?_; rintro e w1 ⟨rfl, HB1⟩; have hb1 := hb0.below HB1 hb0.lt; have LB := below_then HB0 HB1; obtain ⟨⟨c0, c1, c2, c3, c4, c5, c6, c7⟩, f0, f1, f2, f3, f4, f5, f6, f7⟩ := hb1.cells8))
  exact bodyPost_ret (gets_tok Try.results36 rfl (hb1.set8 _ _ _ _ _ _ _ _)) rfl (HF.out _ _ ⟨rfl, below8 LB (Nat.le_refl _) _ _ _ _ _ _ _ _⟩)

theorem token_any (s : ByteArray) (k : Nat) (w : World) (hs : s.size ≤ 1000000) (hk : k < s.size) :
    Calls Try.prog 36 #[.string s, .int .i64 k] w (Tkn (tokL (sf s k)) k w) := by
  cases hl : letB s[k]
  · cases hd : digB s[k]
    · by_cases hq : s[k].toNat = 34
      · exact token_quote s k w hs hk hl hd hq
      · by_cases hb : s[k].toNat = 91
        · exact token_bracket s k w hs hk hl hd hq hb
        · exact token_sign s k w hs hk hl hd hq hb
    · exact token_digit s k w hs hk hl hd
  · exact token_letter s k w hs hk hl

end Go.Proofs.Ytbjgkolldmplkaa
