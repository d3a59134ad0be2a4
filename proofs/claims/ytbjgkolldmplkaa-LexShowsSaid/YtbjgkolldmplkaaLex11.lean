/- The walk of written of package lex. -/
import Derived.Test.YtbjgkolldmplkaaLexW
import Derived.Test.YtbjgkolldmplkaaHold
import Derived.Lib.AppendStr
namespace Go.Proofs.Ytbjgkolldmplkaa
open Go.RowKit Go.Sort

theorem grown_alloc {w w1 : World} {o : Obj} {r : Option Nat} (h : (w.alloc o).grownBy w1 r) : w.grownBy w1 r :=
  ⟨h.os, h.tape, h.output, Nat.le_trans (by simp) h.size, fun i hi hne => (h.block i (by simp; omega) hne).trans (Below.heap_alloc w o i hi)⟩

theorem grown_two {w w1 w2 : World} {r r1 : Option Nat} (h1 : w.grownBy w1 r) (h2 : w1.grownBy w2 r1) (hr : r1 = r ∨ ∀ g, r1 = some g → w.heap.size ≤ g) : w.grownBy w2 r :=
  ⟨h2.os.trans h1.os, h2.tape.trans h1.tape, h2.output.trans h1.output, Nat.le_trans h1.size h2.size, fun i hi hne => (h2.block i (Nat.lt_of_lt_of_le hi h1.size) (by
    rcases hr with rfl | hr
    · exact hne
    · intro e
      have := hr i e.symm
      omega)).trans (h1.block i hi hne)⟩

def hexC (n : Nat) : UInt8 := hexL.getD n 0
/-- A byte as it is written within a text or a set. -/
def wrL (c : UInt8) : List UInt8 :=
  if c.toNat = 10 then [92, 110] else if c.toNat = 9 then [92, 116] else if c.toNat = 13 then [92, 114] else if spB c then [92, c] else if plB c then [c] else [92, 120, hexC (c.toNat / 16), hexC (c.toNat % 16)]

/-- The row has grown by these bytes. -/
def Wrote (base : Nat) (n : Nat) (xs : List Value) (ad : List UInt8) (v : Value) (w : World) (e : Ending) (w' : World) : Prop :=
  ∃ v', e = .returned v' ∧ w'.ownsRow base 5 1 v' (n + ad.length) (xs ++ uVals ad) ∧ w.grownBy w' v.ownBlock

set_option maxRecDepth 100000 in
set_option maxHeartbeats 2000000 in
theorem written_str (base n : Nat) (xs : List Value) (A : Option Addr) (cp : Nat) (c : UInt8) (w : World) (hown : w.ownsRow base 5 1 (.slice A n cp) n xs) (hbase : base ≤ w.heap.size) (hn : n ≤ 1000000)
    (hc : c.toNat = 10 ∨ c.toNat = 9 ∨ c.toNat = 13) :
    Calls Try.prog 38 #[.slice A n cp, .int .u8 ((c.toNat : Nat) : Int)] w (Wrote base n xs (wrL c) (.slice A n cp) w) := by
  obtain ⟨i0, hi0, hz0, hz1, hz2⟩ := info_parts lx_info
  rcases hc with hc | hc | hc
  · have hw : wrL c = [92, 110] := if_pos hc
    rw [hw]
    have e1 : (((c.toNat : Nat) : Int) == 10) = true := eq_yes hc
    clear hc hw
    go_enter Try.func38, Try.ntmps38
    go_wp2_with (at_builtin
                 refine Lib.wpList_append_own_string _ rfl (.tmp 21) (.const (.string ⟨#[92, 110]⟩)) _ _ rfl base 5 i0 Try.underlying22 Try.underlying9 hi0 hz0 hz1 hz2 _ n _ rfl hown ⟨#[92, 110]⟩ rfl (by simp only [maxLen]; show n + 2 ≤ _; omega) (by show n + 2 ≤ _; omega) hbase ?_
                 intro v4 w4 hown4 hg4 hat4)
    go_ret
    exact ⟨_, rfl, hown4, hg4⟩
  · have hw : wrL c = [92, 116] := (if_neg (show ¬ c.toNat = 10 by omega)).trans (if_pos hc)
    rw [hw]
    have e1 : (((c.toNat : Nat) : Int) == 10) = false := eq_no (show c.toNat ≠ 10 by omega)
    have e2 : (((c.toNat : Nat) : Int) == 9) = true := eq_yes hc
    clear hc hw
    go_enter Try.func38, Try.ntmps38
    go_wp2_with (at_builtin
                 refine Lib.wpList_append_own_string _ rfl (.tmp 23) (.const (.string ⟨#[92, 116]⟩)) _ _ rfl base 5 i0 Try.underlying22 Try.underlying9 hi0 hz0 hz1 hz2 _ n _ rfl hown ⟨#[92, 116]⟩ rfl (by simp only [maxLen]; show n + 2 ≤ _; omega) (by show n + 2 ≤ _; omega) hbase ?_
                 intro v4 w4 hown4 hg4 hat4)
    go_ret
    exact ⟨_, rfl, hown4, hg4⟩
  · have hw : wrL c = [92, 114] := (if_neg (show ¬ c.toNat = 10 by omega)).trans ((if_neg (show ¬ c.toNat = 9 by omega)).trans (if_pos hc))
    rw [hw]
    have e1 : (((c.toNat : Nat) : Int) == 10) = false := eq_no (show c.toNat ≠ 10 by omega)
    have e2 : (((c.toNat : Nat) : Int) == 9) = false := eq_no (show c.toNat ≠ 9 by omega)
    have e3 : (((c.toNat : Nat) : Int) == 13) = true := eq_yes hc
    clear hc hw
    go_enter Try.func38, Try.ntmps38
    go_wp2_with (at_builtin
                 refine Lib.wpList_append_own_string _ rfl (.tmp 25) (.const (.string ⟨#[92, 114]⟩)) _ _ rfl base 5 i0 Try.underlying22 Try.underlying9 hi0 hz0 hz1 hz2 _ n _ rfl hown ⟨#[92, 114]⟩ rfl (by simp only [maxLen]; show n + 2 ≤ _; omega) (by show n + 2 ≤ _; omega) hbase ?_
                 intro v4 w4 hown4 hg4 hat4)
    go_ret
    exact ⟨_, rfl, hown4, hg4⟩

set_option maxRecDepth 100000 in
set_option maxHeartbeats 2000000 in
theorem written_byte (base n : Nat) (xs : List Value) (A : Option Addr) (cp : Nat) (c : UInt8) (w : World) (hown : w.ownsRow base 5 1 (.slice A n cp) n xs) (hbase : base ≤ w.heap.size) (hn : n ≤ 1000000)
    (h1 : c.toNat ≠ 10) (h2 : c.toNat ≠ 9) (h3 : c.toNat ≠ 13) (hs : spB c = true ∨ plB c = true) :
    Calls Try.prog 38 #[.slice A n cp, .int .u8 ((c.toNat : Nat) : Int)] w (Wrote base n xs (wrL c) (.slice A n cp) w) := by
  obtain ⟨i0, hi0, hz0, hz1, hz2⟩ := info_parts lx_info
  have e1 : (((c.toNat : Nat) : Int) == 10) = false := eq_no h1
  have e2 : (((c.toNat : Nat) : Int) == 9) = false := eq_no h2
  have e3 : (((c.toNat : Nat) : Int) == 13) = false := eq_no h3
  have HI := Lib.hid (fun W => index_any ⟨#[92, 34, 91, 93, 94, 45]⟩ c W)
  have HN := spL_idx c
  rw [show Lib.indexByte (⟨#[92, 34, 91, 93, 94, 45]⟩ : ByteArray).data.toList c = Lib.indexByte spL c from rfl] at HI
  have HP := fun W => plain_any c W
  have hwr : wrL c = if spB c then [92, c] else if plB c then [c] else [92, 120, hexC (c.toNat / 16), hexC (c.toNat % 16)] := (if_neg h1).trans ((if_neg h2).trans (if_neg h3))
  cases hsp : spB c
  · have hpl : plB c = true := by rcases hs with h | h
                                  · rw [hsp] at h; cases h
                                  · exact h
    have hi := HN.2 hsp
    have hw : wrL c = [c] := by rw [hwr, hsp, hpl]; rfl
    rw [hw]
    rw [hpl] at HP
    have HP' := Lib.hid HP
    clear HP hpl hw hwr hsp hs HN h1 h2 h3
    generalize Lib.indexByte spL c = i at *
    go_enter Try.func38, Try.ntmps38
    go_wp2_with (first
      | (go_at_call 51; refine (HI.out _).mono ?_; rintro e w' ⟨rfl, rfl⟩)
      | (go_at_call 52; refine (HP'.out _).mono ?_; rintro e w' ⟨rfl, rfl⟩)
      | (at_builtin
         refine wpList_append_any _ rfl (.tmp 30) (.tmp 32) _ rfl base 5 i0 _ 1 1 Try.underlying22 hi0 hz0 hz1 hz2 rfl (by omega) _ n _ rfl
           (hown.alloc _) _ _ 1 1 [.int .u8 ((c.toNat : Nat) : Int)] rfl (reads_blk (xs := [.int .u8 ((c.toNat : Nat) : Int)]) (Blk.new w _ _)) (by simp [Value.oneCell']) (by simp only [maxLen]; omega) (by omega) (by simp; omega) ?_
         intro v4 w4 hown4 hg4 hat4))
    go_ret
    exact ⟨_, rfl, hown4, grown_alloc hg4⟩
  · have hi : 0 ≤ Lib.indexByte spL c := by
      rcases (show Lib.indexByte spL c < 0 ∨ 0 ≤ Lib.indexByte spL c by omega) with h | h
      · rw [HN.1 h] at hsp; cases hsp
      · exact h
    have hw : wrL c = [92, c] := by rw [hwr, hsp]; rfl
    rw [hw]
    clear HP hw hwr hsp hs HN h1 h2 h3
    generalize Lib.indexByte spL c = i at *
    go_enter Try.func38, Try.ntmps38
    go_wp2_with (first
      | (go_at_call 51; refine (HI.out _).mono ?_; rintro e w' ⟨rfl, rfl⟩)
      | (at_builtin
         refine wpList_append_any _ rfl (.tmp 27) (.tmp 28) _ rfl base 5 i0 _ 1 1 Try.underlying22 hi0 hz0 hz1 hz2 rfl (by omega) _ n _ rfl
           (hown.alloc _) _ _ 1 1 [.int .u8 92] rfl (reads_blk (xs := [.int .u8 92]) (Blk.new w _ _)) (by simp [Value.oneCell']) (by simp only [maxLen]; omega) (by omega) (by simp; omega) ?_
         intro v4 w4 hown4 hg4 hat4
         have hsz4 := (grown_alloc hg4).size)
      | (at_builtin
         refine wpList_append_any _ rfl (.tmp 30) (.tmp 32) _ rfl base 5 i0 _ 1 1 Try.underlying22 hi0 hz0 hz1 hz2 rfl (by omega) _ (n + 1) _ rfl
           (hown4.alloc _) _ _ 1 1 [.int .u8 ((c.toNat : Nat) : Int)] rfl (reads_blk (xs := [.int .u8 ((c.toNat : Nat) : Int)]) (Blk.new w4 _ _)) (by simp [Value.oneCell']) (by simp only [maxLen]; omega) (by omega) (by simp; omega) ?_
         intro v5 w5 hown5 hg5 hat5))
    go_ret
    refine ⟨_, rfl, by rw [List.append_assoc] at hown5; exact hown5, grown_two (grown_alloc hg4) (grown_alloc hg5) ?_⟩
    rcases hat4 with h | h
    · exact .inl h
    · right
      intro g hg
      have hg' : v4.ownBlock = some g := hg
      rw [h] at hg'
      injection hg' with hg'
      subst hg'
      simp

theorem hexC_at (n : Nat) (h : n < 16) : (⟨#[48, 49, 50, 51, 52, 53, 54, 55, 56, 57, 97, 98, 99, 100, 101, 102]⟩ : ByteArray)[n]'h = hexC n := by
  have : ∀ p : Fin 16, (⟨#[48, 49, 50, 51, 52, 53, 54, 55, 56, 57, 97, 98, 99, 100, 101, 102]⟩ : ByteArray)[p.val]'p.isLt = hexC p.val := by decide +kernel
  exact this ⟨n, h⟩

theorem hex_at (n : Nat) (hn : n < 16) (k : IntKind) (W : World) : (Instr.index 9 (.string ⟨#[48, 49, 50, 51, 52, 53, 54, 55, 56, 57, 97, 98, 99, 100, 101, 102]⟩) (.int k ((n : Nat) : Int))).run Try.prog W = .ok (.int .u8 (((hexC n).toNat : Nat) : Int)) W := by
  rw [run_index_string (h := Try.underlying9)]
  have h : (0 : Int) ≤ ((n : Nat) : Int) ∧ ((n : Nat) : Int) < (((⟨#[48, 49, 50, 51, 52, 53, 54, 55, 56, 57, 97, 98, 99, 100, 101, 102]⟩ : ByteArray).size : Nat) : Int) := by
    have : (⟨#[48, 49, 50, 51, 52, 53, 54, 55, 56, 57, 97, 98, 99, 100, 101, 102]⟩ : ByteArray).size = 16 := rfl
    rw [this]
    omega
  have e := hexC_at n hn
  simp only [h, and_self, dite_true, Int.toNat_natCast]
  rw [e]

set_option maxRecDepth 100000 in
set_option maxHeartbeats 2000000 in
theorem written_hex (base n : Nat) (xs : List Value) (A : Option Addr) (cp : Nat) (c : UInt8) (w : World) (hown : w.ownsRow base 5 1 (.slice A n cp) n xs) (hbase : base ≤ w.heap.size) (hn : n ≤ 1000000)
    (h1 : c.toNat ≠ 10) (h2 : c.toNat ≠ 9) (h3 : c.toNat ≠ 13) (hsp : spB c = false) (hpl : plB c = false) :
    Calls Try.prog 38 #[.slice A n cp, .int .u8 ((c.toNat : Nat) : Int)] w (Wrote base n xs (wrL c) (.slice A n cp) w) := by
  obtain ⟨i0, hi0, hz0, hz1, hz2⟩ := info_parts lx_info
  have e1 : (((c.toNat : Nat) : Int) == 10) = false := eq_no h1
  have e2 : (((c.toNat : Nat) : Int) == 9) = false := eq_no h2
  have e3 : (((c.toNat : Nat) : Int) == 13) = false := eq_no h3
  have HI := Lib.hid (fun W => index_any ⟨#[92, 34, 91, 93, 94, 45]⟩ c W)
  have HN := spL_idx c
  rw [show Lib.indexByte (⟨#[92, 34, 91, 93, 94, 45]⟩ : ByteArray).data.toList c = Lib.indexByte spL c from rfl] at HI
  have HP := fun W => plain_any c W
  have hwr : wrL c = if spB c then [92, c] else if plB c then [c] else [92, 120, hexC (c.toNat / 16), hexC (c.toNat % 16)] := (if_neg h1).trans ((if_neg h2).trans (if_neg h3))
  rw [hsp, hpl] at hwr
  rw [hpl] at HP
  have hi := HN.2 hsp
  have HP' := Lib.hid HP
  rw [show wrL c = [92, 120, hexC (c.toNat / 16), hexC (c.toNat % 16)] from hwr]
  clear HP hpl hwr hsp HN h1 h2 h3
  generalize Lib.indexByte spL c = i at *
  have hlt := UInt8.toNat_lt c
  have hq1 : (((c.toNat : Nat) : Int) / 16) = ((c.toNat / 16 : Nat) : Int) := by omega
  have hq2 : (((c.toNat : Nat) : Int) % 16) = ((c.toNat % 16 : Nat) : Int) := by omega
  have X1 := fun (W : World) => hex_at (c.toNat / 16) (by omega) .u8 W
  have X2 := fun (W : World) => hex_at (c.toNat % 16) (by omega) .u8 W
  rw [← hq1] at X1
  rw [← hq2] at X2
  clear hq1 hq2
  generalize hexC (c.toNat / 16) = y1 at *
  generalize hexC (c.toNat % 16) = y2 at *
  go_enter Try.func38, Try.ntmps38
  go_wp2_with (first
    | (go_at_call 51; refine (HI.out _).mono ?_; rintro e w' ⟨rfl, rfl⟩)
    | (go_at_call 52; refine (HP'.out _).mono ?_; rintro e w' ⟨rfl, rfl⟩))
  refine wp_region_hold_below 8 [0, 1, 2, 3, 4, 5, 6] [7] (by kernel_rfl) (by kernel_rfl) rfl (by kernel_rfl) ?_
  simp only [pickOps, List.getElem?_cons_zero, List.getElem?_cons_succ, List.drop_succ_cons, List.drop_zero]
  repeat (go_big_quiet_step (fail))
  refine wpQuiet_nil ?_
  have LD : Below w.heap.size w w.drew := (Below.refl _ w).drew
  refine wpForce_step rfl (fun KK hKK => ?_)
  go_simp
  have LA := LD.alloc LD.size (.cells #[.int .u8 92, .int .u8 120, .int .u8 ((y1.toNat : Nat) : Int), .int .u8 ((y2.toNat : Nat) : Int)] 5)
  refine hKK _ _ (regrown_of_below LA) ?_
  clear hKK KK
  refine wpForce_nil ?_
  have hown2 := own_call hown LA
  have hblk := Blk.new w.drew 5 #[.int .u8 92, .int .u8 120, .int .u8 ((y1.toNat : Nat) : Int), .int .u8 ((y2.toNat : Nat) : Int)]
  go_wp2_with (at_builtin
               refine wpList_append_any _ rfl (.tmp 34) (.tmp 41) _ rfl base 5 i0 _ 1 1 Try.underlying22 hi0 hz0 hz1 hz2 rfl (by omega) _ n _ rfl
                 hown2 _ _ 4 4 [.int .u8 92, .int .u8 120, .int .u8 ((y1.toNat : Nat) : Int), .int .u8 ((y2.toNat : Nat) : Int)] rfl (reads_blk (xs := [.int .u8 92, .int .u8 120, .int .u8 ((y1.toNat : Nat) : Int), .int .u8 ((y2.toNat : Nat) : Int)]) hblk) (by simp [Value.oneCell']) (by simp only [maxLen]; omega) (by omega) (Nat.le_trans hbase LA.size) ?_
               intro v4 w4 hown4 hg4 hat4)
  refine NoPanic.normal ?_
  go_wp2
  go_ret
  have hg5 := grown_alloc (w := w.drew) hg4
  exact ⟨_, rfl, hown4, ⟨hg5.os, hg5.tape, hg5.output, hg5.size, hg5.block⟩⟩

theorem written_any (base n : Nat) (xs : List Value) (A : Option Addr) (cp : Nat) (c : UInt8) (w : World) (hown : w.ownsRow base 5 1 (.slice A n cp) n xs) (hbase : base ≤ w.heap.size) (hn : n ≤ 1000000) :
    Calls Try.prog 38 #[.slice A n cp, .int .u8 ((c.toNat : Nat) : Int)] w (Wrote base n xs (wrL c) (.slice A n cp) w) := by
  by_cases h1 : c.toNat = 10
  · exact written_str base n xs A cp c w hown hbase hn (.inl h1)
  by_cases h2 : c.toNat = 9
  · exact written_str base n xs A cp c w hown hbase hn (.inr (.inl h2))
  by_cases h3 : c.toNat = 13
  · exact written_str base n xs A cp c w hown hbase hn (.inr (.inr h3))
  cases hs : spB c
  · cases hp : plB c
    · exact written_hex base n xs A cp c w hown hbase hn h1 h2 h3 hs hp
    · exact written_byte base n xs A cp c w hown hbase hn h1 h2 h3 (.inr hp)
  · exact written_byte base n xs A cp c w hown hbase hn h1 h2 h3 (.inl hs)

theorem wrL_len (c : UInt8) : (wrL c).length ≤ 4 := by
  unfold wrL
  split
  · simp
  split
  · simp
  split
  · simp
  split
  · simp
  split <;> simp

end Go.Proofs.Ytbjgkolldmplkaa
