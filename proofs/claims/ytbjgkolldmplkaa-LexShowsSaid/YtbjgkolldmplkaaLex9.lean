/- The walk of Next of package lex. -/
import Derived.Test.YtbjgkolldmplkaaLex8
import Derived.Deep.Cut
namespace Go.Proofs.Ytbjgkolldmplkaa
open Go.RowKit Go.Sort

/-- A token with its place, a place and an error's number come back. -/
def Nxt (r : Int × Tk × Nat × Nat) (k : Nat) (w : World) (e : Ending) (w' : World) : Prop :=
  e = .returned (.tuple #[tkV r.2.1 (if r.1 = 0 then ((k + r.2.2.1 : Nat) : Int) else 0), .int .i64 ((k + r.2.2.2 : Nat) : Int), .int .i64 r.1]) ∧ Below w.heap.size w w'

theorem nxt_ok {t : Tk} {a b k : Nat} {w w' : World} {v : Value} {y : Int} (hv : v = tkV t ((k + a : Nat) : Int)) (hy : y = ((k + b : Nat) : Int)) (hb : Below w.heap.size w w') :
    Nxt (0, t, a, b) k w (.returned (.tuple #[v, .int .i64 y, .int .i64 0])) w' := by
  subst hv hy
  exact ⟨rfl, hb⟩

theorem nxt_no {x : Int} {a b k : Nat} {w w' : World} {y : Int} (hx : x ≠ 0) (hy : y = ((k + b : Nat) : Int)) (hb : Below w.heap.size w w') :
    Nxt (x, tk0, a, b) k w (.returned (.tuple #[.agg #[.int .i64 0, .string ⟨#[]⟩, .int .u64 0, .int .u64 0, .int .u64 0, .int .u64 0, .int .i64 0, .int .i64 0], .int .i64 y, .int .i64 x])) w' := by
  subst hy
  refine ⟨?_, hb⟩
  simp only
  rw [if_neg hx]
  unfold tk0
  rw [tkV_plain]

set_option maxRecDepth 100000 in
set_option maxHeartbeats 4000000 in
theorem next_any (s : ByteArray) (k : Nat) (w : World) (hs : s.size ≤ 1000000) (hk : k ≤ s.size) :
    Calls Try.prog 24 #[.string s, .int .i64 k] w (Nxt (nextL (sf s k)) k w) := by
  have hsm : s.size ≤ maxLen := by unfold maxLen; omega
  have HW := fun W => white_any s k W hsm hk
  have hwl := whL_le false (sf s k)
  rw [sf_len] at hwl
  have hb0 := Blk.new w 46 #[.int .i64 0, .string ⟨#[]⟩, .int .u64 0, .int .u64 0, .int .u64 0, .int .u64 0, .int .i64 0, .int .i64 0]
  have HB0 : Below w.heap.size w (w.alloc (.cells #[.int .i64 0, .string ⟨#[]⟩, .int .u64 0, .int .u64 0, .int .u64 0, .int .u64 0, .int .i64 0, .int .i64 0] 46)) := (Below.refl _ _).alloc (Nat.le_refl _) _
  have hN : nextL (sf s k) = if whL false (sf s k) = (sf s k).length then (0, tk0, (sf s k).length, (sf s k).length) else
    if (tokL ((sf s k).drop (whL false (sf s k)))).1 = 0 then (0, (tokL ((sf s k).drop (whL false (sf s k)))).2.1, whL false (sf s k), whL false (sf s k) + (tokL ((sf s k).drop (whL false (sf s k)))).2.2)
    else ((tokL ((sf s k).drop (whL false (sf s k)))).1, tk0, 0, whL false (sf s k)) := rfl
  rw [sf_drop, sf_len] at hN
  generalize nextL (sf s k) = R at *
  generalize whL false (sf s k) = d at *
  have HW' := Lib.hid HW
  clear HW
  have hk0 : (0 : Int) ≤ (k : Int) := by omega
  have hks : (k : Int) ≤ (s.size : Int) := by omega
  by_cases hd : d = s.size - k
  · have hR : R = (0, tk0, d, d) := by rw [hN, if_pos hd, hd]
    have e0 : ((((k + d : Nat) : Nat) : Int) == (s.size : Int)) = true := eq_yes (by omega)
    rw [hR]
    clear hN hR hd
    generalize hj : k + d = j at *
    go_enter Try.func24, Try.ntmps24
    go_wp2_with (go_at_call 35; refine (HW'.out _).mono ?_; rintro e w' ⟨rfl, rfl⟩)
    exact bodyPost_ret (v := .tuple #[.agg #[.int .i64 0, .string ⟨#[]⟩, .int .u64 0, .int .u64 0, .int .u64 0, .int .u64 0, .int .i64 0, .int .i64 j], .int .i64 j, .int .i64 0]) (by simp [results, Try.results24, go_sem]) rfl
      (nxt_ok (by unfold tk0; rw [tkV_plain, hj]) (by rw [hj]) ((Below.refl _ _).alloc (Nat.le_refl _) _))
  · have hR := hN.trans (if_neg hd)
    have hlt : k + d < s.size := by omega
    have HT := fun W => token_any s (k + d) W hs hlt
    have e0 : ((((k + d : Nat) : Nat) : Int) == (s.size : Int)) = false := eq_no (by omega)
    clear hN hd
    generalize tokL (sf s (k + d)) = r at *
    have H2 := fun W => (HT W).mono fun e w' h => tkn_x.1 h
    by_cases he : r.1 = 0
    · rw [if_pos he] at hR
      rw [hR]
      obtain ⟨er, t, n⟩ := r
      obtain rfl : er = 0 := he
      have hpl : plc 0 (k + d) n = ((k + d + n : Nat) : Int) := rfl
      simp only [hpl] at H2
      have hV : ∀ p, tkV t p = .agg #[.int .i64 t.kind, .string ⟨t.text.toArray⟩, .int .u64 ((word t.set 0 : Nat) : Int), .int .u64 ((word t.set 1 : Nat) : Int), .int .u64 ((word t.set 2 : Nat) : Int), .int .u64 ((word t.set 3 : Nat) : Int), .int .i64 t.num, .int .i64 p] := fun _ => rfl
      simp only
      have HV := Lib.hid hV
      clear hR hV HT hpl
      generalize (⟨t.text.toArray⟩ : ByteArray) = tx at *
      generalize ((word t.set 0 : Nat) : Int) = x0 at *
      generalize ((word t.set 1 : Nat) : Int) = x1 at *
      generalize ((word t.set 2 : Nat) : Int) = x2 at *
      generalize ((word t.set 3 : Nat) : Int) = x3 at *
      generalize t.kind = kd at *
      generalize t.num = nm at *
      have H' := Lib.hid H2
      clear H2
      have hj2 : k + d + n = k + (d + n) := by omega
      have HJ2 := Lib.hid hj2
      clear hj2
      generalize hj : k + d = j at *
      generalize j + n = j2 at *
      have HJ := fun _ : Unit => hj
      clear hj
      go_enter Try.func24, Try.ntmps24
      go_upto_region 7 with (first | (go_at_call 35; refine (HW'.out _).mono ?_; rintro e w' ⟨rfl, rfl⟩) | (go_at_call 36; refine (H'.out _).mono ?_; rintro e w1 ⟨rfl, HB1⟩; have hb1 := hb0.below HB1 hb0.lt; have LB := below_then HB0 HB1))
      have hb2 := hb1.alloc (.cells #[.int .i64 kd, .string tx, .int .u64 x0, .int .u64 x1, .int .u64 x2, .int .u64 x3, .int .i64 nm, .int .i64 0] 46)
      have LB2 := LB.alloc LB.size (.cells #[.int .i64 kd, .string tx, .int .u64 x0, .int .u64 x1, .int .u64 x2, .int .u64 x3, .int .i64 nm, .int .i64 0] 46)
      have hg := Blk.new w1 46 #[.int .i64 kd, .string tx, .int .u64 x0, .int .u64 x1, .int .u64 x2, .int .u64 x3, .int .i64 nm, .int .i64 0]
      have hne : w.heap.size ≠ w1.heap.size := by have := hb1.lt; omega
      generalize w1.alloc (.cells #[.int .i64 kd, .string tx, .int .u64 x0, .int .u64 x1, .int .u64 x2, .int .u64 x3, .int .i64 nm, .int .i64 0] 46) = W2 at *
      have hsz1 := LB.size
      generalize w1.heap.size = g at *
      obtain ⟨_, f0, f1, f2, f3, f4, f5, f6, f7⟩ := hg.cells8
      have hg7 := hg.cell 7
      have hg3 : Blk (W2.setCell ⟨g, 7, none⟩ (.int .i64 j)) g 46 #[.int .i64 kd, .string tx, .int .u64 x0, .int .u64 x1, .int .u64 x2, .int .u64 x3, .int .i64 nm, .int .i64 j] := by
        have := hg.set_ 7 (.int .i64 j)
        simpa using this
      have hb3 := hb2.far (p := ⟨g, 7, none⟩) hne (.int .i64 j)
      have LB3 := LB2.setCell (p := ⟨g, 7, none⟩) hsz1 (.int .i64 j)
      simp at hg7
      go_upto_region 10 with (fail)
      generalize W2.setCell ⟨g, 7, none⟩ (.int .i64 j) = W3 at *
      clear f0 f1 f2 f3 f4 f5 f6 f7 hg7 hg hb2 LB2
      obtain ⟨⟨c0, c1, c2, c3, c4, c5, c6, c7⟩, _⟩ := hg3.cells8
      obtain ⟨⟨d0, d1, d2, d3, d4, d5, d6, d7⟩, h0, h1, h2, h3, h4, h5, h6, h7⟩ := hb3.cells8
      go_wp2
      exact bodyPost_ret (gets_tok Try.results24 rfl (hb3.set8 _ _ _ _ _ _ _ _)) rfl (nxt_ok (by rw [HV.out, HJ ()]) (by rw [HJ2.out]) (below8 LB3 (Nat.le_refl _) _ _ _ _ _ _ _ _))
    · rw [if_neg he] at hR
      rw [hR]
      obtain ⟨er, t, n⟩ := r
      have hx : (er != 0) = true := bne_iff_ne.2 he
      simp only
      have HE := fun _ : Unit => he
      clear hR HT he
      generalize (⟨t.text.toArray⟩ : ByteArray) = tx at *
      generalize ((word t.set 0 : Nat) : Int) = x0 at *
      generalize ((word t.set 1 : Nat) : Int) = x1 at *
      generalize ((word t.set 2 : Nat) : Int) = x2 at *
      generalize ((word t.set 3 : Nat) : Int) = x3 at *
      generalize t.kind = kd at *
      generalize t.num = nm at *
      generalize plc er (k + d) n = pl at *
      have H' := Lib.hid H2
      clear H2
      generalize hj : k + d = j at *
      have HJ := fun _ : Unit => hj
      clear hj
      go_enter Try.func24, Try.ntmps24
      go_upto_region 7 with (first | (go_at_call 35; refine (HW'.out _).mono ?_; rintro e w' ⟨rfl, rfl⟩) | (go_at_call 36; refine (H'.out _).mono ?_; rintro e w1 ⟨rfl, HB1⟩; have hb1 := hb0.below HB1 hb0.lt; have LB := below_then HB0 HB1))
      have hb2 := hb1.alloc (.cells #[.int .i64 kd, .string tx, .int .u64 x0, .int .u64 x1, .int .u64 x2, .int .u64 x3, .int .i64 nm, .int .i64 0] 46)
      have LB2 := LB.alloc LB.size (.cells #[.int .i64 kd, .string tx, .int .u64 x0, .int .u64 x1, .int .u64 x2, .int .u64 x3, .int .i64 nm, .int .i64 0] 46)
      generalize w1.alloc (.cells #[.int .i64 kd, .string tx, .int .u64 x0, .int .u64 x1, .int .u64 x2, .int .u64 x3, .int .i64 nm, .int .i64 0] 46) = W2 at *
      obtain ⟨⟨d0, d1, d2, d3, d4, d5, d6, d7⟩, h0, h1, h2, h3, h4, h5, h6, h7⟩ := hb2.cells8
      go_wp2
      exact bodyPost_ret (gets_tok Try.results24 rfl (hb2.set8 _ _ _ _ _ _ _ _)) rfl (nxt_no (HE ()) (by rw [HJ ()]) (below8 LB2 (Nat.le_refl _) _ _ _ _ _ _ _ _))

end Go.Proofs.Ytbjgkolldmplkaa
