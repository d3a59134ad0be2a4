/- SetTurns: the walk of the law. -/
import Derived.Test.YtbjgkolldmplkaaDoorRRows
import Derived.Test.YtbjgkolldmplkaaDoorBy
import Derived.Test.YtbjgkolldmplkaaDoorFirst
namespace Go.Proofs.YtbjgkolldmplkaaDoor.SetTurns
open Go.RowKit Go.Sort
attribute [local go_sem ↓] Go.wp_at_zero Go.wp_at_succ

/-- What lies behind the two arguments' boxes. -/
def LB (w : World) (m k : Nat → Bool) (W : World) : Prop :=
  Blk W w.heap.size 35 (sCells m) ∧ Blk W (w.heap.size + 1) 35 (sCells k) ∧ Below w.heap.size w W

theorem LB.new (w : World) (m k : Nat → Bool) : LB w m k ((w.alloc (.cells #[.int .u64 ((word m 0 : Nat) : Int), .int .u64 ((word m 1 : Nat) : Int), .int .u64 ((word m 2 : Nat) : Int), .int .u64 ((word m 3 : Nat) : Int)] 35)).alloc (.cells #[.int .u64 ((word k 0 : Nat) : Int), .int .u64 ((word k 1 : Nat) : Int), .int .u64 ((word k 2 : Nat) : Int), .int .u64 ((word k 3 : Nat) : Int)] 35)) := by
  refine ⟨(new_blk w m _).alloc _, ?_, ((Below.refl _ _).alloc (Nat.le_refl _) _).alloc (by simp) _⟩
  have := new_blk (w.alloc (.cells #[.int .u64 ((word m 0 : Nat) : Int), .int .u64 ((word m 1 : Nat) : Int), .int .u64 ((word m 2 : Nat) : Int), .int .u64 ((word m 3 : Nat) : Int)] 35)) k 35
  simp only [World.size_alloc] at this
  exact this

theorem LB.call {w : World} {m k : Nat → Bool} {W W1 : World} (h : LB w m k W) (hb : Below W.heap.size W W1) : LB w m k W1 :=
  ⟨h.1.below hb h.1.lt, h.2.1.below hb h.2.1.lt, h.2.2.trans (hb.mono h.2.2.size)⟩

set_option maxRecDepth 100000 in
set_option maxHeartbeats 8000000 in
theorem walkOn (m k : Nat → Bool) (l : List Nat) (n b0 : Nat) (ok : Bool) (r : List (Nat × Nat)) (w : World) (hnn : l.length = n) (hn : n ≤ 256)
    (hf : (((n : Int) == 0) = true ∧ (n == 0) = true ∧ ((b0 : Int) == 0) = true ∧ ok = false) ∨ (0 < n ∧ ok = true ∧ l.getD 0 0 = b0))
    (HBY : ∀ W, Calls Tryd.prog 17 #[.agg #[.int .u64 ((word m 0 : Nat) : Int), .int .u64 ((word m 1 : Nat) : Int), .int .u64 ((word m 2 : Nat) : Int), .int .u64 ((word m 3 : Nat) : Int)]] W fun e W' => ∃ A c, e = .returned (.slice A n c) ∧ Reads W' W'.heap.size 1 A n (byteVals l) ∧ n ≤ c ∧ c ≤ maxLen ∧ Below W.heap.size W W')
    (HF : ∀ W, Below w.heap.size w W → Calls Tryd.prog 18 #[.agg #[.int .u64 ((word m 0 : Nat) : Int), .int .u64 ((word m 1 : Nat) : Int), .int .u64 ((word m 2 : Nat) : Int), .int .u64 ((word m 3 : Nat) : Int)]] W (Gives (.tuple #[.int .u8 (b0 : Int), .bool ok]) W))
    (HSZ : ∀ W, Calls Tryd.prog 24 #[.agg #[.int .u64 ((word m 0 : Nat) : Int), .int .u64 ((word m 1 : Nat) : Int), .int .u64 ((word m 2 : Nat) : Int), .int .u64 ((word m 3 : Nat) : Int)]] W (Gives (.int .i64 (n : Int)) W))
    (HR1 : ∀ W, Calls Tryd.prog 26 #[.agg #[.int .u64 ((word m 0 : Nat) : Int), .int .u64 ((word m 1 : Nat) : Int), .int .u64 ((word m 2 : Nat) : Int), .int .u64 ((word m 3 : Nat) : Int)]] W fun e W' => ∃ A c, e = .returned (.slice A r.length c) ∧ Reads W' W'.heap.size 2 A r.length (rowCells r) ∧ r.length ≤ c ∧ c ≤ maxLen ∧ Below W.heap.size W W')
    (HR2 : ∀ W, Calls Tryd.prog 27 #[.agg #[.int .u64 ((word m 0 : Nat) : Int), .int .u64 ((word m 1 : Nat) : Int), .int .u64 ((word m 2 : Nat) : Int), .int .u64 ((word m 3 : Nat) : Int)]] W fun e W' => ∃ A c, e = .returned (.slice A r.length c) ∧ Reads W' W'.heap.size 2 A r.length (rowCells r) ∧ r.length ≤ c ∧ c ≤ maxLen ∧ Below W.heap.size W W')
    (HY0 : ∀ W, Calls Tryd.prog 19 #[.agg #[.int .u64 ((word m 0 : Nat) : Int), .int .u64 ((word m 1 : Nat) : Int), .int .u64 ((word m 2 : Nat) : Int), .int .u64 ((word m 3 : Nat) : Int)], .agg #[.int .u64 ((word k 0 : Nat) : Int), .int .u64 ((word k 1 : Nat) : Int), .int .u64 ((word k 2 : Nat) : Int), .int .u64 ((word k 3 : Nat) : Int)], .int .i64 0] W (Gives (.agg #[.int .u64 ((word ((sBy 0 m k)) 0 : Nat) : Int), .int .u64 ((word ((sBy 0 m k)) 1 : Nat) : Int), .int .u64 ((word ((sBy 0 m k)) 2 : Nat) : Int), .int .u64 ((word ((sBy 0 m k)) 3 : Nat) : Int)]) W))
    (HY1 : ∀ W, Calls Tryd.prog 19 #[.agg #[.int .u64 ((word m 0 : Nat) : Int), .int .u64 ((word m 1 : Nat) : Int), .int .u64 ((word m 2 : Nat) : Int), .int .u64 ((word m 3 : Nat) : Int)], .agg #[.int .u64 ((word k 0 : Nat) : Int), .int .u64 ((word k 1 : Nat) : Int), .int .u64 ((word k 2 : Nat) : Int), .int .u64 ((word k 3 : Nat) : Int)], .int .i64 1] W (Gives (.agg #[.int .u64 ((word ((sBy 1 m k)) 0 : Nat) : Int), .int .u64 ((word ((sBy 1 m k)) 1 : Nat) : Int), .int .u64 ((word ((sBy 1 m k)) 2 : Nat) : Int), .int .u64 ((word ((sBy 1 m k)) 3 : Nat) : Int)]) W))
    (HY2 : ∀ W, Calls Tryd.prog 19 #[.agg #[.int .u64 ((word m 0 : Nat) : Int), .int .u64 ((word m 1 : Nat) : Int), .int .u64 ((word m 2 : Nat) : Int), .int .u64 ((word m 3 : Nat) : Int)], .agg #[.int .u64 ((word k 0 : Nat) : Int), .int .u64 ((word k 1 : Nat) : Int), .int .u64 ((word k 2 : Nat) : Int), .int .u64 ((word k 3 : Nat) : Int)], .int .i64 2] W (Gives (.agg #[.int .u64 ((word ((sBy 2 m k)) 0 : Nat) : Int), .int .u64 ((word ((sBy 2 m k)) 1 : Nat) : Int), .int .u64 ((word ((sBy 2 m k)) 2 : Nat) : Int), .int .u64 ((word ((sBy 2 m k)) 3 : Nat) : Int)]) W))
    (HY3 : ∀ W, Calls Tryd.prog 19 #[.agg #[.int .u64 ((word m 0 : Nat) : Int), .int .u64 ((word m 1 : Nat) : Int), .int .u64 ((word m 2 : Nat) : Int), .int .u64 ((word m 3 : Nat) : Int)], .agg #[.int .u64 ((word k 0 : Nat) : Int), .int .u64 ((word k 1 : Nat) : Int), .int .u64 ((word k 2 : Nat) : Int), .int .u64 ((word k 3 : Nat) : Int)], .int .i64 3] W (Gives (.agg #[.int .u64 ((word ((sBy 3 m k)) 0 : Nat) : Int), .int .u64 ((word ((sBy 3 m k)) 1 : Nat) : Int), .int .u64 ((word ((sBy 3 m k)) 2 : Nat) : Int), .int .u64 ((word ((sBy 3 m k)) 3 : Nat) : Int)]) W))
    (hq0 : ∀ W, (binOp .eql 35 (.agg #[.int .u64 ((word ((sBoth m k)) 0 : Nat) : Int), .int .u64 ((word ((sBoth m k)) 1 : Nat) : Int), .int .u64 ((word ((sBoth m k)) 2 : Nat) : Int), .int .u64 ((word ((sBoth m k)) 3 : Nat) : Int)]) (.agg #[.int .u64 ((word ((sBy 0 m k)) 0 : Nat) : Int), .int .u64 ((word ((sBy 0 m k)) 1 : Nat) : Int), .int .u64 ((word ((sBy 0 m k)) 2 : Nat) : Int), .int .u64 ((word ((sBy 0 m k)) 3 : Nat) : Int)])).run Tryd.prog W = .ok (.bool true) W)
    (hq1 : ∀ W, (binOp .eql 35 (.agg #[.int .u64 ((word ((sAny m k)) 0 : Nat) : Int), .int .u64 ((word ((sAny m k)) 1 : Nat) : Int), .int .u64 ((word ((sAny m k)) 2 : Nat) : Int), .int .u64 ((word ((sAny m k)) 3 : Nat) : Int)]) (.agg #[.int .u64 ((word ((sBy 1 m k)) 0 : Nat) : Int), .int .u64 ((word ((sBy 1 m k)) 1 : Nat) : Int), .int .u64 ((word ((sBy 1 m k)) 2 : Nat) : Int), .int .u64 ((word ((sBy 1 m k)) 3 : Nat) : Int)])).run Tryd.prog W = .ok (.bool true) W)
    (hq2 : ∀ W, (binOp .eql 35 (.agg #[.int .u64 ((word ((sLess m k)) 0 : Nat) : Int), .int .u64 ((word ((sLess m k)) 1 : Nat) : Int), .int .u64 ((word ((sLess m k)) 2 : Nat) : Int), .int .u64 ((word ((sLess m k)) 3 : Nat) : Int)]) (.agg #[.int .u64 ((word ((sBy 2 m k)) 0 : Nat) : Int), .int .u64 ((word ((sBy 2 m k)) 1 : Nat) : Int), .int .u64 ((word ((sBy 2 m k)) 2 : Nat) : Int), .int .u64 ((word ((sBy 2 m k)) 3 : Nat) : Int)])).run Tryd.prog W = .ok (.bool true) W)
    (hq3 : ∀ W, (binOp .eql 35 (.agg #[.int .u64 ((word ((sNot m)) 0 : Nat) : Int), .int .u64 ((word ((sNot m)) 1 : Nat) : Int), .int .u64 ((word ((sNot m)) 2 : Nat) : Int), .int .u64 ((word ((sNot m)) 3 : Nat) : Int)]) (.agg #[.int .u64 ((word ((sBy 3 m k)) 0 : Nat) : Int), .int .u64 ((word ((sBy 3 m k)) 1 : Nat) : Int), .int .u64 ((word ((sBy 3 m k)) 2 : Nat) : Int), .int .u64 ((word ((sBy 3 m k)) 3 : Nat) : Int)])).run Tryd.prog W = .ok (.bool true) W) :
    Calls Tryd.prog 6 #[.agg #[.int .u64 ((word m 0 : Nat) : Int), .int .u64 ((word m 1 : Nat) : Int), .int .u64 ((word m 2 : Nat) : Int), .int .u64 ((word m 3 : Nat) : Int)], .agg #[.int .u64 ((word k 0 : Nat) : Int), .int .u64 ((word k 1 : Nat) : Int), .int .u64 ((word k 2 : Nat) : Int), .int .u64 ((word k 3 : Nat) : Int)]] w (Gives (.bool true) w) := by
  have hD0 := LB.new w m k
  obtain ⟨c0, c1, c2, c3⟩ := hD0.1.cells4
  have HNN := fun _ : Unit => hnn
  clear hnn
  rcases hf with ⟨hn1, hn2, hb1, rfl⟩ | ⟨hn0, rfl, hfb⟩
  · go_enter Tryd.func6, Tryd.ntmps6
    go_wp2_with (first
      | (go_at_call 17; refine (HBY _).mono ?_; rintro e w1 ⟨A, c, rfl, HR, hcn, hcm, HB1⟩; have hD1 := hD0.call HB1; obtain ⟨d0, d1, d2, d3⟩ := hD1.1.cells4)
      | (go_at_call 18; refine (HF _ hD1.2.2).mono ?_; rintro e w2 ⟨rfl, HB2⟩; have hD2 := hD1.call HB2))
    clear hn1 hn2 hb1
    have hD3 := hD2
    obtain ⟨x0, x1, x2, x3⟩ := hD3.1.cells4
    obtain ⟨y0, y1, y2, y3⟩ := hD3.2.1.cells4
    have x0' := cell_regrown x0
    have x1' := cell_regrown x1
    have x2' := cell_regrown x2
    have x3' := cell_regrown x3
    have y0' := cell_regrown y0
    have y1' := cell_regrown y1
    have y2' := cell_regrown y2
    have y3' := cell_regrown y3
    clear x0 x1 x2 x3 y0 y1 y2 y3
    go_wp2
    refine wp_region_quiet_below (by kernel_rfl) (by kernel_rfl) ?_
    repeat (go_big_quiet_step ((first
      | (go_at_call 22; exact gives_quiet (not_any _ _))
      | (go_at_call 20; exact gives_quiet (any_any _ _ _))
      | (go_at_call 16; exact gives_quiet (both_any _ _ _))
      | (go_at_call 21; exact gives_quiet (less_any _ _ _))
      | (go_at_call 19; with_reducible exact gives_quiet (HY0 _))
      | (go_at_call 19; with_reducible exact gives_quiet (HY1 _))
      | (go_at_call 19; with_reducible exact gives_quiet (HY2 _))
      | (go_at_call 19; with_reducible exact gives_quiet (HY3 _)))))
    refine wpQuiet_nil ?_
    intro w5 hw5
    have HB5 := below_of hw5
    have hD5 := LB.call (by exact hD3) HB5
    clear hw5 x0' x1' x2' x3' y0' y1' y2' y3' hq0 hq1 hq2 hq3 HY0 HY1 HY2 HY3
    have hb5 := hD5.1
    have L5 := hD5.2.2
    obtain ⟨x0, x1, x2, x3⟩ := hb5.cells4
    go_wp2
    go_region_held3 (fun w' => w'.cell? ⟨w.heap.size, 0, none⟩ = some (.int .u64 ((word m 0 : Nat) : Int)) ∧ w'.cell? ⟨w.heap.size, 1, none⟩ = some (.int .u64 ((word m 1 : Nat) : Int)) ∧ w'.cell? ⟨w.heap.size, 2, none⟩ = some (.int .u64 ((word m 2 : Nat) : Int)) ∧ w'.cell? ⟨w.heap.size, 3, none⟩ = some (.int .u64 ((word m 3 : Nat) : Int)))
      (go_keep)
      (first
        | (go_at_call 23; refine (awake1_any _).mono ?_; rintro e w6 ⟨rfl, HB6⟩; have hb6 := Blk.below (by exact hb5) HB6 hb5.lt; obtain ⟨x0, x1, x2, x3⟩ := hb6.cells4; have L6 : Below w.heap.size w w6 := L5.drew.trans (HB6.mono L5.size))
        | (go_at_call 24; refine (HSZ _).mono ?_; rintro e w7 ⟨rfl, HB7⟩; have hb7 := Blk.below (by exact hb6) HB7 hb6.lt; obtain ⟨x0, x1, x2, x3⟩ := hb7.cells4; have L7 : Below w.heap.size w w7 := L6.trans (HB7.mono L6.size))
        | (go_at_call 26; refine (HR1 _).mono ?_; rintro e w8 ⟨A8, c8, rfl, HR8, hc8, hm8, HB8⟩; have hb8 := Blk.below (by exact hb7) HB8 hb7.lt; obtain ⟨x0, x1, x2, x3⟩ := hb8.cells4; have L8 : Below w.heap.size w w8 := L7.trans (HB8.mono L7.size))
        | (go_at_call 27; refine (HR2 _).mono ?_; rintro e w9 ⟨A9, c9, rfl, HR9, hc9, hm9, HB9⟩; have hb9 := Blk.below (by exact hb8) HB9 hb8.lt; obtain ⟨x0, x1, x2, x3⟩ := hb9.cells4; have L9 : Below w.heap.size w w9 := L8.trans (HB9.mono L8.size))
        | (go_at_call 25; refine (pairs_same A8 A9 r.length c8 c9 w8.heap.size w9.heap.size r w9 (HR8.below HB9) HR9 HB9.size (Nat.le_refl _) hc8 hm8).mono ?_; rintro e w10 ⟨rfl, HB10⟩; have hb10 := Blk.below (by exact hb9) HB10 hb9.lt; obtain ⟨x0, x1, x2, x3⟩ := hb10.cells4; have L10 : Below w.heap.size w w10 := L9.trans (HB10.mono L9.size)))
    all_goals
      go_wp2
      go_ret
      exact ⟨rfl, L10⟩
  · have hn1 : ((n : Int) == 0) = false := by rw [beq_eq_false_iff_ne]; omega
    have hn2 : (n == 0) = false := by rw [beq_eq_false_iff_ne]; omega
    have hn3 : (0 : Int) < (n : Int) := by omega
    have hn4 : decide ((0 : Int) < (n : Int)) = true := by simp; omega
    have hn5 : decide (0 < n) = true := by simp; omega
    go_enter Tryd.func6, Tryd.ntmps6
    go_wp2_with (first
      | (go_at_call 17; refine (HBY _).mono ?_; rintro e w1 ⟨A, c, rfl, HR, hcn, hcm, HB1⟩; have hD1 := hD0.call HB1; obtain ⟨d0, d1, d2, d3⟩ := hD1.1.cells4)
      | (go_at_call 18; refine (HF _ hD1.2.2).mono ?_; rintro e w2 ⟨rfl, HB2⟩; have hD2 := hD1.call HB2; obtain ⟨g, o, rfl, _, hcl⟩ := byte_cellD (HR.below HB2) 0 hn0; rw [hfb, Nat.add_zero] at hcl))
    clear hn1 hn2 hn3 hn4 hn5 hcl
    have hD3 := hD2
    obtain ⟨x0, x1, x2, x3⟩ := hD3.1.cells4
    obtain ⟨y0, y1, y2, y3⟩ := hD3.2.1.cells4
    have x0' := cell_regrown x0
    have x1' := cell_regrown x1
    have x2' := cell_regrown x2
    have x3' := cell_regrown x3
    have y0' := cell_regrown y0
    have y1' := cell_regrown y1
    have y2' := cell_regrown y2
    have y3' := cell_regrown y3
    clear x0 x1 x2 x3 y0 y1 y2 y3
    go_wp2
    refine wp_region_quiet_below (by kernel_rfl) (by kernel_rfl) ?_
    repeat (go_big_quiet_step ((first
      | (go_at_call 22; exact gives_quiet (not_any _ _))
      | (go_at_call 20; exact gives_quiet (any_any _ _ _))
      | (go_at_call 16; exact gives_quiet (both_any _ _ _))
      | (go_at_call 21; exact gives_quiet (less_any _ _ _))
      | (go_at_call 19; with_reducible exact gives_quiet (HY0 _))
      | (go_at_call 19; with_reducible exact gives_quiet (HY1 _))
      | (go_at_call 19; with_reducible exact gives_quiet (HY2 _))
      | (go_at_call 19; with_reducible exact gives_quiet (HY3 _)))))
    refine wpQuiet_nil ?_
    intro w5 hw5
    have HB5 := below_of hw5
    have hD5 := LB.call (by exact hD3) HB5
    clear hw5 x0' x1' x2' x3' y0' y1' y2' y3' hq0 hq1 hq2 hq3 HY0 HY1 HY2 HY3
    have hb5 := hD5.1
    have L5 := hD5.2.2
    obtain ⟨x0, x1, x2, x3⟩ := hb5.cells4
    go_wp2
    go_region_held3 (fun w' => w'.cell? ⟨w.heap.size, 0, none⟩ = some (.int .u64 ((word m 0 : Nat) : Int)) ∧ w'.cell? ⟨w.heap.size, 1, none⟩ = some (.int .u64 ((word m 1 : Nat) : Int)) ∧ w'.cell? ⟨w.heap.size, 2, none⟩ = some (.int .u64 ((word m 2 : Nat) : Int)) ∧ w'.cell? ⟨w.heap.size, 3, none⟩ = some (.int .u64 ((word m 3 : Nat) : Int)))
      (go_keep)
      (first
        | (go_at_call 23; refine (awake1_any _).mono ?_; rintro e w6 ⟨rfl, HB6⟩; have hb6 := Blk.below (by exact hb5) HB6 hb5.lt; obtain ⟨x0, x1, x2, x3⟩ := hb6.cells4; have L6 : Below w.heap.size w w6 := L5.drew.trans (HB6.mono L5.size))
        | (go_at_call 24; refine (HSZ _).mono ?_; rintro e w7 ⟨rfl, HB7⟩; have hb7 := Blk.below (by exact hb6) HB7 hb6.lt; obtain ⟨x0, x1, x2, x3⟩ := hb7.cells4; have L7 : Below w.heap.size w w7 := L6.trans (HB7.mono L6.size))
        | (go_at_call 26; refine (HR1 _).mono ?_; rintro e w8 ⟨A8, c8, rfl, HR8, hc8, hm8, HB8⟩; have hb8 := Blk.below (by exact hb7) HB8 hb7.lt; obtain ⟨x0, x1, x2, x3⟩ := hb8.cells4; have L8 : Below w.heap.size w w8 := L7.trans (HB8.mono L7.size))
        | (go_at_call 27; refine (HR2 _).mono ?_; rintro e w9 ⟨A9, c9, rfl, HR9, hc9, hm9, HB9⟩; have hb9 := Blk.below (by exact hb8) HB9 hb8.lt; obtain ⟨x0, x1, x2, x3⟩ := hb9.cells4; have L9 : Below w.heap.size w w9 := L8.trans (HB9.mono L8.size))
        | (go_at_call 25; refine (pairs_same A8 A9 r.length c8 c9 w8.heap.size w9.heap.size r w9 (HR8.below HB9) HR9 HB9.size (Nat.le_refl _) hc8 hm8).mono ?_; rintro e w10 ⟨rfl, HB10⟩; have hb10 := Blk.below (by exact hb9) HB10 hb9.lt; obtain ⟨x0, x1, x2, x3⟩ := hb10.cells4; have L10 : Below w.heap.size w w10 := L9.trans (HB10.mono L9.size)))
    all_goals
      go_wp2
      go_ret
      exact ⟨rfl, L10⟩

end Go.Proofs.YtbjgkolldmplkaaDoor.SetTurns
