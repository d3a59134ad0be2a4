/- SetMakes: the walk of the law. -/
import Derived.Test.YtbjgkolldmplkaaSet6
namespace Go.Proofs.Ytbjgkolldmplkaa.SetMakes
open Go.RowKit Go.Sort

theorem set_eq (m : Nat → Bool) (W : World) : (binOp .eql 25 (.agg #[.int .u64 ((word m 0 : Nat) : Int), .int .u64 ((word m 1 : Nat) : Int), .int .u64 ((word m 2 : Nat) : Int), .int .u64 ((word m 3 : Nat) : Int)]) (.agg #[.int .u64 ((word m 0 : Nat) : Int), .int .u64 ((word m 1 : Nat) : Int), .int .u64 ((word m 2 : Nat) : Int), .int .u64 ((word m 3 : Nat) : Int)])).run Try.prog W = .ok (.bool true) W := by
  rw [eql_words]; simp

set_option maxHeartbeats 1000000 in
theorem walk_long (A : Option Addr) (n c f t : Nat) (m : Nat → Bool) (w : World) (hn : 300 < n) :
    Calls Try.prog 3 #[.slice A n c, .int .u8 f, .int .u8 t, .agg #[.int .u64 ((word m 0 : Nat) : Int), .int .u64 ((word m 1 : Nat) : Int), .int .u64 ((word m 2 : Nat) : Int), .int .u64 ((word m 3 : Nat) : Int)]] w (Gives (.bool true) w) := by
  go_enter Try.func3, Try.ntmps3
  go_wp2
  go_ret
  exact ⟨rfl, (Below.refl _ _).alloc (Nat.le_refl _) _⟩

theorem bnd {w : World} {d : Nat} {os : Array Obj} : w.heap.size ≤ (grow (redrawn w d) os).heap.size := (below_regrown w d os).size

set_option maxHeartbeats 4000000 in
theorem walk_main (A : Option Addr) (n c f t : Nat) (l : List Nat) (m : Nat → Bool) (w : World) (HR : Reads w w.heap.size 1 A n (byteVals l)) (hl : ∀ b ∈ l, b < 256) (hf : f < 256) (ht : t < 256) (hn : n ≤ 300) (hc : n ≤ c) (hm : c ≤ maxLen) :
    Calls Try.prog 3 #[.slice A n c, .int .u8 f, .int .u8 t, .agg #[.int .u64 ((word m 0 : Nat) : Int), .int .u64 ((word m 1 : Nat) : Int), .int .u64 ((word m 2 : Nat) : Int), .int .u64 ((word m 3 : Nat) : Int)]] w (Gives (.bool true) w) := by
  have HL := Lib.hid hl
  clear hl
  have hb0 := new_blk w m 25
  have HR1 := HR.alloc (Nat.le_refl _) (.cells (sCells m) 25)
  obtain ⟨c0, c1, c2, c3⟩ := hb0.cells4
  have k0 := cell_regrown c0
  have k1 := cell_regrown c1
  have k2 := cell_regrown c2
  have k3 := cell_regrown c3
  have hq1 := set_eq (sOf l)
  have hq2 := set_eq (sSpan f t)
  clear c0 c1 c2 c3
  go_enter Try.func3, Try.ntmps3
  go_wp2
  refine wp_region_quiet_below (by kernel_rfl) (by kernel_rfl) ?_
  repeat (go_big_quiet_step ((first
    | (go_at_call 10; exact gives_quiet (awake1_any _))
    | (go_at_call 11; exact gives_quiet (of_any A n c _ l _ (HR1.below (below_regrown _ _ _ |>.mono (by simp))) (Nat.le_trans (by simp) bnd) HL.out hc hm))
    | (go_at_call 12; exact gives_quiet (rof_any A n c _ l _ (HR1.below (below_regrown _ _ _ |>.mono (by simp))) (Nat.le_trans (by simp) bnd) HL.out hc hm))
    | (go_at_call 13; exact gives_quiet (span_any f t _ hf ht))
    | (go_at_call 14; exact gives_quiet (rspan_any f t _ hf ht))
    | (go_at_call 15; exact gives_quiet (has_any m f _ hf))
    | (go_at_call 16; exact gives_quiet (rhas_any m f _ hf)))))
  refine wpQuiet_nil ?_
  intro w5 hw5
  have HB5 := below_of hw5
  clear hw5 k0 k1 k2 k3 hq1 hq2
  go_wp2
  go_ret
  exact ⟨rfl, below_then ((Below.refl _ _).alloc (Nat.le_refl _) _) HB5⟩

end Go.Proofs.Ytbjgkolldmplkaa.SetMakes
