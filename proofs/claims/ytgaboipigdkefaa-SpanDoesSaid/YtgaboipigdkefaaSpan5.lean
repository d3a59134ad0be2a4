/- The walk of awake of layer 4. -/
import Derived.Test.YtgaboipigdkefaaSpan4
namespace Go.Proofs.Ytgaboipigdkefaa
open Go.RowKit Go.Sort

theorem below_of5 {w w' : World} (h : ∃ p : Regrown, w' = grow (redrawn w p.d) p.os) : Below w.heap.size w w' := by
  obtain ⟨p, rfl⟩ := h
  exact below_regrown _ _ _

theorem reads_blk2 {w : World} {B : Nat} {T : TypeId} {xs : List Value} {n : Nat} (h : Blk w B T xs.toArray) (hn : xs.length = n * 2) : Reads w w.heap.size 2 (some ⟨B, 0, none⟩) n xs := by
  refine ⟨hn, fun _ => ⟨_, rfl, h.lt, fun j u hu => ?_⟩⟩
  rw [show (⟨B, 0, none⟩ : Addr).add j = ⟨B, j, none⟩ from by unfold Addr.add; split <;> simp_all, h.cell j]
  simpa using hu

theorem thr_awake (w : World) : Calls Try.prog 18 #[.slice (some ⟨w.heap.size, 0, none⟩) 3 3, .agg #[.int .i64 1, .int .i64 3], .int .i64 4] (w.alloc (.cells #[.int .i64 0, .int .i64 1, .int .i64 1, .int .i64 4, .int .i64 1, .int .i64 4] 35))
    (Gives (.tuple #[.agg #[.int .i64 1, .int .i64 4], .int .i64 0]) (w.alloc (.cells #[.int .i64 0, .int .i64 1, .int .i64 1, .int .i64 4, .int .i64 1, .int .i64 4] 35))) :=
  thr_any 4 _ 3 3 _ [(0, 1), (1, 4), (1, 4)] 1 3 _ (reads_blk2 (xs := spanVals [(0, 1), (1, 4), (1, 4)]) (Blk.new w _ _) rfl) (Nat.le_refl _) (by decide) (by decide)

set_option maxHeartbeats 1000000 in
theorem awake4_any (w : World) : Calls Try.prog 17 #[] w (Gives (.bool true) w) := by
  have hq := fun W => span_eql W 1 4 1 4
  simp only [beq_self_eq_true, Bool.and_self] at hq
  go_enter Try.func17, Try.ntmps17
  go_wp2_with (go_at_call 18; refine (thr_awake w).mono ?_; rintro e w1 ⟨rfl, HB1⟩)
  go_ret
  exact ⟨rfl, (((Below.refl _ _).alloc (Nat.le_refl _) _).trans (HB1.mono (by simp))).alloc (by have := HB1.size; simp at this; omega) _⟩

end Go.Proofs.Ytgaboipigdkefaa
