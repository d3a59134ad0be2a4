/- The walks of the reference's All at whatever row, of Rise's closure, of pairs. -/
import Derived.Test.YtgaboipigdkefaaSpan7
namespace Go.Proofs.Ytgaboipigdkefaa
open Go.RowKit Go.Sort

theorem rall_any (A : Option Addr) (n c B : Nat) (l : List (Int × Int)) (w : World) (HR0 : Reads w B 2 A n (spanVals l)) (hB : B ≤ w.heap.size) (hc : n ≤ c) (hm : c ≤ maxLen) :
    Calls Try.prog 29 #[.slice A n c] w (Gives (allV l) w) := by
  have hn := HR0.1
  rw [spanVals_length] at hn
  have hn2 : n = l.length := by omega
  subst hn2
  cases l with
  | nil => exact rall_none A c w
  | cons p l =>
    obtain ⟨g, o, rfl, _⟩ := span_cell HR0 0 (by simp)
    exact rall_some g o c B p l w HR0 hB hc hm

/-- Do two stand as they rise? -/
def le2 (p q : Int × Int) : Bool := decide (p.1 ≤ q.1) && decide (p.2 ≤ q.2)

set_option maxHeartbeats 1000000 in
theorem rise1_any (p q : Int × Int) (w : World) :
    Calls Try.prog 42 #[.agg #[.int .i64 (p.1), .int .i64 (p.2)], .agg #[.int .i64 (q.1), .int .i64 (q.2)]] w (Gives (.bool (le2 p q)) w) := by
  by_cases h1 : p.1 ≤ q.1
  · by_cases h2 : p.2 ≤ q.2
    · go_enter Try.func42, Try.ntmps42
      go_wp2
      go_ret
      exact ⟨by simp [le2, h1, h2], ((Below.refl _ _).alloc (Nat.le_refl _) _).alloc (by simp) _⟩
    · go_enter Try.func42, Try.ntmps42
      go_wp2
      go_ret
      exact ⟨by simp [le2, h1, h2] <;> intros <;> omega, ((Below.refl _ _).alloc (Nat.le_refl _) _).alloc (by simp) _⟩
  · go_enter Try.func42, Try.ntmps42
    go_wp2
    go_ret
    exact ⟨by simp [le2, h1] <;> intros <;> omega, ((Below.refl _ _).alloc (Nat.le_refl _) _).alloc (by simp) _⟩

end Go.Proofs.Ytgaboipigdkefaa
