/- SpanThrough: the row of places of their own (the law's own loop), small laws. -/
import Derived.Test.YtgaboipigdkefaaSpan6
namespace Go.Proofs.Ytgaboipigdkefaa.SpanThrough
open Go.RowKit Go.Sort

theorem span_info : (Try.prog.info? 35).map (fun i => (i.zero, i.size, i.bytes)) = some (some (.agg #[.int .i64 0, .int .i64 0]), 2, 16) := by kernel_rfl

theorem own_from {w : World} {base : Nat} {e : TypeId} {size n : Nat} {v : Value} {xs : List Value} (h : w.ownsRow base e size v n xs) : ∀ g, v.ownBlock = some g → base ≤ g := by
  obtain ⟨_, h2⟩ := h
  rcases h2 with ⟨rfl, _⟩ | ⟨g, cap, cur, rfl, hb, _⟩
  · intro g hg; simp [Value.ownBlock] at hg
  · intro g' hg
    have : g = g' := by simpa [Value.ownBlock] using hg
    omega

theorem own_reads2 {w : World} {base : Nat} {e : TypeId} {size : Nat} {v : Value} {n : Nat} {xs : List Value} (h : w.ownsRow base e size v n xs) :
    ∃ A c, v = .slice A n c ∧ Reads w w.heap.size size A n xs ∧ n ≤ c ∧ c ≤ maxLen := by
  have h' := h
  obtain ⟨hl, h2⟩ := h
  rcases h2 with ⟨rfl, rfl⟩ | ⟨g, cap, cur, rfl, hb, hh, hn, hc, hs, ht⟩
  · exact ⟨none, 0, rfl, Reads.of_own h', Nat.le_refl _, Nat.zero_le _⟩
  · exact ⟨_, cap, rfl, Reads.of_own h', hn, hc⟩

theorem ownL_step (k : Nat) : spanVals (ownL k) ++ [.int .i64 (k : Int), .int .i64 ((k : Int) + 1)] = spanVals (ownL (k + 1)) := by
  simp [ownL, spanVals]


end Go.Proofs.Ytgaboipigdkefaa.SpanThrough
