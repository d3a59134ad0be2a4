/- Arguments that are spans, rows of spans: what they read as. -/
import Derived.Test.YtgaboipigdkefaaLaw
import Derived.Test.YtgaboipigdkefaaSpan2
import Derived.Lib.SmallJoins
import Derived.Deep.Slices
import Derived.Deep.Fields
import Derived.ChangeSame
namespace Go.Proofs.Ytgaboipigdkefaa
open Go.ChangeShapes Go.WideShapes Go.ChangeAt Go.RowKit Go.Joins Go.Deep

section
variable {H : Type} {enc : TypeId × Value → H} {P : Program}

theorem open_span {r : Reach} {b0 : Nat} {t ti : TypeId} {f0 f1 : Field} {W : World} {v : Value} {d : DataW H} {ps : List MemPlace} {sp : Nat → Bool} {held : Bool} {base : Nat} (hs : P.underlying t = some (.struct #[f0, f1])) (hi : P.underlying ti = some (.int .i64)) (h01 : f0.type = ti ∧ f1.type = ti)
    (hone : oneCellFields P #[f0, f1] = true) (hC : P.cellsOf t = 2)
    (hval : Value.okWide P W r b0 t v) (hd : DataW.Trod enc P W base sp held t v d ps) : ∃ a b : Int, v = .agg #[.int .i64 (a), .int .i64 (b)] ∧ (Lit.int .i64 a).wf = true ∧ (Lit.int .i64 b).wf = true := by
  obtain ⟨v0, v1, y0, y1, n, rfl, _, _, h0, h1⟩ := open_agg2 hs hone hC hval hd
  rw [h01.1] at h0
  rw [h01.2] at h1
  obtain ⟨a, e0, _, w0⟩ := DataW.trod_int hi h0
  obtain ⟨b, e1, _, w1⟩ := DataW.trod_int hi h1
  simp at e0 e1
  subst e0 e1
  exact ⟨a, b, rfl, w0, w1⟩
end

end Go.Proofs.Ytgaboipigdkefaa
