/- SetRows: the law. -/
import Derived.Test.YtbjgkolldmplkaaSetRows2
import Derived.Test.YtbjgkolldmplkaaLawSet
namespace Go.Proofs.Ytbjgkolldmplkaa.SetRows
open Go.ChangeShapes Go.WideShapes Go.ChangeAt Go.RowKit

theorem walk (m : Nat → Bool) (f t : Nat) (w : World) (hf : f < 256) (ht : t < 256) :
    Calls Try.prog 4 #[.agg #[.int .u64 ((word m 0 : Nat) : Int), .int .u64 ((word m 1 : Nat) : Int), .int .u64 ((word m 2 : Nat) : Int), .int .u64 ((word m 3 : Nat) : Int)], .int .u8 f, .int .u8 t] w (Gives (.bool true) w) := by
  refine walkOn m f t (rowsOf m) (rowsOf (sSpan f t)) w hf ht (fun W => rows_reads m W) (fun k hk => rows_ok m k hk) (fun j k hj hk e => by subst e; exact rows_far m j hk) ?_ (fun W => rows_reads (sSpan f t) W) ?_ ?_
  · have := rowsFrom_length m 256 0 (by omega)
    unfold rowsOf
    omega
  · rw [rows_span f t hf ht]
    by_cases h : f ≤ t
    · exact .inl ⟨h, by rw [if_pos h]⟩
    · exact .inr ⟨by omega, by rw [if_neg h]⟩
  · intro W
    rw [eql_words, sPart_rows m 0 (by omega), sPart_rows m 1 (by omega), sPart_rows m 2 (by omega), sPart_rows m 3 (by omega)]
    simp

set_option maxRecDepth 100000 in
theorem lifted (os : Os) (started : os.Started) (H : Type) (enc : TypeId × Value → H) :
    ReturnsInHanded {} Try.checked os 4 .any (Rows.setRowsSpec.pre6 enc Try.prog Try.f4 Rows.setRowsRow.domain false) (Rows.setRowsSpec.post enc Try.prog Try.f4 false true false false) := by
  refine law_lifted (C := Try.checked) (tb := 4) ownNone started (by kernel_rfl) Try.func4 laidOut rfl ?_ rfl Try.underlying4 (by kernel_rfl)
    (ChangeSpec.witness6 (enc := enc) (C := Try.checked) false ⟨#[], #[.agg #[.int .u64 0, .int .u64 0, .int .u64 0, .int .u64 0], .int .u8 0, .int .u8 0], []⟩ 8 (by kernel_rfl) (by kernel_rfl) (by kernel_rfl) (by kernel_rfl)) ?_
  · intro ds hl
    match ds, hl with
    | [_, _, _], _ => rfl
  intro W base args ds before hval0 hA0 hlt hsz0
  have hval : ∀ (j : Nat) t v, Try.f4.params[j]? = some t → args[j]? = some v → Value.okWide Try.prog W .any base t v := hval0
  have hA : DataW.TrodAll enc Try.prog W 0 (fun _ => true) true Try.f4.params.toList args.toList ds before := hA0
  have hsz : (DataW.weightsEach Try.prog Try.f4.params.toList ds).all (· ≤ reachBytes) = true := hsz0
  rw [Try.params4] at hA hval hsz
  obtain ⟨v0, vs0, d0, ds0, p0, q0, hargs, rfl, rfl, h0, r0⟩ := trodAll_cons hA
  obtain ⟨v1, vs1, d1, ds1, p1, q1, rfl, rfl, rfl, h1, r1⟩ := trodAll_cons r0
  obtain ⟨v2, vs2, d2, ds2, p2, q2, rfl, rfl, rfl, h2, r2⟩ := trodAll_cons r1
  obtain ⟨rfl, rfl, rfl⟩ := trodAll_nil r2
  obtain rfl : args = #[v0, v1, v2] := by cases args; simp_all
  obtain ⟨a0, rfl⟩ := open_set Try.underlying25 Try.underlying23 (by kernel_rfl) (by kernel_rfl) (hval 0 25 v0 rfl rfl) h0
  obtain ⟨a1, rfl, w1⟩ := open_byte Try.underlying5 (hval 1 5 v1 rfl rfl) h1
  obtain ⟨a2, rfl, w2⟩ := open_byte Try.underlying5 (hval 2 5 v2 rfl rfl) h2
  exact walk a0 a1 a2 W w1 w2

theorem proved : Rows.SetRowsSaid :=
  OpenClaim.holds_of_wide 4 Try.f4 rfl rfl rfl rfl rfl rfl rfl ⟨rfl, rfl, rfl, rfl, rfl⟩ rfl rfl rfl rfl rfl (by kernel_rfl) Try.func4 (by kernel_rfl)
    (of_decide_eq_true (by kernel_rfl)) (by unfold Func.isWrapper; first | (rw [if_pos (by decide +kernel)]; kernel_rfl) | (rw [if_neg (by decide +kernel)]; exact ⟨rfl, rfl⟩))
    (fun os started H enc _ => lifted os started H enc)
#print axioms proved
end Go.Proofs.Ytbjgkolldmplkaa.SetRows
