/- SpanHull: the walk of the law, and the law. -/
import Derived.Test.YtgaboipigdkefaaSpan5
import Derived.Test.YtgaboipigdkefaaLawSpan
namespace Go.Proofs.Ytgaboipigdkefaa.SpanHull
open Go.ChangeShapes Go.WideShapes Go.ChangeAt Go.RowKit Go.Sort

theorem span_self (a b : Int) (W : World) : (binOp .eql 35 (.agg #[.int .i64 (a), .int .i64 (b)]) (.agg #[.int .i64 (a), .int .i64 (b)])).run Try.prog W = .ok (.bool true) W := by
  rw [span_eql]; simp

set_option maxHeartbeats 8000000 in
theorem walkOn (a b c d e f h1 h2 : Int) (w : World) (i1 : h1 ≤ a) (i2 : h1 ≤ c) (i3 : b ≤ h2) (i4 : d ≤ h2)
    (j1 : (h1 == a) = true ∨ (h1 == a) = false ∧ (h1 == c) = true) (j2 : (h2 == b) = true ∨ (h2 == b) = false ∧ (h2 == d) = true)
    (H1 : ∀ W, Calls Try.prog 16 #[.agg #[.int .i64 (a), .int .i64 (b)], .agg #[.int .i64 (c), .int .i64 (d)]] W (Gives (.agg #[.int .i64 (h1), .int .i64 (h2)]) W))
    (hq1 : ∀ W, (binOp .eql 35 (.agg #[.int .i64 (min c a), .int .i64 (max d b)]) (.agg #[.int .i64 (h1), .int .i64 (h2)])).run Try.prog W = .ok (.bool true) W)
    (hq2 : ∀ W, (binOp .eql 35 (.agg #[.int .i64 (min a a), .int .i64 (max b b)]) (.agg #[.int .i64 (a), .int .i64 (b)])).run Try.prog W = .ok (.bool true) W)
    (hq3 : ∀ W, (binOp .eql 35 (.agg #[.int .i64 (min h1 e), .int .i64 (max h2 f)]) (.agg #[.int .i64 (min a (min c e)), .int .i64 (max b (max d f))])).run Try.prog W = .ok (.bool true) W) :
    Calls Try.prog 6 #[.agg #[.int .i64 (a), .int .i64 (b)], .agg #[.int .i64 (c), .int .i64 (d)], .agg #[.int .i64 (e), .int .i64 (f)]] w (Gives (.bool true) w) := by
  have hb3 := ((Blk.new w 35 #[.int .i64 a, .int .i64 b]).alloc (.cells #[.int .i64 c, .int .i64 d] 35)).alloc (.cells #[.int .i64 e, .int .i64 f] 35)
  have hb4 := (Blk.new (w.alloc (.cells #[.int .i64 a, .int .i64 b] 35)) 35 #[.int .i64 c, .int .i64 d]).alloc (.cells #[.int .i64 e, .int .i64 f] 35)
  have hb5 := Blk.new ((w.alloc (.cells #[.int .i64 a, .int .i64 b] 35)).alloc (.cells #[.int .i64 c, .int .i64 d] 35)) 35 #[.int .i64 e, .int .i64 f]
  have hq4 := span_self a b
  simp only [World.size_alloc] at hb4 hb5
  rcases j1 with j1 | ⟨j1, j1'⟩ <;> rcases j2 with j2 | ⟨j2, j2'⟩
  all_goals
  go_enter Try.func6, Try.ntmps6
  go_wp2_with (go_at_call 16; refine (H1 _).mono ?_; rintro e w1 ⟨rfl, HB1⟩; have hc3 := (hb3.below HB1 hb3.lt).alloc (.cells #[.int .i64 h1, .int .i64 h2] 35); have hc4 := (hb4.below HB1 hb4.lt).alloc (.cells #[.int .i64 h1, .int .i64 h2] 35); have hc5 := (hb5.below HB1 hb5.lt).alloc (.cells #[.int .i64 h1, .int .i64 h2] 35); have hc7 := Blk.new w1 35 #[.int .i64 h1, .int .i64 h2]; obtain ⟨x0, x1⟩ := hc3.cells2; obtain ⟨y0, y1⟩ := hc4.cells2; obtain ⟨z0, z1⟩ := hc5.cells2; obtain ⟨v0, v1⟩ := hc7.cells2)
  have x0' := cell_regrown x0
  have x1' := cell_regrown x1
  have y0' := cell_regrown y0
  have y1' := cell_regrown y1
  have z0' := cell_regrown z0
  have z1' := cell_regrown z1
  have v0' := cell_regrown v0
  have v1' := cell_regrown v1
  clear x0 x1 y0 y1 z0 z1 v0 v1
  refine wp_region_quiet_below (by kernel_rfl) (by kernel_rfl) ?_
  repeat (go_big_quiet_step ((first
    | (go_at_call 17; exact gives_quiet (awake4_any _))
    | (go_at_call 16; exact gives_quiet (hull_any _ _ _ _ _)))))
  refine wpQuiet_nil ?_
  intro w5 hw5
  have HB5 := below_of5 hw5
  clear hw5 x0' x1' y0' y1' z0' z1' v0' v1' hq1 hq2 hq3 hq4
  go_wp2
  go_ret
  have hl := hb5.lt
  exact ⟨rfl, ((((Below.refl _ _).alloc (Nat.le_refl _) _).alloc (by simp) _).alloc (by simp; omega) _).trans ((HB1.mono (by simp; omega)).trans (((Below.refl _ _).alloc (by have := HB1.size; simp at this; omega) _).trans (HB5.mono (by have := HB1.size; simp at this; simp; omega))))⟩

theorem walk (a b c d e f : Int) (w : World) :
    Calls Try.prog 6 #[.agg #[.int .i64 (a), .int .i64 (b)], .agg #[.int .i64 (c), .int .i64 (d)], .agg #[.int .i64 (e), .int .i64 (f)]] w (Gives (.bool true) w) := by
  refine walkOn a b c d e f (min a c) (max b d) w (by omega) (by omega) (by omega) (by omega) ?_ ?_ (fun W => hull_any _ _ _ _ W) (fun W => ?_) (fun W => ?_) (fun W => ?_)
  · by_cases h : min a c = a
    · exact .inl (by simp [h])
    · exact .inr ⟨beq_eq_false_iff_ne.2 h, beq_iff_eq.2 (by omega)⟩
  · by_cases h : max b d = b
    · exact .inl (by simp [h])
    · exact .inr ⟨beq_eq_false_iff_ne.2 h, beq_iff_eq.2 (by omega)⟩
  · rw [span_eql, show min c a = min a c by omega, show max d b = max b d by omega]; simp
  · rw [span_eql, show min a a = a by omega, show max b b = b by omega]; simp
  · rw [span_eql, show min a (min c e) = min (min a c) e by omega, show max b (max d f) = max (max b d) f by omega]; simp

set_option maxRecDepth 100000 in
theorem lifted (os : Os) (started : os.Started) (H : Type) (enc : TypeId × Value → H) :
    ReturnsInHanded {} Try.checked os 6 .any (Rows.spanHullSpec.pre6 enc Try.prog Try.f6 Rows.spanHullRow.domain false) (Rows.spanHullSpec.post enc Try.prog Try.f6 false true false false) := by
  refine law_lifted (C := Try.checked) (tb := 4) ownNone started (by kernel_rfl) Try.func6 laidOut rfl ?_ rfl Try.underlying4 (by kernel_rfl)
    (ChangeSpec.witness6 (enc := enc) (C := Try.checked) false ⟨#[], #[.agg #[.int .i64 0, .int .i64 0], .agg #[.int .i64 0, .int .i64 0], .agg #[.int .i64 0, .int .i64 0]], []⟩ 8 (by kernel_rfl) (by kernel_rfl) (by kernel_rfl) (by kernel_rfl)) ?_
  · intro ds hl
    match ds, hl with
    | [_, _, _], _ => rfl
  intro W base args ds before hval0 hA0 hlt hsz0
  have hval : ∀ (j : Nat) t v, Try.f6.params[j]? = some t → args[j]? = some v → Value.okWide Try.prog W .any base t v := hval0
  have hA : DataW.TrodAll enc Try.prog W 0 (fun _ => true) true Try.f6.params.toList args.toList ds before := hA0
  have hsz : (DataW.weightsEach Try.prog Try.f6.params.toList ds).all (· ≤ reachBytes) = true := hsz0
  rw [Try.params6] at hA hval hsz
  obtain ⟨v0, vs0, d0, ds0, p0, q0, hargs, rfl, rfl, h0, r0⟩ := trodAll_cons hA
  obtain ⟨v1, vs1, d1, ds1, p1, q1, rfl, rfl, rfl, h1, r1⟩ := trodAll_cons r0
  obtain ⟨v2, vs2, d2, ds2, p2, q2, rfl, rfl, rfl, h2, r2⟩ := trodAll_cons r1
  obtain ⟨rfl, rfl, rfl⟩ := trodAll_nil r2
  obtain rfl : args = #[v0, v1, v2] := by cases args; simp_all
  obtain ⟨a0, b0, rfl, w0, u0⟩ := open_span Try.underlying35 Try.underlying3 ⟨rfl, rfl⟩ (by kernel_rfl) (by kernel_rfl) (hval 0 35 v0 rfl rfl) h0
  obtain ⟨a1, b1, rfl, w1, u1⟩ := open_span Try.underlying35 Try.underlying3 ⟨rfl, rfl⟩ (by kernel_rfl) (by kernel_rfl) (hval 1 35 v1 rfl rfl) h1
  obtain ⟨a2, b2, rfl, w2, u2⟩ := open_span Try.underlying35 Try.underlying3 ⟨rfl, rfl⟩ (by kernel_rfl) (by kernel_rfl) (hval 2 35 v2 rfl rfl) h2
  exact walk a0 b0 a1 b1 a2 b2 W

theorem proved : Rows.SpanHullSaid :=
  OpenClaim.holds_of_wide 6 Try.f6 rfl rfl rfl rfl rfl rfl rfl ⟨rfl, rfl, rfl, rfl, rfl⟩ rfl rfl rfl rfl rfl (by kernel_rfl) Try.func6 (by kernel_rfl)
    (of_decide_eq_true (by kernel_rfl)) (by unfold Func.isWrapper; first | (rw [if_pos (by decide +kernel)]; kernel_rfl) | (rw [if_neg (by decide +kernel)]; exact ⟨rfl, rfl⟩))
    (fun os started H enc _ => lifted os started H enc)
#print axioms proved
end Go.Proofs.Ytgaboipigdkefaa.SpanHull
