/- SetLaws returns true for every input, and each argument reads behind the call as it did before. Conditions: none beyond the row's own. -/
import Derived.Test.YtbjgkolldmplkaaSet6
import Derived.Test.YtbjgkolldmplkaaOnes
import Derived.Test.YtbjgkolldmplkaaLawSet
namespace Go.Proofs.Ytbjgkolldmplkaa.SetLaws
open Go.ChangeShapes Go.WideShapes Go.ChangeAt Go.RowKit Go.Sort

/-- What lies behind the two arguments' boxes. -/
def LB (w : World) (m k : Nat → Bool) (W : World) : Prop :=
  Blk W w.heap.size 25 (sCells m) ∧ Blk W (w.heap.size + 1) 25 (sCells k) ∧ Below w.heap.size w W

theorem LB.new (w : World) (m k : Nat → Bool) : LB w m k ((w.alloc (.cells #[.int .u64 ((word m 0 : Nat) : Int), .int .u64 ((word m 1 : Nat) : Int), .int .u64 ((word m 2 : Nat) : Int), .int .u64 ((word m 3 : Nat) : Int)] 25)).alloc (.cells #[.int .u64 ((word k 0 : Nat) : Int), .int .u64 ((word k 1 : Nat) : Int), .int .u64 ((word k 2 : Nat) : Int), .int .u64 ((word k 3 : Nat) : Int)] 25)) := by
  refine ⟨(Blk.new w _ _).alloc _, ?_, ((Below.refl _ _).alloc (Nat.le_refl _) _).alloc (by simp) _⟩
  have := new_blk (w.alloc (.cells (sCells m) 25)) k 25
  simp only [World.size_alloc] at this
  exact this

theorem LB.call {w : World} {m k : Nat → Bool} {W W1 : World} (h : LB w m k W) (hb : Below W.heap.size W W1) : LB w m k W1 :=
  ⟨h.1.below hb h.1.lt, h.2.1.below hb h.2.1.lt, h.2.2.trans (hb.mono h.2.2.size)⟩

theorem LB.alloc {w : World} {m k : Nat → Bool} {W : World} (h : LB w m k W) (o : Obj) : LB w m k (W.alloc o) :=
  ⟨h.1.alloc _, h.2.1.alloc _, h.2.2.alloc h.2.2.size _⟩

set_option maxHeartbeats 8000000 in
theorem walkOn (m k : Nat → Bool) (x y p q r z : Nat) (w : World)
    (h1 : ∀ W, Calls Try.prog 22 #[.agg #[.int .u64 ((word ((sBoth m k)) 0 : Nat) : Int), .int .u64 ((word ((sBoth m k)) 1 : Nat) : Int), .int .u64 ((word ((sBoth m k)) 2 : Nat) : Int), .int .u64 ((word ((sBoth m k)) 3 : Nat) : Int)]] W (Gives (.int .i64 (x : Int)) W))
    (h2 : ∀ W, Calls Try.prog 22 #[.agg #[.int .u64 ((word ((sAny m k)) 0 : Nat) : Int), .int .u64 ((word ((sAny m k)) 1 : Nat) : Int), .int .u64 ((word ((sAny m k)) 2 : Nat) : Int), .int .u64 ((word ((sAny m k)) 3 : Nat) : Int)]] W (Gives (.int .i64 (y : Int)) W))
    (h3 : ∀ W, Calls Try.prog 22 #[.agg #[.int .u64 ((word m 0 : Nat) : Int), .int .u64 ((word m 1 : Nat) : Int), .int .u64 ((word m 2 : Nat) : Int), .int .u64 ((word m 3 : Nat) : Int)]] W (Gives (.int .i64 (p : Int)) W))
    (h4 : ∀ W, Calls Try.prog 22 #[.agg #[.int .u64 ((word k 0 : Nat) : Int), .int .u64 ((word k 1 : Nat) : Int), .int .u64 ((word k 2 : Nat) : Int), .int .u64 ((word k 3 : Nat) : Int)]] W (Gives (.int .i64 (q : Int)) W))
    (h5 : ∀ W, Calls Try.prog 22 #[.agg #[.int .u64 ((word ((sNot m)) 0 : Nat) : Int), .int .u64 ((word ((sNot m)) 1 : Nat) : Int), .int .u64 ((word ((sNot m)) 2 : Nat) : Int), .int .u64 ((word ((sNot m)) 3 : Nat) : Int)]] W (Gives (.int .i64 (r : Int)) W))
    (hw1 : IntKind.i64.wrap ((x : Int) + (y : Int)) = (z : Int)) (hw2 : IntKind.i64.wrap ((p : Int) + (q : Int)) = (z : Int)) (hw3 : IntKind.i64.wrap ((p : Int) + (r : Int)) = 256)
    (hq1 : ∀ W, (binOp .eql 25 (.agg #[.int .u64 ((word ((sNot (sNot m))) 0 : Nat) : Int), .int .u64 ((word ((sNot (sNot m))) 1 : Nat) : Int), .int .u64 ((word ((sNot (sNot m))) 2 : Nat) : Int), .int .u64 ((word ((sNot (sNot m))) 3 : Nat) : Int)]) (.agg #[.int .u64 ((word m 0 : Nat) : Int), .int .u64 ((word m 1 : Nat) : Int), .int .u64 ((word m 2 : Nat) : Int), .int .u64 ((word m 3 : Nat) : Int)])).run Try.prog W = .ok (.bool true) W)
    (hq2 : ∀ W, (binOp .eql 25 (.agg #[.int .u64 ((word ((sNot (sAny m k))) 0 : Nat) : Int), .int .u64 ((word ((sNot (sAny m k))) 1 : Nat) : Int), .int .u64 ((word ((sNot (sAny m k))) 2 : Nat) : Int), .int .u64 ((word ((sNot (sAny m k))) 3 : Nat) : Int)]) (.agg #[.int .u64 ((word ((sBoth (sNot m) (sNot k))) 0 : Nat) : Int), .int .u64 ((word ((sBoth (sNot m) (sNot k))) 1 : Nat) : Int), .int .u64 ((word ((sBoth (sNot m) (sNot k))) 2 : Nat) : Int), .int .u64 ((word ((sBoth (sNot m) (sNot k))) 3 : Nat) : Int)])).run Try.prog W = .ok (.bool true) W)
    (hq3 : ∀ W, (binOp .eql 25 (.agg #[.int .u64 ((word ((sLess m k)) 0 : Nat) : Int), .int .u64 ((word ((sLess m k)) 1 : Nat) : Int), .int .u64 ((word ((sLess m k)) 2 : Nat) : Int), .int .u64 ((word ((sLess m k)) 3 : Nat) : Int)]) (.agg #[.int .u64 ((word ((sBoth m (sNot k))) 0 : Nat) : Int), .int .u64 ((word ((sBoth m (sNot k))) 1 : Nat) : Int), .int .u64 ((word ((sBoth m (sNot k))) 2 : Nat) : Int), .int .u64 ((word ((sBoth m (sNot k))) 3 : Nat) : Int)])).run Try.prog W = .ok (.bool true) W) :
    Calls Try.prog 5 #[.agg #[.int .u64 ((word m 0 : Nat) : Int), .int .u64 ((word m 1 : Nat) : Int), .int .u64 ((word m 2 : Nat) : Int), .int .u64 ((word m 3 : Nat) : Int)], .agg #[.int .u64 ((word k 0 : Nat) : Int), .int .u64 ((word k 1 : Nat) : Int), .int .u64 ((word k 2 : Nat) : Int), .int .u64 ((word k 3 : Nat) : Int)]] w (Gives (.bool true) w) := by
  have hD0 := LB.new w m k
  obtain ⟨c0, c1, c2, c3⟩ := hD0.1.cells4
  obtain ⟨d0, d1, d2, d3⟩ := hD0.2.1.cells4
  go_enter Try.func5, Try.ntmps5
  go_wp2_with fail
  refine (not_any m _).mono ?_; rintro e w1 ⟨rfl, HB1⟩
  have hD1 := (LB.call (by exact hD0) HB1).alloc (.cells #[.int .u64 ((word ((sNot m)) 0 : Nat) : Int), .int .u64 ((word ((sNot m)) 1 : Nat) : Int), .int .u64 ((word ((sNot m)) 2 : Nat) : Int), .int .u64 ((word ((sNot m)) 3 : Nat) : Int)] 25)
  have k1 := new_blk w1 (sNot m) 25
  obtain ⟨e0, e1, e2, e3⟩ := hD1.2.1.cells4
  go_wp2_with fail
  refine (not_any k _).mono ?_; rintro e w2 ⟨rfl, HB2⟩
  have hD2 := (LB.call (by exact hD1) HB2).alloc (.cells #[.int .u64 ((word ((sNot k)) 0 : Nat) : Int), .int .u64 ((word ((sNot k)) 1 : Nat) : Int), .int .u64 ((word ((sNot k)) 2 : Nat) : Int), .int .u64 ((word ((sNot k)) 3 : Nat) : Int)] 25)
  have k2 := (Blk.below (by exact k1) HB2 k1.lt).alloc (.cells #[.int .u64 ((word ((sNot k)) 0 : Nat) : Int), .int .u64 ((word ((sNot k)) 1 : Nat) : Int), .int .u64 ((word ((sNot k)) 2 : Nat) : Int), .int .u64 ((word ((sNot k)) 3 : Nat) : Int)] 25)
  have n2 := new_blk w2 (sNot k) 25
  clear c0 c1 c2 c3 d0 d1 d2 d3 e0 e1 e2 e3
  go_wp2
  obtain ⟨c0, c1, c2, c3⟩ := hD2.1.cells4
  obtain ⟨d0, d1, d2, d3⟩ := hD2.2.1.cells4
  obtain ⟨e0, e1, e2, e3⟩ := k2.cells4
  obtain ⟨f0, f1, f2, f3⟩ := n2.cells4
  have c0' := cell_regrown c0
  have c1' := cell_regrown c1
  have c2' := cell_regrown c2
  have c3' := cell_regrown c3
  have d0' := cell_regrown d0
  have d1' := cell_regrown d1
  have d2' := cell_regrown d2
  have d3' := cell_regrown d3
  have e0' := cell_regrown e0
  have e1' := cell_regrown e1
  have e2' := cell_regrown e2
  have e3' := cell_regrown e3
  have f0' := cell_regrown f0
  have f1' := cell_regrown f1
  have f2' := cell_regrown f2
  have f3' := cell_regrown f3
  clear c0 c1 c2 c3 d0 d1 d2 d3 e0 e1 e2 e3 f0 f1 f2 f3
  refine wp_region_quiet_below (by kernel_rfl) (by kernel_rfl) ?_
  repeat (go_big_quiet_step ((first
    | (go_at_call 19; exact gives_quiet (not_any _ _))
    | (go_at_call 18; exact gives_quiet (any_any _ _ _))
    | (go_at_call 20; exact gives_quiet (both_any _ _ _))
    | (go_at_call 21; exact gives_quiet (less_any _ _ _)))))
  refine wpQuiet_nil ?_
  intro w5 hw5
  have HB5 := below_of hw5
  have hD5 := LB.call (by exact hD2) HB5
  have k5 := Blk.below (by exact k2) HB5 k2.lt
  clear hw5 c0' c1' c2' c3' d0' d1' d2' d3' e0' e1' e2' e3' f0' f1' f2' f3' hq1 hq2 hq3
  obtain ⟨c0, c1, c2, c3⟩ := hD5.1.cells4
  obtain ⟨d0, d1, d2, d3⟩ := hD5.2.1.cells4
  obtain ⟨e0, e1, e2, e3⟩ := k5.cells4
  have c0' := cell_regrown c0
  have c1' := cell_regrown c1
  have c2' := cell_regrown c2
  have c3' := cell_regrown c3
  have d0' := cell_regrown d0
  have d1' := cell_regrown d1
  have d2' := cell_regrown d2
  have d3' := cell_regrown d3
  have e0' := cell_regrown e0
  have e1' := cell_regrown e1
  have e2' := cell_regrown e2
  have e3' := cell_regrown e3
  clear c0 c1 c2 c3 d0 d1 d2 d3 e0 e1 e2 e3
  go_wp2
  refine wp_region_quiet_below (by kernel_rfl) (by kernel_rfl) ?_
  repeat (go_big_quiet_step ((first
    | (go_at_call 10; exact gives_quiet (awake1_any _))
    | (go_at_call 18; exact gives_quiet (any_any _ _ _))
    | (go_at_call 20; exact gives_quiet (both_any _ _ _))
    | (go_at_call 22; with_reducible exact gives_quiet (h1 _))
    | (go_at_call 22; with_reducible exact gives_quiet (h2 _))
    | (go_at_call 22; with_reducible exact gives_quiet (h3 _))
    | (go_at_call 22; with_reducible exact gives_quiet (h4 _))
    | (go_at_call 22; with_reducible exact gives_quiet (h5 _)))))
  refine wpQuiet_nil ?_
  intro w6 hw6
  have HB6 := below_of hw6
  have hD6 := LB.call (by exact hD5) HB6
  clear hw6 c0' c1' c2' c3' d0' d1' d2' d3' e0' e1' e2' e3' hw1 hw2 hw3
  go_wp2
  go_ret
  exact ⟨rfl, hD6.2.2⟩

theorem eq_words (m k : Nat → Bool) (h : m = k) (W : World) : (binOp .eql 25 (.agg #[.int .u64 ((word m 0 : Nat) : Int), .int .u64 ((word m 1 : Nat) : Int), .int .u64 ((word m 2 : Nat) : Int), .int .u64 ((word m 3 : Nat) : Int)]) (.agg #[.int .u64 ((word k 0 : Nat) : Int), .int .u64 ((word k 1 : Nat) : Int), .int .u64 ((word k 2 : Nat) : Int), .int .u64 ((word k 3 : Nat) : Int)])).run Try.prog W = .ok (.bool true) W := by
  subst h
  rw [eql_words]; simp

theorem walk (m k : Nat → Bool) (w : World) :
    Calls Try.prog 5 #[.agg #[.int .u64 ((word m 0 : Nat) : Int), .int .u64 ((word m 1 : Nat) : Int), .int .u64 ((word m 2 : Nat) : Int), .int .u64 ((word m 3 : Nat) : Int)], .agg #[.int .u64 ((word k 0 : Nat) : Int), .int .u64 ((word k 1 : Nat) : Int), .int .u64 ((word k 2 : Nat) : Int), .int .u64 ((word k 3 : Nat) : Int)]] w (Gives (.bool true) w) := by
  have e1 := cnt_two m k 256
  have e2 := cnt_not m 256
  have b1 := cnt_le m 256
  have b2 := cnt_le k 256
  refine walkOn m k _ _ _ _ _ (sSize m + sSize k) w (size_any (sBoth m k)) (size_any (sAny m k)) (size_any m) (size_any k) (size_any (sNot m)) ?_ ?_ ?_ (eq_words _ _ ?_) (eq_words _ _ ?_) (eq_words _ _ ?_)
  · have : sSize (sBoth m k) + sSize (sAny m k) = sSize m + sSize k := e1
    have b1 : sSize m ≤ 256 := b1
    have b2 : sSize k ≤ 256 := b2
    rw [← Int.natCast_add, this]
    exact IntWalk.i64_in _ (by omega)
  · have b1 : sSize m ≤ 256 := b1
    have b2 : sSize k ≤ 256 := b2
    rw [← Int.natCast_add]
    exact IntWalk.i64_in _ (by omega)
  · have : sSize m + sSize (sNot m) = 256 := e2
    rw [← Int.natCast_add, this]
    rfl
  · funext b; simp [sNot]
  · funext b; simp [sNot, sAny, sBoth]
  · funext b; simp [sNot, sLess, sBoth]

set_option maxRecDepth 100000 in
theorem lifted (os : Os) (started : os.Started) (H : Type) (enc : TypeId × Value → H) :
    ReturnsInHanded {} Try.checked os 5 .any (Rows.setLawsSpec.pre6 enc Try.prog Try.f5 Rows.setLawsRow.domain false) (Rows.setLawsSpec.post enc Try.prog Try.f5 false true false false) := by
  refine law_lifted (C := Try.checked) (tb := 4) ownNone started (by kernel_rfl) Try.func5 laidOut rfl ?_ rfl Try.underlying4 (by kernel_rfl)
    (ChangeSpec.witness6 (enc := enc) (C := Try.checked) false ⟨#[], #[.agg #[.int .u64 0, .int .u64 0, .int .u64 0, .int .u64 0], .agg #[.int .u64 0, .int .u64 0, .int .u64 0, .int .u64 0]], []⟩ 8 (by kernel_rfl) (by kernel_rfl) (by kernel_rfl) (by kernel_rfl)) ?_
  · intro ds hl
    match ds, hl with
    | [_, _], _ => rfl
  intro W base args ds before hval0 hA0 hlt hsz0
  have hval : ∀ (j : Nat) t v, Try.f5.params[j]? = some t → args[j]? = some v → Value.okWide Try.prog W .any base t v := hval0
  have hA : DataW.TrodAll enc Try.prog W 0 (fun _ => true) true Try.f5.params.toList args.toList ds before := hA0
  have hsz : (DataW.weightsEach Try.prog Try.f5.params.toList ds).all (· ≤ reachBytes) = true := hsz0
  rw [Try.params5] at hA hval hsz
  obtain ⟨v0, vs0, d0, ds0, p0, q0, hargs, rfl, rfl, h0, r0⟩ := trodAll_cons hA
  obtain ⟨v1, vs1, d1, ds1, p1, q1, rfl, rfl, rfl, h1, r1⟩ := trodAll_cons r0
  obtain ⟨rfl, rfl, rfl⟩ := trodAll_nil r1
  obtain rfl : args = #[v0, v1] := by cases args; simp_all
  obtain ⟨a0, rfl⟩ := open_set Try.underlying25 Try.underlying23 (by kernel_rfl) (by kernel_rfl) (hval 0 25 v0 rfl rfl) h0
  obtain ⟨a1, rfl⟩ := open_set Try.underlying25 Try.underlying23 (by kernel_rfl) (by kernel_rfl) (hval 1 25 v1 rfl rfl) h1
  exact walk a0 a1 W

theorem proved : Rows.SetLawsSaid :=
  OpenClaim.holds_of_wide 5 Try.f5 rfl rfl rfl rfl rfl rfl rfl ⟨rfl, rfl, rfl, rfl, rfl⟩ rfl rfl rfl rfl rfl (by kernel_rfl) Try.func5 (by kernel_rfl)
    (of_decide_eq_true (by kernel_rfl)) (by unfold Func.isWrapper; first | (rw [if_pos (by decide +kernel)]; kernel_rfl) | (rw [if_neg (by decide +kernel)]; exact ⟨rfl, rfl⟩))
    (fun os started H enc _ => lifted os started H enc)
#print axioms proved
end Go.Proofs.Ytbjgkolldmplkaa.SetLaws
