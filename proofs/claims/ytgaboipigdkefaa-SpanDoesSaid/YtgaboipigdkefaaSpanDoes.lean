/- SpanDoes returns true for every input, and each argument reads behind the call as it did before. Conditions: none beyond the row's own. -/
import Derived.Test.YtgaboipigdkefaaSpan12
import Derived.Test.YtgaboipigdkefaaSpanHull
import Derived.Test.YtgaboipigdkefaaLawSpan2
namespace Go.Proofs.Ytgaboipigdkefaa.SpanDoes
open Go.ChangeShapes Go.WideShapes Go.ChangeAt Go.RowKit Go.Sort

theorem walk_long (A : Option Addr) (n c : Nat) (a b d e N : Int) (w : World) (h : (200 : Int) < n) :
    Calls Try.prog 9 #[.slice A n c, .agg #[.int .i64 (a), .int .i64 (b)], .agg #[.int .i64 (d), .int .i64 (e)], .int .i64 N] w (Gives (.bool true) w) := by
  go_enter Try.func9, Try.ntmps9
  go_wp2
  go_ret
  exact ⟨rfl, ((Below.refl _ _).alloc (Nat.le_refl _) _).alloc (by simp) _⟩

/-- The six blocks of the walk. -/
def DoesB (w : World) (a b d e : Int) (W : World) : Prop :=
  Blk W w.heap.size 35 #[.int .i64 a, .int .i64 b] ∧ Blk W (w.heap.size + 1) 35 #[.int .i64 d, .int .i64 e] ∧ Below w.heap.size w W

theorem DoesB.new (w : World) (a b d e : Int) : DoesB w a b d e ((w.alloc (.cells #[.int .i64 a, .int .i64 b] 35)).alloc (.cells #[.int .i64 d, .int .i64 e] 35)) := by
  refine ⟨(Blk.new w _ _).alloc _, ?_, ((Below.refl _ _).alloc (Nat.le_refl _) _).alloc (by simp) _⟩
  have := Blk.new (w.alloc (.cells #[.int .i64 a, .int .i64 b] 35)) 35 #[.int .i64 d, .int .i64 e]
  simp only [World.size_alloc] at this
  exact this

theorem DoesB.call {w : World} {a b d e : Int} {W W1 : World} (h : DoesB w a b d e W) (hb : Below W.heap.size W W1) : DoesB w a b d e W1 :=
  ⟨h.1.below hb h.1.lt, h.2.1.below hb h.2.1.lt, h.2.2.trans (hb.mono h.2.2.size)⟩

theorem DoesB.alloc {w : World} {a b d e : Int} {W : World} (h : DoesB w a b d e W) (o : Obj) : DoesB w a b d e (W.alloc o) :=
  ⟨h.1.alloc _, h.2.1.alloc _, h.2.2.alloc h.2.2.size _⟩

set_option maxHeartbeats 8000000 in
theorem walkOn (A : Option Addr) (n c : Nat) (a b d e N x1 x2 ex y1 y2 ey er h1 h2 : Int) (mb rb : Bool) (w : World) (hn : (n : Int) ≤ 200)
    (HA : ∀ W, Below w.heap.size w W → Calls Try.prog 28 #[.slice A n c] W (Gives (.tuple #[.agg #[.int .i64 (x1), .int .i64 (x2)], .int .i64 ex]) W))
    (HA2 : ∀ W, Below w.heap.size w W → Calls Try.prog 29 #[.slice A n c] W (Gives (.tuple #[.agg #[.int .i64 (x1), .int .i64 (x2)], .int .i64 ex]) W))
    (HT : ∀ W, Below w.heap.size w W → Calls Try.prog 18 #[.slice A n c, .agg #[.int .i64 (a), .int .i64 (b)], .int .i64 N] W (Gives (.tuple #[.agg #[.int .i64 (y1), .int .i64 (y2)], .int .i64 ey]) W))
    (HT2 : ∀ W, Below w.heap.size w W → Calls Try.prog 30 #[.slice A n c, .agg #[.int .i64 (a), .int .i64 (b)], .int .i64 N] W (Gives (.tuple #[.agg #[.int .i64 (y1), .int .i64 (y2)], .int .i64 ey]) W))
    (HC : ∀ W, Calls Try.prog 19 #[.agg #[.int .i64 (a), .int .i64 (b)], .int .i64 N] W (Gives (.int .i64 er) W)) (her : (er == 0) = mb)
    (HR : ∀ W, Calls Try.prog 31 #[.agg #[.int .i64 (a), .int .i64 (b)], .int .i64 N] W (Gives (.bool mb) W))
    (HH : ∀ W, Calls Try.prog 16 #[.agg #[.int .i64 (a), .int .i64 (b)], .agg #[.int .i64 (d), .int .i64 (e)]] W (Gives (.agg #[.int .i64 (h1), .int .i64 (h2)]) W))
    (HH2 : ∀ W, Calls Try.prog 32 #[.agg #[.int .i64 (a), .int .i64 (b)], .agg #[.int .i64 (d), .int .i64 (e)]] W (Gives (.agg #[.int .i64 (h1), .int .i64 (h2)]) W))
    (HS : ∀ W, Below w.heap.size w W → Calls Try.prog 33 #[.slice A n c] W (Gives (.bool rb) W))
    (HS2 : ∀ W, Below w.heap.size w W → Calls Try.prog 34 #[.slice A n c] W (Gives (.bool rb) W)) :
    Calls Try.prog 9 #[.slice A n c, .agg #[.int .i64 (a), .int .i64 (b)], .agg #[.int .i64 (d), .int .i64 (e)], .int .i64 N] w (Gives (.bool true) w) := by
  have hD0 := DoesB.new w a b d e
  have hq1 := SpanHull.span_self x1 x2
  have hq2 := SpanHull.span_self y1 y2
  have hq3 := SpanHull.span_self h1 h2
  obtain ⟨p0, p1⟩ := hD0.1.cells2
  obtain ⟨r0, r1⟩ := hD0.2.1.cells2
  go_enter Try.func9, Try.ntmps9
  go_wp2_with (first
    | (go_at_call 28; refine (HA _ hD0.2.2).mono ?_; rintro e w1 ⟨rfl, HB1⟩; have hD1 := (hD0.call HB1).alloc (.cells #[.int .i64 x1, .int .i64 x2] 35); have k1 := Blk.new w1 35 #[.int .i64 x1, .int .i64 x2])
    | (go_at_call 29; refine (HA2 _ hD1.2.2).mono ?_; rintro e w2 ⟨rfl, HB2⟩; have hD2 := (hD1.call HB2).alloc (.cells #[.int .i64 x1, .int .i64 x2] 35); have k2 := (k1.below HB2 k1.lt).alloc (.cells #[.int .i64 x1, .int .i64 x2] 35); have m2 := Blk.new w2 35 #[.int .i64 x1, .int .i64 x2]; obtain ⟨p2, q2⟩ := hD2.1.cells2)
    | (go_at_call 18; refine (HT _ hD2.2.2).mono ?_; rintro e w3 ⟨rfl, HB3⟩; have hD3 := (hD2.call HB3).alloc (.cells #[.int .i64 y1, .int .i64 y2] 35); have k3 := (k2.below HB3 k2.lt).alloc (.cells #[.int .i64 y1, .int .i64 y2] 35); have m3 := (m2.below HB3 m2.lt).alloc (.cells #[.int .i64 y1, .int .i64 y2] 35); have n3 := Blk.new w3 35 #[.int .i64 y1, .int .i64 y2]; obtain ⟨p3, q3⟩ := hD3.1.cells2)
    | (go_at_call 30; refine (HT2 _ hD3.2.2).mono ?_; rintro e w4 ⟨rfl, HB4⟩; have hD4 := (hD3.call HB4).alloc (.cells #[.int .i64 y1, .int .i64 y2] 35); have k4 := (k3.below HB4 k3.lt).alloc (.cells #[.int .i64 y1, .int .i64 y2] 35); have m4 := (m3.below HB4 m3.lt).alloc (.cells #[.int .i64 y1, .int .i64 y2] 35); have n4 := (n3.below HB4 n3.lt).alloc (.cells #[.int .i64 y1, .int .i64 y2] 35); have o4 := Blk.new w4 35 #[.int .i64 y1, .int .i64 y2]; obtain ⟨p4, q4⟩ := hD4.1.cells2; obtain ⟨r4, s4⟩ := hD4.2.1.cells2))
  have p4' := cell_regrown p4
  have q4' := cell_regrown q4
  have r4' := cell_regrown r4
  have s4' := cell_regrown s4
  have L4 := hD4.2.2
  refine wp_region_quiet_below (by kernel_rfl) (by kernel_rfl) ?_
  repeat (go_big_quiet_step ((first
    | (go_at_call 19; exact gives_quiet (HC _))
    | (go_at_call 31; exact gives_quiet (HR _))
    | (go_at_call 16; exact gives_quiet (HH _))
    | (go_at_call 32; exact gives_quiet (HH2 _))
    | (go_at_call 33; exact gives_quiet (HS _ (L4.trans ((below_regrown _ _ _).mono L4.size))))
    | (go_at_call 34; exact gives_quiet (HS2 _ (L4.trans ((below_regrown _ _ _).mono L4.size)))))))
  refine wpQuiet_nil ?_
  intro w5 hw5
  have HB5 := below_of5 hw5
  have L5 := L4.trans (HB5.mono L4.size)
  have k5 := k4.below HB5 k4.lt
  have m5 := m4.below HB5 m4.lt
  have n5 := n4.below HB5 n4.lt
  have o5 := o4.below HB5 o4.lt
  clear hw5 p4' q4' r4' s4' p4 q4 r4 s4
  go_wp2_with (go_at_call 17; refine (awake4_any _).mono ?_; rintro e w6 ⟨rfl, HB6⟩; have L6 := L5.trans (HB6.mono L5.size); have k6 := k5.below HB6 k5.lt; have m6 := m5.below HB6 m5.lt; have n6 := n5.below HB6 n5.lt; have o6 := o5.below HB6 o5.lt; obtain ⟨a0, a1⟩ := k6.cells2; obtain ⟨b0, b1⟩ := m6.cells2; obtain ⟨c0, c1⟩ := n6.cells2; obtain ⟨d0, d1⟩ := o6.cells2)
  go_ret
  exact ⟨rfl, L6⟩

theorem thr_form (N : Int) (l : List (Int × Int)) (a b : Int) : ∃ x y e, thrV N l a b = .tuple #[.agg #[.int .i64 (x), .int .i64 (y)], .int .i64 e] := by
  unfold thrV
  split
  · split
    · obtain ⟨x, y, e, he⟩ := allV_form ((l.drop a.toNat).take (b.toNat - a.toNat))
      exact ⟨x, y, e, he⟩
    · exact ⟨_, _, _, rfl⟩
  · exact ⟨_, _, _, rfl⟩

theorem walk (A : Option Addr) (c : Nat) (l : List (Int × Int)) (a b d e N : Int) (w : World) (HR : Reads w w.heap.size 2 A l.length (spanVals l)) (hc : l.length ≤ c) (hm : c ≤ maxLen) :
    Calls Try.prog 9 #[.slice A l.length c, .agg #[.int .i64 (a), .int .i64 (b)], .agg #[.int .i64 (d), .int .i64 (e)], .int .i64 N] w (Gives (.bool true) w) := by
  by_cases hs : (200 : Int) < l.length
  · exact walk_long A _ c a b d e N w hs
  · obtain ⟨x1, x2, ex, hX⟩ := allV_form l
    obtain ⟨y1, y2, ey, hY⟩ := thr_form N l a b
    refine walkOn A _ c a b d e N x1 x2 ex y1 y2 ey (if may N a b then 0 else 1) (min a d) (max b e) (may N a b) (rises l) w (by omega) ?_ ?_ ?_ ?_ ?_ ?_ ?_ ?_ ?_ ?_ ?_
    · intro W hW
      rw [← hX]
      exact all_any A _ c _ l W (HR.below hW) hW.size hc hm
    · intro W hW
      rw [← hX]
      exact rall_any A _ c _ l W (HR.below hW) hW.size hc hm
    · intro W hW
      rw [← hY]
      exact thr_any N A _ c _ l a b W (HR.below hW) hW.size hc hm
    · intro W hW
      rw [← hY]
      exact rthr_any N A _ c _ l a b W (HR.below hW) hW.size hc hm
    · exact fun W => check_any N a b W
    · cases may N a b <;> rfl
    · exact fun W => right_any N a b W
    · exact fun W => hull_any a b d e W
    · exact fun W => rhull_any a b d e W
    · intro W hW
      exact rise_any A _ c _ l W (HR.below hW) hW.size hc hm
    · intro W hW
      exact rrise_any A _ c _ l W (HR.below hW) hW.size hc hm

set_option maxRecDepth 100000 in
theorem lifted (os : Os) (started : os.Started) (H : Type) (enc : TypeId × Value → H) :
    ReturnsInHanded {} Try.checked os 9 .any (Rows.spanDoesSpec.pre6 enc Try.prog Try.f9 Rows.spanDoesRow.domain false) (Rows.spanDoesSpec.post enc Try.prog Try.f9 false true false false) := by
  refine law_lifted (C := Try.checked) (tb := 4) ownNone started (by kernel_rfl) Try.func9 laidOut rfl ?_ rfl Try.underlying4 (by kernel_rfl)
    (ChangeSpec.witness6 (enc := enc) (C := Try.checked) false ⟨#[], #[.slice none 0 0, .agg #[.int .i64 0, .int .i64 0], .agg #[.int .i64 0, .int .i64 0], .int .i64 0], []⟩ 8 (by kernel_rfl) (by kernel_rfl) (by kernel_rfl) (by kernel_rfl)) ?_
  · intro ds hl
    match ds, hl with
    | [_, _, _, _], _ => rfl
  intro W base args ds before hval0 hA0 hlt hsz0
  have hval : ∀ (j : Nat) t v, Try.f9.params[j]? = some t → args[j]? = some v → Value.okWide Try.prog W .any base t v := hval0
  have hA : DataW.TrodAll enc Try.prog W 0 (fun _ => true) true Try.f9.params.toList args.toList ds before := hA0
  have hsz : (DataW.weightsEach Try.prog Try.f9.params.toList ds).all (· ≤ reachBytes) = true := hsz0
  rw [Try.params9] at hA hval hsz
  obtain ⟨v0, vs0, d0, ds0, p0, q0, hargs, rfl, rfl, h0, r0⟩ := trodAll_cons hA
  obtain ⟨v1, vs1, d1, ds1, p1, q1, rfl, rfl, rfl, h1, r1⟩ := trodAll_cons r0
  obtain ⟨v2, vs2, d2, ds2, p2, q2, rfl, rfl, rfl, h2, r2⟩ := trodAll_cons r1
  obtain ⟨v3, vs3, d3, ds3, p3, q3, rfl, rfl, rfl, h3, r3⟩ := trodAll_cons r2
  obtain ⟨rfl, rfl, rfl⟩ := trodAll_nil r3
  obtain rfl : args = #[v0, v1, v2, v3] := by cases args; simp_all
  obtain ⟨A0, c0, l0, rfl, R0, k0, m0⟩ := open_spans Try.underlying38 Try.underlying35 Try.underlying3 ⟨rfl, rfl⟩ (by kernel_rfl) (by kernel_rfl) (hval 0 38 v0 rfl rfl) h0 (fun x hx => hlt x (by simp [hx]))
  obtain ⟨a1, b1, rfl, w1, u1⟩ := open_span Try.underlying35 Try.underlying3 ⟨rfl, rfl⟩ (by kernel_rfl) (by kernel_rfl) (hval 1 35 v1 rfl rfl) h1
  obtain ⟨a2, b2, rfl, w2, u2⟩ := open_span Try.underlying35 Try.underlying3 ⟨rfl, rfl⟩ (by kernel_rfl) (by kernel_rfl) (hval 2 35 v2 rfl rfl) h2
  obtain ⟨a3, rfl, rfl, rfl, w3⟩ := open_int Try.underlying3 (hval 3 3 v3 rfl rfl) h3
  exact walk A0 c0 l0 a1 b1 a2 b2 a3 W R0 k0 m0

theorem proved : Rows.SpanDoesSaid :=
  OpenClaim.holds_of_wide 9 Try.f9 rfl rfl rfl rfl rfl rfl rfl ⟨rfl, rfl, rfl, rfl, rfl⟩ rfl rfl rfl rfl rfl (by kernel_rfl) Try.func9 (by kernel_rfl)
    (of_decide_eq_true (by kernel_rfl)) (by unfold Func.isWrapper; first | (rw [if_pos (by decide +kernel)]; kernel_rfl) | (rw [if_neg (by decide +kernel)]; exact ⟨rfl, rfl⟩))
    (fun os started H enc _ => lifted os started H enc)
#print axioms proved
end Go.Proofs.Ytgaboipigdkefaa.SpanDoes
