/- SpanThrough: the law. -/
import Derived.Test.YtgaboipigdkefaaSpanT2
import Derived.Test.YtgaboipigdkefaaSpanT3
import Derived.Test.YtgaboipigdkefaaLawSpan2
namespace Go.Proofs.Ytgaboipigdkefaa.SpanThrough
open Go.ChangeShapes Go.WideShapes Go.ChangeAt Go.RowKit Go.Sort

set_option maxHeartbeats 1000000 in
theorem walk_long (A : Option Addr) (n c : Nat) (N a b d : Int) (w : World) (h : (200 : Int) < n ∨ ((n : Int) ≤ 200 ∧ N < 0) ∨ ((n : Int) ≤ 200 ∧ 0 ≤ N ∧ 200 < N)) :
    Calls Try.prog 7 #[.slice A n c, .int .i64 a, .int .i64 b, .int .i64 d, .int .i64 N] w (Gives (.bool true) w) := by
  rcases h with h | ⟨h1, h⟩ | ⟨h1, h2, h⟩
  all_goals
    go_enter Try.func7, Try.ntmps7
    go_wp2
    go_ret
    exact ⟨rfl, Below.refl _ _⟩

theorem may_zero {n : Nat} {a b : Int} (h : may n a b = true) : 0 ≤ a ∧ a ≤ b ∧ b ≤ n := by
  unfold may at h
  simpa using h

theorem own_thr (n : Nat) (a b : Int) : thrV n (ownL n) a b = if may n a b then .tuple #[.agg #[.int .i64 (a), .int .i64 (b)], .int .i64 0] else .tuple #[.agg #[.int .i64 (0), .int .i64 (0)], .int .i64 1] := by
  unfold thrV
  rw [ownL_length]
  cases h : may n a b
  · rw [if_neg (by simp), if_neg (by simp)]
  · rw [if_pos ⟨by omega, mays_own n n (Nat.le_refl _), rfl⟩, if_pos rfl]
    obtain ⟨i, j, rfl, rfl, hij, hj⟩ := may_nat h
    by_cases hlt : i < j
    · rw [if_pos (by omega)]
      simp only [Int.toNat_natCast]
      exact allV_own n i j hlt hj
    · rw [if_neg (by omega)]
      simp only [Int.toNat_natCast]
      have e : atOf (ownL n) i = i := by
        unfold atOf
        rw [ownL_length]
        by_cases h0 : 0 < i
        · rw [if_pos h0, List.getD_eq_getElem?_getD, ownL_get n (i - 1) (by omega)]
          simp
          omega
        · rw [if_neg h0]
          split
          · rw [List.getD_eq_getElem?_getD, ownL_get n 0 (by omega)]
            simp
            omega
          · omega
      rw [e, show ((j : Nat) : Int) = i by omega]

theorem thr_form (N : Int) (l : List (Int × Int)) (a b : Int) : ∃ x y e, thrV N l a b = .tuple #[.agg #[.int .i64 (x), .int .i64 (y)], .int .i64 e] ∧ (e = 0 → 0 ≤ N ∧ mays N l = true ∧ may l.length a b = true) := by
  unfold thrV
  split
  · rename_i h
    split
    · obtain ⟨x, y, e, he⟩ := allV_form ((l.drop a.toNat).take (b.toNat - a.toNat))
      exact ⟨x, y, e, he, fun _ => h⟩
    · exact ⟨_, _, _, rfl, fun _ => h⟩
  · exact ⟨_, _, _, rfl, fun h => by simp at h⟩

theorem allV_app (l m : List (Int × Int)) (hl : l ≠ []) (hm : m ≠ []) {a1 a2 ea b1 b2 eb : Int} (h1 : allV l = .tuple #[.agg #[.int .i64 (a1), .int .i64 (a2)], .int .i64 ea]) (h2 : allV m = .tuple #[.agg #[.int .i64 (b1), .int .i64 (b2)], .int .i64 eb]) :
    allV (l ++ m) = .tuple #[.agg #[.int .i64 (min a1 b1), .int .i64 (max a2 b2)], .int .i64 0] := by
  cases l with
  | nil => exact absurd rfl hl
  | cons p l =>
    cases m with
    | nil => exact absurd rfl hm
    | cons q m =>
      simp only [allV, Value.tuple.injEq, Array.mk.injEq, List.cons.injEq, Value.agg.injEq, Value.int.injEq, true_and, and_true] at h1 h2
      rw [List.cons_append, show allV (p :: (l ++ q :: m)) = .tuple #[.agg #[.int .i64 ((hullL p (l ++ q :: m)).1), .int .i64 ((hullL p (l ++ q :: m)).2)], .int .i64 0] from rfl, hullL_two, h1.1.1, h1.1.2, h2.1.1, h2.1.2]

theorem thr_law (N : Int) (l : List (Int × Int)) (f m t a1 a2 b1 b2 c1 c2 ec : Int) (h1 : thrV N l f m = .tuple #[.agg #[.int .i64 (a1), .int .i64 (a2)], .int .i64 0]) (h2 : thrV N l m t = .tuple #[.agg #[.int .i64 (b1), .int .i64 (b2)], .int .i64 0]) (h3 : thrV N l f t = .tuple #[.agg #[.int .i64 (c1), .int .i64 (c2)], .int .i64 ec])
    (hf : f < m) (ht : m < t) (k1 : 0 ≤ N ∧ mays N l = true ∧ may l.length f m = true) (k2 : 0 ≤ N ∧ mays N l = true ∧ may l.length m t = true) : ec = 0 ∧ min a1 b1 = c1 ∧ max a2 b2 = c2 := by
  have m1 := may_zero k1.2.2
  have m2 := may_zero k2.2.2
  have k3 : 0 ≤ N ∧ mays N l = true ∧ may l.length f t = true := ⟨k1.1, k1.2.1, by unfold may; simp; omega⟩
  unfold thrV at h1 h2 h3
  rw [if_pos k1, if_pos hf] at h1
  rw [if_pos k2, if_pos ht] at h2
  rw [if_pos k3, if_pos (by omega)] at h3
  obtain ⟨i, rfl⟩ := Int.eq_ofNat_of_zero_le m1.1
  obtain ⟨j, rfl⟩ := Int.eq_ofNat_of_zero_le m2.1
  obtain ⟨k, rfl⟩ := Int.eq_ofNat_of_zero_le (show 0 ≤ t by omega)
  simp only [Int.toNat_natCast] at h1 h2 h3
  have e : (l.drop i).take (k - i) = (l.drop i).take (j - i) ++ (l.drop j).take (k - j) := by
    rw [show k - i = (j - i) + (k - j) by omega, List.take_add, List.drop_drop, show i + (j - i) = j by omega]
  rw [e, allV_app _ _ (fun h => by have := congrArg List.length h; simp at this; omega) (fun h => by have := congrArg List.length h; simp at this; omega) h1 h2] at h3
  simp only [Value.tuple.injEq, Array.mk.injEq, List.cons.injEq, Value.agg.injEq, Value.int.injEq, true_and, and_true] at h3
  exact ⟨h3.2.symm, h3.1.1, h3.1.2⟩

theorem walk (A : Option Addr) (c : Nat) (l : List (Int × Int)) (f m t N : Int) (w : World) (HR : Reads w w.heap.size 2 A l.length (spanVals l)) (hc : l.length ≤ c) (hm : c ≤ maxLen) :
    Calls Try.prog 7 #[.slice A l.length c, .int .i64 f, .int .i64 m, .int .i64 t, .int .i64 N] w (Gives (.bool true) w) := by
  by_cases hs : (200 : Int) < l.length ∨ ((l.length : Int) ≤ 200 ∧ N < 0) ∨ ((l.length : Int) ≤ 200 ∧ 0 ≤ N ∧ 200 < N)
  · exact walk_long A _ c N f m t w hs
  · obtain ⟨n, rfl⟩ := Int.eq_ofNat_of_zero_le (show 0 ≤ N by omega)
    obtain ⟨x1, x2, ex, hX, hX0⟩ : ∃ x1 x2 ex : Int, thrV n (ownL n) f t = .tuple #[.agg #[.int .i64 (x1), .int .i64 (x2)], .int .i64 ex] ∧
        (((∀ W, (binOp .neq 35 (.agg #[.int .i64 (x1), .int .i64 (x2)]) (.agg #[.int .i64 (f), .int .i64 (t)])).run Try.prog W = .ok (.bool false) W) ∧ ex = 0 ∧ (if may n f t then (0 : Int) else 1) = 0) ∨ (ex = 1 ∧ (if may n f t then (0 : Int) else 1) = 1)) := by
      rw [own_thr]
      cases may n f t
      · exact ⟨_, _, _, rfl, .inr ⟨rfl, rfl⟩⟩
      · exact ⟨_, _, _, rfl, .inl ⟨fun W => by rw [span_neq]; simp, rfl, rfl⟩⟩
    obtain ⟨a1, a2, ea, hA, kA⟩ := thr_form n l f m
    obtain ⟨b1, b2, eb, hB, kB⟩ := thr_form n l m t
    obtain ⟨c1, c2, ec, hC, kC⟩ := thr_form n l f t
    have HO : ∀ W A' c', Reads W W.heap.size 2 A' n (spanVals (ownL n)) → n ≤ c' → c' ≤ maxLen → Calls Try.prog 18 #[.slice A' n c', .agg #[.int .i64 (f), .int .i64 (t)], .int .i64 n] W (Gives (.tuple #[.agg #[.int .i64 (x1), .int .i64 (x2)], .int .i64 ex]) W) := fun W A' c' hr h1 h2 => by
      rw [← hX]; exact thr_any n A' n c' _ (ownL n) f t W hr (Nat.le_refl _) h1 h2
    have HT : ∀ a b W, Below w.heap.size w W → Calls Try.prog 18 #[.slice A l.length c, .agg #[.int .i64 (a), .int .i64 (b)], .int .i64 n] W (Gives (thrV n l a b) W) := fun a b W hW =>
      thr_any n A l.length c _ l a b W (HR.below hW) hW.size hc hm
    have HC : ∀ W, Calls Try.prog 19 #[.agg #[.int .i64 (f), .int .i64 (t)], .int .i64 n] W (Gives (.int .i64 (if may n f t then 0 else 1)) W) := fun W => check_any n f t W
    have H1 := fun W h => hA ▸ HT f m W h
    have H2 := fun W h => hB ▸ HT m t W h
    have H3 := fun W h => hC ▸ HT f t W h
    by_cases hea : ea = 0
    · by_cases heb : eb = 0
      · subst hea heb
        by_cases hf : f < m
        · by_cases ht : m < t
          · obtain ⟨rfl, e1, e2⟩ := thr_law n l f m t a1 a2 b1 b2 c1 c2 ec hA hB hC hf ht (kA rfl) (kB rfl)
            exact walk_pass A _ c n f m t x1 x2 ex _ a1 a2 b1 b2 c1 c2 w (by omega) (by omega) hc hm HO HC H1 H2 H3 hX0 hf ht e1 e2
          · exact walk_stop A _ c n f m t x1 x2 ex _ a1 a2 0 b1 b2 0 c1 c2 ec w (by omega) (by omega) hc hm HO HC H1 H2 H3 hX0 (.inr (.inr (.inr ⟨rfl, rfl, hf, by omega⟩)))
        · exact walk_stop A _ c n f m t x1 x2 ex _ a1 a2 0 b1 b2 0 c1 c2 ec w (by omega) (by omega) hc hm HO HC H1 H2 H3 hX0 (.inr (.inr (.inl ⟨rfl, rfl, by omega⟩)))
      · subst hea
        exact walk_stop A _ c n f m t x1 x2 ex _ a1 a2 0 b1 b2 eb c1 c2 ec w (by omega) (by omega) hc hm HO HC H1 H2 H3 hX0 (.inr (.inl ⟨rfl, beq_eq_false_iff_ne.2 heb, heb⟩))
    · exact walk_stop A _ c n f m t x1 x2 ex _ a1 a2 ea b1 b2 eb c1 c2 ec w (by omega) (by omega) hc hm HO HC H1 H2 H3 hX0 (.inl ⟨beq_eq_false_iff_ne.2 hea, hea⟩)

set_option maxRecDepth 100000 in
theorem lifted (os : Os) (started : os.Started) (H : Type) (enc : TypeId × Value → H) :
    ReturnsInHanded {} Try.checked os 7 .any (Rows.spanThroughSpec.pre6 enc Try.prog Try.f7 Rows.spanThroughRow.domain false) (Rows.spanThroughSpec.post enc Try.prog Try.f7 false true false false) := by
  refine law_lifted (C := Try.checked) (tb := 4) ownNone started (by kernel_rfl) Try.func7 laidOut rfl ?_ rfl Try.underlying4 (by kernel_rfl)
    (ChangeSpec.witness6 (enc := enc) (C := Try.checked) false ⟨#[], #[.slice none 0 0, .int .i64 0, .int .i64 0, .int .i64 0, .int .i64 0], []⟩ 8 (by kernel_rfl) (by kernel_rfl) (by kernel_rfl) (by kernel_rfl)) ?_
  · intro ds hl
    match ds, hl with
    | [_, _, _, _, _], _ => rfl
  intro W base args ds before hval0 hA0 hlt hsz0
  have hval : ∀ (j : Nat) t v, Try.f7.params[j]? = some t → args[j]? = some v → Value.okWide Try.prog W .any base t v := hval0
  have hA : DataW.TrodAll enc Try.prog W 0 (fun _ => true) true Try.f7.params.toList args.toList ds before := hA0
  have hsz : (DataW.weightsEach Try.prog Try.f7.params.toList ds).all (· ≤ reachBytes) = true := hsz0
  rw [Try.params7] at hA hval hsz
  obtain ⟨v0, vs0, d0, ds0, p0, q0, hargs, rfl, rfl, h0, r0⟩ := trodAll_cons hA
  obtain ⟨v1, vs1, d1, ds1, p1, q1, rfl, rfl, rfl, h1, r1⟩ := trodAll_cons r0
  obtain ⟨v2, vs2, d2, ds2, p2, q2, rfl, rfl, rfl, h2, r2⟩ := trodAll_cons r1
  obtain ⟨v3, vs3, d3, ds3, p3, q3, rfl, rfl, rfl, h3, r3⟩ := trodAll_cons r2
  obtain ⟨v4, vs4, d4, ds4, p4, q4, rfl, rfl, rfl, h4, r4⟩ := trodAll_cons r3
  obtain ⟨rfl, rfl, rfl⟩ := trodAll_nil r4
  obtain rfl : args = #[v0, v1, v2, v3, v4] := by cases args; simp_all
  obtain ⟨A0, c0, l0, rfl, R0, k0, m0⟩ := open_spans Try.underlying38 Try.underlying35 Try.underlying3 ⟨rfl, rfl⟩ (by kernel_rfl) (by kernel_rfl) (hval 0 38 v0 rfl rfl) h0 (fun x hx => hlt x (by simp [hx]))
  obtain ⟨a1, rfl, rfl, rfl, w1⟩ := open_int Try.underlying3 (hval 1 3 v1 rfl rfl) h1
  obtain ⟨a2, rfl, rfl, rfl, w2⟩ := open_int Try.underlying3 (hval 2 3 v2 rfl rfl) h2
  obtain ⟨a3, rfl, rfl, rfl, w3⟩ := open_int Try.underlying3 (hval 3 3 v3 rfl rfl) h3
  obtain ⟨a4, rfl, rfl, rfl, w4⟩ := open_int Try.underlying3 (hval 4 3 v4 rfl rfl) h4
  exact walk A0 c0 l0 a1 a2 a3 a4 W R0 k0 m0

theorem proved : Rows.SpanThroughSaid :=
  OpenClaim.holds_of_wide 7 Try.f7 rfl rfl rfl rfl rfl rfl rfl ⟨rfl, rfl, rfl, rfl, rfl⟩ rfl rfl rfl rfl rfl (by kernel_rfl) Try.func7 (by kernel_rfl)
    (of_decide_eq_true (by kernel_rfl)) (by unfold Func.isWrapper; first | (rw [if_pos (by decide +kernel)]; kernel_rfl) | (rw [if_neg (by decide +kernel)]; exact ⟨rfl, rfl⟩))
    (fun os started H enc _ => lifted os started H enc)
#print axioms proved
end Go.Proofs.Ytgaboipigdkefaa.SpanThrough
