/- The walks of Hull, Check, Right, Rise's closure; '==' between spans. -/
import Derived.Test.YtgaboipigdkefaaKit
import Derived.Lib.MinMax
import Derived.Laws.StructEq
namespace Go.Proofs.Ytgaboipigdkefaa
open Go.RowKit Go.Sort

theorem int_u : Try.prog.underlying 3 = some (.int .i64) := Try.underlying3

theorem span_equal (w : World) (d : Nat) (a b c e : Int) :
    (Op.equalIn (d + 2) 35 (.agg #[.int .i64 (a), .int .i64 (b)]) (.agg #[.int .i64 (c), .int .i64 (e)])).run Try.prog w = .ok (a == c && b == e) w := by
  rw [run_equalIn_struct w (d + 1) _ _ _ (by kernel_rfl) (by kernel_rfl)]
  have hf : (Try.prog.fieldsOf 35).toList.map (fun f => (f.name, f.type, f.offset)) = [("From", 3, 0), ("To", 3, 1)] := by kernel_rfl
  rcases hx : (Try.prog.fieldsOf 35).toList with _ | ⟨f0, _ | ⟨f1, _ | ⟨f2, r⟩⟩⟩ <;> rw [hx] at hf <;> simp at hf
  ·
    obtain ⟨⟨n0, t0, o0⟩, n1, t1, o1⟩ := hf
    have p0 : ∀ x y : Int, (part 3 #[.int .i64 x, .int .i64 y] 0).run Try.prog w = .ok (.int .i64 x) w := fun x y => by kernel_rfl
    have p1 : ∀ x y : Int, (part 3 #[.int .i64 x, .int .i64 y] 1).run Try.prog w = .ok (.int .i64 y) w := fun x y => by kernel_rfl
    cases h0 : a == c <;> cases h1 : b == e <;> simp [Op.eqFields, n0, n1, t0, t1, o0, o1, p0, p1, run_equalIn_int w d _ _ _ _ _ int_u, h0, h1]

theorem span_eql (w : World) (a b c e : Int) :
    (binOp .eql 35 (.agg #[.int .i64 (a), .int .i64 (b)]) (.agg #[.int .i64 (c), .int .i64 (e)])).run Try.prog w = .ok (.bool (a == c && b == e)) w := by
  rw [run_eql_struct, span_equal w 9998]; rfl

theorem span_neq (w : World) (a b c e : Int) :
    (binOp .neq 35 (.agg #[.int .i64 (a), .int .i64 (b)]) (.agg #[.int .i64 (c), .int .i64 (e)])).run Try.prog w = .ok (.bool (!(a == c && b == e))) w := by
  rw [run_neq_struct, span_equal w 9998]; rfl

theorem Blk.cells2 {w : World} {g : Nat} {t : TypeId} {x y : Value} (h : Blk w g t #[x, y]) :
    w.cell? ⟨g, 0, none⟩ = some x ∧ w.cell? ⟨g, 1, none⟩ = some y := ⟨by rw [h.cell]; rfl, by rw [h.cell]; rfl⟩

set_option maxHeartbeats 1000000 in
theorem hull_any (a b c d : Int) (w : World) :
    Calls Try.prog 16 #[.agg #[.int .i64 (a), .int .i64 (b)], .agg #[.int .i64 (c), .int .i64 (d)]] w (Gives (.agg #[.int .i64 (min a c), .int .i64 (max b d)]) w) := by
  go_enter Try.func16, Try.ntmps16
  go_wp2
  exact bodyPost_ret (v := .agg #[.int .i64 (min a c), .int .i64 (max b d)]) (by simp [results, Try.results16, go_sem]) rfl ⟨rfl, (((Below.refl _ _).alloc (Nat.le_refl _) _).alloc (by simp) _).alloc (by simp; omega) _⟩

set_option maxHeartbeats 1000000 in
theorem rhull_any (a b c d : Int) (w : World) :
    Calls Try.prog 32 #[.agg #[.int .i64 (a), .int .i64 (b)], .agg #[.int .i64 (c), .int .i64 (d)]] w (Gives (.agg #[.int .i64 (min a c), .int .i64 (max b d)]) w) := by
  go_enter Try.func32, Try.ntmps32
  go_wp2
  exact bodyPost_ret (v := .agg #[.int .i64 (min a c), .int .i64 (max b d)]) (by simp [results, Try.results32, go_sem]) rfl ⟨rfl, (((Below.refl _ _).alloc (Nat.le_refl _) _).alloc (by simp) _).alloc (by simp; omega) _⟩

/-- May a span be, of a text of n bytes? -/
def may (n a b : Int) : Bool := decide (0 ≤ a) && (decide (a ≤ b) && decide (b ≤ n))

/-- The answer of Check. -/
def errOf (k : Bool) : Value := .int .i64 (if k then 0 else 1)

set_option maxHeartbeats 1000000 in
theorem check_any (n a b : Int) (w : World) :
    Calls Try.prog 19 #[.agg #[.int .i64 (a), .int .i64 (b)], .int .i64 n] w (Gives (errOf (may n a b)) w) := by
  by_cases h1 : a < 0
  · go_enter Try.func19, Try.ntmps19
    go_wp2
    go_ret
    exact ⟨by simp [errOf, may]; omega, (Below.refl _ _).alloc (Nat.le_refl _) _⟩
  · by_cases h2 : a > b
    · go_enter Try.func19, Try.ntmps19
      go_wp2
      go_ret
      exact ⟨by simp [errOf, may]; omega, (Below.refl _ _).alloc (Nat.le_refl _) _⟩
    · by_cases h3 : b > n
      · go_enter Try.func19, Try.ntmps19
        go_wp2
        go_ret
        exact ⟨by simp [errOf, may]; omega, (Below.refl _ _).alloc (Nat.le_refl _) _⟩
      · go_enter Try.func19, Try.ntmps19
        go_wp2
        go_ret
        exact ⟨by simp [errOf, may]; omega, (Below.refl _ _).alloc (Nat.le_refl _) _⟩

end Go.Proofs.Ytgaboipigdkefaa
