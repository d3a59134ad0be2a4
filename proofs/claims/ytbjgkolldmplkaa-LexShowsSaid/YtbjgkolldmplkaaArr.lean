/- '==' and '!=' between arrays of two bytes, of four words. -/
import Derived.Test.YtbjgkolldmplkaaSetW
import Derived.ChangeKeysEq
namespace Go.Proofs.Ytbjgkolldmplkaa
open Go.RowKit

theorem u8_info : (Try.prog.info? 5).isSome = true := by kernel_rfl
theorem u64_info : (Try.prog.info? 23).isSome = true := by kernel_rfl
theorem u8_cells : Try.prog.cellsOf 5 = 1 := by kernel_rfl
theorem u64_cells : Try.prog.cellsOf 23 = 1 := by kernel_rfl

theorem equalIn_int (w : World) (d : Nat) {t : TypeId} {k : IntKind} (ht : Try.prog.underlying t = some (.int k)) (a b : Int) :
    (Op.equalIn (d + 1) t (.int k a) (.int k b)).run Try.prog w = .ok (a == b) w := by
  simp [Op.equalIn, run_underlying ht]

theorem equalIn_pair (w : World) (d : Nat) (a b c e : Int) :
    (Op.equalIn (d + 2) 35 (.agg #[.int .u8 a, .int .u8 b]) (.agg #[.int .u8 c, .int .u8 e])).run Try.prog w = .ok (a == c && b == e) w := by
  obtain ⟨i, hi⟩ := Option.isSome_iff_exists.1 u8_info
  rw [run_equalIn_array w (d + 1) _ _ Try.underlying35 hi, u8_cells]
  have hr : List.range 2 = [0, 1] := rfl
  rw [hr]
  have p0 : ∀ x y : Int, (part 5 #[.int .u8 x, .int .u8 y] 0).run Try.prog w = .ok (.int .u8 x) w := fun x y => by kernel_rfl
  have p1 : ∀ x y : Int, (part 5 #[.int .u8 x, .int .u8 y] 1).run Try.prog w = .ok (.int .u8 y) w := fun x y => by kernel_rfl
  cases h0 : a == c <;> cases h1 : b == e <;> simp [Op.eqItems, p0, p1, equalIn_int w d Try.underlying5, h0, h1]

theorem eql_pair (w : World) (a b c e : Int) :
    (binOp .eql 35 (.agg #[.int .u8 a, .int .u8 b]) (.agg #[.int .u8 c, .int .u8 e])).run Try.prog w = .ok (.bool (a == c && b == e)) w := by
  simp only [binOp]
  simp [Op.equal, Op.maxDepth, equalIn_pair w 9998]

theorem neq_pair (w : World) (a b c e : Int) :
    (binOp .neq 35 (.agg #[.int .u8 a, .int .u8 b]) (.agg #[.int .u8 c, .int .u8 e])).run Try.prog w = .ok (.bool (!(a == c && b == e))) w := by
  simp only [binOp]
  simp [Op.equal, Op.maxDepth, equalIn_pair w 9998]

theorem equalIn_words (w : World) (d : Nat) {T : TypeId} (hT : Try.prog.underlying T = some (.array 4 23)) (a0 a1 a2 a3 b0 b1 b2 b3 : Int) :
    (Op.equalIn (d + 2) T (.agg #[.int .u64 a0, .int .u64 a1, .int .u64 a2, .int .u64 a3]) (.agg #[.int .u64 b0, .int .u64 b1, .int .u64 b2, .int .u64 b3])).run Try.prog w = .ok (a0 == b0 && (a1 == b1 && (a2 == b2 && a3 == b3))) w := by
  obtain ⟨i, hi⟩ := Option.isSome_iff_exists.1 u64_info
  rw [run_equalIn_array w (d + 1) _ _ hT hi, u64_cells]
  have hr : List.range 4 = [0, 1, 2, 3] := rfl
  rw [hr]
  have p0 : ∀ x y z u : Int, (part 23 #[.int .u64 x, .int .u64 y, .int .u64 z, .int .u64 u] 0).run Try.prog w = .ok (.int .u64 x) w := fun x y z u => by kernel_rfl
  have p1 : ∀ x y z u : Int, (part 23 #[.int .u64 x, .int .u64 y, .int .u64 z, .int .u64 u] 1).run Try.prog w = .ok (.int .u64 y) w := fun x y z u => by kernel_rfl
  have p2 : ∀ x y z u : Int, (part 23 #[.int .u64 x, .int .u64 y, .int .u64 z, .int .u64 u] 2).run Try.prog w = .ok (.int .u64 z) w := fun x y z u => by kernel_rfl
  have p3 : ∀ x y z u : Int, (part 23 #[.int .u64 x, .int .u64 y, .int .u64 z, .int .u64 u] 3).run Try.prog w = .ok (.int .u64 u) w := fun x y z u => by kernel_rfl
  cases h0 : a0 == b0 <;> cases h1 : a1 == b1 <;> cases h2 : a2 == b2 <;> cases h3 : a3 == b3 <;> simp [Op.eqItems, p0, p1, p2, p3, equalIn_int w d Try.underlying23, h0, h1, h2, h3]

theorem eql_words (w : World) (a0 a1 a2 a3 b0 b1 b2 b3 : Int) :
    (binOp .eql 25 (.agg #[.int .u64 a0, .int .u64 a1, .int .u64 a2, .int .u64 a3]) (.agg #[.int .u64 b0, .int .u64 b1, .int .u64 b2, .int .u64 b3])).run Try.prog w = .ok (.bool (a0 == b0 && (a1 == b1 && (a2 == b2 && a3 == b3)))) w := by
  simp only [binOp]
  simp [Op.equal, Op.maxDepth, equalIn_words w 9998 Try.underlying25]

theorem neq_words (w : World) (a0 a1 a2 a3 b0 b1 b2 b3 : Int) :
    (binOp .neq 25 (.agg #[.int .u64 a0, .int .u64 a1, .int .u64 a2, .int .u64 a3]) (.agg #[.int .u64 b0, .int .u64 b1, .int .u64 b2, .int .u64 b3])).run Try.prog w = .ok (.bool (!(a0 == b0 && (a1 == b1 && (a2 == b2 && a3 == b3))))) w := by
  simp only [binOp]
  simp [Op.equal, Op.maxDepth, equalIn_words w 9998 Try.underlying25]

end Go.Proofs.Ytbjgkolldmplkaa
