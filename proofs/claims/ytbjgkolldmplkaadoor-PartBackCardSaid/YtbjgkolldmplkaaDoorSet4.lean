/- The walks of the references Of and Span of layer 1. -/
import Derived.Test.YtbjgkolldmplkaaDoorSet3
import Derived.Laws.MakeOwn
namespace Go.Proofs.YtbjgkolldmplkaaDoor
open Go.RowKit Go.Sort

/-- A row of 256 answers. -/
def bRow (m : Nat → Bool) : List Bool := (List.range 256).map m

theorem bRow_length (m : Nat → Bool) : (bRow m).length = 256 := by simp [bRow]

theorem bRow_get (m : Nat → Bool) (b : Nat) (h : b < 256) : (bRow m)[b]? = some (m b) := by simp [bRow, h]

theorem sBools_bRow (m : Nat → Bool) (i : Nat) (hi : i < 4) : word (sBools (bRow m)) i = word m i :=
  word_ext fun k hk => by
    unfold sBools
    rw [List.getD_eq_getElem?_getD, bRow_get m _ (by omega)]
    rfl

/-- The same, as cells. -/
def bCells (m : Nat → Bool) : Array Value := (boolVals (bRow m)).toArray

theorem bCells_set (m : Nat → Bool) (b : Nat) : (bCells m).setIfInBounds b (.bool true) = bCells (sIns m b) := by
  unfold bCells boolVals bRow sIns
  simp only [List.map_map]
  rw [List.setIfInBounds_toArray]
  congr 1
  apply List.ext_getElem?
  intro j
  rw [List.getElem?_set]
  by_cases hj : b = j
  · subst hj
    by_cases h : b < 256 <;> simp [h]
  · have h2 : (j == b) = false := by rw [beq_eq_false_iff_ne]; exact fun e => hj e.symm
    by_cases h : j < 256 <;> simp [h, hj, h2]

theorem bCells_size (m : Nat → Bool) : (bCells m).size = 256 := by simp [bCells, boolVals, bRow]

theorem bCells_get (m : Nat → Bool) (b : Nat) (h : b < 256) : (bCells m)[b]? = some (.bool (m b)) := by
  simp [bCells, boolVals, bRow, h]

theorem reads_blk {w : World} {B : Nat} {T : TypeId} {xs : List Value} (h : Blk w B T xs.toArray) : Reads w w.heap.size 1 (some ⟨B, 0, none⟩) xs.length xs := by
  refine ⟨by simp, fun _ => ⟨_, rfl, h.lt, fun j u hu => ?_⟩⟩
  rw [show (⟨B, 0, none⟩ : Addr).add j = ⟨B, j, none⟩ from by unfold Addr.add; split <;> simp_all, h.cell j]
  simpa using hu

theorem bool_info : (Tryd.prog.info? 4).map (fun i => (i.zero, i.size, i.bytes)) = some (some (.bool false), 1, 1) := by kernel_rfl

theorem made256 (W : World) : (Instr.makeSlice 61 (.int .i64 256) (.int .i64 256)).run Tryd.prog W = .ok (.slice (some ⟨W.heap.size, 0, none⟩) 256 256) (W.alloc (.cells (bCells sNone) 4)) := by
  obtain ⟨i0, hi0, hz0, hz1, hz2⟩ := info_parts bool_info
  have hr := run_make (P := Tryd.prog) W 61 4 i0 _ Tryd.underlying61 hi0 hz0 .i64 .i64 256 256 (by omega) (by omega) (by rw [hz2]; decide) (by decide)
  rw [hr, hz1]
  have e : madeCells (Value.bool false).cells (Int.toNat 256 * 1) = bCells sNone := by kernel_rfl
  rw [e]
  rfl


end Go.Proofs.YtbjgkolldmplkaaDoor
