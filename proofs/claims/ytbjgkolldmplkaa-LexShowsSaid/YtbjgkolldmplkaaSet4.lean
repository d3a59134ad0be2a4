/- The walks of the references Of and Span of layer 1. -/
import Derived.Test.YtbjgkolldmplkaaSet3
import Derived.Laws.MakeOwn
namespace Go.Proofs.Ytbjgkolldmplkaa
open Go.RowKit Go.Sort

/-- A row of 256 answers. -/
def bRow (m : Nat → Bool) : List Bool := (List.range 256).map m

theorem bRow_length (m : Nat → Bool) : (bRow m).length = 256 := by simp [bRow]

theorem bRow_get (m : Nat → Bool) (b : Nat) (h : b < 256) : (bRow m)[b]? = some (m b) := by simp [bRow, h]

theorem sBools_bRow (m : Nat → Bool) (i : Nat) (hi : i < 4) : word (sBools (bRow m)) i = word m i :=
  word_ext fun k hk => by
    unfold sBools
    rw [List.getD_eq_getElem?_getD, bRow_get m _ (by omega)]
    rfl

/-- The same, as cells. -/
def bCells (m : Nat → Bool) : Array Value := (boolVals (bRow m)).toArray

theorem bCells_set (m : Nat → Bool) (b : Nat) : (bCells m).setIfInBounds b (.bool true) = bCells (sIns m b) := by
  unfold bCells boolVals bRow sIns
  simp only [List.map_map]
  rw [List.setIfInBounds_toArray]
  congr 1
  apply List.ext_getElem?
  intro j
  rw [List.getElem?_set]
  by_cases hj : b = j
  · subst hj
    by_cases h : b < 256 <;> simp [h]
  · have h2 : (j == b) = false := by rw [beq_eq_false_iff_ne]; exact fun e => hj e.symm
    by_cases h : j < 256 <;> simp [h, hj, h2]

theorem bCells_size (m : Nat → Bool) : (bCells m).size = 256 := by simp [bCells, boolVals, bRow]

theorem bCells_get (m : Nat → Bool) (b : Nat) (h : b < 256) : (bCells m)[b]? = some (.bool (m b)) := by
  simp [bCells, boolVals, bRow, h]

theorem reads_blk {w : World} {B : Nat} {T : TypeId} {xs : List Value} (h : Blk w B T xs.toArray) : Reads w w.heap.size 1 (some ⟨B, 0, none⟩) xs.length xs := by
  refine ⟨by simp, fun _ => ⟨_, rfl, h.lt, fun j u hu => ?_⟩⟩
  rw [show (⟨B, 0, none⟩ : Addr).add j = ⟨B, j, none⟩ from by unfold Addr.add; split <;> simp_all, h.cell j]
  simpa using hu

theorem bool_info : (Try.prog.info? 4).map (fun i => (i.zero, i.size, i.bytes)) = some (some (.bool false), 1, 1) := by kernel_rfl

theorem made256 (W : World) : (Instr.makeSlice 56 (.int .i64 256) (.int .i64 256)).run Try.prog W = .ok (.slice (some ⟨W.heap.size, 0, none⟩) 256 256) (W.alloc (.cells (bCells sNone) 4)) := by
  obtain ⟨i0, hi0, hz0, hz1, hz2⟩ := info_parts bool_info
  have hr := run_make (P := Try.prog) W 56 4 i0 _ Try.underlying56 hi0 hz0 .i64 .i64 256 256 (by omega) (by omega) (by rw [hz2]; decide) (by decide)
  rw [hr, hz1]
  have e : madeCells (Value.bool false).cells (Int.toNat 256 * 1) = bCells sNone := by kernel_rfl
  rw [e]
  rfl

set_option maxRecDepth 100000 in
set_option maxHeartbeats 1000000 in
theorem rof_any (A : Option Addr) (n c B : Nat) (l : List Nat) (w : World) (HR0 : Reads w B 1 A n (byteVals l)) (hB : B ≤ w.heap.size) (hl : ∀ b ∈ l, b < 256) (hc : n ≤ c) (hm : c ≤ maxLen) :
    Calls Try.prog 12 #[.slice A n c] w (Gives (.agg #[.int .u64 ((word ((sOf l)) 0 : Nat) : Int), .int .u64 ((word ((sOf l)) 1 : Nat) : Int), .int .u64 ((word ((sOf l)) 2 : Nat) : Int), .int .u64 ((word ((sOf l)) 3 : Nat) : Int)]) w) := by
  have HR := HR0.more hB
  clear HR0
  have hn := HR.1
  simp [byteVals] at hn
  subst hn
  unfold maxLen at hm
  have HL := Lib.hid hl
  clear hl
  have hmk := made256
  go_enter Try.func12, Try.ntmps12
  go_wp2
  go_loopw [4] (fun i wr => ∃ k : Nat, k ≤ l.length ∧ i = .int .i64 k ∧ Blk wr (w.heap.size + 1) 4 (bCells (sOf (l.take k))) ∧
    Blk wr w.heap.size 25 #[.int .u64 0, .int .u64 0, .int .u64 0, .int .u64 0] ∧ Below w.heap.size w wr) (fun i _ => l.length - (intOf i).toNat)
  case atStart =>
    refine ⟨0, by omega, rfl, ?_, ?_, (((Below.refl _ _).alloc (Nat.le_refl _) _).alloc (by simp) _)⟩
    · have := Blk.new (w.alloc (.cells #[.int .u64 0, .int .u64 0, .int .u64 0, .int .u64 0] 25)) 4 (bCells sNone)
      simp only [World.size_alloc] at this
      exact this
    · exact (Blk.new w _ _).alloc _
  case round =>
    obtain ⟨k, hk, rfl, hb0, hb2, HB⟩ := hrel
    clear hmk
    by_cases hlt : k < l.length
    · obtain ⟨ad, rfl, hck⟩ := byte_cell (HR.below HB) k hlt
      have hlk := HL.out _ (List.getElem_mem hlt)
      have e1 : l.take (k + 1) = l.take k ++ [l[k]] := List.take_succ_eq_append_getElem hlt
      generalize l[k] = b at *
      have c0 := (hb0.cell b).trans (bCells_get _ b hlk)
      have f0 := hb0.frozen b
      have E1 := Lib.hid e1
      clear e1
      go_wp2
      go_roundw
      case rel =>
        refine ⟨k + 1, by omega, by go_num, ?_, (hb2.far (p := ⟨w.heap.size + 1, b, none⟩) (by simp) _), (HB.setCell (p := ⟨w.heap.size + 1, b, none⟩) (by simp) _)⟩
        rw [E1.out, sOf_snoc, ← bCells_set]
        exact hb0.set_ b _
      case measure => simp [intOf]; omega
    · have e1 : l.take k = l := List.take_of_length_le (by omega)
      rw [e1] at hb0
      have HM := make_any (some ⟨w.heap.size + 1, 0, none⟩) 256 256 wr.heap.size (bRow (sOf l)) wr (by have := reads_blk (xs := boolVals (bRow (sOf l))) hb0; simpa [boolVals, bRow] using this) (Nat.le_refl _) (bRow_length _) (Nat.le_refl _) (by decide)
      rw [sBools_bRow _ 0 (by decide), sBools_bRow _ 1 (by decide), sBools_bRow _ 2 (by decide), sBools_bRow _ 3 (by decide)] at HM
      have HMH := Lib.hid HM
      clear HM
      go_wp2_with fail
      refine HMH.out.mono ?_; rintro e w2 ⟨rfl, HB2⟩
      have hb4 := hb2.below HB2 hb2.lt
      have g0 := hb4.cell 0
      have g1 := hb4.cell 1
      have g2 := hb4.cell 2
      have g3 := hb4.cell 3
      have f0 := hb4.frozen 0
      have f1 := hb4.frozen 1
      have f2 := hb4.frozen 2
      have f3 := hb4.frozen 3
      simp at g0 g1 g2 g3
      have HB3 := below_then HB HB2
      go_wp2
      exact bodyPost_ret (v := .agg #[.int .u64 ((word ((sOf l)) 0 : Nat) : Int), .int .u64 ((word ((sOf l)) 1 : Nat) : Int), .int .u64 ((word ((sOf l)) 2 : Nat) : Int), .int .u64 ((word ((sOf l)) 3 : Nat) : Int)]) (by simp [results, Try.results12, go_sem, g0, g1, g2, g3]) rfl
        ⟨rfl, (((HB3.setCell (p := ⟨w.heap.size, 0, none⟩) (by simp) _).setCell (p := ⟨w.heap.size, 1, none⟩) (by simp) _).setCell (p := ⟨w.heap.size, 2, none⟩) (by simp) _).setCell (p := ⟨w.heap.size, 3, none⟩) (by simp) _⟩

set_option maxRecDepth 100000 in
set_option maxHeartbeats 1000000 in
theorem rspan_any (f t : Nat) (w : World) (hf : f < 256) (ht : t < 256) :
    Calls Try.prog 14 #[.int .u8 f, .int .u8 t] w (Gives (.agg #[.int .u64 ((word ((sSpan f t)) 0 : Nat) : Int), .int .u64 ((word ((sSpan f t)) 1 : Nat) : Int), .int .u64 ((word ((sSpan f t)) 2 : Nat) : Int), .int .u64 ((word ((sSpan f t)) 3 : Nat) : Int)]) w) := by
  have hmk := made256
  go_enter Try.func14, Try.ntmps14
  go_wp2
  go_loopw [6] (fun i wr => ∃ k : Nat, k ≤ t + 1 - f ∧ i = .int .i64 ((f + k : Nat) : Int) ∧ Blk wr (w.heap.size + 1) 4 (bCells (sRun f k)) ∧
    Blk wr w.heap.size 25 #[.int .u64 0, .int .u64 0, .int .u64 0, .int .u64 0] ∧ Below w.heap.size w wr) (fun i _ => t + 1 - (intOf i).toNat)
  case atStart =>
    refine ⟨0, by omega, rfl, ?_, ?_, (((Below.refl _ _).alloc (Nat.le_refl _) _).alloc (by simp) _)⟩
    · have e : sRun f 0 = sNone := by funext b; simp only [sRun, sNone]; rw [Bool.and_eq_false_iff]; simp; omega
      rw [e]
      have := Blk.new (w.alloc (.cells #[.int .u64 0, .int .u64 0, .int .u64 0, .int .u64 0] 25)) 4 (bCells sNone)
      simp only [World.size_alloc] at this
      exact this
    · exact (Blk.new w _ _).alloc _
  case round =>
    obtain ⟨k, hk, rfl, hb0, hb2, HB⟩ := hrel
    clear hmk
    by_cases hlt : f + k ≤ t
    · have hs := sRun_succ f k
      have E1 := Lib.hid hs
      clear hs
      have hj : k + 1 ≤ t + 1 - f := by omega
      have hx : ((f + (k + 1) : Nat) : Int) = ((f + k : Nat) : Int) + 1 := by omega
      have EX := Lib.hid hx
      clear hx hk
      obtain ⟨b, eb⟩ : ∃ b, f + k = b := ⟨_, rfl⟩
      have EB := Lib.hid eb
      rw [eb] at hlt ⊢
      clear eb
      have c0 := (hb0.cell b).trans (bCells_get _ b (by omega))
      have f0 := hb0.frozen b
      go_wp2
      go_roundw
      case rel =>
        refine ⟨k + 1, hj, by rw [EX.out, EB.out], ?_, (hb2.far (p := ⟨w.heap.size + 1, b, none⟩) (by simp) _), (HB.setCell (p := ⟨w.heap.size + 1, b, none⟩) (by simp) _)⟩
        rw [E1.out, EB.out, ← bCells_set]
        exact hb0.set_ b _
      case measure => simp [intOf]; omega
    · have e1 : k = t + 1 - f := by omega
      subst e1
      rw [sRun_span] at hb0
      generalize f + (t + 1 - f) = b at *
      have HM := make_any (some ⟨w.heap.size + 1, 0, none⟩) 256 256 wr.heap.size (bRow (sSpan f t)) wr (by have := reads_blk (xs := boolVals (bRow (sSpan f t))) hb0; simpa [boolVals, bRow] using this) (Nat.le_refl _) (bRow_length _) (Nat.le_refl _) (by decide)
      rw [sBools_bRow _ 0 (by decide), sBools_bRow _ 1 (by decide), sBools_bRow _ 2 (by decide), sBools_bRow _ 3 (by decide)] at HM
      have HMH := Lib.hid HM
      clear HM
      go_wp2_with fail
      refine HMH.out.mono ?_; rintro e w2 ⟨rfl, HB2⟩
      have hb4 := hb2.below HB2 hb2.lt
      have g0 := hb4.cell 0
      have g1 := hb4.cell 1
      have g2 := hb4.cell 2
      have g3 := hb4.cell 3
      have f0 := hb4.frozen 0
      have f1 := hb4.frozen 1
      have f2 := hb4.frozen 2
      have f3 := hb4.frozen 3
      simp at g0 g1 g2 g3
      have HB3 := below_then HB HB2
      go_wp2
      exact bodyPost_ret (v := .agg #[.int .u64 ((word ((sSpan f t)) 0 : Nat) : Int), .int .u64 ((word ((sSpan f t)) 1 : Nat) : Int), .int .u64 ((word ((sSpan f t)) 2 : Nat) : Int), .int .u64 ((word ((sSpan f t)) 3 : Nat) : Int)]) (by simp [results, Try.results14, go_sem, g0, g1, g2, g3]) rfl
        ⟨rfl, (((HB3.setCell (p := ⟨w.heap.size, 0, none⟩) (by simp) _).setCell (p := ⟨w.heap.size, 1, none⟩) (by simp) _).setCell (p := ⟨w.heap.size, 2, none⟩) (by simp) _).setCell (p := ⟨w.heap.size, 3, none⟩) (by simp) _⟩

end Go.Proofs.Ytbjgkolldmplkaa
