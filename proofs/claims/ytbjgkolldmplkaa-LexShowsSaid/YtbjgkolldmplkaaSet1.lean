/- The walks of package set. -/
import Derived.Test.YtbjgkolldmplkaaSetW
namespace Go.Proofs.Ytbjgkolldmplkaa
open Go.RowKit Go.Sort

theorem set_cell (w : World) (m : Nat → Bool) (T : TypeId) (i : Nat) (h : i < 4) :
    (w.alloc (.cells #[.int .u64 ((word m 0 : Nat) : Int), .int .u64 ((word m 1 : Nat) : Int), .int .u64 ((word m 2 : Nat) : Int), .int .u64 ((word m 3 : Nat) : Int)] T)).cell? ⟨w.heap.size, i, none⟩ = some (.int .u64 ((word m i : Nat) : Int)) := by
  rw [(Blk.new w T _).cell i]
  match i, h with
  | 0, _ => rfl
  | 1, _ => rfl
  | 2, _ => rfl
  | 3, _ => rfl

set_option maxHeartbeats 400000 in
theorem has_any (m : Nat → Bool) (b : Nat) (w : World) (hb : b < 256) :
    Calls Try.prog 15 #[.agg #[.int .u64 ((word m 0 : Nat) : Int), .int .u64 ((word m 1 : Nat) : Int), .int .u64 ((word m 2 : Nat) : Int), .int .u64 ((word m 3 : Nat) : Int)], .int .u8 b] w (Gives (.bool (m b)) w) := by
  have hc := set_cell w m 25 (b / 64) (by omega)
  go_enter Try.func15, Try.ntmps15
  go_wp2
  go_ret
  refine ⟨?_, (Below.refl _ _).alloc (Nat.le_refl _) _⟩
  simp [word_has]

theorem new_blk (w : World) (m : Nat → Bool) (T : TypeId) : Blk (w.alloc (.cells #[.int .u64 ((word m 0 : Nat) : Int), .int .u64 ((word m 1 : Nat) : Int), .int .u64 ((word m 2 : Nat) : Int), .int .u64 ((word m 3 : Nat) : Int)] T)) w.heap.size T (sCells m) := Blk.new w T _

theorem Blk.cells4 {w : World} {B : Nat} {T : TypeId} {m : Nat → Bool} (h : Blk w B T (sCells m)) :
    w.cell? ⟨B, 0, none⟩ = some (.int .u64 ((word m 0 : Nat) : Int)) ∧ w.cell? ⟨B, 1, none⟩ = some (.int .u64 ((word m 1 : Nat) : Int)) ∧ w.cell? ⟨B, 2, none⟩ = some (.int .u64 ((word m 2 : Nat) : Int)) ∧ w.cell? ⟨B, 3, none⟩ = some (.int .u64 ((word m 3 : Nat) : Int)) :=
  ⟨h.cell 0, h.cell 1, h.cell 2, h.cell 3⟩

theorem Blk.cellAt {w : World} {B : Nat} {T : TypeId} {m : Nat → Bool} (h : Blk w B T (sCells m)) (k : Nat) (hk : k < 4) :
    w.cell? ⟨B, k, none⟩ = some (.int .u64 ((word m k : Nat) : Int)) := (h.cell k).trans (sCells_get m k hk)

set_option maxHeartbeats 1000000 in
theorem any_any (m n : Nat → Bool) (w : World) :
    Calls Try.prog 18 #[.agg #[.int .u64 ((word m 0 : Nat) : Int), .int .u64 ((word m 1 : Nat) : Int), .int .u64 ((word m 2 : Nat) : Int), .int .u64 ((word m 3 : Nat) : Int)], .agg #[.int .u64 ((word n 0 : Nat) : Int), .int .u64 ((word n 1 : Nat) : Int), .int .u64 ((word n 2 : Nat) : Int), .int .u64 ((word n 3 : Nat) : Int)]] w (Gives (.agg #[.int .u64 ((word ((sAny m n)) 0 : Nat) : Int), .int .u64 ((word ((sAny m n)) 1 : Nat) : Int), .int .u64 ((word ((sAny m n)) 2 : Nat) : Int), .int .u64 ((word ((sAny m n)) 3 : Nat) : Int)]) w) := by
  go_enter Try.func18, Try.ntmps18
  go_wp2
  go_loopw [5, 6] (fun _ i wr => ∃ k : Nat, k ≤ 4 ∧ i = .int .i64 k ∧ Blk wr w.heap.size 25 (sCells (sMix (sAny m n) m k)) ∧ Blk wr (w.heap.size + 1) 25 (sCells n) ∧
    Blk wr (w.heap.size + 1 + 1) 25 #[.int .u64 0, .int .u64 0, .int .u64 0, .int .u64 0] ∧ Below w.heap.size w wr) (fun _ i _ => 4 - (intOf i).toNat)
  case atStart =>
    refine ⟨0, by omega, rfl, ?_, ?_, ?_, ((((Below.refl _ _).alloc (Nat.le_refl _) _).alloc (by simp) _).alloc (by simp; omega) _)⟩
    · have := ((new_blk w m 25).alloc (.cells (sCells n) 25)).alloc (.cells #[.int .u64 0, .int .u64 0, .int .u64 0, .int .u64 0] 25)
      rw [sCells_congr (m := sMix (sAny m n) m 0) (m' := m) (fun i _ => word_mix_zero _ _ i)]
      exact this
    · have := (Blk.new (w.alloc (.cells (sCells m) 25)) 25 (sCells n)).alloc (.cells #[.int .u64 0, .int .u64 0, .int .u64 0, .int .u64 0] 25)
      simp only [World.size_alloc] at this
      exact this
    · have := Blk.new ((w.alloc (.cells (sCells m) 25)).alloc (.cells (sCells n) 25)) 25 #[.int .u64 0, .int .u64 0, .int .u64 0, .int .u64 0]
      simp only [World.size_alloc] at this
      exact this
  case round =>
    obtain ⟨k, hk, rfl, hb0, hb1, hb2, HB⟩ := hrel
    by_cases hlt : k < 4
    · have c0 := hb0.cellAt k hlt
      have f0 := hb0.frozen k
      have c1 := hb1.cellAt k hlt
      rw [word_mix_ge _ _ _ _ (Nat.le_refl _)] at c0
      have hor := word_any m n k
      go_wp2
      go_region
      go_wp2
      go_roundw
      case rel =>
        refine ⟨k + 1, by omega, by go_num, ?_, (hb1.far (p := ⟨w.heap.size, k, none⟩) (by simp) _).drew, (hb2.far (p := ⟨w.heap.size, k, none⟩) (by simp; omega) _).drew, (HB.setCell (p := ⟨w.heap.size, k, none⟩) (Nat.le_refl _) _).drew⟩
        rw [← sCells_mix _ _ _ hlt]
        exact (hb0.set_ k _).drew
      case measure => simp [intOf]; omega
    · have hk4 : k = 4 := by omega
      subst hk4
      rw [sCells_congr (m := sMix (sAny m n) m 4) (m' := sAny m n) (fun i h => word_mix_lt _ _ _ i h)] at hb0
      obtain ⟨c0, c1, c2, c3⟩ := hb0.cells4
      have g0 := hb2.cell 0
      have g1 := hb2.cell 1
      have g2 := hb2.cell 2
      have g3 := hb2.cell 3
      have f0 := hb2.frozen 0
      have f1 := hb2.frozen 1
      have f2 := hb2.frozen 2
      have f3 := hb2.frozen 3
      simp at g0 g1 g2 g3
      go_wp2
      exact bodyPost_ret (v := .agg #[.int .u64 ((word ((sAny m n)) 0 : Nat) : Int), .int .u64 ((word ((sAny m n)) 1 : Nat) : Int), .int .u64 ((word ((sAny m n)) 2 : Nat) : Int), .int .u64 ((word ((sAny m n)) 3 : Nat) : Int)]) (by simp [results, Try.results18, go_sem, g0, g1, g2, g3]) rfl
        ⟨rfl, (((HB.setCell (p := ⟨w.heap.size + 1 + 1, 0, none⟩) (by simp; omega) _).setCell (p := ⟨w.heap.size + 1 + 1, 1, none⟩) (by simp; omega) _).setCell (p := ⟨w.heap.size + 1 + 1, 2, none⟩) (by simp; omega) _).setCell (p := ⟨w.heap.size + 1 + 1, 3, none⟩) (by simp; omega) _⟩

set_option maxHeartbeats 1000000 in
theorem both_any (m n : Nat → Bool) (w : World) :
    Calls Try.prog 20 #[.agg #[.int .u64 ((word m 0 : Nat) : Int), .int .u64 ((word m 1 : Nat) : Int), .int .u64 ((word m 2 : Nat) : Int), .int .u64 ((word m 3 : Nat) : Int)], .agg #[.int .u64 ((word n 0 : Nat) : Int), .int .u64 ((word n 1 : Nat) : Int), .int .u64 ((word n 2 : Nat) : Int), .int .u64 ((word n 3 : Nat) : Int)]] w (Gives (.agg #[.int .u64 ((word ((sBoth m n)) 0 : Nat) : Int), .int .u64 ((word ((sBoth m n)) 1 : Nat) : Int), .int .u64 ((word ((sBoth m n)) 2 : Nat) : Int), .int .u64 ((word ((sBoth m n)) 3 : Nat) : Int)]) w) := by
  go_enter Try.func20, Try.ntmps20
  go_wp2
  go_loopw [5, 6] (fun _ i wr => ∃ k : Nat, k ≤ 4 ∧ i = .int .i64 k ∧ Blk wr w.heap.size 25 (sCells (sMix (sBoth m n) m k)) ∧ Blk wr (w.heap.size + 1) 25 (sCells n) ∧
    Blk wr (w.heap.size + 1 + 1) 25 #[.int .u64 0, .int .u64 0, .int .u64 0, .int .u64 0] ∧ Below w.heap.size w wr) (fun _ i _ => 4 - (intOf i).toNat)
  case atStart =>
    refine ⟨0, by omega, rfl, ?_, ?_, ?_, ((((Below.refl _ _).alloc (Nat.le_refl _) _).alloc (by simp) _).alloc (by simp; omega) _)⟩
    · have := ((new_blk w m 25).alloc (.cells (sCells n) 25)).alloc (.cells #[.int .u64 0, .int .u64 0, .int .u64 0, .int .u64 0] 25)
      rw [sCells_congr (m := sMix (sBoth m n) m 0) (m' := m) (fun i _ => word_mix_zero _ _ i)]
      exact this
    · have := (Blk.new (w.alloc (.cells (sCells m) 25)) 25 (sCells n)).alloc (.cells #[.int .u64 0, .int .u64 0, .int .u64 0, .int .u64 0] 25)
      simp only [World.size_alloc] at this
      exact this
    · have := Blk.new ((w.alloc (.cells (sCells m) 25)).alloc (.cells (sCells n) 25)) 25 #[.int .u64 0, .int .u64 0, .int .u64 0, .int .u64 0]
      simp only [World.size_alloc] at this
      exact this
  case round =>
    obtain ⟨k, hk, rfl, hb0, hb1, hb2, HB⟩ := hrel
    by_cases hlt : k < 4
    · have c0 := hb0.cellAt k hlt
      have f0 := hb0.frozen k
      have c1 := hb1.cellAt k hlt
      rw [word_mix_ge _ _ _ _ (Nat.le_refl _)] at c0
      have hor := word_both m n k
      go_wp2
      go_region
      go_wp2
      go_roundw
      case rel =>
        refine ⟨k + 1, by omega, by go_num, ?_, (hb1.far (p := ⟨w.heap.size, k, none⟩) (by simp) _).drew, (hb2.far (p := ⟨w.heap.size, k, none⟩) (by simp; omega) _).drew, (HB.setCell (p := ⟨w.heap.size, k, none⟩) (Nat.le_refl _) _).drew⟩
        rw [← sCells_mix _ _ _ hlt]
        exact (hb0.set_ k _).drew
      case measure => simp [intOf]; omega
    · have hk4 : k = 4 := by omega
      subst hk4
      rw [sCells_congr (m := sMix (sBoth m n) m 4) (m' := sBoth m n) (fun i h => word_mix_lt _ _ _ i h)] at hb0
      obtain ⟨c0, c1, c2, c3⟩ := hb0.cells4
      have g0 := hb2.cell 0
      have g1 := hb2.cell 1
      have g2 := hb2.cell 2
      have g3 := hb2.cell 3
      have f0 := hb2.frozen 0
      have f1 := hb2.frozen 1
      have f2 := hb2.frozen 2
      have f3 := hb2.frozen 3
      simp at g0 g1 g2 g3
      go_wp2
      exact bodyPost_ret (v := .agg #[.int .u64 ((word ((sBoth m n)) 0 : Nat) : Int), .int .u64 ((word ((sBoth m n)) 1 : Nat) : Int), .int .u64 ((word ((sBoth m n)) 2 : Nat) : Int), .int .u64 ((word ((sBoth m n)) 3 : Nat) : Int)]) (by simp [results, Try.results20, go_sem, g0, g1, g2, g3]) rfl
        ⟨rfl, (((HB.setCell (p := ⟨w.heap.size + 1 + 1, 0, none⟩) (by simp; omega) _).setCell (p := ⟨w.heap.size + 1 + 1, 1, none⟩) (by simp; omega) _).setCell (p := ⟨w.heap.size + 1 + 1, 2, none⟩) (by simp; omega) _).setCell (p := ⟨w.heap.size + 1 + 1, 3, none⟩) (by simp; omega) _⟩

set_option maxHeartbeats 1000000 in
theorem less_any (m n : Nat → Bool) (w : World) :
    Calls Try.prog 21 #[.agg #[.int .u64 ((word m 0 : Nat) : Int), .int .u64 ((word m 1 : Nat) : Int), .int .u64 ((word m 2 : Nat) : Int), .int .u64 ((word m 3 : Nat) : Int)], .agg #[.int .u64 ((word n 0 : Nat) : Int), .int .u64 ((word n 1 : Nat) : Int), .int .u64 ((word n 2 : Nat) : Int), .int .u64 ((word n 3 : Nat) : Int)]] w (Gives (.agg #[.int .u64 ((word ((sLess m n)) 0 : Nat) : Int), .int .u64 ((word ((sLess m n)) 1 : Nat) : Int), .int .u64 ((word ((sLess m n)) 2 : Nat) : Int), .int .u64 ((word ((sLess m n)) 3 : Nat) : Int)]) w) := by
  go_enter Try.func21, Try.ntmps21
  go_wp2
  go_loopw [5, 6] (fun _ i wr => ∃ k : Nat, k ≤ 4 ∧ i = .int .i64 k ∧ Blk wr w.heap.size 25 (sCells (sMix (sLess m n) m k)) ∧ Blk wr (w.heap.size + 1) 25 (sCells n) ∧
    Blk wr (w.heap.size + 1 + 1) 25 #[.int .u64 0, .int .u64 0, .int .u64 0, .int .u64 0] ∧ Below w.heap.size w wr) (fun _ i _ => 4 - (intOf i).toNat)
  case atStart =>
    refine ⟨0, by omega, rfl, ?_, ?_, ?_, ((((Below.refl _ _).alloc (Nat.le_refl _) _).alloc (by simp) _).alloc (by simp; omega) _)⟩
    · have := ((new_blk w m 25).alloc (.cells (sCells n) 25)).alloc (.cells #[.int .u64 0, .int .u64 0, .int .u64 0, .int .u64 0] 25)
      rw [sCells_congr (m := sMix (sLess m n) m 0) (m' := m) (fun i _ => word_mix_zero _ _ i)]
      exact this
    · have := (Blk.new (w.alloc (.cells (sCells m) 25)) 25 (sCells n)).alloc (.cells #[.int .u64 0, .int .u64 0, .int .u64 0, .int .u64 0] 25)
      simp only [World.size_alloc] at this
      exact this
    · have := Blk.new ((w.alloc (.cells (sCells m) 25)).alloc (.cells (sCells n) 25)) 25 #[.int .u64 0, .int .u64 0, .int .u64 0, .int .u64 0]
      simp only [World.size_alloc] at this
      exact this
  case round =>
    obtain ⟨k, hk, rfl, hb0, hb1, hb2, HB⟩ := hrel
    by_cases hlt : k < 4
    · have c0 := hb0.cellAt k hlt
      have f0 := hb0.frozen k
      have c1 := hb1.cellAt k hlt
      rw [word_mix_ge _ _ _ _ (Nat.le_refl _)] at c0
      have hor := word_less m n k
      go_wp2
      go_region
      go_wp2
      go_roundw
      case rel =>
        refine ⟨k + 1, by omega, by go_num, ?_, (hb1.far (p := ⟨w.heap.size, k, none⟩) (by simp) _).drew, (hb2.far (p := ⟨w.heap.size, k, none⟩) (by simp; omega) _).drew, (HB.setCell (p := ⟨w.heap.size, k, none⟩) (Nat.le_refl _) _).drew⟩
        rw [← sCells_mix _ _ _ hlt]
        exact (hb0.set_ k _).drew
      case measure => simp [intOf]; omega
    · have hk4 : k = 4 := by omega
      subst hk4
      rw [sCells_congr (m := sMix (sLess m n) m 4) (m' := sLess m n) (fun i h => word_mix_lt _ _ _ i h)] at hb0
      obtain ⟨c0, c1, c2, c3⟩ := hb0.cells4
      have g0 := hb2.cell 0
      have g1 := hb2.cell 1
      have g2 := hb2.cell 2
      have g3 := hb2.cell 3
      have f0 := hb2.frozen 0
      have f1 := hb2.frozen 1
      have f2 := hb2.frozen 2
      have f3 := hb2.frozen 3
      simp at g0 g1 g2 g3
      go_wp2
      exact bodyPost_ret (v := .agg #[.int .u64 ((word ((sLess m n)) 0 : Nat) : Int), .int .u64 ((word ((sLess m n)) 1 : Nat) : Int), .int .u64 ((word ((sLess m n)) 2 : Nat) : Int), .int .u64 ((word ((sLess m n)) 3 : Nat) : Int)]) (by simp [results, Try.results21, go_sem, g0, g1, g2, g3]) rfl
        ⟨rfl, (((HB.setCell (p := ⟨w.heap.size + 1 + 1, 0, none⟩) (by simp; omega) _).setCell (p := ⟨w.heap.size + 1 + 1, 1, none⟩) (by simp; omega) _).setCell (p := ⟨w.heap.size + 1 + 1, 2, none⟩) (by simp; omega) _).setCell (p := ⟨w.heap.size + 1 + 1, 3, none⟩) (by simp; omega) _⟩

end Go.Proofs.Ytbjgkolldmplkaa
