/- The walk of the reference By of layer 1. -/
import Derived.Test.YtbjgkolldmplkaaSet4
namespace Go.Proofs.Ytbjgkolldmplkaa
open Go.RowKit Go.Sort

def byB (how : Nat) (x y : Bool) : Bool := match how with
  | 0 => x && y
  | 1 => x || y
  | 2 => x && !y
  | _ => !x

/-- By, as a set. -/
def sBy (how : Nat) (m k : Nat → Bool) : Nat → Bool := fun b => byB how (m b) (k b)

theorem bCells_cut (f : Nat → Bool) (k : Nat) : (bCells (sCut f k)).setIfInBounds k (.bool (f k)) = bCells (sCut f (k + 1)) := by
  unfold bCells boolVals bRow sCut
  simp only [List.map_map]
  rw [List.setIfInBounds_toArray]
  congr 1
  apply List.ext_getElem?
  intro j
  rw [List.getElem?_set]
  by_cases hj : k = j
  · subst hj
    by_cases h : k < 256 <;> simp [h]
  · by_cases h : j < 256
    · have e : decide (j < k) = decide (j < k + 1) := by
        rw [Bool.eq_iff_iff]; simp; omega
      simp [h, hj, e]
    · simp [h, hj]

theorem word_cut (f : Nat → Bool) (i : Nat) (hi : i < 4) : word (sCut f 256) i = word f i :=
  word_ext fun k hk => by
    unfold sCut
    have : 64 * i + k < 256 := by omega
    simp [this]

theorem bCells_void (f : Nat → Bool) : bCells sNone = bCells (sCut f 0) := by
  unfold bCells bRow sCut sNone
  simp

/-- The four blocks of By. -/
def ByB (w : World) (m k f : Nat → Bool) (j : Nat) (wr : World) : Prop :=
  Blk wr w.heap.size 25 (sCells m) ∧ Blk wr (w.heap.size + 1) 25 (sCells k) ∧ Blk wr (w.heap.size + 1 + 1) 25 #[.int .u64 0, .int .u64 0, .int .u64 0, .int .u64 0] ∧
  Blk wr (w.heap.size + 1 + 1 + 1) 4 (bCells (sCut f j)) ∧ Below w.heap.size w wr

theorem ByB.new (w : World) (m k f : Nat → Bool) : ByB w m k f 0 ((((w.alloc (.cells #[.int .u64 ((word m 0 : Nat) : Int), .int .u64 ((word m 1 : Nat) : Int), .int .u64 ((word m 2 : Nat) : Int), .int .u64 ((word m 3 : Nat) : Int)] 25)).alloc (.cells #[.int .u64 ((word k 0 : Nat) : Int), .int .u64 ((word k 1 : Nat) : Int), .int .u64 ((word k 2 : Nat) : Int), .int .u64 ((word k 3 : Nat) : Int)] 25)).alloc (.cells #[.int .u64 0, .int .u64 0, .int .u64 0, .int .u64 0] 25)).alloc (.cells (bCells sNone) 4)) := by
  refine ⟨(((new_blk w m _).alloc _).alloc _).alloc _, ?_, ?_, ?_, ((((Below.refl _ _).alloc (Nat.le_refl _) _).alloc (by simp) _).alloc (by simp; omega) _).alloc (by simp; omega) _⟩
  · have := ((new_blk (w.alloc (.cells #[.int .u64 ((word m 0 : Nat) : Int), .int .u64 ((word m 1 : Nat) : Int), .int .u64 ((word m 2 : Nat) : Int), .int .u64 ((word m 3 : Nat) : Int)] 25)) k 25).alloc (.cells #[.int .u64 0, .int .u64 0, .int .u64 0, .int .u64 0] 25)).alloc (.cells (bCells sNone) 4)
    simp only [World.size_alloc] at this
    exact this
  · have := (Blk.new ((w.alloc (.cells #[.int .u64 ((word m 0 : Nat) : Int), .int .u64 ((word m 1 : Nat) : Int), .int .u64 ((word m 2 : Nat) : Int), .int .u64 ((word m 3 : Nat) : Int)] 25)).alloc (.cells #[.int .u64 ((word k 0 : Nat) : Int), .int .u64 ((word k 1 : Nat) : Int), .int .u64 ((word k 2 : Nat) : Int), .int .u64 ((word k 3 : Nat) : Int)] 25)) 25 #[.int .u64 0, .int .u64 0, .int .u64 0, .int .u64 0]).alloc (.cells (bCells sNone) 4)
    simp only [World.size_alloc] at this
    exact this
  · have := Blk.new (((w.alloc (.cells #[.int .u64 ((word m 0 : Nat) : Int), .int .u64 ((word m 1 : Nat) : Int), .int .u64 ((word m 2 : Nat) : Int), .int .u64 ((word m 3 : Nat) : Int)] 25)).alloc (.cells #[.int .u64 ((word k 0 : Nat) : Int), .int .u64 ((word k 1 : Nat) : Int), .int .u64 ((word k 2 : Nat) : Int), .int .u64 ((word k 3 : Nat) : Int)] 25)).alloc (.cells #[.int .u64 0, .int .u64 0, .int .u64 0, .int .u64 0] 25)) 4 (bCells sNone)
    simp only [World.size_alloc] at this
    rw [← bCells_void]
    exact this

theorem ByB.call {w : World} {m k f : Nat → Bool} {j : Nat} {wr w1 : World} (h : ByB w m k f j wr) (hb : Below wr.heap.size wr w1) : ByB w m k f j w1 :=
  ⟨h.1.below hb h.1.lt, h.2.1.below hb h.2.1.lt, h.2.2.1.below hb h.2.2.1.lt, h.2.2.2.1.below hb h.2.2.2.1.lt, h.2.2.2.2.trans (hb.mono h.2.2.2.2.size)⟩

theorem ByB.put {w : World} {m k f : Nat → Bool} {j : Nat} {wr : World} (h : ByB w m k f j wr) : ByB w m k f (j + 1) (wr.setCell ⟨w.heap.size + 1 + 1 + 1, j, none⟩ (.bool (f j))) := by
  refine ⟨h.1.far (by simp; omega) _, h.2.1.far (by simp) _, h.2.2.1.far (by simp) _, ?_, h.2.2.2.2.setCell (by simp; omega) _⟩
  rw [← bCells_cut]
  exact h.2.2.2.1.set_ j _

set_option maxRecDepth 100000 in
set_option maxHeartbeats 8000000 in
theorem by_any (how : Nat) (hv : Int) (hh : (how = 0 ∧ hv = 0) ∨ (how = 1 ∧ hv = 1) ∨ (how = 2 ∧ hv = 2) ∨ (how = 3 ∧ hv = 3)) (m k : Nat → Bool) (w : World) :
    Calls Try.prog 41 #[.agg #[.int .u64 ((word m 0 : Nat) : Int), .int .u64 ((word m 1 : Nat) : Int), .int .u64 ((word m 2 : Nat) : Int), .int .u64 ((word m 3 : Nat) : Int)], .agg #[.int .u64 ((word k 0 : Nat) : Int), .int .u64 ((word k 1 : Nat) : Int), .int .u64 ((word k 2 : Nat) : Int), .int .u64 ((word k 3 : Nat) : Int)], .int .i64 hv] w (Gives (.agg #[.int .u64 ((word ((sBy how m k)) 0 : Nat) : Int), .int .u64 ((word ((sBy how m k)) 1 : Nat) : Int), .int .u64 ((word ((sBy how m k)) 2 : Nat) : Int), .int .u64 ((word ((sBy how m k)) 3 : Nat) : Int)]) w) := by
  rcases hh with ⟨rfl, rfl⟩ | ⟨rfl, rfl⟩ | ⟨rfl, rfl⟩ | ⟨rfl, rfl⟩
  · have hmk := made256
    have hN := ByB.new w m k (sBy 0 m k)
    go_enter Try.func41, Try.ntmps41
    go_wp2
    go_loopw [8] (fun i wr => ∃ j : Nat, j ≤ 256 ∧ i = .int .i64 j ∧ ByB w m k (sBy 0 m k) j wr) (fun i _ => 256 - (intOf i).toNat)
    case atStart => exact ⟨0, by omega, rfl, hN⟩
    case round =>
      clear hmk hN
      obtain ⟨j, hj, rfl, hB⟩ := hrel
      by_cases hlt : j < 256
      · obtain ⟨c0, c1, c2, c3⟩ := hB.1.cells4
        have HC := fun W => rhas_any m j W hlt
        have HC2 := fun W => rhas_any k j W hlt
        have E : Unit → sBy 0 m k j = byB 0 (m j) (k j) := fun _ => rfl
        generalize m j = x at *
        generalize k j = y at *
        cases x <;> cases y
        all_goals
          go_wp2_with (first
            | (go_at_call 16
               with_reducible refine Calls.mono (HC _) ?_
               rintro e w1 ⟨rfl, HB1⟩
               have hB1 := hB.call HB1
               obtain ⟨d0, d1, d2, d3⟩ := hB1.2.1.cells4)
            | (go_at_call 16
               with_reducible refine Calls.mono (HC2 _) ?_
               rintro e w2 ⟨rfl, HB2⟩
               have hB2 := hB1.call HB2
               have g0 := (hB2.2.2.2.1.cell j).trans (bCells_get _ j hlt)
               have f0 := hB2.2.2.2.1.frozen j))
          go_roundw
          case rel => exact ⟨j + 1, by omega, by go_num, by have := hB2.put; rw [E ()] at this; exact this⟩
          case measure => simp [intOf]; omega
      · have e : j = 256 := by omega
        subst e
        have HM := make_any (some ⟨w.heap.size + 1 + 1 + 1, 0, none⟩) 256 256 wr.heap.size (bRow (sCut (sBy 0 m k) 256)) wr (by have := reads_blk (xs := boolVals (bRow (sCut (sBy 0 m k) 256))) hB.2.2.2.1; simpa [boolVals, bRow] using this) (Nat.le_refl _) (bRow_length _) (Nat.le_refl _) (by decide)
        rw [sBools_bRow _ 0 (by decide), sBools_bRow _ 1 (by decide), sBools_bRow _ 2 (by decide), sBools_bRow _ 3 (by decide), word_cut _ 0 (by decide), word_cut _ 1 (by decide), word_cut _ 2 (by decide), word_cut _ 3 (by decide)] at HM
        have HMH := Lib.hid HM
        clear HM
        go_wp2_with fail
        refine HMH.out.mono ?_; rintro e w2 ⟨rfl, HB2⟩
        have hB2 := ByB.call (by exact hB) HB2
        have hb4 := hB2.2.2.1
        have g0 := hb4.cell 0
        have g1 := hb4.cell 1
        have g2 := hb4.cell 2
        have g3 := hb4.cell 3
        have f0 := hb4.frozen 0
        have f1 := hb4.frozen 1
        have f2 := hb4.frozen 2
        have f3 := hb4.frozen 3
        simp at g0 g1 g2 g3
        have HB3 := hB2.2.2.2.2
        go_wp2
        exact bodyPost_ret (v := .agg #[.int .u64 ((word ((sBy 0 m k)) 0 : Nat) : Int), .int .u64 ((word ((sBy 0 m k)) 1 : Nat) : Int), .int .u64 ((word ((sBy 0 m k)) 2 : Nat) : Int), .int .u64 ((word ((sBy 0 m k)) 3 : Nat) : Int)]) (by simp [results, Try.results41, go_sem, g0, g1, g2, g3]) rfl
          ⟨rfl, (((HB3.setCell (p := ⟨w.heap.size + 1 + 1, 0, none⟩) (by simp; omega) _).setCell (p := ⟨w.heap.size + 1 + 1, 1, none⟩) (by simp; omega) _).setCell (p := ⟨w.heap.size + 1 + 1, 2, none⟩) (by simp; omega) _).setCell (p := ⟨w.heap.size + 1 + 1, 3, none⟩) (by simp; omega) _⟩
  · have hmk := made256
    have hN := ByB.new w m k (sBy 1 m k)
    go_enter Try.func41, Try.ntmps41
    go_wp2
    go_loopw [8] (fun i wr => ∃ j : Nat, j ≤ 256 ∧ i = .int .i64 j ∧ ByB w m k (sBy 1 m k) j wr) (fun i _ => 256 - (intOf i).toNat)
    case atStart => exact ⟨0, by omega, rfl, hN⟩
    case round =>
      clear hmk hN
      obtain ⟨j, hj, rfl, hB⟩ := hrel
      by_cases hlt : j < 256
      · obtain ⟨c0, c1, c2, c3⟩ := hB.1.cells4
        have HC := fun W => rhas_any m j W hlt
        have HC2 := fun W => rhas_any k j W hlt
        have E : Unit → sBy 1 m k j = byB 1 (m j) (k j) := fun _ => rfl
        generalize m j = x at *
        generalize k j = y at *
        cases x <;> cases y
        all_goals
          go_wp2_with (first
            | (go_at_call 16
               with_reducible refine Calls.mono (HC _) ?_
               rintro e w1 ⟨rfl, HB1⟩
               have hB1 := hB.call HB1
               obtain ⟨d0, d1, d2, d3⟩ := hB1.2.1.cells4)
            | (go_at_call 16
               with_reducible refine Calls.mono (HC2 _) ?_
               rintro e w2 ⟨rfl, HB2⟩
               have hB2 := hB1.call HB2
               have g0 := (hB2.2.2.2.1.cell j).trans (bCells_get _ j hlt)
               have f0 := hB2.2.2.2.1.frozen j))
          go_roundw
          case rel => exact ⟨j + 1, by omega, by go_num, by have := hB2.put; rw [E ()] at this; exact this⟩
          case measure => simp [intOf]; omega
      · have e : j = 256 := by omega
        subst e
        have HM := make_any (some ⟨w.heap.size + 1 + 1 + 1, 0, none⟩) 256 256 wr.heap.size (bRow (sCut (sBy 1 m k) 256)) wr (by have := reads_blk (xs := boolVals (bRow (sCut (sBy 1 m k) 256))) hB.2.2.2.1; simpa [boolVals, bRow] using this) (Nat.le_refl _) (bRow_length _) (Nat.le_refl _) (by decide)
        rw [sBools_bRow _ 0 (by decide), sBools_bRow _ 1 (by decide), sBools_bRow _ 2 (by decide), sBools_bRow _ 3 (by decide), word_cut _ 0 (by decide), word_cut _ 1 (by decide), word_cut _ 2 (by decide), word_cut _ 3 (by decide)] at HM
        have HMH := Lib.hid HM
        clear HM
        go_wp2_with fail
        refine HMH.out.mono ?_; rintro e w2 ⟨rfl, HB2⟩
        have hB2 := ByB.call (by exact hB) HB2
        have hb4 := hB2.2.2.1
        have g0 := hb4.cell 0
        have g1 := hb4.cell 1
        have g2 := hb4.cell 2
        have g3 := hb4.cell 3
        have f0 := hb4.frozen 0
        have f1 := hb4.frozen 1
        have f2 := hb4.frozen 2
        have f3 := hb4.frozen 3
        simp at g0 g1 g2 g3
        have HB3 := hB2.2.2.2.2
        go_wp2
        exact bodyPost_ret (v := .agg #[.int .u64 ((word ((sBy 1 m k)) 0 : Nat) : Int), .int .u64 ((word ((sBy 1 m k)) 1 : Nat) : Int), .int .u64 ((word ((sBy 1 m k)) 2 : Nat) : Int), .int .u64 ((word ((sBy 1 m k)) 3 : Nat) : Int)]) (by simp [results, Try.results41, go_sem, g0, g1, g2, g3]) rfl
          ⟨rfl, (((HB3.setCell (p := ⟨w.heap.size + 1 + 1, 0, none⟩) (by simp; omega) _).setCell (p := ⟨w.heap.size + 1 + 1, 1, none⟩) (by simp; omega) _).setCell (p := ⟨w.heap.size + 1 + 1, 2, none⟩) (by simp; omega) _).setCell (p := ⟨w.heap.size + 1 + 1, 3, none⟩) (by simp; omega) _⟩
  · have hmk := made256
    have hN := ByB.new w m k (sBy 2 m k)
    go_enter Try.func41, Try.ntmps41
    go_wp2
    go_loopw [8] (fun i wr => ∃ j : Nat, j ≤ 256 ∧ i = .int .i64 j ∧ ByB w m k (sBy 2 m k) j wr) (fun i _ => 256 - (intOf i).toNat)
    case atStart => exact ⟨0, by omega, rfl, hN⟩
    case round =>
      clear hmk hN
      obtain ⟨j, hj, rfl, hB⟩ := hrel
      by_cases hlt : j < 256
      · obtain ⟨c0, c1, c2, c3⟩ := hB.1.cells4
        have HC := fun W => rhas_any m j W hlt
        have HC2 := fun W => rhas_any k j W hlt
        have E : Unit → sBy 2 m k j = byB 2 (m j) (k j) := fun _ => rfl
        generalize m j = x at *
        generalize k j = y at *
        cases x <;> cases y
        all_goals
          go_wp2_with (first
            | (go_at_call 16
               with_reducible refine Calls.mono (HC _) ?_
               rintro e w1 ⟨rfl, HB1⟩
               have hB1 := hB.call HB1
               obtain ⟨d0, d1, d2, d3⟩ := hB1.2.1.cells4)
            | (go_at_call 16
               with_reducible refine Calls.mono (HC2 _) ?_
               rintro e w2 ⟨rfl, HB2⟩
               have hB2 := hB1.call HB2
               have g0 := (hB2.2.2.2.1.cell j).trans (bCells_get _ j hlt)
               have f0 := hB2.2.2.2.1.frozen j))
          go_roundw
          case rel => exact ⟨j + 1, by omega, by go_num, by have := hB2.put; rw [E ()] at this; exact this⟩
          case measure => simp [intOf]; omega
      · have e : j = 256 := by omega
        subst e
        have HM := make_any (some ⟨w.heap.size + 1 + 1 + 1, 0, none⟩) 256 256 wr.heap.size (bRow (sCut (sBy 2 m k) 256)) wr (by have := reads_blk (xs := boolVals (bRow (sCut (sBy 2 m k) 256))) hB.2.2.2.1; simpa [boolVals, bRow] using this) (Nat.le_refl _) (bRow_length _) (Nat.le_refl _) (by decide)
        rw [sBools_bRow _ 0 (by decide), sBools_bRow _ 1 (by decide), sBools_bRow _ 2 (by decide), sBools_bRow _ 3 (by decide), word_cut _ 0 (by decide), word_cut _ 1 (by decide), word_cut _ 2 (by decide), word_cut _ 3 (by decide)] at HM
        have HMH := Lib.hid HM
        clear HM
        go_wp2_with fail
        refine HMH.out.mono ?_; rintro e w2 ⟨rfl, HB2⟩
        have hB2 := ByB.call (by exact hB) HB2
        have hb4 := hB2.2.2.1
        have g0 := hb4.cell 0
        have g1 := hb4.cell 1
        have g2 := hb4.cell 2
        have g3 := hb4.cell 3
        have f0 := hb4.frozen 0
        have f1 := hb4.frozen 1
        have f2 := hb4.frozen 2
        have f3 := hb4.frozen 3
        simp at g0 g1 g2 g3
        have HB3 := hB2.2.2.2.2
        go_wp2
        exact bodyPost_ret (v := .agg #[.int .u64 ((word ((sBy 2 m k)) 0 : Nat) : Int), .int .u64 ((word ((sBy 2 m k)) 1 : Nat) : Int), .int .u64 ((word ((sBy 2 m k)) 2 : Nat) : Int), .int .u64 ((word ((sBy 2 m k)) 3 : Nat) : Int)]) (by simp [results, Try.results41, go_sem, g0, g1, g2, g3]) rfl
          ⟨rfl, (((HB3.setCell (p := ⟨w.heap.size + 1 + 1, 0, none⟩) (by simp; omega) _).setCell (p := ⟨w.heap.size + 1 + 1, 1, none⟩) (by simp; omega) _).setCell (p := ⟨w.heap.size + 1 + 1, 2, none⟩) (by simp; omega) _).setCell (p := ⟨w.heap.size + 1 + 1, 3, none⟩) (by simp; omega) _⟩
  · have hmk := made256
    have hN := ByB.new w m k (sBy 3 m k)
    go_enter Try.func41, Try.ntmps41
    go_wp2
    go_loopw [8] (fun i wr => ∃ j : Nat, j ≤ 256 ∧ i = .int .i64 j ∧ ByB w m k (sBy 3 m k) j wr) (fun i _ => 256 - (intOf i).toNat)
    case atStart => exact ⟨0, by omega, rfl, hN⟩
    case round =>
      clear hmk hN
      obtain ⟨j, hj, rfl, hB⟩ := hrel
      by_cases hlt : j < 256
      · obtain ⟨c0, c1, c2, c3⟩ := hB.1.cells4
        have HC := fun W => rhas_any m j W hlt
        have HC2 := fun W => rhas_any k j W hlt
        have E : Unit → sBy 3 m k j = byB 3 (m j) (k j) := fun _ => rfl
        generalize m j = x at *
        generalize k j = y at *
        cases x <;> cases y
        all_goals
          go_wp2_with (first
            | (go_at_call 16
               with_reducible refine Calls.mono (HC _) ?_
               rintro e w1 ⟨rfl, HB1⟩
               have hB1 := hB.call HB1
               obtain ⟨d0, d1, d2, d3⟩ := hB1.2.1.cells4)
            | (go_at_call 16
               with_reducible refine Calls.mono (HC2 _) ?_
               rintro e w2 ⟨rfl, HB2⟩
               have hB2 := hB1.call HB2
               have g0 := (hB2.2.2.2.1.cell j).trans (bCells_get _ j hlt)
               have f0 := hB2.2.2.2.1.frozen j))
          go_roundw
          case rel => exact ⟨j + 1, by omega, by go_num, by have := hB2.put; rw [E ()] at this; exact this⟩
          case measure => simp [intOf]; omega
      · have e : j = 256 := by omega
        subst e
        have HM := make_any (some ⟨w.heap.size + 1 + 1 + 1, 0, none⟩) 256 256 wr.heap.size (bRow (sCut (sBy 3 m k) 256)) wr (by have := reads_blk (xs := boolVals (bRow (sCut (sBy 3 m k) 256))) hB.2.2.2.1; simpa [boolVals, bRow] using this) (Nat.le_refl _) (bRow_length _) (Nat.le_refl _) (by decide)
        rw [sBools_bRow _ 0 (by decide), sBools_bRow _ 1 (by decide), sBools_bRow _ 2 (by decide), sBools_bRow _ 3 (by decide), word_cut _ 0 (by decide), word_cut _ 1 (by decide), word_cut _ 2 (by decide), word_cut _ 3 (by decide)] at HM
        have HMH := Lib.hid HM
        clear HM
        go_wp2_with fail
        refine HMH.out.mono ?_; rintro e w2 ⟨rfl, HB2⟩
        have hB2 := ByB.call (by exact hB) HB2
        have hb4 := hB2.2.2.1
        have g0 := hb4.cell 0
        have g1 := hb4.cell 1
        have g2 := hb4.cell 2
        have g3 := hb4.cell 3
        have f0 := hb4.frozen 0
        have f1 := hb4.frozen 1
        have f2 := hb4.frozen 2
        have f3 := hb4.frozen 3
        simp at g0 g1 g2 g3
        have HB3 := hB2.2.2.2.2
        go_wp2
        exact bodyPost_ret (v := .agg #[.int .u64 ((word ((sBy 3 m k)) 0 : Nat) : Int), .int .u64 ((word ((sBy 3 m k)) 1 : Nat) : Int), .int .u64 ((word ((sBy 3 m k)) 2 : Nat) : Int), .int .u64 ((word ((sBy 3 m k)) 3 : Nat) : Int)]) (by simp [results, Try.results41, go_sem, g0, g1, g2, g3]) rfl
          ⟨rfl, (((HB3.setCell (p := ⟨w.heap.size + 1 + 1, 0, none⟩) (by simp; omega) _).setCell (p := ⟨w.heap.size + 1 + 1, 1, none⟩) (by simp; omega) _).setCell (p := ⟨w.heap.size + 1 + 1, 2, none⟩) (by simp; omega) _).setCell (p := ⟨w.heap.size + 1 + 1, 3, none⟩) (by simp; omega) _⟩

end Go.Proofs.Ytbjgkolldmplkaa
