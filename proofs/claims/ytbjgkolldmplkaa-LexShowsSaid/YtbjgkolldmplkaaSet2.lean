/- The walks of package set: Not, Of, Span. -/
import Derived.Test.YtbjgkolldmplkaaSet1
namespace Go.Proofs.Ytbjgkolldmplkaa
open Go.RowKit Go.Sort

theorem word_not (m : Nat → Bool) (i : Nat) : bits .xor .u64 (if IntKind.u64.signed = true then -1 else IntKind.u64.max) ((word m i : Nat) : Int) = ((word (sNot m) i : Nat) : Int) := by
  have e : (if IntKind.u64.signed = true then (-1 : Int) else IntKind.u64.max) = ((18446744073709551615 : Nat) : Int) := by decide
  rw [e, u64_xor_nat _ _ (by decide) (word_lt m i)]
  congr 1
  apply Nat.eq_of_testBit_eq
  intro j
  rw [Nat.testBit_xor, full_testBit, word_testBit, word_testBit]
  unfold sNot
  cases decide (j < 64) <;> simp

theorem word_none (m : Nat → Bool) (i : Nat) (h : ∀ k, k < 64 → m (64 * i + k) = false) : word m i = 0 :=
  word_of 0 (by decide) m i (fun k hk => by rw [h k hk]; simp)

theorem sCells_none (m : Nat → Bool) (h : ∀ b, m b = false) : sCells m = #[.int .u64 0, .int .u64 0, .int .u64 0, .int .u64 0] := by
  unfold sCells
  rw [word_none m 0 (fun _ _ => h _), word_none m 1 (fun _ _ => h _), word_none m 2 (fun _ _ => h _), word_none m 3 (fun _ _ => h _)]
  rfl

set_option maxHeartbeats 1000000 in
theorem not_any (m : Nat → Bool) (w : World) :
    Calls Try.prog 19 #[.agg #[.int .u64 ((word m 0 : Nat) : Int), .int .u64 ((word m 1 : Nat) : Int), .int .u64 ((word m 2 : Nat) : Int), .int .u64 ((word m 3 : Nat) : Int)]] w (Gives (.agg #[.int .u64 ((word ((sNot m)) 0 : Nat) : Int), .int .u64 ((word ((sNot m)) 1 : Nat) : Int), .int .u64 ((word ((sNot m)) 2 : Nat) : Int), .int .u64 ((word ((sNot m)) 3 : Nat) : Int)]) w) := by
  go_enter Try.func19, Try.ntmps19
  go_wp2
  go_loopw [3, 4] (fun _ i wr => ∃ k : Nat, k ≤ 4 ∧ i = .int .i64 k ∧ Blk wr w.heap.size 25 (sCells (sMix (sNot m) m k)) ∧
    Blk wr (w.heap.size + 1) 25 #[.int .u64 0, .int .u64 0, .int .u64 0, .int .u64 0] ∧ Below w.heap.size w wr) (fun _ i _ => 4 - (intOf i).toNat)
  case atStart =>
    refine ⟨0, by omega, rfl, ?_, ?_, (((Below.refl _ _).alloc (Nat.le_refl _) _).alloc (by simp) _)⟩
    · have := ((new_blk w m 25).alloc (.cells #[.int .u64 0, .int .u64 0, .int .u64 0, .int .u64 0] 25))
      rw [sCells_congr (m := sMix (sNot m) m 0) (m' := m) (fun i _ => word_mix_zero _ _ i)]
      exact this
    · have := Blk.new (w.alloc (.cells (sCells m) 25)) 25 #[.int .u64 0, .int .u64 0, .int .u64 0, .int .u64 0]
      simp only [World.size_alloc] at this
      exact this
  case round =>
    obtain ⟨k, hk, rfl, hb0, hb2, HB⟩ := hrel
    by_cases hlt : k < 4
    · have c0 := hb0.cellAt k hlt
      have f0 := hb0.frozen k
      rw [word_mix_ge _ _ _ _ (Nat.le_refl _)] at c0
      go_wp2
      go_roundw
      case rel =>
        refine ⟨k + 1, by omega, by go_num, ?_, (hb2.far (p := ⟨w.heap.size, k, none⟩) (by simp) _), (HB.setCell (p := ⟨w.heap.size, k, none⟩) (Nat.le_refl _) _)⟩
        rw [← sCells_mix _ _ _ hlt]
        rw [word_not]
        exact hb0.set_ k _
      case measure => simp [intOf]; omega
    · have hk4 : k = 4 := by omega
      subst hk4
      rw [sCells_congr (m := sMix (sNot m) m 4) (m' := sNot m) (fun i h => word_mix_lt _ _ _ i h)] at hb0
      obtain ⟨c0, c1, c2, c3⟩ := hb0.cells4
      have g0 := hb2.cell 0
      have g1 := hb2.cell 1
      have g2 := hb2.cell 2
      have g3 := hb2.cell 3
      have f0 := hb2.frozen 0
      have f1 := hb2.frozen 1
      have f2 := hb2.frozen 2
      have f3 := hb2.frozen 3
      simp at g0 g1 g2 g3
      go_wp2
      exact bodyPost_ret (v := .agg #[.int .u64 ((word ((sNot m)) 0 : Nat) : Int), .int .u64 ((word ((sNot m)) 1 : Nat) : Int), .int .u64 ((word ((sNot m)) 2 : Nat) : Int), .int .u64 ((word ((sNot m)) 3 : Nat) : Int)]) (by simp [results, Try.results19, go_sem, g0, g1, g2, g3]) rfl
        ⟨rfl, (((HB.setCell (p := ⟨w.heap.size + 1, 0, none⟩) (by simp) _).setCell (p := ⟨w.heap.size + 1, 1, none⟩) (by simp) _).setCell (p := ⟨w.heap.size + 1, 2, none⟩) (by simp) _).setCell (p := ⟨w.heap.size + 1, 3, none⟩) (by simp) _⟩

/-- A row of bytes, as values. -/
def byteVals (l : List Nat) : List Value := l.map fun b => .int .u8 ((b : Nat) : Int)

theorem byte_cell {w : World} {B n : Nat} {A : Option Addr} {l : List Nat} (HR : Reads w B 1 A n (byteVals l)) (k : Nat) (hk : k < l.length) :
    ∃ ad, A = some ad ∧ w.cell? (ad.add k) = some (.int .u8 ((l[k] : Nat) : Int)) := by
  have hn := HR.1
  simp [byteVals] at hn
  obtain ⟨ad, e, _, hc⟩ := HR.2 (by omega)
  exact ⟨ad, e, hc k _ (by simp [byteVals, hk])⟩

set_option maxHeartbeats 1000000 in
theorem of_any (A : Option Addr) (n c B : Nat) (l : List Nat) (w : World) (HR0 : Reads w B 1 A n (byteVals l)) (hB : B ≤ w.heap.size) (hl : ∀ b ∈ l, b < 256) (hc : n ≤ c) (hm : c ≤ maxLen) :
    Calls Try.prog 11 #[.slice A n c] w (Gives (.agg #[.int .u64 ((word ((sOf l)) 0 : Nat) : Int), .int .u64 ((word ((sOf l)) 1 : Nat) : Int), .int .u64 ((word ((sOf l)) 2 : Nat) : Int), .int .u64 ((word ((sOf l)) 3 : Nat) : Int)]) w) := by
  have HR := HR0.more hB
  clear HR0
  have hn := HR.1
  simp [byteVals] at hn
  subst hn
  unfold maxLen at hm
  have HL := Lib.hid hl
  clear hl
  go_enter Try.func11, Try.ntmps11
  go_wp2
  go_loopw [5, 8] (fun _ i wr => ∃ k : Nat, k ≤ l.length ∧ i = .int .i64 k ∧ Blk wr (w.heap.size + 1) 25 (sCells (sOf (l.take k))) ∧
    Blk wr w.heap.size 25 #[.int .u64 0, .int .u64 0, .int .u64 0, .int .u64 0] ∧ Below w.heap.size w wr) (fun _ i _ => l.length - (intOf i).toNat)
  case atStart =>
    refine ⟨0, by omega, rfl, ?_, ?_, (((Below.refl _ _).alloc (Nat.le_refl _) _).alloc (by simp) _)⟩
    · rw [sCells_none _ (fun _ => by simp [sOf])]
      have := Blk.new (w.alloc (.cells #[.int .u64 0, .int .u64 0, .int .u64 0, .int .u64 0] 25)) 25 #[.int .u64 0, .int .u64 0, .int .u64 0, .int .u64 0]
      simp only [World.size_alloc] at this
      exact this
    · exact (Blk.new w _ _).alloc _
  case round =>
    obtain ⟨k, hk, rfl, hb0, hb2, HB⟩ := hrel
    by_cases hlt : k < l.length
    · obtain ⟨ad, rfl, hck⟩ := byte_cell (HR.below HB) k hlt
      have hlk := HL.out _ (List.getElem_mem hlt)
      have e1 : l.take (k + 1) = l.take k ++ [l[k]] := List.take_succ_eq_append_getElem hlt
      generalize l[k] = b at *
      have c0 := hb0.cellAt (b / 64) (by omega)
      have f0 := hb0.frozen (b / 64)
      have E1 := Lib.hid e1
      clear e1
      go_wp2
      go_roundw
      case rel =>
        refine ⟨k + 1, by omega, by go_num, ?_, (hb2.far (p := ⟨w.heap.size + 1, b / 64, none⟩) (by simp) _), (HB.setCell (p := ⟨w.heap.size + 1, b / 64, none⟩) (by simp) _)⟩
        rw [E1.out, sOf_snoc, ← sCells_ins _ b hlk]
        exact hb0.set_ (b / 64) _
      case measure => simp [intOf]; omega
    · have e1 : l.take k = l := List.take_of_length_le (by omega)
      rw [e1] at hb0
      obtain ⟨c0, c1, c2, c3⟩ := hb0.cells4
      have g0 := hb2.cell 0
      have g1 := hb2.cell 1
      have g2 := hb2.cell 2
      have g3 := hb2.cell 3
      have f0 := hb2.frozen 0
      have f1 := hb2.frozen 1
      have f2 := hb2.frozen 2
      have f3 := hb2.frozen 3
      simp at g0 g1 g2 g3
      go_wp2
      exact bodyPost_ret (v := .agg #[.int .u64 ((word ((sOf l)) 0 : Nat) : Int), .int .u64 ((word ((sOf l)) 1 : Nat) : Int), .int .u64 ((word ((sOf l)) 2 : Nat) : Int), .int .u64 ((word ((sOf l)) 3 : Nat) : Int)]) (by simp [results, Try.results11, go_sem, g0, g1, g2, g3]) rfl
        ⟨rfl, (((HB.setCell (p := ⟨w.heap.size, 0, none⟩) (by simp) _).setCell (p := ⟨w.heap.size, 1, none⟩) (by simp) _).setCell (p := ⟨w.heap.size, 2, none⟩) (by simp) _).setCell (p := ⟨w.heap.size, 3, none⟩) (by simp) _⟩

/-- From f on, j of them. -/
def sRun (f j : Nat) : Nat → Bool := fun b => decide (f ≤ b) && decide (b < f + j)

theorem sRun_succ (f j : Nat) : sRun f (j + 1) = sIns (sRun f j) (f + j) := by
  funext x
  simp only [sRun, sIns]
  rw [Bool.eq_iff_iff]
  simp
  omega

theorem sRun_span (f t : Nat) : sRun f (t + 1 - f) = sSpan f t := by
  funext x
  simp only [sRun, sSpan]
  rw [Bool.eq_iff_iff]
  simp
  omega

set_option maxHeartbeats 1000000 in
theorem span_any (f t : Nat) (w : World) (hf : f < 256) (ht : t < 256) :
    Calls Try.prog 13 #[.int .u8 f, .int .u8 t] w (Gives (.agg #[.int .u64 ((word ((sSpan f t)) 0 : Nat) : Int), .int .u64 ((word ((sSpan f t)) 1 : Nat) : Int), .int .u64 ((word ((sSpan f t)) 2 : Nat) : Int), .int .u64 ((word ((sSpan f t)) 3 : Nat) : Int)]) w) := by
  go_enter Try.func13, Try.ntmps13
  go_wp2
  go_loopw [6] (fun i wr => ∃ k : Nat, k ≤ t + 1 - f ∧ i = .int .i64 ((f + k : Nat) : Int) ∧ Blk wr (w.heap.size + 1) 25 (sCells (sRun f k)) ∧
    Blk wr w.heap.size 25 #[.int .u64 0, .int .u64 0, .int .u64 0, .int .u64 0] ∧ Below w.heap.size w wr) (fun i _ => t + 1 - (intOf i).toNat)
  case atStart =>
    refine ⟨0, by omega, rfl, ?_, ?_, (((Below.refl _ _).alloc (Nat.le_refl _) _).alloc (by simp) _)⟩
    · rw [sCells_none _ (fun b => by unfold sRun; rw [Bool.and_eq_false_iff]; simp; omega)]
      have := Blk.new (w.alloc (.cells #[.int .u64 0, .int .u64 0, .int .u64 0, .int .u64 0] 25)) 25 #[.int .u64 0, .int .u64 0, .int .u64 0, .int .u64 0]
      simp only [World.size_alloc] at this
      exact this
    · exact (Blk.new w _ _).alloc _
  case round =>
    obtain ⟨k, hk, rfl, hb0, hb2, HB⟩ := hrel
    by_cases hlt : f + k ≤ t
    · have hs := sRun_succ f k
      have E1 := Lib.hid hs
      clear hs
      have hj : k + 1 ≤ t + 1 - f := by omega
      have hx : ((f + (k + 1) : Nat) : Int) = ((f + k : Nat) : Int) + 1 := by omega
      have EX := Lib.hid hx
      clear hx hk
      obtain ⟨b, eb⟩ : ∃ b, f + k = b := ⟨_, rfl⟩
      have EB := Lib.hid eb
      rw [eb] at hlt ⊢
      clear eb
      have c0 := hb0.cellAt (b / 64) (by omega)
      have f0 := hb0.frozen (b / 64)
      go_wp2
      go_region
      go_wp2
      go_roundw
      case rel =>
        refine ⟨k + 1, hj, by rw [EX.out, EB.out], ?_, (hb2.far (p := ⟨w.heap.size + 1, b / 64, none⟩) (by simp) _).drew, (HB.setCell (p := ⟨w.heap.size + 1, b / 64, none⟩) (by simp) _).drew⟩
        rw [E1.out, EB.out, ← sCells_ins _ b (by omega)]
        exact (hb0.set_ (b / 64) _).drew
      case measure => simp [intOf]; omega
    · have e1 : k = t + 1 - f := by omega
      subst e1
      rw [sRun_span] at hb0
      obtain ⟨c0, c1, c2, c3⟩ := hb0.cells4
      have g0 := hb2.cell 0
      have g1 := hb2.cell 1
      have g2 := hb2.cell 2
      have g3 := hb2.cell 3
      have f0 := hb2.frozen 0
      have f1 := hb2.frozen 1
      have f2 := hb2.frozen 2
      have f3 := hb2.frozen 3
      simp at g0 g1 g2 g3
      generalize f + (t + 1 - f) = b at *
      go_wp2
      exact bodyPost_ret (v := .agg #[.int .u64 ((word ((sSpan f t)) 0 : Nat) : Int), .int .u64 ((word ((sSpan f t)) 1 : Nat) : Int), .int .u64 ((word ((sSpan f t)) 2 : Nat) : Int), .int .u64 ((word ((sSpan f t)) 3 : Nat) : Int)]) (by simp [results, Try.results13, go_sem, g0, g1, g2, g3]) rfl
        ⟨rfl, (((HB.setCell (p := ⟨w.heap.size, 0, none⟩) (by simp) _).setCell (p := ⟨w.heap.size, 1, none⟩) (by simp) _).setCell (p := ⟨w.heap.size, 2, none⟩) (by simp) _).setCell (p := ⟨w.heap.size, 3, none⟩) (by simp) _⟩

end Go.Proofs.Ytbjgkolldmplkaa
