/- The walks of the references of layer 1: power, Has, Make, Of, Span. -/
import Derived.Test.YtbjgkolldmplkaaSet2
import Derived.StillTailTactics
import Derived.Deep.RegionWith
namespace Go.Proofs.Ytbjgkolldmplkaa
open Go.RowKit Go.Sort

set_option maxHeartbeats 400000 in
theorem power_same (n : Nat) (w : World) (hn : n < 64) :
    Calls Try.prog 32 #[.int .i64 n] w fun e w' => e = .returned (.int .u64 ((pw n : Nat) : Int)) ∧ w' = w := by
  go_enter Try.func32, Try.ntmps32
  go_wp2
  go_loop [3, 4] (fun p i => ∃ k : Nat, k ≤ n ∧ i = .int .i64 k ∧ p = .int .u64 ((pw k : Nat) : Int)) (fun _ i => n - (intOf i).toNat)
  case atStart => exact ⟨0, by omega, rfl, rfl⟩
  case round =>
    obtain ⟨k, hk, rfl, rfl⟩ := hrel
    by_cases hlt : k < n
    · have E := Lib.hid (pw_step k (by omega))
      go_wp2
      go_round
      case rel => exact ⟨k + 1, by omega, by go_num, by rw [E.out]⟩
      case measure => simp [intOf]; omega
    · have : k = n := by omega
      subst this
      go_wp2
      go_ret
      exact ⟨rfl, rfl⟩

theorem power_any (n : Nat) (w : World) (hn : n < 64) :
    Calls Try.prog 32 #[.int .i64 n] w (Gives (.int .u64 ((pw n : Nat) : Int)) w) :=
  (power_same n w hn).mono fun _ _ ⟨he, hw⟩ => ⟨he, hw ▸ Below.refl _ _⟩

set_option maxHeartbeats 1000000 in
theorem rhas_any (m : Nat → Bool) (b : Nat) (w : World) (hb : b < 256) :
    Calls Try.prog 16 #[.agg #[.int .u64 ((word m 0 : Nat) : Int), .int .u64 ((word m 1 : Nat) : Int), .int .u64 ((word m 2 : Nat) : Int), .int .u64 ((word m 3 : Nat) : Int)], .int .i64 b] w (Gives (.bool (m b)) w) := by
  have hc := cell_regrown (set_cell w m 25 (b / 64) (by omega))
  have hp := pw_pos (b % 64)
  have hp2 : ((pw (b % 64) : Nat) : Int) ≠ 0 := by omega
  have hp3 : (((pw (b % 64) : Nat) : Int) == 0) = false := by rw [beq_eq_false_iff_ne]; omega
  have HP := power_any (b % 64)
  go_enter Try.func16, Try.ntmps16
  go_wp2
  refine wp_region_quiet_below (by kernel_rfl) (by kernel_rfl) ?_
  repeat (go_big_quiet_step ((go_at_call 32; exact gives_quiet (HP _ (by omega)))))
  refine wpQuiet_nil ?_
  intro w5 hw5
  have HB5 := below_of hw5
  clear hw5 hc
  go_wp2
  go_ret
  refine ⟨?_, below_then ((Below.refl _ _).alloc (Nat.le_refl _) _) HB5⟩
  simp [word_rhas']

/-- Those of a row of answers. -/
def sBools (l : List Bool) : Nat → Bool := fun b => l.getD b false

/-- Those below k. -/
def sCut (m : Nat → Bool) (k : Nat) : Nat → Bool := fun b => m b && decide (b < k)

theorem sCut_no (m : Nat → Bool) (k : Nat) (h : m k = false) : sCut m (k + 1) = sCut m k := by
  funext x
  simp only [sCut]
  rw [Bool.eq_iff_iff]
  simp
  intro hx
  have : x ≠ k := fun e => by subst e; rw [h] at hx; cases hx
  omega

theorem sCut_yes (m : Nat → Bool) (k : Nat) (h : m k = true) : sCut m (k + 1) = sIns (sCut m k) k := by
  funext x
  simp only [sCut, sIns]
  rw [Bool.eq_iff_iff]
  simp
  constructor
  · rintro ⟨h1, h2⟩
    by_cases e : x = k
    · exact .inr e
    · exact .inl ⟨h1, by omega⟩
  · rintro (⟨h1, h2⟩ | rfl)
    · exact ⟨h1, by omega⟩
    · exact ⟨h, by omega⟩

theorem sCells_plus (m : Nat → Bool) (b : Nat) (h : b < 256) (hm : m b = false) : (sCells m).setIfInBounds (b / 64) (.int .u64 (((word m (b / 64) : Nat) : Int) + ((pw (b % 64) : Nat) : Int))) = sCells (sIns m b) := by
  rw [← Int.natCast_add, word_plus m b hm]
  exact sCells_set _ _ _ (by omega) fun j hj => word_ins_other m b j hj

/-- A row of answers, as values. -/
def boolVals (l : List Bool) : List Value := l.map Value.bool

theorem bool_cell {w : World} {B n : Nat} {A : Option Addr} {l : List Bool} (HR : Reads w B 1 A n (boolVals l)) (k : Nat) (hk : k < l.length) :
    ∃ ad, A = some ad ∧ w.cell? (ad.add k) = some (.bool l[k]) := by
  have hn := HR.1
  simp [boolVals] at hn
  obtain ⟨ad, e, _, hc⟩ := HR.2 (by omega)
  exact ⟨ad, e, hc k _ (by simp [boolVals, hk])⟩

set_option maxRecDepth 100000 in
set_option maxHeartbeats 1000000 in
theorem make_any (A : Option Addr) (n c B : Nat) (l : List Bool) (w : World) (HR0 : Reads w B 1 A n (boolVals l)) (hB : B ≤ w.heap.size) (hl : l.length = 256) (hc : n ≤ c) (hm : c ≤ maxLen) :
    Calls Try.prog 31 #[.slice A n c] w (Gives (.agg #[.int .u64 ((word ((sBools l)) 0 : Nat) : Int), .int .u64 ((word ((sBools l)) 1 : Nat) : Int), .int .u64 ((word ((sBools l)) 2 : Nat) : Int), .int .u64 ((word ((sBools l)) 3 : Nat) : Int)]) w) := by
  have HR := HR0.more hB
  clear HR0
  have hn := HR.1
  simp [boolVals] at hn
  subst hn
  unfold maxLen at hm
  have HLen := Lib.hid hl
  have hlen : 256 ≤ l.length := by omega
  clear hl
  go_enter Try.func31, Try.ntmps31
  go_wp2
  go_loopw [4] (fun i wr => ∃ k : Nat, k ≤ 256 ∧ i = .int .i64 k ∧ Blk wr (w.heap.size + 1) 25 (sCells (sCut (sBools l) k)) ∧
    Blk wr w.heap.size 25 #[.int .u64 0, .int .u64 0, .int .u64 0, .int .u64 0] ∧ Below w.heap.size w wr) (fun i _ => 256 - (intOf i).toNat)
  case atStart =>
    refine ⟨0, by omega, rfl, ?_, ?_, (((Below.refl _ _).alloc (Nat.le_refl _) _).alloc (by simp) _)⟩
    · rw [sCells_none _ (fun b => by simp [sCut])]
      have := Blk.new (w.alloc (.cells #[.int .u64 0, .int .u64 0, .int .u64 0, .int .u64 0] 25)) 25 #[.int .u64 0, .int .u64 0, .int .u64 0, .int .u64 0]
      simp only [World.size_alloc] at this
      exact this
    · exact (Blk.new w _ _).alloc _
  case round =>
    obtain ⟨k, hk, rfl, hb0, hb2, HB⟩ := hrel
    by_cases hlt : k < 256
    · obtain ⟨ad, rfl, hck⟩ := bool_cell (HR.below HB) k (by omega)
      have hkl : k < l.length := by omega
      have em : sBools l k = l[k] := by unfold sBools; rw [List.getD_eq_getElem?_getD, List.getElem?_eq_getElem hkl]; rfl
      cases hb : l[k]
      · have E := Lib.hid (sCut_no (sBools l) k (em.trans hb))
        rw [hb] at hck
        clear em hb
        go_wp2
        go_roundw
        case rel => exact ⟨k + 1, by omega, by go_num, by rw [E.out]; exact hb0, hb2, HB⟩
        case measure => simp [intOf]; omega
      · have E := Lib.hid (sCut_yes (sBools l) k (em.trans hb))
        have hno : sCut (sBools l) k k = false := by simp [sCut]
        have EN := Lib.hid (sCells_plus (sCut (sBools l) k) k hlt hno)
        have hsum := word_plus (sCut (sBools l) k) k hno
        have hsl := word_lt (sIns (sCut (sBools l) k) k) (k / 64)
        rw [← hsum] at hsl
        have hW : IntKind.u64.wrap (((word (sCut (sBools l) k) (k / 64) : Nat) : Int) + ((pw (k % 64) : Nat) : Int)) = ((word (sCut (sBools l) k) (k / 64) : Nat) : Int) + ((pw (k % 64) : Nat) : Int) := by
          rw [IntKind.wrap_u64]; omega
        clear hno hsum hsl
        rw [hb] at hck
        clear em hb
        have c0 := hb0.cellAt (k / 64) (by omega)
        have f0 := hb0.frozen (k / 64)
        have hp := power_same (k % 64)
        have hi0 : (0 : Int) ≤ (k : Int) / 64 := by omega
        have hi1 : (k : Int) / 64 < 4 := by omega
        have hi2 : k / 64 < 4 := by omega
        have hq1 : IntKind.i64.wrap ((k : Int) / 64) = (k : Int) / 64 := IntWalk.i64_in _ (by omega)
        have hq2 : ((k : Int) / 64).toNat = k / 64 := by omega
        have hq3 : (k : Int).tmod 64 = ((k % 64 : Nat) : Int) := by rw [Int.tmod_eq_emod_of_nonneg (by omega)]; rfl
        have hi3 : k % 64 < 64 := by omega
        go_wp2
        go_region_with (go_at_call 32; refine (hp _ (by omega)).mono ?_; rintro e w' ⟨rfl, rfl⟩)
        all_goals
          go_wp2
          go_roundw
          case rel =>
            refine ⟨k + 1, by omega, by go_num, ?_, (hb2.far (p := ⟨w.heap.size + 1, k / 64, none⟩) (by simp) _), (HB.setCell (p := ⟨w.heap.size + 1, k / 64, none⟩) (by simp) _).drew⟩
            rw [E.out, ← EN.out]
            exact (hb0.set_ (k / 64) _)
          case measure => simp [intOf]; omega
    · have e1 : k = 256 := by omega
      have e2 : sCells (sCut (sBools l) k) = sCells (sBools l) := by
        refine sCells_congr fun i hi => word_ext fun j hj => ?_
        unfold sCut
        have : (64 * i + j < k) = True := by apply propext; simp; omega
        simp [this]
      rw [e2] at hb0
      clear e1 e2
      obtain ⟨c0, c1, c2, c3⟩ := hb0.cells4
      have g0 := hb2.cell 0
      have g1 := hb2.cell 1
      have g2 := hb2.cell 2
      have g3 := hb2.cell 3
      have f0 := hb2.frozen 0
      have f1 := hb2.frozen 1
      have f2 := hb2.frozen 2
      have f3 := hb2.frozen 3
      simp at g0 g1 g2 g3
      go_wp2
      exact bodyPost_ret (v := .agg #[.int .u64 ((word ((sBools l)) 0 : Nat) : Int), .int .u64 ((word ((sBools l)) 1 : Nat) : Int), .int .u64 ((word ((sBools l)) 2 : Nat) : Int), .int .u64 ((word ((sBools l)) 3 : Nat) : Int)]) (by simp [results, Try.results31, go_sem, g0, g1, g2, g3]) rfl
        ⟨rfl, (((HB.setCell (p := ⟨w.heap.size, 0, none⟩) (by simp) _).setCell (p := ⟨w.heap.size, 1, none⟩) (by simp) _).setCell (p := ⟨w.heap.size, 2, none⟩) (by simp) _).setCell (p := ⟨w.heap.size, 3, none⟩) (by simp) _⟩

end Go.Proofs.Ytbjgkolldmplkaa
