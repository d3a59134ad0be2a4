/- The walk of the reference's Through. -/
import Derived.Test.YtgaboipigdkefaaSpan8
namespace Go.Proofs.Ytgaboipigdkefaa
open Go.RowKit Go.Sort

structure RThB (w : World) (a b : Int) (w' : World) : Prop where
  hs : Blk w' w.heap.size 35 #[.int .i64 a, .int .i64 b]
  hr : Blk w' (w.heap.size + 1) 35 #[.int .i64 0, .int .i64 0]
  hb : Below w.heap.size w w'

theorem RThB.new (w : World) (a b : Int) : RThB w a b ((w.alloc (.cells #[.int .i64 a, .int .i64 b] 35)).alloc (.cells #[.int .i64 0, .int .i64 0] 35)) := by
  refine ⟨(Blk.new w _ _).alloc _, ?_, ((Below.refl _ _).alloc (Nat.le_refl _) _).alloc (by simp) _⟩
  have := Blk.new (w.alloc (.cells #[.int .i64 a, .int .i64 b] 35)) 35 #[.int .i64 0, .int .i64 0]
  simp only [World.size_alloc] at this
  exact this

theorem RThB.call {w : World} {a b : Int} {w' w1 : World} (h : RThB w a b w') (hb : Below w'.heap.size w' w1) : RThB w a b w1 :=
  ⟨h.hs.below hb h.hs.lt, h.hr.below hb h.hr.lt, h.hb.trans (hb.mono h.hb.size)⟩

theorem RThB.facts {w : World} {a b : Int} {w' : World} (h : RThB w a b w') :
    w'.cell? ⟨w.heap.size, 0, none⟩ = some (.int .i64 a) ∧ w'.cell? ⟨w.heap.size, 1, none⟩ = some (.int .i64 b) ∧
    w'.cell? ⟨w.heap.size + 1, 0, none⟩ = some (.int .i64 0) ∧ w'.cell? ⟨w.heap.size + 1, 1, none⟩ = some (.int .i64 0) ∧
    w'.frozen? ⟨w.heap.size + 1, 0, none⟩ = false ∧ w'.frozen? ⟨w.heap.size + 1, 1, none⟩ = false :=
  ⟨h.hs.cells2.1, h.hs.cells2.2, h.hr.cells2.1, h.hr.cells2.2, h.hr.frozen 0, h.hr.frozen 1⟩

theorem RThB.res {w : World} {a b : Int} {w' : World} (h : RThB w a b w') (x y : Int) :
    (w'.setCell ⟨w.heap.size + 1, 0, none⟩ (.int .i64 x)).cell? ⟨w.heap.size + 1, 0, none⟩ = some (.int .i64 x) ∧
    ((w'.setCell ⟨w.heap.size + 1, 0, none⟩ (.int .i64 x)).setCell ⟨w.heap.size + 1, 1, none⟩ (.int .i64 y)).cell? ⟨w.heap.size + 1, 1, none⟩ = some (.int .i64 y) ∧
    Below w.heap.size w ((w'.setCell ⟨w.heap.size + 1, 0, none⟩ (.int .i64 x)).setCell ⟨w.heap.size + 1, 1, none⟩ (.int .i64 y)) := by
  have q0 := (h.hr.set_ 0 (.int .i64 x)).cell 0
  have q1 := ((h.hr.set_ 0 (.int .i64 x)).set_ 1 (.int .i64 y)).cell 1
  simp at q0 q1
  exact ⟨q0, q1, (h.hb.setCell (p := ⟨w.heap.size + 1, 0, none⟩) (by simp) _).setCell (p := ⟨w.heap.size + 1, 1, none⟩) (by simp) _⟩

set_option maxHeartbeats 1000000 in
theorem rthr_neg (N : Int) (A : Option Addr) (n c : Nat) (a b : Int) (w : World) (hN : N < 0) :
    Calls Try.prog 30 #[.slice A n c, .agg #[.int .i64 (a), .int .i64 (b)], .int .i64 N] w (Gives (.tuple #[.agg #[.int .i64 (0), .int .i64 (0)], .int .i64 1]) w) := by
  go_enter Try.func30, Try.ntmps30
  go_wp2
  exact bodyPost_ret (v := .tuple #[.agg #[.int .i64 (0), .int .i64 (0)], .int .i64 1]) (by simp [results, Try.results30, go_sem]) rfl
    ⟨rfl, ((Below.refl _ _).alloc (Nat.le_refl _) _).alloc (by simp) _⟩

set_option maxHeartbeats 8000000 in
/-- Where one of the row may not be, or the span may not. -/
theorem rthr_no (N : Int) (A : Option Addr) (n c B : Nat) (l : List (Int × Int)) (a b : Int) (w : World) (HR0 : Reads w B 2 A n (spanVals l)) (hB : B ≤ w.heap.size) (hc : n ≤ c) (hm : c ≤ maxLen)
    (hN : 0 ≤ N) (h1 : mays N l = false ∨ may l.length a b = false) :
    Calls Try.prog 30 #[.slice A n c, .agg #[.int .i64 (a), .int .i64 (b)], .int .i64 N] w (Gives (.tuple #[.agg #[.int .i64 (0), .int .i64 (0)], .int .i64 1]) w) := by
  have HR := HR0.more hB
  have hn := HR.1
  rw [spanVals_length] at hn
  have hn2 : n = l.length := by omega
  subst hn2
  clear hn HR0
  unfold maxLen at hm
  have H1 := Lib.hid h1
  clear h1
  have hT0 := RThB.new w a b
  go_enter Try.func30, Try.ntmps30
  go_wp2
  go_loopw [8] (fun i wr => ∃ k : Nat, k ≤ l.length ∧ i = .int .i64 k ∧ mays N (l.take k) = true ∧ RThB w a b wr) (fun i _ => l.length - (intOf i).toNat)
  case atStart => exact ⟨0, by omega, rfl, rfl, hT0⟩
  case round =>
    obtain ⟨k, hk, rfl, hall, hT⟩ := hrel
    obtain ⟨c0, c1, c2, c3, f0, f1⟩ := hT.facts
    by_cases hlt : k < l.length
    · obtain ⟨g, o, rfl, hgB, hck, hck'⟩ := span_cell (HR.below hT.hb) k hlt
      have E := Lib.hid (all_take (fun p => may N p.1 p.2) l k hlt)
      have E3 := Lib.hid hall
      clear hall
      generalize l[k] = p1 at *
      have hC := right_any N p1.1 p1.2
      cases hq : may N p1.1 p1.2
      all_goals
        rw [hq] at hC
        have EQ := Lib.hid hq
        clear hq
        go_wp2_with (go_at_call 31; refine (hC _).mono ?_; rintro e w1 ⟨rfl, HB1⟩; have hT1 := hT.call HB1; obtain ⟨d0, d1, d2, d3, e0, e1⟩ := hT1.facts)
      · obtain ⟨q0, q1, qb⟩ := hT1.res 0 0
        exact bodyPost_ret (v := .tuple #[.agg #[.int .i64 (0), .int .i64 (0)], .int .i64 1]) (by simp [results, Try.results30, go_sem, q0, q1]) rfl ⟨rfl, qb⟩
      · go_roundw
        case rel => exact ⟨k + 1, by omega, by go_num, by unfold mays at *; rw [E.out, E3.out, EQ.out]; rfl, hT1⟩
        case measure => simp [intOf]; omega
    · have e : k = l.length := by omega
      subst e
      rw [List.take_length] at hall
      have h2 : may l.length a b = false := by
        rcases H1.out with h | h
        · rw [hall] at h; cases h
        · exact h
      have hC := right_any l.length a b
      rw [h2] at hC
      clear h2 hall
      go_wp2_with (go_at_call 31; refine (hC _).mono ?_; rintro e w1 ⟨rfl, HB1⟩; have hT1 := hT.call HB1; obtain ⟨d0, d1, d2, d3, e0, e1⟩ := hT1.facts)
      obtain ⟨q0, q1, qb⟩ := hT1.res 0 0
      exact bodyPost_ret (v := .tuple #[.agg #[.int .i64 (0), .int .i64 (0)], .int .i64 1]) (by simp [results, Try.results30, go_sem, q0, q1]) rfl ⟨rfl, qb⟩

end Go.Proofs.Ytgaboipigdkefaa
