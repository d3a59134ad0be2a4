/- The walks of All and of the reference's All. -/
import Derived.Test.YtgaboipigdkefaaSpan2
import Derived.Deep.RegionHeld3
namespace Go.Proofs.Ytgaboipigdkefaa
open Go.RowKit Go.Sort

/-- What stays in the region of All. -/
def AllS (w : World) (g o : Nat) (p : Int × Int) (l : List (Int × Int)) (w' : World) : Prop :=
  Reads w' w.heap.size 2 (some ⟨g, o, none⟩) (l.length + 1) (spanVals (p :: l)) ∧ Below w.heap.size w w' ∧ ∃ x y, Blk w' w.heap.size 35 #[.int .i64 x, .int .i64 y]

theorem allS_all {w : World} {g o : Nat} {p : Int × Int} {l : List (Int × Int)} {w' : World} (h : AllS w g o p l w') :
    w'.cell? ⟨g, o, none⟩ = some (.int .i64 p.1) ∧ w'.cell? ⟨g, o + 1, none⟩ = some (.int .i64 p.2) ∧ AllS w g o p l w' := by
  obtain ⟨g', o', e, _, h1, h2⟩ := span_cell h.1 0 (by simp)
  injection e with e
  injection e with e1 e2 e3
  subst e1 e2
  simp at h1 h2
  exact ⟨h1, h2, h⟩

theorem allS_call {w : World} {g o : Nat} {p : Int × Int} {l : List (Int × Int)} {w' w1 : World} (h : AllS w g o p l w') (hb : Below w'.heap.size w' w1) : AllS w g o p l w1 := by
  obtain ⟨h1, h2, x, y, h3⟩ := h
  have hs := h2.size
  exact ⟨h1.below (hb.mono hs), h2.trans (hb.mono hs), x, y, h3.below hb h3.lt⟩

theorem allS_store {w : World} {g o : Nat} {p : Int × Int} {l : List (Int × Int)} {w' : World} (h : AllS w g o p l w') (x y : Int) :
    AllS w g o p l ((w'.setCell ⟨w.heap.size, 0, none⟩ (.int .i64 x)).setCell ⟨w.heap.size, 1, none⟩ (.int .i64 y)) := by
  obtain ⟨h1, h2, _, _, h3⟩ := h
  refine ⟨(h1.setCell (by simp) _).setCell (by simp) _, (h2.setCell (by simp) _).setCell (by simp) _, x, y, ?_⟩
  exact (h3.set_ 0 _).set_ 1 _

theorem allS_drew {w : World} {g o : Nat} {p : Int × Int} {l : List (Int × Int)} {w' : World} (h : AllS w g o p l w') : AllS w g o p l w'.drew :=
  ⟨h.1.drew, h.2.1.drew, h.2.2⟩

theorem allS_new {w : World} {B : Nat} {g o : Nat} {p : Int × Int} {l : List (Int × Int)} (HR : Reads w B 2 (some ⟨g, o, none⟩) (l.length + 1) (spanVals (p :: l))) (hB : B ≤ w.heap.size) :
    AllS w g o p l (w.alloc (.cells #[.int .i64 0, .int .i64 0] 35)) :=
  ⟨(HR.more hB).alloc (Nat.le_refl _) _, (Below.refl _ _).alloc (Nat.le_refl _) _, 0, 0, Blk.new w _ _⟩

theorem allS_blk {w : World} {g o : Nat} {p : Int × Int} {l : List (Int × Int)} {w' : World} (h : AllS w g o p l w') : ∃ x y : Int, w'.cell? ⟨w.heap.size, 0, none⟩ = some (.int .i64 x) ∧ w'.cell? ⟨w.heap.size, 1, none⟩ = some (.int .i64 y) ∧
    w'.frozen? ⟨w.heap.size, 0, none⟩ = false ∧ w'.frozen? ⟨w.heap.size, 1, none⟩ = false := by
  obtain ⟨_, _, x, y, h3⟩ := h
  exact ⟨x, y, h3.cells2.1, h3.cells2.2, h3.frozen 0, h3.frozen 1⟩

theorem gather_allS {w : World} {g o c : Nat} {p : Int × Int} {l : List (Int × Int)} {w' : World} (h : AllS w g o p l w') (h1 : c ≠ 1) (hc : l.length + 1 ≤ c) (hm : c ≤ maxLen) :
    Calls Try.prog 40 #[.agg #[.int .i64 (p.1), .int .i64 (p.2)], .slice (some ⟨g, o + 2, none⟩) l.length (c - 1)] w' (Gives (.agg #[.int .i64 ((hullL p l).1), .int .i64 ((hullL p l).2)]) w') := by
  have ht := h.1.tail2 hc
  rw [if_neg h1] at ht
  simp only [add_mk, Option.map_some] at ht
  exact gather_any p.1 p.2 _ _ _ _ l w' ht h.2.1.size (by omega) (by omega)

theorem gather_allS1 {g o : Nat} {p : Int × Int} {w' : World} :
    Calls Try.prog 40 #[.agg #[.int .i64 (p.1), .int .i64 (p.2)], .slice (some ⟨g, o, none⟩) 0 0] w' (Gives (.agg #[.int .i64 (p.1), .int .i64 (p.2)]) w') :=
  gather_any p.1 p.2 _ _ _ 0 [] w' ⟨by simp [spanVals], fun h => absurd h (by omega)⟩ (by omega) (by omega) (by decide)

set_option maxHeartbeats 4000000 in
theorem all_some2 (g o c B : Nat) (p : Int × Int) (l : List (Int × Int)) (w : World) (HR0 : Reads w B 2 (some ⟨g, o, none⟩) (l.length + 1) (spanVals (p :: l))) (hB : B ≤ w.heap.size) (h1 : c ≠ 1) (hc : l.length + 1 ≤ c) (hm : c ≤ maxLen) :
    Calls Try.prog 28 #[.slice (some ⟨g, o, none⟩) (l.length + 1) c] w (Gives (allV (p :: l)) w) := by
  have HA := allS_new HR0 hB
  have HAd := allS_drew HA
  have HA2 := allS_all HA
  have hm' := hm
  unfold maxLen at hm'
  have hs1 : (1 : Int) ≤ (l.length : Int) + 1 := by omega
  have hs2 : 1 ≤ l.length + 1 := by omega
  go_enter Try.func28, Try.ntmps28
  go_wp2
  go_region_held3 (fun w' => w'.cell? ⟨g, o, none⟩ = some (.int .i64 p.1) ∧ w'.cell? ⟨g, o + 1, none⟩ = some (.int .i64 p.2) ∧ AllS w g o p l w') (first | exact allS_all (by assumption) | exact allS_all (allS_store (by assumption) _ _) | go_keep)
    (first | (go_at_call 40; refine (gather_allS (by assumption) h1 hc hm).mono ?_; rintro e w1 ⟨rfl, HB1⟩; have hS1 := allS_call (by assumption) HB1; obtain ⟨x, y, d0, d1, f0, f1⟩ := allS_blk hS1))
  all_goals go_wp2
  all_goals
    obtain ⟨_, hB2, x', y', hb3⟩ := hS1
    have q0 := (hb3.set_ 0 (.int .i64 (hullL p l).1)).cell 0
    have q1 := ((hb3.set_ 0 (.int .i64 (hullL p l).1)).set_ 1 (.int .i64 (hullL p l).2)).cell 1
    simp at q0 q1
    exact bodyPost_ret (v := allV (p :: l)) (by simp [results, Try.results28, go_sem, allV, q0, q1]) rfl
      ⟨rfl, (hB2.setCell (p := ⟨w.heap.size, 0, none⟩) (by simp) _).setCell (p := ⟨w.heap.size, 1, none⟩) (by simp) _⟩

set_option maxHeartbeats 4000000 in
theorem all_some1 (g o B : Nat) (p : Int × Int) (w : World) (HR0 : Reads w B 2 (some ⟨g, o, none⟩) 1 (spanVals [p])) (hB : B ≤ w.heap.size) :
    Calls Try.prog 28 #[.slice (some ⟨g, o, none⟩) 1 1] w (Gives (allV [p]) w) := by
  have HA := allS_new (l := []) HR0 hB
  have HAd := allS_drew HA
  have HA2 := allS_all HA
  go_enter Try.func28, Try.ntmps28
  go_wp2
  go_region_held3 (fun w' => w'.cell? ⟨g, o, none⟩ = some (.int .i64 p.1) ∧ w'.cell? ⟨g, o + 1, none⟩ = some (.int .i64 p.2) ∧ AllS w g o p [] w') (first | exact allS_all (by assumption) | exact allS_all (allS_store (by assumption) _ _) | go_keep)
    (first | (go_at_call 40; refine (gather_allS1 (p := p) (g := g) (o := o)).mono ?_; rintro e w1 ⟨rfl, HB1⟩; have hS1 := allS_call (by assumption) HB1; obtain ⟨x, y, d0, d1, f0, f1⟩ := allS_blk hS1))
  all_goals go_wp2
  all_goals
    obtain ⟨_, hB2, x', y', hb3⟩ := hS1
    have q0 := (hb3.set_ 0 (.int .i64 (p).1)).cell 0
    have q1 := ((hb3.set_ 0 (.int .i64 (p).1)).set_ 1 (.int .i64 (p).2)).cell 1
    simp at q0 q1
    exact bodyPost_ret (v := allV [p]) (by simp [results, Try.results28, go_sem, allV, hullL, q0, q1]) rfl
      ⟨rfl, (hB2.setCell (p := ⟨w.heap.size, 0, none⟩) (by simp) _).setCell (p := ⟨w.heap.size, 1, none⟩) (by simp) _⟩

theorem all_any (A : Option Addr) (n c B : Nat) (l : List (Int × Int)) (w : World) (HR0 : Reads w B 2 A n (spanVals l)) (hB : B ≤ w.heap.size) (hc : n ≤ c) (hm : c ≤ maxLen) :
    Calls Try.prog 28 #[.slice A n c] w (Gives (allV l) w) := by
  have hn := HR0.1
  rw [spanVals_length] at hn
  have hn2 : n = l.length := by omega
  subst hn2
  cases l with
  | nil => exact all_none A c w
  | cons p l =>
    obtain ⟨g, o, rfl, _⟩ := span_cell HR0 0 (by simp)
    by_cases h1 : c = 1
    · subst h1
      have hl : l = [] := List.eq_nil_of_length_eq_zero (by simp only [List.length_cons] at hc; omega)
      subst hl
      exact all_some1 g o B p w HR0 hB
    · exact all_some2 g o c B p l w HR0 hB h1 hc hm

/-- What stays in the round of the reference's All. -/
def RAllS (w : World) (g o k : Nat) (n : Nat) (v q : Int × Int) (l : List (Int × Int)) (w' : World) : Prop :=
  Reads w' w.heap.size 2 (some ⟨g, o, none⟩) n (spanVals l) ∧ Below w.heap.size w w' ∧ Blk w' w.heap.size 35 #[.int .i64 0, .int .i64 0] ∧ Blk w' (w.heap.size + 1) 35 #[.int .i64 v.1, .int .i64 v.2] ∧ ∃ h : k < l.length, l[k] = q

end Go.Proofs.Ytgaboipigdkefaa
