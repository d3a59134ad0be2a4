/- The walks of each and of Through. -/
import Derived.Test.YtgaboipigdkefaaSpan3
namespace Go.Proofs.Ytgaboipigdkefaa
open Go.RowKit Go.Sort

theorem all_take (q : Int × Int → Bool) (l : List (Int × Int)) (k : Nat) (hk : k < l.length) : (l.take (k + 1)).all q = ((l.take k).all q && q l[k]) := by
  rw [List.take_succ_eq_append_getElem hk, List.all_append]
  simp only [List.all_cons, List.all_nil, Bool.and_true]

theorem all_fails (q : Int × Int → Bool) (l : List (Int × Int)) (k : Nat) (hk : k < l.length) (h : q l[k] = false) : l.all q = false := by
  rw [List.all_eq_false]
  exact ⟨_, List.getElem_mem hk, by simp [h]⟩

def mays (n : Int) (l : List (Int × Int)) : Bool := l.all fun p => may n p.1 p.2

set_option maxHeartbeats 1000000 in
theorem each_any (N : Int) (gp : Nat) (A : Option Addr) (n c B : Nat) (l : List (Int × Int)) (w : World) (HR0 : Reads w B 2 A n (spanVals l)) (hB : B ≤ w.heap.size) (hc : n ≤ c) (hm : c ≤ maxLen)
    (hN : w.cell? ⟨gp, 0, none⟩ = some (.int .i64 N)) (hgp : gp < w.heap.size) :
    Calls Try.prog 38 #[.slice A n c, .func (.func 37) #[] #[.pointer (some ⟨gp, 0, none⟩)]] w (Gives (.bool (mays N l)) w) := by
  have HR := HR0.more hB
  clear HR0
  have hn := HR.1
  rw [spanVals_length] at hn
  have hn2 : n = l.length := by omega
  subst hn2
  clear hn
  unfold maxLen at hm
  go_enter Try.func38, Try.ntmps38
  go_wp2
  go_loopw [6, 9] (fun _ i wr => ∃ k : Nat, k ≤ l.length ∧ i = .int .i64 k ∧ mays N (l.take k) = true ∧ Below w.heap.size w wr) (fun _ i _ => l.length - (intOf i).toNat)
  case atStart => exact ⟨0, by omega, rfl, rfl, Below.refl _ _⟩
  case round =>
    obtain ⟨k, hk, rfl, hall, HB⟩ := hrel
    have hsz := HB.size
    by_cases hlt : k < l.length
    · obtain ⟨g, o, rfl, hgB, hck, hck'⟩ := span_cell (HR.below HB) k hlt
      have E := Lib.hid (all_take (fun p => may N p.1 p.2) l k hlt)
      have E2 := Lib.hid (all_fails (fun p => may N p.1 p.2) l k hlt)
      have E3 := Lib.hid hall
      clear hall
      have hNr := (World.cell?_alloc_lt wr (.cells #[.int .i64 l[k].1, .int .i64 l[k].2] 35) ⟨gp, 0, none⟩ (by simp; omega)).trans ((HB.cell (p := ⟨gp, 0, none⟩) hgp).trans hN)
      generalize l[k] = p1 at *
      have hC := errOf_same N p1.1 p1.2
      cases hq : may N p1.1 p1.2
      all_goals
        rw [hq] at hC
        have EQ := Lib.hid hq
        clear hq
        go_wp2_with (go_at_call 37; refine (hC _ gp hNr).mono ?_; rintro e w1 ⟨rfl, HB1⟩)
      · go_ret
        exact ⟨by rw [show mays N l = false from E2.out EQ.out]; try rfl, (HB.alloc (by omega) _).trans (HB1.mono (by simp; omega))⟩
      · go_roundw
        case rel => exact ⟨k + 1, by omega, by go_num, by unfold mays at *; rw [E.out, E3.out, EQ.out]; try rfl, (HB.alloc (by omega) _).trans (HB1.mono (by simp; omega))⟩
        case measure => simp [intOf]; omega
    · have e : k = l.length := by omega
      subst e
      rw [List.take_length] at hall
      go_wp2
      go_ret
      exact ⟨by rw [hall]; rfl, HB⟩

theorem Reads.mid2 {w : World} {B : Nat} {g o : Nat} {l : List (Int × Int)} (h : Reads w B 2 (some ⟨g, o, none⟩) l.length (spanVals l)) (i j : Nat) (hij : i ≤ j) (hj : j ≤ l.length) :
    Reads w B 2 (some ⟨g, o + i * 2, none⟩) (j - i) (spanVals ((l.drop i).take (j - i))) := by
  refine ⟨by rw [spanVals_length, List.length_take, List.length_drop]; omega, fun h0 => ?_⟩
  obtain ⟨ad, e, hB, hc⟩ := h.2 (by omega)
  injection e with e
  subst e
  refine ⟨_, rfl, hB, fun q u hu => ?_⟩
  rw [add_mk, show o + i * 2 + q = o + (i * 2 + q) by omega, ← add_mk]
  have hlen : q < (spanVals ((l.drop i).take (j - i))).length := (List.getElem?_eq_some_iff.1 hu).1
  rw [spanVals_length, List.length_take, List.length_drop] at hlen
  refine hc _ u ?_
  rw [← hu]
  have hk : ∀ (L : List (Int × Int)) (k : Nat) (hk : k < L.length) (r : Nat), r < 2 → (spanVals L)[k * 2 + r]? = some (.int .i64 (if r = 0 then L[k].1 else L[k].2)) := by
    intro L k hk r hr
    obtain ⟨h1, h2⟩ := spanVals_get L k hk
    rcases Nat.lt_or_ge r 1 with h | h
    · obtain rfl : r = 0 := by omega
      simpa using h1
    · obtain rfl : r = 1 := by omega
      simpa using h2
  have hqd : q = q / 2 * 2 + q % 2 := by omega
  have h1 := hk l (i + q / 2) (by omega) (q % 2) (by omega)
  have h2 := hk ((l.drop i).take (j - i)) (q / 2) (by rw [List.length_take, List.length_drop]; omega) (q % 2) (by omega)
  rw [show i * 2 + q = (i + q / 2) * 2 + q % 2 by omega, h1]
  conv => rhs; rw [hqd]
  rw [h2]
  simp

/-- Where an empty span stood. -/
def atOf (l : List (Int × Int)) (a : Nat) : Int := if 0 < a then (l.getD (a - 1) (0, 0)).2 else if 0 < l.length then (l.getD 0 (0, 0)).1 else 0

/-- The answer of Through. -/
def thrV (n : Int) (l : List (Int × Int)) (a b : Int) : Value :=
  if 0 ≤ n ∧ mays n l = true ∧ may l.length a b = true then
    if a < b then allV ((l.drop a.toNat).take (b.toNat - a.toNat)) else .tuple #[.agg #[.int .i64 (atOf l a.toNat), .int .i64 (atOf l a.toNat)], .int .i64 0]
  else .tuple #[.agg #[.int .i64 (0), .int .i64 (0)], .int .i64 1]

set_option maxHeartbeats 1000000 in
theorem thr_neg (N : Int) (A : Option Addr) (n c : Nat) (a b : Int) (w : World) (hN : N < 0) :
    Calls Try.prog 18 #[.slice A n c, .agg #[.int .i64 (a), .int .i64 (b)], .int .i64 N] w (Gives (.tuple #[.agg #[.int .i64 (0), .int .i64 (0)], .int .i64 1]) w) := by
  go_enter Try.func18, Try.ntmps18
  go_wp2
  exact bodyPost_ret (v := .tuple #[.agg #[.int .i64 (0), .int .i64 (0)], .int .i64 1]) (by simp [results, Try.results18, go_sem]) rfl
    ⟨rfl, (((Below.refl _ _).alloc (Nat.le_refl _) _).alloc (by simp) _).alloc (by simp; omega) _⟩

/-- The world in which Through stands behind its boxes. -/
def thrW (w : World) (N a b : Int) : World := ((w.alloc (.cells #[.int .i64 a, .int .i64 b] 35)).alloc (.cells #[.int .i64 N] 3)).alloc (.cells #[.int .i64 0, .int .i64 0] 35)

structure ThrB (w : World) (N a b : Int) (w' : World) : Prop where
  hs : Blk w' w.heap.size 35 #[.int .i64 a, .int .i64 b]
  hn : Blk w' (w.heap.size + 1) 3 #[.int .i64 N]
  hr : Blk w' (w.heap.size + 2) 35 #[.int .i64 0, .int .i64 0]
  hb : Below w.heap.size w w'

theorem ThrB.new (w : World) (N a b : Int) : ThrB w N a b (thrW w N a b) := by
  unfold thrW
  refine ⟨((Blk.new w _ _).alloc _).alloc _, ?_, ?_, (((Below.refl _ _).alloc (Nat.le_refl _) _).alloc (by simp) _).alloc (by simp; omega) _⟩
  · have := (Blk.new (w.alloc (.cells #[.int .i64 a, .int .i64 b] 35)) 3 #[.int .i64 N]).alloc (.cells #[.int .i64 0, .int .i64 0] 35)
    simp only [World.size_alloc] at this
    exact this
  · have := Blk.new ((w.alloc (.cells #[.int .i64 a, .int .i64 b] 35)).alloc (.cells #[.int .i64 N] 3)) 35 #[.int .i64 0, .int .i64 0]
    simp only [World.size_alloc] at this
    exact this

theorem ThrB.call {w : World} {N a b : Int} {w' w1 : World} (h : ThrB w N a b w') (hb : Below w'.heap.size w' w1) : ThrB w N a b w1 :=
  ⟨h.hs.below hb h.hs.lt, h.hn.below hb h.hn.lt, h.hr.below hb h.hr.lt, h.hb.trans (hb.mono h.hb.size)⟩

theorem ThrB.facts {w : World} {N a b : Int} {w' : World} (h : ThrB w N a b w') :
    w'.cell? ⟨w.heap.size, 0, none⟩ = some (.int .i64 a) ∧ w'.cell? ⟨w.heap.size, 1, none⟩ = some (.int .i64 b) ∧ w'.cell? ⟨w.heap.size + 1, 0, none⟩ = some (.int .i64 N) ∧
    w'.cell? ⟨w.heap.size + 1 + 1, 0, none⟩ = some (.int .i64 0) ∧ w'.cell? ⟨w.heap.size + 1 + 1, 1, none⟩ = some (.int .i64 0) ∧
    w'.frozen? ⟨w.heap.size + 1 + 1, 0, none⟩ = false ∧ w'.frozen? ⟨w.heap.size + 1 + 1, 1, none⟩ = false :=
  ⟨h.hs.cells2.1, h.hs.cells2.2, by rw [h.hn.cell]; rfl, h.hr.cells2.1, h.hr.cells2.2, h.hr.frozen 0, h.hr.frozen 1⟩

theorem ThrB.res {w : World} {N a b : Int} {w' : World} (h : ThrB w N a b w') (x y : Int) :
    (w'.setCell ⟨w.heap.size + 1 + 1, 0, none⟩ (.int .i64 x)).cell? ⟨w.heap.size + 1 + 1, 0, none⟩ = some (.int .i64 x) ∧
    ((w'.setCell ⟨w.heap.size + 1 + 1, 0, none⟩ (.int .i64 x)).setCell ⟨w.heap.size + 1 + 1, 1, none⟩ (.int .i64 y)).cell? ⟨w.heap.size + 1 + 1, 1, none⟩ = some (.int .i64 y) ∧
    Below w.heap.size w ((w'.setCell ⟨w.heap.size + 1 + 1, 0, none⟩ (.int .i64 x)).setCell ⟨w.heap.size + 1 + 1, 1, none⟩ (.int .i64 y)) := by
  have q0 := (h.hr.set_ 0 (.int .i64 x)).cell 0
  have q1 := ((h.hr.set_ 0 (.int .i64 x)).set_ 1 (.int .i64 y)).cell 1
  simp at q0 q1
  exact ⟨q0, q1, (h.hb.setCell (p := ⟨w.heap.size + 2, 0, none⟩) (by simp) _).setCell (p := ⟨w.heap.size + 2, 1, none⟩) (by simp) _⟩

set_option maxHeartbeats 4000000 in
theorem thr_no1 (N : Int) (A : Option Addr) (n c B : Nat) (l : List (Int × Int)) (a b : Int) (w : World) (HR0 : Reads w B 2 A n (spanVals l)) (hB : B ≤ w.heap.size) (hc : n ≤ c) (hm : c ≤ maxLen)
    (hN : 0 ≤ N) (h1 : mays N l = false) :
    Calls Try.prog 18 #[.slice A n c, .agg #[.int .i64 (a), .int .i64 (b)], .int .i64 N] w (Gives (.tuple #[.agg #[.int .i64 (0), .int .i64 (0)], .int .i64 1]) w) := by
  have hT := ThrB.new w N a b
  obtain ⟨c0, c1, cN, c2, c3, f0, f1⟩ := hT.facts
  have HR := (HR0.more hB).below hT.hb
  have hE := each_any N (w.heap.size + 1) A n c _ l _ HR hT.hb.size hc hm cN hT.hn.lt
  rw [h1] at hE
  unfold thrW at *
  go_enter Try.func18, Try.ntmps18
  go_wp2_with (go_at_call 38; refine hE.mono ?_; rintro e w4 ⟨rfl, HB4⟩; have hT4 := hT.call HB4; obtain ⟨d0, d1, dN, d2, d3, e0, e1⟩ := hT4.facts)
  obtain ⟨q0, q1, qb⟩ := hT4.res 0 0
  exact bodyPost_ret (v := .tuple #[.agg #[.int .i64 (0), .int .i64 (0)], .int .i64 1]) (by simp [results, Try.results18, go_sem, q0, q1]) rfl ⟨rfl, qb⟩

set_option maxHeartbeats 4000000 in
theorem thr_no2 (N : Int) (A : Option Addr) (n c B : Nat) (l : List (Int × Int)) (a b : Int) (w : World) (HR0 : Reads w B 2 A n (spanVals l)) (hB : B ≤ w.heap.size) (hc : n ≤ c) (hm : c ≤ maxLen)
    (hN : 0 ≤ N) (h1 : mays N l = true) (h2 : may n a b = false) :
    Calls Try.prog 18 #[.slice A n c, .agg #[.int .i64 (a), .int .i64 (b)], .int .i64 N] w (Gives (.tuple #[.agg #[.int .i64 (0), .int .i64 (0)], .int .i64 1]) w) := by
  have hT := ThrB.new w N a b
  obtain ⟨c0, c1, cN, c2, c3, f0, f1⟩ := hT.facts
  have HR := (HR0.more hB).below hT.hb
  have hE := each_any N (w.heap.size + 1) A n c _ l _ HR hT.hb.size hc hm cN hT.hn.lt
  have hC := check_any n a b
  rw [h1] at hE
  rw [h2] at hC
  simp only [errOf, Bool.false_eq_true, if_false] at hC
  unfold thrW at *
  go_enter Try.func18, Try.ntmps18
  go_wp2_with (first
    | (go_at_call 38; refine hE.mono ?_; rintro e w4 ⟨rfl, HB4⟩; have hT4 := hT.call HB4; obtain ⟨d0, d1, dN, d2, d3, e0, e1⟩ := hT4.facts)
    | (go_at_call 19; refine (hC _).mono ?_; rintro e w5 ⟨rfl, HB5⟩; have hT5 := hT4.call HB5; obtain ⟨d0', d1', dN', d2', d3', e0', e1'⟩ := hT5.facts))
  obtain ⟨q0, q1, qb⟩ := hT5.res 0 0
  exact bodyPost_ret (v := .tuple #[.agg #[.int .i64 (0), .int .i64 (0)], .int .i64 1]) (by simp [results, Try.results18, go_sem, q0, q1]) rfl ⟨rfl, qb⟩

theorem may_nat {n : Nat} {a b : Int} (h : may n a b = true) : ∃ i j : Nat, a = i ∧ b = j ∧ i ≤ j ∧ j ≤ n := by
  unfold may at h
  simp at h
  exact ⟨a.toNat, b.toNat, by omega, by omega, by omega, by omega⟩

set_option maxHeartbeats 4000000 in
theorem thr_part (N : Int) (g o c B : Nat) (l : List (Int × Int)) (i j : Nat) (w : World) (HR0 : Reads w B 2 (some ⟨g, o, none⟩) l.length (spanVals l)) (hB : B ≤ w.heap.size) (hc : l.length ≤ c) (hm : c ≤ maxLen)
    (hN : 0 ≤ N) (h1 : mays N l = true) (hij : i < j) (hj : j ≤ l.length) (x y e : Int) (hv : allV ((l.drop i).take (j - i)) = .tuple #[.agg #[.int .i64 (x), .int .i64 (y)], .int .i64 e]) :
    Calls Try.prog 18 #[.slice (some ⟨g, o, none⟩) l.length c, .agg #[.int .i64 ((i : Int)), .int .i64 ((j : Int))], .int .i64 N] w (Gives (.tuple #[.agg #[.int .i64 (x), .int .i64 (y)], .int .i64 e]) w) := by
  have hT := ThrB.new w N i j
  obtain ⟨c0, c1, cN, c2, c3, f0, f1⟩ := hT.facts
  have HR := (HR0.more hB).below hT.hb
  have hE := each_any N (w.heap.size + 1) (some ⟨g, o, none⟩) l.length c _ l _ HR hT.hb.size hc hm cN hT.hn.lt
  have hC := check_any l.length i j
  have h2 : may l.length i j = true := by unfold may; simp; omega
  rw [h1] at hE
  rw [h2] at hC
  have hA : ∀ W, Below w.heap.size w W → Calls Try.prog 28 #[.slice (some ⟨g, o + i * 2, none⟩) (j - i) (c - i)] W (Gives (.tuple #[.agg #[.int .i64 (x), .int .i64 (y)], .int .i64 e]) W) := fun W hW => by
    rw [← hv]
    exact all_any _ _ _ _ _ W ((((HR0.more hB).below hW)).mid2 i j (by omega) hj) hW.size (by omega) (by omega)
  clear hv h1 h2
  simp only [errOf, if_true] at hC
  unfold maxLen at hm
  unfold thrW at *
  have hlt : (i : Int) < j := by omega
  go_enter Try.func18, Try.ntmps18
  go_wp2_with (first
    | (go_at_call 38; refine hE.mono ?_; rintro e w4 ⟨rfl, HB4⟩; have hT4 := hT.call HB4; obtain ⟨d0, d1, dN, d2, d3, e0, e1⟩ := hT4.facts)
    | (go_at_call 19; refine (hC _).mono ?_; rintro e w5 ⟨rfl, HB5⟩; have hT5 := hT4.call HB5; obtain ⟨d0', d1', dN', d2', d3', e0', e1'⟩ := hT5.facts)
    | (go_at_call 28; refine (hA _ hT5.hb).mono ?_; rintro e w6 ⟨rfl, HB6⟩; have hT6 := hT5.call HB6; obtain ⟨p0', p1', pN', p2', p3', q0', q1'⟩ := hT6.facts))
  obtain ⟨q0, q1, qb⟩ := hT6.res x y
  exact bodyPost_ret (v := .tuple #[.agg #[.int .i64 (x), .int .i64 (y)], .int .i64 e]) (by simp [results, Try.results18, go_sem, q0, q1]) rfl ⟨rfl, qb⟩

set_option maxHeartbeats 4000000 in
theorem thr_zero (N : Int) (g o c B : Nat) (l : List (Int × Int)) (w : World) (HR0 : Reads w B 2 (some ⟨g, o, none⟩) l.length (spanVals l)) (hB : B ≤ w.heap.size) (hc : l.length ≤ c) (hm : c ≤ maxLen)
    (hN : 0 ≤ N) (h1 : mays N l = true) (hl : 0 < l.length) :
    Calls Try.prog 18 #[.slice (some ⟨g, o, none⟩) l.length c, .agg #[.int .i64 (0), .int .i64 (0)], .int .i64 N] w (Gives (.tuple #[.agg #[.int .i64 (l[0].1), .int .i64 (l[0].1)], .int .i64 0]) w) := by
  have hT := ThrB.new w N 0 0
  obtain ⟨c0, c1, cN, c2, c3, f0, f1⟩ := hT.facts
  have HR := (HR0.more hB).below hT.hb
  have hE := each_any N (w.heap.size + 1) (some ⟨g, o, none⟩) l.length c _ l _ HR hT.hb.size hc hm cN hT.hn.lt
  have hC := check_any l.length 0 0
  have h2 : may l.length 0 0 = true := by unfold may; simp
  rw [h1] at hE
  rw [h2] at hC
  have hA : ∀ W, Below w.heap.size w W → W.cell? ⟨g, o, none⟩ = some (.int .i64 l[0].1) := fun W hW => by
    obtain ⟨g', o', e, _, h3, _⟩ := span_cell ((HR0.more hB).below hW) 0 hl
    injection e with e
    injection e with e1 e2 e3
    subst e1 e2
    simpa using h3
  clear h1 h2
  simp only [errOf, if_true] at hC
  unfold maxLen at hm
  unfold thrW at *
  have hlt : (0 : Int) < (l.length : Int) := by omega
  generalize l[0].1 = x at *
  go_enter Try.func18, Try.ntmps18
  go_wp2_with (first
    | (go_at_call 38; refine hE.mono ?_; rintro e w4 ⟨rfl, HB4⟩; have hT4 := hT.call HB4; obtain ⟨d0, d1, dN, d2, d3, e0, e1⟩ := hT4.facts)
    | (go_at_call 19; refine (hC _).mono ?_; rintro e w5 ⟨rfl, HB5⟩; have hT5 := hT4.call HB5; have hx := hA _ hT5.hb; obtain ⟨d0', d1', dN', d2', d3', e0', e1'⟩ := hT5.facts))
  obtain ⟨q0, q1, qb⟩ := hT5.res x x
  exact bodyPost_ret (v := .tuple #[.agg #[.int .i64 (x), .int .i64 (x)], .int .i64 0]) (by simp [results, Try.results18, go_sem, q0, q1]) rfl ⟨rfl, qb⟩

set_option maxHeartbeats 4000000 in
theorem thr_void (N : Int) (A : Option Addr) (c : Nat) (w : World) (hm : c ≤ maxLen) (hN : 0 ≤ N) :
    Calls Try.prog 18 #[.slice A 0 c, .agg #[.int .i64 (0), .int .i64 (0)], .int .i64 N] w (Gives (.tuple #[.agg #[.int .i64 (0), .int .i64 (0)], .int .i64 0]) w) := by
  have hT := ThrB.new w N 0 0
  obtain ⟨c0, c1, cN, c2, c3, f0, f1⟩ := hT.facts
  have hE := each_any N (w.heap.size + 1) A 0 c 0 [] _ ⟨by simp [spanVals], fun h => absurd h (by omega)⟩ (by omega) (by omega) hm cN hT.hn.lt
  have hC := check_any 0 0 0
  have h2 : may 0 0 0 = true := by decide
  rw [show mays N [] = true from rfl] at hE
  rw [h2] at hC
  simp only [errOf, if_true] at hC
  unfold maxLen at hm
  unfold thrW at *
  go_enter Try.func18, Try.ntmps18
  go_wp2_with (first
    | (go_at_call 38; refine hE.mono ?_; rintro e w4 ⟨rfl, HB4⟩; have hT4 := hT.call HB4; obtain ⟨d0, d1, dN, d2, d3, e0, e1⟩ := hT4.facts)
    | (go_at_call 19; refine (hC _).mono ?_; rintro e w5 ⟨rfl, HB5⟩; have hT5 := hT4.call HB5; obtain ⟨d0', d1', dN', d2', d3', e0', e1'⟩ := hT5.facts))
  obtain ⟨q0, q1, qb⟩ := hT5.res 0 0
  exact bodyPost_ret (v := .tuple #[.agg #[.int .i64 (0), .int .i64 (0)], .int .i64 0]) (by simp [results, Try.results18, go_sem, q0, q1]) rfl ⟨rfl, qb⟩

set_option maxHeartbeats 4000000 in
theorem thr_at (N : Int) (g o c B : Nat) (l : List (Int × Int)) (k q : Nat) (hq : q = k + 1) (w : World) (HR0 : Reads w B 2 (some ⟨g, o, none⟩) l.length (spanVals l)) (hB : B ≤ w.heap.size) (hc : l.length ≤ c) (hm : c ≤ maxLen)
    (hN : 0 ≤ N) (h1 : mays N l = true) (hl : k < l.length) :
    Calls Try.prog 18 #[.slice (some ⟨g, o, none⟩) l.length c, .agg #[.int .i64 ((q : Int)), .int .i64 ((q : Int))], .int .i64 N] w (Gives (.tuple #[.agg #[.int .i64 (l[k].2), .int .i64 (l[k].2)], .int .i64 0]) w) := by
  have hT := ThrB.new w N (q : Int) (q : Int)
  obtain ⟨c0, c1, cN, c2, c3, f0, f1⟩ := hT.facts
  have HR := (HR0.more hB).below hT.hb
  have hE := each_any N (w.heap.size + 1) (some ⟨g, o, none⟩) l.length c _ l _ HR hT.hb.size hc hm cN hT.hn.lt
  have hC := check_any l.length q q
  have h2 : may l.length q q = true := by unfold may; simp; omega
  rw [h1] at hE
  rw [h2] at hC
  have hA : ∀ W, Below w.heap.size w W → W.cell? ⟨g, o + k * 2 + 1, none⟩ = some (.int .i64 l[k].2) := fun W hW => by
    obtain ⟨g', o', e, _, _, h3⟩ := span_cell ((HR0.more hB).below hW) k hl
    injection e with e
    injection e with e1 e2 e3
    subst e1 e2
    exact h3
  clear h1 h2
  simp only [errOf, if_true] at hC
  unfold maxLen at hm
  unfold thrW at *
  have hlt : (0 : Int) < (q : Int) := by omega
  have hsub : IntKind.i64.wrap ((q : Int) - 1) = (k : Int) := by rw [IntWalk.i64_in _ (by omega)]; omega
  generalize l[k].2 = x at *
  have hql : q ≤ l.length := by omega
  have hkq : k < q := by omega
  clear hq
  go_enter Try.func18, Try.ntmps18
  go_wp2_with (first
    | (go_at_call 38; refine hE.mono ?_; rintro e w4 ⟨rfl, HB4⟩; have hT4 := hT.call HB4; obtain ⟨d0, d1, dN, d2, d3, e0, e1⟩ := hT4.facts)
    | (go_at_call 19; refine (hC _).mono ?_; rintro e w5 ⟨rfl, HB5⟩; have hT5 := hT4.call HB5; have hx := hA _ hT5.hb; obtain ⟨d0', d1', dN', d2', d3', e0', e1'⟩ := hT5.facts))
  obtain ⟨q0, q1, qb⟩ := hT5.res x x
  exact bodyPost_ret (v := .tuple #[.agg #[.int .i64 (x), .int .i64 (x)], .int .i64 0]) (by simp [results, Try.results18, go_sem, q0, q1]) rfl ⟨rfl, qb⟩

/-- Of All's answer: a span, and how it ended. -/
theorem allV_form (l : List (Int × Int)) : ∃ x y e, allV l = .tuple #[.agg #[.int .i64 (x), .int .i64 (y)], .int .i64 e] := by
  cases l with
  | nil => exact ⟨_, _, _, rfl⟩
  | cons p l => exact ⟨_, _, _, rfl⟩

theorem thr_any (N : Int) (A : Option Addr) (n c B : Nat) (l : List (Int × Int)) (a b : Int) (w : World) (HR0 : Reads w B 2 A n (spanVals l)) (hB : B ≤ w.heap.size) (hc : n ≤ c) (hm : c ≤ maxLen) :
    Calls Try.prog 18 #[.slice A n c, .agg #[.int .i64 (a), .int .i64 (b)], .int .i64 N] w (Gives (thrV N l a b) w) := by
  have hn := HR0.1
  rw [spanVals_length] at hn
  have hn2 : n = l.length := by omega
  subst hn2
  unfold thrV
  by_cases hN : 0 ≤ N
  · cases h1 : mays N l
    · rw [if_neg (by simp)]
      exact thr_no1 N A _ c B l a b w HR0 hB hc hm hN h1
    · cases h2 : may l.length a b
      · rw [if_neg (by simp)]
        exact thr_no2 N A _ c B l a b w HR0 hB hc hm hN h1 h2
      · rw [if_pos ⟨hN, rfl, rfl⟩]
        obtain ⟨i, j, rfl, rfl, hij, hj⟩ := may_nat h2
        by_cases hlt : i < j
        · rw [if_pos (by omega)]
          obtain ⟨x, y, e, hv⟩ := allV_form ((l.drop i).take (j - i))
          obtain ⟨g, o, rfl, _⟩ := span_cell HR0 0 (by omega)
          simp only [Int.toNat_natCast]
          rw [hv]
          exact thr_part N g o c B l i j w HR0 hB hc hm hN h1 hlt hj x y e hv
        · obtain rfl : i = j := by omega
          rw [if_neg (by omega)]
          simp only [Int.toNat_natCast]
          cases i with
          | zero =>
            by_cases hl : 0 < l.length
            · obtain ⟨g, o, rfl, _⟩ := span_cell HR0 0 (by omega)
              have e : atOf l 0 = l[0].1 := by
                unfold atOf
                rw [if_neg (by omega), if_pos hl, List.getD_eq_getElem?_getD, List.getElem?_eq_getElem hl]
                rfl
              rw [e]
              exact thr_zero N g o c B l w HR0 hB hc hm hN h1 hl
            · have e : l = [] := List.eq_nil_of_length_eq_zero (by omega)
              subst e
              exact thr_void N A c w hm hN
          | succ k =>
            obtain ⟨g, o, rfl, _⟩ := span_cell HR0 0 (by omega)
            have e : atOf l (k + 1) = l[k].2 := by
              unfold atOf
              rw [if_pos (by omega), Nat.add_sub_cancel, List.getD_eq_getElem?_getD, List.getElem?_eq_getElem (by omega)]
              rfl
            rw [e]
            exact thr_at N g o c B l k (k + 1) rfl w HR0 hB hc hm hN h1 (by omega)
  · rw [if_neg (by simp [hN])]
    exact thr_neg N A _ c a b w (by omega)

end Go.Proofs.Ytgaboipigdkefaa
