/- The walk of the reference's Through, told. -/
import Derived.Test.YtgaboipigdkefaaSpan9
namespace Go.Proofs.Ytgaboipigdkefaa
open Go.RowKit Go.Sort

set_option maxHeartbeats 8000000 in
theorem rthr_part (N : Int) (g o c B : Nat) (l : List (Int × Int)) (i j : Nat) (w : World) (HR0 : Reads w B 2 (some ⟨g, o, none⟩) l.length (spanVals l)) (hB : B ≤ w.heap.size) (hc : l.length ≤ c) (hm : c ≤ maxLen)
    (hN : 0 ≤ N) (h1 : mays N l = true) (hij : i < j) (hj : j ≤ l.length) (x y er : Int) (hv : allV ((l.drop i).take (j - i)) = .tuple #[.agg #[.int .i64 (x), .int .i64 (y)], .int .i64 er]) :
    Calls Try.prog 30 #[.slice (some ⟨g, o, none⟩) l.length c, .agg #[.int .i64 ((i : Int)), .int .i64 ((j : Int))], .int .i64 N] w (Gives (.tuple #[.agg #[.int .i64 (x), .int .i64 (y)], .int .i64 er]) w) := by
  have HR := HR0.more hB
  have H1 := Lib.hid h1
  clear h1 HR0
  have hA : ∀ W, Below w.heap.size w W → Calls Try.prog 29 #[.slice (some ⟨g, o + i * 2, none⟩) (j - i) (c - i)] W (Gives (.tuple #[.agg #[.int .i64 (x), .int .i64 (y)], .int .i64 er]) W) := fun W hW => by
    rw [← hv]
    exact rall_any _ _ _ _ _ W ((HR.below hW).mid2 i j (by omega) hj) hW.size (by omega) (by omega)
  have hCC := right_any l.length i j
  have h2 : may l.length i j = true := by unfold may; simp; omega
  rw [h2] at hCC
  have hlt2 : (i : Int) < j := by omega
  clear hv h2
  unfold maxLen at hm
  have hT0 := RThB.new w (i : Int) (j : Int)
  go_enter Try.func30, Try.ntmps30
  go_wp2
  go_loopw [8] (fun ix wr => ∃ k : Nat, k ≤ l.length ∧ ix = .int .i64 k ∧ RThB w (i : Int) (j : Int) wr) (fun ix _ => l.length - (intOf ix).toNat)
  case atStart => exact ⟨0, by omega, rfl, hT0⟩
  case round =>
    obtain ⟨k, hk, rfl, hT⟩ := hrel
    obtain ⟨c0, c1, c2, c3, f0, f1⟩ := hT.facts
    by_cases hlt : k < l.length
    · obtain ⟨g', o', eq, hgB, hck, hck'⟩ := span_cell (HR.below hT.hb) k hlt
      injection eq with eq
      injection eq with eq1 eq2 eq3
      subst eq1 eq2
      have hq : may N l[k].1 l[k].2 = true := by
        cases hq : may N l[k].1 l[k].2
        · have := all_fails (fun p => may N p.1 p.2) l k hlt hq
          have h2 := H1.out
          unfold mays at h2
          rw [this] at h2
          cases h2
        · rfl
      have hC := right_any N l[k].1 l[k].2
      rw [hq] at hC
      clear hq
      generalize l[k].1 = e1 at *
      generalize l[k].2 = e2 at *
      go_wp2_with (go_at_call 31; refine (hC _).mono ?_; rintro e w1 ⟨rfl, HB1⟩; have hT1 := hT.call HB1)
      go_roundw
      case rel => exact ⟨k + 1, by omega, by go_num, hT1⟩
      case measure => simp [intOf]; omega
    · have e : k = l.length := by omega
      subst e
      go_wp2_with (first
        | (go_at_call 31; refine (hCC _).mono ?_; rintro e w1 ⟨rfl, HB1⟩; have hT1 := hT.call HB1; obtain ⟨d0, d1, d2, d3, e0, e1⟩ := hT1.facts)
        | (go_at_call 29; refine (hA _ hT1.hb).mono ?_; rintro e w2 ⟨rfl, HB2⟩; have hT2 := hT1.call HB2; obtain ⟨s0, s1, s2, s3, t0, t1⟩ := hT2.facts))
      obtain ⟨q0, q1, qb⟩ := hT2.res x y
      exact bodyPost_ret (v := .tuple #[.agg #[.int .i64 (x), .int .i64 (y)], .int .i64 er]) (by simp [results, Try.results30, go_sem, q0, q1]) rfl ⟨rfl, qb⟩

set_option maxHeartbeats 8000000 in
theorem rthr_zero (N : Int) (g o c B : Nat) (l : List (Int × Int)) (x : Int) (w : World) (HR0 : Reads w B 2 (some ⟨g, o, none⟩) l.length (spanVals l)) (hB : B ≤ w.heap.size) (hc : l.length ≤ c) (hm : c ≤ maxLen)
    (hN : 0 ≤ N) (h1 : mays N l = true) (hl : 0 < l.length) (hx : l[0].1 = x) :
    Calls Try.prog 30 #[.slice (some ⟨g, o, none⟩) l.length c, .agg #[.int .i64 (0), .int .i64 (0)], .int .i64 N] w (Gives (.tuple #[.agg #[.int .i64 (x), .int .i64 (x)], .int .i64 0]) w) := by
  have HR := HR0.more hB
  have H1 := Lib.hid h1
  clear h1 HR0
  have hA : ∀ W, Below w.heap.size w W → W.cell? ⟨g, o, none⟩ = some (.int .i64 x) := fun W hW => by
    obtain ⟨g', o', e, _, h3, _⟩ := span_cell (HR.below hW) 0 hl
    injection e with e
    injection e with e1 e2 e3
    subst e1 e2
    rw [hx] at h3
    simpa using h3
  have hCC := right_any l.length 0 0
  have h2 : may l.length 0 0 = true := by unfold may; simp
  rw [h2] at hCC
  have hlt2 : (0 : Int) < (l.length : Int) := by omega
  clear hx h2
  unfold maxLen at hm
  have hT0 := RThB.new w 0 0
  go_enter Try.func30, Try.ntmps30
  go_wp2
  go_loopw [8] (fun ix wr => ∃ k : Nat, k ≤ l.length ∧ ix = .int .i64 k ∧ RThB w 0 0 wr) (fun ix _ => l.length - (intOf ix).toNat)
  case atStart => exact ⟨0, by omega, rfl, hT0⟩
  case round =>
    obtain ⟨k, hk, rfl, hT⟩ := hrel
    obtain ⟨c0, c1, c2, c3, f0, f1⟩ := hT.facts
    by_cases hlt : k < l.length
    · obtain ⟨g', o', eq, hgB, hck, hck'⟩ := span_cell (HR.below hT.hb) k hlt
      injection eq with eq
      injection eq with eq1 eq2 eq3
      subst eq1 eq2
      have hq : may N l[k].1 l[k].2 = true := by
        cases hq : may N l[k].1 l[k].2
        · have := all_fails (fun p => may N p.1 p.2) l k hlt hq
          have h2 := H1.out
          unfold mays at h2
          rw [this] at h2
          cases h2
        · rfl
      have hC := right_any N l[k].1 l[k].2
      rw [hq] at hC
      clear hq
      generalize l[k].1 = e1 at *
      generalize l[k].2 = e2 at *
      go_wp2_with (go_at_call 31; refine (hC _).mono ?_; rintro e w1 ⟨rfl, HB1⟩; have hT1 := hT.call HB1)
      go_roundw
      case rel => exact ⟨k + 1, by omega, by go_num, hT1⟩
      case measure => simp [intOf]; omega
    · have e : k = l.length := by omega
      subst e
      go_wp2_with (first
        | (go_at_call 31; refine (hCC _).mono ?_; rintro e w1 ⟨rfl, HB1⟩; have hT1 := hT.call HB1; obtain ⟨d0, d1, d2, d3, e0, e1⟩ := hT1.facts; have hx := hA _ hT1.hb))
      obtain ⟨q0, q1, qb⟩ := hT1.res x x
      exact bodyPost_ret (v := .tuple #[.agg #[.int .i64 (x), .int .i64 (x)], .int .i64 0]) (by simp [results, Try.results30, go_sem, q0, q1]) rfl ⟨rfl, qb⟩

set_option maxHeartbeats 8000000 in
theorem rthr_at (N : Int) (g o c B : Nat) (l : List (Int × Int)) (j q : Nat) (hq : q = j + 1) (x : Int) (w : World) (HR0 : Reads w B 2 (some ⟨g, o, none⟩) l.length (spanVals l)) (hB : B ≤ w.heap.size) (hc : l.length ≤ c) (hm : c ≤ maxLen)
    (hN : 0 ≤ N) (h1 : mays N l = true) (hl : j < l.length) (hx : l[j].2 = x) :
    Calls Try.prog 30 #[.slice (some ⟨g, o, none⟩) l.length c, .agg #[.int .i64 ((q : Int)), .int .i64 ((q : Int))], .int .i64 N] w (Gives (.tuple #[.agg #[.int .i64 (x), .int .i64 (x)], .int .i64 0]) w) := by
  have HR := HR0.more hB
  have H1 := Lib.hid h1
  clear h1 HR0
  have hA : ∀ W, Below w.heap.size w W → W.cell? ⟨g, o + j * 2 + 1, none⟩ = some (.int .i64 x) := fun W hW => by
    obtain ⟨g', o', e, _, _, h3⟩ := span_cell (HR.below hW) j hl
    injection e with e
    injection e with e1 e2 e3
    subst e1 e2
    rw [hx] at h3
    exact h3
  have hCC := right_any l.length q q
  have h2 : may l.length q q = true := by unfold may; simp; omega
  rw [h2] at hCC
  have hlt2 : (0 : Int) < (q : Int) := by omega
  have hmx : c ≤ 9223372036854775807 := hm
  have hsub : IntKind.i64.wrap ((q : Int) - 1) = (j : Int) := by rw [IntWalk.i64_in _ (by omega)]; omega
  have hql : q ≤ l.length := by omega
  have hkq : j < q := by omega
  clear hx h2 hq hmx
  unfold maxLen at hm
  have hT0 := RThB.new w (q : Int) (q : Int)
  go_enter Try.func30, Try.ntmps30
  go_wp2
  go_loopw [8] (fun ix wr => ∃ k : Nat, k ≤ l.length ∧ ix = .int .i64 k ∧ RThB w (q : Int) (q : Int) wr) (fun ix _ => l.length - (intOf ix).toNat)
  case atStart => exact ⟨0, by omega, rfl, hT0⟩
  case round =>
    obtain ⟨k, hk, rfl, hT⟩ := hrel
    obtain ⟨c0, c1, c2, c3, f0, f1⟩ := hT.facts
    by_cases hlt : k < l.length
    · obtain ⟨g', o', eq, hgB, hck, hck'⟩ := span_cell (HR.below hT.hb) k hlt
      injection eq with eq
      injection eq with eq1 eq2 eq3
      subst eq1 eq2
      have hq : may N l[k].1 l[k].2 = true := by
        cases hq : may N l[k].1 l[k].2
        · have := all_fails (fun p => may N p.1 p.2) l k hlt hq
          have h2 := H1.out
          unfold mays at h2
          rw [this] at h2
          cases h2
        · rfl
      have hC := right_any N l[k].1 l[k].2
      rw [hq] at hC
      clear hq
      generalize l[k].1 = e1 at *
      generalize l[k].2 = e2 at *
      go_wp2_with (go_at_call 31; refine (hC _).mono ?_; rintro e w1 ⟨rfl, HB1⟩; have hT1 := hT.call HB1)
      go_roundw
      case rel => exact ⟨k + 1, by omega, by go_num, hT1⟩
      case measure => simp [intOf]; omega
    · have e : k = l.length := by omega
      subst e
      go_wp2_with (first
        | (go_at_call 31; refine (hCC _).mono ?_; rintro e w1 ⟨rfl, HB1⟩; have hT1 := hT.call HB1; obtain ⟨d0, d1, d2, d3, e0, e1⟩ := hT1.facts; have hx := hA _ hT1.hb))
      obtain ⟨q0, q1, qb⟩ := hT1.res x x
      exact bodyPost_ret (v := .tuple #[.agg #[.int .i64 (x), .int .i64 (x)], .int .i64 0]) (by simp [results, Try.results30, go_sem, q0, q1]) rfl ⟨rfl, qb⟩

set_option maxHeartbeats 8000000 in
theorem rthr_void (N : Int) (A : Option Addr) (c : Nat) (w : World)
    (hN : 0 ≤ N) :
    Calls Try.prog 30 #[.slice A 0 c, .agg #[.int .i64 (0), .int .i64 (0)], .int .i64 N] w (Gives (.tuple #[.agg #[.int .i64 (0), .int .i64 (0)], .int .i64 0]) w) := by
  have hCC := right_any 0 0 0
  rw [show may 0 0 0 = true by decide] at hCC
  have hT := RThB.new w 0 0
  go_enter Try.func30, Try.ntmps30
  go_wp2
  go_loopw [8] (fun i wr => i = .int .i64 0 ∧ RThB w 0 0 wr) (fun i _ => 0)
  case atStart => exact ⟨rfl, hT⟩
  case round =>
    clear hT
    obtain ⟨rfl, hT⟩ := hrel
    obtain ⟨c0, c1, c2, c3, f0, f1⟩ := hT.facts
    go_wp2_with (go_at_call 31; refine (hCC _).mono ?_; rintro e w1 ⟨rfl, HB1⟩; have hT1 := hT.call HB1; obtain ⟨d0, d1, d2, d3, e0, e1⟩ := hT1.facts)
    obtain ⟨q0, q1, qb⟩ := hT1.res 0 0
    exact bodyPost_ret (v := .tuple #[.agg #[.int .i64 (0), .int .i64 (0)], .int .i64 0]) (by simp [results, Try.results30, go_sem, q0, q1]) rfl ⟨rfl, qb⟩

theorem rthr_any (N : Int) (A : Option Addr) (n c B : Nat) (l : List (Int × Int)) (a b : Int) (w : World) (HR0 : Reads w B 2 A n (spanVals l)) (hB : B ≤ w.heap.size) (hc : n ≤ c) (hm : c ≤ maxLen) :
    Calls Try.prog 30 #[.slice A n c, .agg #[.int .i64 (a), .int .i64 (b)], .int .i64 N] w (Gives (thrV N l a b) w) := by
  have hn := HR0.1
  rw [spanVals_length] at hn
  have hn2 : n = l.length := by omega
  subst hn2
  unfold thrV
  by_cases hN : 0 ≤ N
  · cases h1 : mays N l
    · rw [if_neg (by simp)]
      exact rthr_no N A _ c B l a b w HR0 hB hc hm hN (.inl h1)
    · cases h2 : may l.length a b
      · rw [if_neg (by simp)]
        exact rthr_no N A _ c B l a b w HR0 hB hc hm hN (.inr h2)
      · rw [if_pos ⟨hN, rfl, rfl⟩]
        obtain ⟨i, j, rfl, rfl, hij, hj⟩ := may_nat h2
        by_cases hlt : i < j
        · rw [if_pos (by omega)]
          obtain ⟨x, y, e, hv⟩ := allV_form ((l.drop i).take (j - i))
          obtain ⟨g, o, rfl, _⟩ := span_cell HR0 0 (by omega)
          simp only [Int.toNat_natCast]
          rw [hv]
          exact rthr_part N g o c B l i j w HR0 hB hc hm hN h1 hlt hj x y e hv
        · obtain rfl : i = j := by omega
          rw [if_neg (by omega)]
          simp only [Int.toNat_natCast]
          cases i with
          | zero =>
            by_cases hl : 0 < l.length
            · obtain ⟨g, o, rfl, _⟩ := span_cell HR0 0 (by omega)
              have e : atOf l 0 = l[0].1 := by
                unfold atOf
                rw [if_neg (by omega), if_pos hl, List.getD_eq_getElem?_getD, List.getElem?_eq_getElem hl]
                rfl
              rw [e]
              exact rthr_zero N g o c B l _ w HR0 hB hc hm hN h1 hl rfl
            · have e : l = [] := List.eq_nil_of_length_eq_zero (by omega)
              subst e
              exact rthr_void N A c w hN
          | succ k =>
            obtain ⟨g, o, rfl, _⟩ := span_cell HR0 0 (by omega)
            have e : atOf l (k + 1) = l[k].2 := by
              unfold atOf
              rw [if_pos (by omega), Nat.add_sub_cancel, List.getD_eq_getElem?_getD, List.getElem?_eq_getElem (by omega)]
              rfl
            rw [e]
            exact rthr_at N g o c B l k (k + 1) rfl _ w HR0 hB hc hm hN h1 (by omega) rfl
  · rw [if_neg (by simp [hN])]
    exact rthr_neg N A _ c a b w (by omega)


end Go.Proofs.Ytgaboipigdkefaa
