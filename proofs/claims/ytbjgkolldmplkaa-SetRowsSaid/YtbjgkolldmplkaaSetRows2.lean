/- SetRows: the walk of the law. -/
import Derived.Test.YtbjgkolldmplkaaSet6
import Derived.Test.YtbjgkolldmplkaaRowsL
import Derived.Test.YtbjgkolldmplkaaTail
namespace Go.Proofs.Ytbjgkolldmplkaa.SetRows
open Go.RowKit Go.Sort

set_option maxHeartbeats 60000000 in
theorem walkOn (m : Nat → Bool) (f t : Nat) (l ms : List (Nat × Nat)) (w : World) (hf : f < 256) (ht : t < 256)
    (HROWS : ∀ W, Calls Try.prog 17 #[.agg #[.int .u64 ((word m 0 : Nat) : Int), .int .u64 ((word m 1 : Nat) : Int), .int .u64 ((word m 2 : Nat) : Int), .int .u64 ((word m 3 : Nat) : Int)]] W fun e W' => ∃ A c, e = .returned (.slice A l.length c) ∧ Reads W' W'.heap.size 2 A l.length (rowCells l) ∧ l.length ≤ c ∧ c ≤ maxLen ∧ Below W.heap.size W W')
    (HOK : Hid (∀ (k : Nat) (hk : k < l.length), l[k].1 ≤ l[k].2 ∧ l[k].2 < 256)) (HFAR : Hid (∀ (j k : Nat) (hj : j < l.length) (hk : k < l.length), k = j + 1 → l[j].2 + 1 < l[k].1)) (HLEN : l.length ≤ 256)
    (HROWS2 : ∀ W, Calls Try.prog 17 #[.agg #[.int .u64 ((word ((sSpan f t)) 0 : Nat) : Int), .int .u64 ((word ((sSpan f t)) 1 : Nat) : Int), .int .u64 ((word ((sSpan f t)) 2 : Nat) : Int), .int .u64 ((word ((sSpan f t)) 3 : Nat) : Int)]] W fun e W' => ∃ A c, e = .returned (.slice A ms.length c) ∧ Reads W' W'.heap.size 2 A ms.length (rowCells ms) ∧ ms.length ≤ c ∧ c ≤ maxLen ∧ Below W.heap.size W W')
    (hms : (f ≤ t ∧ ms = [(f, t)]) ∨ (t < f ∧ ms = [])) (hq1 : ∀ W, (binOp .eql 25 (.agg #[.int .u64 ((word (sPart l) 0 : Nat) : Int), .int .u64 ((word (sPart l) 1 : Nat) : Int), .int .u64 ((word (sPart l) 2 : Nat) : Int), .int .u64 ((word (sPart l) 3 : Nat) : Int)]) (.agg #[.int .u64 ((word m 0 : Nat) : Int), .int .u64 ((word m 1 : Nat) : Int), .int .u64 ((word m 2 : Nat) : Int), .int .u64 ((word m 3 : Nat) : Int)])).run Try.prog W = .ok (.bool true) W) :
    Calls Try.prog 4 #[.agg #[.int .u64 ((word m 0 : Nat) : Int), .int .u64 ((word m 1 : Nat) : Int), .int .u64 ((word m 2 : Nat) : Int), .int .u64 ((word m 3 : Nat) : Int)], .int .u8 f, .int .u8 t] w (Gives (.bool true) w) := by
  have hb0 := new_blk w m 25
  obtain ⟨c0, c1, c2, c3⟩ := hb0.cells4
  go_enter Try.func4, Try.ntmps4
  go_wp2_with (go_at_call 17; refine (HROWS _).mono ?_; rintro e w1 ⟨A, c, rfl, HR, hcl, hcm, HB1⟩; have hb1 := hb0.below HB1 hb0.lt)
  unfold maxLen at hcm
  have hsz := HB1.size
  simp only [World.size_alloc] at hsz
  go_loopw [9] (fun i wr => ∃ k : Nat, k ≤ l.length ∧ i = .int .i64 k ∧ Blk wr w1.heap.size 25 (sCells (sPart (l.take k))) ∧ Below w1.heap.size w1 wr) (fun i _ => l.length - (intOf i).toNat)
  case atStart =>
    refine ⟨0, by omega, rfl, ?_, (Below.refl _ _).alloc (Nat.le_refl _) _⟩
    rw [sCells_none _ (fun b => by simp [sPart])]
    exact Blk.new w1 _ _
  case round =>
    obtain ⟨k, hk, rfl, hbs, HB⟩ := hrel
    by_cases hlt : k < l.length
    · obtain ⟨g, o, rfl, hck, hck'⟩ := row_cell (HR.below HB) k hlt
      obtain ⟨hok, h256⟩ := HOK.out k hlt
      have E := Lib.hid (sPart_step l k hlt)
      by_cases h0 : k = 0
      · have H0 := Lib.hid h0
        have hd3 : decide (0 < k) = false := by simp; omega
        have hd1 : decide (l[k].2 < l[k].1) = false := by simp; omega
        have hd4 : ¬ (0 : Int) < (k : Int) := by omega
        have hd5 : ¬ 0 < k := by omega
        clear h0
        generalize l[k].1 = p1 at *
        generalize l[k].2 = p2 at *
        go_wp2
        refine wp_region_quiet_lit (by kernel_rfl) (by kernel_rfl) ?_
        repeat (go_big_quiet_step (fail))
        refine wpQuiet_nil ?_
        intro _ hw'
        obtain ⟨nq, hw''⟩ := hw'
        subst hw''
        have hbd := hbs.drewN nq
        obtain ⟨x0, x1, x2, x3⟩ := hbd.cells4
        obtain ⟨v0, v1, v2, v3⟩ := hbs.cells4
        go_wp2
        clear hd1 hd3 hd4 hd5
        have y0 := cell_regrown x0
        have y1 := cell_regrown x1
        have y2 := cell_regrown x2
        have y3 := cell_regrown x3
        have z0 := cell_regrown (w := wr.drewN nq) (show (wr.drewN nq).cell? ⟨g, o + k * 2, none⟩ = _ from hck)
        have z1 := cell_regrown (w := wr.drewN nq) (show (wr.drewN nq).cell? ⟨g, o + k * 2 + 1, none⟩ = _ from hck')
        have hbQ := Lib.hid hbd
        clear x0 x1 x2 x3 v0 v1 v2 v3 hck hck' hbd hbs
        refine wp_region_tail_below 13 (by kernel_rfl) (by kernel_rfl) ?_
        simp only [List.take_succ_cons, List.take_zero, List.drop_succ_cons, List.drop_zero]
        repeat (go_big_quiet_step ((first
          | (go_at_call 13; exact gives_quiet (span_any p1 p2 _ (by omega) h256))
          | (go_at_call 18; exact gives_quiet (any_any (sPart (l.take k)) (sSpan p1 p2) _)))))
        refine wpQuiet_nil ?_
        intro w5 hw5
        have HB5 := below_of hw5
        clear hw5 y0 y1 y2 y3 z0 z1
        have hb3 := hbQ.out.below HB5 hbQ.out.lt
        obtain ⟨z0, z1, z2, z3⟩ := hb3.cells4
        have f0 := hb3.frozen 0
        have f1 := hb3.frozen 1
        have f2 := hb3.frozen 2
        have f3 := hb3.frozen 3
        all_goals
          go_wp2
          go_roundw
          case rel =>
            refine ⟨k + 1, by omega, by go_num, ?_, ?_⟩
            · rw [E.out]
              exact (((hb3.set_ 0 _).set_ 1 _).set_ 2 _).set_ 3 _
            · have L3 : Below w1.heap.size w1 w5 := (below_drewN HB nq).trans (HB5.mono HB.size)
              exact (((L3.setCell (p := ⟨w1.heap.size, 0, none⟩) (by simp) _).setCell (p := ⟨w1.heap.size, 1, none⟩) (by simp) _).setCell (p := ⟨w1.heap.size, 2, none⟩) (by simp) _).setCell (p := ⟨w1.heap.size, 3, none⟩) (by simp) _
          case measure => simp [intOf]; omega
      · obtain ⟨j, hj⟩ : ∃ j, k = j + 1 := ⟨k - 1, by omega⟩
        have hjl : j < l.length := by omega
        obtain ⟨g', o', eq, hcj, hcj'⟩ := row_cell (HR.below HB) j hjl
        injection eq with eq
        injection eq with eq1 eq2 eq3
        subst eq1 eq2
        have hfar := HFAR.out j k hjl hlt hj
        obtain ⟨hokj, h256j⟩ := HOK.out j hjl
        generalize l[j].2 = q2 at *
        generalize l[k].1 = p1 at *
        generalize l[k].2 = p2 at *
        have hsub : IntKind.i64.wrap ((k : Int) - 1) = (j : Int) := by rw [IntWalk.i64_in _ (by omega)]; omega
        have hadd : IntKind.i64.wrap ((q2 : Int) + 1) = (q2 : Int) + 1 := IntWalk.i64_in _ (by omega)
        have hd1 : decide (p2 < p1) = false := by simp; omega
        have hd2 : decide (p1 ≤ q2 + 1) = false := by simp; omega
        have hd2' : decide ((p1 : Int) ≤ (q2 : Int) + 1) = false := by simp; omega
        have hd3 : decide (0 < k) = true := by simp; omega
        have hd4 : (0 : Int) < (k : Int) := by omega
        have hd5 : 0 < k := by omega
        have hwq : IntKind.i64.wrap (q2 : Int) = (q2 : Int) := IntWalk.i64_in _ (by omega)
        have hwp : IntKind.i64.wrap (p1 : Int) = (p1 : Int) := IntWalk.i64_in _ (by omega)
        have HJ := Lib.hid hj
        clear hj
        go_wp2
        refine wp_region_quiet_lit (by kernel_rfl) (by kernel_rfl) ?_
        repeat (go_big_quiet_step (fail))
        refine wpQuiet_nil ?_
        intro _ hw'
        obtain ⟨nq, hw''⟩ := hw'
        subst hw''
        have hbd := hbs.drewN nq
        obtain ⟨x0, x1, x2, x3⟩ := hbd.cells4
        obtain ⟨v0, v1, v2, v3⟩ := hbs.cells4
        go_wp2
        clear hwq hwp hsub hadd hd1 hd2 hd2' hd3 hd4 hd5 hcj hcj'
        have y0 := cell_regrown x0
        have y1 := cell_regrown x1
        have y2 := cell_regrown x2
        have y3 := cell_regrown x3
        have z0 := cell_regrown (w := wr.drewN nq) (show (wr.drewN nq).cell? ⟨g, o + k * 2, none⟩ = _ from hck)
        have z1 := cell_regrown (w := wr.drewN nq) (show (wr.drewN nq).cell? ⟨g, o + k * 2 + 1, none⟩ = _ from hck')
        have hbQ := Lib.hid hbd
        clear x0 x1 x2 x3 v0 v1 v2 v3 hck hck' hbd hbs
        refine wp_region_tail_below 13 (by kernel_rfl) (by kernel_rfl) ?_
        simp only [List.take_succ_cons, List.take_zero, List.drop_succ_cons, List.drop_zero]
        repeat (go_big_quiet_step ((first
          | (go_at_call 13; exact gives_quiet (span_any p1 p2 _ (by omega) h256))
          | (go_at_call 18; exact gives_quiet (any_any (sPart (l.take k)) (sSpan p1 p2) _)))))
        refine wpQuiet_nil ?_
        intro w5 hw5
        have HB5 := below_of hw5
        clear hw5 y0 y1 y2 y3 z0 z1
        have hb3 := hbQ.out.below HB5 hbQ.out.lt
        obtain ⟨z0, z1, z2, z3⟩ := hb3.cells4
        have f0 := hb3.frozen 0
        have f1 := hb3.frozen 1
        have f2 := hb3.frozen 2
        have f3 := hb3.frozen 3
        all_goals
          go_wp2
          go_roundw
          case rel =>
            refine ⟨k + 1, by omega, by go_num, ?_, ?_⟩
            · rw [E.out]
              exact (((hb3.set_ 0 _).set_ 1 _).set_ 2 _).set_ 3 _
            · have L3 : Below w1.heap.size w1 w5 := (below_drewN HB nq).trans (HB5.mono HB.size)
              exact (((L3.setCell (p := ⟨w1.heap.size, 0, none⟩) (by simp) _).setCell (p := ⟨w1.heap.size, 1, none⟩) (by simp) _).setCell (p := ⟨w1.heap.size, 2, none⟩) (by simp) _).setCell (p := ⟨w1.heap.size, 3, none⟩) (by simp) _
          case measure => simp [intOf]; omega
    · have e : k = l.length := by omega
      subst e
      rw [List.take_length] at hbs
      have b0 := hb1.below HB hb1.lt
      have L1 : Below w.heap.size w w1 := below_then ((Below.refl _ _).alloc (Nat.le_refl _) _) HB1
      have Lr := L1.trans (HB.mono L1.size)
      have hq2 := fun W => eql_pair W f t f t
      simp only [beq_self_eq_true, Bool.and_self] at hq2
      rcases hms with ⟨hft, rfl⟩ | ⟨hft, rfl⟩
      · have hd : decide ((f : Int) > (t : Int)) = false := by simp; omega
        have hd2 : ¬ (t : Int) < (f : Int) := by omega
        go_wp2_with (first
          | (go_at_call 13; refine (span_any f t _ hf ht).mono ?_; rintro e w2 ⟨rfl, HB2⟩; have L2 := Lr.trans (HB2.mono Lr.size); have b0a := b0.below HB2 b0.lt; have b8a := hbs.below HB2 hbs.lt)
          | (go_at_call 17; refine (HROWS2 _).mono ?_; rintro e w3 ⟨A3, c3, rfl, HR3, hc3, hm3, HB3⟩; have L3 := L2.trans (HB3.mono L2.size); have b0b := b0a.below HB3 b0a.lt; have b8b := b8a.below HB3 b8a.lt; obtain ⟨g3, o3, rfl, _, _⟩ := row_cell HR3 0 (by simp))
          | (go_at_call 10; refine (awake1_any _).mono ?_; rintro e w4 ⟨rfl, HB4⟩; have L4 := L3.trans (HB4.mono L3.size); have b0c := b0b.below HB4 b0b.lt; have b8c := b8b.below HB4 b8b.lt; obtain ⟨x0, x1, x2, x3⟩ := b0c.cells4; obtain ⟨y0, y1, y2, y3⟩ := b8c.cells4; obtain ⟨g4, o4, eq4, q1, q2⟩ := row_cell (HR3.below HB4) 0 (by simp); injection eq4 with eq4; injection eq4 with eq5 eq6 eq7; subst eq5 eq6; simp only [Nat.zero_mul, Nat.add_zero, List.getElem_cons_zero] at q1 q2))
        go_ret
        exact ⟨rfl, L4⟩
      · have hd : decide ((f : Int) > (t : Int)) = true := by simp; omega
        have hd2 : (t : Int) < (f : Int) := by omega
        go_wp2_with (first
          | (go_at_call 13; refine (span_any f t _ hf ht).mono ?_; rintro e w2 ⟨rfl, HB2⟩; have L2 := Lr.trans (HB2.mono Lr.size); have b0a := b0.below HB2 b0.lt; have b8a := hbs.below HB2 hbs.lt)
          | (go_at_call 17; refine (HROWS2 _).mono ?_; rintro e w3 ⟨A3, c3, rfl, HR3, hc3, hm3, HB3⟩; have L3 := L2.trans (HB3.mono L2.size); have b0b := b0a.below HB3 b0a.lt; have b8b := b8a.below HB3 b8a.lt)
          | (go_at_call 10; refine (awake1_any _).mono ?_; rintro e w4 ⟨rfl, HB4⟩; have L4 := L3.trans (HB4.mono L3.size); have b0c := b0b.below HB4 b0b.lt; have b8c := b8b.below HB4 b8b.lt; obtain ⟨x0, x1, x2, x3⟩ := b0c.cells4; obtain ⟨y0, y1, y2, y3⟩ := b8c.cells4))
        go_ret
        exact ⟨rfl, L4⟩

end Go.Proofs.Ytbjgkolldmplkaa.SetRows
