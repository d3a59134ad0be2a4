/- The walk of the reference Over of layer 2. -/
import Derived.Test.YtbjgkolldmplkaaDoorRParts
import Derived.Test.YtbjgkolldmplkaaDoorOver
import Derived.Test.YtbjgkolldmplkaaDoorHold2
namespace Go.Proofs.YtbjgkolldmplkaaDoor
open Go.RowKit Go.Sort

set_option maxRecDepth 100000 in
set_option maxHeartbeats 16000000 in
theorem rover_any (L : List (Nat → Bool)) (m : Nat → Bool) (A : Option Addr) (n c B : Nat) (w : World) (HR0 : Reads w B 4 A n (setVals L)) (hB : B ≤ w.heap.size) (hm : n ≤ 100000) :
    Calls Tryd.prog 31 #[.slice A n c, .agg #[.int .u64 ((word m 0 : Nat) : Int), .int .u64 ((word m 1 : Nat) : Int), .int .u64 ((word m 2 : Nat) : Int), .int .u64 ((word m 3 : Nat) : Int)]] w (GInts (overR (classB L) L m) (overE (classB L) L m) w) := by
  have HR := HR0.more hB
  have HLN : Unit → L.length = n := fun _ => by
    have := HR.1
    rw [setVals_length] at this
    omega
  obtain ⟨i0, hi0, hz0, hz1, hz2⟩ := info_parts int_info
  have hbs := new_blk w m 35
  have HB0 : Below w.heap.size w (w.alloc (.cells #[.int .u64 ((word m 0 : Nat) : Int), .int .u64 ((word m 1 : Nat) : Int), .int .u64 ((word m 2 : Nat) : Int), .int .u64 ((word m 3 : Nat) : Int)] 35)) := (Below.refl _ _).alloc (Nat.le_refl _) _
  have HRT := right_any L A n c _ _ (HR.below HB0) HB0.size hm
  rw [← right_class]
  clear HR0
  cases hcb : rightL L
  · have HNO := fun _ : Unit => over_no (b := false) (L := L) (m := m) (.inl rfl)
    rw [hcb] at HRT
    clear hcb
    go_enter Tryd.func31, Tryd.ntmps31
    go_wp2_with (go_at_call 36; refine HRT.mono ?_; rintro e w1 ⟨rfl, HB1⟩)
    go_ret2
    rw [(HNO ()).1, (HNO ()).2]
    exact gints_none (below_then HB0 HB1)
  · rw [hcb] at HRT
    clear hcb
    go_enter Tryd.func31, Tryd.ntmps31
    go_wp2_with (go_at_call 36; refine HRT.mono ?_; rintro e w1 ⟨rfl, HB1⟩; have L1 := below_then HB0 HB1; have hbs1 := hbs.below HB1 hbs.lt)
    clear HRT hbs HB0
    go_loopw [6, 7] (fun v i wr => ∃ k : Nat, k ≤ n ∧ i = .int .i64 k ∧ wr.ownsRow w.heap.size 3 1 v (overL L m k).length (intVals (overL L m k)) ∧ overOk L m k = true ∧ Blk wr w.heap.size 35 (sCells m) ∧ Below w.heap.size w wr) (fun _ i _ => n - (intOf i).toNat)
    case atStart => exact ⟨0, by omega, rfl, ⟨rfl, .inl ⟨rfl, rfl⟩⟩, rfl, hbs1, L1⟩
    case round =>
      clear L1 HB1 hbs1
      obtain ⟨k, hk, rfl, hown, hok, hbs, HB⟩ := hrel
      have HOK := fun _ : Unit => hok
      clear hok
      by_cases hlt : k < n
      · obtain ⟨g, o, rfl, hgB, c0, c1, c2, c3⟩ := setsD_cell (HR.below HB) k hlt
        have HNO := fun (_ : Unit) h1 h2 => over_no (b := true) (L := L) (m := m) (.inr (overOk_no L.length k (by rw [HLN ()]; exact hlt) h1 h2))
        have HYE := fun _ : Unit => overOk_yes (L := L) (m := m) k (HOK ())
        have HL1 := fun _ : Unit => overL_yes (L := L) (m := m) k
        have HL0 := fun _ : Unit => overL_no (L := L) (m := m) k
        have hlen := overL_length (L := L) (m := m) k
        have hsz := HB.size
        have hfr := own_base hown
        generalize L.getD k sNone = q at *
        have hqs := fun W => eql_eqB (sBoth q m) q W
        have hqd := fun W => neq_none (sBoth q m) W
        rw [eqB_sub] at hqs
        rw [eqB_dis] at hqd
        obtain ⟨d0, d1, d2, d3⟩ := hbs.cells4
        generalize overL L m k = ol at *
        have c0' := cell_regrown c0
        have c1' := cell_regrown c1
        have c2' := cell_regrown c2
        have c3' := cell_regrown c3
        have d0' := cell_regrown d0
        have d1' := cell_regrown d1
        have d2' := cell_regrown d2
        have d3' := cell_regrown d3
        have hi1 : (0 : Int) ≤ (k : Int) := by omega
        have hi2 : (k : Int) < (n : Int) := by omega
        have hBY0 := fun W => by_any 0 0 (by simp) q m W
        rw [show sBy 0 q m = sBoth q m from rfl] at hBY0
        have hBY := Lib.hid hBY0
        clear hBY0
        go_wp2
        refine wp_region_hold2_below 7 [0, 1, 2, 3, 4] 5 6 _ _ (by kernel_rfl) (by kernel_rfl) rfl (by kernel_rfl) rfl rfl ?_
        simp only [pickOps, List.getElem?_cons_zero, List.getElem?_cons_succ, List.drop_succ_cons, List.drop_zero]
        repeat (go_big_quiet_step (fail))
        refine wpQuiet_nil ?_
        clear d0 d1 d2 d3 c0' c1' c2' c3' d0' d1' d2' d3'
        have LD : Below wr.heap.size wr wr.drew := (Below.refl _ wr).drew
        constructor
        · refine wpForce_step rfl (fun KK hKK => ?_)
          go_simp
          refine (hBY.out _).mono ?_
          rintro e w4 ⟨rfl, HB4⟩
          have L4 : Below wr.heap.size wr w4 := LD.trans (HB4.mono LD.size)
          refine hKK _ _ (regrown_of_below L4) ?_
          clear hKK KK
          refine wpForce_step rfl (fun KK hKK => ?_)
          go_simp
          have L5 := L4.alloc L4.size (.cells #[.int .u64 0, .int .u64 0, .int .u64 0, .int .u64 0] 35)
          refine hKK _ _ (regrown_of_below L5) ?_
          clear hKK KK
          refine wpForce_nil ?_
          have hb5 := Blk.new w4 35 #[.int .u64 0, .int .u64 0, .int .u64 0, .int .u64 0]
          have hgb := L4.size
          generalize w4.alloc (.cells #[.int .u64 0, .int .u64 0, .int .u64 0, .int .u64 0] 35) = w5 at *
          generalize w4.heap.size = gb at *
          have hsz5 := L5.size
          have LX : Below w.heap.size w w5 := HB.trans (L5.mono hsz)
          have g0 := hb5.cell 0
          have g1 := hb5.cell 1
          have g2 := hb5.cell 2
          have g3 := hb5.cell 3
          have f0 := hb5.frozen 0
          have f1 := hb5.frozen 1
          have f2 := hb5.frozen 2
          have f3 := hb5.frozen 3
          simp at g0 g1 g2 g3
          go_wp2
          refine NoPanic.normal ?_
          have hb6 : Blk _ gb 35 (sCells (sBoth q m)) := (((hb5.set_ 0 (.int .u64 ((word (sBoth q m) 0 : Nat) : Int))).set_ 1 (.int .u64 ((word (sBoth q m) 1 : Nat) : Int))).set_ 2 (.int .u64 ((word (sBoth q m) 2 : Nat) : Int))).set_ 3 (.int .u64 ((word (sBoth q m) 3 : Nat) : Int))
          have LW6 := (((L5.setCell (p := ⟨gb, 0, none⟩) hgb (.int .u64 ((word (sBoth q m) 0 : Nat) : Int))).setCell (p := ⟨gb, 1, none⟩) hgb (.int .u64 ((word (sBoth q m) 1 : Nat) : Int))).setCell (p := ⟨gb, 2, none⟩) hgb (.int .u64 ((word (sBoth q m) 2 : Nat) : Int))).setCell (p := ⟨gb, 3, none⟩) hgb (.int .u64 ((word (sBoth q m) 3 : Nat) : Int))
          generalize ((((w5.setCell ⟨gb, 0, none⟩ (.int .u64 ((word (sBoth q m) 0 : Nat) : Int))).setCell ⟨gb, 1, none⟩ (.int .u64 ((word (sBoth q m) 1 : Nat) : Int))).setCell ⟨gb, 2, none⟩ (.int .u64 ((word (sBoth q m) 2 : Nat) : Int))).setCell ⟨gb, 3, none⟩ (.int .u64 ((word (sBoth q m) 3 : Nat) : Int))) = w6 at *
          have hown6 := own_call hown LW6
          have hbs6 := hbs.below LW6 hbs.lt
          have LX6 := HB.trans (LW6.mono hsz)
          obtain ⟨e0, e1, e2, e3⟩ := hb6.cells4
          have k0 := (LW6.cell (block_lt_of_cell c0)).trans c0
          have k1 := (LW6.cell (block_lt_of_cell c1)).trans c1
          have k2 := (LW6.cell (block_lt_of_cell c2)).trans c2
          have k3 := (LW6.cell (block_lt_of_cell c3)).trans c3
          clear c0 c1 c2 c3 hb5 g0 g1 g2 g3 f0 f1 f2 f3 hown hbs
          go_wp2
          refine wp_region_quiet_lit (by kernel_rfl) (by kernel_rfl) ?_
          repeat (go_big_quiet_step (fail))
          refine wpQuiet_nil ?_
          intro _ hw'
          obtain ⟨nq, hw''⟩ := hw'
          subst hw''
          have LQ : Below w6.heap.size w6 (w6.drewN nq) := below_drewN (Below.refl _ w6) nq
          have hown7 := own_call hown6 LQ
          have hbs7 := hbs6.below LQ hbs6.lt
          have hb7 := hb6.below LQ hb6.lt
          have LX7 := LX6.trans (LQ.mono LX6.size)
          generalize w6.drewN nq = w7 at *
          clear LQ hown6 hbs6 hb6 LX6 LW6 k0 k1 k2 k3 e0 e1 e2 e3
          obtain ⟨e0, e1, e2, e3⟩ := hb7.cells4
          have hs7 := LX7.size
          cases hsub : subB q m
          · cases hdis : disB q m
            · rw [hdis] at hqd
              have hno := HNO () hsub hdis
              have HN2 := fun _ : Unit => hno
              clear hno HNO HYE HL1 HL0
              rw [hsub] at *
              clear hsub hdis
              go_wp2
              go_ret2
              rw [(HN2 ()).1, (HN2 ()).2]
              exact gints_none LX7
            · rw [hdis] at hqd
              have HY2 := fun _ : Unit => HYE () (.inr hdis)
              have HLL := fun _ : Unit => HL0 () hsub
              clear HNO HYE HL1 HL0
              rw [hsub] at *
              clear hsub hdis
              go_wp2
              go_roundw
              case rel => exact ⟨k + 1, by omega, by go_num, by rw [HLL ()]; exact hown7, HY2 (), hbs7, LX7⟩
              case measure => simp [intOf]; omega
          · have HY2 := fun _ : Unit => HYE () (.inl hsub)
            have HLL := fun _ : Unit => HL1 () hsub
            clear HNO HYE HL1 HL0 hqd
            rw [hsub] at *
            clear hsub
            go_wp2_with (at_builtin
                         refine wpList_append_any _ rfl (.tmp 30) (.tmp 32) _ rfl w.heap.size 3 i0 _ 1 8 Tryd.underlying26 hi0 hz0 hz1 hz2 rfl (by omega) _ ol.length _ rfl
                           (hown7.alloc _) _ _ 1 1 [.int .i64 (k : Int)] rfl (reads_blk (xs := [.int .i64 (k : Int)]) (Blk.new w7 _ _)) (by simp [Value.oneCell']) (by simp only [maxLen]; omega) (by omega) (by simp; omega) ?_
                         intro v8 w8 hown8 hg8 hat8
                         have L8 : Below w.heap.size w w8 := (LX7.alloc hs7 _).grown hg8 (by simp; omega) hfr
                         have hbs8 := (hbs7.alloc (.cells #[.int .i64 (k : Int)] 3)).grown hg8 (own_blk_ne hown7 hbs7 (by decide)).symm
                         rw [intVals_snoc] at hown8)
            go_roundw
            case rel => exact ⟨k + 1, by omega, by go_num, by rw [HLL (), List.length_append]; exact hown8, HY2 (), hbs8, L8⟩
            case measure => simp [intOf]; omega
        · refine wpForce_step rfl (fun KK hKK => ?_)
          go_simp
          have LA := LD.alloc LD.size (.cells #[.int .u64 0, .int .u64 0, .int .u64 0, .int .u64 0] 35)
          refine hKK _ _ (regrown_of_below LA) ?_
          clear hKK KK
          refine wpForce_step rfl (fun KK hKK => ?_)
          go_simp
          refine (hBY.out _).mono ?_
          rintro e w5 ⟨rfl, HB5⟩
          have L5 : Below wr.heap.size wr w5 := LA.trans (HB5.mono LA.size)
          refine hKK _ _ (regrown_of_below L5) ?_
          clear hKK KK
          refine wpForce_nil ?_
          have hb5 : Blk w5 wr.heap.size 35 #[.int .u64 0, .int .u64 0, .int .u64 0, .int .u64 0] := (Blk.new wr.drew 35 #[.int .u64 0, .int .u64 0, .int .u64 0, .int .u64 0]).below HB5 (by simp)
          have hgb : wr.heap.size ≤ wr.heap.size := Nat.le_refl _
          have hsz5 := L5.size
          have LX : Below w.heap.size w w5 := HB.trans (L5.mono hsz)
          have g0 := hb5.cell 0
          have g1 := hb5.cell 1
          have g2 := hb5.cell 2
          have g3 := hb5.cell 3
          have f0 := hb5.frozen 0
          have f1 := hb5.frozen 1
          have f2 := hb5.frozen 2
          have f3 := hb5.frozen 3
          simp at g0 g1 g2 g3
          go_wp2
          refine NoPanic.normal ?_
          have hb6 : Blk _ wr.heap.size 35 (sCells (sBoth q m)) := (((hb5.set_ 0 (.int .u64 ((word (sBoth q m) 0 : Nat) : Int))).set_ 1 (.int .u64 ((word (sBoth q m) 1 : Nat) : Int))).set_ 2 (.int .u64 ((word (sBoth q m) 2 : Nat) : Int))).set_ 3 (.int .u64 ((word (sBoth q m) 3 : Nat) : Int))
          have LW6 := (((L5.setCell (p := ⟨wr.heap.size, 0, none⟩) hgb (.int .u64 ((word (sBoth q m) 0 : Nat) : Int))).setCell (p := ⟨wr.heap.size, 1, none⟩) hgb (.int .u64 ((word (sBoth q m) 1 : Nat) : Int))).setCell (p := ⟨wr.heap.size, 2, none⟩) hgb (.int .u64 ((word (sBoth q m) 2 : Nat) : Int))).setCell (p := ⟨wr.heap.size, 3, none⟩) hgb (.int .u64 ((word (sBoth q m) 3 : Nat) : Int))
          generalize ((((w5.setCell ⟨wr.heap.size, 0, none⟩ (.int .u64 ((word (sBoth q m) 0 : Nat) : Int))).setCell ⟨wr.heap.size, 1, none⟩ (.int .u64 ((word (sBoth q m) 1 : Nat) : Int))).setCell ⟨wr.heap.size, 2, none⟩ (.int .u64 ((word (sBoth q m) 2 : Nat) : Int))).setCell ⟨wr.heap.size, 3, none⟩ (.int .u64 ((word (sBoth q m) 3 : Nat) : Int))) = w6 at *
          have hown6 := own_call hown LW6
          have hbs6 := hbs.below LW6 hbs.lt
          have LX6 := HB.trans (LW6.mono hsz)
          obtain ⟨e0, e1, e2, e3⟩ := hb6.cells4
          have k0 := (LW6.cell (block_lt_of_cell c0)).trans c0
          have k1 := (LW6.cell (block_lt_of_cell c1)).trans c1
          have k2 := (LW6.cell (block_lt_of_cell c2)).trans c2
          have k3 := (LW6.cell (block_lt_of_cell c3)).trans c3
          clear c0 c1 c2 c3 hb5 g0 g1 g2 g3 f0 f1 f2 f3 hown hbs
          go_wp2
          refine wp_region_quiet_lit (by kernel_rfl) (by kernel_rfl) ?_
          repeat (go_big_quiet_step (fail))
          refine wpQuiet_nil ?_
          intro _ hw'
          obtain ⟨nq, hw''⟩ := hw'
          subst hw''
          have LQ : Below w6.heap.size w6 (w6.drewN nq) := below_drewN (Below.refl _ w6) nq
          have hown7 := own_call hown6 LQ
          have hbs7 := hbs6.below LQ hbs6.lt
          have hb7 := hb6.below LQ hb6.lt
          have LX7 := LX6.trans (LQ.mono LX6.size)
          generalize w6.drewN nq = w7 at *
          clear LQ hown6 hbs6 hb6 LX6 LW6 k0 k1 k2 k3 e0 e1 e2 e3
          obtain ⟨e0, e1, e2, e3⟩ := hb7.cells4
          have hs7 := LX7.size
          cases hsub : subB q m
          · cases hdis : disB q m
            · rw [hdis] at hqd
              have hno := HNO () hsub hdis
              have HN2 := fun _ : Unit => hno
              clear hno HNO HYE HL1 HL0
              rw [hsub] at *
              clear hsub hdis
              go_wp2
              go_ret2
              rw [(HN2 ()).1, (HN2 ()).2]
              exact gints_none LX7
            · rw [hdis] at hqd
              have HY2 := fun _ : Unit => HYE () (.inr hdis)
              have HLL := fun _ : Unit => HL0 () hsub
              clear HNO HYE HL1 HL0
              rw [hsub] at *
              clear hsub hdis
              go_wp2
              go_roundw
              case rel => exact ⟨k + 1, by omega, by go_num, by rw [HLL ()]; exact hown7, HY2 (), hbs7, LX7⟩
              case measure => simp [intOf]; omega
          · have HY2 := fun _ : Unit => HYE () (.inl hsub)
            have HLL := fun _ : Unit => HL1 () hsub
            clear HNO HYE HL1 HL0 hqd
            rw [hsub] at *
            clear hsub
            go_wp2_with (at_builtin
                         refine wpList_append_any _ rfl (.tmp 30) (.tmp 32) _ rfl w.heap.size 3 i0 _ 1 8 Tryd.underlying26 hi0 hz0 hz1 hz2 rfl (by omega) _ ol.length _ rfl
                           (hown7.alloc _) _ _ 1 1 [.int .i64 (k : Int)] rfl (reads_blk (xs := [.int .i64 (k : Int)]) (Blk.new w7 _ _)) (by simp [Value.oneCell']) (by simp only [maxLen]; omega) (by omega) (by simp; omega) ?_
                         intro v8 w8 hown8 hg8 hat8
                         have L8 : Below w.heap.size w w8 := (LX7.alloc hs7 _).grown hg8 (by simp; omega) hfr
                         have hbs8 := (hbs7.alloc (.cells #[.int .i64 (k : Int)] 3)).grown hg8 (own_blk_ne hown7 hbs7 (by decide)).symm
                         rw [intVals_snoc] at hown8)
            go_roundw
            case rel => exact ⟨k + 1, by omega, by go_num, by rw [HLL (), List.length_append]; exact hown8, HY2 (), hbs8, L8⟩
            case measure => simp [intOf]; omega
      · have e : k = n := by omega
        subst e
        obtain ⟨A5, c5, rfl, hrd, hrc, hrm⟩ := own_reads hown
        have HY := fun _ : Unit => over_yes (b := true) (L := L) (m := m) rfl (by rw [HLN (), HOK ()])
        go_wp2
        go_ret2
        rw [(HY ()).1, (HY ()).2, HLN ()]
        exact ⟨A5, c5, rfl, hrd, hrc, hrm, HB⟩

end Go.Proofs.YtbjgkolldmplkaaDoor
