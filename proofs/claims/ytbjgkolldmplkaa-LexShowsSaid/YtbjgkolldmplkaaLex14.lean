/- The walk of the reference Set of layer 6. -/
import Derived.Test.YtbjgkolldmplkaaLexR
import Derived.Test.YtbjgkolldmplkaaLex13
import Derived.Test.YtbjgkolldmplkaaBy
import Derived.Test.YtbjgkolldmplkaaRRows
namespace Go.Proofs.Ytbjgkolldmplkaa
open Go.RowKit Go.Sort

theorem rbyte_nat (b : Nat) (hb : b < 256) (w : World) : Calls Try.prog 39 #[.int .u8 ((b : Nat) : Int)] w (Gives (.string ⟨(wrL (UInt8.ofNat b)).toArray⟩) w) := by
  have := rbyte_any (UInt8.ofNat b) w
  rw [ofNat_back hb] at this
  exact this

set_option maxRecDepth 100000 in
set_option maxHeartbeats 8000000 in
theorem rset_big (m : Nat → Bool) (w : World) (hsz : 128 < sSize m) :
    Calls Try.prog 29 #[.agg #[.int .u64 ((word m 0 : Nat) : Int), .int .u64 ((word m 1 : Nat) : Int), .int .u64 ((word m 2 : Nat) : Int), .int .u64 ((word m 3 : Nat) : Int)]] w (Gives (.string ⟨(stL m).toArray⟩) w) := by
  have hst : stL m = [91, 94] ++ rowsTx (rowsOf (sNot m)) ++ [93] := if_pos hsz
  rw [hst]
  clear hst
  generalize hfin : [91, 94] ++ rowsTx (rowsOf (sNot m)) ++ [93] = fin
  have HFIN := fun _ : Unit => hfin
  clear hfin
  have hbs := new_blk w m 25
  have L0 : Below w.heap.size w (w.alloc (.cells #[.int .u64 ((word m 0 : Nat) : Int), .int .u64 ((word m 1 : Nat) : Int), .int .u64 ((word m 2 : Nat) : Int), .int .u64 ((word m 3 : Nat) : Int)] 25)) := (Below.refl _ _).alloc (Nat.le_refl _) _
  have hbl : (bytesOf m).length = sSize m := bytesTo_length m 256
  have hsz1 : (128 : Int) < (((bytesOf m).length : Nat) : Int) := by rw [hbl]; omega
  have HS := Lib.hid (bytes_any m)
  generalize (bytesOf m).length = sz at *
  have HRW := Lib.hid (rrows_any (sNot m))
  have hrl := rows_len (sNot m)
  have hrm := rows_mem (sNot m)
  clear hsz hbl
  obtain ⟨d0, d1, d2, d3⟩ := hbs.cells4
  go_enter Try.func29, Try.ntmps29
  go_upto_region 3 with (go_at_call 40; refine (HS.out _).mono ?_; rintro e W2 ⟨A2, c2, rfl, _, _, _, HB⟩)
  have hbs2 := hbs.below HB hbs.lt
  have L2 := L0.trans (HB.mono L0.size)
  clear hbs L0 d0 d1 d2 d3 HB HS
  obtain ⟨d0, d1, d2, d3⟩ := hbs2.cells4
  have HBY0 := fun W => by_any 3 3 (by simp) m m W
  rw [show sBy 3 m m = sNot m from rfl] at HBY0
  have HBY := Lib.hid HBY0
  clear HBY0
  go_upto_region 5 with (go_at_call 41; refine (HBY.out _).mono ?_; rintro e W4 ⟨rfl, HB⟩; have hbs4 := hbs2.below HB hbs2.lt; have L4 := L2.trans (HB.mono L2.size); obtain ⟨e0, e1, e2, e3⟩ := hbs4.cells4; have f0 := hbs4.frozen 0; have f1 := hbs4.frozen 1; have f2 := hbs4.frozen 2; have f3 := hbs4.frozen 3)
  have hbs5 := hbs4.set4 (sNot m)
  have L5 := below4 L4 (Nat.le_refl _) (.int .u64 ((word (sNot m) 0 : Nat) : Int)) (.int .u64 ((word (sNot m) 1 : Nat) : Int)) (.int .u64 ((word (sNot m) 2 : Nat) : Int)) (.int .u64 ((word (sNot m) 3 : Nat) : Int))
  generalize (((W4.setCell ⟨w.heap.size, 0, none⟩ (.int .u64 ((word (sNot m) 0 : Nat) : Int))).setCell ⟨w.heap.size, 1, none⟩ (.int .u64 ((word (sNot m) 1 : Nat) : Int))).setCell ⟨w.heap.size, 2, none⟩ (.int .u64 ((word (sNot m) 2 : Nat) : Int))).setCell ⟨w.heap.size, 3, none⟩ (.int .u64 ((word (sNot m) 3 : Nat) : Int)) = W5 at *
  clear d0 d1 d2 d3 e0 e1 e2 e3 f0 f1 f2 f3 hbs4 L4 hbs2 L2 HB HBY
  obtain ⟨d0, d1, d2, d3⟩ := hbs5.cells4
  go_wp2_with (go_at_call 42; refine (HRW.out _).mono ?_; rintro e W6 ⟨A6, c6, rfl, HR, _, _, HB⟩; have L6 := L5.trans (HB.mono L5.size))
  clear d0 d1 d2 d3 hbs5 L5 HB HRW
  generalize rowsOf (sNot m) = rl at *
  have hrm' := Lib.hid hrm
  clear hrm
  generalize hnr : rl.length = nr at *
  have HNR := fun _ : Unit => hnr
  clear hnr
  go_loopw [3, 5] (fun v t wr => ∃ (k : Nat) (F : ByteArray), k ≤ nr ∧ t = .int .i64 k ∧ v = .string F ∧ F.data.toList = [91, 94] ++ rowsTx (rl.take k) ∧ Below W6.heap.size W6 wr) (fun _ t _ => nr - (intOf t).toNat)
  case atStart => exact ⟨0, ⟨#[91, 94]⟩, Nat.zero_le _, rfl, rfl, rfl, Below.refl _ _⟩
  case round =>
    obtain ⟨k, F, hk, rfl, rfl, hF, HB⟩ := hrel
    have hsz := HB.size
    have hFs : F.size ≤ 3000 := by
      have h0 : F.data.toList.length = F.size := by simp
      have h1 := rowsTx_len (rl.take k)
      have h2 : (rl.take k).length ≤ k := List.length_take_le _ _
      rw [hF, List.length_append] at h0
      simp only [List.length_cons, List.length_nil] at h0
      omega
    have HF := fun _ : Unit => hF
    clear hF
    by_cases hlt : k < nr
    · have hstep : Unit → rowsTx (rl.take (k + 1)) = rowsTx (rl.take k) ++ rowTx (rl.getD k (0, 0)) := fun _ => by rw [row_at rl k (by rw [HNR ()]; exact hlt), rowsTx_snoc]
      have hmem := hrm'.out (rl.getD k (0, 0)) (by
        have hk2 : k < rl.length := by rw [HNR ()]; exact hlt
        rw [List.getD_eq_getElem?_getD, List.getElem?_eq_getElem hk2, Option.getD_some]
        exact List.getElem_mem hk2)
      obtain ⟨g, o, rfl, c0, c1⟩ := row_cellD (HR.below HB) k (by rw [HNR ()]; exact hlt)
      generalize hr : rl.getD k (0, 0) = r at *
      obtain ⟨a, b⟩ := r
      obtain ⟨hab, hb⟩ := hmem
      simp only at hab hb c0 c1
      have hrt : Unit → rowTx (a, b) = wrL (UInt8.ofNat a) ++ if a < b then 45 :: wrL (UInt8.ofNat b) else [] := fun _ => rfl
      have hln : Unit → ([91, 94] ++ rowsTx (rl.take (k + 1))) = ([91, 94] ++ rowsTx (rl.take k)) ++ rowTx (a, b) := fun _ => by rw [hstep (), List.append_assoc]
      clear hr hstep
      have hia : (0 : Int) ≤ (k : Int) := by omega
      have hib : (k : Int) < (nr : Int) := by omega
      have HB1 := Lib.hid (fun W => rbyte_nat a (by omega) W)
      have HB2 := Lib.hid (fun W => rbyte_nat b hb W)
      have hwa := wrL_len (UInt8.ofNat a)
      have hwb := wrL_len (UInt8.ofNat b)
      generalize wrL (UInt8.ofNat a) = ta at *
      generalize wrL (UInt8.ofNat b) = tb at *
      have hsa : (⟨ta.toArray⟩ : ByteArray).size ≤ 4 := hwa
      have hsb : (⟨tb.toArray⟩ : ByteArray).size ≤ 4 := hwb
      have hGa : (⟨ta.toArray⟩ : ByteArray).data.toList = ta := rfl
      have hGb : (⟨tb.toArray⟩ : ByteArray).data.toList = tb := rfl
      have HGa := Lib.hid hGa
      have HGb := Lib.hid hGb
      clear hGa hGb hwa hwb
      generalize (⟨ta.toArray⟩ : ByteArray) = Ga at *
      generalize (⟨tb.toArray⟩ : ByteArray) = Gb at *
      go_upto_region 10 with (go_at_call 39; (with_reducible refine (HB1.out _).mono ?_); rintro e w1 ⟨rfl, HBa⟩)
      have L1 : Below wr.heap.size wr w1 := HBa
      have LX := HB.trans (L1.mono hsz)
      replace c0 := (L1.cell (block_lt_of_cell c0)).trans c0
      replace c1 := (L1.cell (block_lt_of_cell c1)).trans c1
      clear HBa
      by_cases hlab : a < b
      · have hne : (((b : Nat) : Int) != ((a : Nat) : Int)) = true := ne_yes (by omega)
        refine wp_region_quiet_lit (by kernel_rfl) (by kernel_rfl) ?_
        repeat (go_big_quiet_step (fail))
        refine wpQuiet_nil ?_
        intro _ hw'
        obtain ⟨nq, hw''⟩ := hw'
        subst hw''
        have LQ : Below w1.heap.size w1 (w1.drewN nq) := below_drewN (Below.refl _ w1) nq
        have LX2 := LX.trans (LQ.mono LX.size)
        generalize w1.drewN nq = w2 at *
        replace c1 := (LQ.cell (block_lt_of_cell c1)).trans c1
        go_wp2_with (go_at_call 39; (with_reducible refine (HB2.out _).mono ?_); rintro e w3 ⟨rfl, HBb⟩)
        have L3 := LX2.trans (HBb.mono LX2.size)
        go_roundw
        case rel => exact ⟨k + 1, _, by omega, by go_num, rfl, by rw [hln (), hrt (), if_pos hlab, ← HF (), ← HGa.out, ← HGb.out]; simp, L3⟩
        case measure => simp [intOf]; omega
      · have hne : (((b : Nat) : Int) != ((a : Nat) : Int)) = false := ne_no (by omega)
        refine wp_region_quiet_lit (by kernel_rfl) (by kernel_rfl) ?_
        repeat (go_big_quiet_step (fail))
        refine wpQuiet_nil ?_
        intro _ hw'
        obtain ⟨nq, hw''⟩ := hw'
        subst hw''
        have LX2 := below_drewN LX nq
        generalize w1.drewN nq = w2 at *
        go_wp2
        go_roundw
        case rel => exact ⟨k + 1, _, by omega, by go_num, rfl, by rw [hln (), hrt (), if_neg hlab, ← HF (), ← HGa.out]; simp, LX2⟩
        case measure => simp [intOf]; omega
    · obtain rfl : k = nr := by omega
      have hall : rl.take k = rl := by rw [← HNR ()]; exact List.take_length
      have hR : Unit → (F ++ ⟨#[93]⟩ : ByteArray) = ⟨fin.toArray⟩ := fun _ => str_data _ _ (by
        have := HF ()
        rw [hall] at this
        rw [← HFIN ()]
        simp [this])
      have LF := L6.trans (HB.mono L6.size)
      clear HF hall HFIN
      go_wp2
      go_ret
      exact ⟨by rw [← hR ()]; rfl, LF⟩

set_option maxRecDepth 100000 in
set_option maxHeartbeats 8000000 in
theorem rset_few (m : Nat → Bool) (w : World) (hsz : ¬ 128 < sSize m) :
    Calls Try.prog 29 #[.agg #[.int .u64 ((word m 0 : Nat) : Int), .int .u64 ((word m 1 : Nat) : Int), .int .u64 ((word m 2 : Nat) : Int), .int .u64 ((word m 3 : Nat) : Int)]] w (Gives (.string ⟨(stL m).toArray⟩) w) := by
  have hst : stL m = [91] ++ rowsTx (rowsOf m) ++ [93] := if_neg hsz
  rw [hst]
  clear hst
  generalize hfin : [91] ++ rowsTx (rowsOf m) ++ [93] = fin
  have HFIN := fun _ : Unit => hfin
  clear hfin
  have hbs := new_blk w m 25
  have L0 : Below w.heap.size w (w.alloc (.cells #[.int .u64 ((word m 0 : Nat) : Int), .int .u64 ((word m 1 : Nat) : Int), .int .u64 ((word m 2 : Nat) : Int), .int .u64 ((word m 3 : Nat) : Int)] 25)) := (Below.refl _ _).alloc (Nat.le_refl _) _
  have hbl : (bytesOf m).length = sSize m := bytesTo_length m 256
  have hsz1 : ¬ (128 : Int) < (((bytesOf m).length : Nat) : Int) := by rw [hbl]; omega
  have HS := Lib.hid (bytes_any m)
  generalize (bytesOf m).length = sz at *
  have HRW := Lib.hid (rrows_any m)
  have hrl := rows_len m
  have hrm := rows_mem m
  clear hsz hbl
  obtain ⟨d0, d1, d2, d3⟩ := hbs.cells4
  go_enter Try.func29, Try.ntmps29
  go_wp2_with (first
    | (go_at_call 40; refine (HS.out _).mono ?_; rintro e W2 ⟨A2, c2, rfl, _, _, _, HB⟩; have hbs2 := hbs.below HB hbs.lt; have L2 := L0.trans (HB.mono L0.size); obtain ⟨y0, y1, y2, y3⟩ := hbs2.cells4)
    | (go_at_call 42; refine (HRW.out _).mono ?_; rintro e W6 ⟨A6, c6, rfl, HR, _, _, HB6⟩; have L6 := L2.trans (HB6.mono L2.size)))
  clear d0 d1 d2 d3 y0 y1 y2 y3 hbs L0 HB hbs2 L2 HB6 HRW HS
  generalize rowsOf m = rl at *
  have hrm' := Lib.hid hrm
  clear hrm
  generalize hnr : rl.length = nr at *
  have HNR := fun _ : Unit => hnr
  clear hnr
  go_loopw [3, 5] (fun v t wr => ∃ (k : Nat) (F : ByteArray), k ≤ nr ∧ t = .int .i64 k ∧ v = .string F ∧ F.data.toList = [91] ++ rowsTx (rl.take k) ∧ Below W6.heap.size W6 wr) (fun _ t _ => nr - (intOf t).toNat)
  case atStart => exact ⟨0, ⟨#[91]⟩, Nat.zero_le _, rfl, rfl, rfl, Below.refl _ _⟩
  case round =>
    obtain ⟨k, F, hk, rfl, rfl, hF, HB⟩ := hrel
    have hsz := HB.size
    have hFs : F.size ≤ 3000 := by
      have h0 : F.data.toList.length = F.size := by simp
      have h1 := rowsTx_len (rl.take k)
      have h2 : (rl.take k).length ≤ k := List.length_take_le _ _
      rw [hF, List.length_append] at h0
      simp only [List.length_cons, List.length_nil] at h0
      omega
    have HF := fun _ : Unit => hF
    clear hF
    by_cases hlt : k < nr
    · have hstep : Unit → rowsTx (rl.take (k + 1)) = rowsTx (rl.take k) ++ rowTx (rl.getD k (0, 0)) := fun _ => by rw [row_at rl k (by rw [HNR ()]; exact hlt), rowsTx_snoc]
      have hmem := hrm'.out (rl.getD k (0, 0)) (by
        have hk2 : k < rl.length := by rw [HNR ()]; exact hlt
        rw [List.getD_eq_getElem?_getD, List.getElem?_eq_getElem hk2, Option.getD_some]
        exact List.getElem_mem hk2)
      obtain ⟨g, o, rfl, c0, c1⟩ := row_cellD (HR.below HB) k (by rw [HNR ()]; exact hlt)
      generalize hr : rl.getD k (0, 0) = r at *
      obtain ⟨a, b⟩ := r
      obtain ⟨hab, hb⟩ := hmem
      simp only at hab hb c0 c1
      have hrt : Unit → rowTx (a, b) = wrL (UInt8.ofNat a) ++ if a < b then 45 :: wrL (UInt8.ofNat b) else [] := fun _ => rfl
      have hln : Unit → ([91] ++ rowsTx (rl.take (k + 1))) = ([91] ++ rowsTx (rl.take k)) ++ rowTx (a, b) := fun _ => by rw [hstep (), List.append_assoc]
      clear hr hstep
      have hia : (0 : Int) ≤ (k : Int) := by omega
      have hib : (k : Int) < (nr : Int) := by omega
      have HB1 := Lib.hid (fun W => rbyte_nat a (by omega) W)
      have HB2 := Lib.hid (fun W => rbyte_nat b hb W)
      have hwa := wrL_len (UInt8.ofNat a)
      have hwb := wrL_len (UInt8.ofNat b)
      generalize wrL (UInt8.ofNat a) = ta at *
      generalize wrL (UInt8.ofNat b) = tb at *
      have hsa : (⟨ta.toArray⟩ : ByteArray).size ≤ 4 := hwa
      have hsb : (⟨tb.toArray⟩ : ByteArray).size ≤ 4 := hwb
      have hGa : (⟨ta.toArray⟩ : ByteArray).data.toList = ta := rfl
      have hGb : (⟨tb.toArray⟩ : ByteArray).data.toList = tb := rfl
      have HGa := Lib.hid hGa
      have HGb := Lib.hid hGb
      clear hGa hGb hwa hwb
      generalize (⟨ta.toArray⟩ : ByteArray) = Ga at *
      generalize (⟨tb.toArray⟩ : ByteArray) = Gb at *
      go_upto_region 10 with (go_at_call 39; (with_reducible refine (HB1.out _).mono ?_); rintro e w1 ⟨rfl, HBa⟩)
      have L1 : Below wr.heap.size wr w1 := HBa
      have LX := HB.trans (L1.mono hsz)
      replace c0 := (L1.cell (block_lt_of_cell c0)).trans c0
      replace c1 := (L1.cell (block_lt_of_cell c1)).trans c1
      clear HBa
      by_cases hlab : a < b
      · have hne : (((b : Nat) : Int) != ((a : Nat) : Int)) = true := ne_yes (by omega)
        refine wp_region_quiet_lit (by kernel_rfl) (by kernel_rfl) ?_
        repeat (go_big_quiet_step (fail))
        refine wpQuiet_nil ?_
        intro _ hw'
        obtain ⟨nq, hw''⟩ := hw'
        subst hw''
        have LQ : Below w1.heap.size w1 (w1.drewN nq) := below_drewN (Below.refl _ w1) nq
        have LX2 := LX.trans (LQ.mono LX.size)
        generalize w1.drewN nq = w2 at *
        replace c1 := (LQ.cell (block_lt_of_cell c1)).trans c1
        go_wp2_with (go_at_call 39; (with_reducible refine (HB2.out _).mono ?_); rintro e w3 ⟨rfl, HBb⟩)
        have L3 := LX2.trans (HBb.mono LX2.size)
        go_roundw
        case rel => exact ⟨k + 1, _, by omega, by go_num, rfl, by rw [hln (), hrt (), if_pos hlab, ← HF (), ← HGa.out, ← HGb.out]; simp, L3⟩
        case measure => simp [intOf]; omega
      · have hne : (((b : Nat) : Int) != ((a : Nat) : Int)) = false := ne_no (by omega)
        refine wp_region_quiet_lit (by kernel_rfl) (by kernel_rfl) ?_
        repeat (go_big_quiet_step (fail))
        refine wpQuiet_nil ?_
        intro _ hw'
        obtain ⟨nq, hw''⟩ := hw'
        subst hw''
        have LX2 := below_drewN LX nq
        generalize w1.drewN nq = w2 at *
        go_wp2
        go_roundw
        case rel => exact ⟨k + 1, _, by omega, by go_num, rfl, by rw [hln (), hrt (), if_neg hlab, ← HF (), ← HGa.out]; simp, LX2⟩
        case measure => simp [intOf]; omega
    · obtain rfl : k = nr := by omega
      have hall : rl.take k = rl := by rw [← HNR ()]; exact List.take_length
      have hR : Unit → (F ++ ⟨#[93]⟩ : ByteArray) = ⟨fin.toArray⟩ := fun _ => str_data _ _ (by
        have := HF ()
        rw [hall] at this
        rw [← HFIN ()]
        simp [this])
      have LF := L6.trans (HB.mono L6.size)
      clear HF hall HFIN
      go_wp2
      go_ret
      exact ⟨by rw [← hR ()]; rfl, LF⟩

theorem rset_any (m : Nat → Bool) (w : World) : Calls Try.prog 29 #[.agg #[.int .u64 ((word m 0 : Nat) : Int), .int .u64 ((word m 1 : Nat) : Int), .int .u64 ((word m 2 : Nat) : Int), .int .u64 ((word m 3 : Nat) : Int)]] w (Gives (.string ⟨(stL m).toArray⟩) w) := by
  by_cases h : 128 < sSize m
  · exact rset_big m w h
  · exact rset_few m w h

end Go.Proofs.Ytbjgkolldmplkaa
