/- The walk of Set of package lex. -/
import Derived.Test.YtbjgkolldmplkaaLexB
import Derived.Test.YtbjgkolldmplkaaSet6
import Derived.Test.YtbjgkolldmplkaaLex6
import Derived.Deep.Cut
namespace Go.Proofs.Ytbjgkolldmplkaa
open Go.RowKit Go.Sort

theorem own_ne {w : World} {base base' : Nat} {e e' : TypeId} {size size' n n' : Nat} {v v' : Value} {xs xs' : List Value} (h : w.ownsRow base e size v n xs) (h' : w.ownsRow base' e' size' v' n' xs') (hne : e ≠ e') : v.ownBlock = none ∨ v.ownBlock ≠ v'.ownBlock := by
  rcases h.2 with ⟨rfl, _⟩ | ⟨g, cap, cur, rfl, _, hh, _⟩
  · exact .inl rfl
  · right
    intro he
    rcases h'.2 with ⟨rfl, _⟩ | ⟨g', cap', cur', rfl, _, hh', _⟩
    · simp [Value.ownBlock] at he
    · have : g = g' := by simpa [Value.ownBlock] using he
      subst this
      rw [hh] at hh'
      injection hh' with hh'
      injection hh' with _ ht
      exact hne ht

theorem written_nat (base n : Nat) (xs : List Value) (A : Option Addr) (cp b : Nat) (w : World) (hown : w.ownsRow base 5 1 (.slice A n cp) n xs) (hbase : base ≤ w.heap.size) (hn : n ≤ 1000000) (hb : b < 256) :
    Calls Try.prog 38 #[.slice A n cp, .int .u8 ((b : Nat) : Int)] w (Wrote base n xs (wrL (UInt8.ofNat b)) (.slice A n cp) w) := by
  have := written_any base n xs A cp (UInt8.ofNat b) w hown hbase hn
  rw [ofNat_back hb] at this
  exact this

/-- The rows of m, told behind what stands there. -/
theorem row_at (l : List (Nat × Nat)) (k : Nat) (hk : k < l.length) : l.take (k + 1) = l.take k ++ [l.getD k (0, 0)] := by
  rw [List.take_succ_eq_append_getElem hk, List.getD_eq_getElem?_getD, List.getElem?_eq_getElem hk, Option.getD_some]

theorem row_cellD {w : World} {B n : Nat} {A : Option Addr} {l : List (Nat × Nat)} (HR : Reads w B 2 A n (rowCells l)) (k : Nat) (hk : k < l.length) :
    ∃ g o, A = some ⟨g, o, none⟩ ∧ w.cell? ⟨g, o + k * 2, none⟩ = some (.int .u8 (((l.getD k (0, 0)).1 : Nat) : Int)) ∧ w.cell? ⟨g, o + k * 2 + 1, none⟩ = some (.int .u8 (((l.getD k (0, 0)).2 : Nat) : Int)) := by
  have e : l.getD k (0, 0) = l[k] := by rw [List.getD_eq_getElem?_getD, List.getElem?_eq_getElem hk, Option.getD_some]
  rw [e]
  exact row_cell HR k hk

theorem grown_set4 (w : World) (B : Nat) (v0 v1 v2 v3 : Value) : w.grownBy ((((w.setCell ⟨B, 0, none⟩ v0).setCell ⟨B, 1, none⟩ v1).setCell ⟨B, 2, none⟩ v2).setCell ⟨B, 3, none⟩ v3) (some B) := by
  have h : ∀ (W : World) (o : Nat) (v : Value), w.grownBy W (some B) → w.grownBy (W.setCell ⟨B, o, none⟩ v) (some B) := fun W o v hW =>
    ⟨hW.os, hW.tape, hW.output, by simpa [World.setCell] using hW.size, fun i hi hne => (Below.heap_setCell W ⟨B, o, none⟩ v i (by
      intro e
      exact hne (by rw [e]))).trans (hW.block i hi hne)⟩
  exact h _ 3 v3 (h _ 2 v2 (h _ 1 v1 (h _ 0 v0 (World.grownBy.refl w _))))

set_option maxRecDepth 100000 in
set_option maxHeartbeats 8000000 in
theorem set_big (m : Nat → Bool) (w : World) (hsz : 128 < sSize m) :
    Calls Try.prog 28 #[.agg #[.int .u64 ((word m 0 : Nat) : Int), .int .u64 ((word m 1 : Nat) : Int), .int .u64 ((word m 2 : Nat) : Int), .int .u64 ((word m 3 : Nat) : Int)]] w (Gives (.string ⟨(stL m).toArray⟩) w) := by
  have hst : stL m = [91, 94] ++ rowsTx (rowsOf (sNot m)) ++ [93] := if_pos hsz
  rw [hst]
  clear hst
  generalize hfin : [91, 94] ++ rowsTx (rowsOf (sNot m)) ++ [93] = fin
  have HFIN := fun _ : Unit => hfin
  clear hfin
  obtain ⟨i0, hi0, hz0, hz1, hz2⟩ := info_parts lx_info
  have hbs := new_blk w m 25
  have L0 : Below w.heap.size w (w.alloc (.cells #[.int .u64 ((word m 0 : Nat) : Int), .int .u64 ((word m 1 : Nat) : Int), .int .u64 ((word m 2 : Nat) : Int), .int .u64 ((word m 3 : Nat) : Int)] 25)) := (Below.refl _ _).alloc (Nat.le_refl _) _
  have hsz1 : (128 : Int) < ((sSize m : Nat) : Int) := by omega
  have HSZ := size_any m
  generalize sSize m = sz at *
  have HS := Lib.hid HSZ
  clear HSZ hsz
  have HRW := Lib.hid (rows_any (sNot m))
  have hrl := rows_len (sNot m)
  have hrm := rows_mem (sNot m)
  go_enter Try.func28, Try.ntmps28
  have hbs1 := hbs.alloc (.cells #[.int .u8 91] 5)
  have L1 := L0.alloc L0.size (.cells #[.int .u8 91] 5)
  have hown1 : ((w.alloc (.cells #[.int .u64 ((word m 0 : Nat) : Int), .int .u64 ((word m 1 : Nat) : Int), .int .u64 ((word m 2 : Nat) : Int), .int .u64 ((word m 3 : Nat) : Int)] 25)).alloc (.cells #[.int .u8 91] 5)).ownsRow w.heap.size 5 1 (.slice (some ⟨w.heap.size + 1, 0, none⟩) 1 1) 1 (uVals [91]) :=
    ⟨rfl, .inr ⟨w.heap.size + 1, 1, #[.int .u8 91], rfl, Nat.le_succ _, by
      have := heap_alloc_new (w.alloc (.cells #[.int .u64 ((word m 0 : Nat) : Int), .int .u64 ((word m 1 : Nat) : Int), .int .u64 ((word m 2 : Nat) : Int), .int .u64 ((word m 3 : Nat) : Int)] 25)) (.cells #[.int .u8 91] 5)
      simpa using this, Nat.le_refl _, by unfold maxLen; decide, rfl, rfl⟩⟩
  go_upto_region 2 with (fail)
  generalize (w.alloc (.cells #[.int .u64 ((word m 0 : Nat) : Int), .int .u64 ((word m 1 : Nat) : Int), .int .u64 ((word m 2 : Nat) : Int), .int .u64 ((word m 3 : Nat) : Int)] 25)).alloc (.cells #[.int .u8 91] 5) = W1 at *
  clear hbs L0
  obtain ⟨d0, d1, d2, d3⟩ := hbs1.cells4
  go_upto_region 3 with (go_at_call 22; refine (HS.out _).mono ?_; rintro e W2 ⟨rfl, HB⟩)
  have hbs2 := hbs1.below HB hbs1.lt
  have hown2 := own_call hown1 HB
  have L2 := L1.trans (HB.mono L1.size)
  have hfr2 := own_base hown2
  clear hbs1 hown1 L1 d0 d1 d2 d3 HB
  go_upto_region 4 with (at_builtin
                         refine wpList_append_any _ rfl (.tmp 10) (.tmp 11) _ rfl w.heap.size 5 i0 _ 1 1 Try.underlying22 hi0 hz0 hz1 hz2 rfl (by omega) _ 1 _ rfl
                           (hown2.alloc _) _ _ 1 1 [.int .u8 94] rfl (reads_blk (xs := [.int .u8 94]) (Blk.new W2 _ _)) (by simp [Value.oneCell']) (by simp only [maxLen]; omega) (by omega) (by have := L2.size; simp; omega) ?_
                         intro v3 W3 hown3 hg3 hat3
                         have L3 : Below w.heap.size w W3 := (L2.alloc L2.size _).grown hg3 (by have := L2.size; simp; omega) hfr2
                         have hbs3 := (hbs2.alloc (.cells #[.int .u8 94] 5)).grown hg3 (own_blk_ne hown2 hbs2 (by decide)).symm
                         obtain ⟨A3, c3, rfl, _, _, _⟩ := own_reads hown3)
  clear hbs2 hown2 L2 hfr2 hg3 hat3
  obtain ⟨d0, d1, d2, d3⟩ := hbs3.cells4
  go_upto_region 5 with (go_at_call 19; refine (not_any m _).mono ?_; rintro e W4 ⟨rfl, HB⟩; have hbs4 := hbs3.below HB hbs3.lt; have hown4 := own_call hown3 HB; have L4 := L3.trans (HB.mono L3.size); obtain ⟨e0, e1, e2, e3⟩ := hbs4.cells4; have f0 := hbs4.frozen 0; have f1 := hbs4.frozen 1; have f2 := hbs4.frozen 2; have f3 := hbs4.frozen 3)
  have hg4 := grown_set4 W4 w.heap.size (.int .u64 ((word (sNot m) 0 : Nat) : Int)) (.int .u64 ((word (sNot m) 1 : Nat) : Int)) (.int .u64 ((word (sNot m) 2 : Nat) : Int)) (.int .u64 ((word (sNot m) 3 : Nat) : Int))
  have hbs5 := hbs4.set4 (sNot m)
  have hown5 := hown4.kept hg4 (.inr (own_blk_ne hown4 hbs4 (by decide)))
  have L5 := below4 L4 (Nat.le_refl _) (.int .u64 ((word (sNot m) 0 : Nat) : Int)) (.int .u64 ((word (sNot m) 1 : Nat) : Int)) (.int .u64 ((word (sNot m) 2 : Nat) : Int)) (.int .u64 ((word (sNot m) 3 : Nat) : Int))
  generalize (((W4.setCell ⟨w.heap.size, 0, none⟩ (.int .u64 ((word (sNot m) 0 : Nat) : Int))).setCell ⟨w.heap.size, 1, none⟩ (.int .u64 ((word (sNot m) 1 : Nat) : Int))).setCell ⟨w.heap.size, 2, none⟩ (.int .u64 ((word (sNot m) 2 : Nat) : Int))).setCell ⟨w.heap.size, 3, none⟩ (.int .u64 ((word (sNot m) 3 : Nat) : Int)) = W5 at *
  clear d0 d1 d2 d3 e0 e1 e2 e3 f0 f1 f2 f3 hg4 hbs4 hown4 L4 hbs3 hown3 L3 HB
  obtain ⟨d0, d1, d2, d3⟩ := hbs5.cells4
  go_wp2_with (go_at_call 17; refine (HRW.out _).mono ?_; rintro e W6 ⟨v6, rfl, hrow, HB⟩; obtain ⟨A6, c6, rfl, _, _, _⟩ := own_reads hrow; have hown6 := own_call hown5 HB; have L6 := L5.trans (HB.mono L5.size))
  clear d0 d1 d2 d3 hbs5 hown5 L5 HB HRW HS
  generalize rowsOf (sNot m) = rl at *
  have hrm' := Lib.hid hrm
  clear hrm
  generalize hnr : rl.length = nr at *
  have HNR := fun _ : Unit => hnr
  clear hnr
  obtain ⟨B6, hB6⟩ : ∃ B6, B6 = W6.heap.size := ⟨_, rfl⟩
  go_loopw [3, 18] (fun v t wr => ∃ k : Nat, k ≤ nr ∧ t = .int .i64 k ∧ wr.ownsRow w.heap.size 5 1 v ([91, 94] ++ rowsTx (rl.take k)).length (uVals ([91, 94] ++ rowsTx (rl.take k))) ∧ (∃ bb, wr.ownsRow bb 35 2 (.slice A6 nr c6) nr (rowCells rl)) ∧ Below w.heap.size w wr) (fun _ t _ => nr - (intOf t).toNat)
  case atStart => exact ⟨0, Nat.zero_le _, rfl, hown6, ⟨_, hrow⟩, L6⟩
  case round =>
    clear hown6 hrow L6 hB6 B6
    obtain ⟨k, hk, rfl, hown, ⟨bb, hrow⟩, HB⟩ := hrel
    have hsz := HB.size
    have hnn : ([91, 94] ++ rowsTx (rl.take k)).length ≤ 3000 := by
      have h1 := rowsTx_len (rl.take k)
      have h2 : (rl.take k).length ≤ k := List.length_take_le _ _
      rw [List.length_append]
      simp only [List.length_cons, List.length_nil]
      omega
    by_cases hlt : k < nr
    · obtain ⟨A, c, rfl, _, _, _⟩ := own_reads hown
      have hstep : Unit → rowsTx (rl.take (k + 1)) = rowsTx (rl.take k) ++ rowTx (rl.getD k (0, 0)) := fun _ => by rw [row_at rl k (by rw [HNR ()]; exact hlt), rowsTx_snoc]
      have hmem := hrm'.out (rl.getD k (0, 0)) (by
        have hk2 : k < rl.length := by rw [HNR ()]; exact hlt
        rw [List.getD_eq_getElem?_getD, List.getElem?_eq_getElem hk2, Option.getD_some]
        exact List.getElem_mem hk2)
      obtain ⟨Ar, cr, er, hR, _, _⟩ := own_reads hrow
      injection er with er1 _ er2
      subst er1 er2
      obtain ⟨g, o, rfl, c0, c1⟩ := row_cellD hR k (by rw [HNR ()]; exact hlt)
      generalize hr : rl.getD k (0, 0) = r at *
      obtain ⟨a, b⟩ := r
      obtain ⟨hab, hb⟩ := hmem
      simp only at hab hb c0 c1
      have hrt : Unit → rowTx (a, b) = wrL (UInt8.ofNat a) ++ if a < b then 45 :: wrL (UInt8.ofNat b) else [] := fun _ => rfl
      have hln : Unit → ([91, 94] ++ rowsTx (rl.take (k + 1))) = ([91, 94] ++ rowsTx (rl.take k)) ++ rowTx (a, b) := fun _ => by rw [hstep (), List.append_assoc]
      clear hr hR hstep
      generalize [91, 94] ++ rowsTx (rl.take k) = pre at *
      generalize hpl : pre.length = pl at *
      have HPL := fun _ : Unit => hpl
      clear hpl
      have hia : (0 : Int) ≤ (k : Int) := by omega
      have hib : (k : Int) < (nr : Int) := by omega
      have hwa := wrL_len (UInt8.ofNat a)
      have hwb := wrL_len (UInt8.ofNat b)
      go_upto_region 8 with (fail)
      have hbx := Blk.new wr 35 #[.int .u8 ((a : Nat) : Int), .int .u8 ((b : Nat) : Int)]
      have hown1 := hown.alloc (.cells #[.int .u8 ((a : Nat) : Int), .int .u8 ((b : Nat) : Int)] 35)
      have hrow1 := hrow.alloc (.cells #[.int .u8 ((a : Nat) : Int), .int .u8 ((b : Nat) : Int)] 35)
      have L1 := HB.alloc hsz (.cells #[.int .u8 ((a : Nat) : Int), .int .u8 ((b : Nat) : Int)] 35)
      generalize wr.alloc (.cells #[.int .u8 ((a : Nat) : Int), .int .u8 ((b : Nat) : Int)] 35) = W1 at *
      generalize wr.heap.size = bx at *
      have x0 := hbx.cell 0
      have x1 := hbx.cell 1
      simp at x0 x1
      have HW1 := written_nat w.heap.size pl (uVals pre) A c a W1 hown1 L1.size (by omega) (by omega)
      have hfr1 := own_base hown1
      go_upto_region 9 with (go_at_call 38; refine HW1.mono ?_; rintro e W2 ⟨v2, rfl, hown2, hg2⟩; obtain ⟨A2, c2, rfl, _, _, _⟩ := own_reads hown2)
      rw [uVals_app] at hown2
      have hrow2 := hrow1.kept hg2 (own_ne hrow1 hown1 (by decide))
      have hbx2 := hbx.grown hg2 (own_blk_ne hown1 hbx (by decide)).symm
      have L2 : Below w.heap.size w W2 := L1.grown hg2 L1.size hfr1
      clear x0 x1 HW1 hown1 hrow1 hbx L1 hg2 hfr1 hown hrow HB c0 c1
      have x0 := hbx2.cell 0
      have x1 := hbx2.cell 1
      simp at x0 x1
      by_cases hlab : a < b
      · have h2 : Unit → pre ++ rowTx (a, b) = (pre ++ wrL (UInt8.ofNat a)) ++ [45] ++ wrL (UInt8.ofNat b) := fun _ => by rw [hrt (), if_pos hlab]; simp
        have hfr2 := own_base hown2
        generalize hl2 : pl + (wrL (UInt8.ofNat a)).length = pl2 at *
        have HL2 := fun _ : Unit => hl2
        have hl2b : pl2 ≤ 3004 := by omega
        clear hl2 hwa hrt
        go_upto_region 11 with (at_builtin
                                refine wpList_append_any _ rfl (.tmp 31) (.tmp 32) _ rfl w.heap.size 5 i0 _ 1 1 Try.underlying22 hi0 hz0 hz1 hz2 rfl (by omega) _ pl2 _ rfl
                                  (hown2.alloc _) _ _ 1 1 [.int .u8 45] rfl (reads_blk (xs := [.int .u8 45]) (Blk.new W2 _ _)) (by simp [Value.oneCell']) (by simp only [maxLen]; omega) (by omega) (by have := L2.size; simp; omega) ?_
                                intro v3 W3 hown3 hg3 hat3
                                have L3 : Below w.heap.size w W3 := (L2.alloc L2.size _).grown hg3 (by have := L2.size; simp; omega) hfr2
                                obtain ⟨A3, c3, rfl, _, _, _⟩ := own_reads hown3)
        have hrow3 := (hrow2.alloc (.cells #[.int .u8 45] 5)).kept hg3 (own_ne hrow2 hown2 (by decide))
        have hbx3 := (hbx2.alloc (.cells #[.int .u8 45] 5)).grown hg3 (own_blk_ne hown2 hbx2 (by decide)).symm
        rw [show uVals (pre ++ wrL (UInt8.ofNat a)) ++ [Value.int .u8 45] = uVals ((pre ++ wrL (UInt8.ofNat a)) ++ [45]) from uVals_app _ [45]] at hown3
        clear x0 x1 hown2 hrow2 hbx2 L2 hg3 hat3 hfr2
        have x1 := hbx3.cell 1
        simp at x1
        have HW3 := written_nat w.heap.size (pl2 + 1) (uVals ((pre ++ wrL (UInt8.ofNat a)) ++ [45])) A3 c3 b W3 hown3 L3.size (by omega) hb
        have hfr3 := own_base hown3
        go_wp2_with (go_at_call 38; refine HW3.mono ?_; rintro e W4 ⟨v4, rfl, hown4, hg4⟩)
        rw [uVals_app, ← h2 (), ← hln ()] at hown4
        have hrow4 := hrow3.kept hg4 (own_ne hrow3 hown3 (by decide))
        have L4 : Below w.heap.size w W4 := L3.grown hg4 L3.size hfr3
        have hlen : Unit → pl2 + 1 + (wrL (UInt8.ofNat b)).length = ([91, 94] ++ rowsTx (rl.take (k + 1))).length := fun _ => by rw [hln (), h2 (), ← HL2 (), ← HPL ()]; simp; omega
        go_roundw
        case rel => exact ⟨k + 1, by omega, by go_num, by rw [← hlen ()]; exact hown4, ⟨_, hrow4⟩, L4⟩
        case measure => simp [intOf]; omega
      · have h2 : Unit → pre ++ rowTx (a, b) = pre ++ wrL (UInt8.ofNat a) := fun _ => by rw [hrt (), if_neg hlab]; simp
        have hlen : Unit → pl + (wrL (UInt8.ofNat a)).length = ([91, 94] ++ rowsTx (rl.take (k + 1))).length := fun _ => by rw [hln (), h2 (), ← HPL ()]; simp
        rw [← h2 (), ← hln ()] at hown2
        clear hrt h2 hln
        go_wp2
        go_roundw
        case rel => exact ⟨k + 1, by omega, by go_num, by rw [← hlen ()]; exact hown2, ⟨_, hrow2⟩, L2⟩
        case measure => simp [intOf]; omega
    · obtain rfl : k = nr := by omega
      have hall : rl.take k = rl := by rw [← HNR ()]; exact List.take_length
      rw [hall] at hown hnn
      obtain ⟨A, c, rfl, _, _, _⟩ := own_reads hown
      have hfr := own_base hown
      have happ : Unit → uVals ([91, 94] ++ rowsTx rl) ++ [.int .u8 93] = uVals fin := fun _ => by rw [← HFIN ()]; exact uVals_app _ [93]
      clear HFIN
      generalize [91, 94] ++ rowsTx rl = pre at *
      generalize pre.length = pl at *
      go_wp2_with (at_builtin
                   refine wpList_append_any _ rfl (.tmp 39) (.tmp 40) _ rfl w.heap.size 5 i0 _ 1 1 Try.underlying22 hi0 hz0 hz1 hz2 rfl (by omega) _ pl _ rfl
                     (hown.alloc _) _ _ 1 1 [.int .u8 93] rfl (reads_blk (xs := [.int .u8 93]) (Blk.new wr _ _)) (by simp [Value.oneCell']) (by simp only [maxLen]; omega) (by omega) (by simp; omega) ?_
                   intro v4 w4 hown4 hg4 hat4
                   have L4 : Below w.heap.size w w4 := (HB.alloc hsz _).grown hg4 (by simp; omega) hfr
                   rw [happ ()] at hown4
                   obtain ⟨A4, c4, rfl, _, _, _⟩ := own_reads hown4
                   have hconv := conv_own hown4)
      go_ret
      exact ⟨rfl, L4⟩

set_option maxRecDepth 100000 in
set_option maxHeartbeats 8000000 in
theorem set_few (m : Nat → Bool) (w : World) (hsz : ¬ 128 < sSize m) :
    Calls Try.prog 28 #[.agg #[.int .u64 ((word m 0 : Nat) : Int), .int .u64 ((word m 1 : Nat) : Int), .int .u64 ((word m 2 : Nat) : Int), .int .u64 ((word m 3 : Nat) : Int)]] w (Gives (.string ⟨(stL m).toArray⟩) w) := by
  have hst : stL m = [91] ++ rowsTx (rowsOf m) ++ [93] := if_neg hsz
  rw [hst]
  clear hst
  generalize hfin : [91] ++ rowsTx (rowsOf m) ++ [93] = fin
  have HFIN := fun _ : Unit => hfin
  clear hfin
  obtain ⟨i0, hi0, hz0, hz1, hz2⟩ := info_parts lx_info
  have hbs := new_blk w m 25
  have L0 : Below w.heap.size w (w.alloc (.cells #[.int .u64 ((word m 0 : Nat) : Int), .int .u64 ((word m 1 : Nat) : Int), .int .u64 ((word m 2 : Nat) : Int), .int .u64 ((word m 3 : Nat) : Int)] 25)) := (Below.refl _ _).alloc (Nat.le_refl _) _
  have hsz1 : ¬ (128 : Int) < ((sSize m : Nat) : Int) := by omega
  have HSZ := size_any m
  generalize sSize m = sz at *
  have HS := Lib.hid HSZ
  clear HSZ hsz
  have HRW := Lib.hid (rows_any m)
  have hrl := rows_len m
  have hrm := rows_mem m
  go_enter Try.func28, Try.ntmps28
  have hbs1 := hbs.alloc (.cells #[.int .u8 91] 5)
  have L1 := L0.alloc L0.size (.cells #[.int .u8 91] 5)
  have hown1 : ((w.alloc (.cells #[.int .u64 ((word m 0 : Nat) : Int), .int .u64 ((word m 1 : Nat) : Int), .int .u64 ((word m 2 : Nat) : Int), .int .u64 ((word m 3 : Nat) : Int)] 25)).alloc (.cells #[.int .u8 91] 5)).ownsRow w.heap.size 5 1 (.slice (some ⟨w.heap.size + 1, 0, none⟩) 1 1) 1 (uVals [91]) :=
    ⟨rfl, .inr ⟨w.heap.size + 1, 1, #[.int .u8 91], rfl, Nat.le_succ _, by
      have := heap_alloc_new (w.alloc (.cells #[.int .u64 ((word m 0 : Nat) : Int), .int .u64 ((word m 1 : Nat) : Int), .int .u64 ((word m 2 : Nat) : Int), .int .u64 ((word m 3 : Nat) : Int)] 25)) (.cells #[.int .u8 91] 5)
      simpa using this, Nat.le_refl _, by unfold maxLen; decide, rfl, rfl⟩⟩
  go_upto_region 2 with (fail)
  generalize (w.alloc (.cells #[.int .u64 ((word m 0 : Nat) : Int), .int .u64 ((word m 1 : Nat) : Int), .int .u64 ((word m 2 : Nat) : Int), .int .u64 ((word m 3 : Nat) : Int)] 25)).alloc (.cells #[.int .u8 91] 5) = W1 at *
  clear hbs L0
  obtain ⟨d0, d1, d2, d3⟩ := hbs1.cells4
  go_wp2_with (first
    | (go_at_call 22; refine (HS.out _).mono ?_; rintro e W2 ⟨rfl, HB⟩; have hbs2 := hbs1.below HB hbs1.lt; have hown2 := own_call hown1 HB; have L2 := L1.trans (HB.mono L1.size); obtain ⟨y0, y1, y2, y3⟩ := hbs2.cells4)
    | (go_at_call 17; refine (HRW.out _).mono ?_; rintro e W6 ⟨v6, rfl, hrow, HB6⟩; obtain ⟨A6, c6, rfl, _, _, _⟩ := own_reads hrow; have hown6 := own_call hown2 HB6; have L6 := L2.trans (HB6.mono L2.size)))
  clear d0 d1 d2 d3 y0 y1 y2 y3 hbs1 hown1 L1 HB hbs2 hown2 L2 HB6 HRW HS
  generalize rowsOf m = rl at *
  have hrm' := Lib.hid hrm
  clear hrm
  generalize hnr : rl.length = nr at *
  have HNR := fun _ : Unit => hnr
  clear hnr
  obtain ⟨B6, hB6⟩ : ∃ B6, B6 = W6.heap.size := ⟨_, rfl⟩
  go_loopw [3, 18] (fun v t wr => ∃ k : Nat, k ≤ nr ∧ t = .int .i64 k ∧ wr.ownsRow w.heap.size 5 1 v ([91] ++ rowsTx (rl.take k)).length (uVals ([91] ++ rowsTx (rl.take k))) ∧ (∃ bb, wr.ownsRow bb 35 2 (.slice A6 nr c6) nr (rowCells rl)) ∧ Below w.heap.size w wr) (fun _ t _ => nr - (intOf t).toNat)
  case atStart => exact ⟨0, Nat.zero_le _, rfl, hown6, ⟨_, hrow⟩, L6⟩
  case round =>
    clear hown6 hrow L6 hB6 B6
    obtain ⟨k, hk, rfl, hown, ⟨bb, hrow⟩, HB⟩ := hrel
    have hsz := HB.size
    have hnn : ([91] ++ rowsTx (rl.take k)).length ≤ 3000 := by
      have h1 := rowsTx_len (rl.take k)
      have h2 : (rl.take k).length ≤ k := List.length_take_le _ _
      rw [List.length_append]
      simp only [List.length_cons, List.length_nil]
      omega
    by_cases hlt : k < nr
    · obtain ⟨A, c, rfl, _, _, _⟩ := own_reads hown
      have hstep : Unit → rowsTx (rl.take (k + 1)) = rowsTx (rl.take k) ++ rowTx (rl.getD k (0, 0)) := fun _ => by rw [row_at rl k (by rw [HNR ()]; exact hlt), rowsTx_snoc]
      have hmem := hrm'.out (rl.getD k (0, 0)) (by
        have hk2 : k < rl.length := by rw [HNR ()]; exact hlt
        rw [List.getD_eq_getElem?_getD, List.getElem?_eq_getElem hk2, Option.getD_some]
        exact List.getElem_mem hk2)
      obtain ⟨Ar, cr, er, hR, _, _⟩ := own_reads hrow
      injection er with er1 _ er2
      subst er1 er2
      obtain ⟨g, o, rfl, c0, c1⟩ := row_cellD hR k (by rw [HNR ()]; exact hlt)
      generalize hr : rl.getD k (0, 0) = r at *
      obtain ⟨a, b⟩ := r
      obtain ⟨hab, hb⟩ := hmem
      simp only at hab hb c0 c1
      have hrt : Unit → rowTx (a, b) = wrL (UInt8.ofNat a) ++ if a < b then 45 :: wrL (UInt8.ofNat b) else [] := fun _ => rfl
      have hln : Unit → ([91] ++ rowsTx (rl.take (k + 1))) = ([91] ++ rowsTx (rl.take k)) ++ rowTx (a, b) := fun _ => by rw [hstep (), List.append_assoc]
      clear hr hR hstep
      generalize [91] ++ rowsTx (rl.take k) = pre at *
      generalize hpl : pre.length = pl at *
      have HPL := fun _ : Unit => hpl
      clear hpl
      have hia : (0 : Int) ≤ (k : Int) := by omega
      have hib : (k : Int) < (nr : Int) := by omega
      have hwa := wrL_len (UInt8.ofNat a)
      have hwb := wrL_len (UInt8.ofNat b)
      go_upto_region 8 with (fail)
      have hbx := Blk.new wr 35 #[.int .u8 ((a : Nat) : Int), .int .u8 ((b : Nat) : Int)]
      have hown1 := hown.alloc (.cells #[.int .u8 ((a : Nat) : Int), .int .u8 ((b : Nat) : Int)] 35)
      have hrow1 := hrow.alloc (.cells #[.int .u8 ((a : Nat) : Int), .int .u8 ((b : Nat) : Int)] 35)
      have L1 := HB.alloc hsz (.cells #[.int .u8 ((a : Nat) : Int), .int .u8 ((b : Nat) : Int)] 35)
      generalize wr.alloc (.cells #[.int .u8 ((a : Nat) : Int), .int .u8 ((b : Nat) : Int)] 35) = W1 at *
      generalize wr.heap.size = bx at *
      have x0 := hbx.cell 0
      have x1 := hbx.cell 1
      simp at x0 x1
      have HW1 := written_nat w.heap.size pl (uVals pre) A c a W1 hown1 L1.size (by omega) (by omega)
      have hfr1 := own_base hown1
      go_upto_region 9 with (go_at_call 38; refine HW1.mono ?_; rintro e W2 ⟨v2, rfl, hown2, hg2⟩; obtain ⟨A2, c2, rfl, _, _, _⟩ := own_reads hown2)
      rw [uVals_app] at hown2
      have hrow2 := hrow1.kept hg2 (own_ne hrow1 hown1 (by decide))
      have hbx2 := hbx.grown hg2 (own_blk_ne hown1 hbx (by decide)).symm
      have L2 : Below w.heap.size w W2 := L1.grown hg2 L1.size hfr1
      clear x0 x1 HW1 hown1 hrow1 hbx L1 hg2 hfr1 hown hrow HB c0 c1
      have x0 := hbx2.cell 0
      have x1 := hbx2.cell 1
      simp at x0 x1
      by_cases hlab : a < b
      · have h2 : Unit → pre ++ rowTx (a, b) = (pre ++ wrL (UInt8.ofNat a)) ++ [45] ++ wrL (UInt8.ofNat b) := fun _ => by rw [hrt (), if_pos hlab]; simp
        have hfr2 := own_base hown2
        generalize hl2 : pl + (wrL (UInt8.ofNat a)).length = pl2 at *
        have HL2 := fun _ : Unit => hl2
        have hl2b : pl2 ≤ 3004 := by omega
        clear hl2 hwa hrt
        go_upto_region 11 with (at_builtin
                                refine wpList_append_any _ rfl (.tmp 31) (.tmp 32) _ rfl w.heap.size 5 i0 _ 1 1 Try.underlying22 hi0 hz0 hz1 hz2 rfl (by omega) _ pl2 _ rfl
                                  (hown2.alloc _) _ _ 1 1 [.int .u8 45] rfl (reads_blk (xs := [.int .u8 45]) (Blk.new W2 _ _)) (by simp [Value.oneCell']) (by simp only [maxLen]; omega) (by omega) (by have := L2.size; simp; omega) ?_
                                intro v3 W3 hown3 hg3 hat3
                                have L3 : Below w.heap.size w W3 := (L2.alloc L2.size _).grown hg3 (by have := L2.size; simp; omega) hfr2
                                obtain ⟨A3, c3, rfl, _, _, _⟩ := own_reads hown3)
        have hrow3 := (hrow2.alloc (.cells #[.int .u8 45] 5)).kept hg3 (own_ne hrow2 hown2 (by decide))
        have hbx3 := (hbx2.alloc (.cells #[.int .u8 45] 5)).grown hg3 (own_blk_ne hown2 hbx2 (by decide)).symm
        rw [show uVals (pre ++ wrL (UInt8.ofNat a)) ++ [Value.int .u8 45] = uVals ((pre ++ wrL (UInt8.ofNat a)) ++ [45]) from uVals_app _ [45]] at hown3
        clear x0 x1 hown2 hrow2 hbx2 L2 hg3 hat3 hfr2
        have x1 := hbx3.cell 1
        simp at x1
        have HW3 := written_nat w.heap.size (pl2 + 1) (uVals ((pre ++ wrL (UInt8.ofNat a)) ++ [45])) A3 c3 b W3 hown3 L3.size (by omega) hb
        have hfr3 := own_base hown3
        go_wp2_with (go_at_call 38; refine HW3.mono ?_; rintro e W4 ⟨v4, rfl, hown4, hg4⟩)
        rw [uVals_app, ← h2 (), ← hln ()] at hown4
        have hrow4 := hrow3.kept hg4 (own_ne hrow3 hown3 (by decide))
        have L4 : Below w.heap.size w W4 := L3.grown hg4 L3.size hfr3
        have hlen : Unit → pl2 + 1 + (wrL (UInt8.ofNat b)).length = ([91] ++ rowsTx (rl.take (k + 1))).length := fun _ => by rw [hln (), h2 (), ← HL2 (), ← HPL ()]; simp; omega
        go_roundw
        case rel => exact ⟨k + 1, by omega, by go_num, by rw [← hlen ()]; exact hown4, ⟨_, hrow4⟩, L4⟩
        case measure => simp [intOf]; omega
      · have h2 : Unit → pre ++ rowTx (a, b) = pre ++ wrL (UInt8.ofNat a) := fun _ => by rw [hrt (), if_neg hlab]; simp
        have hlen : Unit → pl + (wrL (UInt8.ofNat a)).length = ([91] ++ rowsTx (rl.take (k + 1))).length := fun _ => by rw [hln (), h2 (), ← HPL ()]; simp
        rw [← h2 (), ← hln ()] at hown2
        clear hrt h2 hln
        go_wp2
        go_roundw
        case rel => exact ⟨k + 1, by omega, by go_num, by rw [← hlen ()]; exact hown2, ⟨_, hrow2⟩, L2⟩
        case measure => simp [intOf]; omega
    · obtain rfl : k = nr := by omega
      have hall : rl.take k = rl := by rw [← HNR ()]; exact List.take_length
      rw [hall] at hown hnn
      obtain ⟨A, c, rfl, _, _, _⟩ := own_reads hown
      have hfr := own_base hown
      have happ : Unit → uVals ([91] ++ rowsTx rl) ++ [.int .u8 93] = uVals fin := fun _ => by rw [← HFIN ()]; exact uVals_app _ [93]
      clear HFIN
      generalize [91] ++ rowsTx rl = pre at *
      generalize pre.length = pl at *
      go_wp2_with (at_builtin
                   refine wpList_append_any _ rfl (.tmp 39) (.tmp 40) _ rfl w.heap.size 5 i0 _ 1 1 Try.underlying22 hi0 hz0 hz1 hz2 rfl (by omega) _ pl _ rfl
                     (hown.alloc _) _ _ 1 1 [.int .u8 93] rfl (reads_blk (xs := [.int .u8 93]) (Blk.new wr _ _)) (by simp [Value.oneCell']) (by simp only [maxLen]; omega) (by omega) (by simp; omega) ?_
                   intro v4 w4 hown4 hg4 hat4
                   have L4 : Below w.heap.size w w4 := (HB.alloc hsz _).grown hg4 (by simp; omega) hfr
                   rw [happ ()] at hown4
                   obtain ⟨A4, c4, rfl, _, _, _⟩ := own_reads hown4
                   have hconv := conv_own hown4)
      go_ret
      exact ⟨rfl, L4⟩

theorem set_any (m : Nat → Bool) (w : World) : Calls Try.prog 28 #[.agg #[.int .u64 ((word m 0 : Nat) : Int), .int .u64 ((word m 1 : Nat) : Int), .int .u64 ((word m 2 : Nat) : Int), .int .u64 ((word m 3 : Nat) : Int)]] w (Gives (.string ⟨(stL m).toArray⟩) w) := by
  by_cases h : 128 < sSize m
  · exact set_big m w h
  · exact set_few m w h

end Go.Proofs.Ytbjgkolldmplkaa
