/- The walk of part.Sets. -/
import Derived.Test.YtbjgkolldmplkaaDoorParts
namespace Go.Proofs.YtbjgkolldmplkaaDoor
open Go.RowKit Go.Sort Go.Maps Go.WideMaps

/-- A row of numbers, as values. -/
def intVals (C : List Int) : List Value := C.map (Value.int .i64)

theorem int_cell {w : World} {B n : Nat} {A : Option Addr} {C : List Int} (HR : Reads w B 1 A n (intVals C)) (k : Nat) (hk : k < n) :
    ∃ g o, A = some ⟨g, o, none⟩ ∧ g < B ∧ w.cell? ⟨g, o + k, none⟩ = some (.int .i64 (C.getD k 0)) := by
  have hn := HR.1
  simp [intVals] at hn
  have hkl : k < C.length := by omega
  obtain ⟨ad, e, hb, hc⟩ := HR.2 (by omega)
  have h0 := hc 0 _ (show (intVals C)[0]? = some (.int .i64 (C[0]'(by omega))) by simp [intVals, show 0 < C.length by omega])
  have h00 : ad.add 0 = ad := by simp [Addr.add]
  rw [h00] at h0
  have es := spot_none h0
  have c1 := hc k _ (show (intVals C)[k]? = some (.int .i64 C[k]) by simp [intVals, hkl])
  rw [es, add_mk] at c1
  have e2 : C.getD k 0 = C[k] := by rw [List.getD_eq_getElem?_getD, List.getElem?_eq_getElem hkl]; rfl
  rw [e2]
  exact ⟨ad.block, ad.off, by rw [e, ← es], hb, c1⟩

/-- The classes that numbers say. -/
def gI (C : List Int) (b : Nat) : Nat := (C.getD b 0).toNat

/-- Are the first n numbers classes, each first behind those before it? -/
def okI (C : List Int) : Nat → Bool
  | 0 => true
  | n + 1 => okI C n && (decide (0 ≤ C.getD n 0) && decide (C.getD n 0 ≤ ((nxN (gI C) n : Nat) : Int)))

theorem okI_yes (C : List Int) (n : Nat) (h : okI C n = true) (h1 : 0 ≤ C.getD n 0) (h2 : C.getD n 0 ≤ ((nxN (gI C) n : Nat) : Int)) : okI C (n + 1) = true := by
  rw [okI, h, decide_eq_true h1, decide_eq_true h2]; rfl

theorem okI_no (C : List Int) : ∀ (n k : Nat), k < n → ¬ (0 ≤ C.getD k 0 ∧ C.getD k 0 ≤ ((nxN (gI C) k : Nat) : Int)) → okI C n = false
  | 0, k, h, _ => absurd h (by omega)
  | n + 1, k, h, h2 => by
    rw [okI]
    by_cases e : k = n
    · subst e
      rw [Bool.and_eq_false_iff]
      right
      rw [← Bool.not_eq_true]
      simpa using h2
    · rw [okI_no C n k (by omega) h2]; rfl

theorem okI_rgs (C : List Int) : ∀ n, okI C n = true → Rgs (gI C) n
  | 0, _, b, hb => absurd hb (by omega)
  | n + 1, h, b, hb => by
    rw [okI] at h
    simp only [Bool.and_eq_true, decide_eq_true_eq] at h
    by_cases e : b = n
    · subst e
      unfold gI at h ⊢
      omega
    · exact okI_rgs C n h.1 b (by omega)

/-- What Sets gives. -/
def setsR (C : List Int) (n : Nat) : List (Nat → Bool) := if n = 256 ∧ okI C 256 = true then partN (gI C) 256 else []
def setsE (C : List Int) (n : Nat) : Int := if n = 256 ∧ okI C 256 = true then 0 else 1

theorem sets_none (C : List Int) (n : Nat) (h : ¬ (n = 256 ∧ okI C 256 = true)) : setsR C n = [] ∧ setsE C n = 1 := ⟨if_neg h, if_neg h⟩

theorem gsets_none {w w' : World} (hb : Below w.heap.size w w') : GSets [] 1 w (.returned (.tuple #[.slice none 0 0, .int .i64 1])) w' :=
  ⟨none, 0, rfl, Reads.none_, Nat.le_refl _, Nat.zero_le _, hb⟩

theorem sets_len (A : Option Addr) (n c : Nat) (w : World) (hn : n ≠ 256) :
    Calls Tryd.prog 28 #[.slice A n c] w (GSets [] 1 w) := by
  have h1 : ((n : Int) != 256) = true := by simp; omega
  have h2 : ((n : Int) == 256) = false := by rw [beq_eq_false_iff_ne]; omega
  have h3 : (n == 256) = false := by rw [beq_eq_false_iff_ne]; omega
  have h4 : (n != 256) = true := by simp [hn]
  clear hn
  go_enter Tryd.func28, Tryd.ntmps28
  go_wp2
  go_ret2
  exact gsets_none (Below.refl _ _)

set_option maxRecDepth 100000 in
set_option maxHeartbeats 16000000 in
theorem sets_full (C : List Int) (A : Option Addr) (c B : Nat) (w : World) (HR0 : Reads w B 1 A 256 (intVals C)) (hB : B ≤ w.heap.size) :
    Calls Tryd.prog 28 #[.slice A 256 c] w (GSets (setsR C 256) (setsE C 256) w) := by
  have HR := HR0.more hB
  obtain ⟨i0, hi0, hz0, hz1, hz2⟩ := info_parts sets_info
  clear HR0
  go_enter Tryd.func28, Tryd.ntmps28
  go_wp2
  go_loopw [4, 12] (fun v i wr => ∃ k : Nat, k ≤ 256 ∧ i = .int .i64 k ∧ wr.ownsRow w.heap.size 35 4 v (nxN (gI C) k) (setVals (partN (gI C) k)) ∧
    okI C k = true ∧ Below w.heap.size w wr) (fun _ i _ => 256 - (intOf i).toNat)
  case atStart => exact ⟨0, by omega, rfl, ⟨rfl, .inl ⟨rfl, rfl⟩⟩, rfl, Below.refl _ _⟩
  case round =>
    obtain ⟨k, hk, rfl, hown, hok, HB⟩ := hrel
    obtain ⟨A5, c5, rfl, hrd, hrc, hrm⟩ := own_reads hown
    have HOK := fun _ : Unit => hok
    clear hok
    by_cases hlt : k < 256
    · obtain ⟨g, o, rfl, hgB, hck⟩ := int_cell (HR.below HB) k hlt
      have HNO := fun (_ : Unit) h => sets_none C 256 fun hh => by rw [okI_no C 256 k hlt h] at hh; exact absurd hh.2 (by decide)
      have HYES := fun (_ : Unit) => okI_yes C k (HOK ())
      have hnx0 := nxN_le k (okI_rgs C k (HOK ()))
      have hnx := nxN_le k (okI_rgs C k (HOK ()))
      have hsz := HB.size
      have hgi : Unit → gI C k = (C.getD k 0).toNat := fun _ => rfl
      have hfr := own_base hown
      have hstep := fun (_ : Unit) (h : gI C k ≤ nxN (gI C) k) (hl : gI C k < (preN (gI C) k).length) => partN_step h hl
      have hplen := fun (_ : Unit) (h : gI C k ≤ nxN (gI C) k) => preN_length h
      have hpre : Unit → preN (gI C) k = if gI C k = nxN (gI C) k then partN (gI C) k ++ [sNone] else partN (gI C) k := fun _ => rfl
      have hnxs : Unit → nxN (gI C) (k + 1) = max (nxN (gI C) k) (gI C k + 1) := fun _ => rfl
      generalize C.getD k 0 = x at *
      generalize hrr : nxN (gI C) k = r at *
      have HRR := fun _ : Unit => hrr
      clear hrr
      by_cases hx0 : x < 0
      · obtain ⟨e1, e2⟩ := HNO () (by omega)
        rw [e1, e2]
        go_wp2
        go_ret2
        exact gsets_none HB
      by_cases hx1 : (r : Int) < x
      · obtain ⟨e1, e2⟩ := HNO () (by omega)
        rw [e1, e2]
        go_wp2
        go_ret2
        exact gsets_none HB
      obtain ⟨q, rfl⟩ : ∃ q : Nat, x = q := ⟨x.toNat, by omega⟩
      have hokX := fun _ : Unit => HYES () (by omega) (by omega)
      have hgq : Unit → gI C k = q := fun _ => by rw [hgi ()]; omega
      have hqr : q ≤ r := by omega
      clear HNO HYES hgi hx0 hx1
      by_cases hq : q = r
      · subst hq
        have hpr : Unit → preN (gI C) k = partN (gI C) k ++ [sNone] := fun _ => by rw [hpre (), if_pos (hgq ())]
        have hnx1 : Unit → nxN (gI C) (k + 1) = q + 1 := fun _ => by rw [hnxs (), hgq ()]; omega
        have hpX : Unit → partN (gI C) (k + 1) = (preN (gI C) k).set q (sAny ((preN (gI C) k).getD q sNone) (sOf [k])) := fun _ => by
          have hle : gI C k ≤ q := by rw [hgq ()]; exact Nat.le_refl _
          have hl2 := hplen () hle
          rw [hnx1 ()] at hl2
          have hl : gI C k < (preN (gI C) k).length := by rw [hgq ()]; omega
          rw [hstep () hle hl]
          simp only [hgq ()]
          rw [List.getD_eq_getElem?_getD, List.getElem?_eq_getElem (by rw [hl2]; omega), Option.getD_some]
        clear hstep hplen hpre hnxs hgq
        go_wp2_with (at_builtin
                     refine wpList_append_any _ rfl (.tmp 29) (.tmp 31) _ rfl w.heap.size 35 i0 _ 4 32 Tryd.underlying22 hi0 hz0 hz1 hz2 rfl (by omega) _ q _ rfl
                       (hown.alloc _) _ _ 1 1 [.int .u64 0, .int .u64 0, .int .u64 0, .int .u64 0] rfl (reads_blkN (xs := [.int .u64 0, .int .u64 0, .int .u64 0, .int .u64 0]) (Blk.new wr _ _) rfl) (by simp [Value.oneCell']) (by simp only [maxLen]; omega) (by omega) (by simp; omega) ?_
                     intro v3 wX hownX hg3 hat3
                     have LX : Below w.heap.size w wX := (HB.alloc hsz _).grown hg3 (by simp; omega) hfr
                     rw [setVals_void] at hownX
                     obtain ⟨gb, cap, rfl, hgb1, hgb2⟩ := hownX.form (by omega))
        rw [← hpr ()] at hownX
        clear hown hpr
        generalize preN (gI C) k = P at *
        have hi1 : (0 : Int) ≤ (q : Int) := by omega
        have hi2 : (q : Int) < ((q + 1 : Nat) : Int) := by omega
        obtain ⟨c0, c1, c2, c3⟩ := own_at hownX q (by omega)
        have hof := fun (W : World) (HRW : Reads W W.heap.size 1 (some ⟨wX.heap.size, 0, none⟩) 1 (byteVals [k])) => of_any (some ⟨wX.heap.size, 0, none⟩) 1 1 _ [k] W HRW (Nat.le_refl _) (by simpa using hlt) (Nat.le_refl _) (by decide)
        have hsX := LX.size
        have hgX : gb < wX.heap.size := hgb2
        generalize P.getD q sNone = m0 at *
        have c0' := cell_regrown c0
        have c1' := cell_regrown c1
        have c2' := cell_regrown c2
        have c3' := cell_regrown c3
        refine wp_region_hold_below 11 [0, 1, 2, 3, 4, 5, 6, 7] [8, 9, 10] (by kernel_rfl) (by kernel_rfl) rfl (by kernel_rfl) ?_
        simp only [pickOps, List.getElem?_cons_zero, List.getElem?_cons_succ, List.drop_succ_cons, List.drop_zero]
        repeat (go_big_quiet_step (fail))
        refine wpQuiet_nil ?_
        clear c0 c1 c2 c3 c0' c1' c2' c3'
        refine wpForce_step rfl (fun KK hKK => ?_)
        go_simp
        have LA : Below wX.heap.size wX (wX.alloc (.cells #[.int .u8 (k : Int)] 5)).drew := ((Below.refl _ wX).alloc (Nat.le_refl _) _).drew
        refine hKK _ _ (regrown_of_below LA) ?_
        clear hKK KK
        refine wpForce_step rfl (fun KK hKK => ?_)
        go_simp
        refine (hof _ (reads_blk (xs := byteVals [k]) (B := wX.heap.size) (by exact Blk.new wX _ _))).mono ?_
        rintro e w4 ⟨rfl, HB4⟩
        have L4 : Below wX.heap.size wX w4 := LA.trans (HB4.mono LA.size)
        refine hKK _ _ (regrown_of_below L4) ?_
        clear hKK KK
        refine wpForce_step rfl (fun KK hKK => ?_)
        go_simp
        refine (any_any m0 (sOf [k]) _).mono ?_
        rintro e w5 ⟨rfl, HB5⟩
        have L5 : Below wX.heap.size wX w5 := L4.trans (HB5.mono L4.size)
        refine hKK _ _ (regrown_of_below L5) ?_
        clear hKK KK
        refine wpForce_nil ?_
        have hown5 := own_call hownX L5
        obtain ⟨e0, e1, e2, e3⟩ := own_at hown5 q (by omega)
        have f0 := hown5.frozenAt (q * 4)
        have f1 := hown5.frozenAt (q * 4 + 1)
        have f2 := hown5.frozenAt (q * 4 + 2)
        have f3 := hown5.frozenAt (q * 4 + 3)
        go_wp2
        refine NoPanic.normal ?_
        go_wp2
        go_roundw
        case rel =>
          refine ⟨k + 1, by omega, by go_num, ?_, hokX (), ?_⟩
          · rw [hpX (), hnx1 ()]
            exact own_put hown5 q (by omega) (sAny m0 (sOf [k]))
          · have L6 : Below w.heap.size w w5 := LX.trans (L5.mono LX.size)
            exact (((L6.setCell (by simpa using hgb1) _).setCell (by simpa using hgb1) _).setCell (by simpa using hgb1) _).setCell (by simpa using hgb1) _
        case measure => simp [intOf]; omega
      · have hpr : Unit → preN (gI C) k = partN (gI C) k := fun _ => by rw [hpre (), if_neg (by rw [hgq ()]; exact hq)]
        have hnx1 : Unit → nxN (gI C) (k + 1) = r := fun _ => by rw [hnxs (), hgq ()]; omega
        have hpX : Unit → partN (gI C) (k + 1) = (preN (gI C) k).set q (sAny ((preN (gI C) k).getD q sNone) (sOf [k])) := fun _ => by
          have hle : gI C k ≤ r := by rw [hgq ()]; exact hqr
          have hl2 := hplen () hle
          rw [hnx1 ()] at hl2
          have hl : gI C k < (preN (gI C) k).length := by rw [hgq ()]; omega
          rw [hstep () hle hl]
          simp only [hgq ()]
          rw [List.getD_eq_getElem?_getD, List.getElem?_eq_getElem (by rw [hl2]; omega), Option.getD_some]
        obtain ⟨gb, cap, hgeq, hgb1, hgb2⟩ := hown.form (by omega)
        injection hgeq with hgA _ hgc
        subst hgA hgc
        rw [← hpr ()] at hown
        have hq2 : (q : Int) < (r : Int) := by omega
        have hq3 : ((q : Int) == (r : Int)) = false := by rw [beq_eq_false_iff_ne]; omega
        have hq4 : (q == r) = false := by rw [beq_eq_false_iff_ne]; exact hq
        clear hstep hplen hpre hnxs hgq hpr
        generalize preN (gI C) k = P at *
        go_wp2
        have hownX := hown
        obtain ⟨wX, hwX⟩ : ∃ wX, wX = wr := ⟨_, rfl⟩
        subst hwX
        have LX := HB
        clear hown HB hq3 hq4
        have hi1 : (0 : Int) ≤ (q : Int) := by omega
        have hi2 : (q : Int) < (r : Int) := by omega
        obtain ⟨c0, c1, c2, c3⟩ := own_at hownX q (by omega)
        have hof := fun (W : World) (HRW : Reads W W.heap.size 1 (some ⟨wX.heap.size, 0, none⟩) 1 (byteVals [k])) => of_any (some ⟨wX.heap.size, 0, none⟩) 1 1 _ [k] W HRW (Nat.le_refl _) (by simpa using hlt) (Nat.le_refl _) (by decide)
        have hsX := LX.size
        have hgX : gb < wX.heap.size := hgb2
        generalize P.getD q sNone = m0 at *
        have c0' := cell_regrown c0
        have c1' := cell_regrown c1
        have c2' := cell_regrown c2
        have c3' := cell_regrown c3
        refine wp_region_hold_below 11 [0, 1, 2, 3, 4, 5, 6, 7] [8, 9, 10] (by kernel_rfl) (by kernel_rfl) rfl (by kernel_rfl) ?_
        simp only [pickOps, List.getElem?_cons_zero, List.getElem?_cons_succ, List.drop_succ_cons, List.drop_zero]
        repeat (go_big_quiet_step (fail))
        refine wpQuiet_nil ?_
        clear c0 c1 c2 c3 c0' c1' c2' c3'
        refine wpForce_step rfl (fun KK hKK => ?_)
        go_simp
        have LA : Below wX.heap.size wX (wX.alloc (.cells #[.int .u8 (k : Int)] 5)).drew := ((Below.refl _ wX).alloc (Nat.le_refl _) _).drew
        refine hKK _ _ (regrown_of_below LA) ?_
        clear hKK KK
        refine wpForce_step rfl (fun KK hKK => ?_)
        go_simp
        refine (hof _ (reads_blk (xs := byteVals [k]) (B := wX.heap.size) (by exact Blk.new wX _ _))).mono ?_
        rintro e w4 ⟨rfl, HB4⟩
        have L4 : Below wX.heap.size wX w4 := LA.trans (HB4.mono LA.size)
        refine hKK _ _ (regrown_of_below L4) ?_
        clear hKK KK
        refine wpForce_step rfl (fun KK hKK => ?_)
        go_simp
        refine (any_any m0 (sOf [k]) _).mono ?_
        rintro e w5 ⟨rfl, HB5⟩
        have L5 : Below wX.heap.size wX w5 := L4.trans (HB5.mono L4.size)
        refine hKK _ _ (regrown_of_below L5) ?_
        clear hKK KK
        refine wpForce_nil ?_
        have hown5 := own_call hownX L5
        obtain ⟨e0, e1, e2, e3⟩ := own_at hown5 q (by omega)
        have f0 := hown5.frozenAt (q * 4)
        have f1 := hown5.frozenAt (q * 4 + 1)
        have f2 := hown5.frozenAt (q * 4 + 2)
        have f3 := hown5.frozenAt (q * 4 + 3)
        go_wp2
        refine NoPanic.normal ?_
        go_wp2
        go_roundw
        case rel =>
          refine ⟨k + 1, by omega, by go_num, ?_, hokX (), ?_⟩
          · rw [hpX (), hnx1 ()]
            exact own_put hown5 q (by omega) (sAny m0 (sOf [k]))
          · have L6 : Below w.heap.size w w5 := LX.trans (L5.mono LX.size)
            exact (((L6.setCell (by simpa using hgb1) _).setCell (by simpa using hgb1) _).setCell (by simpa using hgb1) _).setCell (by simpa using hgb1) _
        case measure => simp [intOf]; omega
    · have e : k = 256 := by omega
      subst e
      have e1 : setsR C 256 = partN (gI C) 256 := if_pos ⟨rfl, HOK ()⟩
      have e2 : setsE C 256 = 0 := if_pos ⟨rfl, HOK ()⟩
      have E1 := fun _ : Unit => e1
      have E2 := fun _ : Unit => e2
      clear e1 e2
      go_wp2
      go_ret2
      refine ⟨A5, c5, ?_⟩
      rw [E1 (), E2 (), partN_length]
      exact ⟨rfl, hrd, hrc, hrm, HB⟩

theorem sets_any (C : List Int) (A : Option Addr) (n c B : Nat) (w : World) (HR : Reads w B 1 A n (intVals C)) (hB : B ≤ w.heap.size) :
    Calls Tryd.prog 28 #[.slice A n c] w (GSets (setsR C n) (setsE C n) w) := by
  by_cases hn : n = 256
  · subst hn
    exact sets_full C A c B w HR hB
  · obtain ⟨e1, e2⟩ := sets_none C n (fun h => hn h.1)
    rw [e1, e2]
    exact sets_len A n c w hn

end Go.Proofs.YtbjgkolldmplkaaDoor
