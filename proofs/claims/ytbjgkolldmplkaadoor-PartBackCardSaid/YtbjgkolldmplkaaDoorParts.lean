/- The walk of part.Parts. -/
import Derived.Test.YtbjgkolldmplkaaDoorPartsW
import Derived.Test.YtbjgkolldmplkaaDoorHold
namespace Go.Proofs.YtbjgkolldmplkaaDoor
open Go.RowKit Go.Sort Go.Maps Go.WideMaps

theorem parts_long (A : Option Addr) (n c : Nat) (w : World) (hn : (1024 : Int) < n) :
    Calls Tryd.prog 9 #[.slice A n c] w (GSets [] 2 w) := by
  go_enter Tryd.func9, Tryd.ntmps9
  go_wp2
  go_ret2
  exact ⟨none, 0, rfl, Reads.none_, Nat.le_refl _, Nat.zero_le _, Below.refl _ _⟩

theorem zero_int (W : World) : (zeroValue 3).run Tryd.prog W = .ok (.int .i64 0) W := by kernel_rfl

theorem key_of (l : List Bool) (h : l.length ≤ 1024) : keyOf Tryd.prog 9 (.string (keyS l)) = some (.string (keyB l)) := keyOf_string_mk Tryd.underlying9 (by
  have e : (keyS l).size = l.length := by simp [keyS, keyB, ByteArray.size]
  rw [e]; unfold maxLen; omega)

set_option maxRecDepth 100000 in
set_option maxHeartbeats 16000000 in
theorem parts_any (L : List (Nat → Bool)) (A : Option Addr) (n c B : Nat) (w : World) (HR0 : Reads w B 4 A n (setVals L)) (hB : B ≤ w.heap.size) (hn : n ≤ 1024) :
    Calls Tryd.prog 9 #[.slice A n c] w (GSets (partN (cl (keyL L)) 256) 0 w) := by
  have HR := HR0.more hB
  have hle : ¬ (1024 : Int) < (n : Int) := by omega
  obtain ⟨i0, hi0, hz0, hz1, hz2⟩ := info_parts sets_info
  have hmm := @run_makeMap Tryd.prog
  have HKEY := fun (b : Nat) (hb : b < 256) (W : World) (hW : Below w.heap.size w W) => key_any L A n c _ b W (HR.below hW) hW.size hb hn
  clear HR0
  have HKLe : Unit → ∀ b, (keyL L b).length ≤ 1024 := fun _ b => by
    have := HR.1
    rw [setVals_length] at this
    simp [keyL]; omega
  clear HR
  generalize keyL L = K at *
  go_enter Tryd.func9, Tryd.ntmps9
  go_wp2
  go_loopw [5, 14] (fun v i wr => ∃ k : Nat, k ≤ 256 ∧ i = .int .i64 k ∧ wr.ownsRow w.heap.size 35 4 v (nxN (cl K) k) (setVals (partN (cl K) k)) ∧
    wr.ownsMap Tryd.prog 9 (plainElem Tryd.prog 3) w.heap.size k (placesD K k) ∧ Below w.heap.size w wr) (fun _ i _ => 256 - (intOf i).toNat)
  case atStart => exact ⟨0, by omega, rfl, ⟨rfl, .inl ⟨rfl, rfl⟩⟩, World.ownsMap_made _ _ _ _, (Below.refl _ _).alloc (Nat.le_refl _) _⟩
  case round =>
    clear hmm
    obtain ⟨k, hk, rfl, hown, hmap, HB⟩ := hrel
    obtain ⟨A5, c5, rfl, hrd, hrc, hrm⟩ := own_reads hown
    by_cases hlt : k < 256
    · have HK1 := HKEY k hlt
      obtain ⟨hisM, hinv⟩ := places_inv K k
      obtain ⟨hhas, hat0⟩ := hinv (K k)
      have hrg : cl K k ≤ nxN (cl K) k := cl_rgs K (k + 1) k (by omega)
      have hpl := preN_length hrg
      have hps : Unit → ∀ (hl : cl K k < (preN (cl K) k).length), partN (cl K) (k + 1) = (preN (cl K) k).set (cl K k) (sAny (preN (cl K) k)[cl K k] (sOf [k])) := fun _ hl => partN_step hrg hl
      have hnx := nxN_le (k + 1) (cl_rgs K (k + 1))
      have hnx0 := nxN_le k (cl_rgs K k)
      have hql : cl K k < nxN (cl K) (k + 1) := nxN_gt (cl K) (Nat.lt_succ_self k)
      have hkey := key_of (K k) (HKLe () k)
      have hsz := HB.size
      have hlaw : Keyed Tryd.prog 9 := string_keyed Tryd.underlying9
      cases hany : (firsts K k).any (fun a => K a == K k)
      · have hhasF : Maps.has (placesD K k) (.string (keyB (K k))) = false := hhas.trans hany
        have hq : cl K k = nxN (cl K) k := (cl_new K k hany).trans (firsts_length K k)
        have hpre : Unit → preN (cl K) k = partN (cl K) k ++ [sNone] := fun _ => by unfold preN; rw [if_pos hq]
        have hpd : Unit → placesD K (k + 1) = (placesD K k).put (.string (keyB (K k))) (.lit (.int .i64 ((nxN (cl K) k : Nat) : Int))) := fun _ => placesD_no K k hany
        have hfr := own_base hown
        have hnx1 : nxN (cl K) (k + 1) = nxN (cl K) k + 1 := by rw [nxN]; omega
        clear hhas hat0 hany hinv
        rw [hq] at hps hql
        generalize hqq : nxN (cl K) k = q at *
        have HQ := fun _ : Unit => hqq
        clear hqq hq hrg hnx
        have hr : q ≤ 255 := by omega
        have hwf : (Lit.int .i64 (q : Int)).wf = true := WalkArith.wf_i64 (by omega)
        go_wp2_with (first
          | (go_at_call 32
             refine (HK1 _ HB).mono ?_
             rintro e w1 ⟨rfl, HB1⟩
             have hmap1 := map_call hmap HB1
             have hown1 := own_call hown HB1
             have L1 := HB.trans (HB1.mono HB.size))
          | (at_lookup
             refine wpList_lookup_own_ok_int _ rfl _ _ 53 rfl 9 3 .i64 hlaw Tryd.underlying53 Tryd.underlying3 (zero_int _) w.heap.size k _ rfl hmap1 _ _ rfl hkey ?_
             intro c hat hwc
             rw [hhasF])
          | (at_mapUpdate
             refine wpList_mapUpdate_own _ rfl _ _ _ 53 rfl 9 3 hlaw Tryd.underlying53 _ w.heap.size k _ rfl hmap1 (by unfold maxLen; omega) _ _ _ rfl rfl hkey _ [] (plainElem_int Tryd.underlying3 hwf) ?_
             intro w2 hmap2 hg2
             have hown2 := hown1.kept hg2 (.inr (own_map_ne hown1 hmap1))
             have L2 := L1.grown hg2 L1.size (by simp)
             have hs2 := L2.size)
          | (at_builtin
             refine wpList_append_any _ rfl (.tmp 34) (.tmp 36) _ rfl w.heap.size 35 i0 _ 4 32 Tryd.underlying22 hi0 hz0 hz1 hz2 rfl (by omega) _ q _ rfl
               (hown2.alloc _) _ _ 1 1 [.int .u64 0, .int .u64 0, .int .u64 0, .int .u64 0] rfl (reads_blkN (xs := [.int .u64 0, .int .u64 0, .int .u64 0, .int .u64 0]) (Blk.new w2 _ _) rfl) (by simp [Value.oneCell']) (by simp only [maxLen]; omega) (by omega) (by simp; omega) ?_
             intro v3 wX hown3 hg3 hat3
             have LX : Below w.heap.size w wX := (L2.alloc hs2 _).grown hg3 (by simp; omega) hfr
             have hneM := Ne.symm (own_map_ne hown1 hmap1)
             have hmapX := (hmap2.alloc (.cells #[.int .u64 0, .int .u64 0, .int .u64 0, .int .u64 0] 35)).kept hg3 hneM
             rw [setVals_void] at hown3
             obtain ⟨gb, cap, rfl, hgb1, hgb2⟩ := hown3.form (by omega)
             have hneX : w.heap.size ≠ gb := fun e => (own_map_ne hown3 hmapX) (by rw [← e]; rfl)))
        rw [← hpre ()] at hown3
        have hownX := hown3
        have hpX : Unit → partN (cl K) (k + 1) = (preN (cl K) k).set q (sAny ((preN (cl K) k).getD q sNone) (sOf [k])) := fun _ => by
          have hl : q < (preN (cl K) k).length := by omega
          rw [hps () hl, List.getD_eq_getElem?_getD, List.getElem?_eq_getElem hl, Option.getD_some]
        have hmX := hpd
        clear hown3 hown hmap hhasF hps hpd hpre
        generalize preN (cl K) k = P at *
        have hi1 : (0 : Int) ≤ (q : Int) := by omega
        have hi2 : (q : Int) < ((q + 1 : Nat) : Int) := by omega
        obtain ⟨c0, c1, c2, c3⟩ := own_at hownX q (by omega)
        have hof := fun (W : World) (HRW : Reads W W.heap.size 1 (some ⟨wX.heap.size, 0, none⟩) 1 (byteVals [k])) => of_any (some ⟨wX.heap.size, 0, none⟩) 1 1 _ [k] W HRW (Nat.le_refl _) (by simpa using hlt) (Nat.le_refl _) (by decide)
        have hsX := LX.size
        have hgX : gb < wX.heap.size := hgb2
        generalize P.getD q sNone = m0 at *
        have c0' := cell_regrown c0
        have c1' := cell_regrown c1
        have c2' := cell_regrown c2
        have c3' := cell_regrown c3
        refine wp_region_hold_below 11 [0, 1, 2, 3, 4, 5, 6, 7] [8, 9, 10] (by kernel_rfl) (by kernel_rfl) rfl (by kernel_rfl) ?_
        simp only [pickOps, List.getElem?_cons_zero, List.getElem?_cons_succ, List.drop_succ_cons, List.drop_zero]
        repeat (go_big_quiet_step (fail))
        refine wpQuiet_nil ?_
        clear c0 c1 c2 c3 c0' c1' c2' c3'
        refine wpForce_step rfl (fun KK hKK => ?_)
        go_simp
        have LA : Below wX.heap.size wX (wX.alloc (.cells #[.int .u8 (k : Int)] 5)).drew := ((Below.refl _ wX).alloc (Nat.le_refl _) _).drew
        refine hKK _ _ (regrown_of_below LA) ?_
        clear hKK KK
        refine wpForce_step rfl (fun KK hKK => ?_)
        go_simp
        refine (hof _ (reads_blk (xs := byteVals [k]) (B := wX.heap.size) (by exact Blk.new wX _ _))).mono ?_
        rintro e w4 ⟨rfl, HB4⟩
        have L4 : Below wX.heap.size wX w4 := LA.trans (HB4.mono LA.size)
        refine hKK _ _ (regrown_of_below L4) ?_
        clear hKK KK
        refine wpForce_step rfl (fun KK hKK => ?_)
        go_simp
        refine (any_any m0 (sOf [k]) _).mono ?_
        rintro e w5 ⟨rfl, HB5⟩
        have L5 : Below wX.heap.size wX w5 := L4.trans (HB5.mono L4.size)
        refine hKK _ _ (regrown_of_below L5) ?_
        clear hKK KK
        refine wpForce_nil ?_
        have hown5 := own_call hownX L5
        have hmap5 := map_call hmapX L5
        obtain ⟨e0, e1, e2, e3⟩ := own_at hown5 q (by omega)
        have f0 := hown5.frozenAt (q * 4)
        have f1 := hown5.frozenAt (q * 4 + 1)
        have f2 := hown5.frozenAt (q * 4 + 2)
        have f3 := hown5.frozenAt (q * 4 + 3)
        go_wp2
        refine NoPanic.normal ?_
        go_wp2
        go_roundw
        case rel =>
          refine ⟨k + 1, by omega, by go_num, ?_, ?_, ?_⟩
          · rw [hpX (), hnx1]
            exact own_put hown5 q (by omega) (sAny m0 (sOf [k]))
          · rw [hmX ()]
            exact map_put hmap5 hneX q _ _ _ _
          · have L6 : Below w.heap.size w w5 := LX.trans (L5.mono LX.size)
            exact (((L6.setCell (by simpa using hgb1) _).setCell (by simpa using hgb1) _).setCell (by simpa using hgb1) _).setCell (by simpa using hgb1) _
        case measure => simp [intOf]; omega
      · have hhasT : Maps.has (placesD K k) (.string (keyB (K k))) = true := hhas.trans hany
        have hat1 := hat0 hany (.lit (.int .i64 0))
        have hlt1 := cl_old K k hany
        rw [firsts_length] at hlt1
        have hpre : Unit → preN (cl K) k = partN (cl K) k := fun _ => by unfold preN; rw [if_neg (by omega)]
        have hmX : Unit → placesD K (k + 1) = placesD K k := fun _ => placesD_yes K k hany
        have hfr := own_base hown
        have hnx1 : nxN (cl K) (k + 1) = nxN (cl K) k := by rw [nxN]; omega
        have hat2 : Unit → (placesD K k).atKey (.string (keyB (K k))) (.lit (.int .i64 0)) = .lit (.int .i64 ((cl K k : Nat) : Int)) := fun _ => hat1
        obtain ⟨gb, cap, hgeq, hgb1, hgb2⟩ := hown.form (by omega)
        injection hgeq with hgA _ hgc
        subst hgA hgc
        clear hhas hat0 hany hinv hat1
        generalize cl K k = q at *
        generalize nxN (cl K) k = r at *
        clear hrg hnx
        go_wp2_with (first
          | (go_at_call 32
             refine (HK1 _ HB).mono ?_
             rintro e wX ⟨rfl, HB1⟩
             have hmapX := map_call hmap HB1
             have hown3 := own_call hown HB1
             have LX := HB.trans (HB1.mono HB.size)
             have hgb3 := HB1.size)
          | (at_lookup
             refine wpList_lookup_own_ok_int _ rfl _ _ 53 rfl 9 3 .i64 hlaw Tryd.underlying53 Tryd.underlying3 (zero_int _) w.heap.size k _ rfl hmapX _ _ rfl hkey ?_
             intro c hat hwc
             rw [hhasT]
             have hcq := hat.symm.trans (hat2 ())
             injection hcq with hcq
             injection hcq with _ hcq
             subst hcq))
        have hneX : w.heap.size ≠ gb := fun e => (own_map_ne hown3 hmapX) (by rw [← e]; rfl)
        replace hgb2 : gb < wX.heap.size := by omega
        rw [← hpre ()] at hown3
        have hownX := hown3
        have hpX : Unit → partN (cl K) (k + 1) = (preN (cl K) k).set q (sAny ((preN (cl K) k).getD q sNone) (sOf [k])) := fun _ => by
          have hl : q < (preN (cl K) k).length := by omega
          rw [hps () hl, List.getD_eq_getElem?_getD, List.getElem?_eq_getElem hl, Option.getD_some]
        clear hown3 hown hmap hhasT hps hpre hat2 hat
        generalize preN (cl K) k = P at *
        have hi1 : (0 : Int) ≤ (q : Int) := by omega
        have hi2 : (q : Int) < (r : Int) := by omega
        obtain ⟨c0, c1, c2, c3⟩ := own_at hownX q (by omega)
        have hof := fun (W : World) (HRW : Reads W W.heap.size 1 (some ⟨wX.heap.size, 0, none⟩) 1 (byteVals [k])) => of_any (some ⟨wX.heap.size, 0, none⟩) 1 1 _ [k] W HRW (Nat.le_refl _) (by simpa using hlt) (Nat.le_refl _) (by decide)
        have hsX := LX.size
        have hgX : gb < wX.heap.size := hgb2
        generalize P.getD q sNone = m0 at *
        have c0' := cell_regrown c0
        have c1' := cell_regrown c1
        have c2' := cell_regrown c2
        have c3' := cell_regrown c3
        refine wp_region_hold_below 11 [0, 1, 2, 3, 4, 5, 6, 7] [8, 9, 10] (by kernel_rfl) (by kernel_rfl) rfl (by kernel_rfl) ?_
        simp only [pickOps, List.getElem?_cons_zero, List.getElem?_cons_succ, List.drop_succ_cons, List.drop_zero]
        repeat (go_big_quiet_step (fail))
        refine wpQuiet_nil ?_
        clear c0 c1 c2 c3 c0' c1' c2' c3'
        refine wpForce_step rfl (fun KK hKK => ?_)
        go_simp
        have LA : Below wX.heap.size wX (wX.alloc (.cells #[.int .u8 (k : Int)] 5)).drew := ((Below.refl _ wX).alloc (Nat.le_refl _) _).drew
        refine hKK _ _ (regrown_of_below LA) ?_
        clear hKK KK
        refine wpForce_step rfl (fun KK hKK => ?_)
        go_simp
        refine (hof _ (reads_blk (xs := byteVals [k]) (B := wX.heap.size) (by exact Blk.new wX _ _))).mono ?_
        rintro e w4 ⟨rfl, HB4⟩
        have L4 : Below wX.heap.size wX w4 := LA.trans (HB4.mono LA.size)
        refine hKK _ _ (regrown_of_below L4) ?_
        clear hKK KK
        refine wpForce_step rfl (fun KK hKK => ?_)
        go_simp
        refine (any_any m0 (sOf [k]) _).mono ?_
        rintro e w5 ⟨rfl, HB5⟩
        have L5 : Below wX.heap.size wX w5 := L4.trans (HB5.mono L4.size)
        refine hKK _ _ (regrown_of_below L5) ?_
        clear hKK KK
        refine wpForce_nil ?_
        have hown5 := own_call hownX L5
        have hmap5 := map_call hmapX L5
        obtain ⟨e0, e1, e2, e3⟩ := own_at hown5 q (by omega)
        have f0 := hown5.frozenAt (q * 4)
        have f1 := hown5.frozenAt (q * 4 + 1)
        have f2 := hown5.frozenAt (q * 4 + 2)
        have f3 := hown5.frozenAt (q * 4 + 3)
        go_wp2
        refine NoPanic.normal ?_
        go_wp2
        go_roundw
        case rel =>
          refine ⟨k + 1, by omega, by go_num, ?_, ?_, ?_⟩
          · rw [hpX (), hnx1]
            exact own_put hown5 q (by omega) (sAny m0 (sOf [k]))
          · rw [hmX ()]
            exact (map_put hmap5 hneX q _ _ _ _).mono (Nat.le_succ k)
          · have L6 : Below w.heap.size w w5 := LX.trans (L5.mono LX.size)
            exact (((L6.setCell (by simpa using hgb1) _).setCell (by simpa using hgb1) _).setCell (by simpa using hgb1) _).setCell (by simpa using hgb1) _
        case measure => simp [intOf]; omega
    · have e : k = 256 := by omega
      subst e
      go_wp2
      go_ret2
      refine ⟨A5, c5, ?_⟩
      rw [partN_length]
      exact ⟨rfl, hrd, hrc, hrm, HB⟩

end Go.Proofs.YtbjgkolldmplkaaDoor
