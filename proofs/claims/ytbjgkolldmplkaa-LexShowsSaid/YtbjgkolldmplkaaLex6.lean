/- The walk of bytesOf of package lex. -/
import Derived.Test.YtbjgkolldmplkaaLexW
import Derived.Test.YtbjgkolldmplkaaSet3
import Derived.Test.YtbjgkolldmplkaaHold
namespace Go.Proofs.Ytbjgkolldmplkaa
open Go.RowKit Go.Sort

theorem setE_ok {of : Nat → Bool} {n : Nat} (neg : Bool) : setE (0, of, n) neg = (0, ⟨3, [], if neg then sNot of else of, 0⟩, n) := rfl
theorem setE_no {x : Int} {of : Nat → Bool} {n : Nat} (neg : Bool) (h : x ≠ 0) : setE (x, of, n) neg = (x, tk0, 0) := if_neg h

theorem zero_cells : (#[.int .u64 0, .int .u64 0, .int .u64 0, .int .u64 0] : Array Value) = sCells sNone := (sCells_none sNone fun _ => rfl).symm

theorem head_no (s : ByteArray) (j : Nat) (h : j = s.size ∨ ∃ h : j < s.size, s[j].toNat ≠ 45) : ∀ d ∈ (sf s j).head?, d.toNat ≠ 45 := by
  rcases h with h | ⟨h1, h2⟩
  · rw [sf_end s j (by omega)]
    intro d hd
    cases hd
  · rw [sf_cons s j h1]
    intro d hd
    obtain rfl : s[j] = d := by simpa using hd
    exact h2

theorem below4 {w0 w : World} {B N : Nat} (h : Below N w0 w) (hB : N ≤ B) (v0 v1 v2 v3 : Value) :
    Below N w0 ((((w.setCell ⟨B, 0, none⟩ v0).setCell ⟨B, 1, none⟩ v1).setCell ⟨B, 2, none⟩ v2).setCell ⟨B, 3, none⟩ v3) :=
  (((h.setCell hB v0).setCell hB v1).setCell hB v2).setCell hB v3

theorem Blk.set4 {w : World} {B : Nat} {T : TypeId} {m : Nat → Bool} (h : Blk w B T (sCells m)) (m' : Nat → Bool) :
    Blk ((((w.setCell ⟨B, 0, none⟩ (.int .u64 ((word m' 0 : Nat) : Int))).setCell ⟨B, 1, none⟩ (.int .u64 ((word m' 1 : Nat) : Int))).setCell ⟨B, 2, none⟩ (.int .u64 ((word m' 2 : Nat) : Int))).setCell ⟨B, 3, none⟩ (.int .u64 ((word m' 3 : Nat) : Int))) B T (sCells m') := by
  have e : ((((sCells m).setIfInBounds 0 (.int .u64 ((word m' 0 : Nat) : Int))).setIfInBounds 1 (.int .u64 ((word m' 1 : Nat) : Int))).setIfInBounds 2 (.int .u64 ((word m' 2 : Nat) : Int))).setIfInBounds 3 (.int .u64 ((word m' 3 : Nat) : Int)) = sCells m' := by simp [sCells]
  rw [← e]
  exact (((h.set_ 0 _).set_ 1 _).set_ 2 _).set_ 3 _

theorem Blk.far4 {w : World} {g B : Nat} {T : TypeId} {cs : Array Value} (h : Blk w g T cs) (hne : g ≠ B) (v0 v1 v2 v3 : Value) :
    Blk ((((w.setCell ⟨B, 0, none⟩ v0).setCell ⟨B, 1, none⟩ v1).setCell ⟨B, 2, none⟩ v2).setCell ⟨B, 3, none⟩ v3) g T cs :=
  (((h.far (p := ⟨B, 0, none⟩) hne v0).far (p := ⟨B, 1, none⟩) hne v1).far (p := ⟨B, 2, none⟩) hne v2).far (p := ⟨B, 3, none⟩) hne v3

set_option maxRecDepth 100000 in
set_option maxHeartbeats 16000000 in
theorem bytesOf_not (s : ByteArray) (k : Nat) (w : World) (hs : s.size ≤ 1000000) (_hk : k ≤ s.size) (hh : hatB (sf s k) = true) :
    Calls Try.prog 49 #[.string s, .int .i64 k] w (Tkn (setTL (sf s k)) k w) := by
  have hsm : s.size ≤ maxLen := by unfold maxLen; omega
  have hlk : k < s.size := by
    rcases Nat.lt_or_ge k s.size with h | h
    · exact h
    · rw [sf_end s k h] at hh; cases hh
  have hk94 : s[k].toNat = 94 := by rw [sf_cons s k hlk] at hh; simpa [hatB] using hh
  have t0 : (((s[k].toNat : Nat) : Int) == 94) = true := eq_yes hk94
  have hR : setTL (sf s k) = setE (setA ((sf s (k + 1)).length + 1) (sf s (k + 1)) sNone 1) true := by
    unfold setTL
    rw [if_pos hh, sf_drop]
    rfl
  have hk0 : k + 1 ≤ s.size := hlk
  generalize setTL (sf s k) = R at *
  have hQ : setA ((sf s (k + 1)).length + 1) (sf s (k + 1)) sNone ((k + 1) - k) = setA ((sf s (k + 1)).length + 1) (sf s (k + 1)) sNone 1 := by congr 1; omega
  generalize setA ((sf s (k + 1)).length + 1) (sf s (k + 1)) sNone 1 = Q at *
  have HR := fun _ : Unit => hR
  clear hR hh
  clear hk94
  go_enter Try.func49, Try.ntmps49
  go_wp2
  go_loopw [1] (fun t wr => ∃ (j f : Nat) (of : Nat → Bool), (k + 1) ≤ j ∧ j ≤ s.size ∧ t = .int .i64 j ∧ (sf s j).length < f ∧ setA f (sf s j) of (j - k) = Q ∧
    Blk wr (w.heap.size + 1) 25 (sCells of) ∧ Blk wr w.heap.size 46 #[.int .i64 0, .string ⟨#[]⟩, .int .u64 0, .int .u64 0, .int .u64 0, .int .u64 0, .int .i64 0, .int .i64 0] ∧ Below w.heap.size w wr) (fun t _ => s.size - (intOf t).toNat)
  case atStart =>
    refine ⟨(k + 1), _, sNone, Nat.le_refl _, hk0, by go_num, Nat.lt_succ_self _, hQ, ?_, ?_, ((Below.refl _ _).alloc (Nat.le_refl _) _).alloc (by simp) _⟩
    · rw [← zero_cells]
      have := Blk.new (w.alloc (.cells #[.int .i64 0, .string ⟨#[]⟩, .int .u64 0, .int .u64 0, .int .u64 0, .int .u64 0, .int .i64 0, .int .i64 0] 46)) 25 #[.int .u64 0, .int .u64 0, .int .u64 0, .int .u64 0]
      simp only [World.size_alloc] at this
      exact this
    · exact (Blk.new w _ _).alloc _
  case round =>
    clear hQ
    obtain ⟨j, f, of, hkj, hj, rfl, hf, hJ, hS, hb, HB⟩ := hrel
    have hsz := HB.size
    have hlt8 := hb.lt
    obtain ⟨⟨c0, c1, c2, c3, c4, c5, c6, c7⟩, f0, f1, f2, f3, f4, f5, f6, f7⟩ := hb.cells8
    obtain ⟨x0, x1, x2, x3⟩ := hS.cells4
    obtain ⟨f, rfl⟩ : ∃ g, f = g + 1 := ⟨f - 1, by omega⟩
    have HJ := fun _ : Unit => hJ
    clear hJ
    by_cases hq : ∃ h : j < s.size, s[j].toNat = 93
    · obtain ⟨hlt, hq⟩ := hq
      have e0 : ((j : Int) == (s.size : Int)) = false := eq_no (by omega)
      have e1 : (((s[j].toNat : Nat) : Int) != 93) = false := ne_no hq
      have hQ2 : Unit → R = (0, ⟨3, [], sNot of, 0⟩, j - k + 1) := fun _ => by
        have : Q = (0, of, j - k + 1) := by rw [← HJ (), sf_cons s j hlt]; exact set_q hq
        rw [HR (), this, setE_ok]
        rfl
      clear hq HJ
      go_wp2_with (go_at_call 19; refine (not_any of _).mono ?_; rintro e w5 ⟨rfl, HB5⟩; have hs5 := hS.below HB5 hS.lt; have hb5 := hb.below HB5 hb.lt; obtain ⟨y0, y1, y2, y3⟩ := hs5.cells4; have g0 := hs5.frozen 0; have g1 := hs5.frozen 1; have g2 := hs5.frozen 2; have g3 := hs5.frozen 3; have LX := HB.trans (HB5.mono hsz); obtain ⟨⟨d0, d1, d2, d3, d4, d5, d6, d7⟩, h0, h1, h2, h3, h4, h5, h6, h7⟩ := hb5.cells8)
      rw [hQ2 ()]
      exact bodyPost_ret (gets_tok Try.results49 rfl ((hb5.far4 (by omega) _ _ _ _).set8 _ _ _ _ _ _ _ _)) rfl (tkn_ok rfl (by omega) (below8 (below4 LX (by omega) _ _ _ _) (Nat.le_refl _) _ _ _ _ _ _ _ _))
    · by_cases ho : (oneL (sf s j)).1 = 0
      · obtain ⟨hm1, hm2⟩ := one_len _ ho
        rw [sf_len] at hm2
        have hlt : j < s.size := by omega
        obtain ⟨b, m, hbm⟩ : ∃ b m, oneL (sf s j) = (0, b, m) := ⟨(oneL (sf s j)).2.1, (oneL (sf s j)).2.2, by rw [← ho]⟩
        have e0 : ((j : Int) == (s.size : Int)) = false := eq_no (by omega)
        have hn93 : s[j].toNat ≠ 93 := fun h => hq ⟨hlt, h⟩
        have e1 : (((s[j].toNat : Nat) : Int) != 93) = true := ne_yes hn93
        have HO := Lib.hid (fun W => one_ok W hsm hj hbm)
        rw [hbm] at hm1 hm2
        simp only at hm1 hm2
        have hc := fun _ : Unit => sf_cons s j hlt
        have hbm' : oneL (s[j] :: sf s (j + 1)) = (0, b, m) := by rw [← hc ()]; exact hbm
        have hdr : (s[j] :: sf s (j + 1)).drop m = sf s (j + m) := by rw [← hc (), sf_drop]
        clear hq ho hbm
        by_cases hdash : ∃ h : j + m < s.size, s[j + m].toNat = 45
        · obtain ⟨hlt2, hd45⟩ := hdash
          have e2 : (((s[j + m].toNat : Nat) : Int) == 45) = true := eq_yes hd45
          have hdr2 : (s[j] :: sf s (j + 1)).drop m = s[j + m] :: sf s (j + m + 1) := by rw [hdr, sf_cons s (j + m) hlt2]
          by_cases ho2 : (oneL (sf s (j + m + 1))).1 = 0
          · obtain ⟨hp1, hp2⟩ := one_len _ ho2
            rw [sf_len] at hp2
            obtain ⟨b2, m2, hbm2⟩ : ∃ b2 m2, oneL (sf s (j + m + 1)) = (0, b2, m2) := ⟨(oneL (sf s (j + m + 1))).2.1, (oneL (sf s (j + m + 1))).2.2, by rw [← ho2]⟩
            have HO2' := fun W => one_ok W hsm (show j + m + 1 ≤ s.size by omega) hbm2
            rw [show ((j + m + 1 : Nat) : Int) = ((j + m : Nat) : Int) + 1 by omega] at HO2'
            have HO2 := Lib.hid HO2'
            rw [hbm2] at hp1 hp2
            simp only at hp1 hp2
            clear HO2' ho2
            by_cases hbb : b2.toNat < b.toNat
            · have hR2 : Unit → R = (4, tk0, 0) := fun _ => by
                have : Q = (4, sNone, 0) := by rw [← HJ (), hc ()]; exact set_less hn93 hbm' hdr2 hd45 hbm2 hbb
                rw [HR (), this]
                exact setE_no _ (by decide)
              clear hn93 hbm' hdr hdr2 hd45 hbm2 HJ
              have e3 : ((b2.toNat : Nat) : Int) < ((b.toNat : Nat) : Int) := by omega
              generalize hjm : j + m = jm at *
              go_wp2_with (first | (go_at_call 55; (first | (with_reducible refine (HO.out _).mono ?_) | (with_reducible refine (HO2.out _).mono ?_)); rintro e w' ⟨rfl, rfl⟩))
              rw [hR2 ()]
              exact bodyPost_ret (gets_tok Try.results49 rfl (hb.set8 _ _ _ _ _ _ _ _)) rfl (tkn_no (by decide) (below8 HB (Nat.le_refl _) _ _ _ _ _ _ _ _))
            · have hst : Unit → setA f (sf s (j + m + 1 + m2)) (sAny of (sSpan b.toNat b2.toNat)) (j + m + 1 + m2 - k) = Q := fun _ => by
                have := HJ ()
                rw [hc (), set_two hn93 hbm' hdr2 hd45 hbm2 hbb, sf_drop, show j - k + m + 1 + m2 = j + m + 1 + m2 - k by omega] at this
                exact this
              have hfl : Unit → (sf s (j + m + 1 + m2)).length < f := fun _ => by rw [sf_len] at hf ⊢; omega
              clear hn93 hbm' hdr hdr2 hd45 hbm2 HJ hf
              have e3 : ¬ ((b2.toNat : Nat) : Int) < ((b.toNat : Nat) : Int) := by omega
              have hjle : j + m + 1 + m2 ≤ s.size := by omega
              have hjk : (k + 1) ≤ j + m := by omega
              have hjj : j < j + m := by omega
              generalize j + m = jm at *
              go_wp2_with (first | (go_at_call 55; (first | (with_reducible refine (HO.out _).mono ?_) | (with_reducible refine (HO2.out _).mono ?_)); rintro e w' ⟨rfl, rfl⟩))
              have x0' := cell_regrown x0
              have x1' := cell_regrown x1
              have x2' := cell_regrown x2
              have x3' := cell_regrown x3
              refine wp_region_hold_below 5 [0, 1, 2] [3, 4] (by kernel_rfl) (by kernel_rfl) rfl (by kernel_rfl) ?_
              simp only [pickOps, List.getElem?_cons_zero, List.getElem?_cons_succ, List.drop_succ_cons, List.drop_zero]
              repeat (go_big_quiet_step (fail))
              refine wpQuiet_nil ?_
              clear x0' x1' x2' x3'
              have LD : Below wr.heap.size wr wr.drew := (Below.refl _ wr).drew
              refine wpForce_step rfl (fun KK hKK => ?_)
              go_simp
              refine (span_any b.toNat b2.toNat _ (UInt8.toNat_lt b) (UInt8.toNat_lt b2)).mono ?_
              rintro e w4 ⟨rfl, HB4⟩
              have L4 : Below wr.heap.size wr w4 := LD.trans (HB4.mono LD.size)
              refine hKK _ _ (regrown_of_below L4) ?_
              clear hKK KK
              refine wpForce_step rfl (fun KK hKK => ?_)
              go_simp
              refine (any_any of (sSpan b.toNat b2.toNat) _).mono ?_
              rintro e w5 ⟨rfl, HB5⟩
              have L5 : Below wr.heap.size wr w5 := L4.trans (HB5.mono L4.size)
              refine hKK _ _ (regrown_of_below L5) ?_
              clear hKK KK
              refine wpForce_nil ?_
              have hs5 := hS.below L5 hS.lt
              have hb5 := hb.below L5 hb.lt
              have LX := HB.trans (L5.mono hsz)
              obtain ⟨y0, y1, y2, y3⟩ := hs5.cells4
              have g0 := hs5.frozen 0
              have g1 := hs5.frozen 1
              have g2 := hs5.frozen 2
              have g3 := hs5.frozen 3
              clear x0 x1 x2 x3 c0 c1 c2 c3 c4 c5 c6 c7 f0 f1 f2 f3 f4 f5 f6 f7
              go_wp2
              refine NoPanic.normal ?_
              go_wp2
              go_roundw
              case rel => exact ⟨jm + 1 + m2, f, sAny of (sSpan b.toNat b2.toNat), by omega, by omega, by go_num, hfl (), hst (), hs5.set4 _, hb5.far4 (by omega) _ _ _ _, below4 LX (by omega) _ _ _ _⟩
              case measure => simp [intOf]; omega
          · have hR2 : Unit → R = ((oneL (sf s (j + m + 1))).1, tk0, 0) := fun _ => by
              have : Q = ((oneL (sf s (j + m + 1))).1, sNone, 0) := by rw [← HJ (), hc ()]; exact set_bad hn93 hbm' hdr2 hd45 ho2
              rw [HR (), this]
              exact setE_no _ ho2
            have HO2' := fun W => one_er W hsm (show j + m + 1 ≤ s.size by omega) ho2
            rw [show ((j + m + 1 : Nat) : Int) = ((j + m : Nat) : Int) + 1 by omega] at HO2'
            have HO2 := Lib.hid HO2'
            have hx1 : ((oneL (sf s (j + m + 1))).1 != 0) = true := bne_iff_ne.2 ho2
            have hxx := fun _ : Unit => ho2
            clear hn93 hbm' hdr hdr2 hd45 HJ ho2 HO2'
            generalize (oneL (sf s (j + m + 1))).1 = x at *
            generalize (((oneL (sf s (j + m + 1))).2.1.toNat : Nat) : Int) = y at *
            generalize j + m = jm at *
            go_wp2_with (first | (go_at_call 55; (first | (with_reducible refine (HO.out _).mono ?_) | (with_reducible refine (HO2.out _).mono ?_)); rintro e w' ⟨rfl, rfl⟩))
            rw [hR2 ()]
            exact bodyPost_ret (gets_tok Try.results49 rfl (hb.set8 _ _ _ _ _ _ _ _)) rfl (tkn_no (hxx ()) (below8 HB (Nat.le_refl _) _ _ _ _ _ _ _ _))
        · have hcd : j + m = s.size ∨ ∃ h : j + m < s.size, s[j + m].toNat ≠ 45 := by
            rcases Nat.lt_or_ge (j + m) s.size with h | h
            · exact .inr ⟨h, fun e => hdash ⟨h, e⟩⟩
            · exact .inl (by omega)
          have hst : Unit → setA f (sf s (j + m)) (sAny of (sSpan b.toNat b.toNat)) (j + m - k) = Q := fun _ => by
            have := HJ ()
            rw [hc (), set_one hn93 hbm' (by rw [hdr]; exact head_no s (j + m) hcd), hdr, show j - k + m = j + m - k by omega] at this
            exact this
          have hfl : Unit → (sf s (j + m)).length < f := fun _ => by rw [sf_len] at hf ⊢; omega
          clear hdash hn93 hbm' hdr HJ hf
          have HO2 := HO
          have hjj : j < j + m := by omega
          have hjle : j + m ≤ s.size := by omega
          generalize j + m = jm at *
          rcases hcd with hje | ⟨hlt2, hn45⟩
          · have e2 : (s.size : Int) ≤ (jm : Int) := by omega
            clear hje
            go_wp2_with (first | (go_at_call 55; (first | (with_reducible refine (HO.out _).mono ?_) | (with_reducible refine (HO2.out _).mono ?_)); rintro e w' ⟨rfl, rfl⟩))
            have x0' := cell_regrown x0
            have x1' := cell_regrown x1
            have x2' := cell_regrown x2
            have x3' := cell_regrown x3
            refine wp_region_hold_below 5 [0, 1, 2] [3, 4] (by kernel_rfl) (by kernel_rfl) rfl (by kernel_rfl) ?_
            simp only [pickOps, List.getElem?_cons_zero, List.getElem?_cons_succ, List.drop_succ_cons, List.drop_zero]
            repeat (go_big_quiet_step (fail))
            refine wpQuiet_nil ?_
            clear x0' x1' x2' x3'
            have LD : Below wr.heap.size wr wr.drew := (Below.refl _ wr).drew
            refine wpForce_step rfl (fun KK hKK => ?_)
            go_simp
            refine (span_any b.toNat b.toNat _ (UInt8.toNat_lt b) (UInt8.toNat_lt b)).mono ?_
            rintro e w4 ⟨rfl, HB4⟩
            have L4 : Below wr.heap.size wr w4 := LD.trans (HB4.mono LD.size)
            refine hKK _ _ (regrown_of_below L4) ?_
            clear hKK KK
            refine wpForce_step rfl (fun KK hKK => ?_)
            go_simp
            refine (any_any of (sSpan b.toNat b.toNat) _).mono ?_
            rintro e w5 ⟨rfl, HB5⟩
            have L5 : Below wr.heap.size wr w5 := L4.trans (HB5.mono L4.size)
            refine hKK _ _ (regrown_of_below L5) ?_
            clear hKK KK
            refine wpForce_nil ?_
            have hs5 := hS.below L5 hS.lt
            have hb5 := hb.below L5 hb.lt
            have LX := HB.trans (L5.mono hsz)
            obtain ⟨y0, y1, y2, y3⟩ := hs5.cells4
            have g0 := hs5.frozen 0
            have g1 := hs5.frozen 1
            have g2 := hs5.frozen 2
            have g3 := hs5.frozen 3
            clear x0 x1 x2 x3 c0 c1 c2 c3 c4 c5 c6 c7 f0 f1 f2 f3 f4 f5 f6 f7
            go_wp2
            refine NoPanic.normal ?_
            go_wp2
            go_roundw
            case rel => exact ⟨jm, f, sAny of (sSpan b.toNat b.toNat), by omega, by omega, by go_num, hfl (), hst (), hs5.set4 _, hb5.far4 (by omega) _ _ _ _, below4 LX (by omega) _ _ _ _⟩
            case measure => simp [intOf]; omega
          · have e2 : (((s[jm].toNat : Nat) : Int) == 45) = false := eq_no hn45
            clear hn45
            go_wp2_with (first | (go_at_call 55; (first | (with_reducible refine (HO.out _).mono ?_) | (with_reducible refine (HO2.out _).mono ?_)); rintro e w' ⟨rfl, rfl⟩))
            have x0' := cell_regrown x0
            have x1' := cell_regrown x1
            have x2' := cell_regrown x2
            have x3' := cell_regrown x3
            refine wp_region_hold_below 5 [0, 1, 2] [3, 4] (by kernel_rfl) (by kernel_rfl) rfl (by kernel_rfl) ?_
            simp only [pickOps, List.getElem?_cons_zero, List.getElem?_cons_succ, List.drop_succ_cons, List.drop_zero]
            repeat (go_big_quiet_step (fail))
            refine wpQuiet_nil ?_
            clear x0' x1' x2' x3'
            have LD : Below wr.heap.size wr wr.drew := (Below.refl _ wr).drew
            refine wpForce_step rfl (fun KK hKK => ?_)
            go_simp
            refine (span_any b.toNat b.toNat _ (UInt8.toNat_lt b) (UInt8.toNat_lt b)).mono ?_
            rintro e w4 ⟨rfl, HB4⟩
            have L4 : Below wr.heap.size wr w4 := LD.trans (HB4.mono LD.size)
            refine hKK _ _ (regrown_of_below L4) ?_
            clear hKK KK
            refine wpForce_step rfl (fun KK hKK => ?_)
            go_simp
            refine (any_any of (sSpan b.toNat b.toNat) _).mono ?_
            rintro e w5 ⟨rfl, HB5⟩
            have L5 : Below wr.heap.size wr w5 := L4.trans (HB5.mono L4.size)
            refine hKK _ _ (regrown_of_below L5) ?_
            clear hKK KK
            refine wpForce_nil ?_
            have hs5 := hS.below L5 hS.lt
            have hb5 := hb.below L5 hb.lt
            have LX := HB.trans (L5.mono hsz)
            obtain ⟨y0, y1, y2, y3⟩ := hs5.cells4
            have g0 := hs5.frozen 0
            have g1 := hs5.frozen 1
            have g2 := hs5.frozen 2
            have g3 := hs5.frozen 3
            clear x0 x1 x2 x3 c0 c1 c2 c3 c4 c5 c6 c7 f0 f1 f2 f3 f4 f5 f6 f7
            go_wp2
            refine NoPanic.normal ?_
            go_wp2
            go_roundw
            case rel => exact ⟨jm, f, sAny of (sSpan b.toNat b.toNat), by omega, by omega, by go_num, hfl (), hst (), hs5.set4 _, hb5.far4 (by omega) _ _ _ _, below4 LX (by omega) _ _ _ _⟩
            case measure => simp [intOf]; omega
      · have HO := Lib.hid (fun W => one_er W hsm hj ho)
        have hx1 : ((oneL (sf s j)).1 != 0) = true := bne_iff_ne.2 ho
        have hR2 : Unit → R = ((oneL (sf s j)).1, tk0, 0) := fun _ => by
          have hQ : Q = ((oneL (sf s j)).1, sNone, 0) := by
            rw [← HJ ()]
            by_cases hlt : j < s.size
            · have hn93 : s[j].toNat ≠ 93 := fun h => hq ⟨hlt, h⟩
              rw [sf_cons s j hlt] at ho ⊢
              exact set_no hn93 ho
            · rw [sf_end s j (by omega)]
              exact set_end
          rw [HR (), hQ]
          exact setE_no _ ho
        have hcase : (j = s.size) ∨ ∃ h : j < s.size, s[j].toNat ≠ 93 := by
          by_cases hlt : j < s.size
          · exact .inr ⟨hlt, fun h => hq ⟨hlt, h⟩⟩
          · exact .inl (by omega)
        have hxx := fun _ : Unit => ho
        clear hq HJ ho
        generalize (oneL (sf s j)).1 = x at *
        generalize (((oneL (sf s j)).2.1.toNat : Nat) : Int) = y at *
        rcases hcase with hjs | ⟨hlt, hn93⟩
        · have e0 : ((j : Int) == (s.size : Int)) = true := eq_yes hjs
          clear hjs
          go_wp2_with (go_at_call 55; refine (HO.out _).mono ?_; rintro e w' ⟨rfl, rfl⟩)
          rw [hR2 ()]
          exact bodyPost_ret (gets_tok Try.results49 rfl (hb.set8 _ _ _ _ _ _ _ _)) rfl (tkn_no (hxx ()) (below8 HB (Nat.le_refl _) _ _ _ _ _ _ _ _))
        · have e0 : ((j : Int) == (s.size : Int)) = false := eq_no (by omega)
          have e1 : (((s[j].toNat : Nat) : Int) != 93) = true := ne_yes hn93
          clear hn93
          go_wp2_with (go_at_call 55; refine (HO.out _).mono ?_; rintro e w' ⟨rfl, rfl⟩)
          rw [hR2 ()]
          exact bodyPost_ret (gets_tok Try.results49 rfl (hb.set8 _ _ _ _ _ _ _ _)) rfl (tkn_no (hxx ()) (below8 HB (Nat.le_refl _) _ _ _ _ _ _ _ _))

set_option maxRecDepth 100000 in
set_option maxHeartbeats 16000000 in
theorem bytesOf_plain (s : ByteArray) (k : Nat) (w : World) (hs : s.size ≤ 1000000) (hk : k ≤ s.size) (hh : hatB (sf s k) = false) :
    Calls Try.prog 49 #[.string s, .int .i64 k] w (Tkn (setTL (sf s k)) k w) := by
  have hsm : s.size ≤ maxLen := by unfold maxLen; omega
  have hR : setTL (sf s k) = setE (setA ((sf s k).length + 1) (sf s k) sNone 0) false := by
    unfold setTL
    rw [if_neg (by rw [hh]; decide)]
    rfl
  have hk0 : k ≤ s.size := hk
  have hcase : k = s.size ∨ ∃ h : k < s.size, (((s[k].toNat : Nat) : Int) == 94) = false := by
    rcases Nat.lt_or_ge k s.size with h | h
    · right
      refine ⟨h, eq_no fun e => ?_⟩
      rw [sf_cons s k h] at hh
      simp [hatB, e] at hh
    · left; omega
  generalize setTL (sf s k) = R at *
  have hQ : setA ((sf s k).length + 1) (sf s k) sNone (k - k) = setA ((sf s k).length + 1) (sf s k) sNone 0 := by congr 1; omega
  generalize setA ((sf s k).length + 1) (sf s k) sNone 0 = Q at *
  have HR := fun _ : Unit => hR
  clear hR hh
  rcases hcase with hke | ⟨hlk, t0⟩
  · subst hke
    have hR2 : R = (6, tk0, 0) := by
      rw [HR (), ← hQ, sf_end s _ (Nat.le_refl _)]
      exact setE_no _ (by decide)
    have ho : (oneL (sf s s.size)).1 = 6 := by rw [sf_end s _ (Nat.le_refl _)]; rfl
    have HO' := fun W => one_er W hsm (Nat.le_refl s.size) (by rw [ho]; decide)
    rw [ho] at HO'
    have HO := Lib.hid HO'
    have HR2 := fun _ : Unit => hR2
    have hb := Blk.new w 46 #[.int .i64 0, .string ⟨#[]⟩, .int .u64 0, .int .u64 0, .int .u64 0, .int .u64 0, .int .i64 0, .int .i64 0]
    clear HO' ho hR2 HR hQ
    generalize (((oneL (sf s s.size)).2.1.toNat : Nat) : Int) = y at *
    go_enter Try.func49, Try.ntmps49
    go_wp2
    refine wp_loop_rounds 1 ?_
    rw [rounds_succ]
    go_wp2_with (go_at_call 55; refine (HO.out _).mono ?_; rintro e w' ⟨rfl, rfl⟩)
    rw [HR2 ()]
    exact bodyPost_ret (v := .tuple #[.agg #[.int .i64 0, .string ⟨#[]⟩, .int .u64 0, .int .u64 0, .int .u64 0, .int .u64 0, .int .i64 0, .int .i64 0], .int .i64 0, .int .i64 6]) (by simp [results, Try.results49, go_sem]) rfl (tkn_no (by decide) (((Below.refl _ _).alloc (Nat.le_refl _) _).alloc (by simp) _))
  · go_enter Try.func49, Try.ntmps49
    go_wp2
    go_loopw [1] (fun t wr => ∃ (j f : Nat) (of : Nat → Bool), k ≤ j ∧ j ≤ s.size ∧ t = .int .i64 j ∧ (sf s j).length < f ∧ setA f (sf s j) of (j - k) = Q ∧
      Blk wr (w.heap.size + 1) 25 (sCells of) ∧ Blk wr w.heap.size 46 #[.int .i64 0, .string ⟨#[]⟩, .int .u64 0, .int .u64 0, .int .u64 0, .int .u64 0, .int .i64 0, .int .i64 0] ∧ Below w.heap.size w wr) (fun t _ => s.size - (intOf t).toNat)
    case atStart =>
      refine ⟨k, _, sNone, Nat.le_refl _, hk0, by go_num, Nat.lt_succ_self _, hQ, ?_, ?_, ((Below.refl _ _).alloc (Nat.le_refl _) _).alloc (by simp) _⟩
      · rw [← zero_cells]
        have := Blk.new (w.alloc (.cells #[.int .i64 0, .string ⟨#[]⟩, .int .u64 0, .int .u64 0, .int .u64 0, .int .u64 0, .int .i64 0, .int .i64 0] 46)) 25 #[.int .u64 0, .int .u64 0, .int .u64 0, .int .u64 0]
        simp only [World.size_alloc] at this
        exact this
      · exact (Blk.new w _ _).alloc _
    case round =>
      clear hQ
      obtain ⟨j, f, of, hkj, hj, rfl, hf, hJ, hS, hb, HB⟩ := hrel
      have hsz := HB.size
      have hlt8 := hb.lt
      obtain ⟨⟨c0, c1, c2, c3, c4, c5, c6, c7⟩, f0, f1, f2, f3, f4, f5, f6, f7⟩ := hb.cells8
      obtain ⟨x0, x1, x2, x3⟩ := hS.cells4
      obtain ⟨f, rfl⟩ : ∃ g, f = g + 1 := ⟨f - 1, by omega⟩
      have HJ := fun _ : Unit => hJ
      clear hJ
      by_cases hq : ∃ h : j < s.size, s[j].toNat = 93
      · obtain ⟨hlt, hq⟩ := hq
        have e0 : ((j : Int) == (s.size : Int)) = false := eq_no (by omega)
        have e1 : (((s[j].toNat : Nat) : Int) != 93) = false := ne_no hq
        have hQ2 : Unit → R = (0, ⟨3, [], of, 0⟩, j - k + 1) := fun _ => by
          have : Q = (0, of, j - k + 1) := by rw [← HJ (), sf_cons s j hlt]; exact set_q hq
          rw [HR (), this, setE_ok]
          rfl
        clear hq HJ
        go_wp2
        rw [hQ2 ()]
        exact bodyPost_ret (gets_tok Try.results49 rfl (hb.set8 _ _ _ _ _ _ _ _)) rfl (tkn_ok rfl (by omega) (below8 HB (Nat.le_refl _) _ _ _ _ _ _ _ _))
      · by_cases ho : (oneL (sf s j)).1 = 0
        · obtain ⟨hm1, hm2⟩ := one_len _ ho
          rw [sf_len] at hm2
          have hlt : j < s.size := by omega
          obtain ⟨b, m, hbm⟩ : ∃ b m, oneL (sf s j) = (0, b, m) := ⟨(oneL (sf s j)).2.1, (oneL (sf s j)).2.2, by rw [← ho]⟩
          have e0 : ((j : Int) == (s.size : Int)) = false := eq_no (by omega)
          have hn93 : s[j].toNat ≠ 93 := fun h => hq ⟨hlt, h⟩
          have e1 : (((s[j].toNat : Nat) : Int) != 93) = true := ne_yes hn93
          have HO := Lib.hid (fun W => one_ok W hsm hj hbm)
          rw [hbm] at hm1 hm2
          simp only at hm1 hm2
          have hc := fun _ : Unit => sf_cons s j hlt
          have hbm' : oneL (s[j] :: sf s (j + 1)) = (0, b, m) := by rw [← hc ()]; exact hbm
          have hdr : (s[j] :: sf s (j + 1)).drop m = sf s (j + m) := by rw [← hc (), sf_drop]
          clear hq ho hbm
          by_cases hdash : ∃ h : j + m < s.size, s[j + m].toNat = 45
          · obtain ⟨hlt2, hd45⟩ := hdash
            have e2 : (((s[j + m].toNat : Nat) : Int) == 45) = true := eq_yes hd45
            have hdr2 : (s[j] :: sf s (j + 1)).drop m = s[j + m] :: sf s (j + m + 1) := by rw [hdr, sf_cons s (j + m) hlt2]
            by_cases ho2 : (oneL (sf s (j + m + 1))).1 = 0
            · obtain ⟨hp1, hp2⟩ := one_len _ ho2
              rw [sf_len] at hp2
              obtain ⟨b2, m2, hbm2⟩ : ∃ b2 m2, oneL (sf s (j + m + 1)) = (0, b2, m2) := ⟨(oneL (sf s (j + m + 1))).2.1, (oneL (sf s (j + m + 1))).2.2, by rw [← ho2]⟩
              have HO2' := fun W => one_ok W hsm (show j + m + 1 ≤ s.size by omega) hbm2
              rw [show ((j + m + 1 : Nat) : Int) = ((j + m : Nat) : Int) + 1 by omega] at HO2'
              have HO2 := Lib.hid HO2'
              rw [hbm2] at hp1 hp2
              simp only at hp1 hp2
              clear HO2' ho2
              by_cases hbb : b2.toNat < b.toNat
              · have hR2 : Unit → R = (4, tk0, 0) := fun _ => by
                  have : Q = (4, sNone, 0) := by rw [← HJ (), hc ()]; exact set_less hn93 hbm' hdr2 hd45 hbm2 hbb
                  rw [HR (), this]
                  exact setE_no _ (by decide)
                clear hn93 hbm' hdr hdr2 hd45 hbm2 HJ
                have e3 : ((b2.toNat : Nat) : Int) < ((b.toNat : Nat) : Int) := by omega
                generalize hjm : j + m = jm at *
                go_wp2_with (first | (go_at_call 55; (first | (with_reducible refine (HO.out _).mono ?_) | (with_reducible refine (HO2.out _).mono ?_)); rintro e w' ⟨rfl, rfl⟩))
                rw [hR2 ()]
                exact bodyPost_ret (gets_tok Try.results49 rfl (hb.set8 _ _ _ _ _ _ _ _)) rfl (tkn_no (by decide) (below8 HB (Nat.le_refl _) _ _ _ _ _ _ _ _))
              · have hst : Unit → setA f (sf s (j + m + 1 + m2)) (sAny of (sSpan b.toNat b2.toNat)) (j + m + 1 + m2 - k) = Q := fun _ => by
                  have := HJ ()
                  rw [hc (), set_two hn93 hbm' hdr2 hd45 hbm2 hbb, sf_drop, show j - k + m + 1 + m2 = j + m + 1 + m2 - k by omega] at this
                  exact this
                have hfl : Unit → (sf s (j + m + 1 + m2)).length < f := fun _ => by rw [sf_len] at hf ⊢; omega
                clear hn93 hbm' hdr hdr2 hd45 hbm2 HJ hf
                have e3 : ¬ ((b2.toNat : Nat) : Int) < ((b.toNat : Nat) : Int) := by omega
                have hjle : j + m + 1 + m2 ≤ s.size := by omega
                have hjk : k ≤ j + m := by omega
                have hjj : j < j + m := by omega
                generalize j + m = jm at *
                go_wp2_with (first | (go_at_call 55; (first | (with_reducible refine (HO.out _).mono ?_) | (with_reducible refine (HO2.out _).mono ?_)); rintro e w' ⟨rfl, rfl⟩))
                have x0' := cell_regrown x0
                have x1' := cell_regrown x1
                have x2' := cell_regrown x2
                have x3' := cell_regrown x3
                refine wp_region_hold_below 5 [0, 1, 2] [3, 4] (by kernel_rfl) (by kernel_rfl) rfl (by kernel_rfl) ?_
                simp only [pickOps, List.getElem?_cons_zero, List.getElem?_cons_succ, List.drop_succ_cons, List.drop_zero]
                repeat (go_big_quiet_step (fail))
                refine wpQuiet_nil ?_
                clear x0' x1' x2' x3'
                have LD : Below wr.heap.size wr wr.drew := (Below.refl _ wr).drew
                refine wpForce_step rfl (fun KK hKK => ?_)
                go_simp
                refine (span_any b.toNat b2.toNat _ (UInt8.toNat_lt b) (UInt8.toNat_lt b2)).mono ?_
                rintro e w4 ⟨rfl, HB4⟩
                have L4 : Below wr.heap.size wr w4 := LD.trans (HB4.mono LD.size)
                refine hKK _ _ (regrown_of_below L4) ?_
                clear hKK KK
                refine wpForce_step rfl (fun KK hKK => ?_)
                go_simp
                refine (any_any of (sSpan b.toNat b2.toNat) _).mono ?_
                rintro e w5 ⟨rfl, HB5⟩
                have L5 : Below wr.heap.size wr w5 := L4.trans (HB5.mono L4.size)
                refine hKK _ _ (regrown_of_below L5) ?_
                clear hKK KK
                refine wpForce_nil ?_
                have hs5 := hS.below L5 hS.lt
                have hb5 := hb.below L5 hb.lt
                have LX := HB.trans (L5.mono hsz)
                obtain ⟨y0, y1, y2, y3⟩ := hs5.cells4
                have g0 := hs5.frozen 0
                have g1 := hs5.frozen 1
                have g2 := hs5.frozen 2
                have g3 := hs5.frozen 3
                clear x0 x1 x2 x3 c0 c1 c2 c3 c4 c5 c6 c7 f0 f1 f2 f3 f4 f5 f6 f7
                go_wp2
                refine NoPanic.normal ?_
                go_wp2
                go_roundw
                case rel => exact ⟨jm + 1 + m2, f, sAny of (sSpan b.toNat b2.toNat), by omega, by omega, by go_num, hfl (), hst (), hs5.set4 _, hb5.far4 (by omega) _ _ _ _, below4 LX (by omega) _ _ _ _⟩
                case measure => simp [intOf]; omega
            · have hR2 : Unit → R = ((oneL (sf s (j + m + 1))).1, tk0, 0) := fun _ => by
                have : Q = ((oneL (sf s (j + m + 1))).1, sNone, 0) := by rw [← HJ (), hc ()]; exact set_bad hn93 hbm' hdr2 hd45 ho2
                rw [HR (), this]
                exact setE_no _ ho2
              have HO2' := fun W => one_er W hsm (show j + m + 1 ≤ s.size by omega) ho2
              rw [show ((j + m + 1 : Nat) : Int) = ((j + m : Nat) : Int) + 1 by omega] at HO2'
              have HO2 := Lib.hid HO2'
              have hx1 : ((oneL (sf s (j + m + 1))).1 != 0) = true := bne_iff_ne.2 ho2
              have hxx := fun _ : Unit => ho2
              clear hn93 hbm' hdr hdr2 hd45 HJ ho2 HO2'
              generalize (oneL (sf s (j + m + 1))).1 = x at *
              generalize (((oneL (sf s (j + m + 1))).2.1.toNat : Nat) : Int) = y at *
              generalize j + m = jm at *
              go_wp2_with (first | (go_at_call 55; (first | (with_reducible refine (HO.out _).mono ?_) | (with_reducible refine (HO2.out _).mono ?_)); rintro e w' ⟨rfl, rfl⟩))
              rw [hR2 ()]
              exact bodyPost_ret (gets_tok Try.results49 rfl (hb.set8 _ _ _ _ _ _ _ _)) rfl (tkn_no (hxx ()) (below8 HB (Nat.le_refl _) _ _ _ _ _ _ _ _))
          · have hcd : j + m = s.size ∨ ∃ h : j + m < s.size, s[j + m].toNat ≠ 45 := by
              rcases Nat.lt_or_ge (j + m) s.size with h | h
              · exact .inr ⟨h, fun e => hdash ⟨h, e⟩⟩
              · exact .inl (by omega)
            have hst : Unit → setA f (sf s (j + m)) (sAny of (sSpan b.toNat b.toNat)) (j + m - k) = Q := fun _ => by
              have := HJ ()
              rw [hc (), set_one hn93 hbm' (by rw [hdr]; exact head_no s (j + m) hcd), hdr, show j - k + m = j + m - k by omega] at this
              exact this
            have hfl : Unit → (sf s (j + m)).length < f := fun _ => by rw [sf_len] at hf ⊢; omega
            clear hdash hn93 hbm' hdr HJ hf
            have HO2 := HO
            have hjj : j < j + m := by omega
            have hjle : j + m ≤ s.size := by omega
            generalize j + m = jm at *
            rcases hcd with hje | ⟨hlt2, hn45⟩
            · have e2 : (s.size : Int) ≤ (jm : Int) := by omega
              clear hje
              go_wp2_with (first | (go_at_call 55; (first | (with_reducible refine (HO.out _).mono ?_) | (with_reducible refine (HO2.out _).mono ?_)); rintro e w' ⟨rfl, rfl⟩))
              have x0' := cell_regrown x0
              have x1' := cell_regrown x1
              have x2' := cell_regrown x2
              have x3' := cell_regrown x3
              refine wp_region_hold_below 5 [0, 1, 2] [3, 4] (by kernel_rfl) (by kernel_rfl) rfl (by kernel_rfl) ?_
              simp only [pickOps, List.getElem?_cons_zero, List.getElem?_cons_succ, List.drop_succ_cons, List.drop_zero]
              repeat (go_big_quiet_step (fail))
              refine wpQuiet_nil ?_
              clear x0' x1' x2' x3'
              have LD : Below wr.heap.size wr wr.drew := (Below.refl _ wr).drew
              refine wpForce_step rfl (fun KK hKK => ?_)
              go_simp
              refine (span_any b.toNat b.toNat _ (UInt8.toNat_lt b) (UInt8.toNat_lt b)).mono ?_
              rintro e w4 ⟨rfl, HB4⟩
              have L4 : Below wr.heap.size wr w4 := LD.trans (HB4.mono LD.size)
              refine hKK _ _ (regrown_of_below L4) ?_
              clear hKK KK
              refine wpForce_step rfl (fun KK hKK => ?_)
              go_simp
              refine (any_any of (sSpan b.toNat b.toNat) _).mono ?_
              rintro e w5 ⟨rfl, HB5⟩
              have L5 : Below wr.heap.size wr w5 := L4.trans (HB5.mono L4.size)
              refine hKK _ _ (regrown_of_below L5) ?_
              clear hKK KK
              refine wpForce_nil ?_
              have hs5 := hS.below L5 hS.lt
              have hb5 := hb.below L5 hb.lt
              have LX := HB.trans (L5.mono hsz)
              obtain ⟨y0, y1, y2, y3⟩ := hs5.cells4
              have g0 := hs5.frozen 0
              have g1 := hs5.frozen 1
              have g2 := hs5.frozen 2
              have g3 := hs5.frozen 3
              clear x0 x1 x2 x3 c0 c1 c2 c3 c4 c5 c6 c7 f0 f1 f2 f3 f4 f5 f6 f7
              go_wp2
              refine NoPanic.normal ?_
              go_wp2
              go_roundw
              case rel => exact ⟨jm, f, sAny of (sSpan b.toNat b.toNat), by omega, by omega, by go_num, hfl (), hst (), hs5.set4 _, hb5.far4 (by omega) _ _ _ _, below4 LX (by omega) _ _ _ _⟩
              case measure => simp [intOf]; omega
            · have e2 : (((s[jm].toNat : Nat) : Int) == 45) = false := eq_no hn45
              clear hn45
              go_wp2_with (first | (go_at_call 55; (first | (with_reducible refine (HO.out _).mono ?_) | (with_reducible refine (HO2.out _).mono ?_)); rintro e w' ⟨rfl, rfl⟩))
              have x0' := cell_regrown x0
              have x1' := cell_regrown x1
              have x2' := cell_regrown x2
              have x3' := cell_regrown x3
              refine wp_region_hold_below 5 [0, 1, 2] [3, 4] (by kernel_rfl) (by kernel_rfl) rfl (by kernel_rfl) ?_
              simp only [pickOps, List.getElem?_cons_zero, List.getElem?_cons_succ, List.drop_succ_cons, List.drop_zero]
              repeat (go_big_quiet_step (fail))
              refine wpQuiet_nil ?_
              clear x0' x1' x2' x3'
              have LD : Below wr.heap.size wr wr.drew := (Below.refl _ wr).drew
              refine wpForce_step rfl (fun KK hKK => ?_)
              go_simp
              refine (span_any b.toNat b.toNat _ (UInt8.toNat_lt b) (UInt8.toNat_lt b)).mono ?_
              rintro e w4 ⟨rfl, HB4⟩
              have L4 : Below wr.heap.size wr w4 := LD.trans (HB4.mono LD.size)
              refine hKK _ _ (regrown_of_below L4) ?_
              clear hKK KK
              refine wpForce_step rfl (fun KK hKK => ?_)
              go_simp
              refine (any_any of (sSpan b.toNat b.toNat) _).mono ?_
              rintro e w5 ⟨rfl, HB5⟩
              have L5 : Below wr.heap.size wr w5 := L4.trans (HB5.mono L4.size)
              refine hKK _ _ (regrown_of_below L5) ?_
              clear hKK KK
              refine wpForce_nil ?_
              have hs5 := hS.below L5 hS.lt
              have hb5 := hb.below L5 hb.lt
              have LX := HB.trans (L5.mono hsz)
              obtain ⟨y0, y1, y2, y3⟩ := hs5.cells4
              have g0 := hs5.frozen 0
              have g1 := hs5.frozen 1
              have g2 := hs5.frozen 2
              have g3 := hs5.frozen 3
              clear x0 x1 x2 x3 c0 c1 c2 c3 c4 c5 c6 c7 f0 f1 f2 f3 f4 f5 f6 f7
              go_wp2
              refine NoPanic.normal ?_
              go_wp2
              go_roundw
              case rel => exact ⟨jm, f, sAny of (sSpan b.toNat b.toNat), by omega, by omega, by go_num, hfl (), hst (), hs5.set4 _, hb5.far4 (by omega) _ _ _ _, below4 LX (by omega) _ _ _ _⟩
              case measure => simp [intOf]; omega
        · have HO := Lib.hid (fun W => one_er W hsm hj ho)
          have hx1 : ((oneL (sf s j)).1 != 0) = true := bne_iff_ne.2 ho
          have hR2 : Unit → R = ((oneL (sf s j)).1, tk0, 0) := fun _ => by
            have hQ : Q = ((oneL (sf s j)).1, sNone, 0) := by
              rw [← HJ ()]
              by_cases hlt : j < s.size
              · have hn93 : s[j].toNat ≠ 93 := fun h => hq ⟨hlt, h⟩
                rw [sf_cons s j hlt] at ho ⊢
                exact set_no hn93 ho
              · rw [sf_end s j (by omega)]
                exact set_end
            rw [HR (), hQ]
            exact setE_no _ ho
          have hcase : (j = s.size) ∨ ∃ h : j < s.size, s[j].toNat ≠ 93 := by
            by_cases hlt : j < s.size
            · exact .inr ⟨hlt, fun h => hq ⟨hlt, h⟩⟩
            · exact .inl (by omega)
          have hxx := fun _ : Unit => ho
          clear hq HJ ho
          generalize (oneL (sf s j)).1 = x at *
          generalize (((oneL (sf s j)).2.1.toNat : Nat) : Int) = y at *
          rcases hcase with hjs | ⟨hlt, hn93⟩
          · have e0 : ((j : Int) == (s.size : Int)) = true := eq_yes hjs
            clear hjs
            go_wp2_with (go_at_call 55; refine (HO.out _).mono ?_; rintro e w' ⟨rfl, rfl⟩)
            rw [hR2 ()]
            exact bodyPost_ret (gets_tok Try.results49 rfl (hb.set8 _ _ _ _ _ _ _ _)) rfl (tkn_no (hxx ()) (below8 HB (Nat.le_refl _) _ _ _ _ _ _ _ _))
          · have e0 : ((j : Int) == (s.size : Int)) = false := eq_no (by omega)
            have e1 : (((s[j].toNat : Nat) : Int) != 93) = true := ne_yes hn93
            clear hn93
            go_wp2_with (go_at_call 55; refine (HO.out _).mono ?_; rintro e w' ⟨rfl, rfl⟩)
            rw [hR2 ()]
            exact bodyPost_ret (gets_tok Try.results49 rfl (hb.set8 _ _ _ _ _ _ _ _)) rfl (tkn_no (hxx ()) (below8 HB (Nat.le_refl _) _ _ _ _ _ _ _ _))

theorem bytesOf_any (s : ByteArray) (k : Nat) (w : World) (hs : s.size ≤ 1000000) (hk : k ≤ s.size) :
    Calls Try.prog 49 #[.string s, .int .i64 k] w (Tkn (setTL (sf s k)) k w) := by
  cases h : hatB (sf s k)
  · exact bytesOf_plain s k w hs hk h
  · exact bytesOf_not s k w hs hk h

end Go.Proofs.Ytbjgkolldmplkaa
