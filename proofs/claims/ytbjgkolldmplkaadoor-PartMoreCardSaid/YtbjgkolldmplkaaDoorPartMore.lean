/- The tied card of PartMore: it returns true for every input, and each argument reads behind the call as it did before. Conditions: the row's own (the table of math/bits reads as its initialiser laid it, tied to the program's text). -/
import Derived.Test.YtbjgkolldmplkaaDoorAwake2
import Derived.Test.YtbjgkolldmplkaaDoorLawSets
import Derived.Test.YtbjgkolldmplkaaDoorLawD
import Derived.Test.YtbjgkolldmplkaaDoorRd
import Derived.Test.YtbjgkolldmplkaaDoorPartBackP
namespace Go.Proofs.YtbjgkolldmplkaaDoor.PartMore
open Go.ChangeShapes Go.WideShapes Go.ChangeAt Go.RowKit Go.Sort

set_option maxRecDepth 100000 in
theorem walk_skip1 (A A' : Option Addr) (n c n' c' : Nat) (w : World) (h : (20 : Int) < n) :
    Calls Tryd.prog 5 #[.slice A n c, .slice A' n' c'] w (Gives (.bool true) w) := by
  go_enter Tryd.func5, Tryd.ntmps5
  go_wp2
  go_ret
  exact ⟨rfl, Below.refl _ _⟩

set_option maxRecDepth 100000 in
theorem walk_skip2 (A A' : Option Addr) (n c n' c' : Nat) (w : World) (h : ¬ (20 : Int) < n) (h' : (20 : Int) < n') :
    Calls Tryd.prog 5 #[.slice A n c, .slice A' n' c'] w (Gives (.bool true) w) := by
  go_enter Tryd.func5, Tryd.ntmps5
  go_wp2
  go_ret
  exact ⟨rfl, Below.refl _ _⟩

/-- Is j one of the first k? -/
def cntJ (j k : Nat) : Int := if j < k then 1 else 0
theorem cntJ_zero (j : Nat) : cntJ j 0 = 0 := if_neg (by omega)
theorem cntJ_yes (j : Nat) : cntJ j (j + 1) = cntJ j j + 1 := by unfold cntJ; rw [if_pos (by omega), if_neg (by omega)]; rfl
theorem cntJ_no {j k : Nat} (h : k ≠ j) : cntJ j (k + 1) = cntJ j k := by
  unfold cntJ
  by_cases h1 : j < k
  · rw [if_pos (by omega), if_pos h1]
  · rw [if_neg (by omega), if_neg h1]
theorem cntJ_end {j n : Nat} (h : j < n) : cntJ j n = 1 := if_pos h
theorem cntJ_bd (j k : Nat) : 0 ≤ cntJ j k ∧ cntJ j k ≤ 1 := by unfold cntJ; split <;> omega

set_option maxRecDepth 100000 in
set_option maxHeartbeats 8000000 in
theorem walkOn (P Q : List (Nat → Bool)) (n1 n2 rp rq : Nat) (VL VM : List Value) (A A' : Option Addr) (c c' : Nat) (w : World)
    (HL : Rd w 4 A n1 VL) (HM : Rd w 4 A' n2 VM) (HVL : ∀ u ∈ VL, u.oneCell' = true) (HVM : ∀ u ∈ VM, u.oneCell' = true) (h1 : ¬ (20 : Int) < n1) (h2 : ¬ (20 : Int) < n2) (hle : (rp : Int) ≤ rq) (hrq : rq ≤ 256)
    (hin : ∀ i, i < rq → ∃ j, j < rp ∧ ∀ k, k < rp → eqB (sBoth (P.getD k sNone) (Q.getD i sNone)) (Q.getD i sNone) = decide (k = j) ∧ eqB (sBoth (P.getD k sNone) (Q.getD i sNone)) sNone = !decide (k = j))
    (HP : ∀ W A c, Rd W 4 A n1 VL → Calls Tryd.prog 9 #[.slice A n1 c] W (GR 4 rp (setVals P) 0 W))
    (HQ : ∀ W A c, Rd W 4 A (n1 + n2) (VL ++ VM) → Calls Tryd.prog 9 #[.slice A (n1 + n2) c] W (GR 4 rq (setVals Q) 0 W))
    (HR : ∀ W A c, Rd W 4 A rp (setVals P) → Calls Tryd.prog 9 #[.slice A rp c] W (GR 4 rp (setVals P) 0 W))
    (HAW : ∀ W, Below w.heap.size w W → Calls Tryd.prog 13 #[] W (Gives (.bool true) W))
    (HSM : ∀ W A1 A2 c1 c2, Rd W 4 A1 rp (setVals P) → Rd W 4 A2 rp (setVals P) → Calls Tryd.prog 14 #[.slice A1 rp c1, .slice A2 rp c2] W (Gives (.bool true) W)) :
    Calls Tryd.prog 5 #[.slice A n1 c, .slice A' n2 c'] w (Gives (.bool true) w) := by
  obtain ⟨i0, hi0, hz0, hz1, hz2⟩ := info_parts sets_info
  have q1 := Lib.hid HP
  have q2 := Lib.hid HQ
  have q3 := Lib.hid HR
  have q4 := Lib.hid HAW
  have q5 := Lib.hid HSM
  have q6 := Lib.hid hin
  have q7 := Lib.hid HVL
  have q8 := Lib.hid HVM
  clear HP HQ HR HAW HSM hin HVL HVM
  go_enter Tryd.func5, Tryd.ntmps5
  go_wp2_with fail
  refine (q1.out _ _ _ HL).mono ?_
  rintro e w1 ⟨A1, c1, rfl, HX, L1⟩
  replace HL := HL.next L1
  replace HM := HM.next L1
  have L2 : Below w1.heap.size w1 (w1.alloc (.cells #[] 35)) := (Below.refl _ _).alloc (Nat.le_refl _) _
  have hown2 : (w1.alloc (.cells #[] 35)).ownsRow w1.heap.size 35 4 (.slice (some ⟨w1.heap.size, 0, none⟩) 0 0) 0 [] := ⟨rfl, .inr ⟨w1.heap.size, 0, #[], rfl, Nat.le_refl _, heap_alloc_new w1 _, Nat.le_refl _, Nat.zero_le _, rfl, rfl⟩⟩
  go_wp2_with (first
    | (at_builtin
       refine wpList_append_any _ rfl (.tmp 28) (.tmp 29) _ rfl w1.heap.size 35 i0 _ 4 32 Tryd.underlying22 hi0 hz0 hz1 hz2 rfl (by omega) _ 0 _ rfl
         hown2 _ _ n1 c VL rfl (HL.next L2) q7.out (by simp only [maxLen]; omega) (by omega) (by simp) ?_
       intro v3 w3 hown3 hg3 hat3
       have L3 : Below w1.heap.size w1 w3 := L2.grown hg3 (by simp) (own_base hown2)
       rw [Nat.zero_add, List.nil_append] at hown3)
    | (at_builtin
       refine wpList_append_any _ rfl (.tmp 30) (.tmp 31) _ rfl w1.heap.size 35 i0 _ 4 32 Tryd.underlying22 hi0 hz0 hz1 hz2 rfl (by omega) _ n1 _ rfl
         hown3 _ _ n2 c' VM rfl (HM.next L3) q8.out (by simp only [maxLen]; omega) (by omega) L3.size ?_
       intro v4 w4 hown4 hg4 hat4
       have L4 : Below w1.heap.size w1 w4 := L3.grown hg4 L3.size (own_base hown3)
       obtain ⟨A4, c4, rfl, HO4, _, _⟩ := Rd.own hown4))
  clear hown2 hown3 hown4 hg3 hg4 hat3 hat4 L2 L3 HM HL
  refine (q2.out _ _ _ HO4).mono ?_
  rintro e w5 ⟨A5, c5, rfl, HY, L5⟩
  replace L1 := below_then L1 (below_then L4 L5)
  replace HX := (HX.next L4).next L5
  clear L4 L5 HO4
  go_wp2_with fail
  refine (q3.out _ _ _ HX).mono ?_
  rintro e w6 ⟨A6, c6, rfl, HZ, L6⟩
  replace L1 := below_then L1 L6
  replace HX := HX.next L6
  replace HY := HY.next L6
  clear L6
  go_wp2_with fail
  refine (q5.out _ _ _ _ _ HX HZ).mono ?_
  rintro e w7 ⟨rfl, L7⟩
  replace L1 := below_then L1 L7
  replace HX := HX.next L7
  replace HY := HY.next L7
  clear L7 HZ q1 q2 q3 q5
  go_wp2
  go_loopw [11] (fun i wr => ∃ k : Nat, k ≤ rq ∧ i = .int .i64 k ∧ Below w7.heap.size w7 wr) (fun i _ => rq - (intOf i).toNat)
  case atStart => exact ⟨0, by omega, rfl, Below.refl _ _⟩
  case round =>
    obtain ⟨i, hi, rfl, HB⟩ := hrel
    by_cases hlt : i < rq
    · obtain ⟨g, o, rfl, hgB, _⟩ := setsD_cell HY i hlt
      obtain ⟨j, hj, hjk⟩ := q6.out i hlt
      have hJ := Lib.hid hjk
      clear hjk hgB
      have hJ0 := Lib.hid (cntJ_zero j)
      go_wp2
      obtain ⟨wo, hwo⟩ : ∃ wo, wo = wr := ⟨_, rfl⟩
      subst hwo
      go_loopw [12, 13] (fun nn k wr => ∃ k' : Nat, k' ≤ rp ∧ k = .int .i64 k' ∧ nn = .int .i64 (cntJ j k') ∧ Below w7.heap.size w7 wr) (fun _ k _ => rp - (intOf k).toNat)
      case atStart => exact ⟨0, by omega, rfl, by rw [hJ0.out], HB⟩
      case round =>
        obtain ⟨k, hk, rfl, rfl, HB2⟩ := hrel
        by_cases hlk : k < rp
        · obtain ⟨g1, o1, rfl, hg1, c0, c1, c2, c3⟩ := setsD_cell (HX.next HB2) k hlk
          obtain ⟨g2, o2, hgo, hg2, d0, d1, d2, d3⟩ := setsD_cell (HY.next HB2) i hlt
          obtain ⟨rfl, rfl⟩ : g2 = g ∧ o2 = o := by simpa using hgo.symm
          obtain ⟨hj1, hj2⟩ := hJ.out k hlk
          have hbd := cntJ_bd j k
          have hcy := fun (_ : Unit) (h : k = j) => show cntJ j (k + 1) = cntJ j k + 1 by subst h; exact cntJ_yes k
          have hcn := fun (_ : Unit) (h : k ≠ j) => cntJ_no h
          have hs2 := HB2.size
          generalize cntJ j k = x at *
          generalize P.getD k sNone = p at *
          generalize Q.getD i sNone = q at *
          have hqs := fun W => eql_eqB (sBoth p q) q W
          have hqd := fun W => neq_none (sBoth p q) W
          have c0' := cell_regrown c0
          have c1' := cell_regrown c1
          have c2' := cell_regrown c2
          have c3' := cell_regrown c3
          have d0' := cell_regrown d0
          have d1' := cell_regrown d1
          have d2' := cell_regrown d2
          have d3' := cell_regrown d3
          have hi1 : (0 : Int) ≤ (i : Int) := by omega
          have hi2 : (i : Int) < (rq : Int) := by omega
          have hk1 : (0 : Int) ≤ (k : Int) := by omega
          have hk2 : (k : Int) < (rp : Int) := by omega
          by_cases hkj : k = j
          · have hcy' := fun _ : Unit => hcy () hkj
            have hdt : decide (k = j) = true := by simpa using hkj
            rw [hj1, hdt] at hqs
            clear hj1 hj2 hcy hcn hkj hqd hdt
            go_wp2
            refine wp_region_quiet_below (by kernel_rfl) (by kernel_rfl) ?_
            repeat (go_big_quiet_step ((go_at_call 16; exact gives_quiet (both_any _ _ _))))
            refine wpQuiet_nil ?_
            intro w8 hw8
            have HB8 := below_of hw8
            clear hw8
            go_wp2
            go_roundw
            case rel => exact ⟨k + 1, by omega, by go_num, by rw [hcy' ()], HB2.trans (HB8.mono hs2)⟩
            case measure => simp [intOf]; omega
          · have hcn' := fun _ : Unit => hcn () hkj
            have hdt : decide (k = j) = false := by simpa using hkj
            rw [hj1, hdt] at hqs
            rw [hj2, hdt] at hqd
            clear hj1 hj2 hcy hcn hkj hdt
            go_wp2
            refine wp_region_quiet_below (by kernel_rfl) (by kernel_rfl) ?_
            repeat (go_big_quiet_step ((go_at_call 16; exact gives_quiet (both_any _ _ _))))
            refine wpQuiet_nil ?_
            intro w8 hw8
            have HB8 := below_of hw8
            clear hw8 c0' c1' c2' c3' d0' d1' d2' d3'
            have c0' := cell_regrown ((HB8.cell (block_lt_of_cell c0)).trans c0)
            have c1' := cell_regrown ((HB8.cell (block_lt_of_cell c1)).trans c1)
            have c2' := cell_regrown ((HB8.cell (block_lt_of_cell c2)).trans c2)
            have c3' := cell_regrown ((HB8.cell (block_lt_of_cell c3)).trans c3)
            have d0' := cell_regrown ((HB8.cell (block_lt_of_cell d0)).trans d0)
            have d1' := cell_regrown ((HB8.cell (block_lt_of_cell d1)).trans d1)
            have d2' := cell_regrown ((HB8.cell (block_lt_of_cell d2)).trans d2)
            have d3' := cell_regrown ((HB8.cell (block_lt_of_cell d3)).trans d3)
            clear c0 c1 c2 c3 d0 d1 d2 d3
            go_wp2
            refine wp_region_quiet_below (by kernel_rfl) (by kernel_rfl) ?_
            repeat (go_big_quiet_step ((go_at_call 16; exact gives_quiet (both_any _ _ _))))
            refine wpQuiet_nil ?_
            intro w9 hw9
            have HB9 := below_of hw9
            clear hw9
            go_wp2
            go_roundw
            case rel => exact ⟨k + 1, by omega, by go_num, by rw [hcn' ()], HB2.trans ((below_then HB8 HB9).mono hs2)⟩
            case measure => simp [intOf]; omega
        · obtain rfl : k = rp := by omega
          have hend := cntJ_end hj
          rw [hend]
          clear hend
          go_wp2
          go_roundw
          case rel => exact ⟨i + 1, by omega, by go_num, HB2⟩
          case measure => simp [intOf]; omega
    · obtain rfl : i = rq := by omega
      have L8 := below_then L1 HB
      go_wp2_with fail
      refine (q4.out _ L8).mono ?_
      rintro e w8 ⟨rfl, HB8⟩
      have L9 := below_then L8 HB8
      clear q4 q6 HX HY L1 L8 HB HB8
      go_wp2
      go_ret
      exact ⟨rfl, L9⟩

theorem walk (A A' : Option Addr) (c c' : Nat) (L M : List (Nat → Bool)) (w : World) (HL : Reads w w.heap.size 4 A L.length (setVals L)) (HM : Reads w w.heap.size 4 A' M.length (setVals M)) (hT : TabD w) :
    Calls Tryd.prog 5 #[.slice A L.length c, .slice A' M.length c'] w (Gives (.bool true) w) := by
  by_cases h1 : (20 : Int) < (L.length : Int)
  · exact walk_skip1 A A' _ c _ c' w h1
  by_cases h2 : (20 : Int) < (M.length : Int)
  · exact walk_skip2 A A' _ c _ c' w h1 h2
  have hmore : ∀ a b, a < 256 → b < 256 → keyL (L ++ M) a = keyL (L ++ M) b → keyL L a = keyL L b := fun a b _ _ h => keyL_more L M a b h
  have hpq := parts_more hmore
  have hp := parts_len (keyL L)
  refine walkOn (partN (cl (keyL L)) 256) (partN (cl (keyL (L ++ M))) 256) L.length M.length (partN (cl (keyL L)) 256).length (partN (cl (keyL (L ++ M))) 256).length (setVals L) (setVals M) A A' c c' w HL HM (setVals_one L) (setVals_one M) h1 h2
    (by omega) (parts_len _) ?_ ?_ ?_ ?_ ?_ ?_
  · intro i hi
    rw [partN_length] at hi ⊢
    exact part_in hmore i hi
  · exact fun W A c h => (parts_any L A _ c _ W h (Nat.le_refl _) (by omega)).mono fun _ _ h => gr_sets h
  · intro W A c h
    have e : setVals L ++ setVals M = setVals (L ++ M) := by simp [setVals]
    have hl : L.length + M.length = (L ++ M).length := by simp
    rw [e, hl] at h
    rw [hl]
    exact (parts_any (L ++ M) A _ c _ W h (Nat.le_refl _) (by rw [← hl]; omega)).mono fun _ _ h => gr_sets h
  · intro W A c h
    have := parts_any (partN (cl (keyL L)) 256) A _ c _ W h (Nat.le_refl _) (by omega)
    rw [parts_own _ (cl_rgs _ _)] at this
    exact this.mono fun _ _ h => gr_sets h
  · exact fun W hW => awake2_any W fun W' h' => hT.below (below_then hW h')
  · exact fun W A1 A2 c1 c2 h1 h2 => same_any _ A1 A2 _ c1 c2 _ W h1 h2 (Nat.le_refl _) (by omega)

set_option maxRecDepth 100000 in
theorem lifted (os : Os) (started : os.Started) (H : Type) (enc : TypeId × Value → H) :
    ReturnsInHanded {} Tryd.checked os 5 .any (fun w args => (Rows.partMoreSpec.pre enc Tryd.prog Tryd.f5 [] false w args ∧ laidMetH Tryd.prog laidL w) ∧ sizedMet enc Tryd.prog Tryd.f5 (OpenSpec.ofChange Rows.partMoreSpec) false w args) (Rows.partMoreSpec.post enc Tryd.prog Tryd.f5 false true false false) := by
  refine law_lifted_laid (tb := 4) started (by kernel_rfl) Tryd.func5 rfl ?_ rfl Tryd.underlying4 (by kernel_rfl)
    (ChangeSpec.witness_shaped (enc := enc) (C := Tryd.checked) (os := os) (X := fun w _ => laidMetH Tryd.prog laidL w) false (World.doorLaid Tryd.prog 14 os) #[.slice none 0 0, .slice none 0 0] 8 rfl (World.shaped_of_RefB (by kernel_rfl) (by kernel_rfl)) (by kernel_rfl) (by kernel_rfl) (by kernel_rfl) (door_met os _)) ?_
  · intro ds hl
    match ds, hl with
    | [_, _], _ => rfl
  intro W base args ds before hval0 hA0 hlt hsz0 hTab
  have hval : ∀ (j : Nat) t v, Tryd.f5.params[j]? = some t → args[j]? = some v → Value.okWide Tryd.prog W .any base t v := hval0
  have hA : DataW.TrodAll enc Tryd.prog W 0 (fun _ => true) true Tryd.f5.params.toList args.toList ds before := hA0
  have hsz : (DataW.weightsEach Tryd.prog Tryd.f5.params.toList ds).all (· ≤ reachBytes) = true := hsz0
  rw [Tryd.params5] at hA hval hsz
  obtain ⟨v0, vs0, d0, ds0, p0, q0, hargs, rfl, rfl, h0, r0⟩ := trodAll_cons hA
  obtain ⟨v1, vs1, d1, ds1, p1, q1, rfl, rfl, rfl, h1, r1⟩ := trodAll_cons r0
  obtain ⟨rfl, rfl, rfl⟩ := trodAll_nil r1
  obtain rfl : args = #[v0, v1] := by cases args; simp_all
  obtain ⟨A0, c0, l0, rfl, R0, k0, m0⟩ := open_sets Tryd.underlying22 Tryd.underlying35 Tryd.underlying33 (by kernel_rfl) (by kernel_rfl) (hval 0 22 v0 rfl rfl) h0 (fun x hx => hlt x (by simp [hx]))
  obtain ⟨A1, c1, l1, rfl, R1, k1, m1⟩ := open_sets Tryd.underlying22 Tryd.underlying35 Tryd.underlying33 (by kernel_rfl) (by kernel_rfl) (hval 1 22 v1 rfl rfl) h1 (fun x hx => hlt x (by simp [hx]))
  exact walk A0 A1 c0 c1 l0 l1 W R0 R1 hTab

theorem proved : Rows.PartMoreSaid :=
  OpenClaim.holds_of_wide 5 Tryd.f5 rfl rfl rfl rfl rfl rfl rfl ⟨rfl, rfl, rfl, rfl, rfl⟩ rfl rfl rfl rfl rfl (by kernel_rfl) Tryd.func5 (by kernel_rfl)
    (of_decide_eq_true (by kernel_rfl)) (by unfold Func.isWrapper; first | (rw [if_pos (by decide +kernel)]; kernel_rfl) | (rw [if_neg (by decide +kernel)]; exact ⟨rfl, rfl⟩))
    (fun os started H enc _ => lifted os started H enc)

theorem card_holds : Rows.PartMoreCardSaid :=
  Claim7.holds_tied_plain_at .later [] [.data] true (true, "14fc05cc31ad89d783556929966e31363f5189cb849098ee71a2d0d9500bcc45") false
    proved (fun _ h => by cases h) (by kernel_rfl) (fun _ h => by cases h) partMore_row_tie rfl ⟨rfl, rfl⟩ (by kernel_rfl) rfl
    (fun f fn hf hfn => by
      obtain rfl : f = 5 := Option.some.inj ((show Tryd.prog.funcNamed "whittle/whittlelaw02.PartMore" = some 5 by kernel_rfl).symm.trans hf) |>.symm
      obtain rfl : fn = Tryd.f5 := (Option.some.inj (Tryd.func5.symm.trans hfn)).symm
      exact ⟨by kernel_rfl, fun j t ht => by
        rw [Tryd.params5] at ht
        have hm : t ∈ [22, 22] := by simpa using Array.mem_of_getElem? ht
        have hall : ([22, 22].all fun u => !Tryd.prog.wantsStandIn u) = true := by kernel_rfl
        exact (show Tryd.prog.wantsStandIn t = false by simpa using List.all_eq_true.1 hall t hm)⟩)
    (by kernel_rfl)
#print axioms card_holds
end Go.Proofs.YtbjgkolldmplkaaDoor.PartMore
