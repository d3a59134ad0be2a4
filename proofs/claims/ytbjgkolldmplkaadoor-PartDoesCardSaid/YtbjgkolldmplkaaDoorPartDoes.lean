/- The tied card of PartDoes: it returns true for every input, and each argument reads behind the call as it did before. Conditions: the row's own (the table of math/bits reads as its initialiser laid it, tied to the program's text). -/
import Derived.Test.YtbjgkolldmplkaaDoorAwake2
import Derived.Test.YtbjgkolldmplkaaDoorLawSets
import Derived.Test.YtbjgkolldmplkaaDoorLawD
namespace Go.Proofs.YtbjgkolldmplkaaDoor.PartDoes
open Go.ChangeShapes Go.WideShapes Go.ChangeAt Go.RowKit Go.Sort

theorem setVals_one (L : List (Nat → Bool)) : ∀ u ∈ setVals L, u.oneCell' = true := fun u hu => by
  obtain ⟨q, hq, rfl⟩ := List.mem_iff_getElem.1 hu
  obtain ⟨_, e⟩ := setVals_at L q _ (List.getElem?_eq_getElem hq)
  rw [e]
  rfl

theorem classR_len (L : List (Nat → Bool)) : (classR L).length ≤ 256 := by
  unfold classR
  split <;> simp

set_option maxRecDepth 100000 in
theorem walk_skip1 (A : Option Addr) (n c : Nat) (w : World) (h : (40 : Int) < n) (h2 : (n : Int) ≤ 1024) :
    Calls Tryd.prog 3 #[.slice A n c] w (Gives (.bool true) w) := by
  go_enter Tryd.func3, Tryd.ntmps3
  go_wp2
  go_ret
  exact ⟨rfl, Below.refl _ _⟩

set_option maxRecDepth 100000 in
theorem walk_skip2 (A : Option Addr) (n c : Nat) (w : World) (h : (1100 : Int) < n) :
    Calls Tryd.prog 3 #[.slice A n c] w (Gives (.bool true) w) := by
  have h1 : (40 : Int) < n := by omega
  have h2 : ¬ (n : Int) ≤ 1024 := by omega
  go_enter Tryd.func3, Tryd.ntmps3
  go_wp2
  go_ret
  exact ⟨rfl, Below.refl _ _⟩

set_option maxRecDepth 100000 in
set_option maxHeartbeats 8000000 in
theorem walkOn (b40 b1024 : Bool) (L R : List (Nat → Bool)) (C : List Int) (er ec : Int) (A : Option Addr) (n c : Nat) (w : World) (HR : Reads w w.heap.size 4 A n (setVals L)) (h40 : decide ((40 : Int) < n) = b40) (h1024 : decide ((n : Int) ≤ 1024) = b1024) (hsk : (b40 && b1024) = false) (h1100 : ¬ (1100 : Int) < n)
    (hR : R.length ≤ 256) (hC : C.length ≤ 256)
    (HP : ∀ W A' c', Reads W W.heap.size 4 A' n (setVals L) → Calls Tryd.prog 9 #[.slice A' n c'] W (GSets R er W))
    (HRP : ∀ W A' c', Reads W W.heap.size 4 A' n (setVals L) → Calls Tryd.prog 10 #[.slice A' n c'] W (GSets R er W))
    (HCL : ∀ W A' c', Below w.heap.size w W → Reads W W.heap.size 4 A' n (setVals L) → Calls Tryd.prog 11 #[.slice A' n c'] W (GInts C ec W))
    (HRC : ∀ W A' c', Reads W W.heap.size 4 A' n (setVals L) → Calls Tryd.prog 12 #[.slice A' n c'] W (GInts C ec W))
    (HAW : ∀ W, Below w.heap.size w W → Calls Tryd.prog 13 #[] W (Gives (.bool true) W)) :
    Calls Tryd.prog 3 #[.slice A n c] w (Gives (.bool true) w) := by
  obtain ⟨i0, hi0, hz0, hz1, hz2⟩ := info_parts sets_info
  have HS1 := fun (W : World) (A1 A2 : Option Addr) (c1 c2 : Nat) (h1 : Reads W W.heap.size 4 A1 R.length (setVals R)) (h2 : Reads W W.heap.size 4 A2 R.length (setVals R)) => same_any R A1 A2 R.length c1 c2 _ W h1 h2 (Nat.le_refl _) (by omega)
  have HS2 := fun (W : World) (A1 A2 : Option Addr) (c1 c2 : Nat) (h1 : Reads W W.heap.size 4 A1 n (setVals L)) (h2 : Reads W W.heap.size 4 A2 n (setVals L)) => same_any L A1 A2 n c1 c2 _ W h1 h2 (Nat.le_refl _) (by omega)
  have HI := fun (W : World) (A1 A2 : Option Addr) (c1 c2 : Nat) (h1 : Reads W W.heap.size 1 A1 C.length (intVals C)) (h2 : Reads W W.heap.size 1 A2 C.length (intVals C)) => ints_any C A1 A2 C.length c1 c2 _ W h1 h2 (Nat.le_refl _) (by omega)
  generalize hrn : R.length = rn at *
  generalize hcn : C.length = cn at *
  have HV1 := setVals_one L
  have hGS : ∀ W W' e, GSets R er W e W' → ∃ A' c', e = .returned (.tuple #[.slice A' rn c', .int .i64 er]) ∧ Reads W' W'.heap.size 4 A' rn (setVals R) ∧ Below W.heap.size W W' := fun W W' e h => by
    obtain ⟨A', c', h1, h2, _, _, h5⟩ := h
    rw [hrn] at h1 h2
    exact ⟨A', c', h1, h2, h5⟩
  have hGI : ∀ W W' e, GInts C ec W e W' → ∃ A' c', e = .returned (.tuple #[.slice A' cn c', .int .i64 ec]) ∧ Reads W' W'.heap.size 1 A' cn (intVals C) ∧ Below W.heap.size W W' := fun W W' e h => by
    obtain ⟨A', c', h1, h2, _, _, h5⟩ := h
    rw [hcn] at h1 h2
    exact ⟨A', c', h1, h2, h5⟩
  clear hrn hcn hR hC
  generalize setVals L = VL at *
  have q1 := Lib.hid HP
  have q2 := Lib.hid HRP
  have q3 := Lib.hid HCL
  have q4 := Lib.hid HRC
  have q5 := Lib.hid HAW
  have q6 := Lib.hid HS1
  have q7 := Lib.hid HS2
  have q8 := Lib.hid HI
  have q9 := Lib.hid hGS
  have q10 := Lib.hid hGI
  have q11 := Lib.hid HV1
  clear HP HRP HCL HRC HAW HS1 HS2 HI hGS hGI HV1
  go_enter Tryd.func3, Tryd.ntmps3
  cases b40 <;> cases b1024 <;> first | (exact absurd hsk (by decide)) | skip
  all_goals
    clear hsk
    go_wp2_with (at_builtin
                 refine wpList_append_any _ rfl (.tmp 25) (.tmp 26) _ rfl w.heap.size 35 i0 _ 4 32 Tryd.underlying22 hi0 hz0 hz1 hz2 rfl (by omega) (.slice none 0 0) 0 [] rfl
                   ⟨rfl, .inl ⟨rfl, rfl⟩⟩ _ _ n c VL rfl HR q11.out (by simp only [maxLen]; omega) (by omega) (Nat.le_refl _) ?_
                 intro v1 w1 hown hg1 hat1
                 have L1 : Below w.heap.size w w1 := (Below.refl _ w).grown hg1 (Nat.le_refl _) (by intro g hg; simp [Value.ownBlock] at hg)
                 rw [Nat.zero_add, List.nil_append] at hown
                 obtain ⟨A1, c1, rfl, HO1, _, _⟩ := own_reads hown)
    clear hown hg1 hat1 q11
    go_wp2_with fail
    refine (q1.out _ _ _ HO1).mono ?_
    intro e w2 hE
    obtain ⟨A2, c2, rfl, HR2, HB2⟩ := q9.out _ _ _ hE
    clear hE
    have L2 := L1.trans (HB2.mono L1.size)
    have HO2 := (HO1.below HB2).more HB2.size
    clear L1 HB2 HO1
    go_wp2_with fail
    refine (q2.out _ _ _ ((HR.below L2).more L2.size)).mono ?_
    intro e w3 hE
    obtain ⟨A3, c3, rfl, HR3, HB3⟩ := q9.out _ _ _ hE
    clear hE
    have L3 := L2.trans (HB3.mono L2.size)
    have HO3 := (HO2.below HB3).more HB3.size
    have HX3 := (HR2.below HB3).more HB3.size
    clear L2 HB3 HO2 HR2
    go_wp2_with fail
    refine (q3.out _ _ _ L3 HO3).mono ?_
    intro e w4 hE
    obtain ⟨A4, c4, rfl, HR4, HB4⟩ := q10.out _ _ _ hE
    clear hE
    have L4 := L3.trans (HB4.mono L3.size)
    have HO4 := (HO3.below HB4).more HB4.size
    have HX4 := (HX3.below HB4).more HB4.size
    have HY4 := (HR3.below HB4).more HB4.size
    clear L3 HB4 HO3 HR3 HX3
    go_wp2_with fail
    refine (q4.out _ _ _ ((HR.below L4).more L4.size)).mono ?_
    intro e w5 hE
    obtain ⟨A5, c5, rfl, HR5, HB5⟩ := q10.out _ _ _ hE
    clear hE
    have L5 := L4.trans (HB5.mono L4.size)
    have HO5 := (HO4.below HB5).more HB5.size
    have HX5 := (HX4.below HB5).more HB5.size
    have HY5 := (HY4.below HB5).more HB5.size
    have HZ5 := (HR4.below HB5).more HB5.size
    clear L4 HB5 HO4 HX4 HY4 HR4
    go_wp2_with fail
    refine (q5.out _ L5).mono ?_
    rintro e w6 ⟨rfl, HB6⟩
    have L6 := L5.trans (HB6.mono L5.size)
    have HO6 := (HO5.below HB6).more HB6.size
    have HX6 := (HX5.below HB6).more HB6.size
    have HY6 := (HY5.below HB6).more HB6.size
    have HZ6 := (HZ5.below HB6).more HB6.size
    have HU6 := (HR5.below HB6).more HB6.size
    clear L5 HB6 HO5 HX5 HY5 HZ5 HR5
    go_wp2_with fail
    refine (q6.out _ _ _ _ _ HX6 HY6).mono ?_
    rintro e w7 ⟨rfl, HB7⟩
    have L7 := L6.trans (HB7.mono L6.size)
    have HO7 := (HO6.below HB7).more HB7.size
    have HZ7 := (HZ6.below HB7).more HB7.size
    have HU7 := (HU6.below HB7).more HB7.size
    clear L6 HB7 HO6 HX6 HY6 HZ6 HU6
    go_wp2_with fail
    refine (q8.out _ _ _ _ _ HZ7 HU7).mono ?_
    rintro e w8 ⟨rfl, HB8⟩
    have L8 := L7.trans (HB8.mono L7.size)
    have HO8 := (HO7.below HB8).more HB8.size
    clear L7 HB8 HO7 HZ7 HU7
    go_wp2_with fail
    refine (q7.out _ _ _ _ _ HO8 ((HR.below L8).more L8.size)).mono ?_
    rintro e w9 ⟨rfl, HB9⟩
    have L9 := L8.trans (HB9.mono L8.size)
    clear q1 q2 q3 q4 q5 q6 q7 q8 q9 q10 HO8 HR L8 HB9
    go_wp2
    go_ret
    exact ⟨rfl, L9⟩

theorem walk (A : Option Addr) (c : Nat) (L : List (Nat → Bool)) (w : World) (HR : Reads w w.heap.size 4 A L.length (setVals L)) (hT : TabD w) :
    Calls Tryd.prog 3 #[.slice A L.length c] w (Gives (.bool true) w) := by
  by_cases h1100 : (1100 : Int) < (L.length : Int)
  · exact walk_skip2 A _ c w h1100
  by_cases h40 : (40 : Int) < (L.length : Int)
  · by_cases h1024 : (L.length : Int) ≤ 1024
    · exact walk_skip1 A _ c w h40 h1024
    · refine walkOn true false L [] (classR L) 2 (classE L) A L.length c w HR (by simp; omega) (by simp; omega) rfl h1100 (by simp) ?_ ?_ ?_ ?_ ?_ ?_
      · exact classR_len L
      · exact fun W A' c' h => parts_long A' _ c' W (by omega)
      · exact fun W A' c' h => rparts_long A' _ c' W (by omega)
      · exact fun W A' c' hW h => class_any L A' _ c' _ W h (Nat.le_refl _) (by simp only [maxLen]; omega) fun W' h' => hT.below (hW.trans (h'.mono hW.size))
      · exact fun W A' c' h => rclass_any L A' _ c' _ W h (Nat.le_refl _) (by omega)
      · exact fun W hW => awake2_any W fun W' h' => hT.below (hW.trans (h'.mono hW.size))
  · refine walkOn false true L (partN (cl (keyL L)) 256) (classR L) 0 (classE L) A L.length c w HR (by simp; omega) (by simp; omega) rfl h1100 ?_ ?_ ?_ ?_ ?_ ?_ ?_
    · rw [partN_length]
      exact nxN_le 256 (cl_rgs _ _)
    · exact classR_len L
    · exact fun W A' c' h => parts_any L A' _ c' _ W h (Nat.le_refl _) (by omega)
    · exact fun W A' c' h => rparts_any L A' _ c' _ W h (Nat.le_refl _) (by omega)
    · exact fun W A' c' hW h => class_any L A' _ c' _ W h (Nat.le_refl _) (by simp only [maxLen]; omega) fun W' h' => hT.below (hW.trans (h'.mono hW.size))
    · exact fun W A' c' h => rclass_any L A' _ c' _ W h (Nat.le_refl _) (by omega)
    · exact fun W hW => awake2_any W fun W' h' => hT.below (hW.trans (h'.mono hW.size))

set_option maxRecDepth 100000 in
theorem lifted (os : Os) (started : os.Started) (H : Type) (enc : TypeId × Value → H) :
    ReturnsInHanded {} Tryd.checked os 3 .any (fun w args => (Rows.partDoesSpec.pre enc Tryd.prog Tryd.f3 [] false w args ∧ laidMetH Tryd.prog laidL w) ∧ sizedMet enc Tryd.prog Tryd.f3 (OpenSpec.ofChange Rows.partDoesSpec) false w args) (Rows.partDoesSpec.post enc Tryd.prog Tryd.f3 false true false false) := by
  refine law_lifted_laid (tb := 4) started (by kernel_rfl) Tryd.func3 rfl ?_ rfl Tryd.underlying4 (by kernel_rfl)
    (ChangeSpec.witness_shaped (enc := enc) (C := Tryd.checked) (os := os) (X := fun w _ => laidMetH Tryd.prog laidL w) false (World.doorLaid Tryd.prog 14 os) #[.slice none 0 0] 8 rfl (World.shaped_of_RefB (by kernel_rfl) (by kernel_rfl)) (by kernel_rfl) (by kernel_rfl) (by kernel_rfl) (door_met os _)) ?_
  · intro ds hl
    match ds, hl with
    | [_], _ => rfl
  intro W base args ds before hval0 hA0 hlt hsz0 hTab
  have hval : ∀ (j : Nat) t v, Tryd.f3.params[j]? = some t → args[j]? = some v → Value.okWide Tryd.prog W .any base t v := hval0
  have hA : DataW.TrodAll enc Tryd.prog W 0 (fun _ => true) true Tryd.f3.params.toList args.toList ds before := hA0
  have hsz : (DataW.weightsEach Tryd.prog Tryd.f3.params.toList ds).all (· ≤ reachBytes) = true := hsz0
  rw [Tryd.params3] at hA hval hsz
  obtain ⟨v0, vs0, d0, ds0, p0, q0, hargs, rfl, rfl, h0, r0⟩ := trodAll_cons hA
  obtain ⟨rfl, rfl, rfl⟩ := trodAll_nil r0
  obtain rfl : args = #[v0] := by cases args; simp_all
  obtain ⟨A0, c0, l0, rfl, R0, k0, m0⟩ := open_sets Tryd.underlying22 Tryd.underlying35 Tryd.underlying33 (by kernel_rfl) (by kernel_rfl) (hval 0 22 v0 rfl rfl) h0 (fun x hx => hlt x (by simp [hx]))
  exact walk A0 c0 l0 W R0 hTab

theorem proved : Rows.PartDoesSaid :=
  OpenClaim.holds_of_wide 3 Tryd.f3 rfl rfl rfl rfl rfl rfl rfl ⟨rfl, rfl, rfl, rfl, rfl⟩ rfl rfl rfl rfl rfl (by kernel_rfl) Tryd.func3 (by kernel_rfl)
    (of_decide_eq_true (by kernel_rfl)) (by unfold Func.isWrapper; first | (rw [if_pos (by decide +kernel)]; kernel_rfl) | (rw [if_neg (by decide +kernel)]; exact ⟨rfl, rfl⟩))
    (fun os started H enc _ => lifted os started H enc)

theorem card_holds : Rows.PartDoesCardSaid :=
  Claim7.holds_tied_plain_at .later [] [.data] true (true, "14fc05cc31ad89d783556929966e31363f5189cb849098ee71a2d0d9500bcc45") false
    proved (fun _ h => by cases h) (by kernel_rfl) (fun _ h => by cases h) partDoes_row_tie rfl ⟨rfl, rfl⟩ (by kernel_rfl) rfl
    (fun f fn hf hfn => by
      obtain rfl : f = 3 := Option.some.inj ((show Tryd.prog.funcNamed "whittle/whittlelaw02.PartDoes" = some 3 by kernel_rfl).symm.trans hf) |>.symm
      obtain rfl : fn = Tryd.f3 := (Option.some.inj (Tryd.func3.symm.trans hfn)).symm
      exact ⟨by kernel_rfl, fun j t ht => by
        rw [Tryd.params3] at ht
        have hm : t ∈ [22] := by simpa using Array.mem_of_getElem? ht
        have hall : ([22].all fun u => !Tryd.prog.wantsStandIn u) = true := by kernel_rfl
        exact (show Tryd.prog.wantsStandIn t = false by simpa using List.all_eq_true.1 hall t hm)⟩)
    (by kernel_rfl)
#print axioms card_holds
end Go.Proofs.YtbjgkolldmplkaaDoor.PartDoes
