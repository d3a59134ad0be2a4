/- The tied card of PartSets: it returns true for every input, and each argument reads behind the call as it did before. Conditions: the row's own (the table of math/bits reads as its initialiser laid it, tied to the program's text). -/
import Derived.Test.YtbjgkolldmplkaaDoorAwake2
import Derived.Test.YtbjgkolldmplkaaDoorLawSets
import Derived.Test.YtbjgkolldmplkaaDoorLawD
import Derived.Test.YtbjgkolldmplkaaDoorROver
import Derived.Test.YtbjgkolldmplkaaDoorRd
namespace Go.Proofs.YtbjgkolldmplkaaDoor.PartSets
open Go.ChangeShapes Go.WideShapes Go.ChangeAt Go.RowKit Go.Sort

theorem overR_len (b : Bool) (L : List (Nat → Bool)) (m : Nat → Bool) : (overR b L m).length ≤ L.length := by
  unfold overR
  split
  · exact overL_length _
  · simp

set_option maxRecDepth 100000 in
theorem walk_skip1 (m : Nat → Bool) (A A' : Option Addr) (n c n' c' : Nat) (w : World) (h : (300 : Int) < n) :
    Calls Tryd.prog 7 #[.slice A n c, .slice A' n' c', .agg #[.int .u64 ((word m 0 : Nat) : Int), .int .u64 ((word m 1 : Nat) : Int), .int .u64 ((word m 2 : Nat) : Int), .int .u64 ((word m 3 : Nat) : Int)]] w (Gives (.bool true) w) := by
  go_enter Tryd.func7, Tryd.ntmps7
  go_wp2
  go_ret
  exact ⟨rfl, (Below.refl _ _).alloc (Nat.le_refl _) _⟩

set_option maxRecDepth 100000 in
theorem walk_skip2 (m : Nat → Bool) (A A' : Option Addr) (n c n' c' : Nat) (w : World) (h : ¬ (300 : Int) < n) (h' : (30 : Int) < n') :
    Calls Tryd.prog 7 #[.slice A n c, .slice A' n' c', .agg #[.int .u64 ((word m 0 : Nat) : Int), .int .u64 ((word m 1 : Nat) : Int), .int .u64 ((word m 2 : Nat) : Int), .int .u64 ((word m 3 : Nat) : Int)]] w (Gives (.bool true) w) := by
  go_enter Tryd.func7, Tryd.ntmps7
  go_wp2
  go_ret
  exact ⟨rfl, (Below.refl _ _).alloc (Nat.le_refl _) _⟩

set_option maxRecDepth 100000 in
set_option maxHeartbeats 8000000 in
theorem walkOn (m : Nat → Bool) (n0 n rs rp r1 r2 : Nat) (VC VL VS VP V1 V2 : List Value) (es ep e1 e2 : Int) (A A' : Option Addr) (c c' : Nat) (w : World)
    (HC : Rd w 1 A n0 VC) (HL : Rd w 4 A' n VL) (h300 : ¬ (300 : Int) < n0) (h30 : ¬ (30 : Int) < n)
    (HS : ∀ W A c, Rd W 1 A n0 VC → Calls Tryd.prog 28 #[.slice A n0 c] W (GR 4 rs VS es W))
    (HRS : ∀ W A c, Rd W 1 A n0 VC → Calls Tryd.prog 29 #[.slice A n0 c] W (GR 4 rs VS es W))
    (HRP : ∀ W A c, Rd W 4 A n VL → Calls Tryd.prog 10 #[.slice A n c] W (GR 4 rp VP ep W))
    (HO1 : ∀ W A c, Below w.heap.size w W → Rd W 4 A rp VP → Calls Tryd.prog 30 #[.slice A rp c, .agg #[.int .u64 ((word m 0 : Nat) : Int), .int .u64 ((word m 1 : Nat) : Int), .int .u64 ((word m 2 : Nat) : Int), .int .u64 ((word m 3 : Nat) : Int)]] W (GR 1 r1 V1 e1 W))
    (HRO1 : ∀ W A c, Rd W 4 A rp VP → Calls Tryd.prog 31 #[.slice A rp c, .agg #[.int .u64 ((word m 0 : Nat) : Int), .int .u64 ((word m 1 : Nat) : Int), .int .u64 ((word m 2 : Nat) : Int), .int .u64 ((word m 3 : Nat) : Int)]] W (GR 1 r1 V1 e1 W))
    (HO2 : ∀ W A c, Below w.heap.size w W → Rd W 4 A n VL → Calls Tryd.prog 30 #[.slice A n c, .agg #[.int .u64 ((word m 0 : Nat) : Int), .int .u64 ((word m 1 : Nat) : Int), .int .u64 ((word m 2 : Nat) : Int), .int .u64 ((word m 3 : Nat) : Int)]] W (GR 1 r2 V2 e2 W))
    (HRO2 : ∀ W A c, Rd W 4 A n VL → Calls Tryd.prog 31 #[.slice A n c, .agg #[.int .u64 ((word m 0 : Nat) : Int), .int .u64 ((word m 1 : Nat) : Int), .int .u64 ((word m 2 : Nat) : Int), .int .u64 ((word m 3 : Nat) : Int)]] W (GR 1 r2 V2 e2 W))
    (HAW : ∀ W, Below w.heap.size w W → Calls Tryd.prog 13 #[] W (Gives (.bool true) W))
    (HSM : ∀ W A1 A2 c1 c2, Rd W 4 A1 rs VS → Rd W 4 A2 rs VS → Calls Tryd.prog 14 #[.slice A1 rs c1, .slice A2 rs c2] W (Gives (.bool true) W))
    (HI1 : ∀ W A1 A2 c1 c2, Rd W 1 A1 r1 V1 → Rd W 1 A2 r1 V1 → Calls Tryd.prog 15 #[.slice A1 r1 c1, .slice A2 r1 c2] W (Gives (.bool true) W))
    (HI2 : ∀ W A1 A2 c1 c2, Rd W 1 A1 r2 V2 → Rd W 1 A2 r2 V2 → Calls Tryd.prog 15 #[.slice A1 r2 c1, .slice A2 r2 c2] W (Gives (.bool true) W)) :
    Calls Tryd.prog 7 #[.slice A n0 c, .slice A' n c', .agg #[.int .u64 ((word m 0 : Nat) : Int), .int .u64 ((word m 1 : Nat) : Int), .int .u64 ((word m 2 : Nat) : Int), .int .u64 ((word m 3 : Nat) : Int)]] w (Gives (.bool true) w) := by
  have q1 := Lib.hid HS
  have q2 := Lib.hid HRS
  have q3 := Lib.hid HRP
  have q4 := Lib.hid HO1
  have q5 := Lib.hid HRO1
  have q6 := Lib.hid HO2
  have q7 := Lib.hid HRO2
  have q8 := Lib.hid HAW
  have q9 := Lib.hid HSM
  have q10 := Lib.hid HI1
  have q11 := Lib.hid HI2
  clear HS HRS HRP HO1 HRO1 HO2 HRO2 HAW HSM HI1 HI2
  have hbs := new_blk w m 35
  have L0 : Below w.heap.size w (w.alloc (.cells #[.int .u64 ((word m 0 : Nat) : Int), .int .u64 ((word m 1 : Nat) : Int), .int .u64 ((word m 2 : Nat) : Int), .int .u64 ((word m 3 : Nat) : Int)] 35)) := (Below.refl _ _).alloc (Nat.le_refl _) _
  replace HC := HC.next L0
  replace HL := HL.next L0
  go_enter Tryd.func7, Tryd.ntmps7
  go_wp2_with fail
  refine (q1.out _ _ _ HC).mono ?_
  rintro e w1 ⟨A1, c1, rfl, HX1, HB⟩
  replace L0 := below_then L0 HB
  replace HC := HC.next HB
  replace HL := HL.next HB
  replace hbs := hbs.below HB hbs.lt
  clear HB
  go_wp2_with fail
  refine (q2.out _ _ _ HC).mono ?_
  rintro e w2 ⟨A2, c2, rfl, HX2, HB⟩
  replace L0 := below_then L0 HB
  replace HL := HL.next HB
  replace HX1 := HX1.next HB
  replace hbs := hbs.below HB hbs.lt
  clear HB HC
  go_wp2_with fail
  refine (q3.out _ _ _ HL).mono ?_
  rintro e w3 ⟨A3, c3, rfl, HP, HB⟩
  replace L0 := below_then L0 HB
  replace HL := HL.next HB
  replace HX1 := HX1.next HB
  replace HX2 := HX2.next HB
  replace hbs := hbs.below HB hbs.lt
  clear HB
  obtain ⟨d0, d1, d2, d3⟩ := hbs.cells4
  go_wp2_with fail
  refine (q4.out _ _ _ L0 HP).mono ?_
  rintro e w4 ⟨A4, c4, rfl, HY1, HB⟩
  clear d0 d1 d2 d3
  replace L0 := below_then L0 HB
  replace HL := HL.next HB
  replace HX1 := HX1.next HB
  replace HX2 := HX2.next HB
  replace HP := HP.next HB
  replace hbs := hbs.below HB hbs.lt
  clear HB
  obtain ⟨d0, d1, d2, d3⟩ := hbs.cells4
  go_wp2_with fail
  refine (q5.out _ _ _ HP).mono ?_
  rintro e w5 ⟨A5, c5, rfl, HY2, HB⟩
  clear d0 d1 d2 d3 HP
  replace L0 := below_then L0 HB
  replace HL := HL.next HB
  replace HX1 := HX1.next HB
  replace HX2 := HX2.next HB
  replace HY1 := HY1.next HB
  replace hbs := hbs.below HB hbs.lt
  clear HB
  obtain ⟨d0, d1, d2, d3⟩ := hbs.cells4
  go_wp2_with fail
  refine (q6.out _ _ _ L0 HL).mono ?_
  rintro e w6 ⟨A6, c6, rfl, HZ1, HB⟩
  clear d0 d1 d2 d3
  replace L0 := below_then L0 HB
  replace HL := HL.next HB
  replace HX1 := HX1.next HB
  replace HX2 := HX2.next HB
  replace HY1 := HY1.next HB
  replace HY2 := HY2.next HB
  replace hbs := hbs.below HB hbs.lt
  clear HB
  obtain ⟨d0, d1, d2, d3⟩ := hbs.cells4
  go_wp2_with fail
  refine (q7.out _ _ _ HL).mono ?_
  rintro e w7 ⟨A7, c7, rfl, HZ2, HB⟩
  clear d0 d1 d2 d3 HL
  replace L0 := below_then L0 HB
  replace HX1 := HX1.next HB
  replace HX2 := HX2.next HB
  replace HY1 := HY1.next HB
  replace HY2 := HY2.next HB
  replace HZ1 := HZ1.next HB
  clear HB hbs
  go_wp2_with fail
  refine (q8.out _ L0).mono ?_
  rintro e w8 ⟨rfl, HB⟩
  replace L0 := below_then L0 HB
  replace HX1 := HX1.next HB
  replace HX2 := HX2.next HB
  replace HY1 := HY1.next HB
  replace HY2 := HY2.next HB
  replace HZ1 := HZ1.next HB
  replace HZ2 := HZ2.next HB
  clear HB
  go_wp2_with fail
  refine (q9.out _ _ _ _ _ HX1 HX2).mono ?_
  rintro e w9 ⟨rfl, HB⟩
  clear HX1 HX2
  replace L0 := below_then L0 HB
  replace HY1 := HY1.next HB
  replace HY2 := HY2.next HB
  replace HZ1 := HZ1.next HB
  replace HZ2 := HZ2.next HB
  clear HB
  go_wp2_with fail
  refine (q10.out _ _ _ _ _ HY1 HY2).mono ?_
  rintro e w10 ⟨rfl, HB⟩
  clear HY1 HY2
  replace L0 := below_then L0 HB
  replace HZ1 := HZ1.next HB
  replace HZ2 := HZ2.next HB
  clear HB
  go_wp2_with fail
  refine (q11.out _ _ _ _ _ HZ1 HZ2).mono ?_
  rintro e w11 ⟨rfl, HB⟩
  clear HZ1 HZ2
  replace L0 := below_then L0 HB
  clear q1 q2 q3 q4 q5 q6 q7 q8 q9 q10 q11 HB
  go_wp2
  go_ret
  exact ⟨rfl, L0⟩

theorem walk (A A' : Option Addr) (c c' : Nat) (C : List Int) (L : List (Nat → Bool)) (m : Nat → Bool) (w : World) (HC : Reads w w.heap.size 1 A C.length (intVals C)) (HL : Reads w w.heap.size 4 A' L.length (setVals L)) (hT : TabD w) :
    Calls Tryd.prog 7 #[.slice A C.length c, .slice A' L.length c', .agg #[.int .u64 ((word m 0 : Nat) : Int), .int .u64 ((word m 1 : Nat) : Int), .int .u64 ((word m 2 : Nat) : Int), .int .u64 ((word m 3 : Nat) : Int)]] w (Gives (.bool true) w) := by
  by_cases h300 : (300 : Int) < (C.length : Int)
  · exact walk_skip1 m A A' _ c _ c' w h300
  by_cases h30 : (30 : Int) < (L.length : Int)
  · exact walk_skip2 m A A' _ c _ c' w h300 h30
  have hP := parts_len (keyL L)
  refine walkOn m C.length L.length (setsR C C.length).length (partN (cl (keyL L)) 256).length (overR (classB (partN (cl (keyL L)) 256)) (partN (cl (keyL L)) 256) m).length (overR (classB L) L m).length
    (intVals C) (setVals L) (setVals (setsR C C.length)) (setVals (partN (cl (keyL L)) 256)) (intVals (overR (classB (partN (cl (keyL L)) 256)) (partN (cl (keyL L)) 256) m)) (intVals (overR (classB L) L m))
    (setsE C C.length) 0 (overE (classB (partN (cl (keyL L)) 256)) (partN (cl (keyL L)) 256) m) (overE (classB L) L m) A A' c c' w HC HL h300 h30 ?_ ?_ ?_ ?_ ?_ ?_ ?_ ?_ ?_ ?_ ?_
  · exact fun W A c h => (sets_any C A _ c _ W h (Nat.le_refl _)).mono fun _ _ h => gr_sets h
  · exact fun W A c h => (rsets_any C A _ c _ W h (Nat.le_refl _)).mono fun _ _ h => gr_sets h
  · exact fun W A c h => (rparts_any L A _ c _ W h (Nat.le_refl _) (by omega)).mono fun _ _ h => gr_sets h
  · exact fun W A c hW h => (over_any _ m A _ c _ W h (Nat.le_refl _) (by omega) fun W' h' => hT.below (below_then hW h')).mono fun _ _ h => gr_ints h
  · exact fun W A c h => (rover_any _ m A _ c _ W h (Nat.le_refl _) (by omega)).mono fun _ _ h => gr_ints h
  · exact fun W A c hW h => (over_any L m A _ c _ W h (Nat.le_refl _) (by omega) fun W' h' => hT.below (below_then hW h')).mono fun _ _ h => gr_ints h
  · exact fun W A c h => (rover_any L m A _ c _ W h (Nat.le_refl _) (by omega)).mono fun _ _ h => gr_ints h
  · exact fun W hW => awake2_any W fun W' h' => hT.below (below_then hW h')
  · exact fun W A1 A2 c1 c2 h1 h2 => same_any _ A1 A2 _ c1 c2 _ W h1 h2 (Nat.le_refl _) (by have := setsR_len C C.length; omega)
  · exact fun W A1 A2 c1 c2 h1 h2 => ints_any _ A1 A2 _ c1 c2 _ W h1 h2 (Nat.le_refl _) (by have := overR_len (classB (partN (cl (keyL L)) 256)) (partN (cl (keyL L)) 256) m; omega)
  · exact fun W A1 A2 c1 c2 h1 h2 => ints_any _ A1 A2 _ c1 c2 _ W h1 h2 (Nat.le_refl _) (by have := overR_len (classB L) L m; omega)

set_option maxRecDepth 100000 in
theorem lifted (os : Os) (started : os.Started) (H : Type) (enc : TypeId × Value → H) :
    ReturnsInHanded {} Tryd.checked os 7 .any (fun w args => (Rows.partSetsSpec.pre enc Tryd.prog Tryd.f7 [] false w args ∧ laidMetH Tryd.prog laidL w) ∧ sizedMet enc Tryd.prog Tryd.f7 (OpenSpec.ofChange Rows.partSetsSpec) false w args) (Rows.partSetsSpec.post enc Tryd.prog Tryd.f7 false true false false) := by
  refine law_lifted_laid (tb := 4) started (by kernel_rfl) Tryd.func7 rfl ?_ rfl Tryd.underlying4 (by kernel_rfl)
    (ChangeSpec.witness_shaped (enc := enc) (C := Tryd.checked) (os := os) (X := fun w _ => laidMetH Tryd.prog laidL w) false (World.doorLaid Tryd.prog 14 os) #[.slice none 0 0, .slice none 0 0, .agg #[.int .u64 0, .int .u64 0, .int .u64 0, .int .u64 0]] 8 rfl (World.shaped_of_RefB (by kernel_rfl) (by kernel_rfl)) (by kernel_rfl) (by kernel_rfl) (by kernel_rfl) (door_met os _)) ?_
  · intro ds hl
    match ds, hl with
    | [_, _, _], _ => rfl
  intro W base args ds before hval0 hA0 hlt hsz0 hTab
  have hval : ∀ (j : Nat) t v, Tryd.f7.params[j]? = some t → args[j]? = some v → Value.okWide Tryd.prog W .any base t v := hval0
  have hA : DataW.TrodAll enc Tryd.prog W 0 (fun _ => true) true Tryd.f7.params.toList args.toList ds before := hA0
  have hsz : (DataW.weightsEach Tryd.prog Tryd.f7.params.toList ds).all (· ≤ reachBytes) = true := hsz0
  rw [Tryd.params7] at hA hval hsz
  obtain ⟨v0, vs0, d0, ds0, p0, q0, hargs, rfl, rfl, h0, r0⟩ := trodAll_cons hA
  obtain ⟨v1, vs1, d1, ds1, p1, q1, rfl, rfl, rfl, h1, r1⟩ := trodAll_cons r0
  obtain ⟨v2, vs2, d2, ds2, p2, q2, rfl, rfl, rfl, h2, r2⟩ := trodAll_cons r1
  obtain ⟨rfl, rfl, rfl⟩ := trodAll_nil r2
  obtain rfl : args = #[v0, v1, v2] := by cases args; simp_all
  obtain ⟨A0, c0, l0, rfl, R0, k0, m0⟩ := open_nums Tryd.underlying26 Tryd.underlying3 (by kernel_rfl) (hval 0 26 v0 rfl rfl) h0 (fun x hx => hlt x (by simp [hx]))
  obtain ⟨A1, c1, l1, rfl, R1, k1, m1⟩ := open_sets Tryd.underlying22 Tryd.underlying35 Tryd.underlying33 (by kernel_rfl) (by kernel_rfl) (hval 1 22 v1 rfl rfl) h1 (fun x hx => hlt x (by simp [hx]))
  obtain ⟨a2, rfl⟩ := open_set Tryd.underlying35 Tryd.underlying33 (by kernel_rfl) (by kernel_rfl) (hval 2 35 v2 rfl rfl) h2
  exact walk A0 A1 c0 c1 l0 l1 a2 W R0 R1 hTab

theorem proved : Rows.PartSetsSaid :=
  OpenClaim.holds_of_wide 7 Tryd.f7 rfl rfl rfl rfl rfl rfl rfl ⟨rfl, rfl, rfl, rfl, rfl⟩ rfl rfl rfl rfl rfl (by kernel_rfl) Tryd.func7 (by kernel_rfl)
    (of_decide_eq_true (by kernel_rfl)) (by unfold Func.isWrapper; first | (rw [if_pos (by decide +kernel)]; kernel_rfl) | (rw [if_neg (by decide +kernel)]; exact ⟨rfl, rfl⟩))
    (fun os started H enc _ => lifted os started H enc)

theorem card_holds : Rows.PartSetsCardSaid :=
  Claim7.holds_tied_plain_at .later [] [.data] true (true, "14fc05cc31ad89d783556929966e31363f5189cb849098ee71a2d0d9500bcc45") false
    proved (fun _ h => by cases h) (by kernel_rfl) (fun _ h => by cases h) partSets_row_tie rfl ⟨rfl, rfl⟩ (by kernel_rfl) rfl
    (fun f fn hf hfn => by
      obtain rfl : f = 7 := Option.some.inj ((show Tryd.prog.funcNamed "whittle/whittlelaw02.PartSets" = some 7 by kernel_rfl).symm.trans hf) |>.symm
      obtain rfl : fn = Tryd.f7 := (Option.some.inj (Tryd.func7.symm.trans hfn)).symm
      exact ⟨by kernel_rfl, fun j t ht => by
        rw [Tryd.params7] at ht
        have hm : t ∈ [26, 22, 35] := by simpa using Array.mem_of_getElem? ht
        have hall : ([26, 22, 35].all fun u => !Tryd.prog.wantsStandIn u) = true := by kernel_rfl
        exact (show Tryd.prog.wantsStandIn t = false by simpa using List.all_eq_true.1 hall t hm)⟩)
    (by kernel_rfl)
#print axioms card_holds
end Go.Proofs.YtbjgkolldmplkaaDoor.PartSets
