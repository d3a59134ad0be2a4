/- The tied card of PartBack: it returns true for every input, and each argument reads behind the call as it did before. Conditions: the row's own (the table of math/bits reads as its initialiser laid it, tied to the program's text). -/
import Derived.Test.YtbjgkolldmplkaaDoorAwake2
import Derived.Test.YtbjgkolldmplkaaDoorLawSets
import Derived.Test.YtbjgkolldmplkaaDoorLawD
import Derived.Test.YtbjgkolldmplkaaDoorRd
import Derived.Test.YtbjgkolldmplkaaDoorPartBackP
import Derived.Test.YtbjgkolldmplkaaDoorHold
namespace Go.Proofs.YtbjgkolldmplkaaDoor.PartBack
open Go.ChangeShapes Go.WideShapes Go.ChangeAt Go.RowKit Go.Sort

set_option maxRecDepth 100000 in
theorem walk_skip1 (A A' : Option Addr) (n c n' c' : Nat) (w : World) (h : (30 : Int) < n) :
    Calls Tryd.prog 8 #[.slice A n c, .slice A' n' c'] w (Gives (.bool true) w) := by
  go_enter Tryd.func8, Tryd.ntmps8
  go_wp2
  go_ret
  exact ⟨rfl, Below.refl _ _⟩

set_option maxRecDepth 100000 in
theorem walk_skip2 (A A' : Option Addr) (n c n' c' : Nat) (w : World) (h : ¬ (30 : Int) < n) (h' : (300 : Int) < n') :
    Calls Tryd.prog 8 #[.slice A n c, .slice A' n' c'] w (Gives (.bool true) w) := by
  go_enter Tryd.func8, Tryd.ntmps8
  go_wp2
  go_ret
  exact ⟨rfl, Below.refl _ _⟩

theorem take_snocI (l : List Int) (k : Nat) (h : k < l.length) : l.take (k + 1) = l.take k ++ [l.getD k 0] := by
  rw [List.take_succ_eq_append_getElem h, List.getD_eq_getElem?_getD, List.getElem?_eq_getElem h, Option.getD_some]

theorem none_cells : (#[.int .u64 0, .int .u64 0, .int .u64 0, .int .u64 0] : Array Value) = sCells sNone := (sCells_none sNone fun _ => rfl).symm

set_option maxRecDepth 100000 in
set_option maxHeartbeats 8000000 in
theorem walkOn (L P : List (Nat → Bool)) (n nc rp : Nat) (VC VK : List Value) (A A' : Option Addr) (c c' : Nat) (w : World)
    (HL : Rd w 4 A n (setVals L)) (HK : Rd w 1 A' nc VK) (h1 : ¬ (30 : Int) < n) (h2 : ¬ (300 : Int) < nc) (hrp : rp ≤ 256)
    (HP : ∀ W A c, Rd W 4 A n (setVals L) → Calls Tryd.prog 9 #[.slice A n c] W (GR 4 rp (setVals P) 0 W))
    (HC : ∀ W A c, Below w.heap.size w W → Rd W 4 A rp (setVals P) → Calls Tryd.prog 11 #[.slice A rp c] W (GR 1 256 VC 0 W))
    (HS : ∀ W A c, Rd W 1 A 256 VC → Calls Tryd.prog 28 #[.slice A 256 c] W (GR 4 rp (setVals P) 0 W))
    (HSM : ∀ W A1 A2 c1 c2, Rd W 4 A1 rp (setVals P) → Rd W 4 A2 rp (setVals P) → Calls Tryd.prog 14 #[.slice A1 rp c1, .slice A2 rp c2] W (Gives (.bool true) W))
    (HO : ∀ i, i < n → (∀ W A c, Below w.heap.size w W → Rd W 4 A rp (setVals P) → Calls Tryd.prog 30 #[.slice A rp c, .agg #[.int .u64 ((word ((L.getD i sNone)) 0 : Nat) : Int), .int .u64 ((word ((L.getD i sNone)) 1 : Nat) : Int), .int .u64 ((word ((L.getD i sNone)) 2 : Nat) : Int), .int .u64 ((word ((L.getD i sNone)) 3 : Nat) : Int)]] W (GR 1 (overL P (L.getD i sNone) rp).length (intVals (overL P (L.getD i sNone) rp)) 0 W)) ∧
      eqB (uniL P (overL P (L.getD i sNone) rp)) (L.getD i sNone) = true ∧ (∀ k, k < (overL P (L.getD i sNone) rp).length → 0 ≤ (overL P (L.getD i sNone) rp).getD k 0 ∧ (overL P (L.getD i sNone) rp).getD k 0 < (rp : Int)) ∧ (overL P (L.getD i sNone) rp).length ≤ 256)
    (HAW : ∀ W, Below w.heap.size w W → Calls Tryd.prog 13 #[] W (Gives (.bool true) W))
    (HF : (∀ W A c, Rd W 1 A nc VK → Calls Tryd.prog 28 #[.slice A nc c] W (GR 4 0 [] 1 W)) ∨
      ∃ rx VX, (∀ W A c, Rd W 1 A nc VK → Calls Tryd.prog 28 #[.slice A nc c] W (GR 4 rx VX 0 W)) ∧
        (∀ W A c, Below w.heap.size w W → Rd W 4 A rx VX → Calls Tryd.prog 11 #[.slice A rx c] W (GR 1 nc VK 0 W)) ∧
        (∀ W A1 A2 c1 c2, Rd W 1 A1 nc VK → Rd W 1 A2 nc VK → Calls Tryd.prog 15 #[.slice A1 nc c1, .slice A2 nc c2] W (Gives (.bool true) W))) :
    Calls Tryd.prog 8 #[.slice A n c, .slice A' nc c'] w (Gives (.bool true) w) := by
  have q1 := Lib.hid HP
  have q2 := Lib.hid HC
  have q3 := Lib.hid HS
  have q4 := Lib.hid HSM
  have q5 := Lib.hid HO
  have q6 := Lib.hid HAW
  have q7 := Lib.hid HF
  clear HP HC HS HSM HO HAW HF
  go_enter Tryd.func8, Tryd.ntmps8
  go_wp2_with fail
  refine (q1.out _ _ _ HL).mono ?_
  rintro e w1 ⟨A1, c1, rfl, HX, L1⟩
  replace HL := HL.next L1
  replace HK := HK.next L1
  go_wp2_with fail
  refine (q2.out _ _ _ L1 HX).mono ?_
  rintro e w2 ⟨A2, c2, rfl, HY, HB⟩
  replace L1 := below_then L1 HB
  replace HL := HL.next HB
  replace HK := HK.next HB
  replace HX := HX.next HB
  clear HB
  go_wp2_with fail
  refine (q3.out _ _ _ HY).mono ?_
  rintro e w3 ⟨A3, c3, rfl, HZ, HB⟩
  replace L1 := below_then L1 HB
  replace HL := HL.next HB
  replace HK := HK.next HB
  replace HX := HX.next HB
  clear HB HY
  go_wp2_with fail
  refine (q4.out _ _ _ _ _ HX HZ).mono ?_
  rintro e w4 ⟨rfl, HB⟩
  replace L1 := below_then L1 HB
  replace HL := HL.next HB
  replace HK := HK.next HB
  replace HX := HX.next HB
  clear HB HZ q1 q2 q3 q4
  go_wp2
  go_loopw [11] (fun i wr => ∃ k : Nat, k ≤ n ∧ i = .int .i64 k ∧ Below w4.heap.size w4 wr) (fun i _ => n - (intOf i).toNat)
  case atStart => exact ⟨0, by omega, rfl, Below.refl _ _⟩
  case round =>
    obtain ⟨i, hi, rfl, HB⟩ := hrel
    by_cases hlt : i < n
    · obtain ⟨g, o, rfl, hgB, d0, d1, d2, d3⟩ := setsD_cell (HL.next HB) i hlt
      obtain ⟨hO, hOe, hOl, hOn⟩ := q5.out i hlt
      generalize L.getD i sNone = m at *
      generalize overL P m rp = O at *
      have hO' := Lib.hid hO
      have hOl' := Lib.hid hOl
      clear hO hOl
      have hqn := fun W => neq_eqB (uniL P O) m W
      rw [hOe] at hqn
      have hst := Lib.hid (fun k => take_snocI O k)
      have hun := Lib.hid (uniL_snoc P)
      have hall : Unit → O.take O.length = O := fun _ => List.take_length
      have HX4 := HX.next HB
      have L4 := below_then L1 HB
      have hi1 : (0 : Int) ≤ (i : Int) := by omega
      have hi2 : (i : Int) < (n : Int) := by omega
      generalize hon : O.length = on at *
      go_wp2_with fail
      refine (hO'.out _ _ _ L4 HX4).mono ?_
      rintro e w5 ⟨A5, c5, rfl, HI, HB5⟩
      replace L4 := below_then L4 HB5
      replace HX4 := HX4.next HB5
      have LW5 := below_then HB HB5
      replace d0 := (HB5.cell (block_lt_of_cell d0)).trans d0
      replace d1 := (HB5.cell (block_lt_of_cell d1)).trans d1
      replace d2 := (HB5.cell (block_lt_of_cell d2)).trans d2
      replace d3 := (HB5.cell (block_lt_of_cell d3)).trans d3
      clear hO' hOe HB HB5
      have L6 : Below w5.heap.size w5 (w5.alloc (.cells #[.int .u64 0, .int .u64 0, .int .u64 0, .int .u64 0] 35)) := (Below.refl _ _).alloc (Nat.le_refl _) _
      have hb6 : Blk (w5.alloc (.cells #[.int .u64 0, .int .u64 0, .int .u64 0, .int .u64 0] 35)) w5.heap.size 35 (sCells (uniL P (O.take 0))) := by
        rw [List.take_zero, uniL_nil, ← none_cells]
        exact Blk.new w5 _ _
      go_wp2
      go_loopw [15] (fun k wr => ∃ k' : Nat, k' ≤ on ∧ k = .int .i64 k' ∧ Blk wr w5.heap.size 35 (sCells (uniL P (O.take k'))) ∧ Below w5.heap.size w5 wr) (fun k _ => on - (intOf k).toNat)
      case atStart => exact ⟨0, by omega, rfl, hb6, L6⟩
      case round =>
        clear hb6 L6
        obtain ⟨k, hk, rfl, hb, HB⟩ := hrel
        have hsz := HB.size
        by_cases hlk : k < on
        · obtain ⟨g1, o1, rfl, hg1, c0⟩ := int_cell (HI.next HB) k hlk
          obtain ⟨hx1, hx2⟩ := hOl'.out k hlk
          have hst' := fun _ : Unit => hst.out k hlk
          generalize O.getD k 0 = x at *
          obtain ⟨q, rfl⟩ : ∃ q : Nat, x = q := ⟨x.toNat, by omega⟩
          have hq : q < rp := by omega
          obtain ⟨g2, o2, rfl, hg2, e0, e1, e2, e3⟩ := setsD_cell ((HX4.next HB)) q hq
          have hun' := fun _ : Unit => hun.out (O.take k) q
          rw [Int.toNat_natCast] at hun'
          generalize P.getD q sNone = p at *
          generalize uniL P (O.take k) = u at *
          obtain ⟨b0, b1, b2, b3⟩ := hb.cells4
          have hk1 : (0 : Int) ≤ (k : Int) := by omega
          have hk2 : (k : Int) < (on : Int) := by omega
          go_wp2
          have c0' := cell_regrown c0
          have b0' := cell_regrown b0
          have b1' := cell_regrown b1
          have b2' := cell_regrown b2
          have b3' := cell_regrown b3
          have e0' := cell_regrown e0
          have e1' := cell_regrown e1
          have e2' := cell_regrown e2
          have e3' := cell_regrown e3
          refine wp_region_hold_below 9 [0, 1, 2, 3, 4, 5, 6, 7] [8] (by kernel_rfl) (by kernel_rfl) rfl (by kernel_rfl) ?_
          simp only [pickOps, List.getElem?_cons_zero, List.getElem?_cons_succ, List.drop_succ_cons, List.drop_zero]
          repeat (go_big_quiet_step (fail))
          refine wpQuiet_nil ?_
          clear c0' b0' b1' b2' b3' e0' e1' e2' e3'
          have LD : Below wr.heap.size wr wr.drew := (Below.refl _ wr).drew
          refine wpForce_step rfl (fun KK hKK => ?_)
          go_simp
          refine (any_any u p _).mono ?_
          rintro e w7 ⟨rfl, HB7⟩
          have L7 : Below wr.heap.size wr w7 := LD.trans (HB7.mono LD.size)
          refine hKK _ _ (regrown_of_below L7) ?_
          clear hKK KK
          refine wpForce_nil ?_
          have hb7 := hb.below L7 hb.lt
          obtain ⟨r0, r1, r2, r3⟩ := hb7.cells4
          have f0 := hb7.frozen 0
          have f1 := hb7.frozen 1
          have f2 := hb7.frozen 2
          have f3 := hb7.frozen 3
          go_wp2
          refine NoPanic.normal ?_
          go_wp2
          go_roundw
          case rel =>
            have LX := HB.trans (L7.mono hsz)
            refine ⟨k + 1, by omega, by go_num, ?_, (((LX.setCell (p := ⟨w5.heap.size, 0, none⟩) (Nat.le_refl _) _).setCell (p := ⟨w5.heap.size, 1, none⟩) (Nat.le_refl _) _).setCell (p := ⟨w5.heap.size, 2, none⟩) (Nat.le_refl _) _).setCell (p := ⟨w5.heap.size, 3, none⟩) (Nat.le_refl _) _⟩
            rw [hst' (), hun' ()]
            exact (((hb7.set_ 0 _).set_ 1 _).set_ 2 _).set_ 3 _
          case measure => simp [intOf]; omega
        · obtain rfl : k = on := by omega
          rw [hall ()] at hb
          obtain ⟨b0, b1, b2, b3⟩ := hb.cells4
          replace d0 := (HB.cell (block_lt_of_cell d0)).trans d0
          replace d1 := (HB.cell (block_lt_of_cell d1)).trans d1
          replace d2 := (HB.cell (block_lt_of_cell d2)).trans d2
          replace d3 := (HB.cell (block_lt_of_cell d3)).trans d3
          have L9 := below_then LW5 HB
          clear hst hun hall hOl' HX4 L4 LW5 HB hb HI
          generalize uniL P O = u at *
          go_wp2
          refine wp_region_quiet_lit (by kernel_rfl) (by kernel_rfl) ?_
          repeat (go_big_quiet_step (fail))
          refine wpQuiet_nil ?_
          intro _ hw'
          obtain ⟨nq, hw''⟩ := hw'
          subst hw''
          have L10 := below_drewN L9 nq
          clear L9 b0 b1 b2 b3 d0 d1 d2 d3 hqn
          go_wp2
          go_roundw
          case rel => exact ⟨i + 1, by omega, by go_num, L10⟩
          case measure => simp [intOf]; omega
    · have L4 := below_then L1 HB
      have HK4 := HK.next HB
      clear HL HK HX L1 HB q5
      rcases q7.out with HF | ⟨rx, VX, HF1, HF2, HF3⟩
      · have f1 := Lib.hid HF
        clear HF q7
        go_wp2_with fail
        refine (f1.out _ _ _ HK4).mono ?_
        rintro e w5 ⟨A5, c5, rfl, _, HB⟩
        replace L4 := below_then L4 HB
        go_wp2_with fail
        refine (q6.out _ L4).mono ?_
        rintro e w6 ⟨rfl, HB6⟩
        have L6 := below_then L4 HB6
        clear f1 q6 HK4 L4 HB HB6
        go_wp2
        go_ret
        exact ⟨rfl, L6⟩
      · have f1 := Lib.hid HF1
        have f2 := Lib.hid HF2
        have f3 := Lib.hid HF3
        clear HF1 HF2 HF3 q7
        go_wp2_with fail
        refine (f1.out _ _ _ HK4).mono ?_
        rintro e w5 ⟨A5, c5, rfl, HX, HB⟩
        replace L4 := below_then L4 HB
        replace HK4 := HK4.next HB
        clear HB
        go_wp2_with fail
        refine (f2.out _ _ _ L4 HX).mono ?_
        rintro e w6 ⟨A6, c6, rfl, HY, HB⟩
        replace L4 := below_then L4 HB
        replace HK4 := HK4.next HB
        clear HB HX
        go_wp2_with fail
        refine (q6.out _ L4).mono ?_
        rintro e w7 ⟨rfl, HB⟩
        replace L4 := below_then L4 HB
        replace HK4 := HK4.next HB
        replace HY := HY.next HB
        clear HB
        go_wp2_with fail
        refine (f3.out _ _ _ _ _ HY HK4).mono ?_
        rintro e w8 ⟨rfl, HB⟩
        replace L4 := below_then L4 HB
        clear f1 f2 f3 q6 HK4 HY HB
        go_wp2
        go_ret
        exact ⟨rfl, L4⟩

theorem walk (A A' : Option Addr) (c c' : Nat) (L : List (Nat → Bool)) (C : List Int) (w : World) (HL : Reads w w.heap.size 4 A L.length (setVals L)) (HK : Reads w w.heap.size 1 A' C.length (intVals C)) (hT : TabD w) :
    Calls Tryd.prog 8 #[.slice A L.length c, .slice A' C.length c'] w (Gives (.bool true) w) := by
  by_cases h1 : (30 : Int) < (L.length : Int)
  · exact walk_skip1 A A' _ c _ c' w h1
  by_cases h2 : (300 : Int) < (C.length : Int)
  · exact walk_skip2 A A' _ c _ c' w h1 h2
  have hp := parts_len (keyL L)
  have hpart := part_isPart (cl_rgs (keyL L) 256)
  obtain ⟨hcR, hcE⟩ := classR_part hpart
  obtain ⟨hsR, hsE⟩ := setsR_clsG (cl_rgs (keyL L) 256)
  have hcb := class_of_part hpart
  refine walkOn L (partN (cl (keyL L)) 256) L.length C.length (partN (cl (keyL L)) 256).length (intVals (clsG (cl (keyL L)))) (intVals C) A A' c c' w HL HK h1 h2 hp ?_ ?_ ?_ ?_ ?_ ?_ ?_
  · exact fun W A c h => (parts_any L A _ c _ W h (Nat.le_refl _) (by omega)).mono fun _ _ h => gr_sets h
  · intro W A c hW h
    have := class_any (partN (cl (keyL L)) 256) A _ c _ W h (Nat.le_refl _) (by simp only [maxLen]; omega) fun W' h' => hT.below (below_then hW h')
    rw [hcR, hcE] at this
    refine this.mono fun _ _ h => ?_
    have h' := gr_ints h
    rw [clsG_length] at h'
    exact h'
  · intro W A c h
    have := sets_any (clsG (cl (keyL L))) A 256 c _ W h (Nat.le_refl _)
    rw [hsR, hsE] at this
    exact this.mono fun _ _ h => gr_sets h
  · exact fun W A1 A2 c1 c2 h1 h2 => same_any _ A1 A2 _ c1 c2 _ W h1 h2 (Nat.le_refl _) (by omega)
  · intro i hi
    have hm : L.getD i sNone ∈ L := by
      rw [List.getD_eq_getElem?_getD, List.getElem?_eq_getElem hi, Option.getD_some]
      exact List.getElem_mem hi
    refine ⟨?_, part_union L _ hm, fun k hk => overL_lt hk, Nat.le_trans (overL_length _) hp⟩
    intro W A c hW h
    have := over_any (partN (cl (keyL L)) 256) (L.getD i sNone) A _ c _ W h (Nat.le_refl _) (by omega) fun W' h' => hT.below (below_then hW h')
    obtain ⟨e1, e2⟩ := over_yes (b := classB (partN (cl (keyL L)) 256)) (m := L.getD i sNone) hcb (part_over L _ hm)
    rw [e1, e2] at this
    exact this.mono fun _ _ h => gr_ints h
  · exact fun W hW => awake2_any W fun W' h' => hT.below (below_then hW h')
  · by_cases hok : C.length = 256 ∧ okI C 256 = true
    · right
      have e1 : setsR C C.length = partN (gI C) 256 := if_pos hok
      have e2 : setsE C C.length = 0 := if_pos hok
      have hrg := okI_rgs C 256 hok.2
      have hpl : (partN (gI C) 256).length ≤ 256 := by rw [partN_length]; exact nxN_le 256 hrg
      obtain ⟨e3, e4⟩ := classR_part (part_isPart hrg)
      refine ⟨(partN (gI C) 256).length, setVals (partN (gI C) 256), ?_, ?_, ?_⟩
      · intro W A c h
        have := sets_any C A _ c _ W h (Nat.le_refl _)
        rw [e1, e2] at this
        exact this.mono fun _ _ h => gr_sets h
      · intro W A c hW h
        have := class_any (partN (gI C) 256) A _ c _ W h (Nat.le_refl _) (by simp only [maxLen]; omega) fun W' h' => hT.below (below_then hW h')
        rw [e3, e4, clsG_gI C hok.1 hok.2] at this
        exact this.mono fun _ _ h => gr_ints h
      · exact fun W A1 A2 c1 c2 h1 h2 => ints_any C A1 A2 _ c1 c2 _ W h1 h2 (Nat.le_refl _) (by omega)
    · left
      obtain ⟨e1, e2⟩ := sets_none C C.length hok
      intro W A c h
      have := sets_any C A _ c _ W h (Nat.le_refl _)
      rw [e1, e2] at this
      exact this.mono fun _ _ h => gr_sets h

set_option maxRecDepth 100000 in
theorem lifted (os : Os) (started : os.Started) (H : Type) (enc : TypeId × Value → H) :
    ReturnsInHanded {} Tryd.checked os 8 .any (fun w args => (Rows.partBackSpec.pre enc Tryd.prog Tryd.f8 [] false w args ∧ laidMetH Tryd.prog laidL w) ∧ sizedMet enc Tryd.prog Tryd.f8 (OpenSpec.ofChange Rows.partBackSpec) false w args) (Rows.partBackSpec.post enc Tryd.prog Tryd.f8 false true false false) := by
  refine law_lifted_laid (tb := 4) started (by kernel_rfl) Tryd.func8 rfl ?_ rfl Tryd.underlying4 (by kernel_rfl)
    (ChangeSpec.witness_shaped (enc := enc) (C := Tryd.checked) (os := os) (X := fun w _ => laidMetH Tryd.prog laidL w) false (World.doorLaid Tryd.prog 14 os) #[.slice none 0 0, .slice none 0 0] 8 rfl (World.shaped_of_RefB (by kernel_rfl) (by kernel_rfl)) (by kernel_rfl) (by kernel_rfl) (by kernel_rfl) (door_met os _)) ?_
  · intro ds hl
    match ds, hl with
    | [_, _], _ => rfl
  intro W base args ds before hval0 hA0 hlt hsz0 hTab
  have hval : ∀ (j : Nat) t v, Tryd.f8.params[j]? = some t → args[j]? = some v → Value.okWide Tryd.prog W .any base t v := hval0
  have hA : DataW.TrodAll enc Tryd.prog W 0 (fun _ => true) true Tryd.f8.params.toList args.toList ds before := hA0
  have hsz : (DataW.weightsEach Tryd.prog Tryd.f8.params.toList ds).all (· ≤ reachBytes) = true := hsz0
  rw [Tryd.params8] at hA hval hsz
  obtain ⟨v0, vs0, d0, ds0, p0, q0, hargs, rfl, rfl, h0, r0⟩ := trodAll_cons hA
  obtain ⟨v1, vs1, d1, ds1, p1, q1, rfl, rfl, rfl, h1, r1⟩ := trodAll_cons r0
  obtain ⟨rfl, rfl, rfl⟩ := trodAll_nil r1
  obtain rfl : args = #[v0, v1] := by cases args; simp_all
  obtain ⟨A0, c0, l0, rfl, R0, k0, m0⟩ := open_sets Tryd.underlying22 Tryd.underlying35 Tryd.underlying33 (by kernel_rfl) (by kernel_rfl) (hval 0 22 v0 rfl rfl) h0 (fun x hx => hlt x (by simp [hx]))
  obtain ⟨A1, c1, l1, rfl, R1, k1, m1⟩ := open_nums Tryd.underlying26 Tryd.underlying3 (by kernel_rfl) (hval 1 26 v1 rfl rfl) h1 (fun x hx => hlt x (by simp [hx]))
  exact walk A0 A1 c0 c1 l0 l1 W R0 R1 hTab

theorem proved : Rows.PartBackSaid :=
  OpenClaim.holds_of_wide 8 Tryd.f8 rfl rfl rfl rfl rfl rfl rfl ⟨rfl, rfl, rfl, rfl, rfl⟩ rfl rfl rfl rfl rfl (by kernel_rfl) Tryd.func8 (by kernel_rfl)
    (of_decide_eq_true (by kernel_rfl)) (by unfold Func.isWrapper; first | (rw [if_pos (by decide +kernel)]; kernel_rfl) | (rw [if_neg (by decide +kernel)]; exact ⟨rfl, rfl⟩))
    (fun os started H enc _ => lifted os started H enc)

theorem card_holds : Rows.PartBackCardSaid :=
  Claim7.holds_tied_plain_at .later [] [.data] true (true, "14fc05cc31ad89d783556929966e31363f5189cb849098ee71a2d0d9500bcc45") false
    proved (fun _ h => by cases h) (by kernel_rfl) (fun _ h => by cases h) partBack_row_tie rfl ⟨rfl, rfl⟩ (by kernel_rfl) rfl
    (fun f fn hf hfn => by
      obtain rfl : f = 8 := Option.some.inj ((show Tryd.prog.funcNamed "whittle/whittlelaw02.PartBack" = some 8 by kernel_rfl).symm.trans hf) |>.symm
      obtain rfl : fn = Tryd.f8 := (Option.some.inj (Tryd.func8.symm.trans hfn)).symm
      exact ⟨by kernel_rfl, fun j t ht => by
        rw [Tryd.params8] at ht
        have hm : t ∈ [22, 26] := by simpa using Array.mem_of_getElem? ht
        have hall : ([22, 26].all fun u => !Tryd.prog.wantsStandIn u) = true := by kernel_rfl
        exact (show Tryd.prog.wantsStandIn t = false by simpa using List.all_eq_true.1 hall t hm)⟩)
    (by kernel_rfl)
#print axioms card_holds
end Go.Proofs.YtbjgkolldmplkaaDoor.PartBack
