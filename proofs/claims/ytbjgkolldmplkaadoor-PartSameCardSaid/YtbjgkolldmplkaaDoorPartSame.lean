/- The tied card of PartSame: it returns true for every input, and each argument reads behind the call as it did before. Conditions: the row's own (the table of math/bits reads as its initialiser laid it, tied to the program's text). -/
import Derived.Test.YtbjgkolldmplkaaDoorAwake2
import Derived.Test.YtbjgkolldmplkaaDoorLawSets
import Derived.Test.YtbjgkolldmplkaaDoorLawD
import Derived.Test.YtbjgkolldmplkaaDoorRd
import Derived.Test.YtbjgkolldmplkaaDoorPartSameP
import Derived.Deep.Cut
namespace Go.Proofs.YtbjgkolldmplkaaDoor.PartSame
open Go.ChangeShapes Go.WideShapes Go.ChangeAt Go.RowKit Go.Sort

set_option maxRecDepth 100000 in
theorem walk_skip1 (A : Option Addr) (n c : Nat) (q : Int) (w : World) (h : (30 : Int) < n) (HAW : Calls Tryd.prog 13 #[] w (Gives (.bool true) w)) :
    Calls Tryd.prog 4 #[.slice A n c, .int .i64 q] w (Gives (.bool true) w) := by
  go_enter Tryd.func4, Tryd.ntmps4
  go_wp2_with fail
  refine HAW.mono ?_
  rintro e w1 ⟨rfl, HB⟩
  go_wp2
  go_ret
  exact ⟨rfl, HB⟩

set_option maxRecDepth 100000 in
theorem walk_skip2 (A : Option Addr) (n c : Nat) (q : Int) (w : World) (h : ¬ (30 : Int) < n) (h2 : q < 0) (HAW : Calls Tryd.prog 13 #[] w (Gives (.bool true) w)) :
    Calls Tryd.prog 4 #[.slice A n c, .int .i64 q] w (Gives (.bool true) w) := by
  go_enter Tryd.func4, Tryd.ntmps4
  go_wp2_with fail
  refine HAW.mono ?_
  rintro e w1 ⟨rfl, HB⟩
  go_wp2
  go_ret
  exact ⟨rfl, HB⟩

set_option maxRecDepth 100000 in
theorem walk_skip3 (A : Option Addr) (n c : Nat) (q : Int) (w : World) (h : ¬ (30 : Int) < n) (h2 : ¬ q < 0) (h3 : (n : Int) ≤ q) (HAW : Calls Tryd.prog 13 #[] w (Gives (.bool true) w)) :
    Calls Tryd.prog 4 #[.slice A n c, .int .i64 q] w (Gives (.bool true) w) := by
  go_enter Tryd.func4, Tryd.ntmps4
  go_wp2_with fail
  refine HAW.mono ?_
  rintro e w1 ⟨rfl, HB⟩
  go_wp2
  go_ret
  exact ⟨rfl, HB⟩

/-- The row from behind, down to k. -/
def revTo (L : List (Nat → Bool)) (k : Nat) : List (Nat → Bool) := (L.drop k).reverse
theorem revTo_step (L : List (Nat → Bool)) (k : Nat) (h : k < L.length) : revTo L k = revTo L (k + 1) ++ [L.getD k sNone] := by
  unfold revTo
  rw [List.drop_eq_getElem_cons h, List.reverse_cons, List.getD_eq_getElem?_getD, List.getElem?_eq_getElem h, Option.getD_some]
theorem revTo_all (L : List (Nat → Bool)) : revTo L 0 = L.reverse := by simp [revTo]
theorem revTo_none (L : List (Nat → Bool)) : revTo L L.length = [] := by simp [revTo]

/-- The row with the first k words of its first set turned. -/
def turnTo (T : List (Nat → Bool)) (k : Nat) : List (Nat → Bool) := T.set 0 (sMix (sNot (T.getD 0 sNone)) (T.getD 0 sNone) k)

theorem turnTo_zero (T : List (Nat → Bool)) : setVals (turnTo T 0) = setVals T := by
  unfold turnTo
  cases T with
  | nil => rfl
  | cons x r =>
    rw [List.set_cons_zero, List.getD_cons_zero, setVals_cons, setVals_cons, sCells_congr (m := sMix (sNot x) x 0) (m' := x) fun i _ => word_mix_zero _ _ i]
theorem turnTo_get (T : List (Nat → Bool)) (k : Nat) (h : 0 < T.length) : (turnTo T k).getD 0 sNone = sMix (sNot (T.getD 0 sNone)) (T.getD 0 sNone) k := by
  unfold turnTo
  cases T with
  | nil => simp at h
  | cons x r => rfl
theorem turnTo_set (T : List (Nat → Bool)) (k j : Nat) : (turnTo T k).set 0 (sMix (sNot (T.getD 0 sNone)) (T.getD 0 sNone) j) = turnTo T j := by
  unfold turnTo
  cases T with
  | nil => rfl
  | cons x r => rfl

set_option maxRecDepth 100000 in
set_option maxHeartbeats 8000000 in
theorem walkOn (L : List (Nat → Bool)) (n rp q : Nat) (VP : List Value) (A : Option Addr) (c : Nat) (w : World)
    (HL : Rd w 4 A n (setVals L)) (hln : L.length = n) (h30 : ¬ (30 : Int) < n) (hq : q < n)
    (HP : ∀ W A c, Rd W 4 A n (setVals L) → Calls Tryd.prog 9 #[.slice A n c] W (GR 4 rp VP 0 W))
    (HQ : ∀ W A c, Rd W 4 A (n + 1) (setVals (turnL L q)) → Calls Tryd.prog 9 #[.slice A (n + 1) c] W (GR 4 rp VP 0 W))
    (HAW : ∀ W, Below w.heap.size w W → Calls Tryd.prog 13 #[] W (Gives (.bool true) W))
    (HSM : ∀ W A1 A2 c1 c2, Rd W 4 A1 rp VP → Rd W 4 A2 rp VP → Calls Tryd.prog 14 #[.slice A1 rp c1, .slice A2 rp c2] W (Gives (.bool true) W)) :
    Calls Tryd.prog 4 #[.slice A n c, .int .i64 (q : Int)] w (Gives (.bool true) w) := by
  obtain ⟨i0, hi0, hz0, hz1, hz2⟩ := info_parts sets_info
  have HLN := fun _ : Unit => hln
  clear hln
  have HTL : Unit → turnL L q = turnTo (revTo L 0 ++ [L.getD q sNone]) 4 := fun _ => by unfold turnL turnTo; rw [revTo_all]
  have q1 := Lib.hid HP
  have q2 := Lib.hid HQ
  have q3 := Lib.hid HAW
  have q4 := Lib.hid HSM
  clear HP HQ HAW HSM
  have h1 : ¬ (q : Int) < 0 := by omega
  have h2 : ¬ (n : Int) ≤ q := by omega
  go_enter Tryd.func4, Tryd.ntmps4
  go_wp2_with fail
  refine (q1.out _ _ _ HL).mono ?_
  rintro e w1 ⟨A1, c1, rfl, HX, L1⟩
  replace HL := HL.next L1
  go_wp2
  go_loopw [7, 8] (fun v i wr => ∃ k : Nat, k ≤ n ∧ i = .int .i64 ((k : Int) - 1) ∧ wr.ownsRow w1.heap.size 35 4 v (n - k) (setVals (revTo L k)) ∧ Below w1.heap.size w1 wr) (fun _ i _ => (intOf i + 1).toNat)
  case atStart => exact ⟨n, Nat.le_refl n, rfl, by rw [show revTo L n = [] from by rw [← HLN ()]; exact revTo_none L, Nat.sub_self]; exact ⟨rfl, .inl ⟨rfl, rfl⟩⟩, Below.refl _ _⟩
  case round =>
    obtain ⟨k, hk, hi, hown, HB⟩ := hrel
    have HLr := HL.next HB
    have hsz := HB.size
    have hfr := own_base hown
    rcases k with _ | k
    · rw [show (((0 : Nat) : Int) - 1) = -1 from rfl] at hi
      subst hi
      obtain ⟨g, o, rfl, hgB, e0, e1, e2, e3⟩ := setsD_cell HLr q hq
      generalize hT : revTo L 0 ++ [L.getD q sNone] = T at *
      have HT := fun _ : Unit => hT
      clear hT
      generalize L.getD q sNone = m at *
      go_wp2_with (at_builtin
                   refine wpList_append_any _ rfl (.tmp 46) (.tmp 51) _ rfl w1.heap.size 35 i0 _ 4 32 Tryd.underlying22 hi0 hz0 hz1 hz2 rfl (by omega) _ (n - 0) _ rfl
                     (hown.alloc _) _ _ 1 1 [.int .u64 ((word m 0 : Nat) : Int), .int .u64 ((word m 1 : Nat) : Int), .int .u64 ((word m 2 : Nat) : Int), .int .u64 ((word m 3 : Nat) : Int)] rfl (reads_blkN (xs := [.int .u64 ((word m 0 : Nat) : Int), .int .u64 ((word m 1 : Nat) : Int), .int .u64 ((word m 2 : Nat) : Int), .int .u64 ((word m 3 : Nat) : Int)]) (Blk.new wr _ _) rfl) (by simp [Value.oneCell']) (by simp only [maxLen]; omega) (by omega) (by simp; omega) ?_
                   intro v3 w3 hown3 hg3 hat3
                   have L3 : Below w1.heap.size w1 w3 := (HB.alloc hsz _).grown hg3 (by simp; omega) hfr
                   rw [setVals_snoc, HT (), Nat.sub_zero] at hown3
                   obtain ⟨gb, cap, rfl, hgb1, hgb2⟩ := hown3.form (by omega))
      clear hown hg3 hat3 e0 e1 e2 e3 HB hsz hfr HLr HL
      have hTn : T.length = n + 1 := by
        have := hown3.1
        rw [setVals_length] at this
        omega
      have HTN := fun _ : Unit => hTn
      clear hTn
      rw [← turnTo_zero] at hown3
      go_loopw [9] (fun i wr => ∃ k : Nat, k ≤ 4 ∧ i = .int .i64 k ∧ wr.ownsRow w1.heap.size 35 4 (.slice (some ⟨gb, 0, none⟩) (n + 1) cap) (n + 1) (setVals (turnTo T k)) ∧ Below w1.heap.size w1 wr) (fun i _ => 4 - (intOf i).toNat)
      case atStart => exact ⟨0, by omega, rfl, hown3, L3⟩
      case round =>
        clear hown3 L3 hgb2
        obtain ⟨k, hk, rfl, hown, HB⟩ := hrel
        have hsz := HB.size
        by_cases hlt : k < 4
        · obtain ⟨e0, e1, e2, e3⟩ := own_at hown 0 (by omega)
          rw [turnTo_get T k (by rw [HTN ()]; omega)] at e0 e1 e2 e3
          simp only [Nat.zero_mul, Nat.zero_add] at e0 e1 e2 e3
          have HST := fun _ : Unit => turnTo_set T k (k + 1)
          generalize hx : T.getD 0 sNone = x at *
          go_upto_region 14 with (fail)
          obtain ⟨W, hW⟩ : ∃ W, W = wr.alloc (.cells #[.int .u64 ((word (sMix (sNot x) x k) 0 : Nat) : Int), .int .u64 ((word (sMix (sNot x) x k) 1 : Nat) : Int), .int .u64 ((word (sMix (sNot x) x k) 2 : Nat) : Int), .int .u64 ((word (sMix (sNot x) x k) 3 : Nat) : Int)] 35) := ⟨_, rfl⟩
          have hb1 : Blk W wr.heap.size 35 (sCells (sMix (sNot x) x k)) := by rw [hW]; exact new_blk wr _ _
          have L1 : Below wr.heap.size wr W := by rw [hW]; exact (Below.refl _ wr).alloc (Nat.le_refl _) _
          rw [← hW]
          clear hW
          have c1 := hb1.cellAt k hlt
          have f1 := hb1.frozen k
          rw [word_mix_ge _ _ _ _ (Nat.le_refl _)] at c1
          go_upto_region 15 with (fail)
          rw [word_not]
          have hb2 := hb1.set_ k (.int .u64 ((word (sNot x) k : Nat) : Int))
          rw [sCells_mix _ _ _ hlt] at hb2
          have L2 := L1.setCell (p := ⟨wr.heap.size, k, none⟩) (Nat.le_refl _) (.int .u64 ((word (sNot x) k : Nat) : Int))
          generalize W.setCell ⟨wr.heap.size, k, none⟩ (.int .u64 ((word (sNot x) k : Nat) : Int)) = W2 at *
          have hown2 := own_call hown L2
          have LX := HB.trans (L2.mono hsz)
          clear hb1 L1 c1 f1 hown e0 e1 e2 e3 HB L2
          obtain ⟨d0, d1, d2, d3⟩ := hb2.cells4
          obtain ⟨e0, e1, e2, e3⟩ := own_at hown2 0 (by omega)
          have f0 := hown2.frozenAt 0
          have f1 := hown2.frozenAt 1
          have f2 := hown2.frozenAt 2
          have f3 := hown2.frozenAt 3
          have hp := own_put hown2 0 (by omega) (sMix (sNot x) x (k + 1))
          rw [HST ()] at hp
          simp only [Nat.zero_mul, Nat.zero_add] at e0 e1 e2 e3 hp
          go_wp2
          go_roundw
          case rel => exact ⟨k + 1, by omega, by go_num, hp, (((LX.setCell (p := ⟨gb, 0, none⟩) hgb1 _).setCell (p := ⟨gb, 1, none⟩) hgb1 _).setCell (p := ⟨gb, 2, none⟩) hgb1 _).setCell (p := ⟨gb, 3, none⟩) hgb1 _⟩
          case measure => simp [intOf]; omega
        · obtain rfl : k = 4 := by omega
          rw [← HTL ()] at hown
          obtain ⟨A5, c5, he5, hR5, _, _⟩ := Rd.own hown
          injection he5 with hA5 _ hc5
          subst hA5 hc5
          have HX2 := HX.next HB
          have L5 := below_then L1 HB
          clear hown HX HTL HT HLN HTN L1
          go_wp2_with fail
          refine (q2.out _ _ _ hR5).mono ?_
          rintro e w6 ⟨A6, c6, rfl, HY, HB6⟩
          have L6 := below_then L5 HB6
          have HX3 := HX2.next HB6
          clear L5 HX2 HB6 HB hR5
          go_wp2_with fail
          refine (q3.out _ L6).mono ?_
          rintro e w7 ⟨rfl, HB7⟩
          have L7 := below_then L6 HB7
          have HX4 := HX3.next HB7
          have HY4 := HY.next HB7
          clear L6 HX3 HY HB7
          go_wp2_with fail
          refine (q4.out _ _ _ _ _ HX4 HY4).mono ?_
          rintro e w8 ⟨rfl, HB8⟩
          have L8 := below_then L7 HB8
          clear q1 q2 q3 q4 HX4 HY4 HB8 L7
          go_wp2
          go_ret
          exact ⟨rfl, L8⟩
    · have hik : ((k + 1 : Nat) : Int) - 1 = (k : Int) := by omega
      rw [hik] at hi
      clear hik
      have hk0 : (0 : Int) ≤ (k : Int) := by omega
      have hk1 : (k : Int) < (n : Int) := by omega
      have hk2 : (k : Int) ≤ 30 := by omega
      subst hi
      obtain ⟨g, o, rfl, hgB, e0, e1, e2, e3⟩ := setsD_cell HLr k (by omega)
      have HST := fun _ : Unit => revTo_step L k (by rw [HLN ()]; omega)
      generalize L.getD k sNone = m at *
      go_wp2_with (at_builtin
                   refine wpList_append_any _ rfl (.tmp 39) (.tmp 44) _ rfl w1.heap.size 35 i0 _ 4 32 Tryd.underlying22 hi0 hz0 hz1 hz2 rfl (by omega) _ (n - (k + 1)) _ rfl
                     (hown.alloc _) _ _ 1 1 [.int .u64 ((word m 0 : Nat) : Int), .int .u64 ((word m 1 : Nat) : Int), .int .u64 ((word m 2 : Nat) : Int), .int .u64 ((word m 3 : Nat) : Int)] rfl (reads_blkN (xs := [.int .u64 ((word m 0 : Nat) : Int), .int .u64 ((word m 1 : Nat) : Int), .int .u64 ((word m 2 : Nat) : Int), .int .u64 ((word m 3 : Nat) : Int)]) (Blk.new wr _ _) rfl) (by simp [Value.oneCell']) (by simp only [maxLen]; omega) (by omega) (by simp; omega) ?_
                   intro v3 w3 hown3 hg3 hat3
                   have L3 : Below w1.heap.size w1 w3 := (HB.alloc hsz _).grown hg3 (by simp; omega) hfr
                   rw [setVals_snoc, ← HST (), show n - (k + 1) + 1 = n - k by omega] at hown3)
      go_roundw
      case rel => exact ⟨k, by omega, rfl, hown3, L3⟩
      case measure => simp [intOf]

theorem walk (A : Option Addr) (c : Nat) (L : List (Nat → Bool)) (q : Int) (w : World) (HL : Reads w w.heap.size 4 A L.length (setVals L)) (hT : TabD w) :
    Calls Tryd.prog 4 #[.slice A L.length c, .int .i64 q] w (Gives (.bool true) w) := by
  have HAW := fun (W : World) (hW : Below w.heap.size w W) => awake2_any W fun W' h' => hT.below (below_then hW h')
  by_cases h30 : (30 : Int) < (L.length : Int)
  · exact walk_skip1 A _ c q w h30 (HAW w (Below.refl _ _))
  by_cases h0 : q < 0
  · exact walk_skip2 A _ c q w h30 h0 (HAW w (Below.refl _ _))
  by_cases h1 : (L.length : Int) ≤ q
  · exact walk_skip3 A _ c q w h30 h0 h1 (HAW w (Below.refl _ _))
  obtain ⟨p, rfl⟩ : ∃ p : Nat, q = p := ⟨q.toNat, by omega⟩
  have hp : p < L.length := by omega
  refine walkOn L L.length (partN (cl (keyL L)) 256).length p (setVals (partN (cl (keyL L)) 256)) A c w HL rfl h30 hp ?_ ?_ HAW ?_
  · exact fun W A c h => (parts_any L A _ c _ W h (Nat.le_refl _) (by omega)).mono fun _ _ h => gr_sets h
  · intro W A c h
    have := parts_any (turnL L p) A _ c _ W h (Nat.le_refl _) (by omega)
    rw [turn_parts L p hp] at this
    exact this.mono fun _ _ h => gr_sets h
  · exact fun W A1 A2 c1 c2 h1 h2 => same_any _ A1 A2 _ c1 c2 _ W h1 h2 (Nat.le_refl _) (by have := parts_len (keyL L); omega)

set_option maxRecDepth 100000 in
theorem lifted (os : Os) (started : os.Started) (H : Type) (enc : TypeId × Value → H) :
    ReturnsInHanded {} Tryd.checked os 4 .any (fun w args => (Rows.partSameSpec.pre enc Tryd.prog Tryd.f4 [] false w args ∧ laidMetH Tryd.prog laidL w) ∧ sizedMet enc Tryd.prog Tryd.f4 (OpenSpec.ofChange Rows.partSameSpec) false w args) (Rows.partSameSpec.post enc Tryd.prog Tryd.f4 false true false false) := by
  refine law_lifted_laid (tb := 4) started (by kernel_rfl) Tryd.func4 rfl ?_ rfl Tryd.underlying4 (by kernel_rfl)
    (ChangeSpec.witness_shaped (enc := enc) (C := Tryd.checked) (os := os) (X := fun w _ => laidMetH Tryd.prog laidL w) false (World.doorLaid Tryd.prog 14 os) #[.slice none 0 0, .int .i64 0] 8 rfl (World.shaped_of_RefB (by kernel_rfl) (by kernel_rfl)) (by kernel_rfl) (by kernel_rfl) (by kernel_rfl) (door_met os _)) ?_
  · intro ds hl
    match ds, hl with
    | [_, _], _ => rfl
  intro W base args ds before hval0 hA0 hlt hsz0 hTab
  have hval : ∀ (j : Nat) t v, Tryd.f4.params[j]? = some t → args[j]? = some v → Value.okWide Tryd.prog W .any base t v := hval0
  have hA : DataW.TrodAll enc Tryd.prog W 0 (fun _ => true) true Tryd.f4.params.toList args.toList ds before := hA0
  have hsz : (DataW.weightsEach Tryd.prog Tryd.f4.params.toList ds).all (· ≤ reachBytes) = true := hsz0
  rw [Tryd.params4] at hA hval hsz
  obtain ⟨v0, vs0, d0, ds0, p0, q0, hargs, rfl, rfl, h0, r0⟩ := trodAll_cons hA
  obtain ⟨v1, vs1, d1, ds1, p1, q1, rfl, rfl, rfl, h1, r1⟩ := trodAll_cons r0
  obtain ⟨rfl, rfl, rfl⟩ := trodAll_nil r1
  obtain rfl : args = #[v0, v1] := by cases args; simp_all
  obtain ⟨A0, c0, l0, rfl, R0, k0, m0⟩ := open_sets Tryd.underlying22 Tryd.underlying35 Tryd.underlying33 (by kernel_rfl) (by kernel_rfl) (hval 0 22 v0 rfl rfl) h0 (fun x hx => hlt x (by simp [hx]))
  obtain ⟨a1, rfl, rfl, rfl, w1⟩ := open_int Tryd.underlying3 (hval 1 3 v1 rfl rfl) h1
  exact walk A0 c0 l0 a1 W R0 hTab

theorem proved : Rows.PartSameSaid :=
  OpenClaim.holds_of_wide 4 Tryd.f4 rfl rfl rfl rfl rfl rfl rfl ⟨rfl, rfl, rfl, rfl, rfl⟩ rfl rfl rfl rfl rfl (by kernel_rfl) Tryd.func4 (by kernel_rfl)
    (of_decide_eq_true (by kernel_rfl)) (by unfold Func.isWrapper; first | (rw [if_pos (by decide +kernel)]; kernel_rfl) | (rw [if_neg (by decide +kernel)]; exact ⟨rfl, rfl⟩))
    (fun os started H enc _ => lifted os started H enc)

theorem card_holds : Rows.PartSameCardSaid :=
  Claim7.holds_tied_plain_at .later [] [.data] true (true, "14fc05cc31ad89d783556929966e31363f5189cb849098ee71a2d0d9500bcc45") false
    proved (fun _ h => by cases h) (by kernel_rfl) (fun _ h => by cases h) partSame_row_tie rfl ⟨rfl, rfl⟩ (by kernel_rfl) rfl
    (fun f fn hf hfn => by
      obtain rfl : f = 4 := Option.some.inj ((show Tryd.prog.funcNamed "whittle/whittlelaw02.PartSame" = some 4 by kernel_rfl).symm.trans hf) |>.symm
      obtain rfl : fn = Tryd.f4 := (Option.some.inj (Tryd.func4.symm.trans hfn)).symm
      exact ⟨by kernel_rfl, fun j t ht => by
        rw [Tryd.params4] at ht
        have hm : t ∈ [22, 3] := by simpa using Array.mem_of_getElem? ht
        have hall : ([22, 3].all fun u => !Tryd.prog.wantsStandIn u) = true := by kernel_rfl
        exact (show Tryd.prog.wantsStandIn t = false by simpa using List.all_eq_true.1 hall t hm)⟩)
    (by kernel_rfl)
#print axioms card_holds
end Go.Proofs.YtbjgkolldmplkaaDoor.PartSame
