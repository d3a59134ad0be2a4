/- The walk of part.Class. -/
import Derived.Test.YtbjgkolldmplkaaDoorClassP
namespace Go.Proofs.YtbjgkolldmplkaaDoor
open Go.RowKit Go.Sort

set_option maxRecDepth 100000 in
set_option maxHeartbeats 16000000 in
theorem class_any (L : List (Nat → Bool)) (A : Option Addr) (n c B : Nat) (w : World) (HR0 : Reads w B 4 A n (setVals L)) (hB : B ≤ w.heap.size) (hm : n ≤ maxLen) (hT : ∀ W, Below w.heap.size w W → TabD W) :
    Calls Tryd.prog 11 #[.slice A n c] w (GInts (classR L) (classE L) w) := by
  have HR := HR0.more hB
  have HLN : Unit → L.length = n := fun _ => by
    have := HR.1
    rw [setVals_length] at this
    omega
  have hmk := madeI256
  unfold maxLen at hm
  clear HR0
  go_enter Tryd.func11, Tryd.ntmps11
  go_wp2
  go_loopw [17] (fun i wr => ∃ k : Nat, k ≤ 256 ∧ i = .int .i64 k ∧ Blk wr w.heap.size 3 (iCells (fun c => if c < k then -1 else 0)) ∧ Below w.heap.size w wr) (fun i _ => 256 - (intOf i).toNat)
  case atStart =>
    refine ⟨0, by omega, rfl, ?_, (Below.refl _ _).alloc (Nat.le_refl _) _⟩
    exact Blk.new w _ _
  case round =>
    clear hmk
    obtain ⟨k, hk, rfl, hbk, HB⟩ := hrel
    by_cases hlt : k < 256
    · have hc := (hbk.cell k).trans (iCells_get _ k hlt)
      have hf := hbk.frozen k
      go_wp2
      go_roundw
      case rel =>
        refine ⟨k + 1, by omega, by go_num, ?_, HB.setCell (by simp) _⟩
        have := hbk.set_ k (.int .i64 (-1))
        rw [iCells_set, iCells_congr (g := fun c => if c < k + 1 then -1 else 0) (fun b _ => by
          by_cases e : b = k
          · subst e; simp
          · have : (b < k + 1) = (b < k) := by apply propext; omega
            simp only [e, if_false, this])] at this
        exact this
      case measure => simp [intOf]; omega
    · have e : k = 256 := by omega
      subst e
      rw [show ((256 : Nat) : Int) = 256 from rfl]
      rw [iCells_congr (g := clsA L 0) (fun b hb => by simp [clsA, hb])] at hbk
      obtain ⟨w1, hw1⟩ : ∃ w1, w1 = wr := ⟨_, rfl⟩
      subst hw1
      go_wp2
      go_loopw [6, 26] (fun la i wr => ∃ j : Nat, j ≤ n ∧ i = .int .i64 j ∧ la = .int .i64 (lastI L j) ∧ Blk wr w.heap.size 3 (iCells (clsA L j)) ∧ okC L j = true ∧ Below w.heap.size w wr) (fun _ i _ => n - (intOf i).toNat)
      case atStart => exact ⟨0, by omega, rfl, rfl, hbk, rfl, HB⟩
      case round =>
        clear hbk HB hlt hk
        obtain ⟨j, hj, rfl, rfl, hbk, hok, HB⟩ := hrel
        have HOK := fun _ : Unit => hok
        clear hok
        by_cases hlt : j < n
        · obtain ⟨g, o, rfl, hgB, c0, c1, c2, c3⟩ := setsD_cell (HR.below HB) j hlt
          have HNO := fun (_ : Unit) (h : okC L (j + 1) = false) => class_no (L := L) (by unfold classB; rw [okC_no L.length j (by rw [HLN ()]; exact hlt) h]; rfl)
          have HE := fun _ : Unit => okC_empty (L := L) j
          have HLA := fun _ : Unit => okC_last (L := L) j
          have HHI := fun _ : Unit => okC_hit (L := L) j
          have HYE := fun _ : Unit => okC_yes (L := L) j
          have HMA := fun _ : Unit => midA_all L j
          have HLS : Unit → lastI L (j + 1) = ((sLeast (L.getD j sNone) : Nat) : Int) := fun _ => rfl
          have hsz := HB.size
          have hlw := hbk.lt
          generalize L.getD j sNone = m at *
          generalize lastI L j = la at *
          generalize clsA L j = f at *
          have hFV : Unit → firstV m = if sLeast m < 256 then .tuple #[.int .u8 ((sLeast m : Nat) : Int), .bool true] else .tuple #[.int .u8 0, .bool false] := fun _ => rfl
          have hF := fun W (hW : Below w.heap.size w W) => first_any m W fun W' h' => hT W' (hW.trans (h'.mono hW.size))
          generalize sLeast m = s at *
          have hLb := (HB.alloc hsz (.cells #[.int .u64 ((word m 0 : Nat) : Int), .int .u64 ((word m 1 : Nat) : Int), .int .u64 ((word m 2 : Nat) : Int), .int .u64 ((word m 3 : Nat) : Int)] 35))
          by_cases hs : s < 256
          · have hFV2 : firstV m = .tuple #[.int .u8 (s : Int), .bool true] := (hFV ()).trans (if_pos hs)
            rw [hFV2] at hF
            clear hFV hFV2
            by_cases hla : la < (s : Int)
            · have hls : ¬ (s : Int) ≤ la := by omega
              have HYE2 := fun _ : Unit => HYE () (HOK ()) hs hla
              have hwb : IntKind.i64.wrap (s : Int) = (s : Int) := IntWalk.i64_in _ (by omega)
              clear HE HLA HYE
              go_wp2_with (go_at_call 18; refine (hF _ hLb).mono ?_; rintro e w2 ⟨rfl, HB2⟩; have L2 := hLb.trans (HB2.mono hLb.size); have hbm := Blk.below (by exact new_blk wr m 35) HB2 (by simp); have hbk2 := (hbk.alloc (.cells #[.int .u64 ((word m 0 : Nat) : Int), .int .u64 ((word m 1 : Nat) : Int), .int .u64 ((word m 2 : Nat) : Int), .int .u64 ((word m 3 : Nat) : Int)] 35)).below HB2 (by have := hbk.lt; simp; omega))
              rw [← midA_zero m (j : Int) f] at hbk2
              clear hwb hF hls
              go_loopw [46] (fun bi wv => ∃ b : Nat, b ≤ 256 ∧ bi = .int .i64 b ∧ Blk wv w.heap.size 3 (iCells (midA m (j : Int) f b)) ∧ Blk wv wr.heap.size 35 (sCells m) ∧ noHit m f b = true ∧ Below w.heap.size w wv) (fun bi _ => 256 - (intOf bi).toNat)
              case atStart => exact ⟨0, by omega, rfl, hbk2, hbm, rfl, L2⟩
              case round =>
                clear hbk2 hbm L2 HB2 hbk
                rename_i wv _
                obtain ⟨b, hb, rfl, hbk, hbm, hnh, HV⟩ := hrel
                have HNH := fun _ : Unit => hnh
                clear hnh
                by_cases hltb : b < 256
                · obtain ⟨d0, d1, d2, d3⟩ := hbm.cells4
                  have HC := fun W => has_any m b W hltb
                  have HM0 := fun _ : Unit => midA_no m (j : Int) f b
                  have HM1 := fun _ : Unit => midA_yes m (j : Int) f b
                  have HN0 := fun _ : Unit => noHit_yes (m := m) (f := f) b (HNH ())
                  have HN1 := fun _ : Unit => noHit_no (m := m) (f := f) 256 b hltb
                  have hsv := HV.size
                  cases hmb : m b
                  · rw [hmb] at HC
                    have HMB := fun _ : Unit => hmb
                    clear hmb
                    go_wp2_with (go_at_call 35; refine (HC _).mono ?_; rintro e w3 ⟨rfl, HB3⟩)
                    go_roundw
                    case rel => exact ⟨b + 1, by omega, by go_num, by rw [HM0 () (HMB ())]; exact hbk.below HB3 hbk.lt, hbm.below HB3 hbm.lt, HN0 () (.inl (HMB ())), HV.trans (HB3.mono hsv)⟩
                    case measure => simp [intOf]; omega
                  · rw [hmb] at HC
                    have HMB := fun _ : Unit => hmb
                    clear hmb
                    have hcb := (hbk.cell b).trans (iCells_get _ b hltb)
                    rw [midA_at] at hcb
                    have HF := fun _ : Unit => (rfl : f b = f b)
                    by_cases hfb : 0 ≤ f b
                    · have hno := HNO () (HHI () (HN1 () (HMB ()) hfb))
                      have HNO2 := fun _ : Unit => hno
                      clear hno HNO HHI HN1 HM0 HM1 HN0 HF
                      generalize f b = fb at *
                      go_wp2_with (go_at_call 35; refine (HC _).mono ?_; rintro e w3 ⟨rfl, HB3⟩; have hbk3 := hbk.below HB3 hbk.lt; have hcb3 := (hbk3.cell b).trans ((hbk.cell b).symm.trans hcb))
                      go_ret2
                      rw [(HNO2 ()).1, (HNO2 ()).2]
                      exact gints_none (HV.trans (HB3.mono hsv))
                    · have HN2 := fun _ : Unit => HN0 () (.inr (show f b < 0 by omega))
                      clear HNO HHI HN1 HM0 HN0 HF
                      generalize f b = fb at *
                      go_wp2_with (go_at_call 35; refine (HC _).mono ?_; rintro e w3 ⟨rfl, HB3⟩; have hbk3 := hbk.below HB3 hbk.lt; have hcb3 := (hbk3.cell b).trans ((hbk.cell b).symm.trans hcb); have hf3 := hbk3.frozen b; have hbm3 := hbm.below HB3 hbm.lt; have L3 := HV.trans (HB3.mono hsv))
                      go_roundw
                      case rel => exact ⟨b + 1, by omega, by go_num, by rw [← HM1 () (HMB ())]; exact hbk3.set_ b _, hbm3.far (by simp; omega) _, HN2 (), L3.setCell (by simp) _⟩
                      case measure => simp [intOf]; omega
                · have e : b = 256 := by omega
                  subst e
                  rw [HMA ()] at hbk
                  go_wp2
                  go_roundw
                  case rel => exact ⟨j + 1, by omega, by go_num, by rw [HLS ()], hbk, HYE2 () (HNH ()), HV⟩
                  case measure => simp [intOf]; omega
            · have hls : (s : Int) ≤ la := by omega
              have hno := HNO () (HLA () hla)
              have HN1 := fun _ : Unit => hno
              have hwb : IntKind.i64.wrap (s : Int) = (s : Int) := IntWalk.i64_in _ (by omega)
              clear hno HNO HE HLA HHI HYE HMA HLS
              go_wp2_with (go_at_call 18; refine (hF _ hLb).mono ?_; rintro e w2 ⟨rfl, HB2⟩; have L2 := hLb.trans (HB2.mono hLb.size))
              go_ret2
              rw [(HN1 ()).1, (HN1 ()).2]
              exact gints_none L2
          · have hFV2 : firstV m = .tuple #[.int .u8 0, .bool false] := (hFV ()).trans (if_neg hs)
            rw [hFV2] at hF
            clear hFV hFV2
            have hno := HNO () (HE () hs)
            have HN1 := fun _ : Unit => hno
            clear hno HNO HE HLA HHI HYE HMA HLS
            go_wp2_with (go_at_call 18; refine (hF _ hLb).mono ?_; rintro e w2 ⟨rfl, HB2⟩; have L2 := hLb.trans (HB2.mono hLb.size))
            go_ret2
            rw [(HN1 ()).1, (HN1 ()).2]
            exact gints_none L2
        · have e : j = n := by omega
          subst e
          have HD : Unit → classB L = covI (clsA L j) 256 := fun _ => by
            unfold classB
            rw [HLN (), HOK ()]
            rfl
          have HRR : Unit → classB L = true → classR L = (List.range 256).map (clsA L j) ∧ classE L = 0 := fun _ h => by
            unfold classR classE
            rw [h, HLN ()]
            exact ⟨rfl, rfl⟩
          have HN1 := fun _ : Unit => class_no (L := L)
          clear HR
          generalize clsA L j = f at *
          obtain ⟨w2, hw2⟩ : ∃ w2, w2 = wr := ⟨_, rfl⟩
          subst hw2
          go_wp2
          go_loopw [67] (fun i wv => ∃ k : Nat, k ≤ 256 ∧ i = .int .i64 k ∧ covI f k = true ∧ wv = w2) (fun i _ => 256 - (intOf i).toNat)
          case atStart => exact ⟨0, by omega, rfl, rfl, rfl⟩
          case round =>
            obtain ⟨k, hk, rfl, hcv, rfl⟩ := hrel
            have HCV := fun _ : Unit => hcv
            clear hcv
            by_cases hltk : k < 256
            · have hc := (hbk.cell k).trans (iCells_get _ k hltk)
              have HC1 := fun _ : Unit => covI_yes (f := f) k (HCV ())
              have HC0 := fun _ : Unit => covI_no (f := f) 256 k hltk
              generalize f k = fk at *
              by_cases hfk : fk < 0
              · have hno := HN1 () ((HD ()).trans (HC0 () hfk))
                have HN2 := fun _ : Unit => hno
                clear hno HN1 HC1 HC0
                go_wp2
                go_ret2
                rw [(HN2 ()).1, (HN2 ()).2]
                exact gints_none HB
              · have HC2 := fun _ : Unit => HC1 () (by omega)
                clear HC1 HC0
                go_wp2
                go_roundw
                case rel => exact ⟨k + 1, by omega, by go_num, HC2 (), trivial⟩
                case measure => simp [intOf]; omega
            · have e : k = 256 := by omega
              subst e
              have hyes := HRR () ((HD ()).trans (HCV ()))
              have HY := fun _ : Unit => hyes
              clear hyes HRR HN1
              go_wp2
              go_ret2
              rw [(HY ()).1, (HY ()).2]
              have hr := reads_blk (xs := intVals ((List.range 256).map f)) (by rw [intVals_iCells]; exact hbk)
              refine ⟨some ⟨w.heap.size, 0, none⟩, 256, ?_, ?_, ?_, ?_, HB⟩
              · rw [List.length_map, List.length_range]; rfl
              · rw [List.length_map, List.length_range]
                have e2 : (intVals ((List.range 256).map f)).length = 256 := by simp [intVals]
                rw [e2] at hr
                exact hr
              · rw [List.length_map, List.length_range]; exact Nat.le_refl _
              · unfold maxLen; omega

end Go.Proofs.YtbjgkolldmplkaaDoor
