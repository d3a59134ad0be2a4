/- The walk of the reference Sets of layer 2. -/
import Derived.Test.YtbjgkolldmplkaaDoorSetsF
import Derived.Test.YtbjgkolldmplkaaDoorClassP
import Derived.Test.YtbjgkolldmplkaaDoorBy
import Derived.Lib.MinMax
namespace Go.Proofs.YtbjgkolldmplkaaDoor
open Go.RowKit Go.Sort Go.Maps Go.WideMaps

theorem rsets_len (A : Option Addr) (n c : Nat) (w : World) (hn : n ≠ 256) :
    Calls Tryd.prog 29 #[.slice A n c] w (GSets [] 1 w) := by
  have h1 : ((n : Int) != 256) = true := by simp; omega
  have h2 : ((n : Int) == 256) = false := by rw [beq_eq_false_iff_ne]; omega
  have h3 : (n == 256) = false := by rw [beq_eq_false_iff_ne]; omega
  have h4 : (n != 256) = true := by simp [hn]
  clear hn
  go_enter Tryd.func29, Tryd.ntmps29
  go_wp2
  go_ret2
  exact gsets_none (Below.refl _ _)

theorem bCells_eqk (g : Nat → Nat) (k b : Nat) (x : Bool) (hx : x = (g b == k)) : (bCells (fun c => decide (c < b) && g c == k)).setIfInBounds b (.bool x) = bCells (fun c => decide (c < b + 1) && g c == k) := by
  subst hx
  unfold bCells boolVals bRow
  simp only [List.map_map]
  rw [List.setIfInBounds_toArray]
  congr 1
  apply List.ext_getElem?
  intro j
  rw [List.getElem?_set]
  by_cases hj : b = j
  · subst hj
    by_cases h : b < 256 <;> simp [h]
  · by_cases h : j < 256
    · have e : decide (j < b) = decide (j < b + 1) := by
        rw [Bool.eq_iff_iff]; simp; omega
      simp [h, hj, e]
    · simp [h, hj]

theorem bCells_eqk0 (g : Nat → Nat) (k : Nat) : bCells sNone = bCells (fun c => decide (c < 0) && g c == k) := by
  unfold bCells bRow sNone
  simp

/-- The first k parts. -/
def partsTo (g : Nat → Nat) (k : Nat) : List (Nat → Bool) := (List.range k).map fun i b => decide (b < 256) && g b == i

theorem partsTo_all (g : Nat → Nat) : partsTo g (nxN g 256) = partN g 256 := rfl
theorem partsTo_snoc (g : Nat → Nat) (k : Nat) : partsTo g (k + 1) = partsTo g k ++ [fun b => decide (b < 256) && g b == k] := by
  unfold partsTo
  rw [List.range_succ, List.map_append]
  rfl
theorem partsTo_length (g : Nat → Nat) (k : Nat) : (partsTo g k).length = k := by simp [partsTo]

theorem gI_eq {C : List Int} {b : Nat} (h : 0 ≤ C.getD b 0) (k : Nat) : (C.getD b 0 == (k : Int)) = (gI C b == k) := by
  unfold gI
  rw [Bool.eq_iff_iff, beq_iff_eq, beq_iff_eq]
  omega

theorem okI_pos (C : List Int) : ∀ n, okI C n = true → ∀ b, b < n → 0 ≤ C.getD b 0
  | 0, _, b, hb => absurd hb (by omega)
  | n + 1, h, b, hb => by
    rw [okI] at h
    simp only [Bool.and_eq_true, decide_eq_true_eq] at h
    by_cases e : b = n
    · subst e; exact h.2.1
    · exact okI_pos C n h.1 b (by omega)

set_option maxRecDepth 100000 in
set_option maxHeartbeats 16000000 in
theorem rsets_full (C : List Int) (A : Option Addr) (c B : Nat) (w : World) (HR0 : Reads w B 1 A 256 (intVals C)) (hB : B ≤ w.heap.size) :
    Calls Tryd.prog 29 #[.slice A 256 c] w (GSets (setsR C 256) (setsE C 256) w) := by
  have HR := HR0.more hB
  obtain ⟨i0, hi0, hz0, hz1, hz2⟩ := info_parts sets_info
  have hmk := made256
  clear HR0
  go_enter Tryd.func29, Tryd.ntmps29
  go_wp2
  go_loopw [4, 5] (fun mo i wr => ∃ k : Nat, k ≤ 256 ∧ i = .int .i64 k ∧ mo = .int .i64 (((nxN (gI C) k : Nat) : Int) - 1) ∧ okI C k = true ∧ Below w.heap.size w wr) (fun _ i _ => 256 - (intOf i).toNat)
  case atStart => exact ⟨0, by omega, rfl, rfl, rfl, Below.refl _ _⟩
  case round =>
    obtain ⟨k, hk, rfl, rfl, hok, HB⟩ := hrel
    have HOK := fun _ : Unit => hok
    clear hok
    by_cases hlt : k < 256
    · obtain ⟨g, o, rfl, hgB, hck⟩ := int_cell (HR.below HB) k hlt
      have HNO := fun (_ : Unit) h => sets_none C 256 fun hh => by rw [okI_no C 256 k hlt h] at hh; exact absurd hh.2 (by decide)
      have HYES := fun (_ : Unit) => okI_yes C k (HOK ())
      have hnx := nxN_le k (okI_rgs C k (HOK ()))
      have hgi : Unit → gI C k = (C.getD k 0).toNat := fun _ => rfl
      have hnxs : Unit → nxN (gI C) (k + 1) = max (nxN (gI C) k) (gI C k + 1) := fun _ => rfl
      generalize C.getD k 0 = x at *
      generalize hrr : nxN (gI C) k = r at *
      have HRR := fun _ : Unit => hrr
      clear hrr
      by_cases hx0 : x < 0
      · have hno := HNO () (by omega)
        have HN2 := fun _ : Unit => hno
        clear hno HNO HYES
        go_wp2
        go_ret2
        rw [(HN2 ()).1, (HN2 ()).2]
        exact gsets_none HB
      by_cases hx1 : (r : Int) < x
      · have hno := HNO () (by omega)
        have HN2 := fun _ : Unit => hno
        clear hno HNO HYES
        have hx2 : (r : Int) - 1 + 1 < x := by omega
        go_wp2
        go_ret2
        rw [(HN2 ()).1, (HN2 ()).2]
        exact gsets_none HB
      have hok2 := HYES () (by omega) (by omega)
      have HOK2 := fun _ : Unit => hok2
      have hx2 : ¬ (r : Int) - 1 + 1 < x := by omega
      have hmax : Unit → max ((r : Int) - 1) x = ((nxN (gI C) (k + 1) : Nat) : Int) - 1 := fun _ => by rw [hnxs (), hgi ()]; omega
      clear hok2 HNO HYES hmk
      go_wp2
      go_roundw
      case rel => exact ⟨k + 1, by omega, by go_num, by rw [← hmax ()], HOK2 (), HB⟩
      case measure => simp [intOf]; omega
    · have e : k = 256 := by omega
      subst e
      rw [show ((256 : Nat) : Int) = 256 from rfl]
      have e1 : setsR C 256 = partN (gI C) 256 := if_pos ⟨rfl, HOK ()⟩
      have e2 : setsE C 256 = 0 := if_pos ⟨rfl, HOK ()⟩
      have E1 := fun _ : Unit => e1
      have E2 := fun _ : Unit => e2
      have hnx := nxN_le 256 (okI_rgs C 256 (HOK ()))
      have hpos : Unit → ∀ b, b < 256 → 0 ≤ C.getD b 0 := fun _ => okI_pos C 256 (HOK ())
      have hall : Unit → partsTo (gI C) (nxN (gI C) 256) = partN (gI C) 256 := fun _ => partsTo_all _
      generalize hP : setsR C 256 = PR at *
      generalize hPE : setsE C 256 = PE at *
      generalize nxN (gI C) 256 = r at *
      clear hP hPE e1 e2
      have HEQ := fun (_ : Unit) (b : Nat) (hb : b < 256) (k : Nat) => gI_eq (hpos () b hb) k
      clear hpos
      generalize gI C = G at *
      have hr0 : 0 ≤ r := Nat.zero_le _
      go_wp2
      go_loopw [6, 7] (fun v kk wr => ∃ k : Nat, k ≤ r ∧ kk = .int .i64 k ∧ wr.ownsRow w.heap.size 35 4 v k (setVals (partsTo G k)) ∧ Below w.heap.size w wr) (fun _ kk _ => r - (intOf kk).toNat)
      case atStart => exact ⟨0, by omega, rfl, ⟨rfl, .inl ⟨rfl, rfl⟩⟩, HB⟩
      case round =>
        clear HB
        obtain ⟨k, hk, rfl, hown, HB⟩ := hrel
        obtain ⟨A5, c5, rfl, hrd, hrc, hrm⟩ := own_reads hown
        have hsz := HB.size
        by_cases hlt : k < r
        · have hd : decide ((k : Int) ≤ (r : Int) - 1) = true := by simp; omega
          obtain ⟨w1, hw1⟩ : ∃ w1, w1 = wr := ⟨_, rfl⟩
          subst hw1
          have HS := fun _ : Unit => partsTo_snoc G k
          have HST := fun (_ : Unit) b x hx => bCells_eqk G k b x hx
          have H0 := fun _ : Unit => bCells_eqk0 G k
          have HE := fun (_ : Unit) b hb => HEQ () b hb k
          go_wp2
          clear hd
          go_loopw [9] (fun i wv => ∃ j : Nat, j ≤ 256 ∧ i = .int .i64 j ∧ Blk wv w1.heap.size 4 (bCells (fun c => decide (c < j) && G c == k)) ∧ Below w1.heap.size w1 wv) (fun i _ => 256 - (intOf i).toNat)
          case atStart =>
            refine ⟨0, by omega, rfl, ?_, (Below.refl _ w1).alloc (Nat.le_refl _) _⟩
            rw [← H0 ()]
            exact Blk.new w1 _ _
          case round =>
            clear hrd H0 hmk
            obtain ⟨j, hj, rfl, hbk, HBV⟩ := hrel
            by_cases hjl : j < 256
            · obtain ⟨g, o, rfl, hgB, hck⟩ := int_cell (HR.below (HB.trans (HBV.mono hsz))) j hjl
              have he := HE () j hjl
              have HE2 := fun _ : Unit => he
              have hf := hbk.frozen j
              have hcb := (hbk.cell j).trans (bCells_get _ j hjl)
              simp only [Nat.lt_irrefl, decide_false, Bool.false_and] at hcb
              generalize C.getD j 0 = x at *
              clear he
              go_wp2
              go_roundw
              case rel =>
                refine ⟨j + 1, by omega, by go_num, ?_, HBV.setCell (by simp) _⟩
                rw [← HST () j _ (HE2 ())]
                exact hbk.set_ j _
              case measure => simp [intOf]; omega
            · have e : j = 256 := by omega
              subst e
              have hown5 := own_call hown HBV
              have hb2 := reads_blk (xs := boolVals (bRow (fun c => decide (c < 256) && G c == k))) hbk
              have el : (boolVals (bRow (fun c => decide (c < 256) && G c == k))).length = 256 := by simp [boolVals, bRow]
              rw [el] at hb2
              have HM := make_any (some ⟨w1.heap.size, 0, none⟩) 256 256 wr.heap.size (bRow (fun c => decide (c < 256) && G c == k)) wr hb2 (Nat.le_refl _) (bRow_length _) (Nat.le_refl _) (by decide)
              rw [sBools_bRow _ 0 (by decide), sBools_bRow _ 1 (by decide), sBools_bRow _ 2 (by decide), sBools_bRow _ 3 (by decide)] at HM
              clear hb2 el HST HE hown
              have hbs := HBV.size
              generalize hmm : (fun b => decide (b < 256) && G b == k) = mm at *
              clear hbk
              have HMH := Lib.hid HM
              clear HM
              go_wp2_with (first
                | (go_at_call 39
                   refine HMH.out.mono ?_; rintro e w2 ⟨rfl, HB2⟩
                   have hown6 := own_call hown5 HB2
                   have hfr := own_base hown6
                   have L2 : Below w.heap.size w w2 := (HB.trans (HBV.mono hsz)).trans (HB2.mono (by omega))
                   have hs2 := HB2.size
                   clear hown5)
                | (at_builtin
                   refine wpList_append_any _ rfl (.tmp 56) (.tmp 59) _ rfl w.heap.size 35 i0 _ 4 32 Tryd.underlying22 hi0 hz0 hz1 hz2 rfl (by omega) _ k _ rfl
                     (hown6.alloc _) _ _ 1 1 [.int .u64 ((word mm 0 : Nat) : Int), .int .u64 ((word mm 1 : Nat) : Int), .int .u64 ((word mm 2 : Nat) : Int), .int .u64 ((word mm 3 : Nat) : Int)] rfl (reads_blkN (xs := [.int .u64 ((word mm 0 : Nat) : Int), .int .u64 ((word mm 1 : Nat) : Int), .int .u64 ((word mm 2 : Nat) : Int), .int .u64 ((word mm 3 : Nat) : Int)]) (Blk.new w2 _ _) rfl) (by simp [Value.oneCell']) (by simp only [maxLen]; omega) (by omega) (by simp; omega) ?_
                   intro v3 wX hownX hg3 hat3
                   have LX : Below w.heap.size w wX := (L2.alloc (by omega) _).grown hg3 (by simp; omega) hfr
                   rw [setVals_snoc, ← HS ()] at hownX))
              go_roundw
              case rel => exact ⟨k + 1, by omega, by go_num, hownX, LX⟩
              case measure => simp [intOf]; omega
        · have e : k = r := by omega
          subst e
          have hd : decide ((k : Int) ≤ (k : Int) - 1) = false := by simp; omega
          go_wp2
          go_ret2
          refine ⟨A5, c5, ?_⟩
          rw [E1 (), E2 (), ← hall (), partsTo_length]
          exact ⟨rfl, hrd, hrc, hrm, HB⟩

theorem rsets_any (C : List Int) (A : Option Addr) (n c B : Nat) (w : World) (HR : Reads w B 1 A n (intVals C)) (hB : B ≤ w.heap.size) :
    Calls Tryd.prog 29 #[.slice A n c] w (GSets (setsR C n) (setsE C n) w) := by
  by_cases hn : n = 256
  · subst hn
    exact rsets_full C A c B w HR hB
  · obtain ⟨e1, e2⟩ := sets_none C n (fun h => hn h.1)
    rw [e1, e2]
    exact rsets_len A n c w hn

end Go.Proofs.YtbjgkolldmplkaaDoor
