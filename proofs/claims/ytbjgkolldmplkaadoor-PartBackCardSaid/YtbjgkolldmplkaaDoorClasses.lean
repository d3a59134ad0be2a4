/- The walk of the reference classes of layer 2. -/
import Derived.Test.YtbjgkolldmplkaaDoorAlike
import Derived.Test.YtbjgkolldmplkaaDoorRRowsP
namespace Go.Proofs.YtbjgkolldmplkaaDoor
open Go.RowKit Go.Sort

/-- The first of those from j on that p lets in; all of them: none. -/
def atFrom (l : List Nat) (p : Nat → Bool) (j : Nat) : Nat := j + (l.drop j).findIdx p

theorem atFrom_end (l : List Nat) (p : Nat → Bool) : atFrom l p l.length = l.length := by simp [atFrom]
theorem atFrom_zero (l : List Nat) (p : Nat → Bool) : atFrom l p 0 = l.findIdx p := by simp [atFrom]
theorem atFrom_step (l : List Nat) (p : Nat → Bool) (j : Nat) (hj : j < l.length) : atFrom l p j = if p (l.getD j 0) then j else atFrom l p (j + 1) := by
  have e : l.getD j 0 = l[j] := getD_nat l j hj
  unfold atFrom
  rw [List.drop_eq_getElem_cons hj, List.findIdx_cons, e]
  cases p l[j]
  · simp only [cond_false, Bool.false_eq_true, if_false]; omega
  · simp

theorem atFrom_le (l : List Nat) (p : Nat → Bool) (j : Nat) (hj : j ≤ l.length) : atFrom l p j ≤ l.length := by
  unfold atFrom
  have := List.findIdx_le_length (p := p) (xs := l.drop j)
  rw [List.length_drop] at this
  omega

/-- Numbers as a row of ints. -/
def natI (l : List Nat) : List Int := l.map fun (n : Nat) => (n : Int)

theorem natI_getD (l : List Nat) (j : Nat) : (natI l).getD j 0 = ((l.getD j 0 : Nat) : Int) := by
  unfold natI
  rw [List.getD_eq_getElem?_getD, List.getD_eq_getElem?_getD, List.getElem?_map]
  cases l[j]? <;> rfl

theorem firsts_lt (K : Nat → List Bool) : ∀ n, ∀ a ∈ firsts K n, a < n
  | 0, a, h => by simp [firsts] at h
  | n + 1, a, h => by
    rw [firsts] at h
    split at h
    · have := firsts_lt K n a h; omega
    · rcases List.mem_append.1 h with h | h
      · have := firsts_lt K n a h; omega
      · have : a = n := by simpa using h
        omega

theorem firsts_getD (K : Nat → List Bool) (n j : Nat) (hn : 0 < n) : (firsts K n).getD j 0 < n := by
  rw [List.getD_eq_getElem?_getD]
  cases h : (firsts K n)[j]? with
  | none => exact hn
  | some a => exact firsts_lt K n a (List.mem_of_getElem? h)

/-- The classes of 256 bytes. -/
def clsL (K : Nat → List Bool) : List Int := (List.range 256).map fun b => ((cl K b : Nat) : Int)

theorem firsts_new (K : Nat → List Bool) (n : Nat) (h : cl K n = (firsts K n).length) : firsts K (n + 1) = firsts K n ++ [n] := by
  rw [firsts, if_neg]
  intro hh
  have := cl_old K n hh
  omega
theorem firsts_old (K : Nat → List Bool) (n : Nat) (h : cl K n ≠ (firsts K n).length) : firsts K (n + 1) = firsts K n := by
  rw [firsts, if_pos]
  cases hh : (firsts K n).any (fun a => K a == K n)
  · exact absurd (cl_new K n hh) h
  · rfl

theorem clsF_step (K : Nat → List Bool) (b : Nat) : (iCells (fun c => if c < b then ((cl K c : Nat) : Int) else 0)).setIfInBounds b (.int .i64 ((cl K b : Nat) : Int)) = iCells (fun c => if c < b + 1 then ((cl K c : Nat) : Int) else 0) := by
  rw [iCells_set]
  refine iCells_congr fun c _ => ?_
  by_cases e : c = b
  · subst e; simp
  · have : (c < b + 1) = (c < b) := by apply propext; omega
    simp only [e, if_false, this]

set_option maxRecDepth 100000 in
set_option maxHeartbeats 16000000 in
theorem classes_any (L : List (Nat → Bool)) (A : Option Addr) (n c B : Nat) (w : World) (HR0 : Reads w B 4 A n (setVals L)) (hB : B ≤ w.heap.size) (hm : n ≤ 100000) :
    Calls Tryd.prog 34 #[.slice A n c] w fun e W' => ∃ A' c', e = .returned (.slice A' 256 c') ∧ Reads W' W'.heap.size 1 A' 256 (intVals (clsL (keyL L))) ∧ 256 ≤ c' ∧ c' ≤ maxLen ∧ Below w.heap.size w W' := by
  have HR := HR0.more hB
  obtain ⟨i0, hi0, hz0, hz1, hz2⟩ := info_parts int_info
  have hmk := madeI256
  have HALK := fun (a b : Nat) (ha : a < 256) (hb : b < 256) (W : World) (hW : Below w.heap.size w W) => alike_any L A n c _ a b W (HR.below hW) hW.size hm ha hb
  clear HR0 HR
  generalize keyL L = K at *
  go_enter Tryd.func34, Tryd.ntmps34
  go_wp2
  go_loopw [4, 5] (fun v i wr => ∃ b : Nat, b ≤ 256 ∧ i = .int .i64 b ∧ wr.ownsRow (w.heap.size + 1) 3 1 v (firsts K b).length (intVals (natI (firsts K b))) ∧ Blk wr w.heap.size 3 (iCells (fun c => if c < b then ((cl K c : Nat) : Int) else 0)) ∧ Below w.heap.size w wr) (fun _ i _ => 256 - (intOf i).toNat)
  case atStart => exact ⟨0, by omega, rfl, ⟨rfl, .inl ⟨rfl, rfl⟩⟩, Blk.new w _ _, (Below.refl _ _).alloc (Nat.le_refl _) _⟩
  case round =>
    clear hmk
    obtain ⟨b, hb, rfl, hown, hbk, HB⟩ := hrel
    obtain ⟨A5, c5, rfl, hrd, hrc, hrm⟩ := own_reads hown
    by_cases hlt : b < 256
    · have HAK := fun (a : Nat) (ha : a < 256) => HALK a b ha hlt
      have HFL := fun (_ : Unit) (j : Nat) (h : 0 < b) => firsts_getD K b j h
      have hlen : Unit → (firsts K b).length ≤ b := fun _ => by rw [firsts_length]; exact nxN_le b (cl_rgs K b)
      have HST := fun (_ : Unit) => clsF_step K b
      have HNEW := fun (_ : Unit) => firsts_new K b
      have HOLD := fun (_ : Unit) => firsts_old K b
      have HAE := fun (_ : Unit) => atFrom_end (firsts K b) (fun a => K a == K b)
      have HAS := fun (_ : Unit) => atFrom_step (firsts K b) (fun a => K a == K b)
      have HAL := fun (_ : Unit) => atFrom_le (firsts K b) (fun a => K a == K b)
      have HA0 : Unit → atFrom (firsts K b) (fun a => K a == K b) 0 = cl K b := fun _ => atFrom_zero _ _
      have hl2 := hlen ()
      have hbase := hbk.lt
      have hbm : w.heap.size + 1 ≤ wr.heap.size := hbase
      generalize firsts K b = fs at *
      generalize hln : fs.length = ln at *
      have HLN := fun _ : Unit => hln
      clear hln hlen
      obtain ⟨w1, hw1⟩ : ∃ w1, w1 = wr := ⟨_, rfl⟩
      subst hw1
      have hdb : decide ((b : Int) < 256) = true := by simp; omega
      go_wp2
      clear hdb
      go_loopw [6, 7] (fun at' kk wv => ∃ j : Nat, j ≤ ln ∧ kk = .int .i64 ((j : Int) - 1) ∧ at' = .int .i64 ((atFrom fs (fun a => K a == K b) j : Nat) : Int) ∧ wv.ownsRow (w.heap.size + 1) 3 1 (.slice A5 ln c5) ln (intVals (natI fs)) ∧ Blk wv w.heap.size 3 (iCells (fun c => if c < b then ((cl K c : Nat) : Int) else 0)) ∧ Below w.heap.size w wv) (fun _ kk _ => (intOf kk + 1).toNat)
      case atStart =>
        refine ⟨ln, by omega, rfl, ?_, hown, hbk, HB⟩
        rw [HAE ()]
      case round =>
        clear hown hbk HB hrd
        obtain ⟨j, hj, rfl, rfl, hown, hbk, HB⟩ := hrel
        have hsz := HB.size
        obtain ⟨_, _, hA5, hrd, _, _⟩ := own_reads hown
        injection hA5 with hA5 _ hc5
        subst hA5 hc5
        by_cases hj0 : 0 < j
        · obtain ⟨q, rfl⟩ : ∃ q, j = q + 1 := ⟨j - 1, by omega⟩
          obtain ⟨g, o, rfl, hgB, hck⟩ := int_cell hrd q (by omega)
          rw [natI_getD] at hck
          have hfb := HFL () q (by omega)
          have hst := HAS () q (by omega)
          have HS := fun _ : Unit => hst
          have HC := HAK (fs.getD q 0) (by omega)
          clear hst
          generalize fs.getD q 0 = a at *
          have hx : ((q + 1 : Nat) : Int) - 1 = (q : Int) := by omega
          rw [hx]
          cases hkk : (K a == K b)
          · rw [hkk] at HC
            have HKK := fun _ : Unit => hkk
            clear hkk
            go_wp2_with (go_at_call 42; refine (HC _ HB).mono ?_; rintro e w3 ⟨rfl, HB3⟩)
            go_roundw
            case rel => exact ⟨q, by omega, rfl, by rw [HS (), HKK ()]; rfl, own_call hown HB3, hbk.below HB3 hbk.lt, HB.trans (HB3.mono hsz)⟩
            case measure => simp [intOf]
          · rw [hkk] at HC
            have HKK := fun _ : Unit => hkk
            clear hkk
            go_wp2_with (go_at_call 42; refine (HC _ HB).mono ?_; rintro e w3 ⟨rfl, HB3⟩)
            go_roundw
            case rel => exact ⟨q, by omega, rfl, by rw [HS (), HKK ()]; rfl, own_call hown HB3, hbk.below HB3 hbk.lt, HB.trans (HB3.mono hsz)⟩
            case measure => simp [intOf]
        · have e : j = 0 := by omega
          subst e
          rw [HA0 ()]
          have hat : cl K b ≤ ln := by
            have := HAL () 0 (by omega)
            rw [HA0 ()] at this
            exact this
          have hf := hbk.frozen b
          have hcb := (hbk.cell b).trans (iCells_get _ b hlt)
          simp only [Nat.lt_irrefl, if_false] at hcb
          have hfr := own_base hown
          have hbm2 : w.heap.size + 1 ≤ wr.heap.size := hbk.lt
          rw [show (((0 : Nat) : Int) - 1) = -1 from rfl]
          by_cases hnew : cl K b = ln
          · have HN := fun _ : Unit => HNEW () hnew
            have HX := fun _ : Unit => hnew
            have hstp := HST ()
            rw [hnew] at hstp ⊢
            have HSTP := fun _ : Unit => hstp
            clear hstp hnew HNEW HOLD HST hat
            go_wp2_with (at_builtin
                         refine wpList_append_any _ rfl (.tmp 34) (.tmp 36) _ rfl (w.heap.size + 1) 3 i0 _ 1 8 Tryd.underlying26 hi0 hz0 hz1 hz2 rfl (by omega) _ ln _ rfl
                           (hown.alloc _) _ _ 1 1 [.int .i64 (b : Int)] rfl (reads_blk (xs := [.int .i64 (b : Int)]) (Blk.new wr _ _)) (by simp [Value.oneCell']) (by simp only [maxLen]; omega) (by omega) (by simp; omega) ?_
                         intro v4 w4 hown4 hg4 hat4
                         have L4 : Below w.heap.size w w4 := (HB.alloc hsz _).grown hg4 (by simp; omega) (fun g hg => by have := hfr g hg; omega)
                         have hne4 : some w.heap.size ≠ (Value.slice A5 ln c5).ownBlock := fun e => by have := hfr _ e.symm; omega
                         have hbk4 := (hbk.alloc (.cells #[.int .i64 (b : Int)] 3)).grown hg4 hne4
                         have hcb4 := (hbk4.cell b).trans ((hbk.cell b).symm.trans hcb)
                         have hf4 := hbk4.frozen b
                         rw [intVals_snoc] at hown4)
            go_roundw
            case rel =>
              refine ⟨b + 1, by omega, by go_num, ?_, by rw [← HSTP ()]; exact hbk4.set_ b _, L4.setCell (by simp) _⟩
              rw [HN (), List.length_append, HLN ()]
              have e9 : natI (fs ++ [b]) = natI fs ++ [(b : Int)] := by simp [natI]
              rw [e9]
              exact ownsRow_setCell_below hown4 (by simp) _
            case measure => simp [intOf]; omega
          · have HN := fun _ : Unit => HOLD () hnew
            have hn1 : ((cl K b : Int) == (ln : Int)) = false := by rw [beq_eq_false_iff_ne]; omega
            have hn2 : (cl K b == ln) = false := by rw [beq_eq_false_iff_ne]; exact hnew
            have hstp := HST ()
            have HSTP := fun _ : Unit => hstp
            clear hstp hnew HNEW HOLD HST
            generalize cl K b = q at *
            go_wp2
            go_roundw
            case rel =>
              refine ⟨b + 1, by omega, by go_num, ?_, by rw [← HSTP ()]; exact hbk.set_ b _, HB.setCell (by simp) _⟩
              rw [HN (), HLN ()]
              exact ownsRow_setCell_below hown (by simp) _
            case measure => simp [intOf]; omega
    · have e : b = 256 := by omega
      subst e
      rw [iCells_congr (g := fun b => ((cl K b : Nat) : Int)) (fun c hc => by simp [hc])] at hbk
      go_wp2
      go_ret
      have hr := reads_blk (xs := intVals (clsL K)) (by unfold clsL; rw [intVals_iCells]; exact hbk)
      have e2 : (intVals (clsL K)).length = 256 := by simp [intVals, clsL]
      rw [e2] at hr
      exact ⟨some ⟨w.heap.size, 0, none⟩, 256, rfl, hr, Nat.le_refl _, by decide, HB⟩

end Go.Proofs.YtbjgkolldmplkaaDoor
