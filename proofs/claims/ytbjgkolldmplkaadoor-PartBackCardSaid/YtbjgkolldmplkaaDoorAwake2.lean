/- The walk of layer 2's awake. -/
import Derived.Test.YtbjgkolldmplkaaDoorRParts
namespace Go.Proofs.YtbjgkolldmplkaaDoor
open Go.RowKit Go.Sort

/-- The example's classes. -/
def gEx (b : Nat) : Nat := if b = 97 then 1 else if b = 98 then 2 else 0
def lEx : List (Nat → Bool) := [sOf [97], sOf [97, 98]]

theorem gEx_rgs : Rgs gEx 256 := fun b hb => by
  by_cases h1 : b = 97
  · subst h1; exact (by kernel_rfl : Nat.ble (gEx 97) (nxN gEx 97) = true) |> Nat.le_of_ble_eq_true
  · by_cases h2 : b = 98
    · subst h2; exact (by kernel_rfl : Nat.ble (gEx 98) (nxN gEx 98) = true) |> Nat.le_of_ble_eq_true
    · unfold gEx
      rw [if_neg h1, if_neg h2]
      exact Nat.zero_le _

theorem lEx_keys (a b : Nat) : keyL lEx a = keyL lEx b ↔ gEx a = gEx b := by
  have h : ∀ c, keyL lEx c = [decide (c = 97), decide (c = 97) || decide (c = 98)] := fun c => by
    simp [keyL, lEx, sOf]
  rw [h, h]
  unfold gEx
  by_cases h1 : a = 97 <;> by_cases h2 : a = 98 <;> by_cases h3 : b = 97 <;> by_cases h4 : b = 98 <;> simp [h1, h2, h3, h4] <;> omega

theorem lEx_cl {b : Nat} (hb : b < 256) : cl (keyL lEx) b = gEx b := (cl_eq 256 gEx_rgs fun a b _ _ => lEx_keys a b).2.2 b hb

theorem lEx_part : partN (cl (keyL lEx)) 256 = partN gEx 256 := partN_congr 256 fun _ hb => lEx_cl hb
theorem lEx_three : (partN gEx 256).length = 3 := by
  rw [partN_length]
  have h : nxN gEx 256 ≤ 3 := nxN_bound 256 fun b _ => by unfold gEx; split <;> (try split) <;> omega
  have := nxN_gt gEx (show 98 < 256 by omega)
  have e : gEx 98 = 2 := rfl
  omega

set_option maxRecDepth 100000 in
set_option maxHeartbeats 8000000 in
theorem awake2_any (w : World) (hT : ∀ W, Below w.heap.size w W → TabD W) :
    Calls Tryd.prog 13 #[] w (Gives (.bool true) w) := by
  have HP : ∀ (W : World) (A : Option Addr) (c B : Nat), Reads W B 4 A 2 (setVals lEx) → B ≤ W.heap.size → Calls Tryd.prog 9 #[.slice A 2 c] W (GSets (partN gEx 256) 0 W) := fun W A c B h hB => by
    rw [← lEx_part]
    exact parts_any lEx A 2 c B W h hB (by omega)
  have HC : ∀ (W : World) (A : Option Addr) (c : Nat), Below w.heap.size w W → Reads W W.heap.size 4 A 3 (setVals (partN gEx 256)) → Calls Tryd.prog 11 #[.slice A 3 c] W (GInts (clsG gEx) 0 W) := fun W A c hW h => by
    obtain ⟨e1, e2⟩ := classR_part (part_isPart gEx_rgs)
    have := class_any (partN gEx 256) A 3 c _ W h (Nat.le_refl _) (by decide) fun W' h' => hT W' (hW.trans (h'.mono hW.size))
    rw [e1, e2] at this
    exact this
  have h96 := clsG_getD gEx (show 96 < 256 by omega)
  have h97 := clsG_getD gEx (show 97 < 256 by omega)
  have h98 := clsG_getD gEx (show 98 < 256 by omega)
  have h99 := clsG_getD gEx (show 99 < 256 by omega)
  have hlen := lEx_three
  have hcl := clsG_length gEx
  go_enter Tryd.func13, Tryd.ntmps13
  have HO1 : ∀ (W : World), Calls Tryd.prog 33 #[.slice (some ⟨W.heap.size, 0, none⟩) 1 1] (W.alloc (.cells #[.int .u8 97] 5)) (Gives (.agg #[.int .u64 ((word ((sOf [97])) 0 : Nat) : Int), .int .u64 ((word ((sOf [97])) 1 : Nat) : Int), .int .u64 ((word ((sOf [97])) 2 : Nat) : Int), .int .u64 ((word ((sOf [97])) 3 : Nat) : Int)]) (W.alloc (.cells #[.int .u8 97] 5))) := fun W => of_any _ 1 1 _ [97] _ (reads_blk (xs := [.int .u8 97]) (Blk.new W _ _)) (Nat.le_refl _) (by simp) (Nat.le_refl _) (by decide)
  have HO2 : ∀ (W : World), Calls Tryd.prog 33 #[.slice (some ⟨W.heap.size, 0, none⟩) 2 2] (W.alloc (.cells #[.int .u8 97, .int .u8 98] 5)) (Gives (.agg #[.int .u64 ((word ((sOf [97, 98])) 0 : Nat) : Int), .int .u64 ((word ((sOf [97, 98])) 1 : Nat) : Int), .int .u64 ((word ((sOf [97, 98])) 2 : Nat) : Int), .int .u64 ((word ((sOf [97, 98])) 3 : Nat) : Int)]) (W.alloc (.cells #[.int .u8 97, .int .u8 98] 5))) := fun W => of_any _ 2 2 _ [97, 98] _ (reads_blk (xs := [.int .u8 97, .int .u8 98]) (Blk.new W _ _)) (Nat.le_refl _) (by simp) (Nat.le_refl _) (by decide)
  have HV : setVals lEx = [.int .u64 ((word (sOf [97]) 0 : Nat) : Int), .int .u64 ((word (sOf [97]) 1 : Nat) : Int), .int .u64 ((word (sOf [97]) 2 : Nat) : Int), .int .u64 ((word (sOf [97]) 3 : Nat) : Int), .int .u64 ((word (sOf [97, 98]) 0 : Nat) : Int), .int .u64 ((word (sOf [97, 98]) 1 : Nat) : Int), .int .u64 ((word (sOf [97, 98]) 2 : Nat) : Int), .int .u64 ((word (sOf [97, 98]) 3 : Nat) : Int)] := rfl
  rw [HV] at HP
  have g96 : gEx 96 = 0 := rfl
  have g97 : gEx 97 = 1 := rfl
  have g98 : gEx 98 = 2 := rfl
  have g99 : gEx 99 = 0 := rfl
  rw [g96] at h96
  rw [g97] at h97
  rw [g98] at h98
  rw [g99] at h99
  clear g96 g97 g98 g99 HV
  generalize sOf [97] = q1 at *
  generalize sOf [97, 98] = q2 at *
  have HLC := fun _ : Unit => hcl
  have HLN := fun _ : Unit => hlen
  clear hcl hlen
  generalize partN gEx 256 = P at *
  generalize clsG gEx = C at *
  have HPP := fun (W : World) (h : Below w.heap.size w W) => HP _ _ 2 _ (reads_blkN (xs := [.int .u64 ((word q1 0 : Nat) : Int), .int .u64 ((word q1 1 : Nat) : Int), .int .u64 ((word q1 2 : Nat) : Int), .int .u64 ((word q1 3 : Nat) : Int), .int .u64 ((word q2 0 : Nat) : Int), .int .u64 ((word q2 1 : Nat) : Int), .int .u64 ((word q2 2 : Nat) : Int), .int .u64 ((word q2 3 : Nat) : Int)]) (Blk.new W 35 _) rfl) (Nat.le_refl _)
  clear HP
  have hO1 := Lib.hid HO1
  have hO2 := Lib.hid HO2
  have hPP := Lib.hid HPP
  have hC := Lib.hid HC
  clear HO1 HO2 HPP HC
  go_wp2_with fail
  with_reducible refine Calls.mono (hO1.out _) ?_
  rintro e w1 ⟨rfl, HB1⟩
  have L1 := ((Below.refl _ w).alloc (Nat.le_refl _) (.cells #[.int .u8 97] 5)).trans (HB1.mono (by simp))
  go_wp2_with fail
  with_reducible refine Calls.mono (hO2.out _) ?_
  rintro e w2 ⟨rfl, HB2⟩
  have L2 := (L1.alloc L1.size (.cells #[.int .u8 97, .int .u8 98] 5)).trans (HB2.mono (by have := L1.size; simp; omega))
  clear HB1 HB2 L1
  go_wp2_with fail
  refine (hPP.out _ L2).mono ?_
  rintro e w3 ⟨A3, c3, rfl, HR3, hc3, hm3, HB3⟩
  rw [HLN ()] at HR3 hc3
  have L3 := (L2.alloc L2.size (.cells #[.int .u64 ((word q1 0 : Nat) : Int), .int .u64 ((word q1 1 : Nat) : Int), .int .u64 ((word q1 2 : Nat) : Int), .int .u64 ((word q1 3 : Nat) : Int), .int .u64 ((word q2 0 : Nat) : Int), .int .u64 ((word q2 1 : Nat) : Int), .int .u64 ((word q2 2 : Nat) : Int), .int .u64 ((word q2 3 : Nat) : Int)] 35)).trans (HB3.mono (by have := L2.size; simp; omega))
  clear L2 HB3
  rw [HLN ()]
  go_wp2_with fail
  refine (hC.out _ _ _ L3 HR3).mono ?_
  rintro e w4 ⟨A4, c4, rfl, HR4, hc4, hm4, HB4⟩
  rw [HLC ()] at HR4 hc4
  have L4 := L3.trans (HB4.mono L3.size)
  rw [HLC ()]
  obtain ⟨g, o, rfl, hgB, k96⟩ := int_cell HR4 96 (by omega)
  obtain ⟨g', o', eq1, hgB', k97⟩ := int_cell HR4 97 (by omega)
  injection eq1 with eq1
  injection eq1 with eq1 eq2 eq3
  subst eq1 eq2
  obtain ⟨g', o', eq1, hgB', k98⟩ := int_cell HR4 98 (by omega)
  injection eq1 with eq1
  injection eq1 with eq1 eq2 eq3
  subst eq1 eq2
  obtain ⟨g', o', eq1, hgB', k99⟩ := int_cell HR4 99 (by omega)
  injection eq1 with eq1
  injection eq1 with eq1 eq2 eq3
  subst eq1 eq2
  rw [h96] at k96
  rw [h97] at k97
  rw [h98] at k98
  rw [h99] at k99
  clear hO1 hO2 hPP hC HR3 HR4 L3 HB4 hT h96 h97 h98 h99
  go_wp2
  go_ret
  exact ⟨rfl, L4⟩

end Go.Proofs.YtbjgkolldmplkaaDoor
