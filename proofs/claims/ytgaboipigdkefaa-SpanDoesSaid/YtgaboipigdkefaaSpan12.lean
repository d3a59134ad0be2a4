/- The walk of the reference's Rise. -/
import Derived.Test.YtgaboipigdkefaaSpan11
namespace Go.Proofs.Ytgaboipigdkefaa
open Go.RowKit Go.Sort

set_option maxHeartbeats 8000000 in
theorem rrise_any (A : Option Addr) (n c B : Nat) (l : List (Int × Int)) (w : World) (HR0 : Reads w B 2 A n (spanVals l)) (hB : B ≤ w.heap.size) (hc : n ≤ c) (hm : c ≤ maxLen) :
    Calls Try.prog 34 #[.slice A n c] w (Gives (.bool (rises l)) w) := by
  have HR := HR0.more hB
  have hn := HR.1
  rw [spanVals_length] at hn
  have hn2 : n = l.length := by omega
  subst hn2
  clear hn HR0
  unfold maxLen at hm
  go_enter Try.func34, Try.ntmps34
  go_wp2
  go_loopw [3] (fun ix wr => ∃ k : Nat, k ≤ l.length - 1 ∧ ix = .int .i64 (k : Int) ∧ riseTo l k = true ∧ Below w.heap.size w wr) (fun ix _ => l.length - (intOf ix).toNat)
  case atStart => exact ⟨0, by omega, rfl, rfl, Below.refl _ _⟩
  case round =>
    obtain ⟨k, hk, rfl, hall, HB⟩ := hrel
    by_cases hlt : k + 1 < l.length
    · obtain ⟨q, hq⟩ : ∃ q, q = k + 1 := ⟨_, rfl⟩
      have hkl : k < l.length := by omega
      have hql : q < l.length := by omega
      obtain ⟨g, o, rfl, hgB, hck, hck'⟩ := span_cell (HR.below HB) k hkl
      obtain ⟨g', o', eq, _, hcq, hcq'⟩ := span_cell (HR.below HB) q hql
      injection eq with eq
      injection eq with eq1 eq2 eq3
      subst eq1 eq2
      have hadd : IntKind.i64.wrap ((k : Int) + 1) = (q : Int) := by rw [IntWalk.i64_in _ (by omega)]; omega
      have EV : le2 (l.getD k (0, 0)) (l.getD (k + 1) (0, 0)) = le2 l[k] l[q] := by
        subst hq
        rw [getD_get l k hkl, getD_get l (k + 1) hlt]
      have EV' := Lib.hid EV
      clear EV
      have HQ := Lib.hid hq
      have HALL := Lib.hid hall
      clear hall hq
      generalize l[k] = p1 at *
      generalize l[q] = p2 at *
      obtain ⟨x1, y1⟩ := p1
      obtain ⟨x2, y2⟩ := p2
      have HL := Lib.hid (show le2 (x1, y1) (x2, y2) = (decide (x1 ≤ x2) && decide (y1 ≤ y2)) from rfl)
      by_cases ha : x1 ≤ x2
      · have hd : decide (x1 > x2) = false := by simp; omega
        by_cases hb : y1 ≤ y2
        · have hd2 : decide (y1 > y2) = false := by simp; omega
          go_wp2
          go_quiet (fail)
          clear hadd
          go_wp2
          go_roundw
          case rel => exact ⟨k + 1, by omega, by go_num, by rw [riseTo, HALL.out, EV'.out, HL.out]; simp [ha, hb], below_drewN HB _⟩
          case measure => simp [intOf]; omega
        · have hd2 : decide (y1 > y2) = true := by simp; omega
          go_wp2
          go_quiet (fail)
          clear hadd
          go_wp2
          go_ret
          exact ⟨by rw [show rises l = false from riseTo_no l _ k (by have := HQ.out; omega) (EV'.out.trans (by rw [HL.out]; simp [ha, hb]))]; rfl, below_drewN HB _⟩
      · have hd : decide (x1 > x2) = true := by simp; omega
        have HF := Lib.hid (show decide (x1 ≤ x2) = false by simp; omega)
        go_wp2
        go_quiet (fail)
        clear hadd
        go_wp2
        go_ret
        exact ⟨by rw [show rises l = false from riseTo_no l _ k (by have := HQ.out; omega) (EV'.out.trans (by rw [HL.out, HF.out]; rfl))]; rfl, below_drewN HB _⟩
    · have e : rises l = true := by
        unfold rises
        rw [show l.length - 1 = k by omega]
        exact hall
      go_wp2
      go_ret
      exact ⟨by rw [e]; rfl, HB⟩

end Go.Proofs.Ytgaboipigdkefaa
