/- The walks of pairs, Rise, the reference's Rise. -/
import Derived.Test.YtgaboipigdkefaaSpan10
namespace Go.Proofs.Ytgaboipigdkefaa
open Go.RowKit Go.Sort

/-- Do the first k pairs that stand side by side rise? -/
def riseTo (l : List (Int × Int)) : Nat → Bool
  | 0 => true
  | k + 1 => riseTo l k && le2 (l.getD k (0, 0)) (l.getD (k + 1) (0, 0))

theorem riseTo_no (l : List (Int × Int)) : ∀ (n k : Nat), k < n → le2 (l.getD k (0, 0)) (l.getD (k + 1) (0, 0)) = false → riseTo l n = false
  | 0, k, h, _ => by omega
  | n + 1, k, h, h2 => by
    rw [riseTo]
    by_cases e : k = n
    · subst e; rw [h2]; simp
    · rw [riseTo_no l n k (by omega) h2]; rfl

def rises (l : List (Int × Int)) : Bool := riseTo l (l.length - 1)

theorem getD_get (l : List (Int × Int)) (k : Nat) (h : k < l.length) : l.getD k (0, 0) = l[k] := by
  rw [List.getD_eq_getElem?_getD, List.getElem?_eq_getElem h]; rfl

set_option maxHeartbeats 8000000 in
theorem pairs_any (A : Option Addr) (n c B : Nat) (l : List (Int × Int)) (w : World) (HR0 : Reads w B 2 A n (spanVals l)) (hB : B ≤ w.heap.size) (hc : n ≤ c) (hm : c ≤ maxLen) :
    Calls Try.prog 41 #[.slice A n c, .func (.func 42) #[] #[]] w (Gives (.bool (rises l)) w) := by
  have HR := HR0.more hB
  have hn := HR.1
  rw [spanVals_length] at hn
  have hn2 : n = l.length := by omega
  subst hn2
  clear hn HR0
  unfold maxLen at hm
  go_enter Try.func41, Try.ntmps41
  go_wp2
  go_loopw [5] (fun ix wr => ∃ k q : Nat, q = k + 1 ∧ k ≤ l.length - 1 ∧ ix = .int .i64 (q : Int) ∧ riseTo l k = true ∧ Below w.heap.size w wr) (fun ix _ => l.length - (intOf ix).toNat)
  case atStart => exact ⟨0, 1, rfl, by omega, rfl, rfl, Below.refl _ _⟩
  case round =>
    obtain ⟨k, q, hq, hk, rfl, hall, HB⟩ := hrel
    by_cases hlt : q < l.length
    · have hkl : k < l.length := by omega
      obtain ⟨g, o, rfl, hgB, hck, hck'⟩ := span_cell (HR.below HB) k hkl
      obtain ⟨g', o', eq, _, hcq, hcq'⟩ := span_cell (HR.below HB) q hlt
      injection eq with eq
      injection eq with eq1 eq2 eq3
      subst eq1 eq2
      have hsub : IntKind.i64.wrap ((q : Int) - 1) = (k : Int) := by rw [IntWalk.i64_in _ (by omega)]; omega
      have EV : le2 (l.getD k (0, 0)) (l.getD (k + 1) (0, 0)) = le2 l[k] l[q] := by
        subst hq
        rw [getD_get l k hkl, getD_get l (k + 1) hlt]
      have EV' := Lib.hid EV
      clear EV
      have HQ := Lib.hid hq
      have HALL := Lib.hid hall
      have hcx := cell_regrown hck
      have hcx' := cell_regrown hck'
      have hcy := cell_regrown hcq
      have hcy' := cell_regrown hcq'
      clear hck hck' hcq hcq' hall
      generalize l[k] = p1 at *
      generalize l[q] = p2 at *
      have hC := rise1_any p1 p2
      have hkq : k < q := by omega
      clear hq
      cases hle : le2 p1 p2
      all_goals
        rw [hle] at hC
        have HLE := Lib.hid hle
        clear hle
        go_wp2
        refine wp_region_quiet_below (by kernel_rfl) (by kernel_rfl) ?_
        repeat (go_big_quiet_step ((go_at_call 42; exact gives_quiet (hC _))))
        refine wpQuiet_nil ?_
        intro w5 hw5
        have HB5 := below_of5 hw5
        have L5 := HB.trans (HB5.mono HB.size)
        clear hw5 hcx hcx' hcy hcy'
        go_wp2
      · go_ret
        exact ⟨by rw [show rises l = false from riseTo_no l _ k (by have := HQ.out; omega) (EV'.out.trans HLE.out)]; rfl, L5⟩
      · go_roundw
        case rel => exact ⟨k + 1, q + 1, by rw [HQ.out], by have := HQ.out; omega, by go_num, by rw [riseTo, HALL.out, EV'.out, HLE.out]; rfl, L5⟩
        case measure => simp [intOf]; omega
    · have e : rises l = true := by
        unfold rises
        rw [show l.length - 1 = k by omega]
        exact hall
      go_wp2
      go_ret
      exact ⟨by rw [e]; rfl, HB⟩

theorem rise_any (A : Option Addr) (n c B : Nat) (l : List (Int × Int)) (w : World) (HR0 : Reads w B 2 A n (spanVals l)) (hB : B ≤ w.heap.size) (hc : n ≤ c) (hm : c ≤ maxLen) :
    Calls Try.prog 33 #[.slice A n c] w (Gives (.bool (rises l)) w) := by
  have hP := pairs_any A n c B l w HR0 hB hc hm
  go_enter Try.func33, Try.ntmps33
  go_wp2_with (go_at_call 41; refine hP.mono ?_; rintro e w1 ⟨rfl, HB⟩)
  go_ret
  exact ⟨rfl, HB⟩

end Go.Proofs.Ytgaboipigdkefaa
