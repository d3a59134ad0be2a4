/- The walks of HasPrefix, Strip, Count, awake. -/
import Derived.Test.YtgaboipigdkefaaText1
import Derived.Lib.Strings
namespace Go.Proofs.Ytgaboipigdkefaa
open Go.RowKit Go.Sort

/-- Does s begin with p? -/
def pre (p s : ByteArray) : Bool := Lib.hasPrefix s.data.toList p.data.toList

theorem pre_yes (s p : ByteArray) (h : p.size ≤ s.size) : ((s.extract 0 p.size).toList == p.toList) = pre p s := by
  unfold pre; rw [← Lib.hasPrefix_raw]; simp [h]
theorem pre_no (s p : ByteArray) (h : ¬ p.size ≤ s.size) : pre p s = false := by
  unfold pre; rw [← Lib.hasPrefix_raw]; simp [h]

set_option maxHeartbeats 400000 in
theorem slhp_any (s p : ByteArray) (w : World) (hs : s.size ≤ maxLen) (hp : p.size ≤ maxLen) :
    Calls Try.prog 43 #[.string s, .string p] w (Gives (.bool (pre p s)) w) := by
  unfold maxLen at hs hp
  by_cases h : p.size ≤ s.size
  · go_enter Try.func43, Try.ntmps43
    go_wp2
    go_ret
    exact ⟨by simp [pre_yes s p h], Below.refl _ _⟩
  · go_enter Try.func43, Try.ntmps43
    go_wp2
    go_ret
    exact ⟨by simp [pre_no s p h], Below.refl _ _⟩

theorem hp_any (s p : ByteArray) (w : World) (hs : s.size ≤ maxLen) (hp : p.size ≤ maxLen) :
    Calls Try.prog 36 #[.string s, .string p] w (Gives (.bool (pre p s)) w) := by
  go_enter Try.func36, Try.ntmps36
  go_wp2_with (go_at_call 43; refine (slhp_any _ _ _ hs hp).mono ?_; rintro e w' ⟨rfl, HB⟩)
  go_ret
  exact ⟨rfl, HB⟩

/-- At how many of the first k places p stands. -/
def cntTo (s p : ByteArray) (k : Nat) : Nat := ((List.range k).filter fun i => pre p (s.extract i s.size)).length

theorem cntTo_le (s p : ByteArray) (k : Nat) : cntTo s p k ≤ k := by
  have := List.length_filter_le (fun i => pre p (s.extract i s.size)) (List.range k)
  simpa [cntTo] using this

theorem cntTo_succ (s p : ByteArray) (k : Nat) : cntTo s p (k + 1) = cntTo s p k + if pre p (s.extract k s.size) then 1 else 0 := by
  unfold cntTo
  rw [List.range_succ, List.filter_append, List.length_append]
  cases h : pre p (s.extract k s.size) <;> simp [List.filter_cons, h]

set_option maxHeartbeats 400000 in
theorem count_any (s p : ByteArray) (w : World) (hs : s.size < maxLen) (hp : p.size ≤ maxLen) :
    Calls Try.prog 25 #[.string s, .string p] w (Gives (.int .i64 (cntTo s p (s.size + 1))) w) := by
  have hs' := hs
  unfold maxLen at hs'
  go_enter Try.func25, Try.ntmps25
  go_wp2
  go_loopw [5, 6, 10] (fun n _ i wr => ∃ k : Nat, k ≤ s.size + 1 ∧ i = .int .i64 k ∧ n = .int .i64 (cntTo s p k) ∧ Below w.heap.size w wr) (fun _ _ i _ => s.size + 1 - (intOf i).toNat)
  case atStart => exact ⟨0, by omega, rfl, by simp [cntTo], Below.refl _ _⟩
  case round =>
    obtain ⟨k, hk, rfl, rfl, HB⟩ := hrel
    have hb := cntTo_le s p k
    by_cases hlt : k < s.size + 1
    · have hle : (s.extract k s.size).size ≤ maxLen := by simp only [ByteArray.size_extract]; omega
      have hq := cntTo_succ s p k
      have HQ := Lib.hid hq; clear hq
      cases hb' : pre p (s.extract k s.size)
      all_goals
        have HP := Lib.hid hb'; clear hb'
        go_wp2_with (go_at_call 36; refine (hp_any _ _ _ hle hp).mono ?_; rintro e w' ⟨rfl, HB2⟩; rw [HP.out])
        go_roundw
        case rel => exact ⟨k + 1, by omega, by go_num, by rw [HQ.out, HP.out]; first | rfl | go_num, below_then HB HB2⟩
        case measure => simp [intOf]; omega
    · have : k = s.size + 1 := by omega
      subst this
      go_wp2
      go_ret
      exact ⟨rfl, HB⟩

end Go.Proofs.Ytgaboipigdkefaa
