/- The walk of awake of layer 3. -/
import Derived.Test.YtgaboipigdkefaaText2
namespace Go.Proofs.Ytgaboipigdkefaa
open Go.RowKit Go.Sort

theorem reads_new (w : World) (xs : List Value) (t : TypeId) (h : 0 < xs.length) :
    Reads (w.alloc (.cells xs.toArray t)) (w.alloc (.cells xs.toArray t)).heap.size 1 (some ⟨w.heap.size, 0, none⟩) xs.length xs := by
  refine ⟨by simp, fun _ => ⟨_, rfl, by simp, fun j u hu => ?_⟩⟩
  have hb := Blk.new w t xs.toArray
  have := hb.cell j
  rw [show (⟨w.heap.size, 0, none⟩ : Addr).add j = ⟨w.heap.size, j, none⟩ from by unfold Addr.add; split <;> simp_all]
  rw [this]
  simpa using hu

theorem lag_awake (w : World) : Calls Try.prog 10 #[.string ⟨#[97, 98, 99]⟩, .string ⟨#[97, 98, 100]⟩] w (Gives (.tuple #[.string ⟨#[99]⟩, .string ⟨#[100]⟩]) w) := by
  have h := lag_any ⟨#[97, 98, 99]⟩ ⟨#[97, 98, 100]⟩ w (by decide) (by decide)
  have e : (Value.tuple #[.string ((⟨#[97, 98, 99]⟩ : ByteArray).extract (lcpN (⟨#[97, 98, 99]⟩ : ByteArray).data.toList (⟨#[97, 98, 100]⟩ : ByteArray).data.toList) (⟨#[97, 98, 99]⟩ : ByteArray).size), .string ((⟨#[97, 98, 100]⟩ : ByteArray).extract (lcpN (⟨#[97, 98, 99]⟩ : ByteArray).data.toList (⟨#[97, 98, 100]⟩ : ByteArray).data.toList) (⟨#[97, 98, 100]⟩ : ByteArray).size)]) = (.tuple #[.string ⟨#[99]⟩, .string ⟨#[100]⟩]) := by kernel_rfl
  rw [e] at h
  exact h

theorem count_awake (w : World) : Calls Try.prog 25 #[.string ⟨#[97, 97, 97]⟩, .string ⟨#[97, 97]⟩] w (Gives (.int .i64 2) w) := by
  have h := count_any ⟨#[97, 97, 97]⟩ ⟨#[97, 97]⟩ w (by decide) (by decide)
  have e : (Value.int .i64 (cntTo ⟨#[97, 97, 97]⟩ ⟨#[97, 97]⟩ ((⟨#[97, 97, 97]⟩ : ByteArray).size + 1))) = .int .i64 2 := by kernel_rfl
  rw [e] at h
  exact h

theorem lcp_three (w : World) (x y z : ByteArray) (hx : x.size ≤ maxLen) (hy : y.size ≤ maxLen) (hz : z.size ≤ maxLen) :
    Calls Try.prog 11 #[.slice (some ⟨w.heap.size, 0, none⟩) 3 3] (w.alloc (.cells #[.string x, .string y, .string z] 9)) (Gives (.string (lcpB x [y, z])) (w.alloc (.cells #[.string x, .string y, .string z] 9))) :=
  lcp_cons (some ⟨w.heap.size, 0, none⟩) 3 x [y, z] _ (reads_new w [.string x, .string y, .string z] _ (by simp)) (by simp [hx, hy, hz]) (by simp) (by decide)

theorem lcp_two (w : World) (x y : ByteArray) (hx : x.size ≤ maxLen) (hy : y.size ≤ maxLen) :
    Calls Try.prog 11 #[.slice (some ⟨w.heap.size, 0, none⟩) 2 2] (w.alloc (.cells #[.string x, .string y] 9)) (Gives (.string (lcpB x [y])) (w.alloc (.cells #[.string x, .string y] 9))) :=
  lcp_cons (some ⟨w.heap.size, 0, none⟩) 2 x [y] _ (reads_new w [.string x, .string y] _ (by simp)) (by simp [hx, hy]) (by simp) (by decide)

theorem lcp_awake (w : World) :
    Calls Try.prog 11 #[.slice (some ⟨w.heap.size, 0, none⟩) 3 3] (w.alloc (.cells #[.string ⟨#[97, 98, 99]⟩, .string ⟨#[97, 98, 100]⟩, .string ⟨#[97, 98]⟩] 9))
      (Gives (.string ⟨#[97, 98]⟩) (w.alloc (.cells #[.string ⟨#[97, 98, 99]⟩, .string ⟨#[97, 98, 100]⟩, .string ⟨#[97, 98]⟩] 9))) := by
  have h := lcp_three w ⟨#[97, 98, 99]⟩ ⟨#[97, 98, 100]⟩ ⟨#[97, 98]⟩ (by decide) (by decide) (by decide)
  have e : Value.string (lcpB ⟨#[97, 98, 99]⟩ [⟨#[97, 98, 100]⟩, ⟨#[97, 98]⟩]) = .string ⟨#[97, 98]⟩ := by kernel_rfl
  rw [e] at h
  exact h

set_option maxHeartbeats 400000 in
theorem awake3_any (w : World) : Calls Try.prog 12 #[] w (Gives (.bool true) w) := by
  go_enter Try.func12, Try.ntmps12
  go_wp2_with (first
    | (go_at_call 10; refine (lag_awake _).mono ?_; rintro e w1 ⟨rfl, HB1⟩)
    | (go_at_call 11; refine (lcp_awake _).mono ?_; rintro e w2 ⟨rfl, HB2⟩)
    | (go_at_call 25; refine (count_awake _).mono ?_; rintro e w3 ⟨rfl, HB3⟩))
  go_ret
  exact ⟨rfl, below_then (below_then (HB1.alloc HB1.size _) HB2) HB3⟩

end Go.Proofs.Ytgaboipigdkefaa
