/- TextLag: the walk of the law. -/
import Derived.Test.YtgaboipigdkefaaText3
namespace Go.Proofs.Ytgaboipigdkefaa
open Go.RowKit Go.Sort

theorem lag_self (x y : ByteArray) (w : World) (hx : x.size ≤ maxLen) (hy : y.size ≤ maxLen) (h0 : lcpN x.data.toList y.data.toList = 0) :
    Calls Try.prog 10 #[.string x, .string y] w (Gives (.tuple #[.string x, .string y]) w) := by
  have h := lag_any x y w hx hy
  rw [h0, ByteArray.extract_zero_size, ByteArray.extract_zero_size] at h
  exact h

set_option maxHeartbeats 1000000 in
theorem textLag_walk (a b f x y c : ByteArray) (w : World) (ha : a.size ≤ 140737488355328) (hb : b.size ≤ 140737488355328) (hf : f.size ≤ 140737488355328) (hle : a.size + b.size + f.size ≤ 900)
    (hxs : x.size ≤ 900) (hys : y.size ≤ 900) (hcs : c.size ≤ 900)
    (h1 : ∀ w, Calls Try.prog 10 #[.string a, .string b] w (Gives (.tuple #[.string x, .string y]) w))
    (h2 : ∀ w, Calls Try.prog 10 #[.string x, .string y] w (Gives (.tuple #[.string x, .string y]) w))
    (h3 : ∀ w, Calls Try.prog 10 #[.string (f ++ a), .string (f ++ b)] w (Gives (.tuple #[.string x, .string y]) w))
    (h4 : ∀ w : World, Calls Try.prog 11 #[.slice (some ⟨w.heap.size, 0, none⟩) 2 2] (w.alloc (.cells #[.string a, .string b] 9)) (Gives (.string c) (w.alloc (.cells #[.string a, .string b] 9))))
    (hcx : c ++ x = a) (hcy : c ++ y = b) (hcase : x.toList.isEmpty = true ∨ x.toList.isEmpty = false ∧ y.toList.isEmpty = true ∨ x.toList.isEmpty = false ∧ y.toList.isEmpty = false ∧ ∃ (hx : 0 < x.size) (hy : 0 < y.size), (((x[0].toNat : Nat) : Int) != ((y[0].toNat : Nat) : Int)) = true) :
    Calls Try.prog 3 #[.string a, .string b, .string f] w (Gives (.bool true) w) := by
  have H1 := Lib.hid h1
  have H2 := Lib.hid h2
  have H3 := Lib.hid h3
  have H4 := Lib.hid h4
  clear h1 h2 h3 h4
  have HC := Lib.hid hcase; clear hcase
  go_enter Try.func3, Try.ntmps3
  go_wp2_with fail
  refine (H1.out _).mono ?_; rintro e w1 ⟨rfl, HB1⟩
  go_wp2_with fail
  refine (H2.out _).mono ?_; rintro e w2 ⟨rfl, HB2⟩
  go_wp2_with fail
  refine (H3.out _).mono ?_; rintro e w3 ⟨rfl, HB3⟩
  go_wp2_with fail
  refine (H4.out _).mono ?_; rintro e w4 ⟨rfl, HB4⟩
  go_wp2_with fail
  have hcase := HC.out; clear HC
  rcases hcase with hx | ⟨hx, hy⟩ | ⟨hx, hy, hx0, hy0, hne⟩
  all_goals
    refine wp_region_quiet_below (by kernel_rfl) (by kernel_rfl) ?_
    repeat (go_big_quiet_step ((go_at_call 12; exact gives_quiet (awake3_any _))))
    refine wpQuiet_nil ?_
    rintro w5 ⟨p5, rfl⟩
    have HB5 := below_regrown w4 p5.d p5.os
    generalize grow (redrawn w4 p5.d) p5.os = w5 at *
    go_wp2
    go_ret
    exact ⟨rfl, below_then (below_then (below_then (below_then HB1 HB2) HB3) ((Below.refl _ _).alloc (Nat.le_refl _) _)) (below_then HB4 HB5)⟩

end Go.Proofs.Ytgaboipigdkefaa
