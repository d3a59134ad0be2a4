/- The walks of the references of layer 4: Right, All, Rise; of span.Rise. -/
import Derived.Test.YtgaboipigdkefaaSpan5
namespace Go.Proofs.Ytgaboipigdkefaa
open Go.RowKit Go.Sort

set_option maxHeartbeats 1000000 in
theorem right_any (n a b : Int) (w : World) :
    Calls Try.prog 31 #[.agg #[.int .i64 (a), .int .i64 (b)], .int .i64 n] w (Gives (.bool (may n a b)) w) := by
  by_cases h1 : 0 ≤ a
  · by_cases h2 : a ≤ b
    · by_cases h3 : b ≤ n
      · go_enter Try.func31, Try.ntmps31
        go_wp2
        go_ret
        exact ⟨by simp [may, h1, h2, h3], (Below.refl _ _).alloc (Nat.le_refl _) _⟩
      · go_enter Try.func31, Try.ntmps31
        go_wp2
        go_ret
        exact ⟨by simp [may, h1, h2, h3], (Below.refl _ _).alloc (Nat.le_refl _) _⟩
    · go_enter Try.func31, Try.ntmps31
      go_wp2
      go_ret
      exact ⟨by simp [may, h1, h2] <;> intros <;> omega, (Below.refl _ _).alloc (Nat.le_refl _) _⟩
  · go_enter Try.func31, Try.ntmps31
    go_wp2
    go_ret
    exact ⟨by simp [may, h1] <;> intros <;> omega, (Below.refl _ _).alloc (Nat.le_refl _) _⟩

set_option maxHeartbeats 1000000 in
theorem rall_none (A : Option Addr) (c : Nat) (w : World) :
    Calls Try.prog 29 #[.slice A 0 c] w (Gives (allV []) w) := by
  go_enter Try.func29, Try.ntmps29
  go_wp2
  exact bodyPost_ret (v := allV []) (by simp [results, Try.results29, go_sem, allV]) rfl ⟨rfl, (Below.refl _ _).alloc (Nat.le_refl _) _⟩

set_option maxHeartbeats 40000000 in
theorem rall_some (g o c B : Nat) (p : Int × Int) (l : List (Int × Int)) (w : World) (HR0 : Reads w B 2 (some ⟨g, o, none⟩) (l.length + 1) (spanVals (p :: l))) (hB : B ≤ w.heap.size) (hc : l.length + 1 ≤ c) (hm : c ≤ maxLen) :
    Calls Try.prog 29 #[.slice (some ⟨g, o, none⟩) (l.length + 1) c] w (Gives (allV (p :: l)) w) := by
  have HR := HR0.more hB
  have HRa := HR.alloc (Nat.le_refl _) (.cells #[.int .i64 0, .int .i64 0] 35)
  obtain ⟨g', o', eq, hg, hck, hck'⟩ := span_cell HRa 0 (by simp)
  injection eq with eq
  injection eq with eq1 eq2 eq3
  subst eq1 eq2
  simp only [Nat.zero_mul, Nat.add_zero, List.getElem_cons_zero] at hck hck'
  unfold maxLen at hm
  obtain ⟨n, hn⟩ : ∃ n, l.length + 1 = n := ⟨_, rfl⟩
  have hn0 : (0 : Int) < (n : Int) := by omega
  have hn1 : ((n : Int) == 0) = false := by simp; omega
  have HN := Lib.hid hn
  rw [hn] at HR HRa hc ⊢
  clear hn HR0
  go_enter Try.func29, Try.ntmps29
  go_wp2
  go_loopw [5] (fun i wr => ∃ k : Nat, k ≤ l.length ∧ i = .int .i64 ((k + 1 : Nat) : Int) ∧ Blk wr (w.heap.size + 1) 35 #[.int .i64 (hullL p (l.take k)).1, .int .i64 (hullL p (l.take k)).2] ∧
    Blk wr w.heap.size 35 #[.int .i64 0, .int .i64 0] ∧ Below w.heap.size w wr) (fun i _ => n - (intOf i).toNat)
  case atStart =>
    refine ⟨0, by omega, rfl, ?_, (Blk.new w _ _).alloc _, ((Below.refl _ _).alloc (Nat.le_refl _) _).alloc (by simp) _⟩
    have := Blk.new (w.alloc (.cells #[.int .i64 0, .int .i64 0] 35)) 35 #[.int .i64 p.1, .int .i64 p.2]
    simp only [World.size_alloc] at this
    exact this
  case round =>
    obtain ⟨k, hk, rfl, hb4, hb2, HB⟩ := hrel
    have hl4 := hb4.lt
    obtain ⟨q, hq⟩ : ∃ q, q = k + 1 := ⟨_, rfl⟩
    rw [← hq]
    by_cases hlt : k < l.length
    · have hqn : q < (p :: l).length := by simp only [List.length_cons]; omega
      obtain ⟨g', o', eq, _, hcq, hcq'⟩ := span_cell (HR.below HB) q hqn
      injection eq with eq
      injection eq with eq1 eq2 eq3
      subst eq1 eq2
      have hel : (p :: l)[q] = l[k] := by subst hq; rfl
      rw [hel] at hcq hcq'
      have E := Lib.hid (hullL_take p l k hlt)
      have hi1 : (q : Int) < (n : Int) := by have := HN.out; omega
      have hi2 : q < n := by omega
      have HQ := Lib.hid hq
      generalize l[k].1 = e1 at *
      generalize l[k].2 = e2 at *
      generalize hullL p (l.take k) = r at *
      obtain ⟨x0, x1⟩ := hb4.cells2
      have f0 := hb4.frozen 0
      have f1 := hb4.frozen 1
      clear hck hck' hel hq hqn
      go_wp2
      go_region_with (first
        | (go_at_call 32; refine (rhull_any _ _ _ _ _).mono ?_; rintro e w1 ⟨rfl, HB1⟩; have hb4' := Blk.below (by exact hb4) HB1 (by exact hb4.lt); have hb2' := Blk.below (by exact hb2) HB1 (by exact hb2.lt); obtain ⟨d0, d1⟩ := hb4'.cells2; have f0' := hb4'.frozen 0; have f1' := hb4'.frozen 1))
      all_goals
        go_wp2
        go_roundw
        case rel =>
          refine ⟨k + 1, by omega, by rw [HQ.out]; rfl, by rw [E.out]; exact (hb4'.set_ 0 _).set_ 1 _, (hb2'.far (p := ⟨w.heap.size + 1, 0, none⟩) (by simp) _).far (p := ⟨w.heap.size + 1, 1, none⟩) (by simp) _, ?_⟩
          have L2 : Below w.heap.size w w1 := HB.drew.trans (HB1.mono HB.size)
          exact (L2.setCell (p := ⟨w.heap.size + 1, 0, none⟩) (by simp) _).setCell (p := ⟨w.heap.size + 1, 1, none⟩) (by simp) _
        case measure => simp [intOf]; omega
    · have e : k = l.length := by omega
      subst e
      rw [List.take_length] at hb4
      obtain ⟨x0, x1⟩ := hb4.cells2
      obtain ⟨d0, d1⟩ := hb2.cells2
      have f0 := hb2.frozen 0
      have f1 := hb2.frozen 1
      have hi1 : ¬ (q : Int) < (n : Int) := by have := HN.out; omega
      clear hck hck'
      go_wp2
      have q0 := (hb2.set_ 0 (.int .i64 (hullL p l).1)).cell 0
      have q1 := ((hb2.set_ 0 (.int .i64 (hullL p l).1)).set_ 1 (.int .i64 (hullL p l).2)).cell 1
      simp at q0 q1
      exact bodyPost_ret (v := allV (p :: l)) (by simp [results, Try.results29, go_sem, allV, q0, q1]) rfl
        ⟨rfl, (HB.setCell (p := ⟨w.heap.size, 0, none⟩) (by simp) _).setCell (p := ⟨w.heap.size, 1, none⟩) (by simp) _⟩

end Go.Proofs.Ytgaboipigdkefaa
