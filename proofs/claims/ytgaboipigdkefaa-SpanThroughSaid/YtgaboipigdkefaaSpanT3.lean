/- SpanThrough: the walk where all three are told. -/
import Derived.Test.YtgaboipigdkefaaSpanT0
namespace Go.Proofs.Ytgaboipigdkefaa.SpanThrough
open Go.RowKit Go.Sort

set_option maxHeartbeats 16000000 in
theorem walk_pass (A : Option Addr) (n c : Nat) (N : Nat) (from_ mid to x1 x2 ex ey a1 a2 b1 b2 c1' c2' : Int) (w : World) (hn : n ≤ 200) (hN : N ≤ 200) (hc : n ≤ c) (hm : c ≤ maxLen)
    (HO : ∀ W A' c', Reads W W.heap.size 2 A' N (spanVals (ownL N)) → N ≤ c' → c' ≤ maxLen → Calls Try.prog 18 #[.slice A' N c', .agg #[.int .i64 (from_), .int .i64 (to)], .int .i64 N] W (Gives (.tuple #[.agg #[.int .i64 (x1), .int .i64 (x2)], .int .i64 ex]) W))
    (HC : ∀ W, Calls Try.prog 19 #[.agg #[.int .i64 (from_), .int .i64 (to)], .int .i64 N] W (Gives (.int .i64 ey) W))
    (HA : ∀ W, Below w.heap.size w W → Calls Try.prog 18 #[.slice A n c, .agg #[.int .i64 (from_), .int .i64 (mid)], .int .i64 N] W (Gives (.tuple #[.agg #[.int .i64 (a1), .int .i64 (a2)], .int .i64 0]) W))
    (HB' : ∀ W, Below w.heap.size w W → Calls Try.prog 18 #[.slice A n c, .agg #[.int .i64 (mid), .int .i64 (to)], .int .i64 N] W (Gives (.tuple #[.agg #[.int .i64 (b1), .int .i64 (b2)], .int .i64 0]) W))
    (HS : ∀ W, Below w.heap.size w W → Calls Try.prog 18 #[.slice A n c, .agg #[.int .i64 (from_), .int .i64 (to)], .int .i64 N] W (Gives (.tuple #[.agg #[.int .i64 (c1'), .int .i64 (c2')], .int .i64 0]) W))
    (hx : ((∀ W, (binOp .neq 35 (.agg #[.int .i64 (x1), .int .i64 (x2)]) (.agg #[.int .i64 (from_), .int .i64 (to)])).run Try.prog W = .ok (.bool false) W) ∧ ex = 0 ∧ ey = 0) ∨ (ex = 1 ∧ ey = 1))
    (h1 : from_ < mid) (h2 : mid < to) (hc1' : min a1 b1 = c1') (hc2' : max a2 b2 = c2') :
    Calls Try.prog 7 #[.slice A n c, .int .i64 from_, .int .i64 mid, .int .i64 to, .int .i64 N] w (Gives (.bool true) w) := by
  obtain ⟨i0, hi0, hz0, hz1, hz2⟩ := info_parts span_info
  unfold maxLen at hm
  go_enter Try.func7, Try.ntmps7
  go_wp2
  go_loopw [11, 12] (fun v i wr => ∃ k : Nat, k ≤ N ∧ i = .int .i64 k ∧ wr.ownsRow w.heap.size 35 2 v k (spanVals (ownL k)) ∧ Below w.heap.size w wr) (fun _ i _ => N - (intOf i).toNat)
  case atStart => exact ⟨0, by omega, rfl, ⟨by simp [ownL, spanVals], .inl ⟨rfl, rfl⟩⟩, Below.refl _ _⟩
  case round =>
    obtain ⟨k, hk, rfl, hown, HB⟩ := hrel
    have hsz := HB.size
    by_cases hlt : k < N
    · have hfr := own_from hown
      go_wp2_with (at_builtin
                   refine wpList_append_any _ rfl (.tmp 38) (.tmp 43) _ rfl w.heap.size 35 i0 _ 2 16 Try.underlying38 hi0 hz0 hz1 hz2 rfl (by omega) _ k _ rfl
                     (hown.alloc _) _ _ 1 1 [.int .i64 (k : Int), .int .i64 ((k : Int) + 1)] rfl (reads_blk2 (Blk.new wr _ _) rfl) (by simp [Value.oneCell']) (by simp only [maxLen]; omega) (by omega) (by simp; omega) ?_
                   intro v1 w3 hown1 hg1 hat1
                   have HB3 : Below w.heap.size w w3 := (HB.alloc hsz _).grown hg1 (by simp; omega) hfr
                   rw [ownL_step] at hown1)
      go_roundw
      case rel => exact ⟨k + 1, by omega, by go_num, hown1, HB3⟩
      case measure => simp [intOf]; omega
    · have e : k = N := by omega
      subst e
      obtain ⟨A1, c1, rfl, HR1, hc1, hm1⟩ := own_reads2 hown
      subst hc1' hc2'
      have hq2 := fun W => span_eql W (min a1 b1) (max a2 b2) (min a1 b1) (max a2 b2)
      simp only [beq_self_eq_true, Bool.and_self] at hq2
      rcases hx with ⟨hq1, rfl, rfl⟩ | ⟨rfl, rfl⟩
      all_goals
        go_wp2_with (first
          | (go_at_call 19
             with_reducible refine Calls.mono (HC _) ?_
             rintro e w3 ⟨rfl, HB3⟩
             have b13c := b13.below HB3 b13.lt
             have b14c := b14.below HB3 b14.lt
             obtain ⟨s0, s1⟩ := b13c.cells2
             obtain ⟨s2, s3⟩ := b14c.cells2
             have L3 := L2.trans (HB3.mono hs2)
             have hs3 := L3.size)
          | (go_at_call 17
             with_reducible refine Calls.mono (awake4_any _) ?_
             rintro e w7 ⟨rfl, HB7⟩
             have L7 := L6.trans (HB7.mono hs6))
          | (go_at_call 18
             with_reducible refine Calls.mono (HO _ A1 c1 ((HR1.alloc (Nat.le_refl _) _).more (by simp)) hc1 hm1) ?_
             rintro e w2 ⟨rfl, HB2⟩
             have L1 := (HB.alloc hsz (.cells #[.int .i64 from_, .int .i64 to] 35)).trans (HB2.mono (by simp; omega))
             have b13 := ((Blk.new wr 35 #[.int .i64 from_, .int .i64 to]).below HB2 (by simp)).alloc (.cells #[.int .i64 x1, .int .i64 x2] 35)
             have L2 := L1.alloc L1.size (.cells #[.int .i64 x1, .int .i64 x2] 35)
             have hs2 := L2.size
             have b14 := Blk.new w2 35 #[.int .i64 x1, .int .i64 x2]
             obtain ⟨p0, p1⟩ := b13.cells2
             obtain ⟨p2, p3⟩ := b14.cells2)
          | (go_at_call 18
             with_reducible refine Calls.mono (HA _ L3) ?_
             rintro e w4 ⟨rfl, HB4⟩
             have L4 := (L3.trans (HB4.mono hs3)).alloc (L3.trans (HB4.mono hs3)).size (.cells #[.int .i64 a1, .int .i64 a2] 35)
             have hs4 := L4.size
             have b13d := (b13c.below HB4 b13c.lt).alloc (.cells #[.int .i64 a1, .int .i64 a2] 35)
             have b16 := Blk.new w4 35 #[.int .i64 a1, .int .i64 a2])
          | (go_at_call 18
             with_reducible refine Calls.mono (HB' _ L4) ?_
             rintro e w5 ⟨rfl, HB5⟩
             have L5 := (L4.trans (HB5.mono hs4)).alloc (L4.trans (HB5.mono hs4)).size (.cells #[.int .i64 b1, .int .i64 b2] 35)
             have hs5 := L5.size
             have b13e := (b13d.below HB5 b13d.lt).alloc (.cells #[.int .i64 b1, .int .i64 b2] 35)
             have b16e := (b16.below HB5 b16.lt).alloc (.cells #[.int .i64 b1, .int .i64 b2] 35)
             have b18 := Blk.new w5 35 #[.int .i64 b1, .int .i64 b2]
             obtain ⟨r0, r1⟩ := b13e.cells2)
          | (go_at_call 18
             with_reducible refine Calls.mono (HS _ L5) ?_
             rintro e w6 ⟨rfl, HB6⟩
             have L6' := L5.trans (HB6.mono hs5)
             have L6 := L6'.alloc L6'.size (.cells #[.int .i64 (min a1 b1), .int .i64 (max a2 b2)] 35)
             have hs6 := L6.size
             have b16f := (b16e.below HB6 b16e.lt).alloc (.cells #[.int .i64 (min a1 b1), .int .i64 (max a2 b2)] 35)
             have b18f := (b18.below HB6 b18.lt).alloc (.cells #[.int .i64 (min a1 b1), .int .i64 (max a2 b2)] 35)
             have b20 := Blk.new w6 35 #[.int .i64 (min a1 b1), .int .i64 (max a2 b2)]))
        obtain ⟨t0, t1⟩ := b16f.cells2
        obtain ⟨t2, t3⟩ := b18f.cells2
        obtain ⟨t4, t5⟩ := b20.cells2
        have t0' := cell_regrown t0
        have t1' := cell_regrown t1
        have t2' := cell_regrown t2
        have t3' := cell_regrown t3
        have t4' := cell_regrown t4
        have t5' := cell_regrown t5
        clear t0 t1 t2 t3 t4 t5
        refine wp_region_quiet_below (by kernel_rfl) (by kernel_rfl) ?_
        repeat (go_big_quiet_step ((first
          | (go_at_call 17; exact gives_quiet (awake4_any _))
          | (go_at_call 16; exact gives_quiet (hull_any _ _ _ _ _)))))
        refine wpQuiet_nil ?_
        intro w8 hw8
        have HB8 := below_of5 hw8
        clear hw8 t0' t1' t2' t3' t4' t5' hq2
        go_wp2
        go_ret
        exact ⟨rfl, L6.trans (HB8.mono hs6)⟩


end Go.Proofs.Ytgaboipigdkefaa.SpanThrough
