/- The walk of All of package lex. -/
import Derived.Test.YtbjgkolldmplkaaLex9
import Derived.Test.YtbjgkolldmplkaaLexT
namespace Go.Proofs.Ytbjgkolldmplkaa
open Go.RowKit Go.Sort

/-- A token's cells. -/
def tkC (t : Tk × Nat) : List Value := [.int .i64 t.1.kind, .string ⟨t.1.text.toArray⟩, .int .u64 ((word t.1.set 0 : Nat) : Int), .int .u64 ((word t.1.set 1 : Nat) : Int), .int .u64 ((word t.1.set 2 : Nat) : Int), .int .u64 ((word t.1.set 3 : Nat) : Int), .int .i64 t.1.num, .int .i64 ((t.2 : Nat) : Int)]
def tkVals (l : List (Tk × Nat)) : List Value := l.flatMap tkC
theorem tkVals_snoc (l : List (Tk × Nat)) (t : Tk × Nat) : tkVals l ++ tkC t = tkVals (l ++ [t]) := by simp [tkVals]
theorem tkVals_length (l : List (Tk × Nat)) : (tkVals l).length = l.length * 8 := by
  induction l with
  | nil => rfl
  | cons t l ih =>
    show (tkC t ++ tkVals l).length = _
    rw [List.length_append, ih, List.length_cons]
    simp [tkC]
    omega

theorem tok_info : (Try.prog.info? 46).map (fun i => (i.zero, i.size, i.bytes)) = some (some (.agg #[.int .i64 0, .string ⟨#[]⟩, .int .u64 0, .int .u64 0, .int .u64 0, .int .u64 0, .int .i64 0, .int .i64 0]), 8, 72) := by kernel_rfl

/-- All tokens, a place and an error's number come back. -/
def GAll (r : Int × List (Tk × Nat) × Nat) (w : World) (e : Ending) (W' : World) : Prop :=
  ∃ A c, e = .returned (.tuple #[.slice A r.2.1.length c, .int .i64 ((r.2.2 : Nat) : Int), .int .i64 r.1]) ∧ Reads W' W'.heap.size 8 A r.2.1.length (tkVals r.2.1) ∧ Below w.heap.size w W'

set_option maxRecDepth 100000 in
set_option maxHeartbeats 8000000 in
theorem all_any (s : ByteArray) (w : World) (hs : s.size ≤ 65536) :
    Calls Try.prog 23 #[.string s] w (GAll (allL (sf s 0)) w) := by
  have hsm : s.size ≤ 1000000 := by omega
  have hQ : allA ((sf s 0).length + 1) (sf s 0) 0 [] = allL (sf s 0) := rfl
  generalize allL (sf s 0) = Q at *
  obtain ⟨i0, hi0, hz0, hz1, hz2⟩ := info_parts tok_info
  have h65 : ¬ (65536 : Int) < (s.size : Int) := by omega
  go_enter Try.func23, Try.ntmps23
  go_wp2
  go_loopw [5, 6] (fun v t wr => ∃ (j f : Nat) (acc : List (Tk × Nat)), j ≤ s.size ∧ t = .int .i64 j ∧ (sf s j).length < f ∧ allA f (sf s j) j acc = Q ∧ acc.length ≤ j ∧
    wr.ownsRow w.heap.size 46 8 v acc.length (tkVals acc) ∧ Below w.heap.size w wr) (fun _ t _ => s.size - (intOf t).toNat)
  case atStart => exact ⟨0, _, [], Nat.zero_le _, rfl, Nat.lt_succ_self _, hQ, Nat.le_refl _, ⟨rfl, .inl ⟨rfl, rfl⟩⟩, Below.refl _ _⟩
  case round =>
    clear hQ
    obtain ⟨j, f, acc, hj, rfl, hf, hJ, hal, hown, HB⟩ := hrel
    obtain ⟨A, c, rfl, _, _, _⟩ := own_reads hown
    have hsz := HB.size
    obtain ⟨f, rfl⟩ : ∃ g, f = g + 1 := ⟨f - 1, by omega⟩
    have hJ' : (if (nextL (sf s j)).1 = 0 then (if (nextL (sf s j)).2.1.kind = 0 then (0, acc, j + (sf s j).length) else allA f ((sf s j).drop (nextL (sf s j)).2.2.2) (j + (nextL (sf s j)).2.2.2) (acc ++ [((nextL (sf s j)).2.1, j + (nextL (sf s j)).2.2.1)]))
      else ((nextL (sf s j)).1, [], j + (nextL (sf s j)).2.2.2)) = Q := hJ
    have hc := next_cases (sf s j)
    have HN := fun W => next_any s j W hsm hj
    have hne : (nextL (sf s j)).1 = 0 → (nextL (sf s j)).2.1.kind ≠ 0 → 1 ≤ (nextL (sf s j)).2.2.2 ∧ (nextL (sf s j)).2.2.2 ≤ (sf s j).length := fun h1 h2 => by
      rcases hc with ⟨_, e⟩ | ⟨_, _, _, _, h3, h4⟩ | ⟨_, h3, e⟩
      · rw [e] at h2; exact absurd rfl h2
      · exact ⟨by omega, h4⟩
      · rw [e] at h1; exact absurd h1 h3
    clear hJ hc
    rw [sf_len] at hJ' hf hne
    have HJ := fun _ : Unit => hJ'
    clear hJ'
    generalize nextL (sf s j) = r at *
    obtain ⟨er, t, a, b⟩ := r
    have H2 : ∀ W, Calls Try.prog 24 #[.string s, .int .i64 j] W fun e w' => e = .returned (.tuple #[.agg #[.int .i64 t.kind, .string ⟨t.text.toArray⟩, .int .u64 ((word t.set 0 : Nat) : Int), .int .u64 ((word t.set 1 : Nat) : Int), .int .u64 ((word t.set 2 : Nat) : Int), .int .u64 ((word t.set 3 : Nat) : Int), .int .i64 t.num, .int .i64 (if er = 0 then ((j + a : Nat) : Int) else 0)], .int .i64 ((j + b : Nat) : Int), .int .i64 er]) ∧ Below W.heap.size W w' := HN
    clear HN
    by_cases he : er = 0
    · subst he
      simp only [if_true] at H2
      by_cases hkd : t.kind = 0
      · have hQ2 : Unit → Q = (0, acc, s.size) := fun _ => by
          rw [← HJ ()]
          simp only [if_true]
          rw [if_pos hkd, show j + (s.size - j) = s.size by omega]
        rw [hkd] at H2
        clear HJ hne hkd
        generalize (⟨t.text.toArray⟩ : ByteArray) = tx at *
        generalize ((word t.set 0 : Nat) : Int) = x0 at *
        generalize ((word t.set 1 : Nat) : Int) = x1 at *
        generalize ((word t.set 2 : Nat) : Int) = x2 at *
        generalize ((word t.set 3 : Nat) : Int) = x3 at *
        generalize t.num = nm at *
        generalize ((j + a : Nat) : Int) = ja at *
        generalize ((j + b : Nat) : Int) = jb at *
        have H' := Lib.hid H2
        clear H2
        generalize hn : acc.length = n at *
        have HNN := fun _ : Unit => hn
        clear hn
        go_wp2_with (go_at_call 24; refine (H'.out _).mono ?_; rintro e w1 ⟨rfl, HB1⟩; have hown1 := own_call hown HB1; have LB := HB.trans (HB1.mono hsz))
        go_ret3
        rw [hQ2 ()]
        obtain ⟨A5, c5, e5, hR5, _, _⟩ := own_reads (hown1.alloc (.cells #[.int .i64 0, .string tx, .int .u64 x0, .int .u64 x1, .int .u64 x2, .int .u64 x3, .int .i64 nm, .int .i64 ja] 46))
        injection e5 with hA5 _ hc5
        subst hA5 hc5
        refine ⟨A, c, ?_, ?_, LB.alloc LB.size _⟩
        · rw [HNN ()]
          rfl
        · rw [HNN ()]
          exact hR5
      · obtain ⟨hb1, hb2⟩ := hne rfl hkd
        simp only at hb1 hb2
        have hst : Unit → allA f (sf s (j + b)) (j + b) (acc ++ [(t, j + a)]) = Q := fun _ => by
          have := HJ ()
          simp only [if_true] at this
          rw [if_neg hkd, sf_drop] at this
          exact this
        have hfl : Unit → (sf s (j + b)).length < f := fun _ => by rw [sf_len]; omega
        have hk0 : (t.kind == 0) = false := by rw [beq_eq_false_iff_ne]; exact hkd
        have hsn := tkVals_snoc acc (t, j + a)
        have hcells : tkC (t, j + a) = [.int .i64 t.kind, .string ⟨t.text.toArray⟩, .int .u64 ((word t.set 0 : Nat) : Int), .int .u64 ((word t.set 1 : Nat) : Int), .int .u64 ((word t.set 2 : Nat) : Int), .int .u64 ((word t.set 3 : Nat) : Int), .int .i64 t.num, .int .i64 ((j + a : Nat) : Int)] := rfl
        rw [hcells] at hsn
        clear HJ hne hkd hf hcells
        generalize hpr : (t, j + a) = pr at *
        clear hpr
        generalize (⟨t.text.toArray⟩ : ByteArray) = tx at *
        generalize ((word t.set 0 : Nat) : Int) = x0 at *
        generalize ((word t.set 1 : Nat) : Int) = x1 at *
        generalize ((word t.set 2 : Nat) : Int) = x2 at *
        generalize ((word t.set 3 : Nat) : Int) = x3 at *
        generalize t.num = nm at *
        generalize t.kind = kd at *
        generalize ((j + a : Nat) : Int) = ja at *
        have H' := Lib.hid H2
        have HSN := Lib.hid hsn
        clear H2 hsn
        have hfr := own_base hown
        have hjb : j + b ≤ s.size := by omega
        have hjb2 : j < j + b := by omega
        generalize hn : acc.length = n at *
        have HNN := fun _ : Unit => hn
        clear hn
        generalize j + b = jb at *
        go_upto_region 6 with (go_at_call 24
                               refine (H'.out _).mono ?_
                               rintro e w1 ⟨rfl, HB1⟩
                               have hown1 := own_call hown HB1
                               have LB := HB.trans (HB1.mono hsz))
        have hown2 := hown1.alloc (.cells #[.int .i64 kd, .string tx, .int .u64 x0, .int .u64 x1, .int .u64 x2, .int .u64 x3, .int .i64 nm, .int .i64 ja] 46)
        have LB2 := LB.alloc LB.size (.cells #[.int .i64 kd, .string tx, .int .u64 x0, .int .u64 x1, .int .u64 x2, .int .u64 x3, .int .i64 nm, .int .i64 ja] 46)
        have hg := Blk.new w1 46 #[.int .i64 kd, .string tx, .int .u64 x0, .int .u64 x1, .int .u64 x2, .int .u64 x3, .int .i64 nm, .int .i64 ja]
        generalize w1.alloc (.cells #[.int .i64 kd, .string tx, .int .u64 x0, .int .u64 x1, .int .u64 x2, .int .u64 x3, .int .i64 nm, .int .i64 ja] 46) = W2 at *
        generalize w1.heap.size = g at *
        have hsz2 := LB2.size
        obtain ⟨⟨c0, c1, c2, c3, c4, c5, c6, c7⟩, _⟩ := hg.cells8
        clear hown hown1 LB HB1
        go_wp2_with (at_builtin
                     refine wpList_append_any _ rfl (.tmp 30) (.tmp 32) _ rfl w.heap.size 46 i0 _ 8 72 Try.underlying41 hi0 hz0 hz1 hz2 rfl (by omega) _ n _ rfl
                       (hown2.alloc _) _ _ 1 1 [.int .i64 kd, .string tx, .int .u64 x0, .int .u64 x1, .int .u64 x2, .int .u64 x3, .int .i64 nm, .int .i64 ja] rfl (reads_blkN (xs := [.int .i64 kd, .string tx, .int .u64 x0, .int .u64 x1, .int .u64 x2, .int .u64 x3, .int .i64 nm, .int .i64 ja]) (Blk.new W2 _ _) rfl) (by simp [Value.oneCell']) (by simp only [maxLen]; omega) (by omega) (by simp; omega) ?_
                     intro v4 w4 hown4 hg4 hat4
                     have L4 : Below w.heap.size w w4 := (LB2.alloc hsz2 _).grown hg4 (by simp; omega) hfr
                     rw [HSN.out] at hown4)
        go_roundw
        case rel => exact ⟨jb, f, acc ++ [pr], hjb, rfl, hfl (), hst (), by rw [List.length_append, HNN ()]; simp; omega, by rw [List.length_append, HNN ()]; exact hown4, L4⟩
        case measure => simp [intOf]; omega
    · have hQ2 : Unit → Q = (er, [], j + b) := fun _ => by
        rw [← HJ ()]
        exact if_neg he
      have hx : (er != 0) = true := bne_iff_ne.2 he
      rw [if_neg he] at H2
      clear HJ hne he
      generalize (⟨t.text.toArray⟩ : ByteArray) = tx at *
      generalize ((word t.set 0 : Nat) : Int) = x0 at *
      generalize ((word t.set 1 : Nat) : Int) = x1 at *
      generalize ((word t.set 2 : Nat) : Int) = x2 at *
      generalize ((word t.set 3 : Nat) : Int) = x3 at *
      generalize t.num = nm at *
      generalize t.kind = kd at *
      generalize hjb : j + b = jb at *
      have H' := Lib.hid H2
      clear H2
      go_wp2_with (go_at_call 24; refine (H'.out _).mono ?_; rintro e w1 ⟨rfl, HB1⟩; have LB := HB.trans (HB1.mono hsz))
      go_ret3
      rw [hQ2 ()]
      exact ⟨none, 0, rfl, Reads.none_, LB.alloc LB.size _⟩

end Go.Proofs.Ytbjgkolldmplkaa
