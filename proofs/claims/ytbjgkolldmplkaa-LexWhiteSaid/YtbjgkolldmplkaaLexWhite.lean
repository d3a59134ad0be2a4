/- LexWhite returns true for every input, and each argument reads behind the call as it did before. No conditions beyond the row's own. -/
import Derived.Test.YtbjgkolldmplkaaLexE
import Derived.Test.YtbjgkolldmplkaaLexL
import Derived.Test.YtbjgkolldmplkaaLaw
import Derived.Laws.Concat
import Derived.IntWalk
import Derived.Deep.Cut
namespace Go.Proofs.Ytbjgkolldmplkaa.LexWhite
open Go.ChangeShapes Go.WideShapes Go.ChangeAt Go.RowKit Go.Sort
open Go.ChangeMaps (open_string shut_string)

/-- a lines of remarks. -/
def frA : Nat → List UInt8
  | 0 => []
  | a + 1 => frA a ++ [35, 32, 34, 91, 10]
/-- White: a lines, then b blanks. -/
def frL (a : Nat) : Nat → List UInt8
  | 0 => frA a
  | b + 1 => frL a b ++ [32, 9, 13]

theorem frL_line (a : Nat) : frL (a + 1) 0 = frL a 0 ++ [35, 32, 34, 91, 10] := rfl
theorem frL_blank (a b : Nat) : frL a (b + 1) = frL a b ++ [32, 9, 13] := rfl

theorem frA_white : ∀ (a : Nat) (l : List UInt8), whL false (frA a ++ l) = (frA a).length + whL false l
  | 0, l => by simp [frA]
  | a + 1, l => by
    rw [frA, List.append_assoc, frA_white a, List.length_append]
    have : whL false ([35, 32, 34, 91, 10] ++ l) = whL false l + 1 + 1 + 1 + 1 + 1 := rfl
    rw [this]
    simp
    omega

theorem frL_white (a : Nat) : ∀ (b : Nat) (l : List UInt8), whL false (frL a b ++ l) = (frL a b).length + whL false l
  | 0, l => frA_white a l
  | b + 1, l => by
    rw [frL_blank, List.append_assoc, frL_white a b, List.length_append]
    have : whL false ([32, 9, 13] ++ l) = whL false l + 1 + 1 + 1 := rfl
    rw [this]
    simp
    omega

theorem frA_len : ∀ a : Nat, (frA a).length = 5 * a
  | 0 => rfl
  | a + 1 => by rw [frA, List.length_append, frA_len a]; simp; omega
theorem frL_len (a : Nat) : ∀ b : Nat, (frL a b).length = 5 * a + 3 * b
  | 0 => frA_len a
  | b + 1 => by rw [frL_blank, List.length_append, frL_len a b]; simp; omega

theorem tkD_sh (d : Nat) (L : List (Tk × Nat)) (k : Nat) (h : k < L.length) : tkD (shT d L) k = ((tkD L k).1, (tkD L k).2 + d) := by
  unfold tkD shT
  rw [List.getD_eq_getElem?_getD, List.getD_eq_getElem?_getD, List.getElem?_map, List.getElem?_eq_getElem h]
  rfl

theorem sf_app (F s : ByteArray) : sf (F ++ s) 0 = F.data.toList ++ sf s 0 := by
  unfold sf
  simp

set_option maxRecDepth 100000 in
theorem walk_skip1 (s : ByteArray) (a b : Int) (w : World) (_hsm : s.size ≤ maxLen) (h : (1500 : Int) < s.size) :
    Calls Try.prog 6 #[.string s, .int .i64 a, .int .i64 b] w (Gives (.bool true) w) := by
  unfold maxLen at _hsm
  go_enter Try.func6, Try.ntmps6
  go_wp2
  go_ret
  exact ⟨rfl, Below.refl _ _⟩

set_option maxRecDepth 100000 in
theorem walk_skip2 (s : ByteArray) (a b : Int) (w : World) (_hsm : s.size ≤ maxLen) (h : ¬ (1500 : Int) < s.size) (h2 : a < 0 ∨ 20 < a ∨ b < 0 ∨ 20 < b) :
    Calls Try.prog 6 #[.string s, .int .i64 a, .int .i64 b] w (Gives (.bool true) w) := by
  unfold maxLen at _hsm
  by_cases h3 : a < 0
  · clear h2
    go_enter Try.func6, Try.ntmps6
    go_wp2
    go_ret
    exact ⟨rfl, Below.refl _ _⟩
  by_cases h4 : 20 < a
  · clear h2
    go_enter Try.func6, Try.ntmps6
    go_wp2
    go_ret
    exact ⟨rfl, Below.refl _ _⟩
  by_cases h5 : b < 0
  · clear h2
    go_enter Try.func6, Try.ntmps6
    go_wp2
    go_ret
    exact ⟨rfl, Below.refl _ _⟩
  have h6 : 20 < b := by omega
  clear h2
  go_enter Try.func6, Try.ntmps6
  go_wp2
  go_ret
  exact ⟨rfl, Below.refl _ _⟩

set_option maxRecDepth 100000 in
set_option maxHeartbeats 8000000 in
theorem walkOn (s : ByteArray) (a b : Nat) (w : World) (hs : ¬ (1500 : Int) < s.size) (ha : a ≤ 20) (hb : b ≤ 20) (e : Int) (L : List (Tk × Nat)) (q N : Nat) (hN : L.length = N) (hNs : N ≤ s.size) (hq : q ≤ 2000)
    (H1 : ∀ W, Calls Try.prog 23 #[.string s] W fun r W' => ∃ A c, r = .returned (.tuple #[.slice A N c, .int .i64 ((q : Nat) : Int), .int .i64 e]) ∧ Reads W' W'.heap.size 8 A N (tkVals L) ∧ Below W.heap.size W W')
    (H2 : ∀ W F, F.data.toList = frL a b → Calls Try.prog 23 #[.string (F ++ s)] W fun r W' => ∃ A c, r = .returned (.tuple #[.slice A N c, .int .i64 ((q + (5 * a + 3 * b) : Nat) : Int), .int .i64 e]) ∧ Reads W' W'.heap.size 8 A N (tkVals (shT (5 * a + 3 * b) L)) ∧ Below W.heap.size W W')
    (H3 : ∀ k, k < N → ∃ n, 1 ≤ n ∧ (tkD L k).2 + n ≤ s.size ∧ (k + 1 < N → (tkD L k).2 + n ≤ (tkD L (k + 1)).2) ∧
      ∀ W, Calls Try.prog 24 #[.string s, .int .i64 (((tkD L k).2 : Nat) : Int)] W fun r W' => r = .returned (.tuple #[.agg #[.int .i64 (tkD L k).1.kind, .string ⟨(tkD L k).1.text.toArray⟩, .int .u64 ((word (tkD L k).1.set 0 : Nat) : Int), .int .u64 ((word (tkD L k).1.set 1 : Nat) : Int), .int .u64 ((word (tkD L k).1.set 2 : Nat) : Int), .int .u64 ((word (tkD L k).1.set 3 : Nat) : Int), .int .i64 (tkD L k).1.num, .int .i64 (((tkD L k).2 : Nat) : Int)], .int .i64 (((tkD L k).2 + n : Nat) : Int), .int .i64 0]) ∧ Below W.heap.size W W') :
    Calls Try.prog 6 #[.string s, .int .i64 (a : Int), .int .i64 (b : Int)] w (Gives (.bool true) w) := by
  have q1 := Lib.hid H1
  have q2 := Lib.hid H2
  have q3 := Lib.hid H3
  have HNN := fun _ : Unit => hN
  clear H1 H2 H3 hN
  have ha0 : (0 : Int) ≤ (a : Int) := by omega
  have hb0 : (0 : Int) ≤ (b : Int) := by omega
  have ha1 : (a : Int) ≤ 20 := by omega
  have hb1 : (b : Int) ≤ 20 := by omega
  go_enter Try.func6, Try.ntmps6
  go_wp2
  go_loop [7, 8] (fun t i => ∃ (k : Nat) (F : ByteArray), k ≤ a ∧ i = .int .i64 k ∧ t = .string F ∧ F.data.toList = frL k 0) (fun _ i => a - (intOf i).toNat)
  case atStart => exact ⟨0, ⟨#[]⟩, by omega, rfl, rfl, rfl⟩
  case round =>
    obtain ⟨k, F, hk, rfl, rfl, hF⟩ := hrel
    have HF := fun _ : Unit => hF
    clear hF
    have hFz : F.size = 5 * k := by
      have : F.data.toList.length = F.size := by simp
      rw [← this, HF (), frL_len]
      omega
    have hFz2 : F.size ≤ 100 := by omega
    clear hFz
    by_cases hlt : k < a
    · go_wp2
      go_round
      case rel => exact ⟨k + 1, _, by omega, by go_num, rfl, by rw [frL_line, ← HF ()]; simp⟩
      case measure => simp [intOf]; omega
    · obtain rfl : k = a := by omega
      go_wp2
      go_loop [7, 9] (fun t i => ∃ (j : Nat) (F : ByteArray), j ≤ b ∧ i = .int .i64 j ∧ t = .string F ∧ F.data.toList = frL k j) (fun _ i => b - (intOf i).toNat)
      case atStart => exact ⟨0, F, by omega, rfl, rfl, HF ()⟩
      case round =>
        clear HF hFz2
        obtain ⟨j, F, hj, rfl, rfl, hF⟩ := hrel
        have HF := fun _ : Unit => hF
        clear hF
        have hFz : F.size = 5 * k + 3 * j := by
          have : F.data.toList.length = F.size := by simp
          rw [← this, HF (), frL_len]
        have hFz2 : F.size ≤ 160 := by omega
        clear hFz
        by_cases hlt2 : j < b
        · go_wp2
          go_round
          case rel => exact ⟨j + 1, _, by omega, by go_num, rfl, by rw [frL_blank, ← HF ()]; simp⟩
          case measure => simp [intOf]; omega
        · obtain rfl : j = b := by omega
          have hFs : F.size = 5 * k + 3 * j := by
            have : F.data.toList.length = F.size := by simp
            rw [← this, HF (), frL_len]
          generalize hd : 5 * k + 3 * j = d at *
          have hd2 : d ≤ 160 := by omega
          clear hd
          have H2' := Lib.hid (fun W => q2.out W F (HF ()))
          have HFS := fun _ : Unit => hFs
          have hss : s.size ≤ 1500 := by omega
          clear q2 HF hFs hlt hlt2
          go_wp2_with fail
          refine (q1.out _).mono ?_
          rintro r w1 ⟨A1, c1, rfl, HR1, HB1⟩
          go_wp2_with fail
          refine (H2'.out _).mono ?_
          rintro r w2 ⟨A2, c2, rfl, HR2, HB2⟩
          have L2 := below_then HB1 HB2
          replace HR1 := (HR1.below HB2).more HB2.size
          clear HB1 HB2 q1 H2'
          have hFz : F.size = d := HFS ()
          go_upto_region 16 with (fail)
          clear hFz
          go_wp2
          go_loopw [16] (fun i wr => ∃ i' : Nat, i' ≤ N ∧ i = .int .i64 i' ∧ Below w2.heap.size w2 wr) (fun i _ => N - (intOf i).toNat)
          case atStart => exact ⟨0, by omega, rfl, Below.refl _ _⟩
          case round =>
            obtain ⟨i, hi, rfl, HB⟩ := hrel
            have hsz := HB.size
            by_cases hlt : i < N
            · obtain ⟨g, o, rfl, hg1, c0, c1, c2, c3, c4, c5, c6, c7⟩ := tok_cell (HR1.below HB) i hlt
              obtain ⟨g2, o2, rfl, hg2, d0, d1, d2, d3, d4, d5, d6, d7⟩ := tok_cell (HR2.below HB) i hlt
              rw [tkD_sh d L i (by rw [HNN ()]; exact hlt)] at d0 d1 d2 d3 d4 d5 d6 d7
              obtain ⟨n, hn1, hn2, hn3, hn4⟩ := q3.out i hlt
              have hnx : i + 1 < N → ∃ p3 : Nat, wr.cell? ⟨g, o + (i + 1) * 8 + 7, none⟩ = some (.int .i64 ((p3 : Nat) : Int)) ∧ (tkD L i).2 + n ≤ p3 := fun h => by
                obtain ⟨g', o', hgo, _, _, _, _, _, _, _, _, x7⟩ := tok_cell (HR1.below HB) (i + 1) h
                obtain ⟨rfl, rfl⟩ : g = g' ∧ o = o' := by simpa using hgo
                exact ⟨_, x7, hn3 h⟩
              clear hn3
              simp only at d0 d1 d2 d3 d4 d5 d6 d7
              have hne := fun W => tok_neq W (tkD L i).1.kind ((word (tkD L i).1.set 0 : Nat) : Int) ((word (tkD L i).1.set 1 : Nat) : Int) ((word (tkD L i).1.set 2 : Nat) : Int) ((word (tkD L i).1.set 3 : Nat) : Int) (tkD L i).1.num (((tkD L i).2 + d : Nat) : Int) ⟨(tkD L i).1.text.toArray⟩
              generalize (⟨(tkD L i).1.text.toArray⟩ : ByteArray) = tx at *
              generalize ((word (tkD L i).1.set 0 : Nat) : Int) = x0 at *
              generalize ((word (tkD L i).1.set 1 : Nat) : Int) = x1 at *
              generalize ((word (tkD L i).1.set 2 : Nat) : Int) = x2 at *
              generalize ((word (tkD L i).1.set 3 : Nat) : Int) = x3 at *
              generalize (tkD L i).1.num = nm at *
              generalize (tkD L i).1.kind = kd at *
              generalize (tkD L i).2 = p at *
              have hn4' := Lib.hid hn4
              clear hn4
              obtain ⟨p2, hp2⟩ : ∃ p2, p2 = p + n := ⟨_, rfl⟩
              rw [← hp2] at hn2 hnx hn4'
              have hpp : p < p2 := by omega
              have hps : p ≤ 1500 := by omega
              have hFd : F.size ≤ 160 := by rw [HFS ()]; exact hd2
              have hpd : ((p : Nat) : Int) + ((F.size : Nat) : Int) = ((p + d : Nat) : Int) := by rw [HFS ()]; omega
              clear hp2
              have hcast : ((p + d : Nat) : Int) = (p : Int) + (d : Int) := by omega
              rw [hcast] at hne d7
              clear hcast
              go_upto_region 21 with (fail)
              have hb1 := Blk.new wr 46 #[.int .i64 kd, .string tx, .int .u64 x0, .int .u64 x1, .int .u64 x2, .int .u64 x3, .int .i64 nm, .int .i64 ((p : Int) + (d : Int))]
              have LW : Below wr.heap.size wr (wr.alloc (.cells #[.int .i64 kd, .string tx, .int .u64 x0, .int .u64 x1, .int .u64 x2, .int .u64 x3, .int .i64 nm, .int .i64 ((p : Int) + (d : Int))] 46)) := (Below.refl _ _).alloc (Nat.le_refl _) _
              generalize wr.alloc (.cells #[.int .i64 kd, .string tx, .int .u64 x0, .int .u64 x1, .int .u64 x2, .int .u64 x3, .int .i64 nm, .int .i64 ((p : Int) + (d : Int))] 46) = W2 at *
              have c7' := (LW.cell (block_lt_of_cell c7)).trans c7
              go_upto_region 22 with (go_at_call 24; refine (hn4'.out _).mono ?_; rintro r w5 ⟨rfl, HB5⟩)
              have L5 := LW.trans (HB5.mono LW.size)
              have hb5 := hb1.below HB5 hb1.lt
              have hb6 := hb5.alloc (.cells #[.int .i64 kd, .string tx, .int .u64 x0, .int .u64 x1, .int .u64 x2, .int .u64 x3, .int .i64 nm, .int .i64 (p : Int)] 46)
              have L6 := L5.alloc L5.size (.cells #[.int .i64 kd, .string tx, .int .u64 x0, .int .u64 x1, .int .u64 x2, .int .u64 x3, .int .i64 nm, .int .i64 (p : Int)] 46)
              generalize w5.alloc (.cells #[.int .i64 kd, .string tx, .int .u64 x0, .int .u64 x1, .int .u64 x2, .int .u64 x3, .int .i64 nm, .int .i64 (p : Int)] 46) = W6 at *
              clear c7' hb1 hb5 LW L5 HB5 c0 c1 c2 c3 c4 c5 c6 hn4'
              replace c7 := (L6.cell (block_lt_of_cell c7)).trans c7
              replace d0 := (L6.cell (block_lt_of_cell d0)).trans d0
              replace d1 := (L6.cell (block_lt_of_cell d1)).trans d1
              replace d2 := (L6.cell (block_lt_of_cell d2)).trans d2
              replace d3 := (L6.cell (block_lt_of_cell d3)).trans d3
              replace d4 := (L6.cell (block_lt_of_cell d4)).trans d4
              replace d5 := (L6.cell (block_lt_of_cell d5)).trans d5
              replace d6 := (L6.cell (block_lt_of_cell d6)).trans d6
              replace d7 := (L6.cell (block_lt_of_cell d7)).trans d7
              obtain ⟨⟨y0, y1, y2, y3, y4, y5, y6, y7⟩, _⟩ := hb6.cells8
              have hi1 : (0 : Int) ≤ (i : Int) := by omega
              have hi2 : (i : Int) < (N : Int) := by omega
              have hz1 : decide (p2 ≤ p) = false := by simpa using hpp
              have hz2 : decide ((p2 : Int) ≤ (p : Int)) = false := by simp; omega
              have hw1 : IntKind.i64.wrap ((i : Int) + 1) = (i : Int) + 1 := IntWalk.i64_in _ (by omega)
              by_cases hl1 : i + 1 < N
              · obtain ⟨p3, x7, hp3⟩ := hnx hl1
                replace x7 := (L6.cell (block_lt_of_cell x7)).trans x7
                have hz3 : decide (p3 < p2) = false := by simp; omega
                have hz4 : decide ((p3 : Int) < (p2 : Int)) = false := by simp; omega
                have hi3 : (0 : Int) ≤ (i : Int) + 1 := by omega
                have hi4 : (i : Int) + 1 < (N : Int) := by omega
                have hi5 : decide ((i : Int) + 1 < (N : Int)) = true := by simp; omega
                have hi6 : ((i : Int) + 1).toNat = i + 1 := by omega
                clear hnx hpp hl1 hp3
                refine wp_region_quiet_lit (by kernel_rfl) (by kernel_rfl) ?_
                repeat (go_big_quiet_step (fail))
                refine wpQuiet_nil ?_
                intro _ hw'
                obtain ⟨nq, hw''⟩ := hw'
                subst hw''
                have L10 := below_drewN (HB.trans (L6.mono hsz)) nq
                clear hb6 L6 y0 y1 y2 y3 y4 y5 y6 y7 c7 d0 d1 d2 d3 d4 d5 d6 d7 x7 hne hw1 hi6
                go_wp2
                go_roundw
                case rel => exact ⟨i + 1, by omega, by go_num, L10⟩
                case measure => simp [intOf]; omega
              · have hi5 : decide ((i : Int) + 1 < (N : Int)) = false := by simp; omega
                have hi6 : decide (i + 1 < N) = false := by simp; omega
                clear hnx hpp
                refine wp_region_quiet_lit (by kernel_rfl) (by kernel_rfl) ?_
                repeat (go_big_quiet_step (fail))
                refine wpQuiet_nil ?_
                intro _ hw'
                obtain ⟨nq, hw''⟩ := hw'
                subst hw''
                have L10 := below_drewN (HB.trans (L6.mono hsz)) nq
                clear hb6 L6 y0 y1 y2 y3 y4 y5 y6 y7 c7 d0 d1 d2 d3 d4 d5 d6 d7 hne hw1 hi6
                go_wp2
                go_roundw
                case rel => exact ⟨i + 1, by omega, by go_num, L10⟩
                case measure => simp [intOf]; omega
            · obtain rfl : i = N := by omega
              have L8 := below_then L2 HB
              clear q3 HR1 HR2 HNN HFS L2 HB hsz
              go_wp2_with (go_at_call 25; refine (awake6_any _).mono ?_; rintro r w8 ⟨rfl, HB8⟩)
              go_ret
              exact ⟨rfl, below_then L8 HB8⟩

theorem walk (s : ByteArray) (a b : Int) (w : World) (hsz : s.size ≤ maxLen) :
    Calls Try.prog 6 #[.string s, .int .i64 a, .int .i64 b] w (Gives (.bool true) w) := by
  by_cases h : (1500 : Int) < s.size
  · exact walk_skip1 s a b w hsz h
  by_cases h2 : a < 0 ∨ 20 < a ∨ b < 0 ∨ 20 < b
  · exact walk_skip2 s a b w hsz h h2
  obtain ⟨a, rfl⟩ : ∃ n : Nat, a = n := ⟨a.toNat, by omega⟩
  obtain ⟨b, rfl⟩ : ∃ n : Nat, b = n := ⟨b.toNat, by omega⟩
  have hlen : (sf s 0).length = s.size := by rw [sf_len]; omega
  have hq : ∀ (f : Nat) (l : List UInt8) (k : Nat) (acc : List (Tk × Nat)), (allA f l k acc).2.2 ≤ k + l.length := by
    intro f
    induction f with
    | zero => intro l k acc; exact Nat.le_refl _
    | succ f ih =>
      intro l k acc
      by_cases h1 : (nextL l).1 = 0
      · by_cases h3 : (nextL l).2.1.kind = 0
        · rw [all_end h1 h3]; exact Nat.le_refl _
        · have hp := next_prog l h1 h3
          rw [all_go h1 h3]
          have := ih (l.drop (nextL l).2.2.2) (k + (nextL l).2.2.2) (acc ++ [((nextL l).2.1, k + (nextL l).2.2.1)])
          rw [List.length_drop] at this
          omega
      · rw [all_err h1]
        rcases next_cases l with ⟨_, e⟩ | ⟨_, _, e, _, _, h4⟩ | ⟨hlt, _, e⟩
        · rw [e] at h1; exact absurd rfl h1
        · simp only; omega
        · rw [e]; simp only; omega
  have hq0 : (allL (sf s 0)).2.2 ≤ s.size := by
    have := hq ((sf s 0).length + 1) (sf s 0) 0 []
    rw [hlen] at this
    unfold allL
    rw [hlen]
    omega
  have hN := all_len (sf s 0)
  rw [hlen] at hN
  refine walkOn s a b w h (by omega) (by omega) (allL (sf s 0)).1 (allL (sf s 0)).2.1 (allL (sf s 0)).2.2 _ rfl hN (by omega) ?_ ?_ ?_
  · exact fun W => all_any s W (by omega)
  · intro W F hF
    have hFs : F.size = 5 * a + 3 * b := by
      have : F.data.toList.length = F.size := by simp
      rw [← this, hF, frL_len]
    have := all_any (F ++ s) W (by rw [ByteArray.size_append]; omega)
    rw [sf_app, hF, all_white (frL_white a b), frL_len] at this
    refine this.mono fun r W' ⟨A, c, h1, h2, h3⟩ => ⟨A, c, ?_, ?_, h3⟩
    · rw [h1, shT_length]
    · rw [shT_length] at h2; exact h2
  · intro k hk
    have he : (allL (sf s 0)).1 = 0 := by
      by_cases he : (allL (sf s 0)).1 = 0
      · exact he
      · rw [all_none _ he] at hk; simp at hk
    obtain ⟨n, h1, h2, h3, h4⟩ := all_at (sf s 0) he k hk
    rw [hlen] at h3
    rw [sf_drop, Nat.zero_add] at h2
    refine ⟨n, h1, h3, h4, fun W => ?_⟩
    have := next_any s (tkD (allL (sf s 0)).2.1 k).2 W (by omega) (by unfold tkD; omega)
    unfold tkD at this ⊢
    rw [h2] at this
    refine this.mono fun r W' ⟨h5, h6⟩ => ⟨?_, h6⟩
    rw [h5]
    rfl

set_option maxRecDepth 100000 in
theorem lifted (os : Os) (started : os.Started) (H : Type) (enc : TypeId × Value → H) :
    ReturnsInHanded {} Try.checked os 6 .any (Rows.lexWhiteSpec.pre6 enc Try.prog Try.f6 Rows.lexWhiteRow.domain false) (Rows.lexWhiteSpec.post enc Try.prog Try.f6 false true false false) := by
  refine law_lifted (C := Try.checked) (tb := 4) ownNone started (by kernel_rfl) Try.func6 laidOut rfl ?_ rfl Try.underlying4 (by kernel_rfl)
    (ChangeSpec.witness6 (enc := enc) (C := Try.checked) false ⟨#[], #[.string ByteArray.empty, .int .i64 0, .int .i64 0], []⟩ 8 (by kernel_rfl) (by kernel_rfl) (by kernel_rfl) (by kernel_rfl)) ?_
  · intro ds hl
    match ds, hl with
    | [_, _, _], _ => rfl
  intro W base args ds before hval0 hA0 hlt hsz0
  have hval : ∀ (j : Nat) t v, Try.f6.params[j]? = some t → args[j]? = some v → Value.okWide Try.prog W .any base t v := hval0
  have hA : DataW.TrodAll enc Try.prog W 0 (fun _ => true) true Try.f6.params.toList args.toList ds before := hA0
  have hsz : (DataW.weightsEach Try.prog Try.f6.params.toList ds).all (· ≤ reachBytes) = true := hsz0
  rw [Try.params6] at hA hval hsz
  obtain ⟨v0, vs0, d0, ds0, p0, q0, hargs, rfl, rfl, h0, r0⟩ := trodAll_cons hA
  obtain ⟨v1, vs1, d1, ds1, p1, q1, rfl, rfl, rfl, h1, r1⟩ := trodAll_cons r0
  obtain ⟨v2, vs2, d2, ds2, p2, q2, rfl, rfl, rfl, h2, r2⟩ := trodAll_cons r1
  obtain ⟨rfl, rfl, rfl⟩ := trodAll_nil r2
  obtain rfl : args = #[v0, v1, v2] := by cases args; simp_all
  obtain ⟨a0, rfl, rfl, rfl, w0⟩ := open_string Try.underlying9 (hval 0 9 v0 rfl rfl) h0
  have z0 := sized_string hsz (j := 0) rfl rfl
  rw [← Lib.size_eq] at z0
  simp only [reachBytes] at z0
  obtain ⟨a1, rfl, rfl, rfl, w1⟩ := open_int Try.underlying3 (hval 1 3 v1 rfl rfl) h1
  obtain ⟨a2, rfl, rfl, rfl, w2⟩ := open_int Try.underlying3 (hval 2 3 v2 rfl rfl) h2
  exact walk a0 a1 a2 W w0

theorem proved : Rows.LexWhiteSaid :=
  OpenClaim.holds_of_wide 6 Try.f6 rfl rfl rfl rfl rfl rfl rfl ⟨rfl, rfl, rfl, rfl, rfl⟩ rfl rfl rfl rfl rfl (by kernel_rfl) Try.func6 (by kernel_rfl)
    (of_decide_eq_true (by kernel_rfl)) (by unfold Func.isWrapper; first | (rw [if_pos (by decide +kernel)]; kernel_rfl) | (rw [if_neg (by decide +kernel)]; exact ⟨rfl, rfl⟩))
    (fun os started H enc _ => lifted os started H enc)
#print axioms proved
end Go.Proofs.Ytbjgkolldmplkaa.LexWhite
