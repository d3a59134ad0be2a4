/- LexJoin returns true for every input, and each argument reads behind the call as it did before. No conditions beyond the row's own. -/
import Derived.Test.YtbjgkolldmplkaaLexE
import Derived.Test.YtbjgkolldmplkaaLexL
import Derived.Test.YtbjgkolldmplkaaLaw
import Derived.Laws.Concat
import Derived.IntWalk
import Derived.Deep.Cut
namespace Go.Proofs.Ytbjgkolldmplkaa.LexJoin
open Go.ChangeShapes Go.WideShapes Go.ChangeAt Go.RowKit Go.Sort
open Go.ChangeMaps (open_string shut_string)

theorem tkD_sh (d : Nat) (L : List (Tk × Nat)) (k : Nat) (h : k < L.length) : tkD (shT d L) k = ((tkD L k).1, (tkD L k).2 + d) := by
  unfold tkD shT
  rw [List.getD_eq_getElem?_getD, List.getD_eq_getElem?_getD, List.getElem?_map, List.getElem?_eq_getElem h]
  rfl
theorem tkD_left (L M : List (Tk × Nat)) (k : Nat) (h : k < L.length) : tkD (L ++ M) k = tkD L k := by
  unfold tkD
  rw [List.getD_eq_getElem?_getD, List.getD_eq_getElem?_getD, List.getElem?_append_left h]
theorem tkD_right (L M : List (Tk × Nat)) (k : Nat) (h : L.length ≤ k) : tkD (L ++ M) k = tkD M (k - L.length) := by
  unfold tkD
  rw [List.getD_eq_getElem?_getD, List.getD_eq_getElem?_getD, List.getElem?_append_right h]

set_option maxRecDepth 100000 in
theorem walk_skip (s t : ByteArray) (w : World) (hs : s.size ≤ 140737488351232) (ht : t.size ≤ 140737488351232) (h : (1500 : Int) < (s.size : Int) + t.size) :
    Calls Try.prog 7 #[.string s, .string t] w (Gives (.bool true) w) := by
  go_enter Try.func7, Try.ntmps7
  go_wp2
  go_ret
  exact ⟨rfl, Below.refl _ _⟩

/-- What All gives. -/
def AllR (N q : Nat) (e : Int) (V : List Value) (w : World) (r : Ending) (W' : World) : Prop :=
  ∃ A c, r = .returned (.tuple #[.slice A N c, .int .i64 ((q : Nat) : Int), .int .i64 e]) ∧ Reads W' W'.heap.size 8 A N V ∧ Below w.heap.size w W'

set_option maxRecDepth 100000 in
set_option maxHeartbeats 4000000 in
theorem walk_err (s t : ByteArray) (w : World) (hs : ¬ (1500 : Int) < (s.size : Int) + t.size) (e1 e2 e3 : Int) (N1 N2 N3 p1 p2 p3 : Nat) (V1 V2 V3 : List Value) (h1 : e1 ≠ 0 ∨ (e1 = 0 ∧ e2 ≠ 0 ∧ e3 ≠ 0))
    (H1 : ∀ W, Calls Try.prog 23 #[.string s] W (AllR N1 p1 e1 V1 W))
    (H2 : ∀ W, Calls Try.prog 23 #[.string t] W (AllR N2 p2 e2 V2 W))
    (H3 : ∀ W, Calls Try.prog 23 #[.string (s ++ ⟨#[10]⟩ ++ t)] W (AllR N3 p3 e3 V3 W)) :
    Calls Try.prog 7 #[.string s, .string t] w (Gives (.bool true) w) := by
  have q1 := Lib.hid H1
  have q2 := Lib.hid H2
  have q3 := Lib.hid H3
  clear H1 H2 H3
  have hst : s.size + t.size ≤ 1500 := by omega
  rcases h1 with h1 | ⟨rfl, h2, h3⟩
  · have x1 : (e1 != 0) = true := bne_iff_ne.2 h1
    clear h1
    go_enter Try.func7, Try.ntmps7
    go_wp2_with fail
    refine (q1.out _).mono ?_
    rintro r w1 ⟨A1, c1, rfl, _, HB1⟩
    go_wp2_with fail
    refine (q2.out _).mono ?_
    rintro r w2 ⟨A2, c2, rfl, _, HB2⟩
    go_wp2_with fail
    refine (q3.out _).mono ?_
    rintro r w3 ⟨A3, c3, rfl, _, HB3⟩
    go_wp2_with (go_at_call 25; refine (awake6_any _).mono ?_; rintro r w8 ⟨rfl, HB8⟩)
    go_ret
    exact ⟨rfl, below_then (below_then (below_then HB1 HB2) HB3) HB8⟩
  · have x2 : (e2 != 0) = true := bne_iff_ne.2 h2
    have x3 : (e3 != 0) = true := bne_iff_ne.2 h3
    clear h2 h3
    go_enter Try.func7, Try.ntmps7
    go_wp2_with fail
    refine (q1.out _).mono ?_
    rintro r w1 ⟨A1, c1, rfl, _, HB1⟩
    go_wp2_with fail
    refine (q2.out _).mono ?_
    rintro r w2 ⟨A2, c2, rfl, _, HB2⟩
    go_wp2_with fail
    refine (q3.out _).mono ?_
    rintro r w3 ⟨A3, c3, rfl, _, HB3⟩
    go_wp2_with (go_at_call 25; refine (awake6_any _).mono ?_; rintro r w8 ⟨rfl, HB8⟩)
    go_ret
    exact ⟨by simp [x3], below_then (below_then (below_then HB1 HB2) HB3) HB8⟩

set_option maxRecDepth 100000 in
set_option maxHeartbeats 8000000 in
theorem walkOn (s t : ByteArray) (w : World) (hs : ¬ (1500 : Int) < (s.size : Int) + t.size) (N1 N2 p1 p2 : Nat) (L M : List (Tk × Nat)) (hN1 : L.length = N1) (hN2 : M.length = N2) (hs1 : N1 ≤ s.size) (hs2 : N2 ≤ t.size)
    (hp : ∀ k, k < N2 → (tkD M k).2 ≤ t.size)
    (H1 : ∀ W, Calls Try.prog 23 #[.string s] W (AllR N1 p1 0 (tkVals L) W))
    (H2 : ∀ W, Calls Try.prog 23 #[.string t] W (AllR N2 p2 0 (tkVals M) W))
    (H3 : ∀ W, Calls Try.prog 23 #[.string (s ++ ⟨#[10]⟩ ++ t)] W (AllR (N1 + N2) (s.size + 1 + t.size) 0 (tkVals (L ++ shT (s.size + 1) M)) W)) :
    Calls Try.prog 7 #[.string s, .string t] w (Gives (.bool true) w) := by
  have q1 := Lib.hid H1
  have q2 := Lib.hid H2
  have q3 := Lib.hid H3
  have qp := Lib.hid hp
  clear H1 H2 H3 hp
  have HN1 := fun _ : Unit => hN1
  have HN2 := fun _ : Unit => hN2
  clear hN1 hN2
  have hst : s.size + t.size ≤ 1500 := by omega
  go_enter Try.func7, Try.ntmps7
  go_wp2_with fail
  refine (q1.out _).mono ?_
  rintro r w1 ⟨A1, c1, rfl, HR1, HB1⟩
  go_wp2_with fail
  refine (q2.out _).mono ?_
  rintro r w2 ⟨A2, c2, rfl, HR2, HB2⟩
  replace HR1 := (HR1.below HB2).more HB2.size
  have L2 := below_then HB1 HB2
  clear HB1 HB2
  go_wp2_with fail
  refine (q3.out _).mono ?_
  rintro r w3 ⟨A3, c3, rfl, HR3, HB3⟩
  replace HR1 := (HR1.below HB3).more HB3.size
  replace HR2 := (HR2.below HB3).more HB3.size
  replace L2 := below_then L2 HB3
  clear HB3 q1 q2 q3
  go_wp2
  go_loopw [14] (fun i wr => ∃ i' : Nat, i' ≤ N1 + N2 ∧ i = .int .i64 i' ∧ Below w3.heap.size w3 wr) (fun i _ => N1 + N2 - (intOf i).toNat)
  case atStart => exact ⟨0, by omega, rfl, Below.refl _ _⟩
  case round =>
    obtain ⟨i, hi, rfl, HB⟩ := hrel
    have hsz := HB.size
    by_cases hlt : i < N1 + N2
    · obtain ⟨g, o, rfl, hg1, c0, c1, c2, c3, c4, c5, c6, c7⟩ := tok_cell (HR3.below HB) i hlt
      have hi1 : (0 : Int) ≤ (i : Int) := by omega
      have hi2 : (i : Int) < (N1 : Int) + (N2 : Int) := by omega
      have hi2' : (i : Int) < ((N1 + N2 : Nat) : Int) := by omega
      by_cases hl1 : i < N1
      · obtain ⟨g2, o2, rfl, hg2, d0, d1, d2, d3, d4, d5, d6, d7⟩ := tok_cell (HR1.below HB) i hl1
        rw [tkD_left _ _ i (by rw [HN1 ()]; exact hl1)] at c0 c1 c2 c3 c4 c5 c6 c7
        generalize tkD L i = t at *
        have hne := fun W => tok_neq W t.1.kind ((word t.1.set 0 : Nat) : Int) ((word t.1.set 1 : Nat) : Int) ((word t.1.set 2 : Nat) : Int) ((word t.1.set 3 : Nat) : Int) t.1.num ((t.2 : Nat) : Int) ⟨t.1.text.toArray⟩
        have hi3 : (i : Int) < (N1 : Int) := by omega
        have hi4 : decide ((i : Int) < (N1 : Int)) = true := by simp; omega
        have hi5 : decide (i < N1) = true := by simpa using hl1
        go_wp2
        refine wp_region_quiet_lit (by kernel_rfl) (by kernel_rfl) ?_
        repeat (go_big_quiet_step (fail))
        refine wpQuiet_nil ?_
        intro _ hw'
        obtain ⟨nq, hw''⟩ := hw'
        subst hw''
        have L10 := below_drewN HB nq
        clear c0 c1 c2 c3 c4 c5 c6 c7 d0 d1 d2 d3 d4 d5 d6 d7 hne
        go_wp2
        go_roundw
        case rel => exact ⟨i + 1, by omega, by go_num, L10⟩
        case measure => simp [intOf]; omega
      · have hi4 : decide ((i : Int) < (N1 : Int)) = false := by simp; omega
        have hi5 : decide (i < N1) = false := by simpa using hl1
        have hi6 : ¬ (i : Int) < (N1 : Int) := by omega
        obtain ⟨j, hj⟩ : ∃ j, i = N1 + j := ⟨i - N1, by omega⟩
        have hjN : j < N2 := by omega
        have hp := qp.out j hjN
        obtain ⟨g2, o2, rfl, hg2, d0, d1, d2, d3, d4, d5, d6, d7⟩ := tok_cell (HR2.below HB) j hjN
        rw [tkD_right _ _ _ (by rw [HN1 ()]; omega), HN1 (), show i - N1 = j by omega, tkD_sh _ _ _ (by rw [HN2 ()]; exact hjN)] at c0 c1 c2 c3 c4 c5 c6 c7
        simp only at c0 c1 c2 c3 c4 c5 c6 c7
        generalize tkD M j = t' at *
        generalize (⟨t'.1.text.toArray⟩ : ByteArray) = tx at *
        generalize ((word t'.1.set 0 : Nat) : Int) = x0 at *
        generalize ((word t'.1.set 1 : Nat) : Int) = x1 at *
        generalize ((word t'.1.set 2 : Nat) : Int) = x2 at *
        generalize ((word t'.1.set 3 : Nat) : Int) = x3 at *
        generalize t'.1.num = nm at *
        generalize t'.1.kind = kd at *
        generalize t'.2 = p at *
        have hcast : ((p + (s.size + 1) : Nat) : Int) = (p : Int) + (s.size : Int) + 1 := by omega
        rw [hcast] at c7
        have hne := fun W => tok_neq W kd x0 x1 x2 x3 nm ((p : Int) + (s.size : Int) + 1) tx
        have hsub : (i : Int) - (N1 : Int) = (j : Int) := by omega
        have hj1 : (0 : Int) ≤ (j : Int) := by omega
        have hj2 : (j : Int) < (N2 : Int) := by omega
        have hps : p ≤ 1500 := by omega
        clear hcast hj
        go_wp2
        refine wp_region_quiet_lit (by kernel_rfl) (by kernel_rfl) ?_
        repeat (go_big_quiet_step (fail))
        refine wpQuiet_nil ?_
        intro _ hw'
        obtain ⟨nq, hw''⟩ := hw'
        subst hw''
        have LQ : Below wr.heap.size wr (wr.drewN nq) := below_drewN (Below.refl _ wr) nq
        generalize wr.drewN nq = W1 at *
        replace d0 := (LQ.cell (block_lt_of_cell d0)).trans d0
        replace d1 := (LQ.cell (block_lt_of_cell d1)).trans d1
        replace d2 := (LQ.cell (block_lt_of_cell d2)).trans d2
        replace d3 := (LQ.cell (block_lt_of_cell d3)).trans d3
        replace d4 := (LQ.cell (block_lt_of_cell d4)).trans d4
        replace d5 := (LQ.cell (block_lt_of_cell d5)).trans d5
        replace d6 := (LQ.cell (block_lt_of_cell d6)).trans d6
        replace d7 := (LQ.cell (block_lt_of_cell d7)).trans d7
        go_upto_region 18 with (fail)
        have hb1 := Blk.new W1 46 #[.int .i64 kd, .string tx, .int .u64 x0, .int .u64 x1, .int .u64 x2, .int .u64 x3, .int .i64 nm, .int .i64 ((p : Int) + (s.size : Int) + 1)]
        have L6 : Below wr.heap.size wr (W1.alloc (.cells #[.int .i64 kd, .string tx, .int .u64 x0, .int .u64 x1, .int .u64 x2, .int .u64 x3, .int .i64 nm, .int .i64 ((p : Int) + (s.size : Int) + 1)] 46)) := LQ.alloc LQ.size _
        generalize W1.alloc (.cells #[.int .i64 kd, .string tx, .int .u64 x0, .int .u64 x1, .int .u64 x2, .int .u64 x3, .int .i64 nm, .int .i64 ((p : Int) + (s.size : Int) + 1)] 46) = W6 at *
        replace c0 := (L6.cell (block_lt_of_cell c0)).trans c0
        replace c1 := (L6.cell (block_lt_of_cell c1)).trans c1
        replace c2 := (L6.cell (block_lt_of_cell c2)).trans c2
        replace c3 := (L6.cell (block_lt_of_cell c3)).trans c3
        replace c4 := (L6.cell (block_lt_of_cell c4)).trans c4
        replace c5 := (L6.cell (block_lt_of_cell c5)).trans c5
        replace c6 := (L6.cell (block_lt_of_cell c6)).trans c6
        replace c7 := (L6.cell (block_lt_of_cell c7)).trans c7
        obtain ⟨⟨y0, y1, y2, y3, y4, y5, y6, y7⟩, _⟩ := hb1.cells8
        clear d0 d1 d2 d3 d4 d5 d6 d7 LQ hb1 hsub
        refine wp_region_quiet_lit (by kernel_rfl) (by kernel_rfl) ?_
        repeat (go_big_quiet_step (fail))
        refine wpQuiet_nil ?_
        intro _ hw'
        obtain ⟨nq, hw''⟩ := hw'
        subst hw''
        have L10 := below_drewN (HB.trans (L6.mono hsz)) nq
        clear c0 c1 c2 c3 c4 c5 c6 c7 y0 y1 y2 y3 y4 y5 y6 y7 hne
        go_wp2
        go_roundw
        case rel => exact ⟨i + 1, by omega, by go_num, L10⟩
        case measure => simp [intOf]; omega
    · obtain rfl : i = N1 + N2 := by omega
      have L8 := below_then L2 HB
      clear HR1 HR2 HR3 HN1 HN2 L2 HB hsz qp
      go_wp2_with (go_at_call 25; refine (awake6_any _).mono ?_; rintro r w8 ⟨rfl, HB8⟩)
      go_ret
      exact ⟨rfl, below_then L8 HB8⟩

theorem sf_join (s t : ByteArray) : sf (s ++ ⟨#[10]⟩ ++ t) 0 = sf s 0 ++ 10 :: sf t 0 := by
  unfold sf
  simp

theorem all_q (l : List UInt8) (h : (allL l).1 = 0) : (allL l).2.2 = l.length := by
  have : ∀ (f : Nat) (l : List UInt8) (k : Nat) (acc : List (Tk × Nat)), l.length < f → (allA f l k acc).1 = 0 → (allA f l k acc).2.2 = k + l.length := by
    intro f
    induction f with
    | zero => intro l k acc h; omega
    | succ f ih =>
      intro l k acc hf h
      by_cases h1 : (nextL l).1 = 0
      · by_cases h3 : (nextL l).2.1.kind = 0
        · rw [all_end h1 h3]
        · have hp := next_prog l h1 h3
          rw [all_go h1 h3] at h ⊢
          rw [ih _ _ _ (by rw [List.length_drop]; omega) h, List.length_drop]
          omega
      · rw [all_err h1] at h
        exact absurd h h1
  have := this (l.length + 1) l 0 [] (Nat.lt_succ_self _) h
  rw [Nat.zero_add] at this
  exact this

theorem walk (s t : ByteArray) (w : World) (hs : s.size ≤ 140737488351232) (ht : t.size ≤ 140737488351232) :
    Calls Try.prog 7 #[.string s, .string t] w (Gives (.bool true) w) := by
  by_cases h : (1500 : Int) < (s.size : Int) + t.size
  · exact walk_skip s t w hs ht h
  have hls : (sf s 0).length = s.size := by rw [sf_len]; omega
  have hlt : (sf t 0).length = t.size := by rw [sf_len]; omega
  have H1 := fun W => all_any s W (by omega)
  have H2 := fun W => all_any t W (by omega)
  have H3 := fun W => all_any (s ++ ⟨#[10]⟩ ++ t) W (by rw [ByteArray.size_append, ByteArray.size_append]; show s.size + 1 + t.size ≤ _; omega)
  rw [sf_join] at H3
  by_cases h1 : (allL (sf s 0)).1 = 0
  · rw [all_join _ _ h1] at H3
    by_cases h2 : (allL (sf t 0)).1 = 0
    · have hN1 := all_len (sf s 0)
      have hN2 := all_len (sf t 0)
      have hq := all_q _ h2
      rw [if_pos h2, hls, h2, hq, hlt] at H3
      rw [hls] at hN1
      rw [hlt] at hN2
      refine walkOn s t w h _ _ (allL (sf s 0)).2.2 (allL (sf t 0)).2.2 (allL (sf s 0)).2.1 (allL (sf t 0)).2.1 rfl rfl hN1 hN2 ?_ ?_ ?_ ?_
      · intro k hk
        obtain ⟨n, _, _, h3, _⟩ := all_at (sf t 0) h2 k hk
        rw [hlt] at h3
        unfold tkD
        omega
      · intro W
        have := H1 W
        unfold GAll at this
        rw [h1] at this
        exact this
      · intro W
        have := H2 W
        unfold GAll at this
        rw [h2] at this
        exact this
      · intro W
        refine (H3 W).mono fun r W' ⟨A, c, h5, h6, h7⟩ => ⟨A, c, ?_, ?_, h7⟩
        · rw [h5]
          simp only [List.length_append, shT_length]
          have eq1 : t.size + (s.size + 1) = s.size + 1 + t.size := by omega
          rw [eq1]
        · simp only [List.length_append, shT_length] at h6
          exact h6
    · rw [if_neg h2] at H3
      exact walk_err s t w h _ _ _ _ _ _ _ _ _ _ _ _ (.inr ⟨h1, h2, h2⟩) H1 H2 H3
  · exact walk_err s t w h _ _ _ _ _ _ _ _ _ _ _ _ (.inl h1) H1 H2 H3

set_option maxRecDepth 100000 in
theorem lifted (os : Os) (started : os.Started) (H : Type) (enc : TypeId × Value → H) :
    ReturnsInHanded {} Try.checked os 7 .any (Rows.lexJoinSpec.pre6 enc Try.prog Try.f7 Rows.lexJoinRow.domain false) (Rows.lexJoinSpec.post enc Try.prog Try.f7 false true false false) := by
  refine law_lifted (C := Try.checked) (tb := 4) ownNone started (by kernel_rfl) Try.func7 laidOut rfl ?_ rfl Try.underlying4 (by kernel_rfl)
    (ChangeSpec.witness6 (enc := enc) (C := Try.checked) false ⟨#[], #[.string ByteArray.empty, .string ByteArray.empty], []⟩ 8 (by kernel_rfl) (by kernel_rfl) (by kernel_rfl) (by kernel_rfl)) ?_
  · intro ds hl
    match ds, hl with
    | [_, _], _ => rfl
  intro W base args ds before hval0 hA0 hlt hsz0
  have hval : ∀ (j : Nat) t v, Try.f7.params[j]? = some t → args[j]? = some v → Value.okWide Try.prog W .any base t v := hval0
  have hA : DataW.TrodAll enc Try.prog W 0 (fun _ => true) true Try.f7.params.toList args.toList ds before := hA0
  have hsz : (DataW.weightsEach Try.prog Try.f7.params.toList ds).all (· ≤ reachBytes) = true := hsz0
  rw [Try.params7] at hA hval hsz
  obtain ⟨v0, vs0, d0, ds0, p0, q0, hargs, rfl, rfl, h0, r0⟩ := trodAll_cons hA
  obtain ⟨v1, vs1, d1, ds1, p1, q1, rfl, rfl, rfl, h1, r1⟩ := trodAll_cons r0
  obtain ⟨rfl, rfl, rfl⟩ := trodAll_nil r1
  obtain rfl : args = #[v0, v1] := by cases args; simp_all
  obtain ⟨a0, rfl, rfl, rfl, w0⟩ := open_string Try.underlying9 (hval 0 9 v0 rfl rfl) h0
  have z0 := sized_string hsz (j := 0) rfl rfl
  rw [← Lib.size_eq] at z0
  simp only [reachBytes] at z0
  obtain ⟨a1, rfl, rfl, rfl, w1⟩ := open_string Try.underlying9 (hval 1 9 v1 rfl rfl) h1
  have z1 := sized_string hsz (j := 1) rfl rfl
  rw [← Lib.size_eq] at z1
  simp only [reachBytes] at z1
  exact walk a0 a1 W z0 z1

theorem proved : Rows.LexJoinSaid :=
  OpenClaim.holds_of_wide 7 Try.f7 rfl rfl rfl rfl rfl rfl rfl ⟨rfl, rfl, rfl, rfl, rfl⟩ rfl rfl rfl rfl rfl (by kernel_rfl) Try.func7 (by kernel_rfl)
    (of_decide_eq_true (by kernel_rfl)) (by unfold Func.isWrapper; first | (rw [if_pos (by decide +kernel)]; kernel_rfl) | (rw [if_neg (by decide +kernel)]; exact ⟨rfl, rfl⟩))
    (fun os started H enc _ => lifted os started H enc)
#print axioms proved
end Go.Proofs.Ytbjgkolldmplkaa.LexJoin
