/- LexBack returns true for every input, and each argument reads behind the call as it did before. No conditions beyond the row's own. -/
import Derived.Test.YtbjgkolldmplkaaLexE
import Derived.Test.YtbjgkolldmplkaaLex13
import Derived.Test.YtbjgkolldmplkaaLexR
import Derived.Test.YtbjgkolldmplkaaLawSet
import Derived.Laws.Concat
import Derived.Deep.Cut
namespace Go.Proofs.Ytbjgkolldmplkaa.LexBack
open Go.ChangeShapes Go.WideShapes Go.ChangeAt Go.RowKit Go.Sort
open Go.ChangeMaps (open_string shut_string)

set_option maxRecDepth 100000 in
theorem walk_skip1 (b r : ByteArray) (m : Nat → Bool) (w : World) (h : (400 : Int) < b.size) (_hb : b.size ≤ maxLen) :
    Calls Try.prog 9 #[.string b, .agg #[.int .u64 ((word m 0 : Nat) : Int), .int .u64 ((word m 1 : Nat) : Int), .int .u64 ((word m 2 : Nat) : Int), .int .u64 ((word m 3 : Nat) : Int)], .string r] w (Gives (.bool true) w) := by
  unfold maxLen at _hb
  go_enter Try.func9, Try.ntmps9
  go_wp2
  go_ret
  exact ⟨rfl, (Below.refl _ _).alloc (Nat.le_refl _) _⟩

set_option maxRecDepth 100000 in
theorem walk_skip2 (b r : ByteArray) (m : Nat → Bool) (w : World) (h : ¬ (400 : Int) < b.size) (h2 : (300 : Int) < r.size) (_hr : r.size ≤ maxLen) :
    Calls Try.prog 9 #[.string b, .agg #[.int .u64 ((word m 0 : Nat) : Int), .int .u64 ((word m 1 : Nat) : Int), .int .u64 ((word m 2 : Nat) : Int), .int .u64 ((word m 3 : Nat) : Int)], .string r] w (Gives (.bool true) w) := by
  unfold maxLen at _hr
  go_enter Try.func9, Try.ntmps9
  go_wp2
  go_ret
  exact ⟨rfl, (Below.refl _ _).alloc (Nat.le_refl _) _⟩

/-- A token, a place and an error's number. -/
def NX (V : Value) (pl er : Int) (w : World) (e : Ending) (w' : World) : Prop := e = .returned (.tuple #[V, .int .i64 pl, .int .i64 er]) ∧ Below w.heap.size w w'

set_option maxRecDepth 100000 in
set_option maxHeartbeats 8000000 in
theorem walkOn (b r X Y : ByteArray) (m : Nat → Bool) (w : World) (hb : b.size ≤ 400) (hr : r.size ≤ 300) (hX : X.size ≤ 2000) (hY : Y.size ≤ 4000)
    (H1 : ∀ W, Calls Try.prog 26 #[.string b] W (Gives (.string X) W))
    (H2 : ∀ W, Calls Try.prog 28 #[.agg #[.int .u64 ((word m 0 : Nat) : Int), .int .u64 ((word m 1 : Nat) : Int), .int .u64 ((word m 2 : Nat) : Int), .int .u64 ((word m 3 : Nat) : Int)]] W (Gives (.string Y) W))
    (H3 : (256 < b.size ∧ ∀ W, Calls Try.prog 24 #[.string (X ++ r), .int .i64 0] W (NX (.agg #[.int .i64 0, .string ⟨#[]⟩, .int .u64 0, .int .u64 0, .int .u64 0, .int .u64 0, .int .i64 0, .int .i64 0]) 0 2 W)) ∨
      (¬ 256 < b.size ∧ ∀ W, Calls Try.prog 24 #[.string (X ++ r), .int .i64 0] W (NX (.agg #[.int .i64 2, .string b, .int .u64 0, .int .u64 0, .int .u64 0, .int .u64 0, .int .i64 0, .int .i64 0]) ((X.size : Nat) : Int) 0 W)))
    (H4 : ∀ W, Calls Try.prog 24 #[.string (Y ++ r), .int .i64 0] W (NX (.agg #[.int .i64 3, .string ⟨#[]⟩, .int .u64 ((word m 0 : Nat) : Int), .int .u64 ((word m 1 : Nat) : Int), .int .u64 ((word m 2 : Nat) : Int), .int .u64 ((word m 3 : Nat) : Int), .int .i64 0, .int .i64 0]) ((Y.size : Nat) : Int) 0 W)) :
    Calls Try.prog 9 #[.string b, .agg #[.int .u64 ((word m 0 : Nat) : Int), .int .u64 ((word m 1 : Nat) : Int), .int .u64 ((word m 2 : Nat) : Int), .int .u64 ((word m 3 : Nat) : Int)], .string r] w (Gives (.bool true) w) := by
  have q1 := Lib.hid H1
  have q2 := Lib.hid H2
  have q4 := Lib.hid H4
  clear H1 H2 H4
  have hbs := new_blk w m 25
  have L0 : Below w.heap.size w (w.alloc (.cells #[.int .u64 ((word m 0 : Nat) : Int), .int .u64 ((word m 1 : Nat) : Int), .int .u64 ((word m 2 : Nat) : Int), .int .u64 ((word m 3 : Nat) : Int)] 25)) := (Below.refl _ _).alloc (Nat.le_refl _) _
  have hne := fun W => tok_neq W 3 ((word m 0 : Nat) : Int) ((word m 1 : Nat) : Int) ((word m 2 : Nat) : Int) ((word m 3 : Nat) : Int) 0 0 ⟨#[]⟩
  have heq := fun W => tok_eql W 2 0 0 0 0 0 0 b
  rcases H3 with ⟨h256, H3⟩ | ⟨h256, H3⟩
  · have q3 := Lib.hid H3
    clear H3
    have x256 : (256 : Int) < (b.size : Int) := by omega
    clear h256
    go_enter Try.func9, Try.ntmps9
    go_wp2_with fail
    refine (q1.out _).mono ?_
    rintro e w1 ⟨rfl, HB⟩
    replace hbs := hbs.below HB hbs.lt
    replace L0 := L0.trans (HB.mono L0.size)
    clear HB
    obtain ⟨d0, d1, d2, d3⟩ := hbs.cells4
    go_wp2_with fail
    refine (q2.out _).mono ?_
    rintro e w2 ⟨rfl, HB⟩
    replace hbs := hbs.below HB hbs.lt
    replace L0 := L0.trans (HB.mono L0.size)
    clear HB d0 d1 d2 d3
    go_wp2_with fail
    refine (q3.out _).mono ?_
    rintro e w3 ⟨rfl, HB⟩
    replace hbs := hbs.below HB hbs.lt
    replace L0 := L0.trans (HB.mono L0.size)
    clear HB
    go_upto_region 6 with (fail)
    replace hbs := hbs.alloc (.cells #[.int .i64 0, .string ⟨#[]⟩, .int .u64 0, .int .u64 0, .int .u64 0, .int .u64 0, .int .i64 0, .int .i64 0] 46)
    replace L0 := L0.alloc L0.size (.cells #[.int .i64 0, .string ⟨#[]⟩, .int .u64 0, .int .u64 0, .int .u64 0, .int .u64 0, .int .i64 0, .int .i64 0] 46)
    generalize w3.alloc (.cells #[.int .i64 0, .string ⟨#[]⟩, .int .u64 0, .int .u64 0, .int .u64 0, .int .u64 0, .int .i64 0, .int .i64 0] 46) = W3 at *
    go_upto_region 7 with (go_at_call 24; refine (q4.out _).mono ?_; rintro e w4 ⟨rfl, HB⟩)
    replace hbs := (hbs.below HB hbs.lt).alloc (.cells #[.int .i64 3, .string ⟨#[]⟩, .int .u64 ((word m 0 : Nat) : Int), .int .u64 ((word m 1 : Nat) : Int), .int .u64 ((word m 2 : Nat) : Int), .int .u64 ((word m 3 : Nat) : Int), .int .i64 0, .int .i64 0] 46)
    replace L0 := L0.trans (HB.mono L0.size)
    have hu := Blk.new w4 46 #[.int .i64 3, .string ⟨#[]⟩, .int .u64 ((word m 0 : Nat) : Int), .int .u64 ((word m 1 : Nat) : Int), .int .u64 ((word m 2 : Nat) : Int), .int .u64 ((word m 3 : Nat) : Int), .int .i64 0, .int .i64 0]
    replace L0 := L0.alloc L0.size (.cells #[.int .i64 3, .string ⟨#[]⟩, .int .u64 ((word m 0 : Nat) : Int), .int .u64 ((word m 1 : Nat) : Int), .int .u64 ((word m 2 : Nat) : Int), .int .u64 ((word m 3 : Nat) : Int), .int .i64 0, .int .i64 0] 46)
    generalize w4.alloc (.cells #[.int .i64 3, .string ⟨#[]⟩, .int .u64 ((word m 0 : Nat) : Int), .int .u64 ((word m 1 : Nat) : Int), .int .u64 ((word m 2 : Nat) : Int), .int .u64 ((word m 3 : Nat) : Int), .int .i64 0, .int .i64 0] 46) = W4 at *
    obtain ⟨d0, d1, d2, d3⟩ := hbs.cells4
    obtain ⟨⟨c0, c1, c2, c3, c4, c5, c6, c7⟩, _⟩ := hu.cells8
    clear HB hu hbs
    go_wp2_with (go_at_call 25; refine (awake6_any _).mono ?_; rintro e w8 ⟨rfl, HB8⟩)
    go_ret
    exact ⟨rfl, L0.trans (HB8.mono L0.size)⟩
  · have q3 := Lib.hid H3
    clear H3
    have x256 : ¬ (256 : Int) < (b.size : Int) := by omega
    clear h256
    go_enter Try.func9, Try.ntmps9
    go_wp2_with fail
    refine (q1.out _).mono ?_
    rintro e w1 ⟨rfl, HB⟩
    replace hbs := hbs.below HB hbs.lt
    replace L0 := L0.trans (HB.mono L0.size)
    clear HB
    obtain ⟨d0, d1, d2, d3⟩ := hbs.cells4
    go_wp2_with fail
    refine (q2.out _).mono ?_
    rintro e w2 ⟨rfl, HB⟩
    replace hbs := hbs.below HB hbs.lt
    replace L0 := L0.trans (HB.mono L0.size)
    clear HB d0 d1 d2 d3
    go_wp2_with fail
    refine (q3.out _).mono ?_
    rintro e w3 ⟨rfl, HB⟩
    replace hbs := hbs.below HB hbs.lt
    replace L0 := L0.trans (HB.mono L0.size)
    clear HB
    go_upto_region 6 with (fail)
    have ht := Blk.new w3 46 #[.int .i64 2, .string b, .int .u64 0, .int .u64 0, .int .u64 0, .int .u64 0, .int .i64 0, .int .i64 0]
    replace hbs := hbs.alloc (.cells #[.int .i64 2, .string b, .int .u64 0, .int .u64 0, .int .u64 0, .int .u64 0, .int .i64 0, .int .i64 0] 46)
    replace L0 := L0.alloc L0.size (.cells #[.int .i64 2, .string b, .int .u64 0, .int .u64 0, .int .u64 0, .int .u64 0, .int .i64 0, .int .i64 0] 46)
    generalize w3.alloc (.cells #[.int .i64 2, .string b, .int .u64 0, .int .u64 0, .int .u64 0, .int .u64 0, .int .i64 0, .int .i64 0] 46) = W3 at *
    go_upto_region 7 with (go_at_call 24; refine (q4.out _).mono ?_; rintro e w4 ⟨rfl, HB⟩)
    replace hbs := (hbs.below HB hbs.lt).alloc (.cells #[.int .i64 3, .string ⟨#[]⟩, .int .u64 ((word m 0 : Nat) : Int), .int .u64 ((word m 1 : Nat) : Int), .int .u64 ((word m 2 : Nat) : Int), .int .u64 ((word m 3 : Nat) : Int), .int .i64 0, .int .i64 0] 46)
    replace ht := (ht.below HB ht.lt).alloc (.cells #[.int .i64 3, .string ⟨#[]⟩, .int .u64 ((word m 0 : Nat) : Int), .int .u64 ((word m 1 : Nat) : Int), .int .u64 ((word m 2 : Nat) : Int), .int .u64 ((word m 3 : Nat) : Int), .int .i64 0, .int .i64 0] 46)
    replace L0 := L0.trans (HB.mono L0.size)
    have hu := Blk.new w4 46 #[.int .i64 3, .string ⟨#[]⟩, .int .u64 ((word m 0 : Nat) : Int), .int .u64 ((word m 1 : Nat) : Int), .int .u64 ((word m 2 : Nat) : Int), .int .u64 ((word m 3 : Nat) : Int), .int .i64 0, .int .i64 0]
    replace L0 := L0.alloc L0.size (.cells #[.int .i64 3, .string ⟨#[]⟩, .int .u64 ((word m 0 : Nat) : Int), .int .u64 ((word m 1 : Nat) : Int), .int .u64 ((word m 2 : Nat) : Int), .int .u64 ((word m 3 : Nat) : Int), .int .i64 0, .int .i64 0] 46)
    generalize w4.alloc (.cells #[.int .i64 3, .string ⟨#[]⟩, .int .u64 ((word m 0 : Nat) : Int), .int .u64 ((word m 1 : Nat) : Int), .int .u64 ((word m 2 : Nat) : Int), .int .u64 ((word m 3 : Nat) : Int), .int .i64 0, .int .i64 0] 46) = W4 at *
    obtain ⟨d0, d1, d2, d3⟩ := hbs.cells4
    obtain ⟨⟨c0, c1, c2, c3, c4, c5, c6, c7⟩, _⟩ := hu.cells8
    clear HB hu hbs
    go_upto_region 11 with (fail)
    clear d0 d1 d2 d3 c0 c1 c2 c3 c4 c5 c6 c7
    go_wp2_with (go_at_call 25; refine (awake6_any _).mono ?_; rintro e w8 ⟨rfl, HB8⟩; have ht8 := ht.below HB8 ht.lt; obtain ⟨⟨c0, c1, c2, c3, c4, c5, c6, c7⟩, _⟩ := ht8.cells8)
    go_ret
    exact ⟨by simp, L0.trans (HB8.mono L0.size)⟩

theorem sf_app (F s : ByteArray) : sf (F ++ s) 0 = F.data.toList ++ sf s 0 := by
  unfold sf
  simp

theorem walk (b r : ByteArray) (m : Nat → Bool) (w : World) (hb : b.size ≤ maxLen) (hr : r.size ≤ maxLen) :
    Calls Try.prog 9 #[.string b, .agg #[.int .u64 ((word m 0 : Nat) : Int), .int .u64 ((word m 1 : Nat) : Int), .int .u64 ((word m 2 : Nat) : Int), .int .u64 ((word m 3 : Nat) : Int)], .string r] w (Gives (.bool true) w) := by
  by_cases h : (400 : Int) < b.size
  · exact walk_skip1 b r m w h hb
  by_cases h2 : (300 : Int) < r.size
  · exact walk_skip2 b r m w h h2 hr
  have hbl : b.data.toList.length = b.size := by simp
  have hx := wrAll_len b.data.toList
  have hxs : (⟨(txL b.data.toList).toArray⟩ : ByteArray).size = (txL b.data.toList).length := by show (txL b.data.toList).toArray.size = _; simp
  have hxl : (txL b.data.toList).length = (wrAll b.data.toList).length + 2 := by simp [txL]
  have hys : (⟨(stL m).toArray⟩ : ByteArray).size = (stL m).length := by show (stL m).toArray.size = _; simp
  have hyl := stL_len m
  refine walkOn b r ⟨(txL b.data.toList).toArray⟩ ⟨(stL m).toArray⟩ m w (by omega) (by omega) (by omega) (by omega) (fun W => text_any b W (by omega)) (fun W => set_any m W) ?_ ?_
  · have hN := fun W => next_any (⟨(txL b.data.toList).toArray⟩ ++ r) 0 W (by rw [ByteArray.size_append]; omega) (Nat.zero_le _)
    rw [sf_app, show (⟨(txL b.data.toList).toArray⟩ : ByteArray).data.toList = txL b.data.toList from rfl, next_text] at hN
    by_cases h256 : 256 < b.size
    · rw [if_pos (by omega)] at hN
      refine .inl ⟨h256, fun W => (hN W).mono fun e w' ⟨h3, h4⟩ => ⟨?_, h4⟩⟩
      rw [h3]
      simp only
      rw [if_neg (by decide)]
      unfold tk0
      rw [tkV_plain]
      rfl
    · rw [if_neg (by omega)] at hN
      refine .inr ⟨h256, fun W => (hN W).mono fun e w' ⟨h3, h4⟩ => ⟨?_, h4⟩⟩
      rw [h3, hxs]
      simp only
      rw [if_pos trivial, tkV_plain, Nat.zero_add, Nat.zero_add, ← str_data b _ rfl]
      rfl
  · have hN := fun W => next_any (⟨(stL m).toArray⟩ ++ r) 0 W (by rw [ByteArray.size_append]; omega) (Nat.zero_le _)
    rw [sf_app, show (⟨(stL m).toArray⟩ : ByteArray).data.toList = stL m from rfl] at hN
    obtain ⟨of, hof, hw⟩ := next_set m (sf r 0)
    rw [hof] at hN
    intro W
    refine (hN W).mono fun e w' ⟨h3, h4⟩ => ⟨?_, h4⟩
    rw [h3, hys]
    simp only
    rw [if_pos trivial, Nat.zero_add, Nat.zero_add]
    unfold tkV
    simp only
    rw [hw 0 (by decide), hw 1 (by decide), hw 2 (by decide), hw 3 (by decide)]
    rfl

set_option maxRecDepth 100000 in
theorem lifted (os : Os) (started : os.Started) (H : Type) (enc : TypeId × Value → H) :
    ReturnsInHanded {} Try.checked os 9 .any (Rows.lexBackSpec.pre6 enc Try.prog Try.f9 Rows.lexBackRow.domain false) (Rows.lexBackSpec.post enc Try.prog Try.f9 false true false false) := by
  refine law_lifted (C := Try.checked) (tb := 4) ownNone started (by kernel_rfl) Try.func9 laidOut rfl ?_ rfl Try.underlying4 (by kernel_rfl)
    (ChangeSpec.witness6 (enc := enc) (C := Try.checked) false ⟨#[], #[.string ByteArray.empty, .agg #[.int .u64 0, .int .u64 0, .int .u64 0, .int .u64 0], .string ByteArray.empty], []⟩ 8 (by kernel_rfl) (by kernel_rfl) (by kernel_rfl) (by kernel_rfl)) ?_
  · intro ds hl
    match ds, hl with
    | [_, _, _], _ => rfl
  intro W base args ds before hval0 hA0 hlt hsz0
  have hval : ∀ (j : Nat) t v, Try.f9.params[j]? = some t → args[j]? = some v → Value.okWide Try.prog W .any base t v := hval0
  have hA : DataW.TrodAll enc Try.prog W 0 (fun _ => true) true Try.f9.params.toList args.toList ds before := hA0
  have hsz : (DataW.weightsEach Try.prog Try.f9.params.toList ds).all (· ≤ reachBytes) = true := hsz0
  rw [Try.params9] at hA hval hsz
  obtain ⟨v0, vs0, d0, ds0, p0, q0, hargs, rfl, rfl, h0, r0⟩ := trodAll_cons hA
  obtain ⟨v1, vs1, d1, ds1, p1, q1, rfl, rfl, rfl, h1, r1⟩ := trodAll_cons r0
  obtain ⟨v2, vs2, d2, ds2, p2, q2, rfl, rfl, rfl, h2, r2⟩ := trodAll_cons r1
  obtain ⟨rfl, rfl, rfl⟩ := trodAll_nil r2
  obtain rfl : args = #[v0, v1, v2] := by cases args; simp_all
  obtain ⟨a0, rfl, rfl, rfl, w0⟩ := open_string Try.underlying9 (hval 0 9 v0 rfl rfl) h0
  have z0 := sized_string hsz (j := 0) rfl rfl
  rw [← Lib.size_eq] at z0
  simp only [reachBytes] at z0
  obtain ⟨a1, rfl⟩ := open_set Try.underlying25 Try.underlying23 (by kernel_rfl) (by kernel_rfl) (hval 1 25 v1 rfl rfl) h1
  obtain ⟨a2, rfl, rfl, rfl, w2⟩ := open_string Try.underlying9 (hval 2 9 v2 rfl rfl) h2
  have z2 := sized_string hsz (j := 2) rfl rfl
  rw [← Lib.size_eq] at z2
  simp only [reachBytes] at z2
  exact walk a0 a2 a1 W w0 w2

theorem proved : Rows.LexBackSaid :=
  OpenClaim.holds_of_wide 9 Try.f9 rfl rfl rfl rfl rfl rfl rfl ⟨rfl, rfl, rfl, rfl, rfl⟩ rfl rfl rfl rfl rfl (by kernel_rfl) Try.func9 (by kernel_rfl)
    (of_decide_eq_true (by kernel_rfl)) (by unfold Func.isWrapper; first | (rw [if_pos (by decide +kernel)]; kernel_rfl) | (rw [if_neg (by decide +kernel)]; exact ⟨rfl, rfl⟩))
    (fun os started H enc _ => lifted os started H enc)
#print axioms proved
end Go.Proofs.Ytbjgkolldmplkaa.LexBack
