/- LexShows returns true for every input, and each argument reads behind the call as it did before. No conditions beyond the row's own. -/
import Derived.Test.YtbjgkolldmplkaaLexE
import Derived.Test.YtbjgkolldmplkaaLex14
import Derived.Test.YtbjgkolldmplkaaLawSet
namespace Go.Proofs.Ytbjgkolldmplkaa.LexShows
open Go.ChangeShapes Go.WideShapes Go.ChangeAt Go.RowKit Go.Sort
open Go.ChangeMaps (open_string shut_string)

theorem text_eql (x : ByteArray) (w : World) : (binOp .eql 9 (.string x) (.string x)).run Try.prog w = .ok (.bool true) w := by
  rw [binOp_string_eql]
  simp

set_option maxRecDepth 100000 in
theorem walk_skip (b : ByteArray) (m : Nat → Bool) (w : World) (h : (600 : Int) < b.size) (_hb : b.size ≤ maxLen) :
    Calls Try.prog 8 #[.string b, .agg #[.int .u64 ((word m 0 : Nat) : Int), .int .u64 ((word m 1 : Nat) : Int), .int .u64 ((word m 2 : Nat) : Int), .int .u64 ((word m 3 : Nat) : Int)]] w (Gives (.bool true) w) := by
  unfold maxLen at _hb
  go_enter Try.func8, Try.ntmps8
  go_wp2
  go_ret
  exact ⟨rfl, (Below.refl _ _).alloc (Nat.le_refl _) _⟩

set_option maxRecDepth 100000 in
set_option maxHeartbeats 4000000 in
theorem walkOn (b X Y : ByteArray) (m : Nat → Bool) (w : World) (h : b.size ≤ 600)
    (H1 : ∀ W, Calls Try.prog 26 #[.string b] W (Gives (.string X) W))
    (H2 : ∀ W, Calls Try.prog 27 #[.string b] W (Gives (.string X) W))
    (H3 : ∀ W, Calls Try.prog 28 #[.agg #[.int .u64 ((word m 0 : Nat) : Int), .int .u64 ((word m 1 : Nat) : Int), .int .u64 ((word m 2 : Nat) : Int), .int .u64 ((word m 3 : Nat) : Int)]] W (Gives (.string Y) W))
    (H4 : ∀ W, Calls Try.prog 29 #[.agg #[.int .u64 ((word m 0 : Nat) : Int), .int .u64 ((word m 1 : Nat) : Int), .int .u64 ((word m 2 : Nat) : Int), .int .u64 ((word m 3 : Nat) : Int)]] W (Gives (.string Y) W)) :
    Calls Try.prog 8 #[.string b, .agg #[.int .u64 ((word m 0 : Nat) : Int), .int .u64 ((word m 1 : Nat) : Int), .int .u64 ((word m 2 : Nat) : Int), .int .u64 ((word m 3 : Nat) : Int)]] w (Gives (.bool true) w) := by
  have q1 := Lib.hid H1
  have q2 := Lib.hid H2
  have q3 := Lib.hid H3
  have q4 := Lib.hid H4
  clear H1 H2 H3 H4
  have hx := text_eql X
  have hy := text_eql Y
  have hbs := new_blk w m 25
  have L0 : Below w.heap.size w (w.alloc (.cells #[.int .u64 ((word m 0 : Nat) : Int), .int .u64 ((word m 1 : Nat) : Int), .int .u64 ((word m 2 : Nat) : Int), .int .u64 ((word m 3 : Nat) : Int)] 25)) := (Below.refl _ _).alloc (Nat.le_refl _) _
  go_enter Try.func8, Try.ntmps8
  go_wp2
  generalize w.alloc (.cells #[.int .u64 ((word m 0 : Nat) : Int), .int .u64 ((word m 1 : Nat) : Int), .int .u64 ((word m 2 : Nat) : Int), .int .u64 ((word m 3 : Nat) : Int)] 25) = W1 at *
  obtain ⟨d0, d1, d2, d3⟩ := hbs.cells4
  have d0' := cell_regrown d0
  have d1' := cell_regrown d1
  have d2' := cell_regrown d2
  have d3' := cell_regrown d3
  clear d0 d1 d2 d3
  refine wp_region_quiet_below (by kernel_rfl) (by kernel_rfl) ?_
  repeat (go_big_quiet_step ((first
    | (go_at_call 25; exact gives_quiet (awake6_any _))
    | (go_at_call 26; exact gives_quiet (q1.out _))
    | (go_at_call 27; exact gives_quiet (q2.out _))
    | (go_at_call 28; exact gives_quiet (q3.out _))
    | (go_at_call 29; exact gives_quiet (q4.out _)))))
  refine wpQuiet_nil ?_
  intro w5 hw5
  have HB5 := below_of hw5
  have L5 := L0.trans (HB5.mono L0.size)
  clear hw5 d0' d1' d2' d3'
  go_wp2
  go_ret
  exact ⟨rfl, L5⟩

theorem walk (b : ByteArray) (m : Nat → Bool) (w : World) (hb : b.size ≤ maxLen) :
    Calls Try.prog 8 #[.string b, .agg #[.int .u64 ((word m 0 : Nat) : Int), .int .u64 ((word m 1 : Nat) : Int), .int .u64 ((word m 2 : Nat) : Int), .int .u64 ((word m 3 : Nat) : Int)]] w (Gives (.bool true) w) := by
  by_cases h : (600 : Int) < b.size
  · exact walk_skip b m w h hb
  · exact walkOn b _ _ m w (by omega) (fun W => text_any b W (by omega)) (fun W => rtext_any b W (by omega)) (set_any m) (rset_any m)

set_option maxRecDepth 100000 in
theorem lifted (os : Os) (started : os.Started) (H : Type) (enc : TypeId × Value → H) :
    ReturnsInHanded {} Try.checked os 8 .any (Rows.lexShowsSpec.pre6 enc Try.prog Try.f8 Rows.lexShowsRow.domain false) (Rows.lexShowsSpec.post enc Try.prog Try.f8 false true false false) := by
  refine law_lifted (C := Try.checked) (tb := 4) ownNone started (by kernel_rfl) Try.func8 laidOut rfl ?_ rfl Try.underlying4 (by kernel_rfl)
    (ChangeSpec.witness6 (enc := enc) (C := Try.checked) false ⟨#[], #[.string ByteArray.empty, .agg #[.int .u64 0, .int .u64 0, .int .u64 0, .int .u64 0]], []⟩ 8 (by kernel_rfl) (by kernel_rfl) (by kernel_rfl) (by kernel_rfl)) ?_
  · intro ds hl
    match ds, hl with
    | [_, _], _ => rfl
  intro W base args ds before hval0 hA0 hlt hsz0
  have hval : ∀ (j : Nat) t v, Try.f8.params[j]? = some t → args[j]? = some v → Value.okWide Try.prog W .any base t v := hval0
  have hA : DataW.TrodAll enc Try.prog W 0 (fun _ => true) true Try.f8.params.toList args.toList ds before := hA0
  have hsz : (DataW.weightsEach Try.prog Try.f8.params.toList ds).all (· ≤ reachBytes) = true := hsz0
  rw [Try.params8] at hA hval hsz
  obtain ⟨v0, vs0, d0, ds0, p0, q0, hargs, rfl, rfl, h0, r0⟩ := trodAll_cons hA
  obtain ⟨v1, vs1, d1, ds1, p1, q1, rfl, rfl, rfl, h1, r1⟩ := trodAll_cons r0
  obtain ⟨rfl, rfl, rfl⟩ := trodAll_nil r1
  obtain rfl : args = #[v0, v1] := by cases args; simp_all
  obtain ⟨a0, rfl, rfl, rfl, w0⟩ := open_string Try.underlying9 (hval 0 9 v0 rfl rfl) h0
  have z0 := sized_string hsz (j := 0) rfl rfl
  rw [← Lib.size_eq] at z0
  simp only [reachBytes] at z0
  obtain ⟨a1, rfl⟩ := open_set Try.underlying25 Try.underlying23 (by kernel_rfl) (by kernel_rfl) (hval 1 25 v1 rfl rfl) h1
  exact walk a0 a1 W w0

theorem proved : Rows.LexShowsSaid :=
  OpenClaim.holds_of_wide 8 Try.f8 rfl rfl rfl rfl rfl rfl rfl ⟨rfl, rfl, rfl, rfl, rfl⟩ rfl rfl rfl rfl rfl (by kernel_rfl) Try.func8 (by kernel_rfl)
    (of_decide_eq_true (by kernel_rfl)) (by unfold Func.isWrapper; first | (rw [if_pos (by decide +kernel)]; kernel_rfl) | (rw [if_neg (by decide +kernel)]; exact ⟨rfl, rfl⟩))
    (fun os started H enc _ => lifted os started H enc)
#print axioms proved
end Go.Proofs.Ytbjgkolldmplkaa.LexShows
