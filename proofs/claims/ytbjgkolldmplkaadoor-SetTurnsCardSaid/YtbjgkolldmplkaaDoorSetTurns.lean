/- The tied card of SetTurns: it returns true for every input, and each argument reads behind the call as it did before. Conditions: the row's own (the table of math/bits reads as its initialiser laid it, tied to the program's text). -/
import Derived.Test.YtbjgkolldmplkaaDoorSetTurns1
import Derived.Test.YtbjgkolldmplkaaDoorLawSet
import Derived.Test.YtbjgkolldmplkaaDoorLawD
namespace Go.Proofs.YtbjgkolldmplkaaDoor.SetTurns
open Go.ChangeShapes Go.WideShapes Go.ChangeAt Go.RowKit

theorem eq_words (m k : Nat → Bool) (h : ∀ b, m b = k b) (W : World) : (binOp .eql 35 (.agg #[.int .u64 ((word m 0 : Nat) : Int), .int .u64 ((word m 1 : Nat) : Int), .int .u64 ((word m 2 : Nat) : Int), .int .u64 ((word m 3 : Nat) : Int)]) (.agg #[.int .u64 ((word k 0 : Nat) : Int), .int .u64 ((word k 1 : Nat) : Int), .int .u64 ((word k 2 : Nat) : Int), .int .u64 ((word k 3 : Nat) : Int)])).run Tryd.prog W = .ok (.bool true) W := by
  obtain rfl : m = k := funext h
  rw [eql_words]; simp

theorem bytes_least (m : Nat → Bool) : (bytesOf m = [] ∧ sLeast m = 256) ∨ (∃ b t, bytesOf m = b :: t ∧ sLeast m = b ∧ b < 256) := by
  have hr := bytesTo_rise m 256
  have hlt := bytesTo_lt m 256
  have hmem := bytesTo_mem m 256
  unfold bytesOf
  cases hl : bytesTo m 256 with
  | nil =>
    refine .inl ⟨rfl, leastTo_none m 256 fun k hk => ?_⟩
    cases hm : m k
    · rfl
    · have := hmem k hk hm
      rw [hl] at this
      cases this
  | cons b t =>
    rw [hl] at hr hlt
    have hb := hlt b List.mem_cons_self
    refine .inr ⟨b, t, rfl, leastTo_eq m 256 b hb.1 hb.2 fun j hj => ?_, hb.1⟩
    cases hm : m j
    · rfl
    · have := hmem j (by omega) hm
      rw [hl] at this
      rcases List.mem_cons.1 this with rfl | h
      · exact absurd hj (Nat.lt_irrefl _)
      · exact absurd ((List.pairwise_cons.1 hr).1 j h) (by omega)

theorem walk (m k : Nat → Bool) (w : World) (hT : TabD w) :
    Calls Tryd.prog 6 #[.agg #[.int .u64 ((word m 0 : Nat) : Int), .int .u64 ((word m 1 : Nat) : Int), .int .u64 ((word m 2 : Nat) : Int), .int .u64 ((word m 3 : Nat) : Int)], .agg #[.int .u64 ((word k 0 : Nat) : Int), .int .u64 ((word k 1 : Nat) : Int), .int .u64 ((word k 2 : Nat) : Int), .int .u64 ((word k 3 : Nat) : Int)]] w (Gives (.bool true) w) := by
  have hlen : (bytesOf m).length = sSize m := bytesTo_length m 256
  have hF := fun W (hW : Below w.heap.size w W) => first_any m W fun W' h' => hT.below (hW.trans (h'.mono hW.size))
  have hS := size_any m
  rw [← hlen] at hS
  rcases bytes_least m with ⟨h1, h2⟩ | ⟨b, t, h1, h2, h3⟩
  · have e : firstV m = .tuple #[.int .u8 ((0 : Nat) : Int), .bool false] := by unfold firstV; rw [h2]; rfl
    rw [e] at hF
    refine walkOn m k (bytesOf m) _ 0 false (rowsOf m) w rfl ?_ (.inl ⟨?_, ?_, rfl, rfl⟩) (bytes_any m) hF hS (rows_reads m) (rrows_any m) (by_any 0 0 (by simp) m k) (by_any 1 1 (by simp) m k) (by_any 2 2 (by simp) m k) (by_any 3 3 (by simp) m k)
      (eq_words _ _ fun b => rfl) (eq_words _ _ fun b => rfl) (eq_words _ _ fun b => rfl) (eq_words _ _ fun b => rfl)
    · rw [h1]; simp
    · rw [h1]; rfl
    · rw [h1]; rfl
  · have e : firstV m = .tuple #[.int .u8 ((b : Nat) : Int), .bool true] := by unfold firstV; rw [h2, if_pos h3]
    rw [e] at hF
    refine walkOn m k (bytesOf m) _ b true (rowsOf m) w rfl ?_ (.inr ⟨?_, rfl, ?_⟩) (bytes_any m) hF hS (rows_reads m) (rrows_any m) (by_any 0 0 (by simp) m k) (by_any 1 1 (by simp) m k) (by_any 2 2 (by simp) m k) (by_any 3 3 (by simp) m k)
      (eq_words _ _ fun b => rfl) (eq_words _ _ fun b => rfl) (eq_words _ _ fun b => rfl) (eq_words _ _ fun b => rfl)
    · rw [hlen]; exact cnt_le m 256
    · rw [h1]; simp
    · rw [h1]; rfl

set_option maxRecDepth 100000 in
theorem lifted (os : Os) (started : os.Started) (H : Type) (enc : TypeId × Value → H) :
    ReturnsInHanded {} Tryd.checked os 6 .any (fun w args => (Rows.setTurnsSpec.pre enc Tryd.prog Tryd.f6 [] false w args ∧ laidMetH Tryd.prog laidL w) ∧ sizedMet enc Tryd.prog Tryd.f6 (OpenSpec.ofChange Rows.setTurnsSpec) false w args) (Rows.setTurnsSpec.post enc Tryd.prog Tryd.f6 false true false false) := by
  refine law_lifted_laid (tb := 4) started (by kernel_rfl) Tryd.func6 rfl ?_ rfl Tryd.underlying4 (by kernel_rfl)
    (ChangeSpec.witness_shaped (enc := enc) (C := Tryd.checked) (os := os) (X := fun w _ => laidMetH Tryd.prog laidL w) false (World.doorLaid Tryd.prog 14 os) #[.agg #[.int .u64 0, .int .u64 0, .int .u64 0, .int .u64 0], .agg #[.int .u64 0, .int .u64 0, .int .u64 0, .int .u64 0]] 8 rfl (World.shaped_of_RefB (by kernel_rfl) (by kernel_rfl)) (by kernel_rfl) (by kernel_rfl) (by kernel_rfl) (door_met os _)) ?_
  · intro ds hl
    match ds, hl with
    | [_, _], _ => rfl
  intro W base args ds before hval0 hA0 hlt hsz0 hTab
  have hval : ∀ (j : Nat) t v, Tryd.f6.params[j]? = some t → args[j]? = some v → Value.okWide Tryd.prog W .any base t v := hval0
  have hA : DataW.TrodAll enc Tryd.prog W 0 (fun _ => true) true Tryd.f6.params.toList args.toList ds before := hA0
  have hsz : (DataW.weightsEach Tryd.prog Tryd.f6.params.toList ds).all (· ≤ reachBytes) = true := hsz0
  rw [Tryd.params6] at hA hval hsz
  obtain ⟨v0, vs0, d0, ds0, p0, q0, hargs, rfl, rfl, h0, r0⟩ := trodAll_cons hA
  obtain ⟨v1, vs1, d1, ds1, p1, q1, rfl, rfl, rfl, h1, r1⟩ := trodAll_cons r0
  obtain ⟨rfl, rfl, rfl⟩ := trodAll_nil r1
  obtain rfl : args = #[v0, v1] := by cases args; simp_all
  obtain ⟨a0, rfl⟩ := open_set Tryd.underlying35 Tryd.underlying33 (by kernel_rfl) (by kernel_rfl) (hval 0 35 v0 rfl rfl) h0
  obtain ⟨a1, rfl⟩ := open_set Tryd.underlying35 Tryd.underlying33 (by kernel_rfl) (by kernel_rfl) (hval 1 35 v1 rfl rfl) h1
  exact walk a0 a1 W hTab

theorem proved : Rows.SetTurnsSaid :=
  OpenClaim.holds_of_wide 6 Tryd.f6 rfl rfl rfl rfl rfl rfl rfl ⟨rfl, rfl, rfl, rfl, rfl⟩ rfl rfl rfl rfl rfl (by kernel_rfl) Tryd.func6 (by kernel_rfl)
    (of_decide_eq_true (by kernel_rfl)) (by unfold Func.isWrapper; first | (rw [if_pos (by decide +kernel)]; kernel_rfl) | (rw [if_neg (by decide +kernel)]; exact ⟨rfl, rfl⟩))
    (fun os started H enc _ => lifted os started H enc)

theorem card_holds : Rows.SetTurnsCardSaid :=
  Claim7.holds_tied_plain_at .later [] [.data] true (true, "14fc05cc31ad89d783556929966e31363f5189cb849098ee71a2d0d9500bcc45") false
    proved (fun _ h => by cases h) (by kernel_rfl) (fun _ h => by cases h) setTurns_row_tie rfl ⟨rfl, rfl⟩ (by kernel_rfl) rfl
    (fun f fn hf hfn => by
      obtain rfl : f = 6 := Option.some.inj ((show Tryd.prog.funcNamed "whittle/whittlelaw01.SetTurns" = some 6 by kernel_rfl).symm.trans hf) |>.symm
      obtain rfl : fn = Tryd.f6 := (Option.some.inj (Tryd.func6.symm.trans hfn)).symm
      exact ⟨by kernel_rfl, fun j t ht => by
        rw [Tryd.params6] at ht
        have hm : t ∈ [35, 35] := by simpa using Array.mem_of_getElem? ht
        have hall : ([35, 35].all fun u => !Tryd.prog.wantsStandIn u) = true := by kernel_rfl
        exact (show Tryd.prog.wantsStandIn t = false by simpa using List.all_eq_true.1 hall t hm)⟩)
    (by kernel_rfl)
#print axioms card_holds
end Go.Proofs.YtbjgkolldmplkaaDoor.SetTurns
