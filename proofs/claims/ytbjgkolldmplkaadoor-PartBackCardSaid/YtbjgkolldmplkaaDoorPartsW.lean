/- Words for rows of sets that the call makes; the places of the keys. -/
import Derived.Test.YtbjgkolldmplkaaDoorKeyW
import Derived.Test.YtbjgkolldmplkaaDoorBytes
import Derived.Maps.Own
import Derived.Maps.OwnOps
import Derived.Maps.OwnSet
import Derived.Deep.AppendLies
namespace Go.Proofs.YtbjgkolldmplkaaDoor
open Go.RowKit Go.Sort Go.Maps

theorem sets_info : (Tryd.prog.info? 35).map (fun i => (i.zero, i.size, i.bytes)) = some (some (.agg #[.int .u64 0, .int .u64 0, .int .u64 0, .int .u64 0]), 4, 32) := by kernel_rfl

/-- A result that is a row of sets, and an error. -/
def GSets (R : List (Nat → Bool)) (er : Int) (w : World) (e : Ending) (W' : World) : Prop :=
  ∃ A c, e = .returned (.tuple #[.slice A R.length c, .int .i64 er]) ∧ Reads W' W'.heap.size 4 A R.length (setVals R) ∧ R.length ≤ c ∧ c ≤ maxLen ∧ Below w.heap.size w W'

theorem setVals_void (L : List (Nat → Bool)) : setVals L ++ [.int .u64 0, .int .u64 0, .int .u64 0, .int .u64 0] = setVals (L ++ [sNone]) := by
  rw [← setVals_snoc]
  rw [word_none sNone 0 (fun _ _ => rfl), word_none sNone 1 (fun _ _ => rfl), word_none sNone 2 (fun _ _ => rfl), word_none sNone 3 (fun _ _ => rfl)]
  rfl

section
variable {w : World} {base g n cap : Nat} {L : List (Nat → Bool)}

theorem own_at (h : w.ownsRow base 35 4 (.slice (some ⟨g, 0, none⟩) n cap) n (setVals L)) (q : Nat) (hq : q < n) :
    w.cell? ⟨g, q * 4, none⟩ = some (.int .u64 ((word (L.getD q sNone) 0 : Nat) : Int)) ∧ w.cell? ⟨g, q * 4 + 1, none⟩ = some (.int .u64 ((word (L.getD q sNone) 1 : Nat) : Int)) ∧
      w.cell? ⟨g, q * 4 + 2, none⟩ = some (.int .u64 ((word (L.getD q sNone) 2 : Nat) : Int)) ∧ w.cell? ⟨g, q * 4 + 3, none⟩ = some (.int .u64 ((word (L.getD q sNone) 3 : Nat) : Int)) := by
  have hn := h.1
  rw [setVals_length] at hn
  have e : L.getD q sNone = L[q]'(by omega) := by rw [List.getD_eq_getElem?_getD, List.getElem?_eq_getElem (by omega)]; rfl
  rw [e]
  exact ⟨(h.cellAt (q * 4) (by omega)).trans (setVals_get L q 0 (by omega) (by decide)), (h.cellAt (q * 4 + 1) (by omega)).trans (setVals_get L q 1 (by omega) (by decide)),
    (h.cellAt (q * 4 + 2) (by omega)).trans (setVals_get L q 2 (by omega) (by decide)), (h.cellAt (q * 4 + 3) (by omega)).trans (setVals_get L q 3 (by omega) (by decide))⟩

theorem own_put (h : w.ownsRow base 35 4 (.slice (some ⟨g, 0, none⟩) n cap) n (setVals L)) (q : Nat) (hq : q < n) (m : Nat → Bool) :
    ((((w.setCell ⟨g, q * 4, none⟩ (.int .u64 ((word m 0 : Nat) : Int))).setCell ⟨g, q * 4 + 1, none⟩ (.int .u64 ((word m 1 : Nat) : Int))).setCell ⟨g, q * 4 + 2, none⟩ (.int .u64 ((word m 2 : Nat) : Int))).setCell ⟨g, q * 4 + 3, none⟩ (.int .u64 ((word m 3 : Nat) : Int))).ownsRow
      base 35 4 (.slice (some ⟨g, 0, none⟩) n cap) n (setVals (L.set q m)) := by
  have hn := h.1
  rw [setVals_length] at hn
  rw [← setVals_set L q m (by omega)]
  exact ((((h.stored _ _).1.stored _ _).1.stored _ _).1.stored _ _).1

theorem map_put {bm k : Nat} {T : TypeId} {R : Value → Option (DataW Unit × List MemPlace)} {D : DataW Unit} (h : w.ownsMap Tryd.prog T R bm k D) (hne : bm ≠ g) (q : Nat) (u0 u1 u2 u3 : Value) :
    ((((w.setCell ⟨g, q * 4, none⟩ u0).setCell ⟨g, q * 4 + 1, none⟩ u1).setCell ⟨g, q * 4 + 2, none⟩ u2).setCell ⟨g, q * 4 + 3, none⟩ u3).ownsMap Tryd.prog T R bm k D := by
  have hs : ∀ (w : World) (j : Nat) (u : Value), w.ownsMap Tryd.prog T R bm k D → (w.setCell ⟨g, j, none⟩ u).ownsMap Tryd.prog T R bm k D := fun w j u h => by
    obtain ⟨es, clock, hb, F, hs, hD⟩ := h
    exact ⟨es, clock, (Below.heap_setCell w ⟨g, j, none⟩ u bm hne).trans hb, F, hs, hD⟩
  exact hs _ _ _ (hs _ _ _ (hs _ _ _ (hs _ _ _ h)))

theorem map_call {w' : World} {bm k : Nat} {T : TypeId} {R : Value → Option (DataW Unit × List MemPlace)} {D : DataW Unit} (h : w.ownsMap Tryd.prog T R bm k D) (hb : Below w.heap.size w w') : w'.ownsMap Tryd.prog T R bm k D := by
  have hlt := h.lt
  obtain ⟨es, clock, he, F, hs, hD⟩ := h
  exact ⟨es, clock, (hb.block bm hlt).trans he, F, hs, hD⟩

theorem own_map_ne {e : TypeId} {size : Nat} {v : Value} {xs : List Value} {bm k : Nat} {T : TypeId} {R : Value → Option (DataW Unit × List MemPlace)} {D : DataW Unit} (h : w.ownsRow base e size v n xs) (hm : w.ownsMap Tryd.prog T R bm k D) : v.ownBlock ≠ some bm := by
  rcases h.2 with ⟨rfl, _⟩ | ⟨g', cap, cur, rfl, _, hh, _⟩
  · simp [Value.ownBlock]
  · intro he
    have : g' = bm := by simpa [Value.ownBlock] using he
    subst this
    obtain ⟨es, clock, hb, _⟩ := hm
    rw [hb] at hh
    cases hh
end

/-- What the map of the keys holds after n bytes. -/
def placesD (K : Nat → List Bool) : Nat → DataW Unit
  | 0 => .map []
  | n + 1 => if (firsts K n).any (fun a => K a == K n) then placesD K n else (placesD K n).put (.string (keyB (K n))) (.lit (.int .i64 ((nxN (cl K) n : Nat) : Int)))

theorem placesD_yes (K : Nat → List Bool) (n : Nat) (h : (firsts K n).any (fun a => K a == K n) = true) : placesD K (n + 1) = placesD K n := by rw [placesD, if_pos h]
theorem placesD_no (K : Nat → List Bool) (n : Nat) (h : (firsts K n).any (fun a => K a == K n) = false) : placesD K (n + 1) = (placesD K n).put (.string (keyB (K n))) (.lit (.int .i64 ((nxN (cl K) n : Nat) : Int))) := by rw [placesD, if_neg (by rw [h]; decide)]

theorem keyB_inj : ∀ {x y : List Bool}, keyB x = keyB y → x = y
  | [], [], _ => rfl
  | [], _ :: _, h => by simp [keyB] at h
  | _ :: _, [], h => by simp [keyB] at h
  | a :: x, b :: y, h => by
    have h1 : (if a then (1 : UInt8) else 0) = (if b then 1 else 0) ∧ keyB x = keyB y := by
      unfold keyB at h ⊢
      simpa using h
    rw [keyB_inj h1.2]
    have h2 := h1.1
    cases a <;> cases b <;> simp at h2 ⊢

theorem places_inv (K : Nat → List Bool) : ∀ n, IsMap (placesD K n) ∧ ∀ x, has (placesD K n) (.string (keyB x)) = (firsts K n).any (fun a => K a == x) ∧
    ((firsts K n).any (fun a => K a == x) = true → ∀ z, (placesD K n).atKey (.string (keyB x)) z = .lit (.int .i64 (((firsts K n).findIdx (fun a => K a == x) : Nat) : Int)))
  | 0 => ⟨isMap_empty, fun x => ⟨rfl, fun h => by simp [firsts] at h⟩⟩
  | n + 1 => by
    obtain ⟨h1, h2⟩ := places_inv K n
    rw [firsts]
    cases h : (firsts K n).any (fun a => K a == K n)
    · rw [placesD_no K n h]
      simp only [Bool.false_eq_true, if_false]
      refine ⟨h1.put _ _, fun x => ?_⟩
      by_cases e : K n = x
      · subst e
        rw [has_put_same (k := .string (keyB (K n))) h1 trivial]
        refine ⟨by simp, fun _ z => ?_⟩
        rw [atKey_put_same (k := .string (keyB (K n))) h1 trivial, List.findIdx_append]
        have := cl_new K n h
        unfold cl at this
        rw [this, if_neg (Nat.lt_irrefl _), ← firsts_length]
        simp
      · have hne : (Lit.string (keyB x)) ≠ .string (keyB (K n)) := fun hh => e (keyB_inj (by injection hh with hh; exact hh.symm))
        rw [has_put_other hne, (h2 x).1, List.any_append]
        have e2 : (K n == x) = false := beq_eq_false_iff_ne.2 e
        refine ⟨by simp [e2], fun hx z => ?_⟩
        simp only [List.any_cons, List.any_nil, e2, Bool.or_false] at hx
        rw [atKey_put_other hne, (h2 x).2 hx z, List.findIdx_append]
        have hlt : (firsts K n).findIdx (fun a => K a == x) < (firsts K n).length := by
          obtain ⟨a, ha, he⟩ := List.any_eq_true.1 hx
          exact List.findIdx_lt_length_of_exists ⟨a, ha, he⟩
        rw [if_pos hlt]
    · rw [placesD_yes K n h]
      simp only [if_true]
      exact ⟨h1, h2⟩

end Go.Proofs.YtbjgkolldmplkaaDoor
