/- Plain laws of PartSame: another order, one turned, one more: the same classes. -/
import Derived.Test.YtbjgkolldmplkaaDoorPartL
namespace Go.Proofs.YtbjgkolldmplkaaDoor

theorem parts_same {K K' : Nat → List Bool} (h : ∀ a b, a < 256 → b < 256 → (K a = K b ↔ K' a = K' b)) : partN (cl K) 256 = partN (cl K') 256 :=
  partN_congr 256 fun b hb => (cl_eq 256 (cl_rgs K' 256) fun a b ha hb => (h a b ha hb).trans (cl_same K' a b).symm).2.2 b hb

theorem keyL_iff (L : List (Nat → Bool)) (a b : Nat) : keyL L a = keyL L b ↔ ∀ m ∈ L, m a = m b := by
  unfold keyL
  exact List.map_inj_left

/-- The row from behind, its last set turned, with one more. -/
def turnL (L : List (Nat → Bool)) (at_ : Nat) : List (Nat → Bool) :=
  (L.reverse ++ [L.getD at_ sNone]).set 0 (sMix (sNot ((L.reverse ++ [L.getD at_ sNone]).getD 0 sNone)) ((L.reverse ++ [L.getD at_ sNone]).getD 0 sNone) 4)

theorem turn_parts (L : List (Nat → Bool)) (at_ : Nat) (h : at_ < L.length) : partN (cl (keyL (turnL L at_))) 256 = partN (cl (keyL L)) 256 := by
  refine parts_same fun a b ha hb => ?_
  rw [keyL_iff, keyL_iff]
  have hat : L.getD at_ sNone ∈ L := by
    rw [List.getD_eq_getElem?_getD, List.getElem?_eq_getElem h, Option.getD_some]
    exact List.getElem_mem h
  unfold turnL
  generalize L.getD at_ sNone = y at *
  have hrev : ∀ m, m ∈ L ↔ m ∈ L.reverse := fun m => List.mem_reverse.symm
  have hne : L.reverse ≠ [] := by
    intro e
    have := congrArg List.length e
    simp at this
    subst this
    simp at h
  cases hr : L.reverse with
  | nil => exact absurd hr hne
  | cons x r =>
    rw [List.cons_append, List.set_cons_zero, List.getD_cons_zero]
    have hm : ∀ c, c < 256 → sMix (sNot x) x 4 c = !x c := fun c hc => by unfold sMix sNot; rw [if_pos (by omega)]
    have hy : y = x ∨ y ∈ r := by
      have := (hrev y).1 hat
      rw [hr] at this
      simpa using this
    constructor
    · intro H m hmL
      have h0 := H (sMix (sNot x) x 4) (by simp)
      rw [hm a ha, hm b hb] at h0
      have hx : x a = x b := by revert h0; cases x a <;> cases x b <;> simp
      have := (hrev m).1 hmL
      rw [hr] at this
      rcases List.mem_cons.1 this with rfl | h2
      · exact hx
      · exact H m (by simp [h2])
    · intro H m hmT
      have hall : ∀ m, m = x ∨ m ∈ r → m a = m b := fun m h => H m ((hrev m).2 (by rw [hr]; exact List.mem_cons.2 h))
      rcases List.mem_cons.1 hmT with rfl | h2
      · rw [hm a ha, hm b hb, hall x (.inl rfl)]
      · rcases List.mem_append.1 h2 with h3 | h3
        · exact hall m (.inr h3)
        · obtain rfl : m = y := by simpa using h3
          exact hall m hy

end Go.Proofs.YtbjgkolldmplkaaDoor
