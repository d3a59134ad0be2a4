/- Rows that read, kept from call to call. -/
import Derived.Test.YtbjgkolldmplkaaDoorRParts
namespace Go.Proofs.YtbjgkolldmplkaaDoor
open Go.RowKit Go.Sort

/-- The slice at A reads as these cells. -/
def Rd (w : World) (size : Nat) (A : Option Addr) (n : Nat) (xs : List Value) : Prop := Reads w w.heap.size size A n xs

theorem Rd.next {w w' : World} {size n : Nat} {A : Option Addr} {xs : List Value} (h : Rd w size A n xs) (hb : Below w.heap.size w w') : Rd w' size A n xs := (Reads.below h hb).more hb.size
theorem Rd.after {w w' : World} {size n B : Nat} {A : Option Addr} {xs : List Value} (h : Reads w B size A n xs) (hb : Below B w w') (hB : B ≤ w'.heap.size) : Rd w' size A n xs := (h.below hb).more hB
theorem Rd.own {w : World} {base : Nat} {e : TypeId} {size : Nat} {v : Value} {n : Nat} {xs : List Value} (h : w.ownsRow base e size v n xs) : ∃ A c, v = .slice A n c ∧ Rd w size A n xs ∧ n ≤ c ∧ c ≤ maxLen := own_reads h


/-- A row and an error's number come back; what was there has not turned. -/
def GR (size rn : Nat) (VR : List Value) (er : Int) (w : World) (e : Ending) (W' : World) : Prop :=
  ∃ A c, e = .returned (.tuple #[.slice A rn c, .int .i64 er]) ∧ Rd W' size A rn VR ∧ Below w.heap.size w W'

theorem gr_sets {R : List (Nat → Bool)} {er : Int} {w : World} {e : Ending} {W' : World} (h : GSets R er w e W') : GR 4 R.length (setVals R) er w e W' := by
  obtain ⟨A, c, h1, h2, _, _, h5⟩ := h
  exact ⟨A, c, h1, h2, h5⟩

theorem gr_ints {R : List Int} {er : Int} {w : World} {e : Ending} {W' : World} (h : GInts R er w e W') : GR 1 R.length (intVals R) er w e W' := by
  obtain ⟨A, c, h1, h2, _, _, h5⟩ := h
  exact ⟨A, c, h1, h2, h5⟩

theorem setVals_one (L : List (Nat → Bool)) : ∀ u ∈ setVals L, u.oneCell' = true := fun u hu => by
  obtain ⟨q, hq, rfl⟩ := List.mem_iff_getElem.1 hu
  rw [setVals_length] at hq
  have e := setVals_get L (q / 4) (q % 4) (by omega) (by omega)
  rw [show q / 4 * 4 + q % 4 = q by omega, List.getElem?_eq_getElem (by rw [setVals_length]; omega), Option.some.injEq] at e
  rw [e]
  rfl

theorem classR_len (L : List (Nat → Bool)) : (classR L).length ≤ 256 := by
  unfold classR
  split <;> simp

theorem setsR_len (C : List Int) (n : Nat) : (setsR C n).length ≤ 256 := by
  unfold setsR
  split
  · rename_i h
    rw [partN_length]
    exact nxN_le 256 (okI_rgs C 256 h.2)
  · simp

theorem parts_len (K : Nat → List Bool) : (partN (cl K) 256).length ≤ 256 := by
  rw [partN_length]
  exact nxN_le 256 (cl_rgs _ _)

end Go.Proofs.YtbjgkolldmplkaaDoor
