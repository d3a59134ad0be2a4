/- Plain laws of texts: how far two begin alike. -/
import Derived.Test.YtgaboipigdkefaaText2
import Derived.WideShapes
import Derived.Lib.Strings
namespace Go.Proofs.Ytgaboipigdkefaa
open Go.RowKit

theorem ext_toList (a : ByteArray) (n : Nat) : (a.extract n a.size).data.toList = a.data.toList.drop n := by
  rw [Lib.extract_data]; exact List.take_of_length_le (by simp)

theorem front_list (a : ByteArray) (n : Nat) : (a.extract 0 n).data.toList = a.data.toList.take n := by
  rw [Lib.extract_data]; simp

theorem app_list (a b : ByteArray) : (a ++ b).data.toList = a.data.toList ++ b.data.toList := by
  simp

theorem front_back (a : ByteArray) (n : Nat) : a.extract 0 n ++ a.extract n a.size = a := by
  apply WideShapes.bytes_inj
  rw [app_list, front_list, ext_toList, List.take_append_drop]

/-- How far two begin alike, and that they part there. -/
theorem lcpN_drop : ∀ (a b : List UInt8), lcpN (a.drop (lcpN a b)) (b.drop (lcpN a b)) = 0
  | [], _ => by simp [lcpN]
  | _ :: _, [] => by simp [lcpN]
  | x :: l, y :: m => by
    by_cases h : x = y
    · simp [lcpN, h, lcpN_drop l m]
    · simp [lcpN, h]

theorem lcpN_take : ∀ (a b : List UInt8), a.take (lcpN a b) = b.take (lcpN a b)
  | [], _ => by simp [lcpN]
  | _ :: _, [] => by simp [lcpN]
  | x :: l, y :: m => by
    by_cases h : x = y
    · simp [lcpN, h, lcpN_take l m]
    · simp [lcpN, h]

theorem lcpN_app : ∀ (f a b : List UInt8), lcpN (f ++ a) (f ++ b) = f.length + lcpN a b
  | [], _, _ => by simp
  | x :: f, a, b => by simp [lcpN, lcpN_app f a b]; omega

theorem lcpN_zero_head (x y : UInt8) (l m : List UInt8) (h : lcpN (x :: l) (y :: m) = 0) : x ≠ y := by
  rintro rfl
  simp [lcpN] at h

theorem lcpN_self : ∀ a : List UInt8, lcpN a a = a.length
  | [] => rfl
  | x :: l => by simp [lcpN, lcpN_self l]

/-- Alike to the end of both: the same. -/
theorem lcpN_full : ∀ (a b : List UInt8), lcpN a b = a.length → lcpN a b = b.length → a = b
  | [], [], _, _ => rfl
  | [], _ :: _, _, h => by simp [lcpN] at h
  | _ :: _, [], h, _ => by simp [lcpN] at h
  | x :: l, y :: m, h1, h2 => by
    by_cases h : x = y
    · subst h
      simp [lcpN] at h1 h2
      rw [lcpN_full l m h1 h2]
    · simp [lcpN, h] at h1

/-- What two begin with alike with a third one, they begin with alike. -/
theorem lcpN_tri : ∀ (a b c : List UInt8), min (lcpN a c) (lcpN c b) ≤ lcpN a b
  | [], _, _ => by simp [lcpN]
  | _ :: _, [], [] => by simp [lcpN]
  | _ :: _, [], _ :: _ => by simp [lcpN]
  | _ :: _, _ :: _, [] => by simp [lcpN]
  | x :: l, y :: m, z :: n => by
    have := lcpN_tri l m n
    simp only [lcpN]
    by_cases h1 : x = z
    · by_cases h2 : z = y
      · subst h1; subst h2; simp; omega
      · simp [h2]
    · simp [h1]

/-- p begins both: it is no longer than what both begin with. -/
theorem lcpN_ge : ∀ (p a b : List UInt8), p <+: a → p <+: b → p.length ≤ lcpN a b
  | [], _, _, _, _ => by simp
  | x :: p, a, b, ⟨s, hs⟩, ⟨t, ht⟩ => by
    subst hs; subst ht
    simp only [List.cons_append, lcpN, if_true, List.length_cons]
    have := lcpN_ge p (p ++ s) (p ++ t) ⟨s, rfl⟩ ⟨t, rfl⟩
    omega

end Go.Proofs.Ytgaboipigdkefaa
