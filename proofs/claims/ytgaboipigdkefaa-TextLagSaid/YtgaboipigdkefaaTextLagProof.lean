/- TextLag returns true for every input, and each argument reads behind the call as it did before. Conditions: none beyond the row's own. -/
import Derived.Test.YtgaboipigdkefaaTextLag1
import Derived.Test.YtgaboipigdkefaaLaw
namespace Go.Proofs.Ytgaboipigdkefaa.TextLag
open Go.ChangeShapes Go.WideShapes Go.ChangeAt Go.RowKit
open Go.ChangeMaps (open_string shut_string)

theorem ext_toList (a : ByteArray) (n : Nat) : (a.extract n a.size).data.toList = a.data.toList.drop n := by
  rw [Lib.extract_data]; exact List.take_of_length_le (by simp)

theorem front_list (a : ByteArray) (n : Nat) : (a.extract 0 n).data.toList = a.data.toList.take n := by
  rw [Lib.extract_data]; simp

theorem app_list (a b : ByteArray) : (a ++ b).data.toList = a.data.toList ++ b.data.toList := by
  simp

theorem front_back (a : ByteArray) (n : Nat) : a.extract 0 n ++ a.extract n a.size = a := by
  apply WideShapes.bytes_inj
  rw [app_list, front_list, ext_toList, List.take_append_drop]

/-- How far two begin alike, and that they part there. -/
theorem lcpN_drop : ∀ (a b : List UInt8), lcpN (a.drop (lcpN a b)) (b.drop (lcpN a b)) = 0
  | [], _ => by simp [lcpN]
  | _ :: _, [] => by simp [lcpN]
  | x :: l, y :: m => by
    by_cases h : x = y
    · simp [lcpN, h, lcpN_drop l m]
    · simp [lcpN, h]

theorem lcpN_take : ∀ (a b : List UInt8), a.take (lcpN a b) = b.take (lcpN a b)
  | [], _ => by simp [lcpN]
  | _ :: _, [] => by simp [lcpN]
  | x :: l, y :: m => by
    by_cases h : x = y
    · simp [lcpN, h, lcpN_take l m]
    · simp [lcpN, h]

theorem lcpN_app : ∀ (f a b : List UInt8), lcpN (f ++ a) (f ++ b) = f.length + lcpN a b
  | [], _, _ => by simp
  | x :: f, a, b => by simp [lcpN, lcpN_app f a b]; omega

theorem lcpN_zero_head (x y : UInt8) (l m : List UInt8) (h : lcpN (x :: l) (y :: m) = 0) : x ≠ y := by
  rintro rfl
  simp [lcpN] at h

set_option maxHeartbeats 400000 in
theorem walk_long (a b f : ByteArray) (w : World) (ha : a.size ≤ 140737488355328) (hb : b.size ≤ 140737488355328) (hf : f.size ≤ 140737488355328) (hle : 900 < a.size + b.size + f.size) :
    Calls Try.prog 3 #[.string a, .string b, .string f] w (Gives (.bool true) w) := by
  go_enter Try.func3, Try.ntmps3
  go_wp2
  go_ret
  exact ⟨rfl, Below.refl _ _⟩

theorem walk (a b f : ByteArray) (w : World) (ha : a.size ≤ 140737488355328) (hb : b.size ≤ 140737488355328) (hf : f.size ≤ 140737488355328) :
    Calls Try.prog 3 #[.string a, .string b, .string f] w (Gives (.bool true) w) := by
  by_cases hle : a.size + b.size + f.size ≤ 900
  case neg => exact walk_long a b f w ha hb hf (by omega)
  have l1 := lcpN_le_left a.data.toList b.data.toList
  have l2 := lcpN_le_right a.data.toList b.data.toList
  simp only [Array.length_toList, ByteArray.size_data] at l1 l2
  have hm : maxLen = 9223372036854775807 := rfl
  have sx : (a.extract (lcpN a.data.toList b.data.toList) a.size).size ≤ 900 := by simp only [ByteArray.size_extract]; omega
  have sy : (b.extract (lcpN a.data.toList b.data.toList) b.size).size ≤ 900 := by simp only [ByteArray.size_extract]; omega
  have sc : (a.extract 0 (lcpN a.data.toList b.data.toList)).size ≤ 900 := by simp only [ByteArray.size_extract]; omega
  refine textLag_walk a b f (a.extract (lcpN a.data.toList b.data.toList) a.size) (b.extract (lcpN a.data.toList b.data.toList) b.size) (a.extract 0 (lcpN a.data.toList b.data.toList)) w ha hb hf hle
    sx sy sc (fun w => lag_any a b w (by omega) (by omega)) (fun w => lag_self _ _ w (by omega) (by omega) ?_) (fun w => ?_) (fun w => lcp_two w a b (by omega) (by omega)) (front_back a _) ?_ ?_
  · rw [ext_toList, ext_toList]; exact lcpN_drop _ _
  · have h := lag_any (f ++ a) (f ++ b) w (by simp only [ByteArray.size_append]; omega) (by simp only [ByteArray.size_append]; omega)
    have e : ∀ c : ByteArray, (f ++ c).extract (lcpN (f ++ a).data.toList (f ++ b).data.toList) (f ++ c).size = c.extract (lcpN a.data.toList b.data.toList) c.size := by
      intro c
      apply WideShapes.bytes_inj
      rw [ext_toList, ext_toList, app_list, app_list, app_list, lcpN_app, ← List.drop_drop, List.drop_left]
    rw [e, e] at h
    exact h
  · have e : a.extract 0 (lcpN a.data.toList b.data.toList) = b.extract 0 (lcpN a.data.toList b.data.toList) := by
      apply WideShapes.bytes_inj
      rw [front_list, front_list]; exact lcpN_take _ _
    rw [e]; exact front_back b _
  · have h0 := lcpN_drop a.data.toList b.data.toList
    rw [← ext_toList, ← ext_toList] at h0
    generalize a.extract (lcpN a.data.toList b.data.toList) a.size = x at h0 ⊢
    generalize b.extract (lcpN a.data.toList b.data.toList) b.size = y at h0 ⊢
    rw [Lib.toList_data, Lib.toList_data]
    cases hx : x.data.toList with
    | nil => exact Or.inl rfl
    | cons u l =>
      cases hy : y.data.toList with
      | nil => exact Or.inr (Or.inl ⟨rfl, rfl⟩)
      | cons v m =>
        have kx : 0 < x.size := by rw [Lib.size_eq, hx]; simp
        have ky : 0 < y.size := by rw [Lib.size_eq, hy]; simp
        refine Or.inr (Or.inr ⟨rfl, rfl, kx, ky, ?_⟩)
        rw [hx, hy] at h0
        have hne := lcpN_zero_head u v l m h0
        have ex : x[0] = u := by have := get_some x 0 kx; rw [hx] at this; simpa using this.symm
        have ey : y[0] = v := by have := get_some y 0 ky; rw [hy] at this; simpa using this.symm
        rw [ex, ey, bne_iff_ne]
        exact fun e => hne (u8_eq e)

set_option maxRecDepth 100000 in
theorem lifted (os : Os) (started : os.Started) (H : Type) (enc : TypeId × Value → H) :
    ReturnsInHanded {} Try.checked os 3 .any (Rows.textLagSpec.pre6 enc Try.prog Try.f3 Rows.textLagRow.domain false) (Rows.textLagSpec.post enc Try.prog Try.f3 false true false false) := by
  refine law_lifted (C := Try.checked) (tb := 4) ownNone started (by kernel_rfl) Try.func3 laidOut rfl ?_ rfl Try.underlying4 (by kernel_rfl)
    (ChangeSpec.witness6 (enc := enc) (C := Try.checked) false ⟨#[], #[.string ByteArray.empty, .string ByteArray.empty, .string ByteArray.empty], []⟩ 8 (by kernel_rfl) (by kernel_rfl) (by kernel_rfl) (by kernel_rfl)) ?_
  · intro ds hl
    match ds, hl with
    | [_, _, _], _ => rfl
  intro W base args ds before hval0 hA0 _ hsz0
  have hval : ∀ (j : Nat) t v, Try.f3.params[j]? = some t → args[j]? = some v → Value.okWide Try.prog W .any base t v := hval0
  have hA : DataW.TrodAll enc Try.prog W 0 (fun _ => true) true Try.f3.params.toList args.toList ds before := hA0
  have hsz : (DataW.weightsEach Try.prog Try.f3.params.toList ds).all (· ≤ reachBytes) = true := hsz0
  rw [Try.params3] at hA hval hsz
  obtain ⟨v0, vs0, d0, ds0, p0, q0, hargs, rfl, rfl, h0, r0⟩ := trodAll_cons hA
  obtain ⟨v1, vs1, d1, ds1, p1, q1, rfl, rfl, rfl, h1, r1⟩ := trodAll_cons r0
  obtain ⟨v2, vs2, d2, ds2, p2, q2, rfl, rfl, rfl, h2, r2⟩ := trodAll_cons r1
  obtain ⟨rfl, rfl, rfl⟩ := trodAll_nil r2
  obtain rfl : args = #[v0, v1, v2] := by cases args; simp_all
  obtain ⟨a0, rfl, rfl, rfl, w0⟩ := open_string Try.underlying9 (hval 0 9 v0 rfl rfl) h0
  obtain ⟨a1, rfl, rfl, rfl, w1⟩ := open_string Try.underlying9 (hval 1 9 v1 rfl rfl) h1
  obtain ⟨a2, rfl, rfl, rfl, w2⟩ := open_string Try.underlying9 (hval 2 9 v2 rfl rfl) h2
  have z0 := sized_string hsz (j := 0) rfl rfl
  have z1 := sized_string hsz (j := 1) rfl rfl
  have z2 := sized_string hsz (j := 2) rfl rfl
  rw [← Lib.size_eq] at z0 z1 z2
  simp only [reachBytes] at z0 z1 z2
  exact walk a0 a1 a2 W (by omega) (by omega) (by omega)

theorem proved : Rows.TextLagSaid :=
  OpenClaim.holds_of_wide 3 Try.f3 rfl rfl rfl rfl rfl rfl rfl ⟨rfl, rfl, rfl, rfl, rfl⟩ rfl rfl rfl rfl rfl (by kernel_rfl) Try.func3 (by kernel_rfl)
    (of_decide_eq_true (by kernel_rfl)) (by unfold Func.isWrapper; first | (rw [if_pos (by decide +kernel)]; kernel_rfl) | (rw [if_neg (by decide +kernel)]; exact ⟨rfl, rfl⟩))
    (fun os started H enc _ => lifted os started H enc)
#print axioms proved
end Go.Proofs.Ytgaboipigdkefaa.TextLag
