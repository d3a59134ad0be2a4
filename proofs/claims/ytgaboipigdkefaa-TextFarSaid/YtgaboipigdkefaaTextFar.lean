/- TextFar returns true for every input, and each argument reads behind the call as it did before. Conditions: none beyond the row's own. -/
import Derived.Test.YtgaboipigdkefaaText3
import Derived.Test.YtgaboipigdkefaaLaw
import Derived.Test.YtgaboipigdkefaaStr
namespace Go.Proofs.Ytgaboipigdkefaa.TextFar
open Go.ChangeShapes Go.WideShapes Go.ChangeAt Go.RowKit
open Go.ChangeMaps (open_string shut_string)

/-- How far two are apart. -/
def far (a b : ByteArray) : Nat := (a.size - lcpN a.data.toList b.data.toList) + (b.size - lcpN a.data.toList b.data.toList)

theorem far_call (a b : ByteArray) (w : World) (ha : a.size ≤ 900) (hb : b.size ≤ 900) :
    Calls Try.prog 13 #[.string a, .string b] w (Gives (.int .i64 (far a b)) w) := by
  have h := far_any a b w (by unfold maxLen; omega) (by unfold maxLen; omega)
  have e : wrap64 ((a.size - lcpN a.data.toList b.data.toList : Nat) + (b.size - lcpN a.data.toList b.data.toList : Nat)) = (far a b : Int) := by
    unfold far
    rw [IntWalk.wrap64_in _ (by omega)]
    omega
  rw [e] at h
  exact h

theorem far_comm (a b : ByteArray) : far a b = far b a := by
  unfold far; rw [lcpN_comm]; omega

theorem far_zero (a b : ByteArray) : (((far a b : Nat) : Int) == 0) = (a.toList == b.toList) := by
  have h1 := lcpN_le_left a.data.toList b.data.toList
  have h2 := lcpN_le_right a.data.toList b.data.toList
  rw [Bool.eq_iff_iff, beq_iff_eq, beq_iff_eq, Lib.toList_data, Lib.toList_data]
  unfold far
  rw [Lib.size_eq a, Lib.size_eq b]
  constructor
  · intro h
    exact lcpN_full _ _ (by omega) (by omega)
  · intro h
    rw [h, lcpN_self]; omega

theorem far_tri (a b c : ByteArray) : far a b ≤ far a c + far c b := by
  have h1 := lcpN_le_left a.data.toList b.data.toList
  have h2 := lcpN_le_right a.data.toList b.data.toList
  have h3 := lcpN_le_left a.data.toList c.data.toList
  have h4 := lcpN_le_right a.data.toList c.data.toList
  have h5 := lcpN_le_left c.data.toList b.data.toList
  have h6 := lcpN_le_right c.data.toList b.data.toList
  have h7 := lcpN_tri a.data.toList b.data.toList c.data.toList
  unfold far
  rw [Lib.size_eq a, Lib.size_eq b, Lib.size_eq c]
  omega

set_option maxHeartbeats 400000 in
theorem walk_long (a b f : ByteArray) (w : World) (ha : a.size ≤ 140737488355328) (hb : b.size ≤ 140737488355328) (hf : f.size ≤ 140737488355328) (hle : 900 < a.size + b.size + f.size) :
    Calls Try.prog 4 #[.string a, .string b, .string f] w (Gives (.bool true) w) := by
  go_enter Try.func4, Try.ntmps4
  go_wp2
  go_ret
  exact ⟨rfl, Below.refl _ _⟩

set_option maxHeartbeats 1000000 in
theorem walk_short (a b c : ByteArray) (n p q : Nat) (B : Bool) (w : World) (hle : a.size + b.size + c.size ≤ 900)
    (h1 : ∀ w, Calls Try.prog 13 #[.string a, .string b] w (Gives (.int .i64 n) w))
    (h2 : ∀ w, Calls Try.prog 13 #[.string b, .string a] w (Gives (.int .i64 n) w))
    (h3 : ∀ w, Calls Try.prog 13 #[.string a, .string c] w (Gives (.int .i64 p) w))
    (h4 : ∀ w, Calls Try.prog 13 #[.string c, .string b] w (Gives (.int .i64 q) w))
    (hn : ((n : Int) == 0) = B) (hab : (a.toList == b.toList) = B) (hpq : n ≤ p + q) (hp : p ≤ 1800) (hq : q ≤ 1800) :
    Calls Try.prog 4 #[.string a, .string b, .string c] w (Gives (.bool true) w) := by
  have H1 := Lib.hid h1
  have H2 := Lib.hid h2
  have H3 := Lib.hid h3
  have H4 := Lib.hid h4
  clear h1 h2 h3 h4
  go_enter Try.func4, Try.ntmps4
  go_wp2_with fail
  refine (H1.out _).mono ?_; rintro e w1 ⟨rfl, HB1⟩
  go_wp2_with fail
  refine (awake3_any _).mono ?_; rintro e w2 ⟨rfl, HB2⟩
  cases B
  all_goals
    go_wp2_with fail
    refine (H2.out _).mono ?_; rintro e w3 ⟨rfl, HB3⟩
    go_wp2_with fail
    refine (H3.out _).mono ?_; rintro e w4 ⟨rfl, HB4⟩
    go_wp2_with fail
    refine (H4.out _).mono ?_; rintro e w5 ⟨rfl, HB5⟩
    go_wp2_with fail
    go_ret
    refine ⟨?_, below_then (below_then (below_then (below_then HB1 HB2) HB3) HB4) HB5⟩
    simp
    try omega

theorem walk (a b c : ByteArray) (w : World) (ha : a.size ≤ 140737488355328) (hb : b.size ≤ 140737488355328) (hf : c.size ≤ 140737488355328) :
    Calls Try.prog 4 #[.string a, .string b, .string c] w (Gives (.bool true) w) := by
  by_cases hle : a.size + b.size + c.size ≤ 900
  case neg => exact walk_long a b c w ha hb hf (by omega)
  exact walk_short a b c (far a b) (far a c) (far c b) _ w hle (fun w => far_call a b w (by omega) (by omega)) (fun w => by rw [far_comm]; exact far_call b a w (by omega) (by omega))
    (fun w => far_call a c w (by omega) (by omega)) (fun w => far_call c b w (by omega) (by omega)) (far_zero a b) rfl (far_tri a b c) (by unfold far; omega) (by unfold far; omega)

set_option maxRecDepth 100000 in
theorem lifted (os : Os) (started : os.Started) (H : Type) (enc : TypeId × Value → H) :
    ReturnsInHanded {} Try.checked os 4 .any (Rows.textFarSpec.pre6 enc Try.prog Try.f4 Rows.textFarRow.domain false) (Rows.textFarSpec.post enc Try.prog Try.f4 false true false false) := by
  refine law_lifted (C := Try.checked) (tb := 4) ownNone started (by kernel_rfl) Try.func4 laidOut rfl ?_ rfl Try.underlying4 (by kernel_rfl)
    (ChangeSpec.witness6 (enc := enc) (C := Try.checked) false ⟨#[], #[.string ByteArray.empty, .string ByteArray.empty, .string ByteArray.empty], []⟩ 8 (by kernel_rfl) (by kernel_rfl) (by kernel_rfl) (by kernel_rfl)) ?_
  · intro ds hl
    match ds, hl with
    | [_, _, _], _ => rfl
  intro W base args ds before hval0 hA0 _ hsz0
  have hval : ∀ (j : Nat) t v, Try.f4.params[j]? = some t → args[j]? = some v → Value.okWide Try.prog W .any base t v := hval0
  have hA : DataW.TrodAll enc Try.prog W 0 (fun _ => true) true Try.f4.params.toList args.toList ds before := hA0
  have hsz : (DataW.weightsEach Try.prog Try.f4.params.toList ds).all (· ≤ reachBytes) = true := hsz0
  rw [Try.params4] at hA hval hsz
  obtain ⟨v0, vs0, d0, ds0, p0, q0, hargs, rfl, rfl, h0, r0⟩ := trodAll_cons hA
  obtain ⟨v1, vs1, d1, ds1, p1, q1, rfl, rfl, rfl, h1, r1⟩ := trodAll_cons r0
  obtain ⟨v2, vs2, d2, ds2, p2, q2, rfl, rfl, rfl, h2, r2⟩ := trodAll_cons r1
  obtain ⟨rfl, rfl, rfl⟩ := trodAll_nil r2
  obtain rfl : args = #[v0, v1, v2] := by cases args; simp_all
  obtain ⟨a0, rfl, rfl, rfl, w0⟩ := open_string Try.underlying9 (hval 0 9 v0 rfl rfl) h0
  obtain ⟨a1, rfl, rfl, rfl, w1⟩ := open_string Try.underlying9 (hval 1 9 v1 rfl rfl) h1
  obtain ⟨a2, rfl, rfl, rfl, w2⟩ := open_string Try.underlying9 (hval 2 9 v2 rfl rfl) h2
  have z0 := sized_string hsz (j := 0) rfl rfl
  have z1 := sized_string hsz (j := 1) rfl rfl
  have z2 := sized_string hsz (j := 2) rfl rfl
  rw [← Lib.size_eq] at z0 z1 z2
  simp only [reachBytes] at z0 z1 z2
  exact walk a0 a1 a2 W (by omega) (by omega) (by omega)

theorem proved : Rows.TextFarSaid :=
  OpenClaim.holds_of_wide 4 Try.f4 rfl rfl rfl rfl rfl rfl rfl ⟨rfl, rfl, rfl, rfl, rfl⟩ rfl rfl rfl rfl rfl (by kernel_rfl) Try.func4 (by kernel_rfl)
    (of_decide_eq_true (by kernel_rfl)) (by unfold Func.isWrapper; first | (rw [if_pos (by decide +kernel)]; kernel_rfl) | (rw [if_neg (by decide +kernel)]; exact ⟨rfl, rfl⟩))
    (fun os started H enc _ => lifted os started H enc)
#print axioms proved
end Go.Proofs.Ytgaboipigdkefaa.TextFar
