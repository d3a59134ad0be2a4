/- TextDoes returns true for every input, and each argument reads behind the call as it did before. Conditions: none beyond the row's own. -/
import Derived.Test.YtgaboipigdkefaaText5
import Derived.Test.YtgaboipigdkefaaLaw
namespace Go.Proofs.Ytgaboipigdkefaa.TextDoes
open Go.ChangeShapes Go.WideShapes Go.ChangeAt Go.RowKit
open Go.ChangeMaps (open_string shut_string)

set_option maxHeartbeats 400000 in
theorem walk_no (A : Option Addr) (n c : Nat) (ls : List ByteArray) (a b : ByteArray) (w : World)
    (HA : Reads w w.heap.size 1 A n (ls.map Value.string)) (hc : n ≤ c) (hm : c ≤ maxLen) (ha : a.size ≤ 140737488355328) (hb : b.size ≤ 140737488355328)
    (h : shortB ls = false ∨ shortB ls = true ∧ 300 < a.size ∨ shortB ls = true ∧ a.size ≤ 300 ∧ 300 < b.size) :
    Calls Try.prog 8 #[.slice A n c, .string a, .string b] w (Gives (.bool true) w) := by
  rcases h with h | ⟨h, h2⟩ | ⟨h, h2, h3⟩
  all_goals
    have HS1 := Lib.hid h
    clear h
    go_enter Try.func8, Try.ntmps8
    go_wp2_with fail
    refine (short_any A c n _ ls _ HA hc hm).mono ?_; rintro e w1 ⟨rfl, HB1⟩; rw [HS1.out]
    go_wp2_with fail
    go_ret
    exact ⟨rfl, HB1⟩

set_option maxHeartbeats 1000000 in
theorem walk_main (A : Option Addr) (n c : Nat) (ls : List ByteArray) (a b x y t : ByteArray) (code far cnt : Int) (w : World)
    (HA : Reads w w.heap.size 1 A n (ls.map Value.string)) (hc : n ≤ c) (hm : c ≤ maxLen) (hs1 : shortB ls = true) (ha : a.size ≤ 300) (hb : b.size ≤ 300)
    (h1 : ∀ w, Calls Try.prog 15 #[.string a, .string b] w (Gives (.tuple #[.string t, .int .i64 code]) w))
    (h2 : ∀ w, Calls Try.prog 21 #[.string a, .string b] w (Gives (.tuple #[.string t, .int .i64 code]) w))
    (h3 : ∀ w, Calls Try.prog 10 #[.string a, .string b] w (Gives (.tuple #[.string x, .string y]) w))
    (h4 : ∀ w, Calls Try.prog 22 #[.string a, .string b] w (Gives (.tuple #[.string x, .string y]) w))
    (h5 : ∀ w, Calls Try.prog 13 #[.string a, .string b] w (Gives (.int .i64 far) w))
    (h6 : ∀ w, Calls Try.prog 24 #[.string a, .string b] w (Gives (.int .i64 far) w))
    (h7 : ∀ w, Calls Try.prog 25 #[.string a, .string b] w (Gives (.int .i64 cnt) w))
    (h8 : ∀ w, Calls Try.prog 26 #[.string a, .string b] w (Gives (.int .i64 cnt) w)) :
    Calls Try.prog 8 #[.slice A n c, .string a, .string b] w (Gives (.bool true) w) := by
  have hn := HA.1
  simp only [List.length_map, Nat.mul_one] at hn
  have hb1 : ls.length ≤ 60 := by unfold shortB at hs1; simp at hs1; exact hs1.1
  have hl1 : ∀ x ∈ ls, x.size ≤ maxLen := fun x hx => by unfold shortB at hs1; simp at hs1; have := hs1.2 x hx; unfold maxLen; omega
  have H1 := Lib.hid h1
  have H2 := Lib.hid h2
  have H3 := Lib.hid h3
  have H4 := Lib.hid h4
  have H5 := Lib.hid h5
  have H6 := Lib.hid h6
  have H7 := Lib.hid h7
  have H8 := Lib.hid h8
  have HS1 := Lib.hid hs1
  have HL1 := Lib.hid hl1
  have hnn : n ≤ 60 := by omega
  clear h1 h2 h3 h4 h5 h6 h7 h8 hs1 hl1 hn
  go_enter Try.func8, Try.ntmps8
  go_wp2_with fail
  refine (short_any A c n _ ls _ HA hc hm).mono ?_; rintro e w1 ⟨rfl, HB1⟩; rw [HS1.out]
  go_wp2_with fail
  refine (own_any A n c ls _ ((HA.below HB1).more HB1.size) hnn).mono ?_; rintro e w2 ⟨A2, c2, rfl, HA2, hc2, hm2, HB2⟩
  have HBw2 := below_then HB1 HB2
  go_wp2_with fail
  refine (H1.out _).mono ?_; rintro e w3 ⟨rfl, HB3⟩
  go_wp2_with fail
  refine (H2.out _).mono ?_; rintro e w4 ⟨rfl, HB4⟩
  go_wp2_with fail
  refine (H3.out _).mono ?_; rintro e w5 ⟨rfl, HB5⟩
  go_wp2_with fail
  refine (H4.out _).mono ?_; rintro e w6 ⟨rfl, HB6⟩
  have HBs := below_then (below_then (below_then HB3 HB4) HB5) HB6
  have HBw6 := below_then HBw2 HBs
  go_wp2_with fail
  refine (lcp_any A2 c2 n _ ls _ (HA2.below HBs) HBs.size HL1.out hc2 hm2).mono ?_; rintro e w7 ⟨rfl, HB7⟩
  have HBw7 := below_then HBw6 HB7
  go_wp2_with fail
  refine (rlcp_any A c n _ ls _ (HA.below HBw7) HBw7.size HL1.out hc hm).mono ?_; rintro e w8 ⟨rfl, HB8⟩
  go_wp2_with fail
  refine (awake3_any _).mono ?_; rintro e w9 ⟨rfl, HB9⟩
  go_wp2_with fail
  refine (H5.out _).mono ?_; rintro e w10 ⟨rfl, HB10⟩
  go_wp2_with fail
  refine (H6.out _).mono ?_; rintro e w11 ⟨rfl, HB11⟩
  go_wp2_with fail
  refine (H7.out _).mono ?_; rintro e w12 ⟨rfl, HB12⟩
  go_wp2_with fail
  refine (H8.out _).mono ?_; rintro e w13 ⟨rfl, HB13⟩
  have HBt := below_then HB7 (below_then (below_then (below_then (below_then (below_then HB8 HB9) HB10) HB11) HB12) HB13)
  have HBu := below_then HBs HBt
  have HBw := below_then HBw2 HBu
  go_wp2_with fail
  refine (texts_same A2 A n c2 c _ _ ls _ (HA2.below HBu) (HA.below HBw) HBu.size HBw.size hc2 hm2).mono ?_; rintro e w14 ⟨rfl, HB14⟩
  go_wp2_with fail
  go_ret
  exact ⟨rfl, below_then HBw HB14⟩

theorem walk (A : Option Addr) (c : Nat) (ls : List ByteArray) (a b : ByteArray) (w : World)
    (HA : Reads w w.heap.size 1 A ls.length (ls.map Value.string)) (hc : ls.length ≤ c) (hm : c ≤ maxLen) (ha : a.size ≤ 140737488355328) (hb : b.size ≤ 140737488355328) :
    Calls Try.prog 8 #[.slice A ls.length c, .string a, .string b] w (Gives (.bool true) w) := by
  cases hs1 : shortB ls
  · exact walk_no A _ c ls a b w HA hc hm ha hb (.inl hs1)
  by_cases h1 : a.size ≤ 300
  case neg => exact walk_no A _ c ls a b w HA hc hm ha hb (.inr (.inl ⟨hs1, by omega⟩))
  by_cases h2 : b.size ≤ 300
  case neg => exact walk_no A _ c ls a b w HA hc hm ha hb (.inr (.inr ⟨hs1, h1, by omega⟩))
  have hM : maxLen = 9223372036854775807 := rfl
  have ka : a.size ≤ maxLen := by omega
  have kb : b.size ≤ maxLen := by omega
  cases hp : pre a b
  · exact walk_main A _ c ls a b _ _ _ _ _ _ w HA hc hm hs1 h1 h2 (fun w => strip_no a b w ka kb hp) (fun w => rstrip_no a b w ka kb hp) (fun w => lag_any a b w ka kb) (fun w => rlag_any a b w ka kb)
      (fun w => far_any a b w ka kb) (fun w => rfar_any a b w ka kb) (fun w => count_any a b w (by omega) kb) (fun w => rcount_any a b w (by omega) kb)
  · exact walk_main A _ c ls a b _ _ _ _ _ _ w HA hc hm hs1 h1 h2 (fun w => strip_yes a b w ka kb hp) (fun w => rstrip_yes a b w ka kb hp) (fun w => lag_any a b w ka kb) (fun w => rlag_any a b w ka kb)
      (fun w => far_any a b w ka kb) (fun w => rfar_any a b w ka kb) (fun w => count_any a b w (by omega) kb) (fun w => rcount_any a b w (by omega) kb)

set_option maxRecDepth 100000 in
theorem lifted (os : Os) (started : os.Started) (H : Type) (enc : TypeId × Value → H) :
    ReturnsInHanded {} Try.checked os 8 .any (Rows.textDoesSpec.pre6 enc Try.prog Try.f8 Rows.textDoesRow.domain false) (Rows.textDoesSpec.post enc Try.prog Try.f8 false true false false) := by
  refine law_lifted (C := Try.checked) (tb := 4) ownNone started (by kernel_rfl) Try.func8 laidOut rfl ?_ rfl Try.underlying4 (by kernel_rfl)
    (ChangeSpec.witness6 (enc := enc) (C := Try.checked) false ⟨#[], #[.slice none 0 0, .string ByteArray.empty, .string ByteArray.empty], []⟩ 8 (by kernel_rfl) (by kernel_rfl) (by kernel_rfl) (by kernel_rfl)) ?_
  · intro ds hl
    match ds, hl with
    | [_, _, _], _ => rfl
  intro W base args ds before hval0 hA0 hlt hsz0
  have hval : ∀ (j : Nat) t v, Try.f8.params[j]? = some t → args[j]? = some v → Value.okWide Try.prog W .any base t v := hval0
  have hA : DataW.TrodAll enc Try.prog W 0 (fun _ => true) true Try.f8.params.toList args.toList ds before := hA0
  have hsz : (DataW.weightsEach Try.prog Try.f8.params.toList ds).all (· ≤ reachBytes) = true := hsz0
  rw [Try.params8] at hA hval hsz
  obtain ⟨v0, vs0, d0, ds0, p0, q0, hargs, rfl, rfl, h0, r0⟩ := trodAll_cons hA
  obtain ⟨v1, vs1, d1, ds1, p1, q1, rfl, rfl, rfl, h1, r1⟩ := trodAll_cons r0
  obtain ⟨v2, vs2, d2, ds2, p2, q2, rfl, rfl, rfl, h2, r2⟩ := trodAll_cons r1
  obtain ⟨rfl, rfl, rfl⟩ := trodAll_nil r2
  obtain rfl : args = #[v0, v1, v2] := by cases args; simp_all
  obtain ⟨A0, c0, l0, rfl, R0, k0, m0, s0⟩ := open_strs Try.underlying25 Try.underlying9 (by kernel_rfl) (hval 0 25 v0 rfl rfl) h0 (fun x hx => hlt x (by simp [hx]))
  obtain ⟨a1, rfl, rfl, rfl, w1⟩ := open_string Try.underlying9 (hval 1 9 v1 rfl rfl) h1
  have z1 := sized_string hsz (j := 1) rfl rfl
  rw [← Lib.size_eq] at z1
  simp only [reachBytes] at z1
  obtain ⟨a2, rfl, rfl, rfl, w2⟩ := open_string Try.underlying9 (hval 2 9 v2 rfl rfl) h2
  have z2 := sized_string hsz (j := 2) rfl rfl
  rw [← Lib.size_eq] at z2
  simp only [reachBytes] at z2
  exact walk A0 c0 l0 a1 a2 W R0 k0 m0 (by omega) (by omega)

theorem proved : Rows.TextDoesSaid :=
  OpenClaim.holds_of_wide 8 Try.f8 rfl rfl rfl rfl rfl rfl rfl ⟨rfl, rfl, rfl, rfl, rfl⟩ rfl rfl rfl rfl rfl (by kernel_rfl) Try.func8 (by kernel_rfl)
    (of_decide_eq_true (by kernel_rfl)) (by unfold Func.isWrapper; first | (rw [if_pos (by decide +kernel)]; kernel_rfl) | (rw [if_neg (by decide +kernel)]; exact ⟨rfl, rfl⟩))
    (fun os started H enc _ => lifted os started H enc)
#print axioms proved
end Go.Proofs.Ytgaboipigdkefaa.TextDoes
