/- TextLcp returns true for every input, and each argument reads behind the call as it did before. Conditions: none beyond the row's own. -/
import Derived.Test.YtgaboipigdkefaaTextLcp1
import Derived.Test.YtgaboipigdkefaaLaw
namespace Go.Proofs.Ytgaboipigdkefaa.TextLcp
open Go.ChangeShapes Go.WideShapes Go.ChangeAt Go.RowKit
open Go.ChangeMaps (open_string shut_string)

/-- How two begin alike. -/
def l2 (a b : List UInt8) : List UInt8 := a.take (lcpN a b)

theorem l2_nil_right : ∀ a : List UInt8, l2 a [] = []
  | [] => rfl
  | _ :: _ => by simp [l2, lcpN]

theorem l2_cons (x y : UInt8) (l m : List UInt8) : l2 (x :: l) (y :: m) = if x = y then x :: l2 l m else [] := by
  unfold l2
  by_cases h : x = y <;> simp [lcpN, h]

theorem l2_assoc : ∀ a b c : List UInt8, l2 (l2 a b) c = l2 a (l2 b c)
  | [], _, _ => by simp [l2, lcpN]
  | x :: a, [], c => by rw [l2_nil_right]; simp [l2, lcpN]
  | x :: a, y :: b, [] => by rw [l2_nil_right, l2_nil_right, l2_nil_right]
  | x :: a, y :: b, z :: c => by
    rw [l2_cons x y, l2_cons y z]
    by_cases h1 : x = y
    · by_cases h2 : y = z
      · rw [if_pos h1, if_pos h2, l2_cons, l2_cons, if_pos (h1.trans h2), if_pos h1, l2_assoc a b c]
      · rw [if_pos h1, if_neg h2, l2_cons, if_neg (fun e => h2 (h1 ▸ e)), l2_nil_right]
    · rw [if_neg h1]
      by_cases h2 : y = z
      · rw [if_pos h2, l2_cons, if_neg h1]; rfl
      · rw [if_neg h2, l2_nil_right]; rfl

instance : Std.Associative l2 := ⟨l2_assoc⟩

theorem lcpB_data : ∀ (l : List ByteArray) (s : ByteArray), (lcpB s l).data.toList = (l.map (·.data.toList)).foldl l2 s.data.toList
  | [], _ => rfl
  | t :: l, s => by
    have e : lcpB s (t :: l) = lcpB (s.extract 0 (lcpN s.data.toList t.data.toList)) l := rfl
    rw [e, lcpB_data l, front_list]
    rfl

theorem both_eq (s t : ByteArray) (l m : List ByteArray) : lcpL ((s :: l) ++ (t :: m)) = lcpB (lcpL (s :: l)) [lcpL (t :: m)] := by
  apply WideShapes.bytes_inj
  show (lcpB s (l ++ t :: m)).data.toList = (lcpB (lcpB s l) [lcpB t m]).data.toList
  rw [lcpB_data, lcpB_data, lcpB_data]
  simp only [List.map_append, List.map_cons, List.map_nil, List.foldl_append, List.foldl_cons, List.foldl_nil]
  rw [lcpB_data, List.foldl_assoc]

theorem lcpL_size (ss : List ByteArray) (h : ∀ x ∈ ss, x.size ≤ maxLen) : (lcpL ss).size ≤ maxLen := by
  cases ss with
  | nil => exact Nat.zero_le _
  | cons s l => exact Nat.le_trans (lcpB_size l s) (h s (by simp))

theorem pre_app (f s : ByteArray) : pre f (f ++ s) = true := by
  unfold pre Lib.hasPrefix
  rw [app_list, List.isPrefixOf_iff_prefix]
  exact List.prefix_append _ _

theorem app_back (f s : ByteArray) : (f ++ s).extract f.size (f ++ s).size = s := by
  apply WideShapes.bytes_inj
  rw [ext_toList, app_list, Lib.size_eq, List.drop_left]

theorem pre_back (f s : ByteArray) (h : pre f s = true) : f ++ s.extract f.size s.size = s := by
  unfold pre Lib.hasPrefix at h
  rw [List.isPrefixOf_iff_prefix] at h
  obtain ⟨t, ht⟩ := h
  apply WideShapes.bytes_inj
  rw [app_list, ext_toList, ← ht, Lib.size_eq, List.drop_left]

set_option maxHeartbeats 400000 in
theorem walk_no1 (A A2 : Option Addr) (n n2 c c2 : Nat) (ls : List ByteArray) (f s : ByteArray) (w : World)
    (HA : Reads w w.heap.size 1 A n (ls.map Value.string)) (hc : n ≤ c) (hm : c ≤ maxLen) (hs1 : shortB ls = false) :
    Calls Try.prog 5 #[.slice A n c, .slice A2 n2 c2, .string f, .string s] w (Gives (.bool true) w) := by
  have HS1 := Lib.hid hs1
  clear hs1
  go_enter Try.func5, Try.ntmps5
  go_wp2_with fail
  refine (short_any A c n _ ls _ HA hc hm).mono ?_; rintro e w1 ⟨rfl, HB1⟩; rw [HS1.out]
  go_wp2_with fail
  go_ret
  exact ⟨rfl, HB1⟩

set_option maxHeartbeats 400000 in
theorem walk_no2 (A A2 : Option Addr) (n n2 c c2 : Nat) (ls ms : List ByteArray) (f s : ByteArray) (w : World)
    (HA : Reads w w.heap.size 1 A n (ls.map Value.string)) (HA2 : Reads w w.heap.size 1 A2 n2 (ms.map Value.string))
    (hc : n ≤ c) (hm : c ≤ maxLen) (hc2 : n2 ≤ c2) (hm2 : c2 ≤ maxLen) (hs1 : shortB ls = true)
    (hf : f.size ≤ 140737488355328) (hs : s.size ≤ 140737488355328) (h : shortB ms = false ∨ shortB ms = true ∧ 600 < f.size + s.size) :
    Calls Try.prog 5 #[.slice A n c, .slice A2 n2 c2, .string f, .string s] w (Gives (.bool true) w) := by
  have HS1 := Lib.hid hs1
  clear hs1
  rcases h with h | ⟨h, hle⟩
  all_goals
    have HS2 := Lib.hid h
    clear h
    go_enter Try.func5, Try.ntmps5
    go_wp2_with fail
    refine (short_any A c n _ ls _ HA hc hm).mono ?_; rintro e w1 ⟨rfl, HB1⟩; rw [HS1.out]
    go_wp2_with fail
    refine (short_any A2 c2 n2 _ ms _ (HA2.below HB1) hc2 hm2).mono ?_; rintro e w2 ⟨rfl, HB2⟩; rw [HS2.out]
    go_wp2_with fail
    go_ret
    exact ⟨rfl, below_then HB1 HB2⟩

theorem walk (A A2 : Option Addr) (c c2 : Nat) (ls ms : List ByteArray) (f s : ByteArray) (w : World)
    (HA : Reads w w.heap.size 1 A ls.length (ls.map Value.string)) (HA2 : Reads w w.heap.size 1 A2 ms.length (ms.map Value.string))
    (hc : ls.length ≤ c) (hm : c ≤ maxLen) (hc2 : ms.length ≤ c2) (hm2 : c2 ≤ maxLen) (hl1 : ∀ x ∈ ls, x.size ≤ maxLen) (hl2 : ∀ x ∈ ms, x.size ≤ maxLen)
    (hf : f.size ≤ 140737488355328) (hs : s.size ≤ 140737488355328) :
    Calls Try.prog 5 #[.slice A ls.length c, .slice A2 ms.length c2, .string f, .string s] w (Gives (.bool true) w) := by
  cases hs1 : shortB ls
  · exact walk_no1 A A2 _ _ c c2 ls f s w HA hc hm hs1
  cases hs2 : shortB ms
  · exact walk_no2 A A2 _ _ c c2 ls ms f s w HA HA2 hc hm hc2 hm2 hs1 hf hs (.inl hs2)
  by_cases hle : f.size + s.size ≤ 600
  case neg => exact walk_no2 A A2 _ _ c c2 ls ms f s w HA HA2 hc hm hc2 hm2 hs1 hf hs (.inr ⟨hs2, by omega⟩)
  have hM : maxLen = 9223372036854775807 := rfl
  have hcase : ((ls.length : Int) == 0) = true ∨ ((ls.length : Int) == 0) = false ∧ ((ms.length : Int) == 0) = true ∨
      ((ls.length : Int) == 0) = false ∧ ((ms.length : Int) == 0) = false ∧ ((lcpL (ls ++ ms)).toList == (lcpB (lcpL ls) [lcpL ms]).toList) = true := by
    cases ls with
    | nil => exact .inl rfl
    | cons x l =>
      cases ms with
      | nil => exact .inr (.inl ⟨by rw [beq_eq_false_iff_ne]; simp; omega, rfl⟩)
      | cons y m => exact .inr (.inr ⟨by rw [beq_eq_false_iff_ne]; simp; omega, by rw [beq_eq_false_iff_ne]; simp; omega, by rw [both_eq]; simp⟩)
  have hfs : (f ++ s).size ≤ maxLen := by simp only [ByteArray.size_append]; omega
  have h2 : ∀ w, Calls Try.prog 15 #[.string f, .string (f ++ s)] w (Gives (.tuple #[.string s, .int .i64 0]) w) := fun w => by
    have := strip_yes f (f ++ s) w (by omega) hfs (pre_app f s)
    rw [app_back] at this
    exact this
  cases hp : pre f s
  · exact walk_main A A2 _ _ c c2 ls ms f s _ _ ByteArray.empty s s 1 w HA HA2 hc hm hc2 hm2 hs1 hs2 hf hs hle rfl rfl (lcpL_size ls hl1) (lcpL_size ms hl2) (fun w => strip_no f s w (by omega) (by omega) hp) h2 hcase (.inl rfl)
  · exact walk_main A A2 _ _ c c2 ls ms f s _ _ (s.extract f.size s.size) s s 0 w HA HA2 hc hm hc2 hm2 hs1 hs2 hf hs hle rfl rfl (lcpL_size ls hl1) (lcpL_size ms hl2) (fun w => strip_yes f s w (by omega) (by omega) hp) h2 hcase
      (.inr ⟨rfl, by simp only [ByteArray.size_extract]; omega, by rw [pre_back f s hp]; simp⟩)

set_option maxRecDepth 100000 in
theorem lifted (os : Os) (started : os.Started) (H : Type) (enc : TypeId × Value → H) :
    ReturnsInHanded {} Try.checked os 5 .any (Rows.textLcpSpec.pre6 enc Try.prog Try.f5 Rows.textLcpRow.domain false) (Rows.textLcpSpec.post enc Try.prog Try.f5 false true false false) := by
  refine law_lifted (C := Try.checked) (tb := 4) ownNone started (by kernel_rfl) Try.func5 laidOut rfl ?_ rfl Try.underlying4 (by kernel_rfl)
    (ChangeSpec.witness6 (enc := enc) (C := Try.checked) false ⟨#[], #[.slice none 0 0, .slice none 0 0, .string ByteArray.empty, .string ByteArray.empty], []⟩ 8 (by kernel_rfl) (by kernel_rfl) (by kernel_rfl) (by kernel_rfl)) ?_
  · intro ds hl
    match ds, hl with
    | [_, _, _, _], _ => rfl
  intro W base args ds before hval0 hA0 hlt hsz0
  have hval : ∀ (j : Nat) t v, Try.f5.params[j]? = some t → args[j]? = some v → Value.okWide Try.prog W .any base t v := hval0
  have hA : DataW.TrodAll enc Try.prog W 0 (fun _ => true) true Try.f5.params.toList args.toList ds before := hA0
  have hsz : (DataW.weightsEach Try.prog Try.f5.params.toList ds).all (· ≤ reachBytes) = true := hsz0
  rw [Try.params5] at hA hval hsz
  obtain ⟨v0, vs0, d0, ds0, p0, q0, hargs, rfl, rfl, h0, r0⟩ := trodAll_cons hA
  obtain ⟨v1, vs1, d1, ds1, p1, q1, rfl, rfl, rfl, h1, r1⟩ := trodAll_cons r0
  obtain ⟨v2, vs2, d2, ds2, p2, q2, rfl, rfl, rfl, h2, r2⟩ := trodAll_cons r1
  obtain ⟨v3, vs3, d3, ds3, p3, q3, rfl, rfl, rfl, h3, r3⟩ := trodAll_cons r2
  obtain ⟨rfl, rfl, rfl⟩ := trodAll_nil r3
  obtain rfl : args = #[v0, v1, v2, v3] := by cases args; simp_all
  obtain ⟨A0, c0, l0, rfl, R0, k0, m0, s0⟩ := open_strs Try.underlying25 Try.underlying9 (by kernel_rfl) (hval 0 25 v0 rfl rfl) h0 (fun x hx => hlt x (by simp [hx]))
  obtain ⟨A1, c1, l1, rfl, R1, k1, m1, s1⟩ := open_strs Try.underlying25 Try.underlying9 (by kernel_rfl) (hval 1 25 v1 rfl rfl) h1 (fun x hx => hlt x (by simp [hx]))
  obtain ⟨a2, rfl, rfl, rfl, w2⟩ := open_string Try.underlying9 (hval 2 9 v2 rfl rfl) h2
  have z2 := sized_string hsz (j := 2) rfl rfl
  rw [← Lib.size_eq] at z2
  simp only [reachBytes] at z2
  obtain ⟨a3, rfl, rfl, rfl, w3⟩ := open_string Try.underlying9 (hval 3 9 v3 rfl rfl) h3
  have z3 := sized_string hsz (j := 3) rfl rfl
  rw [← Lib.size_eq] at z3
  simp only [reachBytes] at z3
  exact walk A0 A1 c0 c1 l0 l1 a2 a3 W R0 R1 k0 m0 k1 m1 s0 s1 (by omega) (by omega)

theorem proved : Rows.TextLcpSaid :=
  OpenClaim.holds_of_wide 5 Try.f5 rfl rfl rfl rfl rfl rfl rfl ⟨rfl, rfl, rfl, rfl, rfl⟩ rfl rfl rfl rfl rfl (by kernel_rfl) Try.func5 (by kernel_rfl)
    (of_decide_eq_true (by kernel_rfl)) (by unfold Func.isWrapper; first | (rw [if_pos (by decide +kernel)]; kernel_rfl) | (rw [if_neg (by decide +kernel)]; exact ⟨rfl, rfl⟩))
    (fun os started H enc _ => lifted os started H enc)
#print axioms proved
end Go.Proofs.Ytgaboipigdkefaa.TextLcp
