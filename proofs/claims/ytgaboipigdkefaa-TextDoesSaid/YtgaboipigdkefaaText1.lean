/- The walks of package text: what front, Lag, Far .. compute. -/
import Derived.Test.YtgaboipigdkefaaKit
namespace Go.Proofs.Ytgaboipigdkefaa
open Go.RowKit

def lcpN : List UInt8 → List UInt8 → Nat
  | a :: l, b :: m => if a = b then lcpN l m + 1 else 0
  | _, _ => 0

theorem lcpN_le_left : ∀ (a b : List UInt8), lcpN a b ≤ a.length
  | [], _ => by simp [lcpN]
  | _ :: _, [] => by simp [lcpN]
  | x :: l, y :: m => by
    have := lcpN_le_left l m
    unfold lcpN; split <;> simp <;> omega

theorem lcpN_comm : ∀ (a b : List UInt8), lcpN a b = lcpN b a
  | [], [] => rfl
  | [], _ :: _ => rfl
  | _ :: _, [] => rfl
  | x :: l, y :: m => by
    have := lcpN_comm l m
    unfold lcpN
    by_cases h : x = y
    · simp [h, this]
    · rw [if_neg h, if_neg (fun e => h e.symm)]

theorem lcpN_le_right (a b : List UInt8) : lcpN a b ≤ b.length := by
  rw [lcpN_comm]; exact lcpN_le_left b a

/-- It is i, if the two are alike up to i and there they part or one ends. -/
theorem lcpN_eq : ∀ (a b : List UInt8) (i : Nat), i ≤ a.length → i ≤ b.length → (∀ j, j < i → a[j]? = b[j]?) → (∀ (h : i < a.length) (h' : i < b.length), a[i] ≠ b[i]) → lcpN a b = i
  | [], _, i, h, _, _, _ => by simp at h; subst h; simp [lcpN]
  | _ :: _, [], i, _, h, _, _ => by simp at h; subst h; simp [lcpN]
  | x :: l, y :: m, 0, _, _, _, hn => by
    have := hn (by simp) (by simp)
    simp at this
    simp [lcpN, this]
  | x :: l, y :: m, i + 1, ha, hb, he, hn => by
    have h0 := he 0 (by omega)
    simp at h0
    have := lcpN_eq l m i (by simpa using ha) (by simpa using hb) (fun j hj => by simpa using he (j + 1) (by omega)) (fun h h' e => hn (by simpa using h) (by simpa using h') (by simpa using e))
    simp [lcpN, h0, this]

set_option maxHeartbeats 400000 in
theorem front_any (a b : ByteArray) (w : World) (ha : a.size ≤ maxLen) (hb : b.size ≤ maxLen) :
    Calls Try.prog 35 #[.string a, .string b] w (Gives (.int .i64 (lcpN a.data.toList b.data.toList)) w) := by
  unfold maxLen at ha hb
  go_enter Try.func35, Try.ntmps35
  go_wp2
  all_goals
    go_loopw [6, 13] (fun _ i wr => ∃ k : Nat, k ≤ a.size ∧ k ≤ b.size ∧ i = .int .i64 k ∧ (∀ j, j < k → a.data.toList[j]? = b.data.toList[j]?) ∧ Below w.heap.size w wr) (fun _ i _ => a.size - (intOf i).toNat)
    case atStart => exact ⟨0, by omega, by omega, rfl, by omega, Below.refl _ _⟩
    case round =>
      obtain ⟨k, hk, hk2, rfl, HE, HB⟩ := hrel
      have H := Lib.hid HE; clear HE
      by_cases hlt : k < a.size ∧ k < b.size
      · obtain ⟨h1, h2⟩ := hlt
        go_wp2
        go_quiet (fail)
        go_wp2
        · go_ret
          refine ⟨?_, below_drewN HB _⟩
          have hne : a[k] ≠ b[k] := by rename_i h; exact fun e => by simp [e] at h
          rw [lcpN_eq a.data.toList b.data.toList k (by simpa using hk) (by simpa using hk2) H.out (fun _ _ => hne)]; rfl
        · have he : a[k] = b[k] := by rename_i h; exact u8_eq (by simpa using h)
          go_roundw
          case rel => exact ⟨k + 1, by omega, by omega, by go_num, fun j hj => by
            rcases Nat.lt_succ_iff_lt_or_eq.1 hj with h | rfl
            · exact H.out j h
            · exact (get_some a j h1).trans (he ▸ (get_some b j h2).symm), below_drewN HB _⟩
          case measure => simp [intOf]; omega
      · go_wp2
        go_ret
        refine ⟨?_, HB⟩
        rw [lcpN_eq a.data.toList b.data.toList k (by simpa using hk) (by simpa using hk2) H.out (fun h h' => absurd ⟨by simpa using h, by simpa using h'⟩ hlt)]
        simp; omega

set_option maxHeartbeats 400000 in
theorem lag_any (a b : ByteArray) (w : World) (ha : a.size ≤ maxLen) (hb : b.size ≤ maxLen) :
    Calls Try.prog 10 #[.string a, .string b] w (Gives (.tuple #[.string (a.extract (lcpN a.data.toList b.data.toList) a.size), .string (b.extract (lcpN a.data.toList b.data.toList) b.size)]) w) := by
  have h1 := lcpN_le_left a.data.toList b.data.toList
  have h2 := lcpN_le_right a.data.toList b.data.toList
  have ha' := ha
  have hb' := hb
  unfold maxLen at ha' hb'
  simp only [Array.length_toList, ByteArray.size_data] at h1 h2
  go_enter Try.func10, Try.ntmps10
  go_wp2_with (go_at_call 35; refine (front_any _ _ _ ha hb).mono ?_; rintro e w' ⟨rfl, HB⟩)
  go_quiet (fail)
  go_wp2
  go_ret2
  exact ⟨rfl, below_drewN HB _⟩

set_option maxHeartbeats 400000 in
theorem far_any (a b : ByteArray) (w : World) (ha : a.size ≤ maxLen) (hb : b.size ≤ maxLen) :
    Calls Try.prog 13 #[.string a, .string b] w (Gives (.int .i64 (wrap64 ((a.size - lcpN a.data.toList b.data.toList : Nat) + (b.size - lcpN a.data.toList b.data.toList : Nat)))) w) := by
  go_enter Try.func13, Try.ntmps13
  go_wp2_with (go_at_call 10; refine (lag_any _ _ _ ha hb).mono ?_; rintro e w' ⟨rfl, HB⟩)
  go_ret
  refine ⟨?_, HB⟩
  simp

/-- With how all begin. -/
def lcpB (s : ByteArray) (l : List ByteArray) : ByteArray := l.foldl (fun s t => s.extract 0 (lcpN s.data.toList t.data.toList)) s

theorem lcpB_snoc (s : ByteArray) (l : List ByteArray) (x : ByteArray) : lcpB s (l ++ [x]) = (lcpB s l).extract 0 (lcpN (lcpB s l).data.toList x.data.toList) := by
  simp [lcpB]

theorem lcp_nil (A : Option Addr) (c : Nat) (w : World) : Calls Try.prog 11 #[.slice A 0 c] w (Gives (.string ByteArray.empty) w) := by
  go_enter Try.func11, Try.ntmps11
  go_wp2
  go_ret
  exact ⟨rfl, Below.refl _ _⟩

set_option maxHeartbeats 400000 in
theorem lcp_cons (A : Option Addr) (c : Nat) (s : ByteArray) (l : List ByteArray) (w : World) (HR : Reads w w.heap.size 1 A (l.length + 1) ((s :: l).map Value.string)) (hl : ∀ x ∈ s :: l, x.size ≤ maxLen) (hc : l.length + 1 ≤ c) (hm : c ≤ maxLen) :
    Calls Try.prog 11 #[.slice A (l.length + 1 : Nat) c] w (Gives (.string (lcpB s l)) w) := by
  obtain ⟨ad, u, rfl, _, hx, hcell⟩ := HR.at_ (k := 0) (by omega)
  simp only [List.map_cons, List.getElem?_cons_zero, Option.some.injEq] at hx
  subst hx
  have hc0 : w.cell? ad = some (.string s) := by simpa [Addr.add] using hcell
  have hs0 : s.size ≤ maxLen := hl s (by simp)
  clear hcell
  unfold maxLen at hm
  go_enter Try.func11, Try.ntmps11
  have hz : (((l.length : Nat) : Int) + 1 == 0) = false := by rw [beq_eq_false_iff_ne]; omega
  go_wp2
  all_goals
    go_loopw [3, 5, 15] (fun x _ i wr => ∃ k : Nat, k ≤ l.length ∧ i = .int .i64 k ∧ x = .string (lcpB s (l.take k)) ∧ (lcpB s (l.take k)).size ≤ maxLen ∧ Below w.heap.size w wr) (fun _ _ i _ => l.length - (intOf i).toNat)
    case atStart => exact ⟨0, by omega, rfl, by simp [lcpB], by simpa [lcpB] using hs0, Below.refl _ _⟩
    case round =>
      obtain ⟨k, hk, rfl, rfl, hsz, HB⟩ := hrel
      by_cases hlt : k < l.length
      · first
        | (exfalso; omega)
        | (have hr := HR.below HB
           have hck : wr.cell? ⟨ad.block, ad.off + 1 + k, none⟩ = some (.string l[k]) := by
             obtain ⟨_, e, _, hc⟩ := hr.2 (by omega)
             cases e
             have := hc (k + 1) (.string l[k]) (by simp [hlt])
             simpa [Addr.add, Nat.add_assoc, Nat.add_comm 1 k] using this
           have hlk : l[k].size ≤ maxLen := hl _ (by simp)
           have hle := lcpN_le_left (lcpB s (l.take k)).data.toList l[k].data.toList
           simp only [Array.length_toList, ByteArray.size_data] at hle
           clear hr
           go_wp2_with (go_at_call 35; refine (front_any _ _ _ hsz hlk).mono ?_; rintro e w' ⟨rfl, HB2⟩)
           go_roundw
           case rel =>
             have e1 : lcpB s (l.take (k + 1)) = (lcpB s (l.take k)).extract 0 (lcpN (lcpB s (l.take k)).data.toList l[k].data.toList) := by
               rw [List.take_succ_eq_append_getElem hlt, lcpB_snoc]
             exact ⟨k + 1, by omega, by go_num, by rw [e1], by rw [e1]; simp only [ByteArray.size_extract]; omega, below_then HB HB2⟩
           case measure => simp [intOf]; omega)
      · have e1 : l.take k = l := List.take_of_length_le (by omega)
        rw [e1] at hsz ⊢
        go_wp2
        go_ret
        exact ⟨rfl, HB⟩

end Go.Proofs.Ytgaboipigdkefaa
