/- The walks of Lcp of any row, Strip, Short; a row of the call's own. -/
import Derived.Test.YtgaboipigdkefaaText3
import Derived.Test.YtgaboipigdkefaaStr
namespace Go.Proofs.Ytgaboipigdkefaa
open Go.RowKit Go.Sort

theorem str_info : (Try.prog.info? 9).map (fun i => (i.zero, i.size, i.bytes)) = some (some (.string ByteArray.empty), 1, 16) := by kernel_rfl

theorem one_cell (l : List ByteArray) : ∀ u ∈ l.map Value.string, u.oneCell' = true := by
  intro u hu
  obtain ⟨s, _, rfl⟩ := List.mem_map.1 hu
  rfl

theorem own_reads {w : World} {base : Nat} {e : TypeId} {size : Nat} {v : Value} {n : Nat} {xs : List Value} (h : w.ownsRow base e size v n xs) :
    ∃ A c, v = .slice A n c ∧ Reads w w.heap.size size A n xs ∧ n ≤ c ∧ c ≤ maxLen := by
  have h' := h
  obtain ⟨hl, h2⟩ := h
  rcases h2 with ⟨rfl, rfl⟩ | ⟨g, cap, cur, rfl, hb, hh, hn, hc, hs, ht⟩
  · exact ⟨none, 0, rfl, Reads.of_own h', Nat.le_refl _, Nat.zero_le _⟩
  · exact ⟨_, cap, rfl, Reads.of_own h', hn, hc⟩

/-- With how all of a row begin. -/
def lcpL : List ByteArray → ByteArray
  | [] => ByteArray.empty
  | s :: l => lcpB s l

theorem lcp_any (A : Option Addr) (c n B : Nat) (ss : List ByteArray) (w : World) (HR : Reads w B 1 A n (ss.map Value.string)) (hB : B ≤ w.heap.size) (hl : ∀ x ∈ ss, x.size ≤ maxLen) (hc : n ≤ c) (hm : c ≤ maxLen) :
    Calls Try.prog 11 #[.slice A n c] w (Gives (.string (lcpL ss)) w) := by
  have hn := HR.1
  simp at hn
  subst hn
  cases ss with
  | nil => exact lcp_nil A c w
  | cons s l => exact lcp_cons A c s l w (HR.more hB) hl hc hm

theorem lcpB_size : ∀ (l : List ByteArray) (s : ByteArray), (lcpB s l).size ≤ s.size
  | [], s => Nat.le_refl _
  | t :: l, s => by
    have h := lcpB_size l (s.extract 0 (lcpN s.data.toList t.data.toList))
    have : lcpB s (t :: l) = lcpB (s.extract 0 (lcpN s.data.toList t.data.toList)) l := rfl
    rw [this]
    simp only [ByteArray.size_extract] at h
    omega

theorem strip_yes (p s : ByteArray) (w : World) (hp : p.size ≤ maxLen) (hs : s.size ≤ maxLen) (h : pre p s = true) :
    Calls Try.prog 15 #[.string p, .string s] w (Gives (.tuple #[.string (s.extract p.size s.size), .int .i64 0]) w) := by
  have hle : p.size ≤ s.size := by
    rcases Nat.lt_or_ge s.size p.size with h1 | h1
    · rw [pre_no s p (by omega)] at h; cases h
    · exact h1
  have hs' := hs
  unfold maxLen at hs'
  have H := Lib.hid h; clear h
  go_enter Try.func15, Try.ntmps15
  go_wp2_with (go_at_call 36; refine (hp_any _ _ _ hs hp).mono ?_; rintro e w' ⟨rfl, HB⟩; rw [H.out])
  go_ret2
  exact ⟨rfl, HB⟩

theorem strip_no (p s : ByteArray) (w : World) (hp : p.size ≤ maxLen) (hs : s.size ≤ maxLen) (h : pre p s = false) :
    Calls Try.prog 15 #[.string p, .string s] w (Gives (.tuple #[.string ByteArray.empty, .int .i64 1]) w) := by
  have H := Lib.hid h; clear h
  go_enter Try.func15, Try.ntmps15
  go_wp2_with (go_at_call 36; refine (hp_any _ _ _ hs hp).mono ?_; rintro e w' ⟨rfl, HB⟩; rw [H.out])
  go_ret2
  exact ⟨rfl, HB⟩

/-- Is a row, and each of it, short? -/
def shortB (ss : List ByteArray) : Bool := decide (ss.length ≤ 60) && ss.all fun s => decide (s.size ≤ 300)

theorem cell_some {w : World} {B n : Nat} {A : Option Addr} {ss : List ByteArray} (HR : Reads w B 1 A n (ss.map Value.string)) (k : Nat) (hk : k < ss.length) :
    ∃ ad, A = some ad ∧ w.cell? (ad.add k) = some (.string ss[k]) := by
  have hn := HR.1
  simp at hn
  obtain ⟨ad, e, _, hc⟩ := HR.2 (by omega)
  exact ⟨ad, e, hc k _ (by simp [hk])⟩

set_option maxHeartbeats 1000000 in
theorem short_any (A : Option Addr) (c n B : Nat) (ss : List ByteArray) (w : World) (HR : Reads w B 1 A n (ss.map Value.string)) (hc : n ≤ c) (hm : c ≤ maxLen) :
    Calls Try.prog 14 #[.slice A n c] w (Gives (.bool (shortB ss)) w) := by
  have hn := HR.1
  simp at hn
  subst hn
  unfold maxLen at hm
  go_enter Try.func14, Try.ntmps14
  go_wp2
  go_loop [3] (fun i => ∃ k : Nat, k ≤ ss.length ∧ i = .int .i64 k ∧ (∀ j, j < k → ∀ h : j < ss.length, ss[j].size ≤ 300)) (fun i => ss.length - (intOf i).toNat)
  case atStart => exact ⟨0, by omega, rfl, by omega⟩
  case round =>
    obtain ⟨k, hk, rfl, HE⟩ := hrel
    have H := Lib.hid HE; clear HE
    by_cases h60 : ss.length ≤ 60
    · by_cases hlt : k < ss.length
      · obtain ⟨ad, rfl, hck⟩ := cell_some HR k hlt
        by_cases hbig : ss[k].size ≤ 300
        · go_wp2
          go_round
          case rel => exact ⟨k + 1, by omega, by go_num, fun j hj h => by
            rcases Nat.lt_succ_iff_lt_or_eq.1 hj with h1 | rfl
            · exact H.out j h1 h
            · exact hbig⟩
          case measure => simp [intOf]; omega
        · have e : shortB ss = false := by
            unfold shortB
            rw [Bool.and_eq_false_iff]
            exact Or.inr (List.all_eq_false.2 ⟨ss[k], by simp, by simpa using hbig⟩)
          rw [e]
          go_wp2
          go_ret
          exact ⟨rfl, Below.refl _ _⟩
      · have : k = ss.length := by omega
        subst this
        have e : shortB ss = true := by
          unfold shortB
          rw [Bool.and_eq_true]
          refine ⟨by simpa using h60, List.all_eq_true.2 fun x hx => ?_⟩
          obtain ⟨j, hj, rfl⟩ := List.getElem_of_mem hx
          simpa using H.out j hj hj
        rw [e]
        go_wp2
        go_ret
        refine ⟨?_, Below.refl _ _⟩
        simp; omega
    · have e : shortB ss = false := by simp [shortB, h60]
      rw [e]
      by_cases hlt : k < ss.length
      all_goals
        go_wp2
        go_ret
        refine ⟨?_, Below.refl _ _⟩
        simp; omega

end Go.Proofs.Ytgaboipigdkefaa
