/- The walk of the reference Right of layer 2. -/
import Derived.Test.YtbjgkolldmplkaaDoorSame
namespace Go.Proofs.YtbjgkolldmplkaaDoor
open Go.RowKit Go.Sort

/-- The round's inner step: how often a byte is in the first i sets, and the sets that were met. None: refuse. -/
def rtIn (L : List (Nat → Bool)) (b next : Nat) : Nat → Option (Nat × Nat)
  | 0 => some (0, next)
  | i + 1 => match rtIn L b next i with
    | none => none
    | some (n, x) => if L.getD i sNone b = true then (if x < i then none else some (n + 1, if i = x then x + 1 else x)) else some (n, x)

/-- The outer: none: refuse. -/
def rtOut (L : List (Nat → Bool)) : Nat → Option Nat
  | 0 => some 0
  | b + 1 => match rtOut L b with
    | none => none
    | some x => match rtIn L b x L.length with
      | none => none
      | some (n, x') => if n = 1 then some x' else none

/-- Is a row a partition? -/
def rightL (L : List (Nat → Bool)) : Bool := rtOut L 256 == some L.length

theorem rtIn_none {L : List (Nat → Bool)} {b next : Nat} : ∀ (n k : Nat), k ≤ n → rtIn L b next k = none → rtIn L b next n = none
  | 0, k, h, h1 => by rw [show k = 0 by omega] at h1; exact h1
  | n + 1, k, h, h1 => by
    by_cases e : k = n + 1
    · subst e; exact h1
    · rw [rtIn, rtIn_none n k (by omega) h1]

theorem rtOut_none {L : List (Nat → Bool)} : ∀ (n k : Nat), k ≤ n → rtOut L k = none → rtOut L n = none
  | 0, k, h, h1 => by rw [show k = 0 by omega] at h1; exact h1
  | n + 1, k, h, h1 => by
    by_cases e : k = n + 1
    · subst e; exact h1
    · rw [rtOut, rtOut_none n k (by omega) h1]

theorem right_no {L : List (Nat → Bool)} {b x i n x' : Nat} (hb : b < 256) (h : rtOut L b = some x) (hi : i < L.length) (h1 : rtIn L b x i = some (n, x')) (h2 : L.getD i sNone b = true) (h3 : x' < i) : rightL L = false := by
  have e : rtIn L b x (i + 1) = none := by simp only [rtIn, h1, h2, if_true, h3]
  have e1 := rtIn_none L.length (i + 1) (by omega) e
  have e2 : rtOut L (b + 1) = none := by simp only [rtOut, h, e1]
  have e3 := rtOut_none 256 (b + 1) (by omega) e2
  unfold rightL
  rw [e3]
  rfl

theorem right_cnt {L : List (Nat → Bool)} {b x n x' : Nat} (hb : b < 256) (h : rtOut L b = some x) (h1 : rtIn L b x L.length = some (n, x')) (h2 : n ≠ 1) : rightL L = false := by
  have e2 : rtOut L (b + 1) = none := by simp only [rtOut, h, h1, if_neg h2]
  have e3 := rtOut_none 256 (b + 1) (by omega) e2
  unfold rightL
  rw [e3]
  rfl

theorem right_step {L : List (Nat → Bool)} {b x x' : Nat} (h : rtOut L b = some x) (h1 : rtIn L b x L.length = some (1, x')) : rtOut L (b + 1) = some x' := by
  simp only [rtOut, h, h1, if_true]

theorem right_end {L : List (Nat → Bool)} {x n : Nat} (h : rtOut L 256 = some x) (hn : L.length = n) : rightL L = ((x : Int) == (n : Int)) := by
  unfold rightL
  rw [h, hn, Bool.eq_iff_iff, beq_iff_eq, beq_iff_eq]
  simp only [Option.some.injEq]
  omega

theorem rtIn_yes {L : List (Nat → Bool)} {b x i n x' : Nat} (h1 : rtIn L b x i = some (n, x')) (h2 : L.getD i sNone b = true) (h3 : ¬ x' < i) : rtIn L b x (i + 1) = some (n + 1, if i = x' then x' + 1 else x') := by
  simp only [rtIn, h1, h2, if_true, if_neg h3]
theorem rtIn_non {L : List (Nat → Bool)} {b x i n x' : Nat} (h1 : rtIn L b x i = some (n, x')) (h2 : L.getD i sNone b = false) : rtIn L b x (i + 1) = some (n, x') := by
  simp only [rtIn, h1, h2, Bool.false_eq_true, if_false]

theorem rtIn_le {L : List (Nat → Bool)} {b x m : Nat} (hx : x ≤ m) : ∀ (i n x' : Nat), i ≤ m → rtIn L b x i = some (n, x') → n ≤ i ∧ x' ≤ m
  | 0, n, x', hi, h => by simp only [rtIn] at h; injection h with h; injection h with h1 h2; omega
  | i + 1, n, x', hi, h => by
    rw [rtIn] at h
    cases hh : rtIn L b x i with
    | none => rw [hh] at h; exact absurd h (by simp)
    | some p =>
      obtain ⟨n1, x1⟩ := p
      have ih := rtIn_le hx i n1 x1 (by omega) hh
      rw [hh] at h
      simp only at h
      split at h
      · split at h
        · exact absurd h (by simp)
        · injection h with h
          injection h with h1 h2
          split at h2 <;> omega
      · injection h with h
        injection h with h1 h2
        omega

set_option maxRecDepth 100000 in
set_option maxHeartbeats 8000000 in
theorem right_any (L : List (Nat → Bool)) (A : Option Addr) (n c B : Nat) (w : World) (HR0 : Reads w B 4 A n (setVals L)) (hB : B ≤ w.heap.size) (hm : n ≤ 100000) :
    Calls Tryd.prog 36 #[.slice A n c] w (Gives (.bool (rightL L)) w) := by
  have HR := HR0.more hB
  have HLN : Unit → L.length = n := fun _ => by
    have := HR.1
    rw [setVals_length] at this
    omega
  clear HR0
  go_enter Tryd.func36, Tryd.ntmps36
  go_wp2
  go_loopw [3, 4] (fun x i wr => ∃ b z : Nat, b ≤ 256 ∧ i = .int .i64 b ∧ x = .int .i64 z ∧ z ≤ n ∧ rtOut L b = some z ∧ Below w.heap.size w wr) (fun _ i _ => 256 - (intOf i).toNat)
  case atStart => exact ⟨0, 0, by omega, rfl, rfl, by omega, rfl, Below.refl _ _⟩
  case round =>
    obtain ⟨b, z, hb, rfl, rfl, hz, hrt, HB⟩ := hrel
    have HRT := fun _ : Unit => hrt
    clear hrt
    have hsz := HB.size
    by_cases hlt : b < 256
    · have hd : decide ((b : Int) < 256) = true := by simp; omega
      obtain ⟨w1, hw1⟩ : ∃ w1, w1 = wr := ⟨_, rfl⟩
      subst hw1
      go_wp2
      clear hd
      go_loopw [3, 5, 6] (fun x cn i wv => ∃ k m y : Nat, k ≤ n ∧ i = .int .i64 k ∧ cn = .int .i64 m ∧ x = .int .i64 y ∧ m ≤ k ∧ y ≤ n ∧ rtIn L b z k = some (m, y) ∧ Below w1.heap.size w1 wv) (fun _ _ i _ => n - (intOf i).toNat)
      case atStart => exact ⟨0, 0, z, by omega, rfl, rfl, rfl, by omega, hz, rfl, Below.refl _ _⟩
      case round =>
        obtain ⟨k, m, y, hk, rfl, rfl, rfl, hmk, hy, hin, HBV⟩ := hrel
        have HIN := fun _ : Unit => hin
        clear hin
        by_cases hkl : k < n
        · obtain ⟨g, o, rfl, hgB, c0, c1, c2, c3⟩ := setsD_cell (HR.below (HB.trans (HBV.mono hsz))) k hkl
          have HNO := fun (_ : Unit) (h2 : L.getD k sNone b = true) (h3 : y < k) => right_no hlt (HRT ()) (by rw [HLN ()]; exact hkl) (HIN ()) h2 h3
          have HYE := fun (_ : Unit) (h2 : L.getD k sNone b = true) (h3 : ¬ y < k) => rtIn_yes (HIN ()) h2 h3
          have HNN := fun (_ : Unit) (h2 : L.getD k sNone b = false) => rtIn_non (HIN ()) h2
          generalize L.getD k sNone = q at *
          have HC := fun W => rhas_any q b W hlt
          generalize q b = v at *
          have hi1 : (0 : Int) ≤ (k : Int) := by omega
          have hi2 : (k : Int) < (n : Int) := by omega
          have hs3 := HBV.size
          cases v
          · have H9 := fun _ : Unit => HNN () rfl
            clear HNO HYE HNN
            go_wp2_with (go_at_call 37; refine (HC _).mono ?_; rintro e w3 ⟨rfl, HB3⟩)
            go_roundw
            case rel => exact ⟨k + 1, m, y, by omega, by go_num, rfl, rfl, by omega, hy, H9 (), HBV.trans (HB3.mono hs3)⟩
            case measure => simp [intOf]; omega
          · by_cases hyk : y < k
            · have H9 := fun _ : Unit => HNO () rfl hyk
              clear HNO HYE HNN
              go_wp2_with (go_at_call 37; refine (HC _).mono ?_; rintro e w3 ⟨rfl, HB3⟩)
              go_ret
              exact ⟨by rw [H9 ()]; rfl, (HB.trans (HBV.mono hsz)).trans (HB3.mono (by omega))⟩
            · have H9 := fun _ : Unit => HYE () rfl hyk
              clear HNO HYE HNN
              by_cases hky : k = y
              · subst hky
                rw [if_pos rfl] at H9
                go_wp2_with (go_at_call 37; refine (HC _).mono ?_; rintro e w3 ⟨rfl, HB3⟩)
                go_roundw
                case rel => exact ⟨k + 1, m + 1, k + 1, by omega, by go_num, by go_num, by go_num, by omega, by omega, H9 (), HBV.trans (HB3.mono hs3)⟩
                case measure => simp [intOf]; omega
              · rw [if_neg hky] at H9
                have hq3 : ((k : Int) == (y : Int)) = false := by rw [beq_eq_false_iff_ne]; omega
                have hq4 : (k == y) = false := by rw [beq_eq_false_iff_ne]; exact hky
                go_wp2_with (go_at_call 37; refine (HC _).mono ?_; rintro e w3 ⟨rfl, HB3⟩)
                go_roundw
                case rel => exact ⟨k + 1, m + 1, y, by omega, by go_num, by go_num, rfl, by omega, by omega, H9 (), HBV.trans (HB3.mono hs3)⟩
                case measure => simp [intOf]; omega
        · have e : k = n := by omega
          subst e
          have HIN2 : Unit → rtIn L b z L.length = some (m, y) := fun _ => by rw [HLN ()]; exact HIN ()
          by_cases hm1 : m = 1
          · subst hm1
            have H9 := fun _ : Unit => right_step (HRT ()) (HIN2 ())
            go_wp2
            go_roundw
            case rel => exact ⟨b + 1, y, by omega, by go_num, rfl, hy, H9 (), HB.trans (HBV.mono hsz)⟩
            case measure => simp [intOf]; omega
          · have H9 := fun _ : Unit => right_cnt hlt (HRT ()) (HIN2 ()) hm1
            have h1 : ((m : Int) != 1) = true := by simp; omega
            have h2 : ((m : Int) == 1) = false := by rw [beq_eq_false_iff_ne]; omega
            have h3 : (m == 1) = false := by rw [beq_eq_false_iff_ne]; omega
            have h4 : (m != 1) = true := by simp [hm1]
            go_wp2
            go_ret
            exact ⟨by rw [H9 ()]; rfl, HB.trans (HBV.mono hsz)⟩
    · have e : b = 256 := by omega
      subst e
      have H9 := fun _ : Unit => right_end (HRT ()) (HLN ())
      go_wp2
      go_ret
      exact ⟨by rw [H9 ()]; rfl, HB⟩

end Go.Proofs.YtbjgkolldmplkaaDoor
