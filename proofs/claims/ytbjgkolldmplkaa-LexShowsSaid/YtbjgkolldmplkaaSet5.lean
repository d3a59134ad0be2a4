/- The walks of Pairs and of awake of layer 1. -/
import Derived.Test.YtbjgkolldmplkaaRows2
import Derived.Test.YtbjgkolldmplkaaArr
namespace Go.Proofs.Ytbjgkolldmplkaa
open Go.RowKit Go.Sort

theorem rowCells_get (l : List (Nat × Nat)) (k : Nat) (hk : k < l.length) : (rowCells l)[k * 2]? = some (.int .u8 ((l[k].1 : Nat) : Int)) ∧ (rowCells l)[k * 2 + 1]? = some (.int .u8 ((l[k].2 : Nat) : Int)) := by
  induction l generalizing k with
  | nil => simp at hk
  | cons r l ih =>
    have e : rowCells (r :: l) = (.int .u8 ((r.1 : Nat) : Int)) :: (.int .u8 ((r.2 : Nat) : Int)) :: rowCells l := rfl
    cases k with
    | zero => exact ⟨rfl, rfl⟩
    | succ k =>
      rw [e, show (k + 1) * 2 = k * 2 + 1 + 1 by omega]
      have := ih k (by simpa using hk)
      simpa using this

theorem spot_none {w : World} {a : Addr} {v : Value} (h : w.cell? a = some v) : a = ⟨a.block, a.off, none⟩ := by
  obtain ⟨b, o, s⟩ := a
  cases s with
  | none => rfl
  | some x =>
    unfold World.cell? at h
    simp at h
    split at h <;> cases h

theorem add_mk (g o j : Nat) : (⟨g, o, none⟩ : Addr).add j = ⟨g, o + j, none⟩ := by
  unfold Addr.add
  split
  · subst_vars; rfl
  · rfl

theorem row_cell {w : World} {B n : Nat} {A : Option Addr} {l : List (Nat × Nat)} (HR : Reads w B 2 A n (rowCells l)) (k : Nat) (hk : k < l.length) :
    ∃ g o, A = some ⟨g, o, none⟩ ∧ w.cell? ⟨g, o + k * 2, none⟩ = some (.int .u8 ((l[k].1 : Nat) : Int)) ∧ w.cell? ⟨g, o + k * 2 + 1, none⟩ = some (.int .u8 ((l[k].2 : Nat) : Int)) := by
  have hn := HR.1
  rw [rowCells_length] at hn
  obtain ⟨ad, e, _, hc⟩ := HR.2 (by omega)
  obtain ⟨h1, h2⟩ := rowCells_get l k hk
  obtain ⟨h01, _⟩ := rowCells_get l 0 (by omega)
  have h0 := hc _ _ h01
  rw [show ad.add (0 * 2) = ad by simp [Addr.add]] at h0
  have es := spot_none h0
  have c1 := hc _ _ h1
  have c2 := hc _ _ h2
  rw [es, add_mk] at c1 c2
  exact ⟨ad.block, ad.off, by rw [e, ← es], c1, c2⟩

set_option maxHeartbeats 1000000 in
/-- Two rows of rows that are the same. -/
theorem pairs_same (A A2 : Option Addr) (n c c2 B B2 : Nat) (l : List (Nat × Nat)) (w : World) (HA : Reads w B 2 A n (rowCells l)) (HA2 : Reads w B2 2 A2 n (rowCells l)) (hB : B ≤ w.heap.size) (hB2 : B2 ≤ w.heap.size) (hc : n ≤ c) (hm : c ≤ maxLen) :
    Calls Try.prog 30 #[.slice A n c, .slice A2 n c2] w (Gives (.bool true) w) := by
  have hn := HA.1
  rw [rowCells_length] at hn
  have hn2 : n = l.length := by omega
  subst hn2
  clear hn
  unfold maxLen at hm
  go_enter Try.func30, Try.ntmps30
  go_wp2
  go_loopw [5] (fun i wr => ∃ k : Nat, k ≤ l.length ∧ i = .int .i64 k ∧ Below w.heap.size w wr) (fun i _ => l.length - (intOf i).toNat)
  case atStart => exact ⟨0, by omega, rfl, Below.refl _ _⟩
  case round =>
    obtain ⟨k, hk, rfl, HB⟩ := hrel
    by_cases hlt : k < l.length
    · obtain ⟨g, o, rfl, hck, hck'⟩ := row_cell ((HA.more hB).below HB) k hlt
      obtain ⟨g2, o2, rfl, hck2, hck2'⟩ := row_cell ((HA2.more hB2).below HB) k hlt
      generalize l[k].1 = p1 at *
      generalize l[k].2 = p2 at *
      have hnp := fun W => neq_pair W p1 p2 p1 p2
      simp only [beq_self_eq_true, Bool.and_self, Bool.not_true] at hnp
      go_wp2
      go_quiet (fail)
      go_wp2
      go_roundw
      case rel => exact ⟨k + 1, by omega, by go_num, below_drewN HB _⟩
      case measure => simp [intOf]; omega
    · go_wp2
      go_ret
      exact ⟨rfl, HB⟩

end Go.Proofs.Ytbjgkolldmplkaa
