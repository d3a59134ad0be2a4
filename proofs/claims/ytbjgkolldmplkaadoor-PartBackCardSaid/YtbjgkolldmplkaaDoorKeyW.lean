/- The walk of part.key. -/
import Derived.Test.YtbjgkolldmplkaaDoorPartP
import Derived.Test.YtbjgkolldmplkaaDoorSet6
import Derived.Test.YtbjgkolldmplkaaDoorOnesP
import Derived.Laws.IdiomStrings
namespace Go.Proofs.YtbjgkolldmplkaaDoor
open Go.RowKit Go.Sort

theorem sets_cell {w : World} {B n : Nat} {A : Option Addr} {L : List (Nat → Bool)} (HR : Reads w B 4 A n (setVals L)) (k : Nat) (hk : k < L.length) :
    ∃ g o, A = some ⟨g, o, none⟩ ∧ g < B ∧ w.cell? ⟨g, o + k * 4, none⟩ = some (.int .u64 ((word L[k] 0 : Nat) : Int)) ∧ w.cell? ⟨g, o + k * 4 + 1, none⟩ = some (.int .u64 ((word L[k] 1 : Nat) : Int)) ∧
      w.cell? ⟨g, o + k * 4 + 2, none⟩ = some (.int .u64 ((word L[k] 2 : Nat) : Int)) ∧ w.cell? ⟨g, o + k * 4 + 3, none⟩ = some (.int .u64 ((word L[k] 3 : Nat) : Int)) := by
  have hn := HR.1
  rw [setVals_length] at hn
  obtain ⟨ad, e, hb, hc⟩ := HR.2 (by omega)
  have h0 := hc _ _ (setVals_get L 0 0 (by omega) (by decide))
  rw [show ad.add (0 * 4 + 0) = ad by simp [Addr.add]] at h0
  have es := spot_none h0
  have c0 := hc _ _ (setVals_get L k 0 hk (by decide))
  have c1 := hc _ _ (setVals_get L k 1 hk (by decide))
  have c2 := hc _ _ (setVals_get L k 2 hk (by decide))
  have c3 := hc _ _ (setVals_get L k 3 hk (by decide))
  rw [es, add_mk] at c0 c1 c2 c3
  exact ⟨ad.block, ad.off, by rw [e, ← es], hb, c0, c1, c2, c3⟩

/-- The key of a byte, as a text. -/
def keyB (l : List Bool) : List UInt8 := l.map fun x => if x then 1 else 0
def keyS (l : List Bool) : ByteArray := ⟨(keyB l).toArray⟩

/-- The row of k after k rounds. -/
def kRow (L : List (Nat → Bool)) (b k : Nat) : List Value := (List.range L.length).map fun i => .int .u8 (if decide (i < k) && L.getD i sNone b then 1 else 0)

theorem kRow_length (L : List (Nat → Bool)) (b k : Nat) : (kRow L b k).length = L.length := by simp [kRow]

theorem kRow_zero (L : List (Nat → Bool)) (b n : Nat) (hn : L.length = n) : madeCells #[.int .u8 0] n = (kRow L b 0).toArray := by
  subst hn
  apply Array.ext'
  rw [toList_madeCells_one]
  apply List.ext_getElem?
  intro j
  by_cases h : j < L.length <;> simp [kRow, h]

theorem kRow_no (L : List (Nat → Bool)) (b k : Nat) (h : L.getD k sNone b = false) : kRow L b (k + 1) = kRow L b k := by
  unfold kRow
  apply List.map_congr_left
  intro i _
  by_cases hi : i = k
  · subst hi; rw [h]; simp
  · have : (i < k + 1) = (i < k) := by apply propext; omega
    simp only [this]

theorem kRow_yes (L : List (Nat → Bool)) (b k : Nat) (h : L.getD k sNone b = true) : (kRow L b k).toArray.setIfInBounds k (.int .u8 1) = (kRow L b (k + 1)).toArray := by
  rw [List.setIfInBounds_toArray]
  congr 1
  apply List.ext_getElem?
  intro j
  rw [List.getElem?_set]
  by_cases hj : j < L.length
  · by_cases hk : k = j
    · subst hk
      have h' : L[k] b = true := by rw [List.getD_eq_getElem?_getD, List.getElem?_eq_getElem hj] at h; exact h
      simp [kRow, hj, h']
    · have : (j < k + 1) = (j < k) := by apply propext; omega
      simp [kRow, hj, hk, this]
  · by_cases hk : k = j
    · subst hk; simp [kRow, hj]
    · simp [kRow, hj, hk]

theorem kRow_all (L : List (Nat → Bool)) (b j : Nat) (hj : j < L.length) : (kRow L b L.length)[j]? = some (.int .u8 (((keyB (keyL L b))[j]'(by simp [keyB, keyL, hj])).toNat)) := by
  simp only [kRow, keyB, keyL, List.getElem?_map, List.getElem?_range hj, Option.map_some, hj, decide_true, Bool.true_and, List.getElem_map, Option.some.injEq]
  rw [List.getD_eq_getElem?_getD, List.getElem?_eq_getElem hj, Option.getD_some]
  cases L[j] b <;> rfl

theorem kRow_all2 (L : List (Nat → Bool)) (b n j : Nat) (hn : L.length = n) (hj : j < L.length) : (kRow L b n)[j]? = some (.int .u8 (((keyB (keyL L b))[j]'(by simp [keyB, keyL, hj])).toNat)) := by
  subst hn
  exact kRow_all L b j hj

theorem setsD_cell {w : World} {B n : Nat} {A : Option Addr} {L : List (Nat → Bool)} (HR : Reads w B 4 A n (setVals L)) (k : Nat) (hk : k < n) :
    ∃ g o, A = some ⟨g, o, none⟩ ∧ g < B ∧ w.cell? ⟨g, o + k * 4, none⟩ = some (.int .u64 ((word (L.getD k sNone) 0 : Nat) : Int)) ∧ w.cell? ⟨g, o + k * 4 + 1, none⟩ = some (.int .u64 ((word (L.getD k sNone) 1 : Nat) : Int)) ∧
      w.cell? ⟨g, o + k * 4 + 2, none⟩ = some (.int .u64 ((word (L.getD k sNone) 2 : Nat) : Int)) ∧ w.cell? ⟨g, o + k * 4 + 3, none⟩ = some (.int .u64 ((word (L.getD k sNone) 3 : Nat) : Int)) := by
  have hn := HR.1
  rw [setVals_length] at hn
  have e : L.getD k sNone = L[k]'(by omega) := by rw [List.getD_eq_getElem?_getD, List.getElem?_eq_getElem (by omega)]; rfl
  rw [e]
  exact sets_cell HR k (by omega)

theorem made_bytes (n : Nat) (hn : n ≤ 1024) (W : World) : (Instr.makeSlice 38 (.int .i64 (n : Int)) (.int .i64 (n : Int))).run Tryd.prog W = .ok (.slice (some ⟨W.heap.size, 0, none⟩) n n) (W.alloc (.cells (madeCells #[.int .u8 0] n) 5)) := by
  obtain ⟨i0, hi0, hz0, hz1, hz2⟩ := info_parts (show (Tryd.prog.info? 5).map (fun i => (i.zero, i.size, i.bytes)) = some (some (.int .u8 0), 1, 1) by kernel_rfl)
  have hr := run_make (P := Tryd.prog) W 38 5 i0 _ Tryd.underlying38 hi0 hz0 .i64 .i64 n n (by omega) (by omega) (by rw [hz2]; omega) (by omega)
  rw [hr, hz1]
  simp only [Int.toNat_natCast, Nat.mul_one]
  rfl

set_option maxRecDepth 100000 in
set_option maxHeartbeats 4000000 in
theorem key_any (L : List (Nat → Bool)) (A : Option Addr) (n c B b : Nat) (w : World) (HR0 : Reads w B 4 A n (setVals L)) (hB : B ≤ w.heap.size) (hb : b < 256) (hn : n ≤ 1024) :
    Calls Tryd.prog 32 #[.slice A n c, .int .u8 b] w (Gives (.string (keyS (keyL L b))) w) := by
  have HR := HR0.more hB
  have hnl := HR.1
  rw [setVals_length] at hnl
  have HN : Unit → L.length = n := fun _ => by omega
  have hmk := made_bytes n hn
  have hmb : Unit → madeCells #[.int .u8 0] n = (kRow L b 0).toArray := fun _ => kRow_zero L b n (HN ())
  clear HR0 hnl
  go_enter Tryd.func32, Tryd.ntmps32
  go_wp2
  go_loopw [13] (fun i wr => ∃ k : Nat, k ≤ n ∧ i = .int .i64 k ∧ Blk wr w.heap.size 5 (kRow L b k).toArray ∧ Below w.heap.size w wr) (fun i _ => n - (intOf i).toNat)
  case atStart =>
    refine ⟨0, by omega, rfl, ?_, (Below.refl _ _).alloc (Nat.le_refl _) _⟩
    have := Blk.new w 5 (madeCells #[.int .u8 0] n)
    rw [hmb ()] at this ⊢
    exact this
  case round =>
    clear hmk
    obtain ⟨k, hk, rfl, hbk, HB⟩ := hrel
    by_cases hlt : k < n
    · obtain ⟨g, o, rfl, hgB, c0, c1, c2, c3⟩ := setsD_cell (HR.below HB) k hlt
      have HC := fun W => has_any (L.getD k sNone) b W hb
      have hkc : wr.cell? ⟨w.heap.size, k, none⟩ = some (.int .u8 (if decide (k < k) && L.getD k sNone b then 1 else 0)) := by
        rw [hbk.cell k]
        have : k < L.length := by rw [HN ()]; exact hlt
        simp [kRow, this]
      have E1 := fun _ : Unit => kRow_yes L b k
      have E2 := fun _ : Unit => kRow_no L b k
      have hkf := hbk.frozen k
      have hlt2 := hbk.lt
      generalize L.getD k sNone = m at *
      cases hm : m b
      all_goals
        rw [hm] at HC
        have HM := fun _ : Unit => hm
        clear hm
      · go_wp2_with (go_at_call 35; refine (HC _).mono ?_; rintro e w1 ⟨rfl, HB1⟩)
        go_roundw
        case rel => exact ⟨k + 1, by omega, by go_num, by rw [E2 () (HM ())]; exact (hbk.alloc _).below HB1 (by simp; omega), ((HB.alloc HB.size _).trans (HB1.mono (by have := HB.size; simp; omega)))⟩
        case measure => simp [intOf]; omega
      · go_wp2_with (go_at_call 35; refine (HC _).mono ?_; rintro e w1 ⟨rfl, HB1⟩; have hbk1 := (hbk.alloc _).below HB1 (by simp; omega); have hkc1 := (hbk1.cell k).trans ((hbk.cell k).symm.trans hkc); have hkf1 := hbk1.frozen k)
        go_roundw
        case rel => exact ⟨k + 1, by omega, by go_num, by rw [← E1 () (HM ())]; exact hbk1.set_ k _, ((HB.alloc HB.size _).trans (HB1.mono (by have := HB.size; simp; omega))).setCell (by simp) _⟩
        case measure => simp [intOf]; omega
    · have e : k = n := by omega
      subst e
      have hl : (keyB (keyL L b)).length = k := by simp [keyB, keyL, HN ()]
      have hconv := run_convert_bytes_back (P := Tryd.prog) wr 38 9 5 ⟨w.heap.size, 0, none⟩ k (keyB (keyL L b)) Tryd.underlying38 Tryd.underlying5 Tryd.underlying9 (fun j hj => by
        rw [add_mk, Nat.zero_add, hbk.cell j]
        have hjl : j < L.length := by rw [HN ()]; omega
        have := kRow_all2 L b k j (HN ()) hjl
        simpa using this)
      rw [hl] at hconv
      go_wp2
      go_ret
      exact ⟨rfl, HB⟩

end Go.Proofs.YtbjgkolldmplkaaDoor
