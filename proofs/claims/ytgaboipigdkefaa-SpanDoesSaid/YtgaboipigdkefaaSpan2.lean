/- The walks of gather, All, the closure of Through, each. -/
import Derived.Test.YtgaboipigdkefaaSpan1
import Derived.Deep.RegionWith
namespace Go.Proofs.Ytgaboipigdkefaa
open Go.RowKit Go.Sort

/-- A row of spans, as cells. -/
def spanVals (l : List (Int × Int)) : List Value := l.flatMap fun p => [.int .i64 p.1, .int .i64 p.2]

theorem spanVals_length (l : List (Int × Int)) : (spanVals l).length = l.length * 2 := by
  induction l with
  | nil => rfl
  | cons r l ih =>
    have e : spanVals (r :: l) = (.int .i64 r.1) :: (.int .i64 r.2) :: spanVals l := rfl
    rw [e]
    simp [ih]
    omega

theorem spanVals_get (l : List (Int × Int)) (k : Nat) (hk : k < l.length) : (spanVals l)[k * 2]? = some (.int .i64 l[k].1) ∧ (spanVals l)[k * 2 + 1]? = some (.int .i64 l[k].2) := by
  induction l generalizing k with
  | nil => simp at hk
  | cons r l ih =>
    have e : spanVals (r :: l) = (.int .i64 r.1) :: (.int .i64 r.2) :: spanVals l := rfl
    cases k with
    | zero => exact ⟨rfl, rfl⟩
    | succ k =>
      rw [e, show (k + 1) * 2 = k * 2 + 1 + 1 by omega]
      have := ih k (by simpa using hk)
      simpa using this

theorem spot_none {w : World} {a : Addr} {v : Value} (h : w.cell? a = some v) : a = ⟨a.block, a.off, none⟩ := by
  obtain ⟨b, o, s⟩ := a
  cases s with
  | none => rfl
  | some x =>
    unfold World.cell? at h
    simp at h
    split at h <;> cases h

theorem add_mk (g o j : Nat) : (⟨g, o, none⟩ : Addr).add j = ⟨g, o + j, none⟩ := by
  unfold Addr.add
  split
  · subst_vars; rfl
  · rfl

theorem span_cell {w : World} {B n : Nat} {A : Option Addr} {l : List (Int × Int)} (HR : Reads w B 2 A n (spanVals l)) (k : Nat) (hk : k < l.length) :
    ∃ g o, A = some ⟨g, o, none⟩ ∧ g < B ∧ w.cell? ⟨g, o + k * 2, none⟩ = some (.int .i64 l[k].1) ∧ w.cell? ⟨g, o + k * 2 + 1, none⟩ = some (.int .i64 l[k].2) := by
  have hn := HR.1
  rw [spanVals_length] at hn
  obtain ⟨ad, e, hB, hc⟩ := HR.2 (by omega)
  obtain ⟨h1, h2⟩ := spanVals_get l k hk
  obtain ⟨h01, _⟩ := spanVals_get l 0 (by omega)
  have h0 := hc _ _ h01
  rw [show ad.add (0 * 2) = ad by simp [Addr.add]] at h0
  have es := spot_none h0
  have c1 := hc _ _ h1
  have c2 := hc _ _ h2
  rw [es, add_mk] at c1 c2
  exact ⟨ad.block, ad.off, by rw [e, ← es], hB, c1, c2⟩

/-- The hull of one and of all of a row. -/
def hullL : Int × Int → List (Int × Int) → Int × Int
  | p, [] => p
  | p, q :: l => hullL (min p.1 q.1, max p.2 q.2) l

theorem hullL_take (p : Int × Int) (l : List (Int × Int)) (k : Nat) (hk : k < l.length) : hullL p (l.take (k + 1)) = (min (hullL p (l.take k)).1 l[k].1, max (hullL p (l.take k)).2 l[k].2) := by
  induction l generalizing p k with
  | nil => simp at hk
  | cons q l ih =>
    cases k with
    | zero => rfl
    | succ k => exact ih _ k (by simpa using hk)

set_option maxHeartbeats 1000000 in
theorem gather_any (a b : Int) (A : Option Addr) (n c B : Nat) (l : List (Int × Int)) (w : World) (HR0 : Reads w B 2 A n (spanVals l)) (hB : B ≤ w.heap.size) (hc : n ≤ c) (hm : c ≤ maxLen) :
    Calls Try.prog 40 #[.agg #[.int .i64 (a), .int .i64 (b)], .slice A n c] w (Gives (.agg #[.int .i64 ((hullL (a, b) l).1), .int .i64 ((hullL (a, b) l).2)]) w) := by
  have HR := HR0.more hB
  clear HR0
  have hn := HR.1
  rw [spanVals_length] at hn
  have hn2 : n = l.length := by omega
  subst hn2
  clear hn
  unfold maxLen at hm
  go_enter Try.func40, Try.ntmps40
  go_wp2
  go_loopw [6, 9] (fun _ i wr => ∃ k : Nat, k ≤ l.length ∧ i = .int .i64 k ∧ Blk wr w.heap.size 35 #[.int .i64 (hullL (a, b) (l.take k)).1, .int .i64 (hullL (a, b) (l.take k)).2] ∧
    Blk wr (w.heap.size + 1) 35 #[.int .i64 0, .int .i64 0] ∧ Below w.heap.size w wr) (fun _ i _ => l.length - (intOf i).toNat)
  case atStart =>
    refine ⟨0, by omega, rfl, (Blk.new w _ _).alloc _, ?_, (((Below.refl _ _).alloc (Nat.le_refl _) _).alloc (by simp) _)⟩
    have := Blk.new (w.alloc (.cells #[.int .i64 a, .int .i64 b] 35)) 35 #[.int .i64 0, .int .i64 0]
    simp only [World.size_alloc] at this
    exact this
  case round =>
    obtain ⟨k, hk, rfl, hb0, hb1, HB⟩ := hrel
    have hlt1 := hb1.lt
    by_cases hlt : k < l.length
    · obtain ⟨g, o, rfl, hgB, hck, hck'⟩ := span_cell (HR.below HB) k hlt
      have E := Lib.hid (hullL_take (a, b) l k hlt)
      generalize l[k].1 = p1 at *
      generalize l[k].2 = p2 at *
      generalize hullL (a, b) (l.take k) = q at *
      have hba := hb0.alloc (.cells #[.int .i64 p1, .int .i64 p2] 35)
      obtain ⟨c0, c1⟩ := hba.cells2
      have f0 := hba.frozen 0
      have f1 := hba.frozen 1
      go_wp2_with (go_at_call 16; refine (hull_any _ _ _ _ _).mono ?_; rintro e w1 ⟨rfl, HB1⟩; have hb0' := hba.below HB1 (by simp; omega); obtain ⟨d0, d1⟩ := hb0'.cells2; have f0' := hb0'.frozen 0; have f1' := hb0'.frozen 1)
      go_roundw
      case rel =>
        exact ⟨k + 1, by omega, by go_num, by rw [E.out]; exact (hb0'.set_ 0 _).set_ 1 _,
          (((hb1.alloc _).below HB1 (by simp; omega)).far (p := ⟨w.heap.size, 0, none⟩) (by simp) _).far (p := ⟨w.heap.size, 1, none⟩) (by simp) _,
          (((HB.alloc (by omega) _).trans (HB1.mono (by simp; omega))).setCell (p := ⟨w.heap.size, 0, none⟩) (by simp) _).setCell (p := ⟨w.heap.size, 1, none⟩) (by simp) _⟩
      case measure => simp [intOf]; omega
    · have e : k = l.length := by omega
      subst e
      rw [List.take_length] at hb0
      obtain ⟨c0, c1⟩ := hb0.cells2
      obtain ⟨d0, d1⟩ := hb1.cells2
      have f0 := hb1.frozen 0
      have f1 := hb1.frozen 1
      go_wp2
      exact bodyPost_ret (v := .agg #[.int .i64 ((hullL (a, b) l).1), .int .i64 ((hullL (a, b) l).2)]) (by simp [results, Try.results40, go_sem, c0, c1, d0, d1]) rfl
        ⟨rfl, (HB.setCell (p := ⟨w.heap.size + 1, 0, none⟩) (by simp) _).setCell (p := ⟨w.heap.size + 1, 1, none⟩) (by simp) _⟩

theorem errOf_same (n a b : Int) (w : World) (g : Nat) (h : w.cell? ⟨g, 0, none⟩ = some (.int .i64 n)) :
    Calls Try.prog 37 #[.agg #[.int .i64 (a), .int .i64 (b)], .pointer (some ⟨g, 0, none⟩)] w (Gives (.bool (may n a b)) w) := by
  have hg : g < w.heap.size := by
    rcases Nat.lt_or_ge g w.heap.size with hlt | hge
    · exact hlt
    · unfold World.cell? at h; rw [Array.getElem?_eq_none hge] at h; cases h
  have h' := (World.cell?_alloc_lt w (.cells #[.int .i64 a, .int .i64 b] 35) ⟨g, 0, none⟩ hg).trans h
  have hC := check_any n a b
  obtain ⟨q, hq⟩ : ∃ q, may n a b = q := ⟨_, rfl⟩
  rw [hq] at hC ⊢
  unfold errOf at hC
  cases q
  all_goals
    go_enter Try.func37, Try.ntmps37
    go_wp2_with (go_at_call 19; refine (hC _).mono ?_; rintro e w1 ⟨rfl, HB1⟩)
    go_ret
    exact ⟨rfl, below_then ((Below.refl _ _).alloc (Nat.le_refl _) _) HB1⟩

/-- The answer of All. -/
def allV : List (Int × Int) → Value
  | [] => .tuple #[.agg #[.int .i64 (0), .int .i64 (0)], .int .i64 7]
  | p :: l => .tuple #[.agg #[.int .i64 ((hullL p l).1), .int .i64 ((hullL p l).2)], .int .i64 0]

theorem Reads.tail2 {w : World} {B c : Nat} {A : Option Addr} {p : Int × Int} {l : List (Int × Int)} (h : Reads w B 2 A (l.length + 1) (spanVals (p :: l))) (hc : l.length + 1 ≤ c) :
    Reads w B 2 (if c = 1 then A else A.map (·.add 2)) l.length (spanVals l) := by
  have := Reads.cut h (k := 1) (cap := c) (by omega) hc
  simpa [spanVals] using this

set_option maxHeartbeats 1000000 in
theorem all_none (A : Option Addr) (c : Nat) (w : World) :
    Calls Try.prog 28 #[.slice A 0 c] w (Gives (allV []) w) := by
  go_enter Try.func28, Try.ntmps28
  go_wp2
  exact bodyPost_ret (v := allV []) (by simp [results, Try.results28, go_sem, allV]) rfl ⟨rfl, (Below.refl _ _).alloc (Nat.le_refl _) _⟩


end Go.Proofs.Ytgaboipigdkefaa
