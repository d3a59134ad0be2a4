/- '==' and '!=' of a token and itself; rows of tokens that are the same; layer 6's awake. -/
import Derived.Test.YtbjgkolldmplkaaLex10
import Derived.Test.YtbjgkolldmplkaaLex12
import Derived.Test.YtbjgkolldmplkaaSet3
import Derived.Test.YtbjgkolldmplkaaArr
import Derived.Laws.StructEq
namespace Go.Proofs.Ytbjgkolldmplkaa
open Go.RowKit Go.Sort

theorem text_self (w : World) (d : Nat) (x : ByteArray) : (Op.equalIn (d + 1) 9 (.string x) (.string x)).run Try.prog w = .ok true w := by
  have e : (x == x) = true := by rw [beq_toListBytes]; exact beq_self_eq_true _
  simp [Op.equalIn, run_underlying Try.underlying9, e]

theorem tok_self (w : World) (d : Nat) (kd u0 u1 u2 u3 nm p : Int) (tx : ByteArray) :
    (Op.equalIn (d + 4) 46 (.agg #[.int .i64 kd, .string tx, .int .u64 u0, .int .u64 u1, .int .u64 u2, .int .u64 u3, .int .i64 nm, .int .i64 p]) (.agg #[.int .i64 kd, .string tx, .int .u64 u0, .int .u64 u1, .int .u64 u2, .int .u64 u3, .int .i64 nm, .int .i64 p])).run Try.prog w = .ok true w := by
  rw [run_equalIn_struct w (d + 3) _ _ _ (by kernel_rfl) (by kernel_rfl)]
  have hf : (Try.prog.fieldsOf 46).toList.map (fun f => (f.name, f.type, f.offset)) = [("Kind", 3, 0), ("Text", 9, 1), ("Set", 25, 2), ("Number", 3, 6), ("At", 3, 7)] := by kernel_rfl
  rcases hx : (Try.prog.fieldsOf 46).toList with _ | ⟨f0, _ | ⟨f1, _ | ⟨f2, _ | ⟨f3, _ | ⟨f4, _ | ⟨f5, r⟩⟩⟩⟩⟩⟩ <;> rw [hx] at hf <;> simp at hf
  obtain ⟨⟨n0, t0, o0⟩, ⟨n1, t1, o1⟩, ⟨n2, t2, o2⟩, ⟨n3, t3, o3⟩, n4, t4, o4⟩ := hf
  have p0 : (part 3 #[.int .i64 kd, .string tx, .int .u64 u0, .int .u64 u1, .int .u64 u2, .int .u64 u3, .int .i64 nm, .int .i64 p] 0).run Try.prog w = .ok (.int .i64 kd) w := by kernel_rfl
  have p1 : (part 9 #[.int .i64 kd, .string tx, .int .u64 u0, .int .u64 u1, .int .u64 u2, .int .u64 u3, .int .i64 nm, .int .i64 p] 1).run Try.prog w = .ok (.string tx) w := by kernel_rfl
  have p2 : (part 25 #[.int .i64 kd, .string tx, .int .u64 u0, .int .u64 u1, .int .u64 u2, .int .u64 u3, .int .i64 nm, .int .i64 p] 2).run Try.prog w = .ok (.agg #[.int .u64 u0, .int .u64 u1, .int .u64 u2, .int .u64 u3]) w := by kernel_rfl
  have p3 : (part 3 #[.int .i64 kd, .string tx, .int .u64 u0, .int .u64 u1, .int .u64 u2, .int .u64 u3, .int .i64 nm, .int .i64 p] 6).run Try.prog w = .ok (.int .i64 nm) w := by kernel_rfl
  have p4 : (part 3 #[.int .i64 kd, .string tx, .int .u64 u0, .int .u64 u1, .int .u64 u2, .int .u64 u3, .int .i64 nm, .int .i64 p] 7).run Try.prog w = .ok (.int .i64 p) w := by kernel_rfl
  have ew := equalIn_words w (d + 1) Try.underlying25 u0 u1 u2 u3 u0 u1 u2 u3
  have es := text_self w (d + 2) tx
  simp only [beq_self_eq_true, Bool.and_self] at ew
  simp [Op.eqFields, n0, n1, n2, n3, n4, t0, t1, t2, t3, t4, o0, o1, o2, o3, o4, p0, p1, p2, p3, p4, equalIn_int w (d + 2) Try.underlying3, es, ew]

theorem tok_eql (w : World) (kd u0 u1 u2 u3 nm p : Int) (tx : ByteArray) :
    (binOp .eql 46 (.agg #[.int .i64 kd, .string tx, .int .u64 u0, .int .u64 u1, .int .u64 u2, .int .u64 u3, .int .i64 nm, .int .i64 p]) (.agg #[.int .i64 kd, .string tx, .int .u64 u0, .int .u64 u1, .int .u64 u2, .int .u64 u3, .int .i64 nm, .int .i64 p])).run Try.prog w = .ok (.bool true) w := by
  rw [run_eql_struct, tok_self w 9996]; rfl

theorem tok_neq (w : World) (kd u0 u1 u2 u3 nm p : Int) (tx : ByteArray) :
    (binOp .neq 46 (.agg #[.int .i64 kd, .string tx, .int .u64 u0, .int .u64 u1, .int .u64 u2, .int .u64 u3, .int .i64 nm, .int .i64 p]) (.agg #[.int .i64 kd, .string tx, .int .u64 u0, .int .u64 u1, .int .u64 u2, .int .u64 u3, .int .i64 nm, .int .i64 p])).run Try.prog w = .ok (.bool false) w := by
  rw [run_neq_struct, tok_self w 9996]; rfl

def tkD (L : List (Tk × Nat)) (k : Nat) : Tk × Nat := L.getD k (tk0, 0)

theorem tkVals_get : ∀ (L : List (Tk × Nat)) (k j : Nat), k < L.length → j < 8 → (tkVals L)[k * 8 + j]? = (tkC (tkD L k))[j]?
  | t :: L, 0, j, _, hj => by
    show (tkC t ++ tkVals L)[0 * 8 + j]? = _
    rw [List.getElem?_append_left (by simp [tkC]; omega), Nat.zero_mul, Nat.zero_add]
    rfl
  | t :: L, k + 1, j, hk, hj => by
    show (tkC t ++ tkVals L)[(k + 1) * 8 + j]? = _
    rw [List.getElem?_append_right (by simp [tkC]; omega)]
    have := tkVals_get L k j (by simpa using hk) hj
    rw [show (k + 1) * 8 + j - (tkC t).length = k * 8 + j by simp [tkC]; omega]
    exact this

theorem tok_cell {w : World} {B n : Nat} {A : Option Addr} {L : List (Tk × Nat)} (HR : Reads w B 8 A n (tkVals L)) (k : Nat) (hk : k < n) :
    ∃ g o, A = some ⟨g, o, none⟩ ∧ g < B ∧ w.cell? ⟨g, o + k * 8, none⟩ = some (.int .i64 (tkD L k).1.kind) ∧ w.cell? ⟨g, o + k * 8 + 1, none⟩ = some (.string ⟨(tkD L k).1.text.toArray⟩) ∧
      w.cell? ⟨g, o + k * 8 + 2, none⟩ = some (.int .u64 ((word (tkD L k).1.set 0 : Nat) : Int)) ∧ w.cell? ⟨g, o + k * 8 + 3, none⟩ = some (.int .u64 ((word (tkD L k).1.set 1 : Nat) : Int)) ∧
      w.cell? ⟨g, o + k * 8 + 4, none⟩ = some (.int .u64 ((word (tkD L k).1.set 2 : Nat) : Int)) ∧ w.cell? ⟨g, o + k * 8 + 5, none⟩ = some (.int .u64 ((word (tkD L k).1.set 3 : Nat) : Int)) ∧
      w.cell? ⟨g, o + k * 8 + 6, none⟩ = some (.int .i64 (tkD L k).1.num) ∧ w.cell? ⟨g, o + k * 8 + 7, none⟩ = some (.int .i64 (((tkD L k).2 : Nat) : Int)) := by
  have hn := HR.1
  rw [tkVals_length] at hn
  have hl : k < L.length := by omega
  obtain ⟨ad, e, hb, hc⟩ := HR.2 (by omega)
  have h0 := hc _ _ ((tkVals_get L 0 0 (by omega) (by decide)).trans rfl)
  rw [show ad.add (0 * 8 + 0) = ad by simp [Addr.add]] at h0
  have es := spot_none h0
  have c0 := hc _ _ ((tkVals_get L k 0 hl (by decide)).trans rfl)
  have c1 := hc _ _ ((tkVals_get L k 1 hl (by decide)).trans rfl)
  have c2 := hc _ _ ((tkVals_get L k 2 hl (by decide)).trans rfl)
  have c3 := hc _ _ ((tkVals_get L k 3 hl (by decide)).trans rfl)
  have c4 := hc _ _ ((tkVals_get L k 4 hl (by decide)).trans rfl)
  have c5 := hc _ _ ((tkVals_get L k 5 hl (by decide)).trans rfl)
  have c6 := hc _ _ ((tkVals_get L k 6 hl (by decide)).trans rfl)
  have c7 := hc _ _ ((tkVals_get L k 7 hl (by decide)).trans rfl)
  rw [es, add_mk] at c0 c1 c2 c3 c4 c5 c6 c7
  exact ⟨ad.block, ad.off, by rw [e, ← es], hb, c0, c1, c2, c3, c4, c5, c6, c7⟩

set_option maxRecDepth 100000 in
set_option maxHeartbeats 8000000 in
theorem toks_any (L : List (Tk × Nat)) (A A' : Option Addr) (n c c' B : Nat) (w : World) (HR0 : Reads w B 8 A n (tkVals L)) (HR0' : Reads w B 8 A' n (tkVals L)) (hB : B ≤ w.heap.size) (hm : n ≤ 100000) :
    Calls Try.prog 37 #[.slice A n c, .slice A' n c'] w (Gives (.bool true) w) := by
  have HR := HR0.more hB
  have HR' := HR0'.more hB
  clear HR0 HR0'
  go_enter Try.func37, Try.ntmps37
  go_wp2
  go_loopw [5] (fun i wr => ∃ k : Nat, k ≤ n ∧ i = .int .i64 k ∧ Below w.heap.size w wr) (fun i _ => n - (intOf i).toNat)
  case atStart => exact ⟨0, by omega, rfl, Below.refl _ _⟩
  case round =>
    obtain ⟨k, hk, rfl, HB⟩ := hrel
    have hsz := HB.size
    by_cases hlt : k < n
    · have hi1 : (0 : Int) ≤ (k : Int) := by omega
      have hi2 : (k : Int) < (n : Int) := by omega
      obtain ⟨g, o, rfl, hgB, c0, c1, c2, c3, c4, c5, c6, c7⟩ := tok_cell (HR.below HB) k hlt
      obtain ⟨g', o', rfl, hgB', d0, d1, d2, d3, d4, d5, d6, d7⟩ := tok_cell (HR'.below HB) k hlt
      generalize tkD L k = t at *
      have hne := fun W => tok_neq W t.1.kind ((word t.1.set 0 : Nat) : Int) ((word t.1.set 1 : Nat) : Int) ((word t.1.set 2 : Nat) : Int) ((word t.1.set 3 : Nat) : Int) t.1.num ((t.2 : Nat) : Int) ⟨t.1.text.toArray⟩
      have c0' := cell_regrown c0
      have c1' := cell_regrown c1
      have c2' := cell_regrown c2
      have c3' := cell_regrown c3
      have c4' := cell_regrown c4
      have c5' := cell_regrown c5
      have c6' := cell_regrown c6
      have c7' := cell_regrown c7
      have d0' := cell_regrown d0
      have d1' := cell_regrown d1
      have d2' := cell_regrown d2
      have d3' := cell_regrown d3
      have d4' := cell_regrown d4
      have d5' := cell_regrown d5
      have d6' := cell_regrown d6
      have d7' := cell_regrown d7
      clear c0 c1 c2 c3 c4 c5 c6 c7 d0 d1 d2 d3 d4 d5 d6 d7
      go_wp2
      refine wp_region_quiet_below (by kernel_rfl) (by kernel_rfl) ?_
      repeat (go_big_quiet_step (fail))
      refine wpQuiet_nil ?_
      intro w5 hw5
      have HB5 := below_of hw5
      have L5 := HB.trans (HB5.mono hsz)
      clear hw5 c0' c1' c2' c3' c4' c5' c6' c7' d0' d1' d2' d3' d4' d5' d6' d7'
      go_wp2
      go_roundw
      case rel => exact ⟨k + 1, by omega, by go_num, L5⟩
      case measure => simp [intOf]; omega
    · have e : k = n := by omega
      subst e
      go_wp2
      go_ret
      exact ⟨rfl, HB⟩

def exT : List (Tk × Nat) := [(⟨1, [97, 98], sNone, 0⟩, 0), (⟨4, [61], sNone, 0⟩, 2), (⟨2, [120, 10], sNone, 0⟩, 3), (⟨3, [], sAny sNone (sSpan 97 99), 0⟩, 9), (⟨4, [59], sNone, 0⟩, 14)]

theorem exT_all : allL (sf ⟨#[97, 98, 61, 34, 120, 92, 110, 34, 32, 91, 97, 45, 99, 93, 59, 35]⟩ 0) = (0, exT, 16) := by kernel_rfl

theorem exT_vals : tkVals exT = [.int .i64 1, .string ⟨#[97, 98]⟩, .int .u64 0, .int .u64 0, .int .u64 0, .int .u64 0, .int .i64 0, .int .i64 0, .int .i64 4, .string ⟨#[61]⟩, .int .u64 0, .int .u64 0, .int .u64 0, .int .u64 0, .int .i64 0, .int .i64 2, .int .i64 2, .string ⟨#[120, 10]⟩, .int .u64 0, .int .u64 0, .int .u64 0, .int .u64 0, .int .i64 0, .int .i64 3, .int .i64 3, .string ⟨#[]⟩, .int .u64 ((word (sSpan 97 99) 0 : Nat) : Int), .int .u64 ((word (sSpan 97 99) 1 : Nat) : Int), .int .u64 ((word (sSpan 97 99) 2 : Nat) : Int), .int .u64 ((word (sSpan 97 99) 3 : Nat) : Int), .int .i64 0, .int .i64 9, .int .i64 4, .string ⟨#[59]⟩, .int .u64 0, .int .u64 0, .int .u64 0, .int .u64 0, .int .i64 0, .int .i64 14] := by
  have h : ∀ i, word (sAny sNone (sSpan 97 99)) i = word (sSpan 97 99) i := fun i => word_ext fun k _ => by simp [sAny, sNone]
  simp only [tkVals, exT, tkC, List.flatMap_cons, List.flatMap_nil, word_void, h]
  rfl

theorem exT_text : txL [34] = [34, 92, 34, 34] := by kernel_rfl

set_option maxRecDepth 100000 in
set_option maxHeartbeats 8000000 in
theorem awake6_any (w : World) : Calls Try.prog 25 #[] w (Gives (.bool true) w) := by
  have HA : ∀ W, Calls Try.prog 23 #[.string ⟨#[97, 98, 61, 34, 120, 92, 110, 34, 32, 91, 97, 45, 99, 93, 59, 35]⟩] W fun e W' => ∃ A c, e = .returned (.tuple #[.slice A 5 c, .int .i64 16, .int .i64 0]) ∧ Reads W' W'.heap.size 8 A 5 (tkVals exT) ∧ Below W.heap.size W W' := fun W => by
    have := all_any ⟨#[97, 98, 61, 34, 120, 92, 110, 34, 32, 91, 97, 45, 99, 93, 59, 35]⟩ W (by decide)
    rw [exT_all] at this
    exact this
  have HS : ∀ W, Calls Try.prog 13 #[.int .u8 97, .int .u8 99] W (Gives (.agg #[.int .u64 ((word ((sSpan 97 99)) 0 : Nat) : Int), .int .u64 ((word ((sSpan 97 99)) 1 : Nat) : Int), .int .u64 ((word ((sSpan 97 99)) 2 : Nat) : Int), .int .u64 ((word ((sSpan 97 99)) 3 : Nat) : Int)]) W) := fun W => span_any 97 99 W (by decide) (by decide)
  have HT : ∀ W, Calls Try.prog 26 #[.string ⟨#[34]⟩] W (Gives (.string ⟨#[34, 92, 34, 34]⟩) W) := fun W => by
    have := text_any ⟨#[34]⟩ W (by decide)
    rw [show (⟨#[34]⟩ : ByteArray).data.toList = [34] from rfl, exT_text] at this
    exact this
  have HM := fun (W : World) (A1 A2 : Option Addr) (c1 c2 : Nat) (h1 : Reads W W.heap.size 8 A1 5 (tkVals exT)) (h2 : Reads W W.heap.size 8 A2 5 (tkVals exT)) => toks_any exT A1 A2 5 c1 c2 _ W h1 h2 (Nat.le_refl _) (by decide)
  rw [exT_vals] at HA HM
  generalize ((word (sSpan 97 99) 0 : Nat) : Int) = x0 at *
  generalize ((word (sSpan 97 99) 1 : Nat) : Int) = x1 at *
  generalize ((word (sSpan 97 99) 2 : Nat) : Int) = x2 at *
  generalize ((word (sSpan 97 99) 3 : Nat) : Int) = x3 at *
  have hA := Lib.hid HA
  have hS := Lib.hid HS
  have hT := Lib.hid HT
  have hM := Lib.hid HM
  clear HA HS HT HM
  go_enter Try.func25, Try.ntmps25
  go_wp2_with fail
  refine (hA.out _).mono ?_
  rintro e w1 ⟨A1, c1, rfl, HR1, HB1⟩
  go_wp2_with fail
  refine (hS.out _).mono ?_
  rintro e w2 ⟨rfl, HB2⟩
  have L2 := below_then HB1 HB2
  have HR2 := (HR1.below HB2).more HB2.size
  clear HB1 HR1 HB2
  go_upto_region 3 with (fail)
  have HW := reads_blkN (size := 8) (n := 5) (xs := [.int .i64 1, .string ⟨#[97, 98]⟩, .int .u64 0, .int .u64 0, .int .u64 0, .int .u64 0, .int .i64 0, .int .i64 0, .int .i64 4, .string ⟨#[61]⟩, .int .u64 0, .int .u64 0, .int .u64 0, .int .u64 0, .int .i64 0, .int .i64 2, .int .i64 2, .string ⟨#[120, 10]⟩, .int .u64 0, .int .u64 0, .int .u64 0, .int .u64 0, .int .i64 0, .int .i64 3, .int .i64 3, .string ⟨#[]⟩, .int .u64 x0, .int .u64 x1, .int .u64 x2, .int .u64 x3, .int .i64 0, .int .i64 9, .int .i64 4, .string ⟨#[59]⟩, .int .u64 0, .int .u64 0, .int .u64 0, .int .u64 0, .int .i64 0, .int .i64 14]) (Blk.new w2 46 _) rfl
  have L3 := L2.alloc L2.size (.cells #[.int .i64 1, .string ⟨#[97, 98]⟩, .int .u64 0, .int .u64 0, .int .u64 0, .int .u64 0, .int .i64 0, .int .i64 0, .int .i64 4, .string ⟨#[61]⟩, .int .u64 0, .int .u64 0, .int .u64 0, .int .u64 0, .int .i64 0, .int .i64 2, .int .i64 2, .string ⟨#[120, 10]⟩, .int .u64 0, .int .u64 0, .int .u64 0, .int .u64 0, .int .i64 0, .int .i64 3, .int .i64 3, .string ⟨#[]⟩, .int .u64 x0, .int .u64 x1, .int .u64 x2, .int .u64 x3, .int .i64 0, .int .i64 9, .int .i64 4, .string ⟨#[59]⟩, .int .u64 0, .int .u64 0, .int .u64 0, .int .u64 0, .int .i64 0, .int .i64 14] 46)
  have HR3 := (HR2.alloc (Nat.le_refl _) (.cells #[.int .i64 1, .string ⟨#[97, 98]⟩, .int .u64 0, .int .u64 0, .int .u64 0, .int .u64 0, .int .i64 0, .int .i64 0, .int .i64 4, .string ⟨#[61]⟩, .int .u64 0, .int .u64 0, .int .u64 0, .int .u64 0, .int .i64 0, .int .i64 2, .int .i64 2, .string ⟨#[120, 10]⟩, .int .u64 0, .int .u64 0, .int .u64 0, .int .u64 0, .int .i64 0, .int .i64 3, .int .i64 3, .string ⟨#[]⟩, .int .u64 x0, .int .u64 x1, .int .u64 x2, .int .u64 x3, .int .i64 0, .int .i64 9, .int .i64 4, .string ⟨#[59]⟩, .int .u64 0, .int .u64 0, .int .u64 0, .int .u64 0, .int .i64 0, .int .i64 14] 46)).more (by simp : w2.heap.size ≤ (w2.alloc (.cells #[.int .i64 1, .string ⟨#[97, 98]⟩, .int .u64 0, .int .u64 0, .int .u64 0, .int .u64 0, .int .i64 0, .int .i64 0, .int .i64 4, .string ⟨#[61]⟩, .int .u64 0, .int .u64 0, .int .u64 0, .int .u64 0, .int .i64 0, .int .i64 2, .int .i64 2, .string ⟨#[120, 10]⟩, .int .u64 0, .int .u64 0, .int .u64 0, .int .u64 0, .int .i64 0, .int .i64 3, .int .i64 3, .string ⟨#[]⟩, .int .u64 x0, .int .u64 x1, .int .u64 x2, .int .u64 x3, .int .i64 0, .int .i64 9, .int .i64 4, .string ⟨#[59]⟩, .int .u64 0, .int .u64 0, .int .u64 0, .int .u64 0, .int .i64 0, .int .i64 14] 46)).heap.size)
  go_wp2_with fail
  refine (hM.out _ _ _ _ _ HR3 HW).mono ?_
  rintro e w4 ⟨rfl, HB4⟩
  have L4 := below_then L3 HB4
  clear HW HR3 L3 L2 HR2 HB4
  go_wp2_with fail
  refine (hT.out _).mono ?_
  rintro e w5 ⟨rfl, HB5⟩
  have L5 := below_then L4 HB5
  clear hA hS hT hM L4 HB5
  go_wp2
  go_ret
  exact ⟨by simp, L5⟩

end Go.Proofs.Ytbjgkolldmplkaa
