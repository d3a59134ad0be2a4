/- Words for the walks of package lex: a token's cell, a row of bytes. -/
import Derived.Test.YtbjgkolldmplkaaLex4
import Derived.Test.YtbjgkolldmplkaaLexQ
import Derived.Test.YtbjgkolldmplkaaSet6
import Derived.Test.YtbjgkolldmplkaaBytes
import Derived.Laws.BytesArg
import Derived.Laws.IdiomStrings
namespace Go.Proofs.Ytbjgkolldmplkaa
open Go.RowKit Go.Sort

theorem gets_tok {fn : Func} {tmps : Array Value} {W : World} {B : Nat} {v0 v1 v2 v3 v4 v5 v6 v7 : Value} (h : fn.results = #[.cell 4 46, .tmp 5, .tmp 6]) (hp : tmps.getD 4 undef = .pointer (some ⟨B, 0, none⟩))
    (hb : Blk W B 46 #[v0, v1, v2, v3, v4, v5, v6, v7]) : (results fn tmps).run Try.prog W = .ok (.tuple #[.agg #[v0, v1, v2, v3, v4, v5, v6, v7], tmps.getD 5 undef, tmps.getD 6 undef]) W := by
  have c0 := hb.cell 0
  have c1 := hb.cell 1
  have c2 := hb.cell 2
  have c3 := hb.cell 3
  have c4 := hb.cell 4
  have c5 := hb.cell 5
  have c6 := hb.cell 6
  have c7 := hb.cell 7
  simp at c0 c1 c2 c3 c4 c5 c6 c7
  have hp' := hp
  simp at hp'
  simp [results, h, hp', go_sem, c0, c1, c2, c3, c4, c5, c6, c7]

theorem Blk.set8 {w : World} {B : Nat} {T : TypeId} {a0 a1 a2 a3 a4 a5 a6 a7 : Value} (h : Blk w B T #[a0, a1, a2, a3, a4, a5, a6, a7]) (v0 v1 v2 v3 v4 v5 v6 v7 : Value) :
    Blk ((((((((w.setCell ⟨B, 0, none⟩ v0).setCell ⟨B, 1, none⟩ v1).setCell ⟨B, 2, none⟩ v2).setCell ⟨B, 3, none⟩ v3).setCell ⟨B, 4, none⟩ v4).setCell ⟨B, 5, none⟩ v5).setCell ⟨B, 6, none⟩ v6).setCell ⟨B, 7, none⟩ v7) B T #[v0, v1, v2, v3, v4, v5, v6, v7] := by
  have e : ((((((((#[a0, a1, a2, a3, a4, a5, a6, a7] : Array Value).setIfInBounds 0 v0).setIfInBounds 1 v1).setIfInBounds 2 v2).setIfInBounds 3 v3).setIfInBounds 4 v4).setIfInBounds 5 v5).setIfInBounds 6 v6).setIfInBounds 7 v7 = #[v0, v1, v2, v3, v4, v5, v6, v7] := by simp
  rw [← e]
  exact (((((((h.set_ 0 v0).set_ 1 v1).set_ 2 v2).set_ 3 v3).set_ 4 v4).set_ 5 v5).set_ 6 v6).set_ 7 v7

theorem below8 {w0 w : World} {B N : Nat} (h : Below N w0 w) (hB : N ≤ B) (v0 v1 v2 v3 v4 v5 v6 v7 : Value) :
    Below N w0 ((((((((w.setCell ⟨B, 0, none⟩ v0).setCell ⟨B, 1, none⟩ v1).setCell ⟨B, 2, none⟩ v2).setCell ⟨B, 3, none⟩ v3).setCell ⟨B, 4, none⟩ v4).setCell ⟨B, 5, none⟩ v5).setCell ⟨B, 6, none⟩ v6).setCell ⟨B, 7, none⟩ v7) :=
  (((((((h.setCell hB v0).setCell hB v1).setCell hB v2).setCell hB v3).setCell hB v4).setCell hB v5).setCell hB v6).setCell hB v7

theorem Blk.cells8 {w : World} {B : Nat} {T : TypeId} {a0 a1 a2 a3 a4 a5 a6 a7 : Value} (h : Blk w B T #[a0, a1, a2, a3, a4, a5, a6, a7]) :
    (w.cell? ⟨B, 0, none⟩ = some a0 ∧ w.cell? ⟨B, 1, none⟩ = some a1 ∧ w.cell? ⟨B, 2, none⟩ = some a2 ∧ w.cell? ⟨B, 3, none⟩ = some a3 ∧ w.cell? ⟨B, 4, none⟩ = some a4 ∧ w.cell? ⟨B, 5, none⟩ = some a5 ∧ w.cell? ⟨B, 6, none⟩ = some a6 ∧ w.cell? ⟨B, 7, none⟩ = some a7) ∧
    (w.frozen? ⟨B, 0, none⟩ = false ∧ w.frozen? ⟨B, 1, none⟩ = false ∧ w.frozen? ⟨B, 2, none⟩ = false ∧ w.frozen? ⟨B, 3, none⟩ = false ∧ w.frozen? ⟨B, 4, none⟩ = false ∧ w.frozen? ⟨B, 5, none⟩ = false ∧ w.frozen? ⟨B, 6, none⟩ = false ∧ w.frozen? ⟨B, 7, none⟩ = false) :=
  ⟨⟨h.cell 0, h.cell 1, h.cell 2, h.cell 3, h.cell 4, h.cell 5, h.cell 6, h.cell 7⟩, h.frozen 0, h.frozen 1, h.frozen 2, h.frozen 3, h.frozen 4, h.frozen 5, h.frozen 6, h.frozen 7⟩

/-- A row of bytes, as values. -/
def uVals (l : List UInt8) : List Value := l.map fun c => .int .u8 ((c.toNat : Nat) : Int)
theorem uVals_snoc (l : List UInt8) (c : UInt8) : uVals l ++ [.int .u8 ((c.toNat : Nat) : Int)] = uVals (l ++ [c]) := by simp [uVals]
theorem uVals_app (l m : List UInt8) : uVals l ++ uVals m = uVals (l ++ m) := by simp [uVals]

theorem conv_own {w : World} {base : Nat} {A : Option Addr} {n c : Nat} {l : List UInt8} (h : w.ownsRow base 5 1 (.slice A n c) n (uVals l)) :
    (convert 22 9 (.slice A n c)).run Try.prog w = .ok (.string ⟨l.toArray⟩) w := by
  have hn := h.1
  simp [uVals] at hn
  obtain ⟨A', c', e, HR, _, _⟩ := own_reads h
  injection e with e1 _ e2
  subst e1 e2
  rcases Nat.eq_zero_or_pos n with h0 | h0
  · subst h0
    obtain rfl : l = [] := List.eq_nil_of_length_eq_zero hn
    cases A with
    | none =>
      rw [run_convert_bytes_nil (P := Try.prog) w 22 5 Try.underlying22 Try.underlying5 0 c 9 Try.underlying9]
      rfl
    | some a => exact run_convert_bytes_back (P := Try.prog) w 22 9 5 a c [] Try.underlying22 Try.underlying5 Try.underlying9 (fun j hj => absurd hj (by simp))
  · obtain ⟨ad, rfl, _, hc⟩ := HR.2 h0
    subst hn
    exact run_convert_bytes_back (P := Try.prog) w 22 9 5 ad c l Try.underlying22 Try.underlying5 Try.underlying9 (fun j hj => hc j _ (by simp [uVals, hj]))

theorem lx_info : (Try.prog.info? 5).map (fun i => (i.zero, i.size, i.bytes)) = some (some (.int .u8 0), 1, 1) := by kernel_rfl

theorem one_ok {s : ByteArray} {k m : Nat} {b : UInt8} (w : World) (hs : s.size ≤ maxLen) (hk : k ≤ s.size) (h : oneL (sf s k) = (0, b, m)) :
    Calls Try.prog 55 #[.string s, .int .i64 k] w fun e w' => e = .returned (.tuple #[.int .u8 ((b.toNat : Nat) : Int), .int .i64 ((k + m : Nat) : Int), .int .i64 0]) ∧ w = w' := by
  have := one_any s k w hs hk
  rw [h] at this
  refine this.mono fun e w' ⟨h1, h2⟩ => ⟨h1, h2⟩

theorem one_er {s : ByteArray} {k : Nat} (w : World) (hs : s.size ≤ maxLen) (hk : k ≤ s.size) (h : (oneL (sf s k)).1 ≠ 0) :
    Calls Try.prog 55 #[.string s, .int .i64 k] w fun e w' => e = .returned (.tuple #[.int .u8 (((oneL (sf s k)).2.1.toNat : Nat) : Int), .int .i64 0, .int .i64 (oneL (sf s k)).1]) ∧ w = w' := by
  refine (one_any s k w hs hk).mono fun e w' ⟨h1, h2⟩ => ⟨?_, h2⟩
  rw [h1]
  unfold plc
  rw [if_neg h]

theorem tkn_bad {n k : Nat} {w w' : World} {x : Int} (hx : x ≠ 0) (hb : Below w.heap.size w w') :
    Tkn (x, tk0, n) k w (.returned (.tuple #[.agg #[.int .i64 0, .string ⟨#[]⟩, .int .u64 0, .int .u64 0, .int .u64 0, .int .u64 0, .int .i64 0, .int .i64 0], .int .i64 0, .int .i64 x])) w' := tkn_no hx hb

end Go.Proofs.Ytbjgkolldmplkaa
