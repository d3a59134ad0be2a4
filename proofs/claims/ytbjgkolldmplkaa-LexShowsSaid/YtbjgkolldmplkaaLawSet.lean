/- Arguments that are sets, bytes, rows of bytes: what they read as. -/
import Derived.Test.YtbjgkolldmplkaaLaw
import Derived.Test.YtbjgkolldmplkaaSet2
import Derived.Laws.IdiomArrays
import Derived.OpenShut
namespace Go.Proofs.Ytbjgkolldmplkaa
open Go.ChangeShapes Go.WideShapes Go.ChangeAt Go.RowKit

section
variable {H : Type} {enc : TypeId × Value → H} {P : Program}

theorem wf_u8 {n : Int} (h : (Lit.int .u8 n).wf = true) : 0 ≤ n ∧ n < 256 := by
  have := bounds_u8 h
  omega

theorem wf_u64 {n : Int} (h : (Lit.int .u64 n).wf = true) : 0 ≤ n ∧ n < 18446744073709551616 := by
  have := bounds_u64 h
  omega

theorem open_byte {r : Reach} {b : Nat} {t : TypeId} {W : World} {v : Value} {d : DataW H} {ps : List MemPlace} {sp : Nat → Bool} {held : Bool} {base : Nat} (ht : P.underlying t = some (.int .u8))
    (hval : Value.okWide P W r b t v) (hd : DataW.Trod enc P W base sp held t v d ps) : ∃ n : Nat, v = .int .u8 ((n : Nat) : Int) ∧ n < 256 := by
  obtain ⟨n, rfl, rfl, rfl, hw⟩ := open_int ht hval hd
  obtain ⟨h0, h1⟩ := wf_u8 hw
  obtain ⟨k, rfl⟩ := Int.eq_ofNat_of_zero_le h0
  exact ⟨k, rfl, by omega⟩

theorem open_word {e : TypeId} {W : World} {base fuel : Nat} {sp : Nat → Bool} {held : Bool} {c : Value} {y : DataW H × List MemPlace} (he : P.underlying e = some (.int .u64)) (h : DataW.trod enc P W base sp held fuel e [c] = some y) :
    ∃ n : Nat, c = .int .u64 ((n : Nat) : Int) ∧ n < 18446744073709551616 := by
  obtain ⟨n, h1, _, hw⟩ := DataW.trod_int he h
  simp at h1
  subst h1
  obtain ⟨h0, h2⟩ := wf_u64 hw
  obtain ⟨k, rfl⟩ := Int.eq_ofNat_of_zero_le h0
  exact ⟨k, rfl, by omega⟩

/-- The set of four numbers. -/
def sWords (a b c d : Nat) : Nat → Bool := fun x => if x < 64 then a.testBit x else if x < 128 then b.testBit (x - 64) else if x < 192 then c.testBit (x - 128) else d.testBit (x - 192)

theorem sWords_word (a b c d : Nat) (ha : a < 18446744073709551616) (hb : b < 18446744073709551616) (hc : c < 18446744073709551616) (hd : d < 18446744073709551616) :
    word (sWords a b c d) 0 = a ∧ word (sWords a b c d) 1 = b ∧ word (sWords a b c d) 2 = c ∧ word (sWords a b c d) 3 = d := by
  refine ⟨word_of a ha _ 0 fun k hk => ?_, word_of b hb _ 1 fun k hk => ?_, word_of c hc _ 2 fun k hk => ?_, word_of d hd _ 3 fun k hk => ?_⟩
  · unfold sWords; rw [if_pos (by omega), show 64 * 0 + k = k by omega]
  · unfold sWords; rw [if_neg (by omega), if_pos (by omega), show 64 * 1 + k - 64 = k by omega]
  · unfold sWords; rw [if_neg (by omega), if_neg (by omega), if_pos (by omega), show 64 * 2 + k - 128 = k by omega]
  · unfold sWords; rw [if_neg (by omega), if_neg (by omega), if_neg (by omega), show 64 * 3 + k - 192 = k by omega]

theorem open_set {r : Reach} {b : Nat} {t e : TypeId} {W : World} {v : Value} {d : DataW H} {ps : List MemPlace} {sp : Nat → Bool} {held : Bool} {base : Nat} (ht : P.underlying t = some (.array 4 e)) (he : P.underlying e = some (.int .u64)) (hce : P.cellsOf e = 1) (hC : P.cellsOf t = 4)
    (hval : Value.okWide P W r b t v) (hd : DataW.Trod enc P W base sp held t v d ps) : ∃ m : Nat → Bool, v = .agg #[.int .u64 ((word m 0 : Nat) : Int), .int .u64 ((word m 1 : Nat) : Int), .int .u64 ((word m 2 : Nat) : Int), .int .u64 ((word m 3 : Nat) : Int)] := by
  have hv : ∃ cs, v = .agg cs ∧ cs.size = P.cellsOf t := by
    simp only [Value.okWide, ht] at hval
    obtain ⟨cs, h1, h2, _⟩ := hval
    exact ⟨cs, h1, h2⟩
  obtain ⟨cs, rfl, hsz⟩ := hv
  obtain ⟨l⟩ := cs
  match l, hsz.trans hC with
  | [c0, c1, c2, c3], _ =>
    obtain ⟨fuel, hf⟩ := hd
    obtain ⟨y0, y1, y2, y3, n, _, h0, h1, h2, h3⟩ := trod_array4 ht hce (show DataW.trod enc P W base sp held fuel t [c0, c1, c2, c3] = some (d, ps) from hf)
    obtain ⟨a0, rfl, l0⟩ := open_word he h0
    obtain ⟨a1, rfl, l1⟩ := open_word he h1
    obtain ⟨a2, rfl, l2⟩ := open_word he h2
    obtain ⟨a3, rfl, l3⟩ := open_word he h3
    obtain ⟨e0, e1, e2, e3⟩ := sWords_word a0 a1 a2 a3 l0 l1 l2 l3
    exact ⟨sWords a0 a1 a2 a3, by rw [e0, e1, e2, e3]⟩

/-- An argument that is a row of bytes. -/
theorem open_bytes {r : Reach} {b : Nat} {t e : TypeId} {W : World} {v : Value} {d : DataW H} {ps : List MemPlace} (ht : P.underlying t = some (.slice e)) (he : P.underlying e = some (.int .u8)) (hc : P.cellsOf e = 1)
    (hval : Value.okWide P W r b t v) (hd : DataW.Trod enc P W 0 (fun _ => true) true t v d ps) (hlt : ∀ x ∈ ps, x.block < W.heap.size) :
    ∃ (A : Option Addr) (c : Nat) (l : List Nat), v = .slice A l.length c ∧ Reads W W.heap.size 1 A l.length (byteVals l) ∧ l.length ≤ c ∧ c ≤ maxLen ∧ ∀ x ∈ l, x < 256 := by
  obtain ⟨a0, len, cap, rfl⟩ := okWide_slice ht hval
  obtain ⟨fuel, hf⟩ := hd
  rcases open_ints ht he hc hf with ⟨hcs, hx⟩ | ⟨a, len', cap', zs, hcs, _, hl, hm, hz, hx, hcell, hws⟩
  · simp [Value.cells] at hcs
    obtain ⟨rfl, rfl, rfl⟩ := hcs
    exact ⟨none, 0, [], rfl, Reads.none_, Nat.le_refl _, Nat.zero_le _, by simp⟩
  · simp [Value.cells] at hcs
    obtain ⟨rfl, rfl, rfl⟩ := hcs
    simp only [if_true] at hz
    simp only [Prod.mk.injEq] at hx
    obtain ⟨rfl, rfl⟩ := hx
    have hlen : ((zs.take len).map Int.toNat).length = len := by rw [List.length_map, List.length_take]; omega
    refine ⟨some a, cap, (zs.take len).map Int.toNat, by rw [hlen], ⟨by simp [byteVals], fun h0 => ⟨a, rfl, row_block hlt (by omega), fun j u hu => ?_⟩⟩, by omega, hm, fun x hx => ?_⟩
    · have hj : j < len := by
        have := (List.getElem?_eq_some_iff.1 hu).1
        simp [byteVals] at this; omega
      rw [hcell j (by omega)]
      have hjz : j < zs.length := by omega
      have hw := wf_u8 (hws zs[j] (List.getElem_mem hjz))
      simp only [byteVals, List.getElem?_map, List.getElem?_take, hj, if_true, List.getElem?_eq_getElem hjz, Option.map_some, Option.some.injEq] at hu
      rw [← hu, List.getD_eq_getElem?_getD, List.getElem?_eq_getElem hjz]
      simp only [Option.getD_some]
      congr 2
      omega
    · obtain ⟨z, hz1, rfl⟩ := List.mem_map.1 hx
      have := wf_u8 (hws z (List.mem_of_mem_take hz1))
      omega
end

end Go.Proofs.Ytbjgkolldmplkaa
