/- Arguments that are rows of sets, or of numbers: what they read as. -/
import Derived.Test.YtbjgkolldmplkaaDoorLawSet
import Derived.Test.YtbjgkolldmplkaaDoorSetsF
import Derived.Deep.Slices
namespace Go.Proofs.YtbjgkolldmplkaaDoor
open Go.ChangeShapes Go.WideShapes Go.ChangeAt Go.RowKit Go.Deep

theorem setVals_at (l : List (Nat → Bool)) (q : Nat) (u : Value) (h : (setVals l)[q]? = some u) : ∃ hk : q / 4 < l.length, u = .int .u64 ((word l[q / 4] (q % 4) : Nat) : Int) := by
  have hlen : q < (setVals l).length := (List.getElem?_eq_some_iff.1 h).1
  rw [setVals_length] at hlen
  have hk : q / 4 < l.length := by omega
  refine ⟨hk, ?_⟩
  have h1 := setVals_get l (q / 4) (q % 4) hk (by omega)
  rw [show q / 4 * 4 + q % 4 = q by omega, h] at h1
  exact Option.some.inj h1

section
variable {H : Type} {enc : TypeId × Value → H} {P : Program}

theorem open_sets {r : Reach} {b : Nat} {t e ti : TypeId} {W : World} {v : Value} {d : DataW H} {ps : List MemPlace} (ht : P.underlying t = some (.slice e)) (he : P.underlying e = some (.array 4 ti)) (hi : P.underlying ti = some (.int .u64)) (hti : P.cellsOf ti = 1) (hC : P.cellsOf e = 4)
    (hval : Value.okWide P W r b t v) (hd : DataW.Trod enc P W 0 (fun _ => true) true t v d ps) (hlt : ∀ x ∈ ps, x.block < W.heap.size) :
    ∃ (A : Option Addr) (c : Nat) (l : List (Nat → Bool)), v = .slice A l.length c ∧ Reads W W.heap.size 4 A l.length (setVals l) ∧ l.length ≤ c ∧ c ≤ maxLen := by
  obtain ⟨a0, len, cap, rfl⟩ := okWide_slice ht hval
  obtain ⟨fuel, hf⟩ := hd
  rcases open_slice ht hf with ⟨hcs, hx⟩ | ⟨a, len', cap', m, n, D, Pl, hcs, _, hl, hm, hmm, hx, hcell⟩
  · simp [Value.cells] at hcs
    obtain ⟨rfl, rfl, rfl⟩ := hcs
    exact ⟨none, 0, [], rfl, Reads.none_, Nat.le_refl _, Nat.zero_le _⟩
  · simp [Value.cells] at hcs
    obtain ⟨rfl, rfl, rfl⟩ := hcs
    simp only [if_true] at hmm
    have hcap : cap = m := hmm.symm
    clear hmm
    subst hcap
    rw [hC] at hx
    simp only [Prod.mk.injEq] at hx
    obtain ⟨rfl, rfl⟩ := hx
    have hz : ∀ i : Nat, ∃ z : Nat → Bool, i < cap → ∀ j, j < 4 → W.cell? (a.add (i * 4 + j)) = some (.int .u64 ((word z j : Nat) : Int)) := fun i => by
      by_cases hic : i < cap
      · obtain ⟨cs', hc, ht'⟩ := hcell i hic
        rw [hC] at hc
        obtain ⟨_, hcl, hat⟩ := World.cells?_some hc
        match cs', hcl, ht', hat with
        | [c0, c1, c2, c3], _, ht', hat =>
          obtain ⟨y0, y1, y2, y3, n, _, h0, h1, h2, h3⟩ := trod_array4 he hti ht'
          obtain ⟨a0, rfl, l0⟩ := open_word hi h0
          obtain ⟨a1, rfl, l1⟩ := open_word hi h1
          obtain ⟨a2, rfl, l2⟩ := open_word hi h2
          obtain ⟨a3, rfl, l3⟩ := open_word hi h3
          obtain ⟨e0, e1, e2, e3⟩ := sWords_word a0 a1 a2 a3 l0 l1 l2 l3
          refine ⟨sWords a0 a1 a2 a3, fun _ j hj => ?_⟩
          have hw := hat j hj
          rw [Go.Deep.add_add] at hw
          rw [hw]
          match j, hj with
          | 0, _ => rw [e0]; rfl
          | 1, _ => rw [e1]; rfl
          | 2, _ => rw [e2]; rfl
          | 3, _ => rw [e3]; rfl
      · exact ⟨sNone, fun h => absurd h hic⟩
    obtain ⟨F, hF⟩ := Classical.axiomOfChoice hz
    have hlen : ((List.range len).map F).length = len := by simp
    refine ⟨some a, cap, (List.range len).map F, by rw [hlen], ⟨by rw [setVals_length], fun h0 => ⟨a, rfl, ?_, fun q u hu => ?_⟩⟩, by omega, hm⟩
    · refine row_block (a := a) (n := cap * 4) (fun x hx => hlt x ?_) (by omega)
      exact List.mem_append_left _ hx
    · obtain ⟨hk, rfl⟩ := setVals_at _ q u hu
      rw [hlen] at hk
      have hc := hF (q / 4) (by omega) (q % 4) (by omega)
      rw [show q / 4 * 4 + q % 4 = q by omega] at hc
      simp only [List.getElem_map, List.getElem_range]
      exact hc

/-- An argument that is a row of numbers. -/
theorem open_nums {r : Reach} {b : Nat} {t e : TypeId} {W : World} {v : Value} {d : DataW H} {ps : List MemPlace} (ht : P.underlying t = some (.slice e)) (he : P.underlying e = some (.int .i64)) (hc : P.cellsOf e = 1)
    (hval : Value.okWide P W r b t v) (hd : DataW.Trod enc P W 0 (fun _ => true) true t v d ps) (hlt : ∀ x ∈ ps, x.block < W.heap.size) :
    ∃ (A : Option Addr) (c : Nat) (l : List Int), v = .slice A l.length c ∧ Reads W W.heap.size 1 A l.length (intVals l) ∧ l.length ≤ c ∧ c ≤ maxLen := by
  obtain ⟨a0, len, cap, rfl⟩ := okWide_slice ht hval
  obtain ⟨fuel, hf⟩ := hd
  rcases open_ints ht he hc hf with ⟨hcs, hx⟩ | ⟨a, len', cap', zs, hcs, _, hl, hm, hz, hx, hcell, hws⟩
  · simp [Value.cells] at hcs
    obtain ⟨rfl, rfl, rfl⟩ := hcs
    exact ⟨none, 0, [], rfl, Reads.none_, Nat.le_refl _, Nat.zero_le _⟩
  · simp [Value.cells] at hcs
    obtain ⟨rfl, rfl, rfl⟩ := hcs
    simp only [if_true] at hz
    simp only [Prod.mk.injEq] at hx
    obtain ⟨rfl, rfl⟩ := hx
    have hlen : (zs.take len).length = len := by rw [List.length_take]; omega
    refine ⟨some a, cap, zs.take len, by rw [hlen], ⟨by simp [intVals], fun h0 => ⟨a, rfl, row_block hlt (by omega), fun j u hu => ?_⟩⟩, by omega, hm⟩
    have hj : j < len := by
      have := (List.getElem?_eq_some_iff.1 hu).1
      simp [intVals] at this; omega
    rw [hcell j (by omega)]
    have hjz : j < zs.length := by omega
    simp only [intVals, List.getElem?_map, List.getElem?_take, hj, if_true, List.getElem?_eq_getElem hjz, Option.map_some, Option.some.injEq] at hu
    rw [← hu, List.getD_eq_getElem?_getD, List.getElem?_eq_getElem hjz]
    rfl
end

end Go.Proofs.YtbjgkolldmplkaaDoor
