/- Arguments that are rows of spans: what they read as. 'open_slice_fields' is a worked lemma of the guide's page 'extra-structs'. -/
import Derived.Test.YtgaboipigdkefaaLawSpan
namespace Go.Proofs.Ytgaboipigdkefaa
open Go.ChangeShapes Go.WideShapes Go.ChangeAt Go.RowKit Go.Joins Go.Deep

section
variable {H : Type} {enc : TypeId × Value → H} {P : Program} {w : World} {base : Nat} {spare : Nat → Bool} {held : Bool}
theorem open_slice_fields {t e : TypeId} {fs : Array Field} {fuel : Nat} {cs : List Value} {x : DataW H × List MemPlace} (ht : P.underlying t = some (.slice e)) (he : P.underlying e = some (.struct fs))
    (hone : oneCellFields P fs = true) (hC : P.cellsOf e = fs.size) (h : DataW.trod enc P w base spare held fuel t cs = some x) :
    (cs = [.slice none 0 0] ∧ x = (.nil, [])) ∨
    ∃ (a : Addr) (len cap m : Nat) (D : Nat → DataW H) (Pl : Nat → List MemPlace), cs = [.slice (some a) len cap] ∧ base ≤ a.block ∧ len ≤ cap ∧ cap ≤ maxLen ∧ m = (if spare a.block then cap else len) ∧
      x = (.slice ((List.range len).map D) ((List.range (m - len)).map fun j => D (len + j)), MemPlace.row a (m * fs.size) ++ (List.range m).flatMap Pl) ∧
      ∀ i, i < m → ∃ (ys : List (DataW H × List MemPlace)) (n : Nat), D i = .agg (ys.map (·.1)) ∧ Pl i = ys.flatMap (·.2) ∧ ys.length = fs.size ∧
        ∀ (j : Nat) (f : Field), fs[j]? = some f → ∃ (v : Value) (y : DataW H × List MemPlace), w.cell? (a.add (i * fs.size + j)) = some v ∧ ys[j]? = some y ∧ DataW.trod enc P w base spare held n f.type [v] = some y := by
  rcases open_slice ht h with h0 | ⟨a, len, cap, m, n, D, Pl, hcs, hb, hl, hm, hmm, hx, hi⟩
  · exact .inl h0
  · refine .inr ⟨a, len, cap, m, D, Pl, hcs, hb, hl, hm, hmm, by rw [hC] at hx; exact hx, fun i him => ?_⟩
    obtain ⟨cs', hc, ht'⟩ := hi i him
    rw [hC] at hc
    obtain ⟨ys, n', hn', hy, hlen, hyl, hf⟩ := DataW.trod_struct he ht'
    obtain ⟨_, hcl, hat⟩ := World.cells?_some hc
    simp only [Prod.mk.injEq] at hy
    refine ⟨ys, n', hy.1, hy.2, hyl, fun j f hj => ?_⟩
    obtain ⟨ho, hk⟩ := hone_of hone j f hj
    have hjl : j < fs.size := (Array.getElem?_eq_some_iff.1 hj).1
    have hcell := hat j hjl
    have hv : cs'[j]? = some (cs'[j]'(by omega)) := List.getElem?_eq_getElem (by omega)
    have h1 := hf j f hj
    rw [ho, hk] at h1
    have hone' : (cs'.drop j).take 1 = [cs'[j]'(by omega)] := by
      rw [List.drop_eq_getElem_cons (by omega)]
      rfl
    rw [hone'] at h1
    have hys : ys[j]? = some (ys[j]'(by omega)) := List.getElem?_eq_getElem (by omega)
    refine ⟨_, _, ?_, hys, h1.trans hys⟩
    rw [← Go.Deep.add_add, hcell, hv]
end

theorem spanVals_at (l : List (Int × Int)) (q : Nat) (u : Value) (h : (spanVals l)[q]? = some u) : ∃ hk : q / 2 < l.length, u = .int .i64 (if q % 2 = 0 then l[q / 2].1 else l[q / 2].2) := by
  have hlen : q < (spanVals l).length := (List.getElem?_eq_some_iff.1 h).1
  rw [spanVals_length] at hlen
  have hk : q / 2 < l.length := by omega
  refine ⟨hk, ?_⟩
  obtain ⟨h1, h2⟩ := spanVals_get l (q / 2) hk
  rcases Nat.lt_or_ge (q % 2) 1 with h3 | h3
  · rw [show q / 2 * 2 = q by omega, h] at h1
    rw [if_pos (by omega)]
    exact Option.some.inj h1
  · rw [show q / 2 * 2 + 1 = q by omega, h] at h2
    rw [if_neg (by omega)]
    exact Option.some.inj h2

section
variable {H : Type} {enc : TypeId × Value → H} {P : Program}

theorem open_spans {r : Reach} {b : Nat} {t e ti : TypeId} {f0 f1 : Field} {W : World} {v : Value} {d : DataW H} {ps : List MemPlace} (ht : P.underlying t = some (.slice e)) (he : P.underlying e = some (.struct #[f0, f1])) (hi : P.underlying ti = some (.int .i64)) (h01 : f0.type = ti ∧ f1.type = ti)
    (hone : oneCellFields P #[f0, f1] = true) (hC : P.cellsOf e = 2)
    (hval : Value.okWide P W r b t v) (hd : DataW.Trod enc P W 0 (fun _ => true) true t v d ps) (hlt : ∀ x ∈ ps, x.block < W.heap.size) :
    ∃ (A : Option Addr) (c : Nat) (l : List (Int × Int)), v = .slice A l.length c ∧ Reads W W.heap.size 2 A l.length (spanVals l) ∧ l.length ≤ c ∧ c ≤ maxLen := by
  obtain ⟨a0, len, cap, rfl⟩ := okWide_slice ht hval
  obtain ⟨fuel, hf⟩ := hd
  rcases open_slice_fields ht he hone hC hf with ⟨hcs, hx⟩ | ⟨a, len', cap', m, D, Pl, hcs, _, hl, hm, hmm, hx, hcell⟩
  · simp [Value.cells] at hcs
    obtain ⟨rfl, rfl, rfl⟩ := hcs
    exact ⟨none, 0, [], rfl, Reads.none_, Nat.le_refl _, Nat.zero_le _⟩
  · simp [Value.cells] at hcs
    obtain ⟨rfl, rfl, rfl⟩ := hcs
    simp only [if_true] at hmm
    have hcap : cap = m := hmm.symm
    clear hmm
    subst hcap
    simp only [Prod.mk.injEq] at hx
    obtain ⟨rfl, rfl⟩ := hx
    have hz : ∀ i : Nat, ∃ z : Int × Int, i < cap → W.cell? (a.add (i * 2)) = some (.int .i64 z.1) ∧ W.cell? (a.add (i * 2 + 1)) = some (.int .i64 z.2) := fun i => by
      by_cases hic : i < cap
      · obtain ⟨ys, n, _, _, _, hfs⟩ := hcell i hic
        obtain ⟨v0, y0, e0, _, t0⟩ := hfs 0 f0 rfl
        obtain ⟨v1, y1, e1, _, t1⟩ := hfs 1 f1 rfl
        rw [h01.1] at t0
        rw [h01.2] at t1
        obtain ⟨z0, q0, _, _⟩ := DataW.trod_int hi t0
        obtain ⟨z1, q1, _, _⟩ := DataW.trod_int hi t1
        simp at q0 q1
        subst q0 q1
        exact ⟨(z0, z1), fun _ => ⟨e0, e1⟩⟩
      · exact ⟨(0, 0), fun h => absurd h hic⟩
    obtain ⟨F, hF⟩ := Classical.axiomOfChoice hz
    have hlen : ((List.range len).map F).length = len := by simp
    refine ⟨some a, cap, (List.range len).map F, by rw [hlen], ⟨by rw [spanVals_length], fun h0 => ⟨a, rfl, ?_, fun q u hu => ?_⟩⟩, by omega, hm⟩
    · refine row_block (a := a) (n := cap * 2) (fun x hx => hlt x ?_) (by omega)
      exact List.mem_append_left _ hx
    · obtain ⟨hk, rfl⟩ := spanVals_at _ q u hu
      rw [hlen] at hk
      obtain ⟨c0, c1⟩ := hF (q / 2) (by omega)
      simp only [List.getElem_map, List.getElem_range]
      split
      · rename_i h2
        have e2 : q = q / 2 * 2 := by omega
        rw [← c0, ← e2]
      · rename_i h2
        have e2 : q = q / 2 * 2 + 1 := by omega
        rw [← c1, ← e2]
end

end Go.Proofs.Ytgaboipigdkefaa
