/- As Hold, with two operations that may come in either order. -/
import Derived.Test.YtbjgkolldmplkaaDoorHold
namespace Go.Proofs.YtbjgkolldmplkaaDoor
open Go.RowKit Go.Sort

section
variable {P : Program} {ops : Array Oper} {md : Region.Mode} {S : World → Prop} {Q : Exit → Act → World → Prop}

/-- Two that may come in either order, then the tail. -/
def pairB (md : Region.Mode) (ops : Array Oper) (n g i j : Nat) (listed : Array Bool) : Bool :=
  decide (Region.ready md ops listed = [i, j]) && decide (i < n) && decide (j < n) && forcedB md ops n g [j] (listed.setIfInBounds i true) && forcedB md ops n g [i] (listed.setIfInBounds j true)

theorem headH_pair {n g i j : Nat} {tail : List Oper} {oi oj : Oper} (hL : (ops.toList.drop n) = tail) (hi : ops[i]? = some oi) (hj : ops[j]? = some oj) (listed : Array Bool) (a : Act) (w : World) (hB : pairB md ops n g i j listed = true)
    (h1 : wpForce P ops S Q tail [oi, oj] a w) (h2 : wpForce P ops S Q tail [oj, oi] a w) :
    headH P md ops Q S n (fun listed' a' w' => Region.seqB md ops g n listed' = true ∧ wpList P ops Q tail a' w') 2 listed a w := by
  simp only [pairB, Bool.and_eq_true, decide_eq_true_eq] at hB
  obtain ⟨⟨⟨⟨hr, hin⟩, hjn⟩, hB1⟩, hB2⟩ := hB
  refine ⟨by rw [hr]; simp, fun x hx => ?_⟩
  rw [hr] at hx
  have hx2 : x = i ∨ x = j := by simpa using hx
  rcases hx2 with rfl | rfl
  · refine ⟨hin, ?_⟩
    unfold wpForce at h1
    unfold wpOp
    simp only [hi]
    split
    · rename_i hw
      rw [if_pos hw] at h1
      exact .inl (Oper.wp_mono (fun a' w' h' => ⟨h'.1, headH_force hL [j] [oj] _ a' w' (by simp [hj]) hB1 h'.2⟩) h1)
    · rename_i hw
      rw [if_neg hw] at h1
      exact ⟨h1.1, headH_force hL [j] [oj] _ _ w (by simp [hj]) hB1 h1.2⟩
  · refine ⟨hjn, ?_⟩
    unfold wpForce at h2
    unfold wpOp
    simp only [hj]
    split
    · rename_i hw
      rw [if_pos hw] at h2
      exact .inl (Oper.wp_mono (fun a' w' h' => ⟨h'.1, headH_force hL [i] [oi] _ a' w' (by simp [hi]) hB2 h'.2⟩) h2)
    · rename_i hw
      rw [if_neg hw] at h2
      exact ⟨h2.1, headH_force hL [i] [oi] _ _ w (by simp [hi]) hB2 h2.2⟩

def hold2B (md : Region.Mode) (ops : Array Oper) (n : Nat) (qs : List Nat) (i j : Nat) : Bool :=
  Region.noSelect ops && decide (n < ops.size) && Region.sinkB md ops n && Region.chainB md ops n && takesB md ops n qs (Array.replicate ops.size false) &&
    pairB md ops n (ops.size - n) i j (listedBy qs (Array.replicate ops.size false))

theorem wp_region_hold2 {id : Nat} {a : Act} {w : World} {l : List Oper} (S : World → Prop) (n : Nat) (qs : List Nat) (i j : Nat) (lq : List Oper) (oi oj : Oper) (hm : P.follows .mixedOrders = true) (hB : hold2B .any l.toArray n qs i j = true)
    (hlen : qs.length + 2 = n) (hq : qs.map (fun i => l.toArray[i]?) = lq.map some) (hi : l.toArray[i]? = some oi) (hj : l.toArray[j]? = some oj)
    (hQ : ∀ c a d v w, Q (.panic c) (a.put d v) w → Q (.panic c) a w) (hS : S w.drew)
    (h : wpQuiet P l.toArray S (fun a' => wpForce P l.toArray S Q (l.drop n) [oi, oj] a' w.drew ∧ wpForce P l.toArray S Q (l.drop n) [oj, oi] a' w.drew) lq a) : (Code.region id l.toArray true).wp P Q a w := by
  simp only [hold2B, Bool.and_eq_true, decide_eq_true_eq] at hB
  obtain ⟨⟨⟨⟨⟨hsel, hn⟩, hs⟩, hc⟩, htk⟩, hfc⟩ := hB
  have hdl : (l.drop n).length = l.toArray.size - n := by simp
  have inv0 : HeadInv .any l.toArray n (Array.replicate l.toArray.size false) :=
    ⟨by simp, fun j oj _ hl => (by rw [getD_replicate_false] at hl; cases hl), fun t _ ht => getD_in (by simpa using ht) (getD_replicate_false _ _)⟩
  have H := headH_take (P := P) (S := S) (md := .any) (g := l.toArray.size - n) (tail := l.drop n) (m := 2) hsel hs hc hn hQ hS (fun a' ha' => headH_pair rfl hi hj _ a' _ hfc ha'.1 ha'.2) qs lq _ a hq inv0 htk rfl h
  refine wp_region_any hm ?_
  have := any_of_headH (P := P) (S := S) (g := l.toArray.size - n) (fun listed a' w' hL => by
    have := wpAny_of_seq (md := .any) (Q' := Q) (l.drop n) n listed a' w' (fun j => by simp [List.getElem?_drop]) (by rw [hdl]; exact hL.1) hL.2
    rwa [hdl] at this) _ _ _ _ H
  have hn' : n < l.toArray.size := hn
  rw [hlen, show n + (l.toArray.size - n) = l.toArray.size by omega] at this
  exact this

/-- The same, at the worlds in which nothing that was there has turned. -/
theorem wp_region_hold2_below {id : Nat} {a : Act} {w : World} {l : List Oper} (n : Nat) (qs : List Nat) (i j : Nat) (oi oj : Oper) (hm : P.follows .mixedOrders = true) (hB : hold2B .any l.toArray n qs i j = true)
    (hlen : qs.length + 2 = n) (hin : (qs.all fun i => decide (i < l.length)) = true) (hi : l.toArray[i]? = some oi) (hj : l.toArray[j]? = some oj)
    (h : wpQuiet P l.toArray (fun w' => ∃ p : Regrown, w' = grow (redrawn w p.d) p.os) (fun a' => wpForce P l.toArray (fun w' => ∃ p : Regrown, w' = grow (redrawn w p.d) p.os) (NoPanic Q) (l.drop n) [oi, oj] a' w.drew ∧ wpForce P l.toArray (fun w' => ∃ p : Regrown, w' = grow (redrawn w p.d) p.os) (NoPanic Q) (l.drop n) [oj, oi] a' w.drew) (pickOps l qs) a) :
    (Code.region id l.toArray true).wp P Q a w := by
  refine wp_region_noPanic ?_
  exact wp_region_hold2 (fun w' => ∃ p : Regrown, w' = grow (redrawn w p.d) p.os) n qs i j _ oi oj hm hB hlen (pickOps_map l qs hin) hi hj (fun _ _ _ _ _ h => h) ⟨⟨w.drawn + 1, #[]⟩, by rw [grow_empty]; rfl⟩ h
end

end Go.Proofs.YtbjgkolldmplkaaDoor
