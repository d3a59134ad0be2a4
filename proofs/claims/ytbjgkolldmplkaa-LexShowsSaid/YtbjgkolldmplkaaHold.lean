/- A region that draws its order: operations that only read, taken first in an order of the prover's; operations that come one behind the other and keep a condition on the world; a tail that need not keep it. After the library's laws on held regions and on still regions with a tail. -/
import Derived.Test.YtbjgkolldmplkaaTail
import Derived.OrdersHeld
import Derived.Deep.RegionHeld3
namespace Go.Proofs.Ytbjgkolldmplkaa
open Go.RowKit Go.Sort

/-- It yields a value and leaves the world, or it halts. -/
def pureOp : Op → Bool
  | .move _ | .assign _ | .load _ _ | .build _ _ | .binOp _ _ _ _ _ | .unOp _ _ _ | .convert _ _ _ | .fieldAddr _ _ _ | .field _ _ _ | .indexAddr _ _ _ | .index _ _ _ | .extract _ _ => true
  | _ => false

theorem run_value {P : Program} (s : Sem Value) (w : World) : ((do pure (Next.value (← s))) : Sem Next).run P w = (s.run P w).andThen fun x w' => .ok (.value x) w' := by
  simp only [Sem.run_bind, Sem.run_pure]

theorem pure_value {P : Program} {o : Oper} (hp : pureOp o.op = true) (e : Operand → Value) (w w' : World) (r : Next) (h : (execOp e o).run P w = .ok r w') : ∃ v, r = .value v := by
  have key : ∀ s : Sem Value, ((do pure (Next.value (← s))) : Sem Next).run P w = .ok r w' → ∃ v, r = .value v := fun s hs => by
    rw [run_value] at hs
    cases hr : s.run P w with
    | ok x w1 =>
      rw [hr] at hs
      simp only [Result.andThen_ok, Result.ok.injEq] at hs
      exact ⟨x, hs.1.symm⟩
    | halt x w1 =>
      rw [hr] at hs
      simp [Result.andThen] at hs
  have key2 : ∀ u : Value, ((pure (Next.value u)) : Sem Next).run P w = .ok r w' → ∃ v, r = .value v := fun u hu => by
    simp only [Sem.run_pure, Result.ok.injEq] at hu
    exact ⟨_, hu.1.symm⟩
  unfold execOp at h
  cases ho : o.op <;> rw [ho] at hp h <;> first | exact key2 _ h | exact key _ h | (exfalso; revert hp; simp [pureOp]; done)

section
variable {P : Program} {ops : Array Oper} {md : Region.Mode} {S : World → Prop}

theorem yieldsIf_of_quiet {o : Oper} {v : Value} {a : Act} (hp : pureOp o.op = true) (h : YieldsIn P ops S o v a) : YieldsIf P ops S o v a := by
  rcases h with ⟨hw, hq⟩ | h
  · refine .inl ⟨hw, fun w hS => ?_⟩
    have h1 := hq w hS
    unfold Oper.quietAt at h1
    cases hr : (execOp a.eval o).run P w with
    | ok r w' =>
      obtain ⟨u, rfl⟩ := pure_value hp _ _ _ _ hr
      rw [hr] at h1
      simp only [Oper.quietUpon] at h1
      rw [h1.1, h1.2]
    | halt x w' =>
      rw [hr] at h1
      simp only [Oper.quietUpon] at h1
  · exact .inr h

/-- The head, in whatever order, S behind each of its operations; behind f of them L. -/
def headH (P : Program) (md : Region.Mode) (ops : Array Oper) (Q : Exit → Act → World → Prop) (S : World → Prop) (n : Nat) (L : Array Bool → Act → World → Prop) : Nat → Array Bool → Act → World → Prop
  | 0 => L
  | f + 1 => fun listed a w => Region.ready md ops listed ≠ [] ∧ ∀ i ∈ Region.ready md ops listed, i < n ∧ wpOp P ops Q i (fun a' w' => S w' ∧ headH P md ops Q S n L f (listed.setIfInBounds i true) a' w') a w

variable {Q : Exit → Act → World → Prop}

theorem any_of_headH {n g : Nat} {L : Array Bool → Act → World → Prop} (hL : ∀ listed a w, L listed a w → wpAny P md ops Q g listed a w) :
    ∀ (f : Nat) (listed : Array Bool) (a : Act) (w : World), headH P md ops Q S n L f listed a w → wpAny P md ops Q (f + g) listed a w
  | 0, _, _, _, h => by rw [Nat.zero_add]; exact hL _ _ _ h
  | f + 1, _, _, _, h => by
    rw [Nat.add_right_comm]
    exact ⟨fun h0 => absurd h0 h.1, fun i hi => wpOp_mono (fun _ _ h' => any_of_headH hL f _ _ _ h'.2) (h.2 i hi).2⟩

theorem headH_first {n i : Nat} {oi : Oper} {v : Value} {L : Array Bool → Act → World → Prop} (hi : ops[i]? = some oi) (hsel : ∀ (j : Nat) (o : Oper) cs b, ops[j]? = some o → o.op ≠ .select cs b)
    (hQ : ∀ c a w, Q (.panic c) (a.put oi.dst v) w → Q (.panic c) a w)
    (hs : Region.sinkB md ops n = true) (hc : Region.chainB md ops n = true) (hn : n < ops.size) (hin : i < n) (hdone : ∀ listed a w, L listed a w → ∀ j ∈ Region.ready md ops listed, n ≤ j) :
    ∀ (f : Nat) (listed : Array Bool) (a : Act) (w : World), HeadInv md ops n listed →
      (∀ j oj, ops[j]? = some oj → j ≠ i → listed.getD j true = false → (∀ e ∈ oj.after, Region.binds md e = true → e.on ≠ i) → oi.apart ops oj = true) →
      i ∈ Region.ready md ops listed → YieldsIf P ops S oi v a → S w →
      headH P md ops Q S n L f (listed.setIfInBounds i true) (a.put oi.dst v) w → headH P md ops Q S n L (f + 1) listed a w
  | f, listed, a, w, inv, hfree, hr, hy, hS, H => by
    have hun := (mem_ready.1 hr).1
    refine ⟨List.ne_nil_of_mem hr, fun j hj => ⟨head_only hs hc hn inv hin hun hj, ?_⟩⟩
    by_cases hji : j = i
    · subst hji
      exact hy.wpOp hi hS ⟨hS, H⟩
    cases f with
    | zero =>
      have h1 := hdone _ _ _ H j (ready_mono hj hji)
      have h2 := head_only hs hc hn inv hin hun hj
      exact absurd h2 (by omega)
    | succ f =>
      obtain ⟨hjun, oj, hoj, hall⟩ := mem_ready.1 hj
      have hnot : ∀ e ∈ oj.after, Region.binds md e = true → e.on ≠ i := fun e he hb heq => by
        have h1 := hall e he hb
        rw [heq, getD_both hun] at h1
        cases h1
      have h2 := wpOp_putIf hoj (hfree j oj hoj hji hjun hnot) (fun cs b => hsel i oi cs b hi) (fun cs b => hsel j oj cs b hoj) hQ hy (H.2 j (ready_mono hj hji)).2
      refine wpOp_mono (fun a' w' h3 => ⟨h3.2.1, ?_⟩) h2
      refine headH_first hi hsel hQ hs hc hn hin hdone f (listed.setIfInBounds j true) a' w' (inv.set hj (head_only hs hc hn inv hin hun hj)) (fun k ok hk hki hkun hno => hfree k ok hk hki ?_ hno)
        (ready_mono hr (Ne.symm hji)) h3.1 h3.2.1 (by rw [Array.setIfInBounds_comm _ _ hji]; exact h3.2.2)
      by_cases hjk : j = k
      · subst hjk; exact hjun
      · rw [getD_set_ne true hjk] at hkun; exact hkun

/-- Those to be taken first, in this order. -/
def takesB (md : Region.Mode) (ops : Array Oper) (n : Nat) : List Nat → Array Bool → Bool
  | [], _ => true
  | i :: rest, listed => (match ops[i]? with | some o => pureOp o.op | none => false) && decide (i < n) && (Region.ready md ops listed).contains i && Region.free md ops listed i && takesB md ops n rest (listed.setIfInBounds i true)

/-- Those that come one behind the other, then the tail. -/
def forcedB (md : Region.Mode) (ops : Array Oper) (n g : Nat) : List Nat → Array Bool → Bool
  | [], listed => Region.seqB md ops g n listed
  | i :: rest, listed => decide (Region.ready md ops listed = [i]) && decide (i < n) && forcedB md ops n g rest (listed.setIfInBounds i true)

def listedBy (l : List Nat) (listed : Array Bool) : Array Bool := l.foldl (fun s i => s.setIfInBounds i true) listed

def holdB (md : Region.Mode) (ops : Array Oper) (n : Nat) (qs fs : List Nat) : Bool :=
  Region.noSelect ops && decide (n < ops.size) && Region.sinkB md ops n && Region.chainB md ops n && takesB md ops n qs (Array.replicate ops.size false) &&
    forcedB md ops n (ops.size - n) fs (listedBy qs (Array.replicate ops.size false))

/-- The walk of those that come one behind the other. -/
def wpForce (P : Program) (ops : Array Oper) (S : World → Prop) (Q : Exit → Act → World → Prop) (tail : List Oper) : List Oper → Act → World → Prop
  | [], a, w => wpList P ops Q tail a w
  | o :: rest, a, w => if Region.wanted o (yielded ops a.tmps) = true then o.wp P a w (fun a' w' => S w' ∧ wpForce P ops S Q tail rest a' w') Q else S w ∧ wpForce P ops S Q tail rest (a.put o.dst undef) w

theorem wpForce_nil {tail : List Oper} {a : Act} {w : World} (h : wpList P ops Q tail a w) : wpForce P ops S Q tail [] a w := h

theorem wpForce_step {tail rest : List Oper} {o : Oper} {a : Act} {w : World} (hg : o.guard = none)
    (h : ∀ K : Act → World → Prop, (∀ a' w', S w' → wpForce P ops S Q tail rest a' w' → K a' w') → o.wp P a w K Q) : wpForce P ops S Q tail (o :: rest) a w := by
  have hw : Region.wanted o (yielded ops a.tmps) = true := by simp [Region.wanted, hg]
  unfold wpForce
  rw [if_pos hw]
  exact h _ fun a' w' h1 h2 => ⟨h1, h2⟩

theorem headH_force {n g : Nat} {tail : List Oper} (hL : (ops.toList.drop n) = tail) :
    ∀ (fs : List Nat) (lf : List Oper) (listed : Array Bool) (a : Act) (w : World), fs.map (fun i => ops[i]?) = lf.map some → forcedB md ops n g fs listed = true → wpForce P ops S Q tail lf a w →
    headH P md ops Q S n (fun listed' a' w' => Region.seqB md ops g n listed' = true ∧ wpList P ops Q tail a' w') fs.length listed a w
  | [], [], listed, a, w, _, hB, h => ⟨hB, h⟩
  | [], _ :: _, _, _, _, he, _, _ => by simp at he
  | _ :: _, [], _, _, _, he, _, _ => by simp at he
  | i :: fs, o :: lf, listed, a, w, he, hB, h => by
    simp only [List.map_cons, List.cons.injEq] at he
    simp only [forcedB, Bool.and_eq_true, decide_eq_true_eq] at hB
    refine ⟨by rw [hB.1.1]; simp, fun j hj => ?_⟩
    rw [hB.1.1] at hj
    obtain rfl : j = i := by simpa using hj
    refine ⟨hB.1.2, ?_⟩
    unfold wpForce at h
    unfold wpOp
    simp only [he.1]
    split
    · rename_i hw
      rw [if_pos hw] at h
      exact .inl (Oper.wp_mono (fun a' w' h' => ⟨h'.1, headH_force hL fs lf _ a' w' he.2 hB.2 h'.2⟩) h)
    · rename_i hw
      rw [if_neg hw] at h
      exact ⟨h.1, headH_force hL fs lf _ _ w he.2 hB.2 h.2⟩

theorem headH_take {n g m : Nat} {tail : List Oper} {Lq : Act → Prop} (hsel : Region.noSelect ops = true) (hs : Region.sinkB md ops n = true) (hc : Region.chainB md ops n = true) (hn : n < ops.size)
    (hQ : ∀ c a d v w, Q (.panic c) (a.put d v) w → Q (.panic c) a w) {w : World} (hS : S w) {last : Array Bool}
    (hLq : ∀ a, Lq a → headH P md ops Q S n (fun listed' a' w' => Region.seqB md ops g n listed' = true ∧ wpList P ops Q tail a' w') m last a w) :
    ∀ (qs : List Nat) (lq : List Oper) (listed : Array Bool) (a : Act), qs.map (fun i => ops[i]?) = lq.map some → HeadInv md ops n listed → takesB md ops n qs listed = true → listedBy qs listed = last →
    wpQuiet P ops S Lq lq a → headH P md ops Q S n (fun listed' a' w' => Region.seqB md ops g n listed' = true ∧ wpList P ops Q tail a' w') (qs.length + m) listed a w
  | [], [], listed, a, _, _, _, hl, h => by
    rw [List.length_nil, Nat.zero_add]
    obtain rfl : listed = last := hl
    exact hLq a h
  | [], _ :: _, _, _, he, _, _, _, _ => by simp at he
  | _ :: _, [], _, _, he, _, _, _, _ => by simp at he
  | i :: qs, o :: lq, listed, a, he, inv, hB, hl, h => by
    simp only [List.map_cons, List.cons.injEq] at he
    simp only [takesB, he.1, Bool.and_eq_true, decide_eq_true_eq] at hB
    obtain ⟨⟨⟨⟨hp, hin⟩, hr⟩, hf⟩, hB'⟩ := hB
    have hr' : i ∈ Region.ready md ops listed := by simpa using hr
    obtain ⟨v, hy, hK⟩ := yieldsIn_of_qOp (C := S) (K := wpQuiet P ops S Lq lq) he.1 (by unfold qOp; simp only [he.1]; exact h)
    rw [show (i :: qs).length + m = (qs.length + m) + 1 by simp only [List.length_cons]; omega]
    exact headH_first he.1 (Region.noSelect_spec hsel) (fun c a w => hQ c a _ _ w) hs hc hn hin (fun _ _ _ hL => seqB_ready hL.1) _ listed a w inv (Region.free_spec he.1 hf) hr' (yieldsIf_of_quiet hp hy) hS
      (headH_take hsel hs hc hn hQ hS hLq qs lq _ _ he.2 (inv.set hr' hin) hB' hl hK)

theorem wp_region_hold {id : Nat} {a : Act} {w : World} {l : List Oper} (S : World → Prop) (n : Nat) (qs fs : List Nat) (lq lf : List Oper) (hm : P.follows .mixedOrders = true) (hB : holdB .any l.toArray n qs fs = true)
    (hlen : qs.length + fs.length = n) (hq : qs.map (fun i => l.toArray[i]?) = lq.map some) (hf : fs.map (fun i => l.toArray[i]?) = lf.map some)
    (hQ : ∀ c a d v w, Q (.panic c) (a.put d v) w → Q (.panic c) a w) (hS : S w.drew)
    (h : wpQuiet P l.toArray S (fun a' => wpForce P l.toArray S Q (l.drop n) lf a' w.drew) lq a) : (Code.region id l.toArray true).wp P Q a w := by
  simp only [holdB, Bool.and_eq_true, decide_eq_true_eq] at hB
  obtain ⟨⟨⟨⟨⟨hsel, hn⟩, hs⟩, hc⟩, htk⟩, hfc⟩ := hB
  have hdl : (l.drop n).length = l.toArray.size - n := by simp
  have inv0 : HeadInv .any l.toArray n (Array.replicate l.toArray.size false) :=
    ⟨by simp, fun j oj _ hl => (by rw [getD_replicate_false] at hl; cases hl), fun t _ ht => getD_in (by simpa using ht) (getD_replicate_false _ _)⟩
  have H := headH_take (P := P) (S := S) (md := .any) (g := l.toArray.size - n) (tail := l.drop n) (m := fs.length) hsel hs hc hn hQ hS (fun a' ha' => headH_force rfl fs lf _ a' _ hf hfc ha') qs lq _ a hq inv0 htk rfl h
  refine wp_region_any hm ?_
  have := any_of_headH (P := P) (S := S) (g := l.toArray.size - n) (fun listed a' w' hL => by
    have := wpAny_of_seq (md := .any) (Q' := Q) (l.drop n) n listed a' w' (fun j => by simp [List.getElem?_drop]) (by rw [hdl]; exact hL.1) hL.2
    rwa [hdl] at this) _ _ _ _ H
  have hn' : n < l.toArray.size := hn
  rw [hlen, show n + (l.toArray.size - n) = l.toArray.size by omega] at this
  exact this

/-- The operations of these numbers. -/
def pickOps (l : List Oper) : List Nat → List Oper
  | [] => []
  | i :: is => match l[i]? with
    | some o => o :: pickOps l is
    | none => pickOps l is

theorem pickOps_map (l : List Oper) : ∀ is : List Nat, (is.all fun i => decide (i < l.length)) = true → is.map (fun i => l.toArray[i]?) = (pickOps l is).map some
  | [], _ => rfl
  | i :: is, h => by
    simp only [List.all_cons, Bool.and_eq_true, decide_eq_true_eq] at h
    have e : l[i]? = some (l[i]'h.1) := List.getElem?_eq_getElem h.1
    have e2 : l.toArray[i]? = some (l[i]'h.1) := by simp [h.1]
    rw [List.map_cons, e2, pickOps_map l is h.2]
    simp only [pickOps, e, List.map_cons]

/-- The same, at the worlds in which nothing that was there has turned. -/
theorem wp_region_hold_below {id : Nat} {a : Act} {w : World} {l : List Oper} (n : Nat) (qs fs : List Nat) (hm : P.follows .mixedOrders = true) (hB : holdB .any l.toArray n qs fs = true)
    (hlen : qs.length + fs.length = n) (hin : ((qs ++ fs).all fun i => decide (i < l.length)) = true)
    (h : wpQuiet P l.toArray (fun w' => ∃ p : Regrown, w' = grow (redrawn w p.d) p.os) (fun a' => wpForce P l.toArray (fun w' => ∃ p : Regrown, w' = grow (redrawn w p.d) p.os) (NoPanic Q) (l.drop n) (pickOps l fs) a' w.drew) (pickOps l qs) a) :
    (Code.region id l.toArray true).wp P Q a w := by
  rw [List.all_append, Bool.and_eq_true] at hin
  refine wp_region_noPanic ?_
  exact wp_region_hold (fun w' => ∃ p : Regrown, w' = grow (redrawn w p.d) p.os) n qs fs _ _ hm hB hlen (pickOps_map l qs hin.1) (pickOps_map l fs hin.2) (fun _ _ _ _ _ h => h) ⟨⟨w.drawn + 1, #[]⟩, by rw [grow_empty]; rfl⟩ h
end

end Go.Proofs.Ytbjgkolldmplkaa
