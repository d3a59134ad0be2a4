/- Lemmas, part 5 of 39. No condition. -/
import Derived.Test.YtcondkihpmmnnaaGreatDoorUniqueP01
import Derived.StillTail
import Derived.Deep.QuietTactic
import Derived.Lib.QuietBelow
import Derived.OrdersHeld
import Derived.Deep.RegionHeld3
import Derived.Test.YtcondkihpmmnnaaGreatDoorUniqueP03
import Derived.Test.YtcondkihpmmnnaaGreatDoorUniqueP04
import Derived.DeepKeys4
import Derived.Maps.OwnSet
import Derived.Maps.OwnOps
namespace Go.Proofs.YtcondkihpmmnnaaGreatDoor
open Go.RowKit Go.Sort
section
variable {P:Program} {ops:Array Oper} {md:Region.Mode} {C:World→Prop}
def headQ (P:Program) (md:Region.Mode) (ops:Array Oper) (C:World→Prop) (n:Nat) (L:Array Bool→Act→Prop):Nat→Array Bool→Act→Prop
 | 0 => L
 | f + 1 => fun listed a => Region.ready md ops listed≠[]∧∀ i∈Region.ready md ops listed,i < n∧qOp P ops C i (headQ P md ops C n L f (listed.setIfInBounds i true)) a
theorem any_of_headQ {n g:Nat} {L:Array Bool→Act→Prop} {Q':Exit→Act→World→Prop} (hL:∀ listed a w,C w→L listed a→wpAny P md ops Q' g listed a w) :
    ∀ (f:Nat) (listed:Array Bool) (a:Act) (w:World),C w→headQ P md ops C n L f listed a→wpAny P md ops Q' (f + g) listed a w
 | 0,_,_,_,hw,h => by rw [Nat.zero_add]; exact hL _ _ _ hw h
 | f + 1,_,_,_,hw,h => by
  rw [Nat.add_right_comm]
  exact ⟨fun h0 => absurd h0 h.1,fun i hi => wpOp_of_qOp hw (fun _ _ hw' h' => any_of_headQ hL f _ _ _ hw' h') (h.2 i hi).2⟩
theorem head_only {n i j:Nat} {listed:Array Bool} (hs:Region.sinkB md ops n = true) (hc:Region.chainB md ops n = true) (hn:n < ops.size) (inv:HeadInv md ops n listed) (hin:i < n)
    (hun:listed.getD i true = false) (hj:j∈Region.ready md ops listed):j < n:=by
 rcases Nat.lt_or_ge j n with h | h
 ·exact h
 ·exact absurd hj (tail_waits hs hc hn inv _ i rfl hin hun j h)
theorem headQ_first {n i:Nat} {oi:Oper} {v:Value} {L:Array Bool→Act→Prop} (hi:ops[i]? = some oi) (hsel:∀ (j:Nat) (o:Oper) cs b,ops[j]? = some o→o.op≠.select cs b)
    (hs:Region.sinkB md ops n = true) (hc:Region.chainB md ops n = true) (hn:n < ops.size) (hin:i < n) (hdone:∀ listed a,L listed a→∀ j∈Region.ready md ops listed,n≤j) :
    ∀ (f:Nat) (listed:Array Bool) (a:Act),HeadInv md ops n listed →
     (∀ j oj,ops[j]? = some oj→j≠i→listed.getD j true = false→(∀ e∈oj.after,Region.binds md e = true→e.on≠i)→oi.apart ops oj = true) →
     i∈Region.ready md ops listed→YieldsIn P ops C oi v a →
     headQ P md ops C n L f (listed.setIfInBounds i true) (a.put oi.dst v)→headQ P md ops C n L (f + 1) listed a
 | f,listed,a,inv,hfree,hr,hy,H => by
  have hun:=(mem_ready.1 hr).1
  refine ⟨List.ne_nil_of_mem hr,fun j hj => ⟨head_only hs hc hn inv hin hun hj,?_⟩⟩
  by_cases hji:j = i
  ·subst hji
   exact hy.qOp hi H
  cases f with
  | zero =>
   have h1:=hdone _ _ H j (ready_mono hj hji)
   have h2:=head_only hs hc hn inv hin hun hj
   exact absurd h2 (by omega)
  | succ f =>
   obtain ⟨hjun,oj,hoj,hall⟩:=mem_ready.1 hj
   have hnot:∀ e∈oj.after,Region.binds md e = true→e.on≠i:=fun e he hb heq => by
    have h1:=hall e he hb
    rw [heq,getD_both hun] at h1
    cases h1
   have h2:=qOp_put hoj (hfree j oj hoj hji hjun hnot) (fun cs b => hsel i oi cs b hi) (fun cs b => hsel j oj cs b hoj) hy (H.2 j (ready_mono hj hji)).2
   refine qOp_mono (fun a' h3 => ?_) h2
   refine headQ_first hi hsel hs hc hn hin hdone f (listed.setIfInBounds j true) a' (inv.set hj (head_only hs hc hn inv hin hun hj)) (fun k ok hk hki hkun hno => hfree k ok hk hki ?_ hno)
    (ready_mono hr (Ne.symm hji)) h3.1 (by rw [Array.setIfInBounds_comm _ _ hji]; exact h3.2)
   by_cases hjk:j = k
   ·subst hjk; exact hjun
   ·rw [getD_set_ne true hjk] at hkun; exact hkun
theorem headQ_lex {n g:Nat} {Lq:Act→Prop} (hsel:Region.noSelect ops = true) (hs:Region.sinkB md ops n = true) (hc:Region.chainB md ops n = true) (hn:n < ops.size) :
    ∀ (l:List Oper) (k:Nat) (listed:Array Bool) (a:Act),(∀ j,j < l.length→l[j]? = ops[k + j]?)→k + l.length = n→HeadInv md ops n listed →
    Region.lexHead md ops g l.length k listed = true→wpQuiet P ops C Lq l a→headQ P md ops C n (fun listed' a' => Region.seqB md ops g n listed' = true∧Lq a') l.length listed a
 | [],k,listed,a,_,hk,_,hB,h => by
  obtain rfl:k = n:=hk
  exact ⟨hB,h⟩
 | o :: l,k,listed,a,hl,hk,inv,hB,h => by
  have h0:ops[k]? = some o:=by simpa using (hl 0 (by simp)).symm
  simp only [List.length_cons,Region.lexHead,Bool.and_eq_true] at hB
  obtain ⟨⟨hr,hf⟩,hB'⟩:=hB
  have hkn:k < n:=by simp only [List.length_cons] at hk; omega
  have hr':k∈Region.ready md ops listed:=by simpa using hr
  obtain ⟨v,hy,hK⟩:=yieldsIn_of_qOp (C:=C) (K:=wpQuiet P ops C Lq l) h0 (by unfold qOp; simp only [h0]; exact h)
  refine headQ_first h0 (Region.noSelect_spec hsel) hs hc hn hkn (fun _ _ hL => seqB_ready hL.1) l.length listed a inv (Region.free_spec h0 hf) hr' hy
   (headQ_lex hsel hs hc hn l (k + 1) _ _ (fun j hj => ?_) (by simp only [List.length_cons] at hk; omega) (inv.set hr' hkn) hB' hK)
  have:=hl (j + 1) (by simp; omega)
  simpa [Nat.add_assoc,Nat.add_comm 1 j] using this
theorem wp_region_quiet_tail {id:Nat} {Q:Exit→Act→World→Prop} {a:Act} {w:World} {l:List Oper} (n:Nat) (hm:P.follows .mixedOrders = true) (hB:Region.lexTailB .any l.toArray n = true)
    (hC:C { w with drawn:=w.drawn + 1 }) (h:wpQuiet P l.toArray C (fun a' => ∀ w',C w'→wpList P l.toArray Q (l.drop n) a' w') (l.take n) a):(Code.region id l.toArray true).wp P Q a w:=by
 simp only [Region.lexTailB,Bool.and_eq_true,decide_eq_true_eq] at hB
 obtain ⟨⟨⟨⟨hsel,hn⟩,hs⟩,hc⟩,hlex⟩:=hB
 have hn':n < l.length:=by simpa using hn
 have htl:(l.take n).length = n:=by simp; omega
 have hdl:(l.drop n).length = l.toArray.size - n:=by simp
 have inv0:HeadInv .any l.toArray n (Array.replicate l.toArray.size false) :=
  ⟨by simp,fun j oj _ hl => (by rw [getD_replicate_false] at hl; cases hl),fun t _ ht => getD_in (by simpa using ht) (getD_replicate_false _ _)⟩
 have H:=headQ_lex (P:=P) (C:=C) (md:=.any) (g:=l.toArray.size - n) hsel hs hc hn (l.take n) 0 _ a (fun j hj => by
  rw [htl] at hj
  simp [hj]) (by simpa using htl) inv0 (by rw [htl]; exact hlex) h
 refine wp_region_any hm ?_
 have:=any_of_headQ (Q':=Q) (g:=l.toArray.size - n) (fun listed a' w' hw' hL => by
  have:=wpAny_of_seq (md:=.any) (Q':=Q) (l.drop n) n listed a' w' (fun j => by simp [List.getElem?_drop]) (by rw [hdl]; exact hL.1) (hL.2 w' hw')
  rwa [hdl] at this) _ _ _ _ hC H
 rw [htl,show n + (l.toArray.size - n) = l.toArray.size by omega] at this
 exact this
theorem wp_region_tail_below {id:Nat} {Q:Exit→Act→World→Prop} {a:Act} {w:World} {l:List Oper} (n:Nat) (hm:P.follows .mixedOrders = true) (hB:Region.lexTailB .any l.toArray n = true)
    (h:wpQuiet P l.toArray (fun w' => ∃ p:Regrown,w' = grow (redrawn w p.d) p.os) (fun a' => ∀ w',(∃ p:Regrown,w' = grow (redrawn w p.d) p.os)→wpList P l.toArray Q (l.drop n) a' w') (l.take n) a):(Code.region id l.toArray true).wp P Q a w :=
 wp_region_quiet_tail (C:=fun w' => ∃ p:Regrown,w' = grow (redrawn w p.d) p.os) n hm hB ⟨⟨w.drawn + 1,#[]⟩,by rw [grow_empty]; rfl⟩ h
end
end Go.Proofs.YtcondkihpmmnnaaGreatDoor
namespace Go.Proofs.YtcondkihpmmnnaaGreatDoor
open Go.RowKit Go.Sort
def pureOp:Op→Bool
 | .move _ | .assign _ | .load _ _ | .build _ _ | .binOp _ _ _ _ _ | .unOp _ _ _ | .convert _ _ _ | .fieldAddr _ _ _ | .field _ _ _ | .indexAddr _ _ _ | .index _ _ _ | .extract _ _ | .nilCheck _ | .lookup _ _ _ _ => true
 | _ => false
theorem run_value {P:Program} (s:Sem Value) (w:World):((do pure (Next.value (← s))):Sem Next).run P w = (s.run P w).andThen fun x w' => .ok (.value x) w':=by
 simp only [Sem.run_bind,Sem.run_pure]
theorem bind_ok {P:Program} {α β:Type} {m:Sem α} {k:α→Sem β} {w w':World} {r:β} (h:(m >>= k).run P w = .ok r w'):∃ a w1,(k a).run P w1 = .ok r w':=by
 rw [Sem.run_bind] at h
 cases hm:m.run P w with
 | ok a w1 =>
  rw [hm] at h
  exact ⟨a,w1,h⟩
 | halt x w1 =>
  rw [hm] at h
  simp [Result.andThen] at h
theorem pure_value {P:Program} {o:Oper} (hp:pureOp o.op = true) (e:Operand→Value) (w w':World) (r:Next) (h:(execOp e o).run P w = .ok r w'):∃ v,r = .value v:=by
 have key:∀ s:Sem Value,((do pure (Next.value (← s))):Sem Next).run P w = .ok r w'→∃ v,r = .value v:=fun s hs => by
  rw [run_value] at hs
  cases hr:s.run P w with
  | ok x w1 =>
   rw [hr] at hs
   simp only [Result.andThen_ok,Result.ok.injEq] at hs
   exact ⟨x,hs.1.symm⟩
  | halt x w1 =>
   rw [hr] at hs
   simp [Result.andThen] at hs
 have key2:∀ (W:World) (u:Value),((pure (Next.value u)):Sem Next).run P W = .ok r w'→∃ v,r = .value v:=fun W u hu => by
  simp only [Sem.run_pure,Result.ok.injEq] at hu
  exact ⟨_,hu.1.symm⟩
 unfold execOp at h
 cases ho:o.op <;> rw [ho] at hp h <;> first | exact key2 _ _ h | exact key _ h | (exfalso; revert hp; simp [pureOp]; done) | skip
 dsimp only at h
 split at h
 ·simp [go_sem] at h
 ·simp [go_sem] at h
 ·simp [go_sem] at h
 ·split at h
  ·simp [go_sem] at h
  ·obtain ⟨_,_,h⟩:=bind_ok h
   obtain ⟨_,_,h⟩:=bind_ok h
   split at h
   ·obtain ⟨_,_,h⟩:=bind_ok h
    exact key2 _ _ h
   ·exact key2 _ _ h
  ·exact key2 _ _ h
 ·exact key2 _ _ h
section
variable {P:Program} {ops:Array Oper} {md:Region.Mode} {S:World→Prop}
theorem yieldsIf_of_quiet {o:Oper} {v:Value} {a:Act} (hp:pureOp o.op = true) (h:YieldsIn P ops S o v a):YieldsIf P ops S o v a:=by
 rcases h with ⟨hw,hq⟩ | h
 ·refine .inl ⟨hw,fun w hS => ?_⟩
  have h1:=hq w hS
  unfold Oper.quietAt at h1
  cases hr:(execOp a.eval o).run P w with
  | ok r w' =>
   obtain ⟨u,rfl⟩:=pure_value hp _ _ _ _ hr
   rw [hr] at h1
   simp only [Oper.quietUpon] at h1
   rw [h1.1,h1.2]
  | halt x w' =>
   rw [hr] at h1
   simp only [Oper.quietUpon] at h1
 ·exact .inr h
def headH (P:Program) (md:Region.Mode) (ops:Array Oper) (Q:Exit→Act→World→Prop) (S:World→Prop) (n:Nat) (L:Array Bool→Act→World→Prop):Nat→Array Bool→Act→World→Prop
 | 0 => L
 | f + 1 => fun listed a w => Region.ready md ops listed≠[]∧∀ i∈Region.ready md ops listed,i < n∧wpOp P ops Q i (fun a' w' => S w'∧headH P md ops Q S n L f (listed.setIfInBounds i true) a' w') a w
variable {Q:Exit→Act→World→Prop}
theorem any_of_headH {n g:Nat} {L:Array Bool→Act→World→Prop} (hL:∀ listed a w,L listed a w→wpAny P md ops Q g listed a w) :
    ∀ (f:Nat) (listed:Array Bool) (a:Act) (w:World),headH P md ops Q S n L f listed a w→wpAny P md ops Q (f + g) listed a w
 | 0,_,_,_,h => by rw [Nat.zero_add]; exact hL _ _ _ h
 | f + 1,_,_,_,h => by
  rw [Nat.add_right_comm]
  exact ⟨fun h0 => absurd h0 h.1,fun i hi => wpOp_mono (fun _ _ h' => any_of_headH hL f _ _ _ h'.2) (h.2 i hi).2⟩
theorem headH_first {n i:Nat} {oi:Oper} {v:Value} {L:Array Bool→Act→World→Prop} (hi:ops[i]? = some oi) (hsel:∀ (j:Nat) (o:Oper) cs b,ops[j]? = some o→o.op≠.select cs b)
    (hQ:∀ c a w,Q (.panic c) (a.put oi.dst v) w→Q (.panic c) a w)
    (hs:Region.sinkB md ops n = true) (hc:Region.chainB md ops n = true) (hn:n < ops.size) (hin:i < n) (hdone:∀ listed a w,L listed a w→∀ j∈Region.ready md ops listed,n≤j) :
    ∀ (f:Nat) (listed:Array Bool) (a:Act) (w:World),HeadInv md ops n listed →
     (∀ j oj,ops[j]? = some oj→j≠i→listed.getD j true = false→(∀ e∈oj.after,Region.binds md e = true→e.on≠i)→oi.apart ops oj = true) →
     i∈Region.ready md ops listed→YieldsIf P ops S oi v a→S w →
     headH P md ops Q S n L f (listed.setIfInBounds i true) (a.put oi.dst v) w→headH P md ops Q S n L (f + 1) listed a w
 | f,listed,a,w,inv,hfree,hr,hy,hS,H => by
  have hun:=(mem_ready.1 hr).1
  refine ⟨List.ne_nil_of_mem hr,fun j hj => ⟨head_only hs hc hn inv hin hun hj,?_⟩⟩
  by_cases hji:j = i
  ·subst hji
   exact hy.wpOp hi hS ⟨hS,H⟩
  cases f with
  | zero =>
   have h1:=hdone _ _ _ H j (ready_mono hj hji)
   have h2:=head_only hs hc hn inv hin hun hj
   exact absurd h2 (by omega)
  | succ f =>
   obtain ⟨hjun,oj,hoj,hall⟩:=mem_ready.1 hj
   have hnot:∀ e∈oj.after,Region.binds md e = true→e.on≠i:=fun e he hb heq => by
    have h1:=hall e he hb
    rw [heq,getD_both hun] at h1
    cases h1
   have h2:=wpOp_putIf hoj (hfree j oj hoj hji hjun hnot) (fun cs b => hsel i oi cs b hi) (fun cs b => hsel j oj cs b hoj) hQ hy (H.2 j (ready_mono hj hji)).2
   refine wpOp_mono (fun a' w' h3 => ⟨h3.2.1,?_⟩) h2
   refine headH_first hi hsel hQ hs hc hn hin hdone f (listed.setIfInBounds j true) a' w' (inv.set hj (head_only hs hc hn inv hin hun hj)) (fun k ok hk hki hkun hno => hfree k ok hk hki ?_ hno)
    (ready_mono hr (Ne.symm hji)) h3.1 h3.2.1 (by rw [Array.setIfInBounds_comm _ _ hji]; exact h3.2.2)
   by_cases hjk:j = k
   ·subst hjk; exact hjun
   ·rw [getD_set_ne true hjk] at hkun; exact hkun
def takesB (md:Region.Mode) (ops:Array Oper) (n:Nat):List Nat→Array Bool→Bool
 | [],_ => true
 | i :: rest,listed => (match ops[i]? with | some o => pureOp o.op | none => false) && decide (i < n) && (Region.ready md ops listed).contains i && Region.free md ops listed i && takesB md ops n rest (listed.setIfInBounds i true)
def forcedB (md:Region.Mode) (ops:Array Oper) (n g:Nat):List Nat→Array Bool→Bool
 | [],listed => Region.seqB md ops g n listed
 | i :: rest,listed => decide (Region.ready md ops listed = [i]) && decide (i < n) && forcedB md ops n g rest (listed.setIfInBounds i true)
def listedBy (l:List Nat) (listed:Array Bool):Array Bool:=l.foldl (fun s i => s.setIfInBounds i true) listed
def holdB (md:Region.Mode) (ops:Array Oper) (n:Nat) (qs fs:List Nat):Bool :=
 Region.noSelect ops && decide (n < ops.size) && Region.sinkB md ops n && Region.chainB md ops n && takesB md ops n qs (Array.replicate ops.size false) &&
  forcedB md ops n (ops.size - n) fs (listedBy qs (Array.replicate ops.size false))
def wpForce (P:Program) (ops:Array Oper) (S:World→Prop) (Q:Exit→Act→World→Prop) (tail:List Oper):List Oper→Act→World→Prop
 | [],a,w => wpList P ops Q tail a w
 | o :: rest,a,w => if Region.wanted o (yielded ops a.tmps) = true then o.wp P a w (fun a' w' => S w'∧wpForce P ops S Q tail rest a' w') Q else S w∧wpForce P ops S Q tail rest (a.put o.dst undef) w
theorem wpForce_nil {tail:List Oper} {a:Act} {w:World} (h:wpList P ops Q tail a w):wpForce P ops S Q tail [] a w:=h
theorem wpForce_step {tail rest:List Oper} {o:Oper} {a:Act} {w:World} (hg:o.guard = none)
    (h:∀ K:Act→World→Prop,(∀ a' w',S w'→wpForce P ops S Q tail rest a' w'→K a' w')→o.wp P a w K Q):wpForce P ops S Q tail (o :: rest) a w:=by
 have hw:Region.wanted o (yielded ops a.tmps) = true:=by simp [Region.wanted,hg]
 unfold wpForce
 rw [if_pos hw]
 exact h _ fun a' w' h1 h2 => ⟨h1,h2⟩
theorem headH_force {n g:Nat} {tail:List Oper} (hL:(ops.toList.drop n) = tail) :
    ∀ (fs:List Nat) (lf:List Oper) (listed:Array Bool) (a:Act) (w:World),fs.map (fun i => ops[i]?) = lf.map some→forcedB md ops n g fs listed = true→wpForce P ops S Q tail lf a w →
    headH P md ops Q S n (fun listed' a' w' => Region.seqB md ops g n listed' = true∧wpList P ops Q tail a' w') fs.length listed a w
 | [],[],listed,a,w,_,hB,h => ⟨hB,h⟩
 | [],_ :: _,_,_,_,he,_,_ => by simp at he
 | _ :: _,[],_,_,_,he,_,_ => by simp at he
 | i :: fs,o :: lf,listed,a,w,he,hB,h => by
  simp only [List.map_cons,List.cons.injEq] at he
  simp only [forcedB,Bool.and_eq_true,decide_eq_true_eq] at hB
  refine ⟨by rw [hB.1.1]; simp,fun j hj => ?_⟩
  rw [hB.1.1] at hj
  obtain rfl:j = i:=by simpa using hj
  refine ⟨hB.1.2,?_⟩
  unfold wpForce at h
  unfold wpOp
  simp only [he.1]
  split
  ·rename_i hw
   rw [if_pos hw] at h
   exact .inl (Oper.wp_mono (fun a' w' h' => ⟨h'.1,headH_force hL fs lf _ a' w' he.2 hB.2 h'.2⟩) h)
  ·rename_i hw
   rw [if_neg hw] at h
   exact ⟨h.1,headH_force hL fs lf _ _ w he.2 hB.2 h.2⟩
theorem headH_take {n g m:Nat} {tail:List Oper} {Lq:Act→Prop} (hsel:Region.noSelect ops = true) (hs:Region.sinkB md ops n = true) (hc:Region.chainB md ops n = true) (hn:n < ops.size)
    (hQ:∀ c a d v w,Q (.panic c) (a.put d v) w→Q (.panic c) a w) {w:World} (hS:S w) {last:Array Bool}
    (hLq:∀ a,Lq a→headH P md ops Q S n (fun listed' a' w' => Region.seqB md ops g n listed' = true∧wpList P ops Q tail a' w') m last a w) :
    ∀ (qs:List Nat) (lq:List Oper) (listed:Array Bool) (a:Act),qs.map (fun i => ops[i]?) = lq.map some→HeadInv md ops n listed→takesB md ops n qs listed = true→listedBy qs listed = last →
    wpQuiet P ops S Lq lq a→headH P md ops Q S n (fun listed' a' w' => Region.seqB md ops g n listed' = true∧wpList P ops Q tail a' w') (qs.length + m) listed a w
 | [],[],listed,a,_,_,_,hl,h => by
  rw [List.length_nil,Nat.zero_add]
  obtain rfl:listed = last:=hl
  exact hLq a h
 | [],_ :: _,_,_,he,_,_,_,_ => by simp at he
 | _ :: _,[],_,_,he,_,_,_,_ => by simp at he
 | i :: qs,o :: lq,listed,a,he,inv,hB,hl,h => by
  simp only [List.map_cons,List.cons.injEq] at he
  simp only [takesB,he.1,Bool.and_eq_true,decide_eq_true_eq] at hB
  obtain ⟨⟨⟨⟨hp,hin⟩,hr⟩,hf⟩,hB'⟩:=hB
  have hr':i∈Region.ready md ops listed:=by simpa using hr
  obtain ⟨v,hy,hK⟩:=yieldsIn_of_qOp (C:=S) (K:=wpQuiet P ops S Lq lq) he.1 (by unfold qOp; simp only [he.1]; exact h)
  rw [show (i :: qs).length + m = (qs.length + m) + 1 by simp only [List.length_cons]; omega]
  exact headH_first he.1 (Region.noSelect_spec hsel) (fun c a w => hQ c a _ _ w) hs hc hn hin (fun _ _ _ hL => seqB_ready hL.1) _ listed a w inv (Region.free_spec he.1 hf) hr' (yieldsIf_of_quiet hp hy) hS
   (headH_take hsel hs hc hn hQ hS hLq qs lq _ _ he.2 (inv.set hr' hin) hB' hl hK)
theorem wp_region_hold {id:Nat} {a:Act} {w:World} {l:List Oper} (S:World→Prop) (n:Nat) (qs fs:List Nat) (lq lf:List Oper) (hm:P.follows .mixedOrders = true) (hB:holdB .any l.toArray n qs fs = true)
    (hlen:qs.length + fs.length = n) (hq:qs.map (fun i => l.toArray[i]?) = lq.map some) (hf:fs.map (fun i => l.toArray[i]?) = lf.map some)
    (hQ:∀ c a d v w,Q (.panic c) (a.put d v) w→Q (.panic c) a w) (hS:S w.drew)
    (h:wpQuiet P l.toArray S (fun a' => wpForce P l.toArray S Q (l.drop n) lf a' w.drew) lq a):(Code.region id l.toArray true).wp P Q a w:=by
 simp only [holdB,Bool.and_eq_true,decide_eq_true_eq] at hB
 obtain ⟨⟨⟨⟨⟨hsel,hn⟩,hs⟩,hc⟩,htk⟩,hfc⟩:=hB
 have hdl:(l.drop n).length = l.toArray.size - n:=by simp
 have inv0:HeadInv .any l.toArray n (Array.replicate l.toArray.size false) :=
  ⟨by simp,fun j oj _ hl => (by rw [getD_replicate_false] at hl; cases hl),fun t _ ht => getD_in (by simpa using ht) (getD_replicate_false _ _)⟩
 have H:=headH_take (P:=P) (S:=S) (md:=.any) (g:=l.toArray.size - n) (tail:=l.drop n) (m:=fs.length) hsel hs hc hn hQ hS (fun a' ha' => headH_force rfl fs lf _ a' _ hf hfc ha') qs lq _ a hq inv0 htk rfl h
 refine wp_region_any hm ?_
 have:=any_of_headH (P:=P) (S:=S) (g:=l.toArray.size - n) (fun listed a' w' hL => by
  have:=wpAny_of_seq (md:=.any) (Q':=Q) (l.drop n) n listed a' w' (fun j => by simp [List.getElem?_drop]) (by rw [hdl]; exact hL.1) hL.2
  rwa [hdl] at this) _ _ _ _ H
 have hn':n < l.toArray.size:=hn
 rw [hlen,show n + (l.toArray.size - n) = l.toArray.size by omega] at this
 exact this
def pickOps (l:List Oper):List Nat→List Oper
 | [] => []
 | i :: is => match l[i]? with
  | some o => o :: pickOps l is
  | none => pickOps l is
theorem pickOps_map (l:List Oper):∀ is:List Nat,(is.all fun i => decide (i < l.length)) = true→is.map (fun i => l.toArray[i]?) = (pickOps l is).map some
 | [],_ => rfl
 | i :: is,h => by
  simp only [List.all_cons,Bool.and_eq_true,decide_eq_true_eq] at h
  have e:l[i]? = some (l[i]'h.1):=List.getElem?_eq_getElem h.1
  have e2:l.toArray[i]? = some (l[i]'h.1):=by simp [h.1]
  rw [List.map_cons,e2,pickOps_map l is h.2]
  simp only [pickOps,e,List.map_cons]
theorem wp_region_hold_below {id:Nat} {a:Act} {w:World} {l:List Oper} (n:Nat) (qs fs:List Nat) (hm:P.follows .mixedOrders = true) (hB:holdB .any l.toArray n qs fs = true)
    (hlen:qs.length + fs.length = n) (hin:((qs ++ fs).all fun i => decide (i < l.length)) = true)
    (h:wpQuiet P l.toArray (fun w' => ∃ p:Regrown,w' = grow (redrawn w p.d) p.os) (fun a' => wpForce P l.toArray (fun w' => ∃ p:Regrown,w' = grow (redrawn w p.d) p.os) (NoPanic Q) (l.drop n) (pickOps l fs) a' w.drew) (pickOps l qs) a) :
    (Code.region id l.toArray true).wp P Q a w:=by
 rw [List.all_append,Bool.and_eq_true] at hin
 refine wp_region_noPanic ?_
 exact wp_region_hold (fun w' => ∃ p:Regrown,w' = grow (redrawn w p.d) p.os) n qs fs _ _ hm hB hlen (pickOps_map l qs hin.1) (pickOps_map l fs hin.2) (fun _ _ _ _ _ h => h) ⟨⟨w.drawn + 1,#[]⟩,by rw [grow_empty]; rfl⟩ h
end
end Go.Proofs.YtcondkihpmmnnaaGreatDoor
namespace Go.Proofs.YtcondkihpmmnnaaGreatDoor
open Go.RowKit Go.Sort
def stB (q:SeqM) (n s:Nat):Bool :=
 decide ((q.tail.getD s ByteArray.empty).size≤4096) && (q.ends.getD s false || decide ((q.tail.getD s ByteArray.empty).size = 0)) && rowB (q.next.getD s []) (q.outs.getD s []) n
def ckB (q:SeqM):Bool :=
 decide (q.next.length≤1024) && decide (q.outs.length = q.next.length) && decide (q.ends.length = q.next.length) && decide (q.tail.length = q.next.length) && decide (q.front.size≤4096) &&
  (decide (q.next.length≠0) || decide (q.front.size = 0)) && (List.range q.next.length).all (stB q q.next.length)
theorem ck_false {q:SeqM} (h:¬ (q.next.length≤1024∧q.outs.length = q.next.length∧q.ends.length = q.next.length∧q.tail.length = q.next.length∧q.front.size≤4096∧(q.next.length≠0∨q.front.size = 0))):okE (ckB q) = 1:=by
 have:ckB q = false:=by
  rw [← Bool.not_eq_true]
  intro h2
  apply h
  unfold ckB at h2
  simp only [Bool.and_eq_true,Bool.or_eq_true,decide_eq_true_eq] at h2
  exact ⟨h2.1.1.1.1.1.1,h2.1.1.1.1.1.2,h2.1.1.1.1.2,h2.1.1.1.2,h2.1.1.2,h2.1.2⟩
 rw [this]; rfl
theorem ck_state {q:SeqM} {k:Nat} (hk:k < q.next.length) (h:stB q q.next.length k = false):okE (ckB q) = 1:=by
 have:ckB q = false:=by unfold ckB; rw [range_all_false hk h,Bool.and_false]
 rw [this]; rfl
set_option maxRecDepth 100000 in
set_option maxHeartbeats 8000000 in
theorem seqCheck_any (q:SeqM) (v:Value) (B:Nat) (w:World) (HS:SeqAt w B q v) (hB:B≤w.heap.size) :
    Calls Tryz.prog 18 #[v] w (Gives (.int .i64 (okE (ckB q))) w):=by
 obtain ⟨A1,c1,A2,c2,A3,c3,A4,c4,rfl,hf,l1,l2,l3,l4,m1,m2,m3,m4,R1,hz,R2,hs,R3,R4,ht⟩:=HS
 have hfN:=Lib.hid (@ck_false q)
 have hsN:=Lib.hid (fun k => @ck_state q k)
 have hck:(q.next.length≤1024∧q.outs.length = q.next.length∧q.ends.length = q.next.length∧q.tail.length = q.next.length∧q.front.size≤4096∧(q.next.length≠0∨q.front.size = 0))→(List.range q.next.length).all (stB q q.next.length) = true→okE (ckB q) = 0:=by
  rintro ⟨h1,h2,h3,h4,h5,h6⟩ h7
  have:ckB q = true:=by
   unfold ckB
   simp only [Bool.and_eq_true,Bool.or_eq_true,decide_eq_true_eq]
   exact ⟨⟨⟨⟨⟨⟨h1,h2⟩,h3⟩,h4⟩,h5⟩,h6⟩,h7⟩
  rw [this]; rfl
 have hcN:=Lib.hid hck
 clear hck
 unfold maxLen at *
 rcases Decidable.em (¬ (q.next.length≤1024∧q.outs.length = q.next.length∧q.ends.length = q.next.length∧q.tail.length = q.next.length∧q.front.size≤4096∧(q.next.length≠0∨q.front.size = 0))) with h | h
 ·generalize okE (ckB q) = r at *
  have hr:r = 1:=hfN.out h
  subst hr
  clear hfN hsN hcN
  generalize q.next.length = n1 at *
  generalize q.outs.length = n2 at *
  generalize q.ends.length = n3 at *
  generalize q.tail.length = n4 at *
  go_enter Tryz.func18,Tryz.ntmps18
  by_cases d1:1024 < n1
  ·go_wp2
   go_ret
   exact ⟨rfl,(Below.refl _ _).alloc (Nat.le_refl _) _⟩
  by_cases d2:n2 = n1
  ·subst d2
   by_cases d3:n3 = n2
   ·subst d3
    by_cases d4:n4 = n3
    ·subst d4
     by_cases d5:4096 < q.front.size
     ·go_wp2
      go_ret
      exact ⟨rfl,(Below.refl _ _).alloc (Nat.le_refl _) _⟩
     ·have d6:n4 = 0:=by omega
      have d7:q.front.toList.isEmpty = false:=by
       rw [Lib.toList_data,← Bool.not_eq_true]
       intro h2
       have:=Array.toList_eq_nil_iff.1 (List.isEmpty_iff.1 h2)
       exact h ⟨by omega,rfl,rfl,rfl,by omega,.inr (by show q.front.data.size = 0; rw [this]; rfl)⟩
      subst d6
      clear h
      go_wp2
      go_ret
      exact ⟨rfl,(Below.refl _ _).alloc (Nat.le_refl _) _⟩
    ·have e4:((n4:Int) != (n3:Int)) = true:=by simp; omega
     go_wp2
     go_ret
     exact ⟨rfl,(Below.refl _ _).alloc (Nat.le_refl _) _⟩
   ·go_wp2
    go_ret
    exact ⟨rfl,(Below.refl _ _).alloc (Nat.le_refl _) _⟩
  ·go_wp2
   go_ret
   exact ⟨rfl,(Below.refl _ _).alloc (Nat.le_refl _) _⟩
 ·have h':=Decidable.not_not.1 h
  clear h hfN
  have hcN2:=Lib.hid (fun h7 => hcN.out h' h7)
  clear hcN
  obtain ⟨h1,h2,h3,h4,h5,h6⟩:=h'
  have R1':=R1.more hB
  have R2':=R2.more hB
  have R3':=R3.more hB
  have R4':=R4.more hB
  clear R1 R2 R3 R4
  have H:=Lib.hid h6
  clear h6
  generalize hn:q.next.length = n at *
  rw [h2] at R2' l2 ⊢
  rw [h3] at R3' l3 ⊢
  rw [h4] at R4' l4 ⊢
  go_enter Tryz.func18,Tryz.ntmps18
  by_cases e0:n = 0
  ·subst e0
   have hq:q.front = ByteArray.empty:=ByteArray.ext (Array.eq_empty_of_size_eq_zero (by have:=H.out; simpa using this))
   rw [hq]
   have hr:okE (ckB q) = 0:=hcN2.out rfl
   rw [hr]
   clear hcN2 hsN
   go_wp2
   go_loopw [45] (fun i wr => i = .int .i64 0∧Below w.heap.size w wr) (fun i _ => 0 - (intOf i).toNat)
   case atStart => exact ⟨rfl,(Below.refl _ _).alloc (Nat.le_refl _) _⟩
   case round =>
    obtain ⟨rfl,HB⟩:=hrel
    go_wp2
    go_ret
    exact ⟨rfl,HB⟩
  ·have e1:((n:Int) == 0) = false:=by simp; omega
   go_wp2
   go_loopw [45] (fun i wr => ∃ k:Nat,k≤n∧i = .int .i64 k∧Below w.heap.size w wr∧Blk wr w.heap.size 27 #[.string q.front,.slice A1 n c1,.slice A2 n c2,.slice A3 n c3,.slice A4 n c4]∧w.heap.size < wr.heap.size∧(List.range k).all (stB q n) = true) (fun i _ => n - (intOf i).toNat)
   case atStart => exact ⟨0,by omega,rfl,(Below.refl _ _).alloc (Nat.le_refl _) _,Blk.new _ _ _,by simp,rfl⟩
   case round =>
    obtain ⟨k,hk,rfl,HB,HK,hsz1,ha⟩:=hrel
    by_cases hlt:k < n
    ·have hi1:(0:Int)≤(k:Int):=by omega
     have hi2:(k:Int) < (n:Int):=by omega
     have b1:wr.cell? ⟨w.heap.size,1,none⟩ = some (.slice A1 n c1):=HK.cell 1
     have b2:wr.cell? ⟨w.heap.size,2,none⟩ = some (.slice A2 n c2):=HK.cell 2
     have b3:wr.cell? ⟨w.heap.size,3,none⟩ = some (.slice A3 n c3):=HK.cell 3
     have b4:wr.cell? ⟨w.heap.size,4,none⟩ = some (.slice A4 n c4):=HK.cell 4
     obtain ⟨g4,o4,rfl,hg4,d4⟩:=cell_at (d:=ByteArray.empty) (R4'.below HB) k hlt
     obtain ⟨g3,o3,rfl,hg3,d3⟩:=cell_at (d:=false) (R3'.below HB) k hlt
     obtain ⟨g1,o1,A1',c1',rfl,hg1,d1,Q1,y1,z1⟩:=(R1'.below HB).at_ k hlt
     obtain ⟨g2,o2,A2',c2',rfl,hg2,d2,Q2,y2,z2⟩:=(R2'.below HB).at_ k hlt
     have hq:(q.tail.getD k ByteArray.empty).size≤9223372036854775807:=by
      have:=ht (q.tail.getD k ByteArray.empty) (by rw [List.getD_eq_getElem?_getD,List.getElem?_eq_getElem (by omega)]; exact List.getElem_mem _)
      omega
     have hbad:stB q n k = false→okE (ckB q) = 1:=fun h => hsN.out k hlt h
     have Hb:=Lib.hid hbad
     clear hbad
     have hst:stB q n k = (decide ((q.tail.getD k ByteArray.empty).size≤4096) && (q.ends.getD k false || decide ((q.tail.getD k ByteArray.empty).size = 0)) && rowB (q.next.getD k []) (q.outs.getD k []) n):=rfl
     generalize q.tail.getD k ByteArray.empty = tl at *
     generalize q.ends.getD k false = en at *
     have Hst:=Lib.hid hst
     clear hst
     by_cases a1:(4096:Int) < (tl.size:Int)
     ·have hr:okE (ckB q) = 1:=Hb.out (by rw [Hst.out]; simp; omega)
      clear ha
      go_wp2
      go_ret
      refine ⟨?_,HB⟩
      rw [hr]
      rfl
     ·have hrow:∀ W,Below wr.heap.size wr W→Calls Tryz.prog 47 #[.slice A1' ((q.next.map fun r => r.map (Value.int .i64)).getD k []).length c1',.slice A2' ((q.outs.map fun r => r.map Value.string).getD k []).length c2',.int .i64 n] W (Gives (.bool (rowB (q.next.getD k []) (q.outs.getD k []) n)) W):=fun W hb => by
        have e1:(q.next.map fun r => r.map (Value.int .i64)).getD k [] = (q.next.getD k []).map (Value.int .i64):=by
         rw [List.getD_eq_getElem?_getD,List.getD_eq_getElem?_getD,List.getElem?_map]
         cases q.next[k]? <;> rfl
        have e2:(q.outs.map fun r => r.map Value.string).getD k [] = (q.outs.getD k []).map Value.string:=by
         rw [List.getD_eq_getElem?_getD,List.getD_eq_getElem?_getD,List.getElem?_map]
         cases q.outs[k]? <;> rfl
        rw [e1] at Q1 y1
        rw [e2] at Q2 y2
        rw [e1,e2]
        simp only [List.length_map] at Q1 Q2 y1 y2 ⊢
        refine row_any _ _ A1' A2' _ _ c1' c2' w.heap.size n W (Q1.below (hb.mono (by omega))) (Q2.below (hb.mono (by omega))) (by have:=hb.size; omega) (by unfold maxLen; omega) (Nat.le_trans y1 z1) (Nat.le_trans y2 z2) ?_
        intro s hs'
        have:(q.outs.getD k [])∈q.outs:=by
         rw [List.getD_eq_getElem?_getD,List.getElem?_eq_getElem (by omega)]; exact List.getElem_mem _
        have:=hs _ this s hs'
        unfold maxLen
        omega
      generalize hn1:((q.next.map fun r => r.map (Value.int .i64)).getD k []).length = m1' at *
      generalize hn2:((q.outs.map fun r => r.map Value.string).getD k []).length = m2' at *
      generalize rowB (q.next.getD k []) (q.outs.getD k []) n = rb at *
      clear hs ht hz R1' R2' R3' R4' Q1 Q2 hn1 hn2
      have Hgood:=Lib.hid (fun (h:stB q n k = true) => show (List.range (k + 1)).all (stB q n) = true by rw [List.range_succ,List.all_append,ha]; simpa using h)
      clear ha
      by_cases a2:en = false∧tl≠ByteArray.empty
      ·obtain ⟨rfl,a3⟩:=a2
       have a4:tl.toList.isEmpty = false:=by
        rw [Lib.toList_data,← Bool.not_eq_true]
        intro h
        exact a3 (ByteArray.ext (Array.toList_eq_nil_iff.1 (List.isEmpty_iff.1 h)))
       have hr:okE (ckB q) = 1:=Hb.out (by
        rw [Hst.out]
        have:tl.size≠0:=fun h => a3 (ByteArray.ext (Array.eq_empty_of_size_eq_zero h))
        simp [this])
       have Hr:=Lib.hid hr
       clear hr hrow
       go_wp2
       go_ret
       refine ⟨?_,HB⟩
       rw [Hr.out]
       rfl
      ·have b1':=cell_regrown b1
       have b2':=cell_regrown b2
       have d1':=cell_regrown d1
       have d2':=cell_regrown d2
       have hst2:stB q n k = rb:=by
        rw [Hst.out]
        have h1:decide (tl.size≤4096) = true:=decide_eq_true (by omega)
        rw [h1]
        rcases Bool.eq_false_or_eq_true en with h2 | h2
        ·rw [h2]; rfl
        ·have:tl = ByteArray.empty:=Decidable.byContradiction fun h => a2 ⟨h2,h⟩
         rw [this,h2]; rfl
       have Hst2:=Lib.hid hst2
       clear hst2
       have hcase:en = true∨(en = false∧tl = ByteArray.empty):=by
        rcases Bool.eq_false_or_eq_true en with h2 | h2
        ·exact .inl h2
        ·exact .inr ⟨h2,Decidable.byContradiction fun h => a2 ⟨h2,h⟩⟩
       clear a2
       have Hst3:=Lib.hid Hst.out
       clear Hst
       rcases rb with _ | _
       ·have hr:=Lib.hid (Hb.out Hst2.out)
        rcases hcase with rfl | ⟨rfl,rfl⟩
        all_goals
         go_wp2
         refine wp_region_quiet_below (by kernel_rfl) (by kernel_rfl) ?_
         repeat (go_big_quiet_step ((go_at_call 47; exact gives_quiet (hrow _ (below_regrown _ _ _)))))
         refine wpQuiet_nil ?_
         intro w5 hw5
         have HB5:=below_of hw5
         have L5:=HB.trans (HB5.mono (by omega))
         have HK5:=HK.below HB5 (by omega)
         have hz5:w.heap.size < w5.heap.size:=Nat.lt_of_lt_of_le hsz1 HB5.size
         clear hw5 hrow b1' b2' d1' d2' b1 b2 b3 b4 d1 d2 d3 d4
         go_wp2
         go_ret
         refine ⟨?_,L5⟩
         rw [hr.out]
         rfl
       ·have hr:=Lib.hid (Hgood.out Hst2.out)
        rcases hcase with rfl | ⟨rfl,rfl⟩
        all_goals
         go_wp2
         refine wp_region_quiet_below (by kernel_rfl) (by kernel_rfl) ?_
         repeat (go_big_quiet_step ((go_at_call 47; exact gives_quiet (hrow _ (below_regrown _ _ _)))))
         refine wpQuiet_nil ?_
         intro w5 hw5
         have HB5:=below_of hw5
         have L5:=HB.trans (HB5.mono (by omega))
         have HK5:=HK.below HB5 (by omega)
         have hz5:w.heap.size < w5.heap.size:=Nat.lt_of_lt_of_le hsz1 HB5.size
         clear hw5 hrow b1' b2' d1' d2' b1 b2 b3 b4 d1 d2 d3 d4
         go_wp2
         go_roundw
         case rel => exact ⟨k + 1,by omega,by go_num,L5,HK5,hz5,hr.out⟩
         case measure => simp [intOf]; omega
    ·have e:k = n:=by omega
     subst e
     have hr:okE (ckB q) = 0:=hcN2.out ha
     go_wp2
     go_ret
     refine ⟨?_,HB⟩
     rw [hr]
     rfl
end Go.Proofs.YtcondkihpmmnnaaGreatDoor
namespace Go.Proofs.YtcondkihpmmnnaaGreatDoor
open Go.Maps (Keyed)
theorem laidOut_:laidOutB Tryz.prog = true:=by kernel_rfl
theorem row_tip:(54:TypeId) < Tryz.prog.types.size:=of_decide_eq_true (by kernel_rfl)
theorem wide_tip:(match Tryz.prog.underlying 54 with | some (.array _ _) | some (.struct _) => true | _ => false) = true:=by kernel_rfl
theorem key_tip:Tryz.prog.keyTypeAt 3 54 = true:=by kernel_rfl
set_option maxRecDepth 100000 in
theorem law_tip:Keyed Tryz.prog 54:=Keyed.of_law (deep_law_laid laidOut_ (m:=3) (by omega) row_tip key_tip wide_tip)
theorem row_arc:(61:TypeId) < Tryz.prog.types.size:=of_decide_eq_true (by kernel_rfl)
theorem wide_arc:(match Tryz.prog.underlying 61 with | some (.array _ _) | some (.struct _) => true | _ => false) = true:=by kernel_rfl
theorem key_arc:Tryz.prog.keyTypeAt 3 61 = true:=by kernel_rfl
set_option maxRecDepth 100000 in
theorem law_arc:Keyed Tryz.prog 61:=Keyed.of_law (deep_law_laid laidOut_ (m:=3) (by omega) row_arc key_arc wide_arc)
end Go.Proofs.YtcondkihpmmnnaaGreatDoor
namespace Go.Proofs.YtcondkihpmmnnaaGreatDoor
open Go.RowKit Go.Sort
theorem set_cell (w:World) (m:Nat→Bool) (T:TypeId) (i:Nat) (h:i < 4) :
    (w.alloc (.cells #[.int .u64 ((word m 0:Nat):Int),.int .u64 ((word m 1:Nat):Int),.int .u64 ((word m 2:Nat):Int),.int .u64 ((word m 3:Nat):Int)] T)).cell? ⟨w.heap.size,i,none⟩ = some (.int .u64 ((word m i:Nat):Int)):=by
 rw [(Blk.new w T _).cell i]
 match i,h with
 | 0,_ => rfl
 | 1,_ => rfl
 | 2,_ => rfl
 | 3,_ => rfl
set_option maxHeartbeats 400000 in
theorem has_any (m:Nat→Bool) (b:Nat) (w:World) (hb:b < 256) :
    Calls Tryz.prog 110 #[.agg #[.int .u64 ((word m 0:Nat):Int),.int .u64 ((word m 1:Nat):Int),.int .u64 ((word m 2:Nat):Int),.int .u64 ((word m 3:Nat):Int)],.int .u8 b] w (Gives (.bool (m b)) w):=by
 have hc:=set_cell w m 58 (b / 64) (by omega)
 go_enter Tryz.func110,Tryz.ntmps110
 go_wp2
 go_ret
 refine ⟨?_,(Below.refl _ _).alloc (Nat.le_refl _) _⟩
 simp [word_has]
theorem new_blk (w:World) (m:Nat→Bool) (T:TypeId):Blk (w.alloc (.cells #[.int .u64 ((word m 0:Nat):Int),.int .u64 ((word m 1:Nat):Int),.int .u64 ((word m 2:Nat):Int),.int .u64 ((word m 3:Nat):Int)] T)) w.heap.size T (sCells m):=Blk.new w T _
theorem Blk.cells4 {w:World} {B:Nat} {T:TypeId} {m:Nat→Bool} (h:Blk w B T (sCells m)) :
    w.cell? ⟨B,0,none⟩ = some (.int .u64 ((word m 0:Nat):Int))∧w.cell? ⟨B,1,none⟩ = some (.int .u64 ((word m 1:Nat):Int))∧w.cell? ⟨B,2,none⟩ = some (.int .u64 ((word m 2:Nat):Int))∧w.cell? ⟨B,3,none⟩ = some (.int .u64 ((word m 3:Nat):Int)) :=
 ⟨h.cell 0,h.cell 1,h.cell 2,h.cell 3⟩
theorem Blk.cellAt {w:World} {B:Nat} {T:TypeId} {m:Nat→Bool} (h:Blk w B T (sCells m)) (k:Nat) (hk:k < 4) :
    w.cell? ⟨B,k,none⟩ = some (.int .u64 ((word m k:Nat):Int)):=(h.cell k).trans (sCells_get m k hk)
set_option maxHeartbeats 1000000 in
theorem both_any (m n:Nat→Bool) (w:World) :
    Calls Tryz.prog 58 #[.agg #[.int .u64 ((word m 0:Nat):Int),.int .u64 ((word m 1:Nat):Int),.int .u64 ((word m 2:Nat):Int),.int .u64 ((word m 3:Nat):Int)],.agg #[.int .u64 ((word n 0:Nat):Int),.int .u64 ((word n 1:Nat):Int),.int .u64 ((word n 2:Nat):Int),.int .u64 ((word n 3:Nat):Int)]] w (Gives (.agg #[.int .u64 ((word ((sBoth m n)) 0:Nat):Int),.int .u64 ((word ((sBoth m n)) 1:Nat):Int),.int .u64 ((word ((sBoth m n)) 2:Nat):Int),.int .u64 ((word ((sBoth m n)) 3:Nat):Int)]) w):=by
 go_enter Tryz.func58,Tryz.ntmps58
 go_wp2
 go_loopw [5,6] (fun _ i wr => ∃ k:Nat,k≤4∧i = .int .i64 k∧Blk wr w.heap.size 58 (sCells (sMix (sBoth m n) m k))∧Blk wr (w.heap.size + 1) 58 (sCells n) ∧
  Blk wr (w.heap.size + 1 + 1) 58 #[.int .u64 0,.int .u64 0,.int .u64 0,.int .u64 0]∧Below w.heap.size w wr) (fun _ i _ => 4 - (intOf i).toNat)
 case atStart =>
  refine ⟨0,by omega,rfl,?_,?_,?_,((((Below.refl _ _).alloc (Nat.le_refl _) _).alloc (by simp) _).alloc (by simp; omega) _)⟩
  ·have:=((new_blk w m 58).alloc (.cells (sCells n) 58)).alloc (.cells #[.int .u64 0,.int .u64 0,.int .u64 0,.int .u64 0] 58)
   rw [sCells_congr (m:=sMix (sBoth m n) m 0) (m':=m) (fun i _ => word_mix_zero _ _ i)]
   exact this
  ·have:=(Blk.new (w.alloc (.cells (sCells m) 58)) 58 (sCells n)).alloc (.cells #[.int .u64 0,.int .u64 0,.int .u64 0,.int .u64 0] 58)
   simp only [World.size_alloc] at this
   exact this
  ·have:=Blk.new ((w.alloc (.cells (sCells m) 58)).alloc (.cells (sCells n) 58)) 58 #[.int .u64 0,.int .u64 0,.int .u64 0,.int .u64 0]
   simp only [World.size_alloc] at this
   exact this
 case round =>
  obtain ⟨k,hk,rfl,hb0,hb1,hb2,HB⟩:=hrel
  by_cases hlt:k < 4
  ·have c0:=hb0.cellAt k hlt
   have f0:=hb0.frozen k
   have c1:=hb1.cellAt k hlt
   rw [word_mix_ge _ _ _ _ (Nat.le_refl _)] at c0
   have hor:=word_both m n k
   go_wp2
   go_region
   go_wp2
   go_roundw
   case rel =>
    refine ⟨k + 1,by omega,by go_num,?_,(hb1.far (p:=⟨w.heap.size,k,none⟩) (by simp) _).drew,(hb2.far (p:=⟨w.heap.size,k,none⟩) (by simp; omega) _).drew,(HB.setCell (p:=⟨w.heap.size,k,none⟩) (Nat.le_refl _) _).drew⟩
    rw [← sCells_mix _ _ _ hlt]
    exact (hb0.set_ k _).drew
   case measure => simp [intOf]; omega
  ·have hk4:k = 4:=by omega
   subst hk4
   rw [sCells_congr (m:=sMix (sBoth m n) m 4) (m':=sBoth m n) (fun i h => word_mix_lt _ _ _ i h)] at hb0
   obtain ⟨c0,c1,c2,c3⟩:=hb0.cells4
   have g0:=hb2.cell 0
   have g1:=hb2.cell 1
   have g2:=hb2.cell 2
   have g3:=hb2.cell 3
   have f0:=hb2.frozen 0
   have f1:=hb2.frozen 1
   have f2:=hb2.frozen 2
   have f3:=hb2.frozen 3
   simp at g0 g1 g2 g3
   go_wp2
   exact bodyPost_ret (v:=.agg #[.int .u64 ((word ((sBoth m n)) 0:Nat):Int),.int .u64 ((word ((sBoth m n)) 1:Nat):Int),.int .u64 ((word ((sBoth m n)) 2:Nat):Int),.int .u64 ((word ((sBoth m n)) 3:Nat):Int)]) (by simp [results,Tryz.results58,go_sem,g0,g1,g2,g3]) rfl
    ⟨rfl,(((HB.setCell (p:=⟨w.heap.size + 1 + 1,0,none⟩) (by simp; omega) _).setCell (p:=⟨w.heap.size + 1 + 1,1,none⟩) (by simp; omega) _).setCell (p:=⟨w.heap.size + 1 + 1,2,none⟩) (by simp; omega) _).setCell (p:=⟨w.heap.size + 1 + 1,3,none⟩) (by simp; omega) _⟩
end Go.Proofs.YtcondkihpmmnnaaGreatDoor
namespace Go.Proofs.YtcondkihpmmnnaaGreatDoor
def leavS (l:List Ar) (k s:Nat):List Ar:=(l.take k).filter fun a => decide (a.fr = (s:Int))
theorem leavS_succ (l:List Ar) (k:Nat) (hk:k < l.length) (s:Nat):leavS l (k + 1) s = if s = (l.getD k ar0).fr then leavS l k s ++ [l.getD k ar0] else leavS l k s:=by
 unfold leavS
 have e:l.take (k + 1) = l.take k ++ [l.getD k ar0]:=by
  rw [List.take_add_one,List.getElem?_eq_getElem hk,List.getD_eq_getElem?_getD,List.getElem?_eq_getElem hk]
  rfl
 rw [e,List.filter_append]
 by_cases h:(l.getD k ar0).fr = (s:Int)
 ·rw [if_pos h.symm,List.filter_cons_of_pos (by simpa using h)]; rfl
 ·rw [if_neg (fun x => h x.symm),List.filter_cons_of_neg (by simpa using h)]; simp
theorem leavS_len (l:List Ar) (k s:Nat):(leavS l k s).length≤l.length:=by
 unfold leavS
 exact Nat.le_trans (List.length_filter_le _ _) (by rw [List.length_take]; omega)
end Go.Proofs.YtcondkihpmmnnaaGreatDoor
