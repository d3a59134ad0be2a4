/- Lemmas, part 3 of 50. No condition. -/
import Derived.Test.YtcondkihpmmnnaaGreatDoorQ01
import Derived.StillTail
import Derived.Deep.QuietTactic
import Derived.Lib.QuietBelow
import Derived.Test.YtcondkihpmmnnaaGreatDoorQ02
import Derived.DeepKeys4
import Derived.Maps.OwnSet
import Derived.Maps.OwnOps
namespace Go.Proofs.YtcondkihpmmnnaaGreatDoor
open Go.RowKit Go.Sort
section
variable {P:Program} {ops:Array Oper} {md:Region.Mode} {C:World→Prop}
def headQ (P:Program) (md:Region.Mode) (ops:Array Oper) (C:World→Prop) (n:Nat) (L:Array Bool→Act→Prop):Nat→Array Bool→Act→Prop
 | 0 => L
 | f + 1 => fun listed a => Region.ready md ops listed≠[]∧∀ i∈Region.ready md ops listed,i < n∧qOp P ops C i (headQ P md ops C n L f (listed.setIfInBounds i true)) a
theorem any_of_headQ {n g:Nat} {L:Array Bool→Act→Prop} {Q':Exit→Act→World→Prop} (hL:∀ listed a w,C w→L listed a→wpAny P md ops Q' g listed a w) :
    ∀ (f:Nat) (listed:Array Bool) (a:Act) (w:World),C w→headQ P md ops C n L f listed a→wpAny P md ops Q' (f + g) listed a w
 | 0,_,_,_,hw,h => by rw [Nat.zero_add]; exact hL _ _ _ hw h
 | f + 1,_,_,_,hw,h => by
  rw [Nat.add_right_comm]
  exact ⟨fun h0 => absurd h0 h.1,fun i hi => wpOp_of_qOp hw (fun _ _ hw' h' => any_of_headQ hL f _ _ _ hw' h') (h.2 i hi).2⟩
theorem head_only {n i j:Nat} {listed:Array Bool} (hs:Region.sinkB md ops n = true) (hc:Region.chainB md ops n = true) (hn:n < ops.size) (inv:HeadInv md ops n listed) (hin:i < n)
    (hun:listed.getD i true = false) (hj:j∈Region.ready md ops listed):j < n:=by
 rcases Nat.lt_or_ge j n with h | h
 ·exact h
 ·exact absurd hj (tail_waits hs hc hn inv _ i rfl hin hun j h)
theorem headQ_first {n i:Nat} {oi:Oper} {v:Value} {L:Array Bool→Act→Prop} (hi:ops[i]? = some oi) (hsel:∀ (j:Nat) (o:Oper) cs b,ops[j]? = some o→o.op≠.select cs b)
    (hs:Region.sinkB md ops n = true) (hc:Region.chainB md ops n = true) (hn:n < ops.size) (hin:i < n) (hdone:∀ listed a,L listed a→∀ j∈Region.ready md ops listed,n≤j) :
    ∀ (f:Nat) (listed:Array Bool) (a:Act),HeadInv md ops n listed →
     (∀ j oj,ops[j]? = some oj→j≠i→listed.getD j true = false→(∀ e∈oj.after,Region.binds md e = true→e.on≠i)→oi.apart ops oj = true) →
     i∈Region.ready md ops listed→YieldsIn P ops C oi v a →
     headQ P md ops C n L f (listed.setIfInBounds i true) (a.put oi.dst v)→headQ P md ops C n L (f + 1) listed a
 | f,listed,a,inv,hfree,hr,hy,H => by
  have hun:=(mem_ready.1 hr).1
  refine ⟨List.ne_nil_of_mem hr,fun j hj => ⟨head_only hs hc hn inv hin hun hj,?_⟩⟩
  by_cases hji:j = i
  ·subst hji
   exact hy.qOp hi H
  cases f with
  | zero =>
   have h1:=hdone _ _ H j (ready_mono hj hji)
   have h2:=head_only hs hc hn inv hin hun hj
   exact absurd h2 (by omega)
  | succ f =>
   obtain ⟨hjun,oj,hoj,hall⟩:=mem_ready.1 hj
   have hnot:∀ e∈oj.after,Region.binds md e = true→e.on≠i:=fun e he hb heq => by
    have h1:=hall e he hb
    rw [heq,getD_both hun] at h1
    cases h1
   have h2:=qOp_put hoj (hfree j oj hoj hji hjun hnot) (fun cs b => hsel i oi cs b hi) (fun cs b => hsel j oj cs b hoj) hy (H.2 j (ready_mono hj hji)).2
   refine qOp_mono (fun a' h3 => ?_) h2
   refine headQ_first hi hsel hs hc hn hin hdone f (listed.setIfInBounds j true) a' (inv.set hj (head_only hs hc hn inv hin hun hj)) (fun k ok hk hki hkun hno => hfree k ok hk hki ?_ hno)
    (ready_mono hr (Ne.symm hji)) h3.1 (by rw [Array.setIfInBounds_comm _ _ hji]; exact h3.2)
   by_cases hjk:j = k
   ·subst hjk; exact hjun
   ·rw [getD_set_ne true hjk] at hkun; exact hkun
theorem headQ_lex {n g:Nat} {Lq:Act→Prop} (hsel:Region.noSelect ops = true) (hs:Region.sinkB md ops n = true) (hc:Region.chainB md ops n = true) (hn:n < ops.size) :
    ∀ (l:List Oper) (k:Nat) (listed:Array Bool) (a:Act),(∀ j,j < l.length→l[j]? = ops[k + j]?)→k + l.length = n→HeadInv md ops n listed →
    Region.lexHead md ops g l.length k listed = true→wpQuiet P ops C Lq l a→headQ P md ops C n (fun listed' a' => Region.seqB md ops g n listed' = true∧Lq a') l.length listed a
 | [],k,listed,a,_,hk,_,hB,h => by
  obtain rfl:k = n:=hk
  exact ⟨hB,h⟩
 | o :: l,k,listed,a,hl,hk,inv,hB,h => by
  have h0:ops[k]? = some o:=by simpa using (hl 0 (by simp)).symm
  simp only [List.length_cons,Region.lexHead,Bool.and_eq_true] at hB
  obtain ⟨⟨hr,hf⟩,hB'⟩:=hB
  have hkn:k < n:=by simp only [List.length_cons] at hk; omega
  have hr':k∈Region.ready md ops listed:=by simpa using hr
  obtain ⟨v,hy,hK⟩:=yieldsIn_of_qOp (C:=C) (K:=wpQuiet P ops C Lq l) h0 (by unfold qOp; simp only [h0]; exact h)
  refine headQ_first h0 (Region.noSelect_spec hsel) hs hc hn hkn (fun _ _ hL => seqB_ready hL.1) l.length listed a inv (Region.free_spec h0 hf) hr' hy
   (headQ_lex hsel hs hc hn l (k + 1) _ _ (fun j hj => ?_) (by simp only [List.length_cons] at hk; omega) (inv.set hr' hkn) hB' hK)
  have:=hl (j + 1) (by simp; omega)
  simpa [Nat.add_assoc,Nat.add_comm 1 j] using this
theorem wp_region_quiet_tail {id:Nat} {Q:Exit→Act→World→Prop} {a:Act} {w:World} {l:List Oper} (n:Nat) (hm:P.follows .mixedOrders = true) (hB:Region.lexTailB .any l.toArray n = true)
    (hC:C { w with drawn:=w.drawn + 1 }) (h:wpQuiet P l.toArray C (fun a' => ∀ w',C w'→wpList P l.toArray Q (l.drop n) a' w') (l.take n) a):(Code.region id l.toArray true).wp P Q a w:=by
 simp only [Region.lexTailB,Bool.and_eq_true,decide_eq_true_eq] at hB
 obtain ⟨⟨⟨⟨hsel,hn⟩,hs⟩,hc⟩,hlex⟩:=hB
 have hn':n < l.length:=by simpa using hn
 have htl:(l.take n).length = n:=by simp; omega
 have hdl:(l.drop n).length = l.toArray.size - n:=by simp
 have inv0:HeadInv .any l.toArray n (Array.replicate l.toArray.size false) :=
  ⟨by simp,fun j oj _ hl => (by rw [getD_replicate_false] at hl; cases hl),fun t _ ht => getD_in (by simpa using ht) (getD_replicate_false _ _)⟩
 have H:=headQ_lex (P:=P) (C:=C) (md:=.any) (g:=l.toArray.size - n) hsel hs hc hn (l.take n) 0 _ a (fun j hj => by
  rw [htl] at hj
  simp [hj]) (by simpa using htl) inv0 (by rw [htl]; exact hlex) h
 refine wp_region_any hm ?_
 have:=any_of_headQ (Q':=Q) (g:=l.toArray.size - n) (fun listed a' w' hw' hL => by
  have:=wpAny_of_seq (md:=.any) (Q':=Q) (l.drop n) n listed a' w' (fun j => by simp [List.getElem?_drop]) (by rw [hdl]; exact hL.1) (hL.2 w' hw')
  rwa [hdl] at this) _ _ _ _ hC H
 rw [htl,show n + (l.toArray.size - n) = l.toArray.size by omega] at this
 exact this
theorem wp_region_tail_below {id:Nat} {Q:Exit→Act→World→Prop} {a:Act} {w:World} {l:List Oper} (n:Nat) (hm:P.follows .mixedOrders = true) (hB:Region.lexTailB .any l.toArray n = true)
    (h:wpQuiet P l.toArray (fun w' => ∃ p:Regrown,w' = grow (redrawn w p.d) p.os) (fun a' => ∀ w',(∃ p:Regrown,w' = grow (redrawn w p.d) p.os)→wpList P l.toArray Q (l.drop n) a' w') (l.take n) a):(Code.region id l.toArray true).wp P Q a w :=
 wp_region_quiet_tail (C:=fun w' => ∃ p:Regrown,w' = grow (redrawn w p.d) p.os) n hm hB ⟨⟨w.drawn + 1,#[]⟩,by rw [grow_empty]; rfl⟩ h
end
end Go.Proofs.YtcondkihpmmnnaaGreatDoor
namespace Go.Proofs.YtcondkihpmmnnaaGreatDoor
open Go.RowKit Go.Sort
set_option maxRecDepth 100000 in
set_option maxHeartbeats 8000000 in
theorem row_any (Z:List Int) (O:List ByteArray) (A A':Option Addr) (n n' c c' B s:Nat) (w:World) (HR0:Reads w B 1 A n (Z.map (Value.int .i64))) (HR0':Reads w B 1 A' n' (O.map Value.string)) (hB:B≤w.heap.size)
    (hs:s≤maxLen) (hn:n≤maxLen) (hn':n'≤maxLen) (hO:∀ x∈O,x.size≤maxLen) :
    Calls Tryz.prog 47 #[.slice A n c,.slice A' n' c',.int .i64 s] w (Gives (.bool (rowB Z O s)) w):=by
 have HR:=HR0.more hB
 have HR':=HR0'.more hB
 clear HR0 HR0'
 have l1:Z.length = n:=by have:=HR.1; simpa using this
 have l2:O.length = n':=by have:=HR'.1; simpa using this
 unfold maxLen at hs hn hn'
 rcases Decidable.em (n≠256) with h1 | h1
 ·have e:rowB Z O s = false:=by unfold rowB; rw [l1,decide_eq_false h1]; rfl
  rw [e]
  go_enter Tryz.func47,Tryz.ntmps47
  go_wp2
  go_ret
  exact ⟨rfl,Below.refl _ _⟩
 rcases Decidable.em (n'≠256) with h2 | h2
 ·have e:rowB Z O s = false:=by unfold rowB; rw [l2,decide_eq_false h2]; simp
  rw [e]
  have h1:n = 256:=by omega
  subst h1
  go_enter Tryz.func47,Tryz.ntmps47
  go_wp2
  go_ret
  exact ⟨rfl,Below.refl _ _⟩
 have h1:n = 256:=by omega
 have h2:n' = 256:=by omega
 subst h1
 subst h2
 go_enter Tryz.func47,Tryz.ntmps47
 go_wp2
 go_loopw [19] (fun i wr => ∃ k:Nat,k≤256∧i = .int .i64 k∧Below w.heap.size w wr∧(List.range k).all (fun b => entB (Z.getD b 0) (O.getD b ByteArray.empty) s) = true) (fun i _ => 256 - (intOf i).toNat)
 case atStart => exact ⟨0,by omega,rfl,Below.refl _ _,rfl⟩
 case round =>
  obtain ⟨k,hk,rfl,HB,ha⟩:=hrel
  have hsz:=HB.size
  by_cases hlt:k < 256
  ·have hi1:(0:Int)≤(k:Int):=by omega
   have hi2:(k:Int) < (256:Int):=by omega
   obtain ⟨g,o,rfl,hgB,c0⟩:=cell_at (d:=0) (HR.below HB) k hlt
   obtain ⟨g',o',rfl,hgB',d0⟩:=cell_at (d:=ByteArray.empty) (HR'.below HB) k hlt
   have hbad:entB (Z.getD k 0) (O.getD k ByteArray.empty) s = false→rowB Z O s = false:=fun h => by
    unfold rowB; rw [range_all_false hlt h,Bool.and_false]
   have hgood:entB (Z.getD k 0) (O.getD k ByteArray.empty) s = true→(List.range (k + 1)).all (fun b => entB (Z.getD b 0) (O.getD b ByteArray.empty) s) = true:=fun h => by
    rw [List.range_succ,List.all_append,ha]; simpa using h
   have hq:(O.getD k ByteArray.empty).size≤9223372036854775807:=by
    have:=hO (O.getD k ByteArray.empty) (by rw [List.getD_eq_getElem?_getD,List.getElem?_eq_getElem (by omega)]; exact List.getElem_mem _)
    unfold maxLen at this; omega
   generalize Z.getD k 0 = z at *
   generalize O.getD k ByteArray.empty = q at *
   clear ha hO
   have Hb:=Lib.hid hbad; clear hbad
   have Hg:=Lib.hid hgood; clear hgood
   by_cases a1:z < -1
   ·go_wp2
    go_ret
    refine ⟨?_,HB⟩
    rw [Hb.out (by unfold entB; simp; omega)]
    rfl
   by_cases a2:(s:Int)≤z
   ·go_wp2
    go_ret
    refine ⟨?_,HB⟩
    rw [Hb.out (by unfold entB; simp; omega)]
    rfl
   by_cases a3:(4096:Int) < (q.size:Int)
   ·go_wp2
    go_ret
    refine ⟨?_,HB⟩
    rw [Hb.out (by unfold entB; simp; omega)]
    rfl
   by_cases a4:z = -1
   ·by_cases a5:q = ByteArray.empty
    ·subst a4
     subst a5
     go_wp2
     go_roundw
     case rel => exact ⟨k + 1,by omega,by go_num,HB,Hg.out (by unfold entB; simp; omega)⟩
     case measure => simp [intOf]; omega
    ·subst a4
     have a6:q.toList.isEmpty = false:=by
      rw [Lib.toList_data,← Bool.not_eq_true]
      intro h
      exact a5 (ByteArray.ext (Array.toList_eq_nil_iff.1 (List.isEmpty_iff.1 h)))
     go_wp2
     go_ret
     refine ⟨?_,HB⟩
     rw [Hb.out (by unfold entB; simp; intro _ _ h; exact a5 (by simpa using h))]
     rfl
   ·go_wp2
    go_roundw
    case rel => exact ⟨k + 1,by omega,by go_num,HB,Hg.out (by unfold entB; simp; omega)⟩
    case measure => simp [intOf]; omega
  ·have e:k = 256:=by omega
   subst e
   have er:rowB Z O s = true:=by unfold rowB; rw [l1,l2,ha]; rfl
   go_wp2
   go_ret
   refine ⟨?_,HB⟩
   rw [er]
   rfl
end Go.Proofs.YtcondkihpmmnnaaGreatDoor
namespace Go.Proofs.YtcondkihpmmnnaaGreatDoor
open Go.RowKit Go.Sort
def stB (q:SeqM) (n s:Nat):Bool :=
 decide ((q.tail.getD s ByteArray.empty).size≤4096) && (q.ends.getD s false || decide ((q.tail.getD s ByteArray.empty).size = 0)) && rowB (q.next.getD s []) (q.outs.getD s []) n
def ckB (q:SeqM):Bool :=
 decide (q.next.length≤1024) && decide (q.outs.length = q.next.length) && decide (q.ends.length = q.next.length) && decide (q.tail.length = q.next.length) && decide (q.front.size≤4096) &&
  (decide (q.next.length≠0) || decide (q.front.size = 0)) && (List.range q.next.length).all (stB q q.next.length)
theorem ck_false {q:SeqM} (h:¬ (q.next.length≤1024∧q.outs.length = q.next.length∧q.ends.length = q.next.length∧q.tail.length = q.next.length∧q.front.size≤4096∧(q.next.length≠0∨q.front.size = 0))):okE (ckB q) = 1:=by
 have:ckB q = false:=by
  rw [← Bool.not_eq_true]
  intro h2
  apply h
  unfold ckB at h2
  simp only [Bool.and_eq_true,Bool.or_eq_true,decide_eq_true_eq] at h2
  exact ⟨h2.1.1.1.1.1.1,h2.1.1.1.1.1.2,h2.1.1.1.1.2,h2.1.1.1.2,h2.1.1.2,h2.1.2⟩
 rw [this]; rfl
theorem ck_state {q:SeqM} {k:Nat} (hk:k < q.next.length) (h:stB q q.next.length k = false):okE (ckB q) = 1:=by
 have:ckB q = false:=by unfold ckB; rw [range_all_false hk h,Bool.and_false]
 rw [this]; rfl
set_option maxRecDepth 100000 in
set_option maxHeartbeats 8000000 in
theorem seqCheck_any (q:SeqM) (v:Value) (B:Nat) (w:World) (HS:SeqAt w B q v) (hB:B≤w.heap.size) :
    Calls Tryz.prog 18 #[v] w (Gives (.int .i64 (okE (ckB q))) w):=by
 obtain ⟨A1,c1,A2,c2,A3,c3,A4,c4,rfl,hf,l1,l2,l3,l4,m1,m2,m3,m4,R1,hz,R2,hs,R3,R4,ht⟩:=HS
 have hfN:=Lib.hid (@ck_false q)
 have hsN:=Lib.hid (fun k => @ck_state q k)
 have hck:(q.next.length≤1024∧q.outs.length = q.next.length∧q.ends.length = q.next.length∧q.tail.length = q.next.length∧q.front.size≤4096∧(q.next.length≠0∨q.front.size = 0))→(List.range q.next.length).all (stB q q.next.length) = true→okE (ckB q) = 0:=by
  rintro ⟨h1,h2,h3,h4,h5,h6⟩ h7
  have:ckB q = true:=by
   unfold ckB
   simp only [Bool.and_eq_true,Bool.or_eq_true,decide_eq_true_eq]
   exact ⟨⟨⟨⟨⟨⟨h1,h2⟩,h3⟩,h4⟩,h5⟩,h6⟩,h7⟩
  rw [this]; rfl
 have hcN:=Lib.hid hck
 clear hck
 unfold maxLen at *
 rcases Decidable.em (¬ (q.next.length≤1024∧q.outs.length = q.next.length∧q.ends.length = q.next.length∧q.tail.length = q.next.length∧q.front.size≤4096∧(q.next.length≠0∨q.front.size = 0))) with h | h
 ·generalize okE (ckB q) = r at *
  have hr:r = 1:=hfN.out h
  subst hr
  clear hfN hsN hcN
  generalize q.next.length = n1 at *
  generalize q.outs.length = n2 at *
  generalize q.ends.length = n3 at *
  generalize q.tail.length = n4 at *
  go_enter Tryz.func18,Tryz.ntmps18
  by_cases d1:1024 < n1
  ·go_wp2
   go_ret
   exact ⟨rfl,(Below.refl _ _).alloc (Nat.le_refl _) _⟩
  by_cases d2:n2 = n1
  ·subst d2
   by_cases d3:n3 = n2
   ·subst d3
    by_cases d4:n4 = n3
    ·subst d4
     by_cases d5:4096 < q.front.size
     ·go_wp2
      go_ret
      exact ⟨rfl,(Below.refl _ _).alloc (Nat.le_refl _) _⟩
     ·have d6:n4 = 0:=by omega
      have d7:q.front.toList.isEmpty = false:=by
       rw [Lib.toList_data,← Bool.not_eq_true]
       intro h2
       have:=Array.toList_eq_nil_iff.1 (List.isEmpty_iff.1 h2)
       exact h ⟨by omega,rfl,rfl,rfl,by omega,.inr (by show q.front.data.size = 0; rw [this]; rfl)⟩
      subst d6
      clear h
      go_wp2
      go_ret
      exact ⟨rfl,(Below.refl _ _).alloc (Nat.le_refl _) _⟩
    ·have e4:((n4:Int) != (n3:Int)) = true:=by simp; omega
     go_wp2
     go_ret
     exact ⟨rfl,(Below.refl _ _).alloc (Nat.le_refl _) _⟩
   ·go_wp2
    go_ret
    exact ⟨rfl,(Below.refl _ _).alloc (Nat.le_refl _) _⟩
  ·go_wp2
   go_ret
   exact ⟨rfl,(Below.refl _ _).alloc (Nat.le_refl _) _⟩
 ·have h':=Decidable.not_not.1 h
  clear h hfN
  have hcN2:=Lib.hid (fun h7 => hcN.out h' h7)
  clear hcN
  obtain ⟨h1,h2,h3,h4,h5,h6⟩:=h'
  have R1':=R1.more hB
  have R2':=R2.more hB
  have R3':=R3.more hB
  have R4':=R4.more hB
  clear R1 R2 R3 R4
  have H:=Lib.hid h6
  clear h6
  generalize hn:q.next.length = n at *
  rw [h2] at R2' l2 ⊢
  rw [h3] at R3' l3 ⊢
  rw [h4] at R4' l4 ⊢
  go_enter Tryz.func18,Tryz.ntmps18
  by_cases e0:n = 0
  ·subst e0
   have hq:q.front = ByteArray.empty:=ByteArray.ext (Array.eq_empty_of_size_eq_zero (by have:=H.out; simpa using this))
   rw [hq]
   have hr:okE (ckB q) = 0:=hcN2.out rfl
   rw [hr]
   clear hcN2 hsN
   go_wp2
   go_loopw [45] (fun i wr => i = .int .i64 0∧Below w.heap.size w wr) (fun i _ => 0 - (intOf i).toNat)
   case atStart => exact ⟨rfl,(Below.refl _ _).alloc (Nat.le_refl _) _⟩
   case round =>
    obtain ⟨rfl,HB⟩:=hrel
    go_wp2
    go_ret
    exact ⟨rfl,HB⟩
  ·have e1:((n:Int) == 0) = false:=by simp; omega
   go_wp2
   go_loopw [45] (fun i wr => ∃ k:Nat,k≤n∧i = .int .i64 k∧Below w.heap.size w wr∧Blk wr w.heap.size 27 #[.string q.front,.slice A1 n c1,.slice A2 n c2,.slice A3 n c3,.slice A4 n c4]∧w.heap.size < wr.heap.size∧(List.range k).all (stB q n) = true) (fun i _ => n - (intOf i).toNat)
   case atStart => exact ⟨0,by omega,rfl,(Below.refl _ _).alloc (Nat.le_refl _) _,Blk.new _ _ _,by simp,rfl⟩
   case round =>
    obtain ⟨k,hk,rfl,HB,HK,hsz1,ha⟩:=hrel
    by_cases hlt:k < n
    ·have hi1:(0:Int)≤(k:Int):=by omega
     have hi2:(k:Int) < (n:Int):=by omega
     have b1:wr.cell? ⟨w.heap.size,1,none⟩ = some (.slice A1 n c1):=HK.cell 1
     have b2:wr.cell? ⟨w.heap.size,2,none⟩ = some (.slice A2 n c2):=HK.cell 2
     have b3:wr.cell? ⟨w.heap.size,3,none⟩ = some (.slice A3 n c3):=HK.cell 3
     have b4:wr.cell? ⟨w.heap.size,4,none⟩ = some (.slice A4 n c4):=HK.cell 4
     obtain ⟨g4,o4,rfl,hg4,d4⟩:=cell_at (d:=ByteArray.empty) (R4'.below HB) k hlt
     obtain ⟨g3,o3,rfl,hg3,d3⟩:=cell_at (d:=false) (R3'.below HB) k hlt
     obtain ⟨g1,o1,A1',c1',rfl,hg1,d1,Q1,y1,z1⟩:=(R1'.below HB).at_ k hlt
     obtain ⟨g2,o2,A2',c2',rfl,hg2,d2,Q2,y2,z2⟩:=(R2'.below HB).at_ k hlt
     have hq:(q.tail.getD k ByteArray.empty).size≤9223372036854775807:=by
      have:=ht (q.tail.getD k ByteArray.empty) (by rw [List.getD_eq_getElem?_getD,List.getElem?_eq_getElem (by omega)]; exact List.getElem_mem _)
      omega
     have hbad:stB q n k = false→okE (ckB q) = 1:=fun h => hsN.out k hlt h
     have Hb:=Lib.hid hbad
     clear hbad
     have hst:stB q n k = (decide ((q.tail.getD k ByteArray.empty).size≤4096) && (q.ends.getD k false || decide ((q.tail.getD k ByteArray.empty).size = 0)) && rowB (q.next.getD k []) (q.outs.getD k []) n):=rfl
     generalize q.tail.getD k ByteArray.empty = tl at *
     generalize q.ends.getD k false = en at *
     have Hst:=Lib.hid hst
     clear hst
     by_cases a1:(4096:Int) < (tl.size:Int)
     ·have hr:okE (ckB q) = 1:=Hb.out (by rw [Hst.out]; simp; omega)
      clear ha
      go_wp2
      go_ret
      refine ⟨?_,HB⟩
      rw [hr]
      rfl
     ·have hrow:∀ W,Below wr.heap.size wr W→Calls Tryz.prog 47 #[.slice A1' ((q.next.map fun r => r.map (Value.int .i64)).getD k []).length c1',.slice A2' ((q.outs.map fun r => r.map Value.string).getD k []).length c2',.int .i64 n] W (Gives (.bool (rowB (q.next.getD k []) (q.outs.getD k []) n)) W):=fun W hb => by
        have e1:(q.next.map fun r => r.map (Value.int .i64)).getD k [] = (q.next.getD k []).map (Value.int .i64):=by
         rw [List.getD_eq_getElem?_getD,List.getD_eq_getElem?_getD,List.getElem?_map]
         cases q.next[k]? <;> rfl
        have e2:(q.outs.map fun r => r.map Value.string).getD k [] = (q.outs.getD k []).map Value.string:=by
         rw [List.getD_eq_getElem?_getD,List.getD_eq_getElem?_getD,List.getElem?_map]
         cases q.outs[k]? <;> rfl
        rw [e1] at Q1 y1
        rw [e2] at Q2 y2
        rw [e1,e2]
        simp only [List.length_map] at Q1 Q2 y1 y2 ⊢
        refine row_any _ _ A1' A2' _ _ c1' c2' w.heap.size n W (Q1.below (hb.mono (by omega))) (Q2.below (hb.mono (by omega))) (by have:=hb.size; omega) (by unfold maxLen; omega) (Nat.le_trans y1 z1) (Nat.le_trans y2 z2) ?_
        intro s hs'
        have:(q.outs.getD k [])∈q.outs:=by
         rw [List.getD_eq_getElem?_getD,List.getElem?_eq_getElem (by omega)]; exact List.getElem_mem _
        have:=hs _ this s hs'
        unfold maxLen
        omega
      generalize hn1:((q.next.map fun r => r.map (Value.int .i64)).getD k []).length = m1' at *
      generalize hn2:((q.outs.map fun r => r.map Value.string).getD k []).length = m2' at *
      generalize rowB (q.next.getD k []) (q.outs.getD k []) n = rb at *
      clear hs ht hz R1' R2' R3' R4' Q1 Q2 hn1 hn2
      have Hgood:=Lib.hid (fun (h:stB q n k = true) => show (List.range (k + 1)).all (stB q n) = true by rw [List.range_succ,List.all_append,ha]; simpa using h)
      clear ha
      by_cases a2:en = false∧tl≠ByteArray.empty
      ·obtain ⟨rfl,a3⟩:=a2
       have a4:tl.toList.isEmpty = false:=by
        rw [Lib.toList_data,← Bool.not_eq_true]
        intro h
        exact a3 (ByteArray.ext (Array.toList_eq_nil_iff.1 (List.isEmpty_iff.1 h)))
       have hr:okE (ckB q) = 1:=Hb.out (by
        rw [Hst.out]
        have:tl.size≠0:=fun h => a3 (ByteArray.ext (Array.eq_empty_of_size_eq_zero h))
        simp [this])
       have Hr:=Lib.hid hr
       clear hr hrow
       go_wp2
       go_ret
       refine ⟨?_,HB⟩
       rw [Hr.out]
       rfl
      ·have b1':=cell_regrown b1
       have b2':=cell_regrown b2
       have d1':=cell_regrown d1
       have d2':=cell_regrown d2
       have hst2:stB q n k = rb:=by
        rw [Hst.out]
        have h1:decide (tl.size≤4096) = true:=decide_eq_true (by omega)
        rw [h1]
        rcases Bool.eq_false_or_eq_true en with h2 | h2
        ·rw [h2]; rfl
        ·have:tl = ByteArray.empty:=Decidable.byContradiction fun h => a2 ⟨h2,h⟩
         rw [this,h2]; rfl
       have Hst2:=Lib.hid hst2
       clear hst2
       have hcase:en = true∨(en = false∧tl = ByteArray.empty):=by
        rcases Bool.eq_false_or_eq_true en with h2 | h2
        ·exact .inl h2
        ·exact .inr ⟨h2,Decidable.byContradiction fun h => a2 ⟨h2,h⟩⟩
       clear a2
       have Hst3:=Lib.hid Hst.out
       clear Hst
       rcases rb with _ | _
       ·have hr:=Lib.hid (Hb.out Hst2.out)
        rcases hcase with rfl | ⟨rfl,rfl⟩
        all_goals
         go_wp2
         refine wp_region_quiet_below (by kernel_rfl) (by kernel_rfl) ?_
         repeat (go_big_quiet_step ((go_at_call 47; exact gives_quiet (hrow _ (below_regrown _ _ _)))))
         refine wpQuiet_nil ?_
         intro w5 hw5
         have HB5:=below_of hw5
         have L5:=HB.trans (HB5.mono (by omega))
         have HK5:=HK.below HB5 (by omega)
         have hz5:w.heap.size < w5.heap.size:=Nat.lt_of_lt_of_le hsz1 HB5.size
         clear hw5 hrow b1' b2' d1' d2' b1 b2 b3 b4 d1 d2 d3 d4
         go_wp2
         go_ret
         refine ⟨?_,L5⟩
         rw [hr.out]
         rfl
       ·have hr:=Lib.hid (Hgood.out Hst2.out)
        rcases hcase with rfl | ⟨rfl,rfl⟩
        all_goals
         go_wp2
         refine wp_region_quiet_below (by kernel_rfl) (by kernel_rfl) ?_
         repeat (go_big_quiet_step ((go_at_call 47; exact gives_quiet (hrow _ (below_regrown _ _ _)))))
         refine wpQuiet_nil ?_
         intro w5 hw5
         have HB5:=below_of hw5
         have L5:=HB.trans (HB5.mono (by omega))
         have HK5:=HK.below HB5 (by omega)
         have hz5:w.heap.size < w5.heap.size:=Nat.lt_of_lt_of_le hsz1 HB5.size
         clear hw5 hrow b1' b2' d1' d2' b1 b2 b3 b4 d1 d2 d3 d4
         go_wp2
         go_roundw
         case rel => exact ⟨k + 1,by omega,by go_num,L5,HK5,hz5,hr.out⟩
         case measure => simp [intOf]; omega
    ·have e:k = n:=by omega
     subst e
     have hr:okE (ckB q) = 0:=hcN2.out ha
     go_wp2
     go_ret
     refine ⟨?_,HB⟩
     rw [hr]
     rfl
end Go.Proofs.YtcondkihpmmnnaaGreatDoor
namespace Go.Proofs.YtcondkihpmmnnaaGreatDoor
def leavS (l:List Ar) (k s:Nat):List Ar:=(l.take k).filter fun a => decide (a.fr = (s:Int))
theorem leavS_succ (l:List Ar) (k:Nat) (hk:k < l.length) (s:Nat):leavS l (k + 1) s = if s = (l.getD k ar0).fr then leavS l k s ++ [l.getD k ar0] else leavS l k s:=by
 unfold leavS
 have e:l.take (k + 1) = l.take k ++ [l.getD k ar0]:=by
  rw [List.take_add_one,List.getElem?_eq_getElem hk,List.getD_eq_getElem?_getD,List.getElem?_eq_getElem hk]
  rfl
 rw [e,List.filter_append]
 by_cases h:(l.getD k ar0).fr = (s:Int)
 ·rw [if_pos h.symm,List.filter_cons_of_pos (by simpa using h)]; rfl
 ·rw [if_neg (fun x => h x.symm),List.filter_cons_of_neg (by simpa using h)]; simp
theorem leavS_len (l:List Ar) (k s:Nat):(leavS l k s).length≤l.length:=by
 unfold leavS
 exact Nat.le_trans (List.length_filter_le _ _) (by rw [List.length_take]; omega)
end Go.Proofs.YtcondkihpmmnnaaGreatDoor
namespace Go.Proofs.YtcondkihpmmnnaaGreatDoor
open Go.Maps (Keyed)
theorem laidOut_:laidOutB Tryz.prog = true:=by kernel_rfl
theorem row_tip:(54:TypeId) < Tryz.prog.types.size:=of_decide_eq_true (by kernel_rfl)
theorem wide_tip:(match Tryz.prog.underlying 54 with | some (.array _ _) | some (.struct _) => true | _ => false) = true:=by kernel_rfl
theorem key_tip:Tryz.prog.keyTypeAt 3 54 = true:=by kernel_rfl
set_option maxRecDepth 100000 in
theorem law_tip:Keyed Tryz.prog 54:=Keyed.of_law (deep_law_laid laidOut_ (m:=3) (by omega) row_tip key_tip wide_tip)
theorem row_arc:(61:TypeId) < Tryz.prog.types.size:=of_decide_eq_true (by kernel_rfl)
theorem wide_arc:(match Tryz.prog.underlying 61 with | some (.array _ _) | some (.struct _) => true | _ => false) = true:=by kernel_rfl
theorem key_arc:Tryz.prog.keyTypeAt 3 61 = true:=by kernel_rfl
set_option maxRecDepth 100000 in
theorem law_arc:Keyed Tryz.prog 61:=Keyed.of_law (deep_law_laid laidOut_ (m:=3) (by omega) row_arc key_arc wide_arc)
end Go.Proofs.YtcondkihpmmnnaaGreatDoor
namespace Go.Proofs.YtcondkihpmmnnaaGreatDoor
open Go.RowKit Go.Sort
theorem set_cell (w:World) (m:Nat→Bool) (T:TypeId) (i:Nat) (h:i < 4) :
    (w.alloc (.cells #[.int .u64 ((word m 0:Nat):Int),.int .u64 ((word m 1:Nat):Int),.int .u64 ((word m 2:Nat):Int),.int .u64 ((word m 3:Nat):Int)] T)).cell? ⟨w.heap.size,i,none⟩ = some (.int .u64 ((word m i:Nat):Int)):=by
 rw [(Blk.new w T _).cell i]
 match i,h with
 | 0,_ => rfl
 | 1,_ => rfl
 | 2,_ => rfl
 | 3,_ => rfl
set_option maxHeartbeats 400000 in
theorem has_any (m:Nat→Bool) (b:Nat) (w:World) (hb:b < 256) :
    Calls Tryz.prog 110 #[.agg #[.int .u64 ((word m 0:Nat):Int),.int .u64 ((word m 1:Nat):Int),.int .u64 ((word m 2:Nat):Int),.int .u64 ((word m 3:Nat):Int)],.int .u8 b] w (Gives (.bool (m b)) w):=by
 have hc:=set_cell w m 58 (b / 64) (by omega)
 go_enter Tryz.func110,Tryz.ntmps110
 go_wp2
 go_ret
 refine ⟨?_,(Below.refl _ _).alloc (Nat.le_refl _) _⟩
 simp [word_has]
theorem new_blk (w:World) (m:Nat→Bool) (T:TypeId):Blk (w.alloc (.cells #[.int .u64 ((word m 0:Nat):Int),.int .u64 ((word m 1:Nat):Int),.int .u64 ((word m 2:Nat):Int),.int .u64 ((word m 3:Nat):Int)] T)) w.heap.size T (sCells m):=Blk.new w T _
theorem Blk.cells4 {w:World} {B:Nat} {T:TypeId} {m:Nat→Bool} (h:Blk w B T (sCells m)) :
    w.cell? ⟨B,0,none⟩ = some (.int .u64 ((word m 0:Nat):Int))∧w.cell? ⟨B,1,none⟩ = some (.int .u64 ((word m 1:Nat):Int))∧w.cell? ⟨B,2,none⟩ = some (.int .u64 ((word m 2:Nat):Int))∧w.cell? ⟨B,3,none⟩ = some (.int .u64 ((word m 3:Nat):Int)) :=
 ⟨h.cell 0,h.cell 1,h.cell 2,h.cell 3⟩
theorem Blk.cellAt {w:World} {B:Nat} {T:TypeId} {m:Nat→Bool} (h:Blk w B T (sCells m)) (k:Nat) (hk:k < 4) :
    w.cell? ⟨B,k,none⟩ = some (.int .u64 ((word m k:Nat):Int)):=(h.cell k).trans (sCells_get m k hk)
set_option maxHeartbeats 1000000 in
theorem both_any (m n:Nat→Bool) (w:World) :
    Calls Tryz.prog 58 #[.agg #[.int .u64 ((word m 0:Nat):Int),.int .u64 ((word m 1:Nat):Int),.int .u64 ((word m 2:Nat):Int),.int .u64 ((word m 3:Nat):Int)],.agg #[.int .u64 ((word n 0:Nat):Int),.int .u64 ((word n 1:Nat):Int),.int .u64 ((word n 2:Nat):Int),.int .u64 ((word n 3:Nat):Int)]] w (Gives (.agg #[.int .u64 ((word ((sBoth m n)) 0:Nat):Int),.int .u64 ((word ((sBoth m n)) 1:Nat):Int),.int .u64 ((word ((sBoth m n)) 2:Nat):Int),.int .u64 ((word ((sBoth m n)) 3:Nat):Int)]) w):=by
 go_enter Tryz.func58,Tryz.ntmps58
 go_wp2
 go_loopw [5,6] (fun _ i wr => ∃ k:Nat,k≤4∧i = .int .i64 k∧Blk wr w.heap.size 58 (sCells (sMix (sBoth m n) m k))∧Blk wr (w.heap.size + 1) 58 (sCells n) ∧
  Blk wr (w.heap.size + 1 + 1) 58 #[.int .u64 0,.int .u64 0,.int .u64 0,.int .u64 0]∧Below w.heap.size w wr) (fun _ i _ => 4 - (intOf i).toNat)
 case atStart =>
  refine ⟨0,by omega,rfl,?_,?_,?_,((((Below.refl _ _).alloc (Nat.le_refl _) _).alloc (by simp) _).alloc (by simp; omega) _)⟩
  ·have:=((new_blk w m 58).alloc (.cells (sCells n) 58)).alloc (.cells #[.int .u64 0,.int .u64 0,.int .u64 0,.int .u64 0] 58)
   rw [sCells_congr (m:=sMix (sBoth m n) m 0) (m':=m) (fun i _ => word_mix_zero _ _ i)]
   exact this
  ·have:=(Blk.new (w.alloc (.cells (sCells m) 58)) 58 (sCells n)).alloc (.cells #[.int .u64 0,.int .u64 0,.int .u64 0,.int .u64 0] 58)
   simp only [World.size_alloc] at this
   exact this
  ·have:=Blk.new ((w.alloc (.cells (sCells m) 58)).alloc (.cells (sCells n) 58)) 58 #[.int .u64 0,.int .u64 0,.int .u64 0,.int .u64 0]
   simp only [World.size_alloc] at this
   exact this
 case round =>
  obtain ⟨k,hk,rfl,hb0,hb1,hb2,HB⟩:=hrel
  by_cases hlt:k < 4
  ·have c0:=hb0.cellAt k hlt
   have f0:=hb0.frozen k
   have c1:=hb1.cellAt k hlt
   rw [word_mix_ge _ _ _ _ (Nat.le_refl _)] at c0
   have hor:=word_both m n k
   go_wp2
   go_region
   go_wp2
   go_roundw
   case rel =>
    refine ⟨k + 1,by omega,by go_num,?_,(hb1.far (p:=⟨w.heap.size,k,none⟩) (by simp) _).drew,(hb2.far (p:=⟨w.heap.size,k,none⟩) (by simp; omega) _).drew,(HB.setCell (p:=⟨w.heap.size,k,none⟩) (Nat.le_refl _) _).drew⟩
    rw [← sCells_mix _ _ _ hlt]
    exact (hb0.set_ k _).drew
   case measure => simp [intOf]; omega
  ·have hk4:k = 4:=by omega
   subst hk4
   rw [sCells_congr (m:=sMix (sBoth m n) m 4) (m':=sBoth m n) (fun i h => word_mix_lt _ _ _ i h)] at hb0
   obtain ⟨c0,c1,c2,c3⟩:=hb0.cells4
   have g0:=hb2.cell 0
   have g1:=hb2.cell 1
   have g2:=hb2.cell 2
   have g3:=hb2.cell 3
   have f0:=hb2.frozen 0
   have f1:=hb2.frozen 1
   have f2:=hb2.frozen 2
   have f3:=hb2.frozen 3
   simp at g0 g1 g2 g3
   go_wp2
   exact bodyPost_ret (v:=.agg #[.int .u64 ((word ((sBoth m n)) 0:Nat):Int),.int .u64 ((word ((sBoth m n)) 1:Nat):Int),.int .u64 ((word ((sBoth m n)) 2:Nat):Int),.int .u64 ((word ((sBoth m n)) 3:Nat):Int)]) (by simp [results,Tryz.results58,go_sem,g0,g1,g2,g3]) rfl
    ⟨rfl,(((HB.setCell (p:=⟨w.heap.size + 1 + 1,0,none⟩) (by simp; omega) _).setCell (p:=⟨w.heap.size + 1 + 1,1,none⟩) (by simp; omega) _).setCell (p:=⟨w.heap.size + 1 + 1,2,none⟩) (by simp; omega) _).setCell (p:=⟨w.heap.size + 1 + 1,3,none⟩) (by simp; omega) _⟩
end Go.Proofs.YtcondkihpmmnnaaGreatDoor
