/- Lemmas, part 26 of 39. No condition. -/
import Derived.Test.YtcondkihpmmnnaaGreatDoorUniqueP25
import Derived.Test.YtcondkihpmmnnaaGreatDoorUniqueP22
import Derived.Test.YtcondkihpmmnnaaGreatDoorUniqueP11
import Derived.Test.YtcondkihpmmnnaaGreatDoorUniqueP15
import Derived.Test.YtcondkihpmmnnaaGreatDoorUniqueP23
import Derived.Tactics2
import Derived.Recover
import Derived.RegionTactic
import Derived.ChangeAlike
import Derived.Laws.Pointers
import Derived.Test.YtcondkihpmmnnaaGreatDoorUniqueP06
namespace Go.Proofs.YtcondkihpmmnnaaGreatDoor
open Go.RowKit Go.Sort
theorem maker_sliceC {Q:Exit→Act→World→Prop} {base:Act} {w:World} {ds:List Tmp} {o:Oper} {d:Tmp} (hd:o.dst = some d) (hg:o.guard = none) (n:Nat) (t:TypeId) (hop:o.op = Op.makeSlice t (.const (.int .i64 (n:Int))) (.const (.int .i64 (n:Int))))
    (e:TypeId) (i:TypeInfo) (z:Value) (size:Nat) (h1:Tryz.prog.underlying t = some (.slice e)) (h2:Tryz.prog.info? e = some i) (h3:i.zero = some z) (h4:i.size = size)
    (b2:i.bytes * n≤281474976710656) (b3:n≤maxLen) :
    Maker Tryz.prog Q base w ds o d (fun v W => ∃ g,v = .slice (some ⟨g,0,none⟩) n n∧w.heap.size≤g∧W.ownsRow w.heap.size e size v n (madeCells z.cells (n * size)).toList):=by
 refine ⟨hd,hg,?_,?_⟩
 ·rintro v W W' ⟨g,rfl,hgz,ho⟩ hb
  exact ⟨g,rfl,hgz,own_below ho hb⟩
 ·intro act W K hag hb hK
  have hl':act.eval (.const (.int .i64 (n:Int))) = .int .i64 (n:Int):=rfl
  obtain ⟨w',hrun,r1,r2⟩:=run_make_full (P:=Tryz.prog) W w.heap.size t e i z size h1 h2 h3 h4 .i64 .i64 n b2 b3 hb.size
  unfold Oper.wp
  simp [execOp,hop,hl',hrun,Result.andThen]
  show K (act.put o.dst _) _
  rw [hd]
  exact hK _ _ ((Below.refl _ W).grown r2 (Nat.le_refl _) (fun k e => by cases e)) ⟨W.heap.size,rfl,hb.size,r1⟩
theorem int_infoS:(Tryz.prog.info? 3).map (fun i => (i.zero,i.size,i.bytes)) = some (some (.int .i64 0),1,8):=by kernel_rfl
theorem slI_info:(Tryz.prog.info? 55).map (fun i => (i.zero,i.size,i.bytes)) = some (some (.slice none 0 0),1,24):=by kernel_rfl
theorem slS_info:(Tryz.prog.info? 25).map (fun i => (i.zero,i.size,i.bytes)) = some (some (.slice none 0 0),1,24):=by kernel_rfl
theorem bool_infoS:(Tryz.prog.info? 4).map (fun i => (i.zero,i.size,i.bytes)) = some (some (.bool false),1,1):=by kernel_rfl
def Old (P0 G MB:Nat) (k:Nat):Prop:=k < P0∧k≠G∧k≠MB
def DoPost (B0 P0 G MB:Nat) (vA vE:Value) (most:Nat) (fr:ByteArray) (ns:Nat) (t:Fs) (S:Mk) (s:Nat) (w:World) (e:Ending) (w':World):Prop :=
 Below B0 w w'∧(∀ g,Old P0 G MB g→w'.heap[g]? = w.heap[g]?)∧match doF t most S s with
  | .error k => e = faultE k
  | .ok S' => e = .returned (.tuple #[])∧(∃ vR' vN' vO' vE' vT' tv' nv' ov' M',MkV w' B0 P0 G MB vA vE (most:Int) fr vR' vN' vO' vE' vT' tv' nv' ov' S' M')∧(∀ r∈S'.rows,RowG ns r)∧S'.rows.length≤most
theorem SlR.of_blk {M:Nat→Prop} {w:World} {g:Nat} {T:TypeId} {xs:List Value} {n:Nat} (h:Blk w g T xs.toArray) (hn:xs.length = n) (hm:n≤maxLen) (hM:¬ M g):SlR M w 1 (.slice (some ⟨g,0,none⟩) n n) n xs :=
 ⟨g,n,rfl,Nat.le_refl _,hm,h.lt,hM,by rw [Nat.mul_one]; exact hn,fun _ => ⟨_,rfl,h.lt,fun j u hj => by rw [add_mk,Nat.zero_add,h.cell]; simpa using hj⟩⟩
theorem SlR.far {M:Nat→Prop} {w:World} {k n:Nat} {v:Value} {xs:List Value} (h:SlR M w k v n xs) {p:Addr} (hp:M p.block) (u:Value):SlR M (w.setCell p u) k v n xs :=
 h.keep (by simp) fun g _ hg => Below.heap_setCell _ _ _ _ (fun e => hg (e ▸ hp))
theorem SlR.reads {M:Nat→Prop} {w:World} {k n c g:Nat} {xs:List Value} (h:SlR M w k (.slice (some ⟨g,0,none⟩) n c) n xs):Reads w w.heap.size k (some ⟨g,0,none⟩) n xs∧g < w.heap.size∧¬ M g:=by
 obtain ⟨g',c',e,h1,h2,h3,h4,h5⟩:=h
 injection e with e1 e2 e3
 injection e1 with e1
 injection e1 with e1
 subst e1
 exact ⟨h5,h3,h4⟩
theorem RowM.slr {M:Nat→Prop} {w:World} {g c:Nat} {l:List Tp} (h:RowM encT 2 w g l.length fun a => l.getD a tp0) (hc:l.length≤c) (hm:c≤maxLen) (hg:g < w.heap.size) (hM:¬ M g):SlR M w 2 (.slice (some ⟨g,0,none⟩) l.length c) l.length (encs encT l) :=
 ⟨g,c,rfl,hc,hm,hg,hM,h.reads encT_len (by decide) tp0 (Nat.le_refl _) hg⟩
section
variable {w w' w1:World} {B0 P0 G MB:Nat} {vA vE:Value} {most:Int} {fr:ByteArray} {vR vN vO vEn vT:Value} {tv nv ov:List Value} {S:Mk} {M M':Nat→Prop}
theorem MkV.notInt (h:MkV w B0 P0 G MB vA vE most fr vR vN vO vEn vT tv nv ov S M) {g:Nat} {cs:Array Value} (hb:Blk w g 3 cs):¬ Mine G MB vR vN vO vEn vT g:=by
 rintro (e | e | e | e | e | e | e)
 ·exact Blk.ne_ hb h.box (by decide) e
 ·exact num_block h.num hb e
 ·exact own_blk h.oR hb (by decide) e
 ·exact own_blk h.oN hb (by decide) e
 ·exact own_blk h.oO hb (by decide) e
 ·exact own_blk h.oE hb (by decide) e
 ·exact own_blk h.oT hb (by decide) e
theorem MkV.notText (h:MkV w B0 P0 G MB vA vE most fr vR vN vO vEn vT tv nv ov S M) {g:Nat} {cs:Array Value} (hb:Blk w g 9 cs) (hT:vT.ownBlock≠some g):¬ Mine G MB vR vN vO vEn vT g:=by
 rintro (e | e | e | e | e | e | e)
 ·exact Blk.ne_ hb h.box (by decide) e
 ·exact num_block h.num hb e
 ·exact own_blk h.oR hb (by decide) e
 ·exact own_blk h.oN hb (by decide) e
 ·exact own_blk h.oO hb (by decide) e
 ·exact own_blk h.oE hb (by decide) e
 ·exact hT e
end
end Go.Proofs.YtcondkihpmmnnaaGreatDoor
namespace Go.Proofs.YtcondkihpmmnnaaGreatDoor
open Go.RowKit Go.Sort
section
variable {K:Act→World→Prop} {Q:Exit→Act→World→Prop} {a:Act} {W:World} {o:Oper}
theorem op_assign (x:Operand) (hop:o.op = Op.assign x) (hK:K (a.put o.dst (a.eval x)) W):o.wp Tryz.prog a W K Q:=by
 unfold Oper.wp
 simp [execOp,hop]
 exact hK
end
theorem eval_put_same {a:Act} {d:Tmp} (h:d < a.tmps.size) (v:Value):(a.put (some d) v).eval (.tmp d) = v:=eval_tmp (put_same h v)
theorem eval_put_other {a:Act} {d x:Tmp} (h:d≠x) (v:Value):(a.put (some d) v).eval (.tmp x) = a.eval (.tmp x):=by
 unfold Act.eval
 simp only [Array.getD_eq_getD_getElem?,put_other h]
theorem pair_below {id:Nat} {base:Act} {w:World} {o0 o1 o2 o3:Oper} {Q:Exit→Act→World→Prop} {d0 d1 e0:Tmp} {F0 F1:Value→World→Prop}
    (hm:Tryz.prog.follows .mixedOrders = true) (hB:holdGB .any #[o0,o1,o2,o3] 3 [] [0,1,2] (fun i => if i = 2 then [0] else []) = true)
    (h01:d0≠d1) (_h0e:d0≠e0) (h1e:d1≠e0) (hz:d0 < base.tmps.size∧d1 < base.tmps.size)
    (m0:Maker Tryz.prog (NoPanic Q) base w.drew [d0,d1,e0] o0 d0 F0) (m1:Maker Tryz.prog (NoPanic Q) base w.drew [d0,d1,e0] o1 d1 F1)
    (g2:o2.guard = none) (d2:o2.dst = some e0) (p2:o2.op = Op.assign (.tmp d0))
    (h:∀ v0 v1 W,Below w.heap.size w W→F0 v0 W→F1 v1 W→wpList Tryz.prog #[o0,o1,o2,o3] (NoPanic Q) [o3] (((base.put (some d0) v0).put (some d1) v1).put (some e0) v0) W) :
    (Code.region id #[o0,o1,o2,o3] true).wp Tryz.prog Q base w:=by
 have hw:∀ W,Below w.drew.heap.size w.drew W→Below w.heap.size w W:=fun W hb => (Below.refl _ w).drew.trans hb
 have size_put:∀ (a:Act) (d:Tmp) (v:Value),(a.put (some d) v).tmps.size = a.tmps.size:=fun a d v => put_size v
 refine wp_region_fanG_below (l:=[o0,o1,o2,o3]) 3 [] [0,1,2] (fun i => if i = 2 then [0] else []) hm hB rfl rfl
  (fun is a W => Below w.drew.heap.size w.drew W∧((is = [0,1,2]∧a = base)∨(is = [1,2]∧∃ v0,F0 v0 W∧a = base.put (some d0) v0)∨(is = [0,2]∧∃ v1,F1 v1 W∧a = base.put (some d1) v1) ∨
   (is = [2]∧∃ v0 v1,F0 v0 W∧F1 v1 W∧a = (base.put (some d0) v0).put (some d1) v1)∨(is = [1]∧∃ v0,F0 v0 W∧a = (base.put (some d0) v0).put (some e0) v0) ∨
   (is = []∧∃ v0 v1,F0 v0 W∧F1 v1 W∧a = ((base.put (some d0) v0).put (some d1) v1).put (some e0) v0))) ?_ ?_ ?_
 ·rintro is a W ⟨hb,hc⟩ i hi hd
  rcases hc with ⟨rfl,rfl⟩ | ⟨rfl,v0,f0,rfl⟩ | ⟨rfl,v1,f1,rfl⟩ | ⟨rfl,v0,v1,f0,f1,rfl⟩ | ⟨rfl,v0,f0,rfl⟩ | ⟨rfl,_⟩
  ·simp only [List.mem_cons,List.not_mem_nil,or_false] at hi
   rcases hi with rfl | rfl | rfl
   ·refine ⟨o0,rfl,m0.guard,m0.makes _ W _ (fun _ _ => rfl) hb fun v W' hb' hf => ?_⟩
    have hb2:=hb.trans (hb'.mono hb.size)
    exact ⟨regrown_of_below (hw _ hb2),hb2,.inr (.inl ⟨rfl,v,hf,rfl⟩)⟩
   ·refine ⟨o1,rfl,m1.guard,m1.makes _ W _ (fun _ _ => rfl) hb fun v W' hb' hf => ?_⟩
    have hb2:=hb.trans (hb'.mono hb.size)
    exact ⟨regrown_of_below (hw _ hb2),hb2,.inr (.inr (.inl ⟨rfl,v,hf,rfl⟩))⟩
   ·exact absurd (by simp) (hd 0 (by simp))
  ·simp only [List.mem_cons,List.not_mem_nil,or_false] at hi
   rcases hi with rfl | rfl
   ·refine ⟨o1,rfl,m1.guard,m1.makes _ W _ (put_agrees (by simp) fun _ _ => rfl) hb fun v W' hb' hf => ?_⟩
    have hb2:=hb.trans (hb'.mono hb.size)
    exact ⟨regrown_of_below (hw _ hb2),hb2,.inr (.inr (.inr (.inl ⟨rfl,v0,v,m0.stays _ _ _ f0 hb',hf,rfl⟩)))⟩
   ·refine ⟨o2,rfl,g2,op_assign _ p2 ?_⟩
    rw [d2,eval_put_same hz.1]
    exact ⟨regrown_of_below (hw _ hb),hb,.inr (.inr (.inr (.inr (.inl ⟨rfl,v0,f0,rfl⟩))))⟩
  ·simp only [List.mem_cons,List.not_mem_nil,or_false] at hi
   rcases hi with rfl | rfl
   ·refine ⟨o0,rfl,m0.guard,m0.makes _ W _ (put_agrees (by simp) fun _ _ => rfl) hb fun v W' hb' hf => ?_⟩
    have hb2:=hb.trans (hb'.mono hb.size)
    exact ⟨regrown_of_below (hw _ hb2),hb2,.inr (.inr (.inr (.inl ⟨rfl,v,v1,hf,m1.stays _ _ _ f1 hb',put_comm _ (Ne.symm h01) _ _⟩)))⟩
   ·exact absurd (by simp) (hd 0 (by simp))
  ·obtain rfl:=List.mem_singleton.1 hi
   refine ⟨o2,rfl,g2,op_assign _ p2 ?_⟩
   rw [d2,eval_put_other (Ne.symm h01),eval_put_same hz.1]
   exact ⟨regrown_of_below (hw _ hb),hb,.inr (.inr (.inr (.inr (.inr ⟨rfl,v0,v1,f0,f1,rfl⟩))))⟩
  ·obtain rfl:=List.mem_singleton.1 hi
   refine ⟨o1,rfl,m1.guard,m1.makes _ W _ (put_agrees (by simp) (put_agrees (by simp) fun _ _ => rfl)) hb fun v W' hb' hf => ?_⟩
   have hb2:=hb.trans (hb'.mono hb.size)
   exact ⟨regrown_of_below (hw _ hb2),hb2,.inr (.inr (.inr (.inr (.inr ⟨rfl,v0,v,m0.stays _ _ _ f0 hb',hf,put_comm _ (Ne.symm h1e) _ _⟩))))⟩
  ·cases hi
 ·rintro a W ⟨hb,hc⟩
  rcases hc with ⟨h,_⟩ | ⟨h,_⟩ | ⟨h,_⟩ | ⟨h,_⟩ | ⟨h,_⟩ | ⟨_,v0,v1,f0,f1,rfl⟩
  ·cases h
  ·cases h
  ·cases h
  ·cases h
  ·cases h
  ·exact h v0 v1 W (hw _ hb) f0 f1
 ·exact wpQuiet_nil ⟨Below.refl _ _,.inl ⟨rfl,rfl⟩⟩
end Go.Proofs.YtcondkihpmmnnaaGreatDoor
namespace Go.Proofs.YtcondkihpmmnnaaGreatDoor
open Go.RowKit Go.Sort
theorem MkV.mine {w:World} {B0 P0 G MB:Nat} {vA vE:Value} {most:Int} {fr:ByteArray} {vR vN vO vEn vT:Value} {tv nv ov:List Value} {S:Mk} {M:Nat→Prop} (h:MkV w B0 P0 G MB vA vE most fr vR vN vO vEn vT tv nv ov S M) {g:Nat} (hg:Mine G MB vR vN vO vEn vT g):M g:=by
 rcases hg with rfl | rfl | e | e | e | e | e
 ·exact h.mG
 ·exact h.mM
 ·exact h.mR g e
 ·exact h.mN g e
 ·exact h.mO g e
 ·exact h.mE g e
 ·exact h.mT g e
theorem MkV.step {w w2 w3:World} {B0 P0 G MB:Nat} {vA vE:Value} {most:Int} {fr:ByteArray} {vR vN vO vEn vT:Value} {tv nv ov:List Value} {S:Mk} {M:Nat→Prop} (h:MkV w B0 P0 G MB vA vE most fr vR vN vO vEn vT tv nv ov S M)
    (hb2:Below w.heap.size w w2) {u:Value} (hu:∀ g,u.ownBlock = some g→P0≤g) (hg3:w2.grownBy w3 u.ownBlock) (i:Nat) (v:Value):Below B0 w (w3.setCell ⟨G,i,none⟩ v)∧∀ g,Old P0 G MB g→(w3.setCell ⟨G,i,none⟩ v).heap[g]? = w.heap[g]?:=by
 have h1:=h.le
 have h2:=h.sz
 have h3:=h.gG
 have h4:=hb2.size
 refine ⟨((hb2.mono (by omega)).grown hg3 (by omega) (fun k hk => by have:=hu k hk; omega)).setCell (p:=⟨G,i,none⟩) h3 v,fun g hg => ?_⟩
 have h5:=hg.1
 rw [Below.heap_setCell _ _ _ _ (show g≠G from hg.2.1),hg3.block g (by omega) (fun e => by have:=hu g e.symm; omega),hb2.block g (by omega)]
theorem MkV.carry {w w2 w3:World} {B0 P0 G MB:Nat} {vA vE:Value} {most:Int} {fr:ByteArray} {vR vN vO vEn vT:Value} {tv nv ov:List Value} {S:Mk} {M:Nat→Prop} (h:MkV w B0 P0 G MB vA vE most fr vR vN vO vEn vT tv nv ov S M)
    (hb2:Below w.heap.size w w2) {u v':Value} (hu:∀ g,u.ownBlock = some g→M g) (hg3:w2.grownBy w3 u.ownBlock) (hnew:v'.ownBlock = u.ownBlock∨v'.ownBlock = some w2.heap.size) (i:Nat) {k n:Nat} {v:Value} {xs:List Value} (hs:SlR M w k v n xs) :
    SlR (fun g => M g∨v'.ownBlock = some g) (w3.setCell ⟨G,i,none⟩ v') k v n xs:=by
 have z2:=hb2.size
 have z3:=hg3.size
 refine (hs.set (M':=fun g => M g∨v'.ownBlock = some g) fun g hlt e => ?_).keep (by simp; omega) fun g hlt hn => ?_
 ·rcases e with e | e
  ·exact e
  ·rcases hnew with f | f
   ·exact hu g (f ▸ e)
   ·rw [f] at e; have:=Option.some.inj e; omega
 ·have hn':¬ M g:=fun e => hn (.inl e)
  rw [Below.heap_setCell _ _ _ _ (show g≠G from fun e => hn' (e ▸ h.mG)),hg3.block g (by omega) (fun e => hn' (hu g e.symm)),hb2.block g hlt]
theorem numsV_full (l:List Int) (n:Nat) (h:l.length = n):numsV l n = (l.map (Value.int .i64)).toArray:=by
 unfold numsV; rw [h,Nat.sub_self]; simp
theorem textsV_full (l:List ByteArray) (n:Nat) (h:l.length = n):textsV l n = (l.map Value.string).toArray:=by
 unfold textsV; rw [h,Nat.sub_self]; simp
structure DoW (w wr:World) (B0 P0 G MB:Nat) (vA vE:Value) (most:Nat) (fr:ByteArray) (vR vN vO vEn vT:Value) (tv nv ov:List Value) (S:Mk) (rows:List (List Tp)) (M:Nat→Prop) (gN gO:Nat) (cN cO:Array Value) (gl n cl:Nat) (l:List Tp) (ns:Nat):Prop where
 mv:MkV wr B0 P0 G MB vA vE (most:Int) fr vR vN vO vEn vT tv nv ov { S with rows:=rows } M
 hN:Blk wr gN 3 cN
 hO:Blk wr gO 9 cO
 tO:vT.ownBlock≠some gO
 pN:P0≤gN
 pO:P0≤gO
 mN:M gN
 mO:M gO
 bd:∀ g,M g→g < wr.heap.size
 row:SlR M wr 2 (.slice (some ⟨gl,0,none⟩) n cl) n (encs encT l)
 good:∀ r∈rows,RowG ns r
 len:rows.length≤most
 bel:Below B0 w wr
 old:∀ g,Old P0 G MB g→wr.heap[g]? = w.heap[g]?
section
variable {w wr w':World} {B0 P0 G MB:Nat} {vA vE:Value} {most:Nat} {fr:ByteArray} {vR vN vO vEn vT:Value} {tv nv ov:List Value} {S:Mk} {rows:List (List Tp)} {M:Nat→Prop} {gN gO:Nat} {cN cO:Array Value} {gl n cl:Nat} {l:List Tp} {ns:Nat}
theorem DoW.call (h:DoW w wr B0 P0 G MB vA vE most fr vR vN vO vEn vT tv nv ov S rows M gN gO cN cO gl n cl l ns) (hb:Below wr.heap.size wr w'):DoW w w' B0 P0 G MB vA vE most fr vR vN vO vEn vT tv nv ov S rows M gN gO cN cO gl n cl l ns :=
 { h with
  mv:=h.mv.call hb
  hN:=h.hN.below hb h.hN.lt
  hO:=h.hO.below hb h.hO.lt
  bd:=fun g hg => Nat.lt_of_lt_of_le (h.bd g hg) hb.size
  row:=h.row.below hb
  bel:=h.bel.trans (hb.mono (Nat.le_trans h.mv.le h.mv.sz))
  old:=fun g hg => (hb.block g (Nat.lt_of_lt_of_le hg.1 h.mv.sz)).trans (h.old g hg) }
theorem DoW.ne (h:DoW w wr B0 P0 G MB vA vE most fr vR vN vO vEn vT tv nv ov S rows M gN gO cN cO gl n cl l ns):gN≠gO:=Blk.ne_ h.hN h.hO (by decide)
theorem DoW.setN (h:DoW w wr B0 P0 G MB vA vE most fr vR vN vO vEn vT tv nv ov S rows M gN gO cN cO gl n cl l ns) (i:Nat) (u:Value):DoW w (wr.setCell ⟨gN,i,none⟩ u) B0 P0 G MB vA vE most fr vR vN vO vEn vT tv nv ov S rows M gN gO (cN.setIfInBounds i u) cO gl n cl l ns :=
 { h with
  mv:=h.mv.far h.mN (h.mv.notInt h.hN) u
  hN:=h.hN.set_ i u
  hO:=h.hO.far (fun e => h.ne e.symm) u
  bd:=fun g hg => by simpa using h.bd g hg
  row:=h.row.far h.mN u
  bel:=h.bel.setCell (p:=⟨gN,i,none⟩) (Nat.le_trans h.mv.le h.pN) u
  old:=fun g hg => by
   have h1:=h.pN
   have h2:=hg.1
   exact (Below.heap_setCell _ _ _ _ (show g≠gN by omega)).trans (h.old g hg) }
theorem DoW.setO (h:DoW w wr B0 P0 G MB vA vE most fr vR vN vO vEn vT tv nv ov S rows M gN gO cN cO gl n cl l ns) (i:Nat) (u:Value):DoW w (wr.setCell ⟨gO,i,none⟩ u) B0 P0 G MB vA vE most fr vR vN vO vEn vT tv nv ov S rows M gN gO cN (cO.setIfInBounds i u) gl n cl l ns :=
 { h with
  mv:=h.mv.far h.mO (h.mv.notText h.hO h.tO) u
  hN:=h.hN.far h.ne u
  hO:=h.hO.set_ i u
  bd:=fun g hg => by simpa using h.bd g hg
  row:=h.row.far h.mO u
  bel:=h.bel.setCell (p:=⟨gO,i,none⟩) (Nat.le_trans h.mv.le h.pO) u
  old:=fun g hg => by
   have h1:=h.pO
   have h2:=hg.1
   exact (Below.heap_setCell _ _ _ _ (show g≠gO by omega)).trans (h.old g hg) }
theorem DoW.stated (h:DoW w wr B0 P0 G MB vA vE most fr vR vN vO vEn vT tv nv ov S rows M gN gO cN cO gl n cl l ns) {r:List Tp} (hr:RowG ns r) {i:Nat} {rows':List (List Tp)} (hst:stateF most rows r = .ok (i,rows')) {vR':Value} {tv':List Value}
    (hm:MkV w' B0 P0 G MB vA vE (most:Int) fr vR' vN vO vEn vT tv' nv ov { S with rows:=rows' } (fun g => M g∨vR'.ownBlock = some g)) (hnew:∀ g,vR'.ownBlock = some g→vR.ownBlock = some g∨wr.heap.size≤g)
    (hk:∀ g,g < wr.heap.size→g≠G→g≠MB→vR.ownBlock≠some g→w'.heap[g]? = wr.heap[g]?) (hb:Below B0 wr w') :
    DoW w w' B0 P0 G MB vA vE most fr vR' vN vO vEn vT tv' nv ov S rows' (fun g => M g∨vR'.ownBlock = some g) gN gO cN cO gl n cl l ns:=by
 have hz:=hb.size
 have key:∀ g,g < wr.heap.size→¬ M g→w'.heap[g]? = wr.heap[g]?:=fun g hg hn => hk g hg (fun e => hn (e ▸ h.mv.mG)) (fun e => hn (e ▸ h.mv.mM)) (fun e => hn (h.mv.mR g e))
 obtain ⟨_,p2,_,p4⟩:=stateF_ok hst h.len
 have nN:=h.mv.notInt h.hN
 have nO:=h.mv.notText h.hO h.tO
 unfold Mine at nN nO
 simp only [not_or] at nN nO
 exact {
  mv:=hm
  hN:=(hk gN h.hN.lt nN.1 nN.2.1 nN.2.2.1).trans h.hN
  hO:=(hk gO h.hO.lt nO.1 nO.2.1 nO.2.2.1).trans h.hO
  tO:=h.tO
  pN:=h.pN
  pO:=h.pO
  mN:=.inl h.mN
  mO:=.inl h.mO
  bd:=fun g hg => by
   rcases hg with hg | hg
   ·have:=h.bd g hg; omega
   ·exact (own_lt hm.oR g hg).2
  row:=(h.row.set (M':=fun g => M g∨vR'.ownBlock = some g) fun g hg e => by
   rcases e with e | e
   ·exact e
   ·rcases hnew g e with f | f
    ·exact h.mv.mR g f
    ·omega).keep hz fun g hg hn => key g hg (fun e => hn (.inl e))
  good:=fun q hq => by
   rcases p4 q hq with hq | rfl
   ·exact h.good q hq
   ·exact hr
  len:=p2
  bel:=h.bel.trans hb
  old:=fun g hg => by
   have h1:=hg.1
   have h2:=h.mv.sz
   refine (hk g (by omega) hg.2.1 hg.2.2 (fun e => ?_)).trans (h.old g hg)
   have:=(own_lt h.mv.oR g e).1
   omega }
end
end Go.Proofs.YtcondkihpmmnnaaGreatDoor
namespace Go.Proofs.YtcondkihpmmnnaaGreatDoor
open Go.RowKit Go.Sort
set_option maxRecDepth 100000 in
set_option maxHeartbeats 8000000 in
theorem do_any {B0 P0 G MB:Nat} {most:Nat} {fr:ByteArray} {vR vN vO vEn vT:Value} {tv nv ov:List Value} {S:Mk} {M:Nat→Prop} (t:Fs) (LA LE ns s:Nat) (w:World)
    (h:MkV w B0 P0 G MB (.slice (some ⟨LA,0,none⟩) ns ns) (.slice (some ⟨LE,0,none⟩) ns ns) (most:Int) fr vR vN vO vEn vT tv nv ov S M)
    (HA:GrpP (Old P0 G MB) encA 8 w LA ns (arcsO t.arcs)) (HE:GrpP (Old P0 G MB) encO 1 w LE ns (endO t.ends)) (hP:Pow w B0)
    (hs:s < S.rows.length) (hr:∀ r∈S.rows,RowG ns r) (hrl:S.rows.length≤most) (hm:most≤1024) (hns:ns≤1024)
    (hln:S.next.length≤1024∧S.outs.length≤1024∧S.ends.length≤1024∧S.tails.length≤1024)
    (ha:t.arcs.length≤16384∧∀ x∈t.arcs,x.out.size≤1024∧StW x.set∧0≤x.to∧x.to < (ns:Int)) (he:t.ends.length≤1024∧∀ x∈t.ends,x.out.size≤1024) :
    Calls Tryz.prog 64 #[.pointer (some ⟨G,0,none⟩),.int .i64 (s:Int)] w (DoPost B0 P0 G MB (.slice (some ⟨LA,0,none⟩) ns ns) (.slice (some ⟨LE,0,none⟩) ns ns) most fr ns t S s w):=by
 obtain ⟨Ar,cr,rfl,hcr,hcm,hcb⟩:=own_form h.oR
 obtain ⟨gR,rfl,hgR1,hgR2⟩:=hcb (by omega)
 obtain ⟨An,cn,rfl,_,_,_⟩:=own_form h.oN
 obtain ⟨Ao,co,rfl,_,_,_⟩:=own_form h.oO
 obtain ⟨Ae,ce,rfl,_,_,_⟩:=own_form h.oE
 obtain ⟨At,ct,rfl,_,_,_⟩:=own_form h.oT
 have hbx:=h.box
 have c3:=hbx.cell 3
 have d0:=own_cellAt h.oR s hs nilV
 have hsl:=h.tips s hs
 have hrow:=hr _ (getD_mem hs)
 obtain ⟨gl,cl,hv,hl1,hl2,hl3,hl4,hl5⟩:=hsl
 have hsl:=h.tips s hs
 rw [hv] at d0 hsl
 have hHe:=HE.read (B:=w.heap.size) (fun k hk => Nat.lt_of_lt_of_le hk.1 h.sz)
 have htail:=tail_any G w.heap.size (some ⟨gl,0,none⟩) (S.rows.getD s []).length cl t.ends (S.rows.getD s []) w _ _ _ _ _ _ _ LE ns most fr hbx hl5 hHe (Nat.le_refl _) hbx.lt (fun x hx => hrow.all x hx) he (by have:=hrow.len; omega) hns
 have HTail:=Lib.hid htail
 obtain ⟨l,hl⟩:∃ l,l = S.rows.getD s []:=⟨_,rfl⟩
 rw [← hl] at HTail hsl hrow hl5 d0 hl1
 have HL:=Lib.hid hl
 have HRow:=Lib.hid hrow
 have HRows:=Lib.hid hr
 have HArc:=Lib.hid ha
 have hDo:=Lib.hid (show doF t most S s = match tailF t.ends l with
  | .error e => .error e
  | .ok (e,o) =>
   match bytesF t.arcs most l S.rows 256 with
   | .error e => .error e
   | .ok (rows,next,outs) => .ok ⟨rows,S.next ++ [next],S.outs ++ [outs],S.ends ++ [e],S.tails ++ [o]⟩ by rw [hl]; rfl)
 have hs1:(0:Int)≤(s:Int):=by omega
 have hs2:(s:Int) < (S.rows.length:Int):=by omega
 clear htail hHe hl hrow hr ha he hv
 generalize hrn:S.rows.length = nr at *
 generalize hlen:l.length = n at *
 go_enter Tryz.func64,Tryz.ntmps64
 go_wp2_with fail
 refine HTail.out.mono ?_
 rintro e w1 ⟨hb1,hT⟩
 clear c3 d0 hbx
 have h1:=h.call hb1
 have hB01:B0≤w.heap.size:=Nat.le_trans h.le h.sz
 have hP0:P0≤w.heap.size:=h.sz
 rcases htf:tailF t.ends l with ek | ⟨eb,eo⟩
 ·rw [htf] at hT
  have hp:DoPost B0 P0 G MB (.slice (some ⟨LA,0,none⟩) ns ns) (.slice (some ⟨LE,0,none⟩) ns ns) most fr ns t S s w (faultE ek) w1:=⟨hb1.mono hB01,fun g hg => hb1.block g (Nat.lt_of_lt_of_le hg.1 hP0),by rw [hDo.out,htf]⟩
  have HP:=Lib.hid hp
  unfold faultE at hT
  subst hT
  clear hp htf
  go_wp2
  exact ⟨rfl,HP.out⟩
 ·rw [htf] at hT
  subst hT
  go_wp2
  obtain ⟨iN,hiN,hN0,hN1,hN2⟩:=info_parts int_infoS
  obtain ⟨iO,hiO,hO0,hO1,hO2⟩:=info_parts str_infoS
  refine pair_below (d0:=24) (d1:=25) (e0:=7) (by kernel_rfl) (by kernel_rfl) (by decide) (by decide) (by decide) ⟨by show 24 < 103; decide,by show 25 < 103; decide⟩
   (maker_sliceC rfl rfl 256 55 rfl 3 iN _ 1 Tryz.underlying55 hiN hN0 hN1 (by rw [hN2]; decide) (by unfold maxLen; decide))
   (maker_sliceC rfl rfl 256 25 rfl 9 iO _ 1 Tryz.underlying25 hiO hO0 hO1 (by rw [hO2]; decide) (by unfold maxLen; decide)) rfl rfl rfl ?_
  rintro vi vj w2 hb2' ⟨gN,rfl,gN1,hoN⟩ ⟨gO,rfl,gO1,hoO⟩
  rw [show (Value.int .i64 0).cells = #[Value.int .i64 0] from rfl,Nat.mul_one,toList_madeCells_one] at hoN
  rw [show (Value.string ByteArray.empty).cells = #[Value.string ByteArray.empty] from rfl,Nat.mul_one,toList_madeCells_one] at hoO
  have HN:=blk_of_made hoN
  have HO:=blk_of_made hoO
  rw [show (List.replicate 256 (Value.int .i64 0)).toArray = numsV [] 256 from rfl] at HN
  rw [show (List.replicate 256 (Value.string ByteArray.empty)).toArray = textsV [] 256 from rfl] at HO
  clear hoN hoO hiN hN0 hN1 hN2 hiO hO0 hO1 hO2
  have hTO:∀ g,(Value.slice At S.tails.length ct).ownBlock = some g→g≠gO:=fun g e => by have:=(own_lt h1.oT g e).2; have:w1.heap.size≤gO:=gO1; omega
  have hz1:=hb1.size
  have hz2:=hb2'.size
  have gN1':w1.heap.size≤gN:=gN1
  have gO1':w1.heap.size≤gO:=gO1
  have hmin:∀ g,g < w1.heap.size→((Mine G MB (.slice (some ⟨gR,0,none⟩) nr cr) (.slice An S.next.length cn) (.slice Ao S.outs.length co) (.slice Ae S.ends.length ce) (.slice At S.tails.length ct) g∨g < P0)∨g = gN∨g = gO)→(Mine G MB (.slice (some ⟨gR,0,none⟩) nr cr) (.slice An S.next.length cn) (.slice Ao S.outs.length co) (.slice Ae S.ends.length ce) (.slice At S.tails.length ct) g∨g < P0):=fun g hg e => by
   rcases e with e | e | e
   ·exact e
   ·omega
   ·omega
  have h1l:=h1.less
  have h2:=(h1l.other (M':=fun g => (Mine G MB (.slice (some ⟨gR,0,none⟩) nr cr) (.slice An S.next.length cn) (.slice Ao S.outs.length co) (.slice Ae S.ends.length ce) (.slice At S.tails.length ct) g∨g < P0)∨g = gN∨g = gO) hmin (.inl h1l.mG) (.inl h1l.mM) (fun g e => .inl (h1l.mR g e)) (fun g e => .inl (h1l.mN g e)) (fun g e => .inl (h1l.mO g e)) (fun g e => .inl (h1l.mE g e)) (fun g e => .inl (h1l.mT g e)) (fun g hg => .inl (.inr hg))).call hb2'
  have hsl2:SlR (fun g => (Mine G MB (.slice (some ⟨gR,0,none⟩) nr cr) (.slice An S.next.length cn) (.slice Ao S.outs.length co) (.slice Ae S.ends.length ce) (.slice At S.tails.length ct) g∨g < P0)∨g = gN∨g = gO) w2 2 (.slice (some ⟨gl,0,none⟩) n cl) n (encs encT l) :=
   ((hsl.below hb1).set fun g hg e => (hmin g hg e).elim (fun e => h1.mine e) (fun e => h1.low g e)).below hb2'
  have hW0:DoW w w2 B0 P0 G MB (.slice (some ⟨LA,0,none⟩) ns ns) (.slice (some ⟨LE,0,none⟩) ns ns) most fr (.slice (some ⟨gR,0,none⟩) nr cr) (.slice An S.next.length cn) (.slice Ao S.outs.length co) (.slice Ae S.ends.length ce) (.slice At S.tails.length ct) tv nv ov S S.rows (fun g => (Mine G MB (.slice (some ⟨gR,0,none⟩) nr cr) (.slice An S.next.length cn) (.slice Ao S.outs.length co) (.slice Ae S.ends.length ce) (.slice At S.tails.length ct) g∨g < P0)∨g = gN∨g = gO) gN gO (numsV [] 256) (textsV [] 256) gl n cl l ns:={
   mv:=h2
   hN:=HN
   hO:=HO
   tO:=fun e => hTO _ e rfl
   pN:=by omega
   pO:=by omega
   mN:=.inr (.inl rfl)
   mO:=.inr (.inr rfl)
   bd:=fun g hg => by
    rcases hg with (hg | hg) | rfl | rfl
    ·rcases hg with rfl | rfl | e | e | e | e | e
     ·exact h2.box.lt
     ·exact h2.num.lt
     ·exact (own_lt h2.oR g e).2
     ·exact (own_lt h2.oN g e).2
     ·exact (own_lt h2.oO g e).2
     ·exact (own_lt h2.oE g e).2
     ·exact (own_lt h2.oT g e).2
    ·omega
    ·exact HN.lt
    ·exact HO.lt
   row:=hsl2
   good:=HRows.out
   len:=by rw [hrn]; exact hrl
   bel:=(hb1.mono hB01).trans (hb2'.mono (by omega))
   old:=fun g hg => by
    have hg1:=hg.1
    rw [hb2'.block g (by omega),hb1.block g (by omega)] }
  have hrun0:=Lib.hid (show bytesF t.arcs most l S.rows 0 = .ok (S.rows,[],[]) from rfl)
  have HW0:=Lib.hid hW0
  have HLn:=Lib.hid hlen
  have hDo2:=Lib.hid (show doF t most S s = match bytesF t.arcs most l S.rows 256 with
   | .error e => .error e
   | .ok (rows,next,outs) => .ok ⟨rows,S.next ++ [next],S.outs ++ [outs],S.ends ++ [eb],S.tails ++ [eo]⟩ by rw [hDo.out,htf])
  clear hDo
  clear hW0 h2 hsl2 HN HO h1l hmin hb2' h1 h hTO hb1 hsl hl5 htf HTail hcb hrn hlen
  have hgG:=HW0.out.mv.box.lt
  simp only [Act.put]
  go_wp2
  refine NoPanic.normal ?_
  go_wp2
  go_loopw [26] (fun i wr => ∃ (k:Nat) (rows:List (List Tp)) (nx:List Int) (os:List ByteArray) (vR':Value) (tv':List Value) (M':Nat→Prop),k≤256∧i = .int .i64 ((k:Nat):Int)∧bytesF t.arcs most l S.rows k = .ok (rows,nx,os)∧nx.length = k∧os.length = k ∧
   DoW w wr B0 P0 G MB (.slice (some ⟨LA,0,none⟩) ns ns) (.slice (some ⟨LE,0,none⟩) ns ns) most fr vR' (.slice An S.next.length cn) (.slice Ao S.outs.length co) (.slice Ae S.ends.length ce) (.slice At S.tails.length ct) tv' nv ov S rows M' gN gO (numsV nx 256) (textsV os 256) gl n cl l ns) (fun i _ => 256 - (intOf i).toNat)
  case atStart => exact ⟨0,_,_,_,_,_,_,Nat.zero_le _,rfl,hrun0.out,rfl,rfl,HW0.out⟩
  case round =>
   clear HW0 hrun0
   obtain ⟨k,rows,nx,os,vR',tv',M',hk,rfl,hrun,hnl,hol,HD⟩:=hrel
   have HRun:=Lib.hid hrun
   have HNl:=Lib.hid hnl
   have HOl:=Lib.hid hol
   clear hrun hnl hol
   by_cases hlt:k < 256
   ·have hi1:(0:Int)≤(k:Int):=by omega
    have hi2:(k:Int) < 256:=by omega
    have n0:wr.cell? ⟨gN,k,none⟩ = some (.int .i64 0):=by rw [HD.hN.cell]; exact numsV_at _ _ _ HNl.out hlt
    have n1:=HD.hN.frozen k
    have HD1:=HD.setN k (.int .i64 (-1))
    have e1:=numsV_set nx 256 (-1) (by rw [HNl.out]; exact hlt)
    rw [HNl.out] at e1
    rw [e1] at HD1
    clear e1 HD
    go_wp2_with fail
    generalize wr.setCell ⟨gN,k,none⟩ (.int .i64 (-1)) = w3 at *
    have hHa:=(HA.kept (fun g hg => HD1.old g hg)).read (B:=w3.heap.size) (fun g hg => Nat.lt_of_lt_of_le hg.1 HD1.mv.sz)
    have hbeh:=behind_any G w3.heap.size (some ⟨gl,0,none⟩) n cl k t.arcs l w3 _ _ _ _ _ _ _ LA ns most fr HD1.mv.box HD1.row.reads.1 hHa (Nat.le_refl _) HD1.mv.box.lt (fun x hx => HRow.out.all x hx) ⟨HArc.out.1,fun x hx => ⟨(HArc.out.2 x hx).1,(HArc.out.2 x hx).2.1⟩⟩ (by have:=HRow.out.len; have:=HLn.out; omega) hns hlt
    have hbl:(behindF t.arcs l k).length≤16384:=Nat.le_trans (behindF_short t.arcs k l HRow.out.nodup) HArc.out.1
    have hbs:∀ x∈behindF t.arcs l k,x.out.size≤6000∧0≤x.st∧x.st < (ns:Int):=fun x hx => by
     obtain ⟨y,hy,a,ha,_,_,rfl⟩:=(behindF_mem x).1 hx
     have h1:=(HRow.out.all y hy).2.2
     have h2:=HArc.out.2 a ha
     refine ⟨?_,h2.2.2.1,h2.2.2.2⟩
     have h3:=putB_size a k
     have e:=congrArg List.length (bl_app y.out (a.putB k))
     rw [bl_len,List.length_append,bl_len,bl_len] at e
     show (y.out ++ a.putB k).size≤_
     omega
    have hnx:=bytesF_next HRun.out
    have HBeh:=Lib.hid hbeh
    have HBl:=Lib.hid hbl
    have HBs:=Lib.hid hbs
    have HNx:=Lib.hid hnx
    clear hbeh hbl hbs hnx n0 n1 hHa
    refine HBeh.out.mono ?_
    rintro e w4 ⟨v,rfl,hown,hb4⟩
    have HD4:=HD1.call hb4
    obtain ⟨A2,c2,rfl,hc2a,hc2b,hc2c⟩:=own_form hown
    have HOw:=Lib.hid hown
    clear HBeh hown
    have HByte:=Lib.hid (show byteF t.arcs most l k (rows,nx,os) = match behindF t.arcs l k with
     | [] => .ok (rows,nx ++ [-1],os ++ [ByteArray.empty])
     | x :: r =>
      match stripF (x :: r) with
      | .error e => .error e
      | .ok (o,r') =>
       match stateF most rows r' with
       | .error e => .error e
       | .ok (i,rows) => .ok (rows,nx ++ [(i:Int)],os ++ [o]) from rfl)
    generalize hbf:behindF t.arcs l k = bf at *
    have HBf:=Lib.hid hbf
    clear hbf
    rcases bf with _ | ⟨b0,bf⟩
    ·have e2:=textsV_skip os 256 (by rw [HOl.out]; exact hlt)
     rw [e2] at HD4
     have hfin:=HNx.out.trans HByte.out
     have HFin:=Lib.hid hfin
     clear hfin e2 HD1 hb4
     simp only [List.length_nil] at *
     go_wp2
     go_roundw
     case rel => exact ⟨k + 1,rows,nx ++ [-1],os ++ [ByteArray.empty],_,_,_,by omega,by go_num,HFin.out,by rw [List.length_append,HNl.out]; rfl,by rw [List.length_append,HOl.out]; rfl,HD4⟩
     case measure => simp [intOf]; omega
    ·obtain ⟨g2,cap,hv,hg2a,hg2b,hcap,hcapm,HM⟩:=RowM.of_own encT_len tp0 HOw.out rfl (by simp)
     have hstrip:=strip_any g2 cap (b0 :: bf) w4 HM hg2b hcap hcapm (by have:=HBl.out; omega) (by simp) (fun x hx => by have:=(HBs.out x hx).1; omega)
     have HStr:=Lib.hid hstrip
     have hpos:(((b0 :: bf).length:Nat):Int) > 0:=by simp
     have hne:(b0 :: bf)≠[]:=List.cons_ne_nil _ _
     injection hv with hv1 _ hv2
     subst hv1 hv2
     have HW:=Lib.hid (fun w5 (hb:∀ B,B≤g2→Below B w4 w5) => HD1.call (hb4.trans (hb w3.heap.size hg2a)))
     have hg2n:¬ M' g2:=fun e => by have:=HD1.bd g2 e; omega
     have hPw:=hP
     have hByte:byteF t.arcs most l k (rows,nx,os) = match stripF (b0 :: bf) with
      | .error e => .error e
      | .ok (o,r') =>
       match stateF most rows r' with
       | .error e => .error e
       | .ok (i,rows) => .ok (rows,nx ++ [(i:Int)],os ++ [o]):=HByte.out
     have hErr:=Lib.hid (fun (W:World) (e:Int) (hb:Below B0 w W) (ho:∀ g,Old P0 G MB g→W.heap[g]? = w.heap[g]?) (h:byteF t.arcs most l k (rows,nx,os) = .error e) => show DoPost B0 P0 G MB (.slice (some ⟨LA,0,none⟩) ns ns) (.slice (some ⟨LE,0,none⟩) ns ns) most fr ns t S s w (faultE e) W from
      ⟨hb,ho,by rw [hDo2.out,bytesF_stuck256 (k:=k + 1) (by omega) (HNx.out.trans h)]⟩)
     have HBs2:=Lib.hid (fun x hx => (HBs.out x hx).2)
     have hlb:=HBl.out
     have hz3:=HD1.bel.size
     clear HByte HBs hstrip HM HOw HD4 HBl
     generalize b0 :: bf = bb at *
     generalize hbn:bb.length = bn at *
     have HBn:=Lib.hid hbn
     clear hbn
     go_wp2_with fail
     refine HStr.out.mono ?_
     rintro e w5 ⟨hbs5,hsp⟩
     have HD5:=HW.out w5 hbs5
     rcases hsf:stripF bb with ek | ⟨f,r'⟩
     ·rw [hsf] at hsp hByte
      have HP:=Lib.hid (hErr.out w5 ek HD5.bel HD5.old hByte)
      unfold faultE at hsp
      subst hsp
      clear hsf hByte
      go_wp2
      exact ⟨rfl,HP.out⟩
     ·rw [hsf] at hsp hByte
      obtain ⟨rfl,HM5⟩:=hsp
      have hrg:=strip_rowG hsf HBs2.out
      have hrn:=strip_ne hsf hne
      have hg25:g2 < w5.heap.size:=Nat.lt_of_lt_of_le hg2b (hbs5 g2 (Nat.le_refl _)).size
      have hr1:=Lib.hid hrg
      have hrl2:=strip_len hsf
      have hslr:SlR M' w5 2 (.slice (some ⟨g2,0,none⟩) r'.length c2) r'.length (encs encT r'):=RowM.slr HM5 (by have:=HBn.out; omega) hcapm hg25 hg2n
      have o0:w5.cell? ⟨gO,k,none⟩ = some (.string ByteArray.empty):=by rw [HD5.hO.cell]; exact textsV_at _ _ _ HOl.out hlt
      have o1:=HD5.hO.frozen k
      have HD6:=HD5.setO k (.string f)
      have hv6:=hslr.far HD5.mO (p:=⟨gO,k,none⟩) (.string f)
      have e1:=textsV_set os 256 f (by rw [HOl.out]; exact hlt)
      rw [HOl.out] at e1
      rw [e1] at HD6
      have hst:=stateM_any g2 c2 r' _ HD6.mv hv6 (hPw.below HD6.bel) (fun x hx => ⟨(hrg.all x hx).1,by have:=(hrg.all x hx).2.1; omega,(hrg.all x hx).2.2⟩) (by have:=hrg.len; omega) (fun q hq x hx => ((HD6.good q hq).all x hx).1) hm HD6.len
      have HSt:=Lib.hid hst
      have HB7:=Lib.hid hByte
      have HG7:=Lib.hid HD6
      have HR7:=Lib.hid hrg
      have HBel6:=HD6.bel
      have HOld6:=Lib.hid (fun (w7:World) (hk:∀ g,g < (w5.setCell ⟨gO,k,none⟩ (.string f)).heap.size→g≠G→g≠MB→vR'.ownBlock≠some g→w7.heap[g]? = (w5.setCell ⟨gO,k,none⟩ (.string f)).heap[g]?) (g:Nat) (hg:Old P0 G MB g) => show w7.heap[g]? = w.heap[g]? from (hk g (Nat.lt_of_lt_of_le hg.1 HD6.mv.sz) hg.2.1 hg.2.2 (fun e => by have h1:=(own_lt HD6.mv.oR g e).1; have h2:=hg.1; omega)).trans (HD6.old g hg))
      clear hst hByte hsf HM5 hrg hslr hv6 HD5 HW HStr hbs5 e1
      generalize hrr:r'.length = rl at *
      go_wp2_with fail
      refine HSt.out.mono ?_
      rintro e w7 ⟨hb7,hkp,hsp⟩
      have hsp:(match stateF most rows r' with
       | .error k => e = faultE k
       | .ok (i,rows') => e = .returned (.int .i64 (i:Int))∧∃ vR2 tv2,MkV w7 B0 P0 G MB (.slice (some ⟨LA,0,none⟩) ns ns) (.slice (some ⟨LE,0,none⟩) ns ns) (most:Int) fr vR2 (.slice An S.next.length cn) (.slice Ao S.outs.length co) (.slice Ae S.ends.length ce) (.slice At S.tails.length ct) tv2 nv ov { S with rows:=rows' } (fun g => M' g∨vR2.ownBlock = some g) ∧
        ∀ g,vR2.ownBlock = some g→vR'.ownBlock = some g∨(w5.setCell ⟨gO,k,none⟩ (.string f)).heap.size≤g):=hsp
      have hb7':=HB7.out
      rcases hst:stateF most rows r' with ek | ⟨i,rows'⟩
      ·rw [hst] at hsp hb7'
       have HP:=Lib.hid (hErr.out w7 ek (HBel6.trans hb7) (HOld6.out w7 hkp) hb7')
       unfold faultE at hsp
       subst hsp
       clear hst hb7'
       go_wp2
       exact ⟨rfl,HP.out⟩
      ·rw [hst] at hsp hb7'
       obtain ⟨rfl,vR2,tv2,hmk,hnew⟩:=hsp
       have HD7:=HG7.out.stated HR7.out hst hmk hnew hkp hb7
       have n0:w7.cell? ⟨gN,k,none⟩ = some (.int .i64 (-1)):=by rw [HD7.hN.cell]; exact numsV_last _ _ _ _ HNl.out
       have n1:=HD7.hN.frozen k
       have HD8:=HD7.setN k (.int .i64 (i:Int))
       have e1:=numsV_again nx 256 (-1) (i:Int) (by rw [HNl.out]; exact hlt)
       rw [HNl.out] at e1
       rw [e1] at HD8
       have HFin:=Lib.hid (HNx.out.trans hb7')
       clear hst hmk hnew hkp HD7 hb7' e1
       go_wp2
       go_roundw
       case rel => exact ⟨k + 1,rows',nx ++ [(i:Int)],os ++ [f],_,_,_,by omega,by go_num,HFin.out,by rw [List.length_append,HNl.out]; rfl,by rw [List.length_append,HOl.out]; rfl,HD8⟩
       case measure => simp [intOf]; omega
   ·obtain rfl:k = 256:=by omega
    have hslN:SlR (fun g => Mine G MB vR' (.slice An S.next.length cn) (.slice Ao S.outs.length co) (.slice Ae S.ends.length ce) (.slice At S.tails.length ct) g∨g < P0) wr 1 (.slice (some ⟨gN,0,none⟩) 256 256) nx.length (nx.map (Value.int .i64)):=by
     have h1:=HD.hN
     rw [numsV_full _ _ HNl.out] at h1
     rw [HNl.out]
     exact SlR.of_blk h1 (by rw [List.length_map,HNl.out]) (by unfold maxLen; decide) (fun e => e.elim (HD.mv.notInt HD.hN) (fun h => by have:=HD.pN; omega))
    have hslO:SlR (fun g => Mine G MB vR' (.slice An S.next.length cn) (.slice Ao S.outs.length co) (.slice Ae S.ends.length ce) (.slice At S.tails.length ct) g∨g < P0) wr 1 (.slice (some ⟨gO,0,none⟩) 256 256) os.length (os.map Value.string):=by
     have h1:=HD.hO
     rw [textsV_full _ _ HOl.out] at h1
     rw [HOl.out]
     exact SlR.of_blk h1 (by rw [List.length_map,HOl.out]) (by unfold maxLen; decide) (fun e => e.elim (HD.mv.notText HD.hO HD.tO) (fun h => by have:=HD.pO; omega))
    have HM0:=HD.mv.less
    have hbel0:=HD.bel
    have hold0:=HD.old
    have hgood:=Lib.hid HD.good
    have hlen0:=Lib.hid HD.len
    have hgNO:=HD.ne
    have hdo:=hDo2.out
    rw [HRun.out] at hdo
    have HDo:=Lib.hid (show doF t most S s = .ok ⟨rows,S.next ++ [nx],S.outs ++ [os],S.ends ++ [eb],S.tails ++ [eo]⟩ from hdo)
    clear HD hDo2 hdo HRun
    obtain ⟨iN,hiN,y0N,y1N,y2N⟩:=info_parts slI_info
    have hbxN:=HM0.box
    have qN:=hbxN.cell 6
    have fN:=hbxN.frozen 6
    have hoaN:wr.ownsRow P0 55 1 (.slice An S.next.length cn) S.next.length nv:=HM0.oN
    have hvoN:=fun g (e:(Value.slice An S.next.length cn).ownBlock = some g) => (own_lt hoaN g e).1
    have LBN:=(Below.refl wr.heap.size wr).alloc (Nat.le_refl _) (.cells #[.slice (some ⟨gN,0,none⟩) 256 256] 55)
    have hoN:=own_below hoaN LBN
    have hbzN:=hbxN.below LBN hbxN.lt
    have hneN:=own_blk hoN hbzN (by decide)
    have hrdN:=reads_allocK wr [.slice (some ⟨gN,0,none⟩) 256 256] 55 1 1 rfl
    have h63N:S.next.length + 1≤maxLen:=by have:=hln; unfold maxLen; omega
    have hbyN:(S.next.length + 1) * 24≤140737488355328:=by have:=hln; omega
    have honeN:∀ u∈[Value.slice (some ⟨gN,0,none⟩) 256 256],u.oneCell' = true:=fun u hu => by rw [List.mem_singleton] at hu; subst hu; rfl
    have hbsN:P0≤(wr.alloc (.cells #[.slice (some ⟨gN,0,none⟩) 256 256] 55)).heap.size:=by have:=HM0.sz; simp; omega
    go_upto_region 13 with (at_builtin; refine wpList_append_any _ rfl _ _ 22 rfl P0 55 iN _ 1 24 Tryz.underlying22 hiN y0N y1N y2N rfl (by decide) _ _ _ rfl hoN _ (some ⟨wr.heap.size,0,none⟩) 1 1 [.slice (some ⟨gN,0,none⟩) 256 256] rfl hrdN honeN h63N hbyN hbsN ?_; intro vN wN hownN hgrN hlocN; obtain ⟨A9N,c9N,rfl,_,_,_⟩:=own_form hownN; have e3N:=(blk_keep hbzN hgrN hneN).cell 6; have e4N:=(blk_keep hbzN hgrN hneN).frozen 6)
    have HM1:=HM0.putN LBN hslN hgrN hownN hlocN
    obtain ⟨hbel1,hold1⟩:=HM0.step LBN (fun g e => hvoN g e) hgrN 6 (.slice A9N (S.next.length + 1) c9N)
    have hslO:=HM0.carry LBN (fun g e => HM0.mN g e) hgrN hlocN 6 hslO
    clear qN fN e3N e4N LBN hbzN hneN hrdN honeN h63N hbyN hbsN hbxN hoN hoaN hvoN hownN hgrN hlocN HM0 hslN hiN y0N y1N y2N
    generalize wN.setCell ⟨G,6,none⟩ (.slice A9N (S.next.length + 1) c9N) = W1 at *
    obtain ⟨iO,hiO,y0O,y1O,y2O⟩:=info_parts slS_info
    have hbxO:=HM1.box
    have qO:=hbxO.cell 7
    have fO:=hbxO.frozen 7
    have hoaO:W1.ownsRow P0 25 1 (.slice Ao S.outs.length co) S.outs.length ov:=HM1.oO
    have hvoO:=fun g (e:(Value.slice Ao S.outs.length co).ownBlock = some g) => (own_lt hoaO g e).1
    have LBO:=(Below.refl W1.heap.size W1).alloc (Nat.le_refl _) (.cells #[.slice (some ⟨gO,0,none⟩) 256 256] 25)
    have hoO:=own_below hoaO LBO
    have hbzO:=hbxO.below LBO hbxO.lt
    have hneO:=own_blk hoO hbzO (by decide)
    have hrdO:=reads_allocK W1 [.slice (some ⟨gO,0,none⟩) 256 256] 25 1 1 rfl
    have h63O:S.outs.length + 1≤maxLen:=by have:=hln; unfold maxLen; omega
    have hbyO:(S.outs.length + 1) * 24≤140737488355328:=by have:=hln; omega
    have honeO:∀ u∈[Value.slice (some ⟨gO,0,none⟩) 256 256],u.oneCell' = true:=fun u hu => by rw [List.mem_singleton] at hu; subst hu; rfl
    have hbsO:P0≤(W1.alloc (.cells #[.slice (some ⟨gO,0,none⟩) 256 256] 25)).heap.size:=by have:=HM1.sz; simp; omega
    go_upto_region 14 with (at_builtin; refine wpList_append_any _ rfl _ _ 23 rfl P0 25 iO _ 1 24 Tryz.underlying23 hiO y0O y1O y2O rfl (by decide) _ _ _ rfl hoO _ (some ⟨W1.heap.size,0,none⟩) 1 1 [.slice (some ⟨gO,0,none⟩) 256 256] rfl hrdO honeO h63O hbyO hbsO ?_; intro vO wO hownO hgrO hlocO; obtain ⟨A9O,c9O,rfl,_,_,_⟩:=own_form hownO; have e3O:=(blk_keep hbzO hgrO hneO).cell 7; have e4O:=(blk_keep hbzO hgrO hneO).frozen 7)
    have HM2:=HM1.putO LBO hslO hgrO hownO hlocO
    obtain ⟨hbel2,hold2⟩:=HM1.step LBO (fun g e => hvoO g e) hgrO 7 (.slice A9O (S.outs.length + 1) c9O)
    clear qO fO e3O e4O LBO hbzO hneO hrdO honeO h63O hbyO hbsO hbxO hoO hoaO hvoO hownO hgrO hlocO HM1 hslO hiO y0O y1O y2O
    generalize wO.setCell ⟨G,7,none⟩ (.slice A9O (S.outs.length + 1) c9O) = W2 at *
    obtain ⟨iE,hiE,y0E,y1E,y2E⟩:=info_parts bool_infoS
    have hbxE:=HM2.box
    have qE:=hbxE.cell 8
    have fE:=hbxE.frozen 8
    have hoaE:W2.ownsRow P0 4 1 (.slice Ae S.ends.length ce) S.ends.length (S.ends.map Value.bool):=HM2.oE
    have hvoE:=fun g (e:(Value.slice Ae S.ends.length ce).ownBlock = some g) => (own_lt hoaE g e).1
    have LBE:=(Below.refl W2.heap.size W2).alloc (Nat.le_refl _) (.cells #[.bool eb] 4)
    have hoE:=own_below hoaE LBE
    have hbzE:=hbxE.below LBE hbxE.lt
    have hneE:=own_blk hoE hbzE (by decide)
    have hrdE:=reads_allocK W2 [.bool eb] 4 1 1 rfl
    have h63E:S.ends.length + 1≤maxLen:=by have:=hln; unfold maxLen; omega
    have hbyE:(S.ends.length + 1) * 1≤140737488355328:=by have:=hln; omega
    have honeE:∀ u∈[Value.bool eb],u.oneCell' = true:=fun u hu => by rw [List.mem_singleton] at hu; subst hu; rfl
    have hbsE:P0≤(W2.alloc (.cells #[.bool eb] 4)).heap.size:=by have:=HM2.sz; simp; omega
    go_upto_region 15 with (at_builtin; refine wpList_append_any _ rfl _ _ 24 rfl P0 4 iE _ 1 1 Tryz.underlying24 hiE y0E y1E y2E rfl (by decide) _ _ _ rfl hoE _ (some ⟨W2.heap.size,0,none⟩) 1 1 [.bool eb] rfl hrdE honeE h63E hbyE hbsE ?_; intro vE wE hownE hgrE hlocE; obtain ⟨A9E,c9E,rfl,_,_,_⟩:=own_form hownE; have e3E:=(blk_keep hbzE hgrE hneE).cell 8; have e4E:=(blk_keep hbzE hgrE hneE).frozen 8)
    have HM3:=HM2.putE LBE hgrE hownE hlocE
    obtain ⟨hbel3,hold3⟩:=HM2.step LBE (fun g e => hvoE g e) hgrE 8 (.slice A9E (S.ends.length + 1) c9E)
    clear qE fE e3E e4E LBE hbzE hneE hrdE honeE h63E hbyE hbsE hbxE hoE hoaE hvoE hownE hgrE hlocE HM2 hiE y0E y1E y2E
    generalize wE.setCell ⟨G,8,none⟩ (.slice A9E (S.ends.length + 1) c9E) = W3 at *
    obtain ⟨iT,hiT,y0T,y1T,y2T⟩:=info_parts str_infoS
    have hbxT:=HM3.box
    have qT:=hbxT.cell 9
    have fT:=hbxT.frozen 9
    have hoaT:W3.ownsRow P0 9 1 (.slice At S.tails.length ct) S.tails.length (S.tails.map Value.string):=HM3.oT
    have hvoT:=fun g (e:(Value.slice At S.tails.length ct).ownBlock = some g) => (own_lt hoaT g e).1
    have LBT:=(Below.refl W3.heap.size W3).alloc (Nat.le_refl _) (.cells #[.string eo] 9)
    have hoT:=own_below hoaT LBT
    have hbzT:=hbxT.below LBT hbxT.lt
    have hneT:=own_blk hoT hbzT (by decide)
    have hrdT:=reads_allocK W3 [.string eo] 9 1 1 rfl
    have h63T:S.tails.length + 1≤maxLen:=by have:=hln; unfold maxLen; omega
    have hbyT:(S.tails.length + 1) * 16≤140737488355328:=by have:=hln; omega
    have honeT:∀ u∈[Value.string eo],u.oneCell' = true:=fun u hu => by rw [List.mem_singleton] at hu; subst hu; rfl
    have hbsT:P0≤(W3.alloc (.cells #[.string eo] 9)).heap.size:=by have:=HM3.sz; simp; omega
    go_wp2_with (at_builtin; refine wpList_append_any _ rfl _ _ 25 rfl P0 9 iT _ 1 16 Tryz.underlying25 hiT y0T y1T y2T rfl (by decide) _ _ _ rfl hoT _ (some ⟨W3.heap.size,0,none⟩) 1 1 [.string eo] rfl hrdT honeT h63T hbyT hbsT ?_; intro vT wT hownT hgrT hlocT; obtain ⟨A9T,c9T,rfl,_,_,_⟩:=own_form hownT; have e3T:=(blk_keep hbzT hgrT hneT).cell 9; have e4T:=(blk_keep hbzT hgrT hneT).frozen 9)
    have HM4:=HM3.putT LBT hgrT hownT hlocT
    obtain ⟨hbel4,hold4⟩:=HM3.step LBT (fun g e => hvoT g e) hgrT 9 (.slice A9T (S.tails.length + 1) c9T)
    clear qT fT e3T e4T LBT hbzT hneT hrdT honeT h63T hbyT hbsT hbxT hoT hoaT hvoT hownT hgrT hlocT HM3 hiT y0T y1T y2T
    generalize wT.setCell ⟨G,9,none⟩ (.slice A9T (S.tails.length + 1) c9T) = W4 at *
    have hfin:DoPost B0 P0 G MB (.slice (some ⟨LA,0,none⟩) ns ns) (.slice (some ⟨LE,0,none⟩) ns ns) most fr ns t S s w (.returned (.tuple #[])) W4:=by
     refine ⟨hbel0.trans (hbel1.trans (hbel2.trans (hbel3.trans hbel4))),fun g hg => (hold4 g hg).trans ((hold3 g hg).trans ((hold2 g hg).trans ((hold1 g hg).trans (hold0 g hg)))),?_⟩
     rw [HDo.out]
     exact ⟨rfl,⟨_,_,_,_,_,_,_,_,_,HM4⟩,hgood.out,hlen0.out⟩
    have HF:=Lib.hid hfin
    clear hfin HM4
    go_end0
    exact HF.out
end Go.Proofs.YtcondkihpmmnnaaGreatDoor
namespace Go.Proofs.YtcondkihpmmnnaaGreatDoor
open Go.RowKit Go.Sort
theorem as_fault (W:World) (v:Value):(Instr.typeAssert (.iface 130 v) 20 130 true).run Tryz.prog W = .ok (.tuple #[v,.bool true]) W:=by kernel_rfl
theorem as_nil (W:World):(Instr.typeAssert .nilIface 20 130 true).run Tryz.prog W = .ok (.tuple #[.agg #[.int .i64 0],.bool false]) W:=by kernel_rfl
def CaughtW (gq ge:Nat) (k:Int) (w w':World):Prop :=
 Blk w' gq 27 #[.string ⟨#[]⟩,.slice none 0 0,.slice none 0 0,.slice none 0 0,.slice none 0 0]∧Blk w' ge 33 #[.int .i64 k]∧∀ B,B≤gq→B≤ge→B≤w.heap.size→Below B w w'
set_option maxRecDepth 100000 in
set_option maxHeartbeats 2000000 in
theorem caught (gq ge:Nat) (k:Int) (older:List PanicEntry) (w:World) (c0 c1 c2 c3 c4 v:Value) (hq:Blk w gq 27 #[c0,c1,c2,c3,c4]) (he:Blk w ge 33 #[v]) :
    CallsD Tryz.prog 60 #[.pointer (some ⟨gq,0,none⟩),.pointer (some ⟨ge,0,none⟩)] (.panicking ({ v:=.iface 130 (.agg #[.int .i64 k]),recovered:=false } :: older)) w fun e u' w' =>
     e = .returned (.tuple #[])∧u' = .panicking ({ v:=.iface 130 (.agg #[.int .i64 k]),recovered:=true } :: older)∧CaughtW gq ge k w w':=by
 refine callsD_of_wpS Tryz.func60 rfl fun c₀ cs hu => ?_
 apply wpS_seq
 apply wpS_region
 simp [wpOpsS,go_sem,recoverD,hu,as_fault,Tryz.ntmps60,Exit.thenS]
 refine wpS_of_wp ?_
 have hX:=Blk.new w 130 #[.int .i64 k]
 have hq1:=hq.alloc (.cells #[.int .i64 k] 130)
 have he1:=he.alloc (.cells #[.int .i64 k] 130)
 have hne:gq≠w.heap.size:=by have:=hq.lt; omega
 have hne2:ge≠w.heap.size:=by have:=he.lt; omega
 have HX:=Lib.hid hX
 have HQ:=Lib.hid hq1
 have HE:=Lib.hid he1
 have HB:=Lib.hid (fun B (hB:B≤w.heap.size) => (Below.refl B w).alloc hB (.cells #[.int .i64 k] 130))
 clear hX hq1 he1 hq he
 simp [Array.replicate]
 go_wp2
 generalize w.alloc (.cells #[.int .i64 k] 130) = W at *
 have x0:W.cell? ⟨w.heap.size,0,none⟩ = some (.int .i64 k):=HX.out.cell 0
 have q0:W.cell? ⟨gq,0,none⟩ = some c0:=HQ.out.cell 0
 have q1:W.cell? ⟨gq,1,none⟩ = some c1:=HQ.out.cell 1
 have q2:W.cell? ⟨gq,2,none⟩ = some c2:=HQ.out.cell 2
 have q3:W.cell? ⟨gq,3,none⟩ = some c3:=HQ.out.cell 3
 have q4:W.cell? ⟨gq,4,none⟩ = some c4:=HQ.out.cell 4
 have g0:=HQ.out.frozen 0
 have g1:=HQ.out.frozen 1
 have g2:=HQ.out.frozen 2
 have g3:=HQ.out.frozen 3
 have g4:=HQ.out.frozen 4
 have e0:W.cell? ⟨ge,0,none⟩ = some v:=HE.out.cell 0
 have e1:=HE.out.frozen 0
 have hqe:ge≠gq:=fun e => by subst e; have:=HQ.out.symm.trans HE.out; simp at this
 have x0':(W.setCell ⟨gq,0,none⟩ (.string ⟨#[]⟩)).cell? ⟨w.heap.size,0,none⟩ = some (.int .i64 k):=(HX.out.far (p:=⟨gq,0,none⟩) (fun e => hne e.symm) _).cell 0
 have e0':(W.setCell ⟨gq,0,none⟩ (.string ⟨#[]⟩)).cell? ⟨ge,0,none⟩ = some v:=(HE.out.far (p:=⟨gq,0,none⟩) hqe _).cell 0
 have hfin:CaughtW gq ge k w ((((((W.setCell ⟨gq,0,none⟩ (.string ⟨#[]⟩)).setCell ⟨gq,1,none⟩ (.slice none 0 0)).setCell ⟨gq,2,none⟩ (.slice none 0 0)).setCell ⟨gq,3,none⟩ (.slice none 0 0)).setCell ⟨gq,4,none⟩ (.slice none 0 0)).setCell ⟨ge,0,none⟩ (.int .i64 k)).drew:=by
  refine ⟨Blk.drew (Blk.far (((((HQ.out.set_ 0 _).set_ 1 _).set_ 2 _).set_ 3 _).set_ 4 _) (p:=⟨ge,0,none⟩) (fun e => hqe e.symm) _),?_,fun B h1 h2 h3 => ?_⟩
  ·have:=(((((HE.out.far (p:=⟨gq,0,none⟩) hqe (.string ⟨#[]⟩)).far (p:=⟨gq,1,none⟩) hqe (.slice none 0 0)).far (p:=⟨gq,2,none⟩) hqe (.slice none 0 0)).far (p:=⟨gq,3,none⟩) hqe (.slice none 0 0)).far (p:=⟨gq,4,none⟩) hqe (.slice none 0 0)).set_ 0 (.int .i64 k)
   exact this.drew
  ·exact ((((((HB.out B h3).setCell (p:=⟨gq,0,none⟩) h1 _).setCell (p:=⟨gq,1,none⟩) h1 _).setCell (p:=⟨gq,2,none⟩) h1 _).setCell (p:=⟨gq,3,none⟩) h1 _).setCell (p:=⟨gq,4,none⟩) h1 _).setCell (p:=⟨ge,0,none⟩) h2 _ |>.drew
 have HF:=Lib.hid hfin
 clear hfin
 clear HQ HE HX HB
 generalize w.heap.size = gx at *
 go_region
 show bodyPostS Tryz.prog _ c₀ cs _ _ _ _ _
 simp [bodyPostS,results,Tryz.results60]
 exact HF.out
set_option maxRecDepth 100000 in
set_option maxHeartbeats 2000000 in
theorem idle (gq ge:Nat) (w:World) :
    CallsD Tryz.prog 60 #[.pointer (some ⟨gq,0,none⟩),.pointer (some ⟨ge,0,none⟩)] .returning w fun e u' w' =>
     e = .returned (.tuple #[])∧u' = .returning∧Below w.heap.size w w':=by
 have hb:=(Below.refl w.heap.size w).alloc (Nat.le_refl _) (.cells #[.int .i64 0] 130)
 have HB:=Lib.hid hb
 clear hb
 refine callsD_of_wpS Tryz.func60 rfl fun c₀ cs hu => ?_
 apply wpS_seq
 apply wpS_region
 simp [wpOpsS,go_sem,recoverD,hu,as_nil,Tryz.ntmps60,Exit.thenS]
 refine wpS_of_wp ?_
 simp [Array.replicate]
 go_wp2
 cases c₀
 simp_all [bodyPostS,results,Tryz.results60]
 exact HB.out
end Go.Proofs.YtcondkihpmmnnaaGreatDoor
namespace Go.Proofs.YtcondkihpmmnnaaGreatDoor
open Go.RowKit Go.Sort
def handOf:Value→Option Addr × Nat
 | .slice A _ c => (A,c)
 | _ => (none,0)
theorem rows2_of {M:Nat→Prop} {w:World} {base:Nat} {e:TypeId} {A:Option Addr} {n c:Nat} {tv:List Value} {rows:List (List Value)} (ho:w.ownsRow base e 1 (.slice A n c) n tv) (hn:rows.length = n)
    (h:∀ i,i < rows.length→SlR M w 1 (tv.getD i nilV) (rows.getD i []).length (rows.getD i [])):Rows2 w w.heap.size A n rows:=by
 have hl:=ho.1
 rw [Nat.mul_one] at hl
 have hz:(List.zip (tv.map handOf) rows).map (fun x => Value.slice x.1.1 x.2.length x.1.2) = tv:=by
  apply List.ext_getElem
  ·simp; omega
  intro i h1 h2
  have hi:i < rows.length:=by omega
  obtain ⟨g,c',hv,_⟩:=h i hi
  rw [List.getD_eq_getElem?_getD,List.getElem?_eq_getElem h2] at hv
  simp only [Option.getD_some] at hv
  have hr:rows.getD i [] = rows[i]:=by rw [List.getD_eq_getElem?_getD,List.getElem?_eq_getElem hi]; rfl
  rw [hr] at hv
  rw [List.getElem_map,List.getElem_zip]
  simp only [List.getElem_map]
  rw [hv]
  rfl
 refine ⟨tv.map handOf,by rw [List.length_map]; omega,by rw [hz]; exact Reads.of_own ho,fun x hx => ?_⟩
 obtain ⟨i,h1,rfl⟩:=List.mem_iff_getElem.1 hx
 have hi:i < rows.length:=by simp at h1; omega
 have hi2:i < tv.length:=by omega
 obtain ⟨g,c',hv,h3,h4,h5,h6,h7⟩:=h i hi
 have hr:rows.getD i [] = rows[i]:=by rw [List.getD_eq_getElem?_getD,List.getElem?_eq_getElem hi]; rfl
 rw [List.getD_eq_getElem?_getD,List.getElem?_eq_getElem hi2] at hv
 simp only [Option.getD_some] at hv
 rw [hr] at hv h3 h7
 rw [List.getElem_zip]
 simp only [List.getElem_map]
 rw [hv]
 exact ⟨h7,h3,h4⟩
theorem SeqAt.below {w w':World} {B:Nat} {q:SeqM} {v:Value} (h:SeqAt w B q v) (hb:Below B w w'):SeqAt w' B q v:=by
 obtain ⟨A1,c1,A2,c2,A3,c3,A4,c4,rfl,hf,l1,l2,l3,l4,m1,m2,m3,m4,R1,hz,R2,hs,R3,R4,ht⟩:=h
 exact ⟨A1,c1,A2,c2,A3,c3,A4,c4,rfl,hf,l1,l2,l3,l4,m1,m2,m3,m4,R1.below hb,hz,R2.below hb,hs,R3.below hb,R4.below hb,ht⟩
theorem SeqAt.more {w:World} {B B':Nat} {q:SeqM} {v:Value} (h:SeqAt w B q v) (hB:B≤B'):SeqAt w B' q v:=by
 obtain ⟨A1,c1,A2,c2,A3,c3,A4,c4,rfl,hf,l1,l2,l3,l4,m1,m2,m3,m4,R1,hz,R2,hs,R3,R4,ht⟩:=h
 exact ⟨A1,c1,A2,c2,A3,c3,A4,c4,rfl,hf,l1,l2,l3,l4,m1,m2,m3,m4,R1.more hB,hz,R2.more hB,hs,R3.more hB,R4.more hB,ht⟩
theorem seqAt_nil (w:World) (B:Nat):SeqAt w B seq0 (.agg #[.string ⟨#[]⟩,.slice none 0 0,.slice none 0 0,.slice none 0 0,.slice none 0 0]):=by
 refine ⟨none,0,none,0,none,0,none,0,rfl,Nat.zero_le _,Nat.le_refl _,Nat.le_refl _,Nat.le_refl _,Nat.le_refl _,Nat.zero_le _,Nat.zero_le _,Nat.zero_le _,Nat.zero_le _,⟨[],rfl,Reads.none_,fun x hx => (List.not_mem_nil hx).elim⟩,fun r hr => (List.not_mem_nil hr).elim,⟨[],rfl,Reads.none_,fun x hx => (List.not_mem_nil hx).elim⟩,fun r hr => (List.not_mem_nil hr).elim,Reads.none_,Reads.none_,fun r hr => (List.not_mem_nil hr).elim⟩
theorem map_getD {α β:Type} (f:α→β) (d:α) (d':β) (hd:f d = d') (l:List α) (i:Nat):(l.map f).getD i d' = f (l.getD i d):=by
 rw [List.getD_eq_getElem?_getD,List.getD_eq_getElem?_getD,List.getElem?_map]
 cases l[i]? <;> simp [hd]
def SeqNew (B:Nat) (w:World) (q:SeqM) (v:Value):Prop :=
 ∀ W:World,w.heap.size≤W.heap.size→(∀ g,B≤g→g < w.heap.size→W.heap[g]? = w.heap[g]?)→SeqAt W W.heap.size q v
section
variable {B B':Nat} {w w':World} {q:SeqM} {v:Value}
theorem SeqNew.at_ (h:SeqNew B w q v):SeqAt w w.heap.size q v:=h w (Nat.le_refl _) fun _ _ _ => rfl
theorem SeqNew.mono (h:SeqNew B w q v) (hB:B'≤B):SeqNew B' w q v:=fun W hz hk => h W hz fun g hg hl => hk g (Nat.le_trans hB hg) hl
theorem SeqNew.stays (h:SeqNew B w q v) (hz:w.heap.size≤w'.heap.size) (hk:∀ g,B≤g→g < w.heap.size→w'.heap[g]? = w.heap[g]?):SeqNew B w' q v:=fun W hz' hk' =>
 h W (Nat.le_trans hz hz') fun g hg hl => (hk' g hg (Nat.lt_of_lt_of_le hl hz)).trans (hk g hg hl)
theorem SeqNew.below (h:SeqNew B w q v) (hb:Below w.heap.size w w'):SeqNew B w' q v:=h.stays hb.size fun g _ hl => hb.block g hl
theorem SeqNew.setCell (h:SeqNew B w q v) {p:Addr} (hp:p.block < B) (u:Value):SeqNew B (w.setCell p u) q v:=h.stays (by simp) fun g hg _ => Below.heap_setCell _ _ _ _ (by omega)
theorem seqNew_nil (B:Nat) (w:World):SeqNew B w seq0 (.agg #[.string ⟨#[]⟩,.slice none 0 0,.slice none 0 0,.slice none 0 0,.slice none 0 0]):=fun W _ _ => seqAt_nil W _
end
theorem own_stays {w w':World} {base:Nat} {e:TypeId} {size n:Nat} {v:Value} {xs:List Value} (h:w.ownsRow base e size v n xs) (hk:∀ g,base≤g→g < w.heap.size→w'.heap[g]? = w.heap[g]?):w'.ownsRow base e size v n xs:=by
 refine ⟨h.1,?_⟩
 rcases h.2 with h0 | ⟨g,cap,cur,hv,hbg,hh,rest⟩
 ·exact .inl h0
 ·refine .inr ⟨g,cap,cur,hv,hbg,?_,rest⟩
  rw [hk g hbg ?_]
  ·exact hh
  ·rcases Nat.lt_or_ge g w.heap.size with h | h
   ·exact h
   ·rw [Array.getElem?_eq_none h] at hh; cases hh
structure MkQ (w:World) (P0:Nat) (vN vO vEn vT:Value) (nv ov:List Value) (S:Mk) (M:Nat→Prop):Prop where
 oN:w.ownsRow P0 55 1 vN S.next.length nv
 oO:w.ownsRow P0 25 1 vO S.outs.length ov
 oE:w.ownsRow P0 4 1 vEn S.ends.length (S.ends.map Value.bool)
 oT:w.ownsRow P0 9 1 vT S.tails.length (S.tails.map Value.string)
 nexts:∀ i,i < S.next.length→SlR M w 1 (nv.getD i nilV) (S.next.getD i []).length ((S.next.getD i []).map (Value.int .i64))
 outss:∀ i,i < S.outs.length→SlR M w 1 (ov.getD i nilV) (S.outs.getD i []).length ((S.outs.getD i []).map Value.string)
theorem MkQ.stays {w w':World} {P0:Nat} {vN vO vEn vT:Value} {nv ov:List Value} {S:Mk} {M:Nat→Prop} (h:MkQ w P0 vN vO vEn vT nv ov S M) (hlow:∀ g,g < P0→M g) (hz:w.heap.size≤w'.heap.size) (hk:∀ g,P0≤g→g < w.heap.size→w'.heap[g]? = w.heap[g]?):MkQ w' P0 vN vO vEn vT nv ov S M :=
 have hk2:∀ g,g < w.heap.size→¬ M g→w'.heap[g]? = w.heap[g]?:=fun g hg hn => hk g (Nat.le_of_not_lt fun h => hn (hlow g h)) hg
 ⟨own_stays h.oN hk,own_stays h.oO hk,own_stays h.oE hk,own_stays h.oT hk,fun i hi => (h.nexts i hi).keep hz hk2,fun i hi => (h.outss i hi).keep hz hk2⟩
theorem MkQ.seq {w:World} {P0:Nat} {fr:ByteArray} {vN vO vEn vT:Value} {nv ov:List Value} {S:Mk} {M:Nat→Prop} (h:MkQ w P0 vN vO vEn vT nv ov S M)
    {m:Nat} (hm:m≤1024) (hq:S.next.length≤m∧S.outs.length = S.next.length∧S.ends.length = S.next.length∧S.tails.length = S.next.length∧fr.size≤100000000 ∧
     ∀ s,s < S.next.length→(S.tails.getD s ByteArray.empty).size≤4096∧(S.next.getD s []).length = 256∧(S.outs.getD s []).length = 256 ∧
     ∀ b,b < 256→-1≤(S.next.getD s []).getD b 0∧(S.next.getD s []).getD b 0 < S.next.length∧((S.outs.getD s []).getD b ByteArray.empty).size≤4096) :
    SeqAt w w.heap.size ⟨fr,S.next,S.outs,S.ends,S.tails⟩ (.agg #[.string fr,vN,vO,vEn,vT]):=by
 obtain ⟨h1,h2,h3,h4,h5,h6⟩:=hq
 obtain ⟨An,cn,rfl,n1,n2,_⟩:=own_form h.oN
 obtain ⟨Ao,co,rfl,o1,o2,_⟩:=own_form h.oO
 obtain ⟨Ae,ce,rfl,e1,e2,_⟩:=own_form h.oE
 obtain ⟨At,ct,rfl,t1,t2,_⟩:=own_form h.oT
 refine ⟨An,cn,Ao,co,Ae,ce,At,ct,rfl,by unfold maxLen; simp only; omega,n1,o1,e1,t1,n2,o2,e2,t2,?_,fun r hr z hz => ?_,?_,fun r hr s hs => ?_,Reads.of_own h.oE,Reads.of_own h.oT,fun s hs => ?_⟩
 ·refine rows2_of (M:=M) h.oN (by rw [List.length_map]) fun i hi => ?_
  rw [List.length_map] at hi
  have:=h.nexts i hi
  rw [map_getD (fun r:List Int => r.map (Value.int .i64)) [] [] rfl,List.length_map]
  exact this
 ·obtain ⟨s,hs,rfl⟩:=List.mem_iff_getElem.1 hr
  obtain ⟨b,hb,rfl⟩:=List.mem_iff_getElem.1 hz
  have hs':s < S.next.length:=hs
  obtain ⟨_,k1,k2,k3⟩:=h6 s hs'
  have e:S.next.getD s [] = S.next[s]:=by rw [List.getD_eq_getElem?_getD,List.getElem?_eq_getElem hs']; rfl
  rw [e] at k1 k3
  have hb':b < (S.next[s]).length:=hb
  rw [k1] at hb'
  obtain ⟨z1,z2,_⟩:=k3 b hb'
  have e2:(S.next[s]).getD b 0 = S.next[s][b]:=by rw [List.getD_eq_getElem?_getD,List.getElem?_eq_getElem hb]; rfl
  rw [e2] at z1 z2
  show -9223372036854775808≤S.next[s][b]∧S.next[s][b]≤9223372036854775807
  omega
 ·refine rows2_of (M:=M) h.oO (by rw [List.length_map]) fun i hi => ?_
  rw [List.length_map] at hi
  have:=h.outss i hi
  rw [map_getD (fun r:List ByteArray => r.map Value.string) [] [] rfl,List.length_map]
  exact this
 ·obtain ⟨i,hi,rfl⟩:=List.mem_iff_getElem.1 hr
  obtain ⟨b,hb,rfl⟩:=List.mem_iff_getElem.1 hs
  have hi':i < S.outs.length:=hi
  obtain ⟨_,k1,k2,k3⟩:=h6 i (by omega)
  have e:S.outs.getD i [] = S.outs[i]:=by rw [List.getD_eq_getElem?_getD,List.getElem?_eq_getElem hi']; rfl
  rw [e] at k2 k3
  have hb':b < (S.outs[i]).length:=hb
  rw [k2] at hb'
  obtain ⟨_,_,z3⟩:=k3 b hb'
  have e2:(S.outs[i]).getD b ByteArray.empty = S.outs[i][b]:=by rw [List.getD_eq_getElem?_getD,List.getElem?_eq_getElem hb]; rfl
  rw [e2] at z3
  show (S.outs[i][b]).size≤maxLen
  unfold maxLen
  omega
 ·obtain ⟨i,hi,rfl⟩:=List.mem_iff_getElem.1 hs
  have hi':i < S.tails.length:=hi
  have k0:=(h6 i (by omega)).1
  have e:S.tails.getD i ByteArray.empty = S.tails[i]:=by rw [List.getD_eq_getElem?_getD,List.getElem?_eq_getElem hi']; rfl
  rw [e] at k0
  show (S.tails[i]).size≤maxLen
  unfold maxLen
  omega
theorem MkV.seqNew {w:World} {B0 P0 G MB:Nat} {vA vE:Value} {most:Int} {fr:ByteArray} {vR vN vO vEn vT:Value} {tv nv ov:List Value} {S:Mk} {M:Nat→Prop} (h:MkV w B0 P0 G MB vA vE most fr vR vN vO vEn vT tv nv ov S M)
    {m:Nat} (hm:m≤1024) (hq:S.next.length≤m∧S.outs.length = S.next.length∧S.ends.length = S.next.length∧S.tails.length = S.next.length∧fr.size≤4096 ∧
     ∀ s,s < S.next.length→(S.tails.getD s ByteArray.empty).size≤4096∧(S.next.getD s []).length = 256∧(S.outs.getD s []).length = 256 ∧
     ∀ b,b < 256→-1≤(S.next.getD s []).getD b 0∧(S.next.getD s []).getD b 0 < S.next.length∧((S.outs.getD s []).getD b ByteArray.empty).size≤4096) :
    SeqNew P0 w ⟨fr,S.next,S.outs,S.ends,S.tails⟩ (.agg #[.string fr,vN,vO,vEn,vT]):=fun W hz hk =>
 ((⟨h.oN,h.oO,h.oE,h.oT,h.nexts,h.outss⟩:MkQ w P0 vN vO vEn vT nv ov S M).stays h.low hz hk).seq hm ⟨hq.1,hq.2.1,hq.2.2.1,hq.2.2.2.1,Nat.le_trans hq.2.2.2.2.1 (by decide),hq.2.2.2.2.2⟩
end Go.Proofs.YtcondkihpmmnnaaGreatDoor
