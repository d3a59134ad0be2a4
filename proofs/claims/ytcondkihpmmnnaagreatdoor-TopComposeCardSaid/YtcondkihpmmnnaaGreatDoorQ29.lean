/- Lemmas, part 29 of 50. No condition. -/
import Derived.Test.YtcondkihpmmnnaaGreatDoorQ25
import Derived.Test.YtcondkihpmmnnaaGreatDoorQ24
import Derived.Test.YtcondkihpmmnnaaGreatDoorQ13
import Derived.Test.YtcondkihpmmnnaaGreatDoorQ26
namespace Go.Proofs.YtcondkihpmmnnaaGreatDoor
open Go.RowKit Go.Sort
theorem maker_sliceC {Q:Exit→Act→World→Prop} {base:Act} {w:World} {ds:List Tmp} {o:Oper} {d:Tmp} (hd:o.dst = some d) (hg:o.guard = none) (n:Nat) (t:TypeId) (hop:o.op = Op.makeSlice t (.const (.int .i64 (n:Int))) (.const (.int .i64 (n:Int))))
    (e:TypeId) (i:TypeInfo) (z:Value) (size:Nat) (h1:Tryz.prog.underlying t = some (.slice e)) (h2:Tryz.prog.info? e = some i) (h3:i.zero = some z) (h4:i.size = size)
    (b2:i.bytes * n≤281474976710656) (b3:n≤maxLen) :
    Maker Tryz.prog Q base w ds o d (fun v W => ∃ g,v = .slice (some ⟨g,0,none⟩) n n∧w.heap.size≤g∧W.ownsRow w.heap.size e size v n (madeCells z.cells (n * size)).toList):=by
 refine ⟨hd,hg,?_,?_⟩
 ·rintro v W W' ⟨g,rfl,hgz,ho⟩ hb
  exact ⟨g,rfl,hgz,own_below ho hb⟩
 ·intro act W K hag hb hK
  have hl':act.eval (.const (.int .i64 (n:Int))) = .int .i64 (n:Int):=rfl
  obtain ⟨w',hrun,r1,r2⟩:=run_make_full (P:=Tryz.prog) W w.heap.size t e i z size h1 h2 h3 h4 .i64 .i64 n b2 b3 hb.size
  unfold Oper.wp
  simp [execOp,hop,hl',hrun,Result.andThen]
  show K (act.put o.dst _) _
  rw [hd]
  exact hK _ _ ((Below.refl _ W).grown r2 (Nat.le_refl _) (fun k e => by cases e)) ⟨W.heap.size,rfl,hb.size,r1⟩
theorem int_infoS:(Tryz.prog.info? 3).map (fun i => (i.zero,i.size,i.bytes)) = some (some (.int .i64 0),1,8):=by kernel_rfl
theorem slI_info:(Tryz.prog.info? 55).map (fun i => (i.zero,i.size,i.bytes)) = some (some (.slice none 0 0),1,24):=by kernel_rfl
theorem slS_info:(Tryz.prog.info? 25).map (fun i => (i.zero,i.size,i.bytes)) = some (some (.slice none 0 0),1,24):=by kernel_rfl
theorem bool_infoS:(Tryz.prog.info? 4).map (fun i => (i.zero,i.size,i.bytes)) = some (some (.bool false),1,1):=by kernel_rfl
def Old (P0 G MB:Nat) (k:Nat):Prop:=k < P0∧k≠G∧k≠MB
def DoPost (B0 P0 G MB:Nat) (vA vE:Value) (most:Nat) (fr:ByteArray) (ns:Nat) (t:Fs) (S:Mk) (s:Nat) (w:World) (e:Ending) (w':World):Prop :=
 Below B0 w w'∧(∀ g,Old P0 G MB g→w'.heap[g]? = w.heap[g]?)∧match doF t most S s with
  | .error k => e = faultE k
  | .ok S' => e = .returned (.tuple #[])∧(∃ vR' vN' vO' vE' vT' tv' nv' ov' M',MkV w' B0 P0 G MB vA vE (most:Int) fr vR' vN' vO' vE' vT' tv' nv' ov' S' M')∧(∀ r∈S'.rows,RowG ns r)∧S'.rows.length≤most
theorem SlR.of_blk {M:Nat→Prop} {w:World} {g:Nat} {T:TypeId} {xs:List Value} {n:Nat} (h:Blk w g T xs.toArray) (hn:xs.length = n) (hm:n≤maxLen) (hM:¬ M g):SlR M w 1 (.slice (some ⟨g,0,none⟩) n n) n xs :=
 ⟨g,n,rfl,Nat.le_refl _,hm,h.lt,hM,by rw [Nat.mul_one]; exact hn,fun _ => ⟨_,rfl,h.lt,fun j u hj => by rw [add_mk,Nat.zero_add,h.cell]; simpa using hj⟩⟩
theorem SlR.far {M:Nat→Prop} {w:World} {k n:Nat} {v:Value} {xs:List Value} (h:SlR M w k v n xs) {p:Addr} (hp:M p.block) (u:Value):SlR M (w.setCell p u) k v n xs :=
 h.keep (by simp) fun g _ hg => Below.heap_setCell _ _ _ _ (fun e => hg (e ▸ hp))
theorem SlR.reads {M:Nat→Prop} {w:World} {k n c g:Nat} {xs:List Value} (h:SlR M w k (.slice (some ⟨g,0,none⟩) n c) n xs):Reads w w.heap.size k (some ⟨g,0,none⟩) n xs∧g < w.heap.size∧¬ M g:=by
 obtain ⟨g',c',e,h1,h2,h3,h4,h5⟩:=h
 injection e with e1 e2 e3
 injection e1 with e1
 injection e1 with e1
 subst e1
 exact ⟨h5,h3,h4⟩
theorem RowM.slr {M:Nat→Prop} {w:World} {g c:Nat} {l:List Tp} (h:RowM encT 2 w g l.length fun a => l.getD a tp0) (hc:l.length≤c) (hm:c≤maxLen) (hg:g < w.heap.size) (hM:¬ M g):SlR M w 2 (.slice (some ⟨g,0,none⟩) l.length c) l.length (encs encT l) :=
 ⟨g,c,rfl,hc,hm,hg,hM,h.reads encT_len (by decide) tp0 (Nat.le_refl _) hg⟩
section
variable {w w' w1:World} {B0 P0 G MB:Nat} {vA vE:Value} {most:Int} {fr:ByteArray} {vR vN vO vEn vT:Value} {tv nv ov:List Value} {S:Mk} {M M':Nat→Prop}
theorem MkV.notInt (h:MkV w B0 P0 G MB vA vE most fr vR vN vO vEn vT tv nv ov S M) {g:Nat} {cs:Array Value} (hb:Blk w g 3 cs):¬ Mine G MB vR vN vO vEn vT g:=by
 rintro (e | e | e | e | e | e | e)
 ·exact Blk.ne_ hb h.box (by decide) e
 ·exact num_block h.num hb e
 ·exact own_blk h.oR hb (by decide) e
 ·exact own_blk h.oN hb (by decide) e
 ·exact own_blk h.oO hb (by decide) e
 ·exact own_blk h.oE hb (by decide) e
 ·exact own_blk h.oT hb (by decide) e
theorem MkV.notText (h:MkV w B0 P0 G MB vA vE most fr vR vN vO vEn vT tv nv ov S M) {g:Nat} {cs:Array Value} (hb:Blk w g 9 cs) (hT:vT.ownBlock≠some g):¬ Mine G MB vR vN vO vEn vT g:=by
 rintro (e | e | e | e | e | e | e)
 ·exact Blk.ne_ hb h.box (by decide) e
 ·exact num_block h.num hb e
 ·exact own_blk h.oR hb (by decide) e
 ·exact own_blk h.oN hb (by decide) e
 ·exact own_blk h.oO hb (by decide) e
 ·exact own_blk h.oE hb (by decide) e
 ·exact hT e
end
end Go.Proofs.YtcondkihpmmnnaaGreatDoor
namespace Go.Proofs.YtcondkihpmmnnaaGreatDoor
open Go.RowKit Go.Sort
section
variable {K:Act→World→Prop} {Q:Exit→Act→World→Prop} {a:Act} {W:World} {o:Oper}
theorem op_assign (x:Operand) (hop:o.op = Op.assign x) (hK:K (a.put o.dst (a.eval x)) W):o.wp Tryz.prog a W K Q:=by
 unfold Oper.wp
 simp [execOp,hop]
 exact hK
end
theorem eval_put_same {a:Act} {d:Tmp} (h:d < a.tmps.size) (v:Value):(a.put (some d) v).eval (.tmp d) = v:=eval_tmp (put_same h v)
theorem eval_put_other {a:Act} {d x:Tmp} (h:d≠x) (v:Value):(a.put (some d) v).eval (.tmp x) = a.eval (.tmp x):=by
 unfold Act.eval
 simp only [Array.getD_eq_getD_getElem?,put_other h]
theorem pair_below {id:Nat} {base:Act} {w:World} {o0 o1 o2 o3:Oper} {Q:Exit→Act→World→Prop} {d0 d1 e0:Tmp} {F0 F1:Value→World→Prop}
    (hm:Tryz.prog.follows .mixedOrders = true) (hB:holdGB .any #[o0,o1,o2,o3] 3 [] [0,1,2] (fun i => if i = 2 then [0] else []) = true)
    (h01:d0≠d1) (_h0e:d0≠e0) (h1e:d1≠e0) (hz:d0 < base.tmps.size∧d1 < base.tmps.size)
    (m0:Maker Tryz.prog (NoPanic Q) base w.drew [d0,d1,e0] o0 d0 F0) (m1:Maker Tryz.prog (NoPanic Q) base w.drew [d0,d1,e0] o1 d1 F1)
    (g2:o2.guard = none) (d2:o2.dst = some e0) (p2:o2.op = Op.assign (.tmp d0))
    (h:∀ v0 v1 W,Below w.heap.size w W→F0 v0 W→F1 v1 W→wpList Tryz.prog #[o0,o1,o2,o3] (NoPanic Q) [o3] (((base.put (some d0) v0).put (some d1) v1).put (some e0) v0) W) :
    (Code.region id #[o0,o1,o2,o3] true).wp Tryz.prog Q base w:=by
 have hw:∀ W,Below w.drew.heap.size w.drew W→Below w.heap.size w W:=fun W hb => (Below.refl _ w).drew.trans hb
 have size_put:∀ (a:Act) (d:Tmp) (v:Value),(a.put (some d) v).tmps.size = a.tmps.size:=fun a d v => put_size v
 refine wp_region_fanG_below (l:=[o0,o1,o2,o3]) 3 [] [0,1,2] (fun i => if i = 2 then [0] else []) hm hB rfl rfl
  (fun is a W => Below w.drew.heap.size w.drew W∧((is = [0,1,2]∧a = base)∨(is = [1,2]∧∃ v0,F0 v0 W∧a = base.put (some d0) v0)∨(is = [0,2]∧∃ v1,F1 v1 W∧a = base.put (some d1) v1) ∨
   (is = [2]∧∃ v0 v1,F0 v0 W∧F1 v1 W∧a = (base.put (some d0) v0).put (some d1) v1)∨(is = [1]∧∃ v0,F0 v0 W∧a = (base.put (some d0) v0).put (some e0) v0) ∨
   (is = []∧∃ v0 v1,F0 v0 W∧F1 v1 W∧a = ((base.put (some d0) v0).put (some d1) v1).put (some e0) v0))) ?_ ?_ ?_
 ·rintro is a W ⟨hb,hc⟩ i hi hd
  rcases hc with ⟨rfl,rfl⟩ | ⟨rfl,v0,f0,rfl⟩ | ⟨rfl,v1,f1,rfl⟩ | ⟨rfl,v0,v1,f0,f1,rfl⟩ | ⟨rfl,v0,f0,rfl⟩ | ⟨rfl,_⟩
  ·simp only [List.mem_cons,List.not_mem_nil,or_false] at hi
   rcases hi with rfl | rfl | rfl
   ·refine ⟨o0,rfl,m0.guard,m0.makes _ W _ (fun _ _ => rfl) hb fun v W' hb' hf => ?_⟩
    have hb2:=hb.trans (hb'.mono hb.size)
    exact ⟨regrown_of_below (hw _ hb2),hb2,.inr (.inl ⟨rfl,v,hf,rfl⟩)⟩
   ·refine ⟨o1,rfl,m1.guard,m1.makes _ W _ (fun _ _ => rfl) hb fun v W' hb' hf => ?_⟩
    have hb2:=hb.trans (hb'.mono hb.size)
    exact ⟨regrown_of_below (hw _ hb2),hb2,.inr (.inr (.inl ⟨rfl,v,hf,rfl⟩))⟩
   ·exact absurd (by simp) (hd 0 (by simp))
  ·simp only [List.mem_cons,List.not_mem_nil,or_false] at hi
   rcases hi with rfl | rfl
   ·refine ⟨o1,rfl,m1.guard,m1.makes _ W _ (put_agrees (by simp) fun _ _ => rfl) hb fun v W' hb' hf => ?_⟩
    have hb2:=hb.trans (hb'.mono hb.size)
    exact ⟨regrown_of_below (hw _ hb2),hb2,.inr (.inr (.inr (.inl ⟨rfl,v0,v,m0.stays _ _ _ f0 hb',hf,rfl⟩)))⟩
   ·refine ⟨o2,rfl,g2,op_assign _ p2 ?_⟩
    rw [d2,eval_put_same hz.1]
    exact ⟨regrown_of_below (hw _ hb),hb,.inr (.inr (.inr (.inr (.inl ⟨rfl,v0,f0,rfl⟩))))⟩
  ·simp only [List.mem_cons,List.not_mem_nil,or_false] at hi
   rcases hi with rfl | rfl
   ·refine ⟨o0,rfl,m0.guard,m0.makes _ W _ (put_agrees (by simp) fun _ _ => rfl) hb fun v W' hb' hf => ?_⟩
    have hb2:=hb.trans (hb'.mono hb.size)
    exact ⟨regrown_of_below (hw _ hb2),hb2,.inr (.inr (.inr (.inl ⟨rfl,v,v1,hf,m1.stays _ _ _ f1 hb',put_comm _ (Ne.symm h01) _ _⟩)))⟩
   ·exact absurd (by simp) (hd 0 (by simp))
  ·obtain rfl:=List.mem_singleton.1 hi
   refine ⟨o2,rfl,g2,op_assign _ p2 ?_⟩
   rw [d2,eval_put_other (Ne.symm h01),eval_put_same hz.1]
   exact ⟨regrown_of_below (hw _ hb),hb,.inr (.inr (.inr (.inr (.inr ⟨rfl,v0,v1,f0,f1,rfl⟩))))⟩
  ·obtain rfl:=List.mem_singleton.1 hi
   refine ⟨o1,rfl,m1.guard,m1.makes _ W _ (put_agrees (by simp) (put_agrees (by simp) fun _ _ => rfl)) hb fun v W' hb' hf => ?_⟩
   have hb2:=hb.trans (hb'.mono hb.size)
   exact ⟨regrown_of_below (hw _ hb2),hb2,.inr (.inr (.inr (.inr (.inr ⟨rfl,v0,v,m0.stays _ _ _ f0 hb',hf,put_comm _ (Ne.symm h1e) _ _⟩))))⟩
  ·cases hi
 ·rintro a W ⟨hb,hc⟩
  rcases hc with ⟨h,_⟩ | ⟨h,_⟩ | ⟨h,_⟩ | ⟨h,_⟩ | ⟨h,_⟩ | ⟨_,v0,v1,f0,f1,rfl⟩
  ·cases h
  ·cases h
  ·cases h
  ·cases h
  ·cases h
  ·exact h v0 v1 W (hw _ hb) f0 f1
 ·exact wpQuiet_nil ⟨Below.refl _ _,.inl ⟨rfl,rfl⟩⟩
end Go.Proofs.YtcondkihpmmnnaaGreatDoor
namespace Go.Proofs.YtcondkihpmmnnaaGreatDoor
open Go.RowKit Go.Sort
theorem MkV.mine {w:World} {B0 P0 G MB:Nat} {vA vE:Value} {most:Int} {fr:ByteArray} {vR vN vO vEn vT:Value} {tv nv ov:List Value} {S:Mk} {M:Nat→Prop} (h:MkV w B0 P0 G MB vA vE most fr vR vN vO vEn vT tv nv ov S M) {g:Nat} (hg:Mine G MB vR vN vO vEn vT g):M g:=by
 rcases hg with rfl | rfl | e | e | e | e | e
 ·exact h.mG
 ·exact h.mM
 ·exact h.mR g e
 ·exact h.mN g e
 ·exact h.mO g e
 ·exact h.mE g e
 ·exact h.mT g e
theorem MkV.step {w w2 w3:World} {B0 P0 G MB:Nat} {vA vE:Value} {most:Int} {fr:ByteArray} {vR vN vO vEn vT:Value} {tv nv ov:List Value} {S:Mk} {M:Nat→Prop} (h:MkV w B0 P0 G MB vA vE most fr vR vN vO vEn vT tv nv ov S M)
    (hb2:Below w.heap.size w w2) {u:Value} (hu:∀ g,u.ownBlock = some g→P0≤g) (hg3:w2.grownBy w3 u.ownBlock) (i:Nat) (v:Value):Below B0 w (w3.setCell ⟨G,i,none⟩ v)∧∀ g,Old P0 G MB g→(w3.setCell ⟨G,i,none⟩ v).heap[g]? = w.heap[g]?:=by
 have h1:=h.le
 have h2:=h.sz
 have h3:=h.gG
 have h4:=hb2.size
 refine ⟨((hb2.mono (by omega)).grown hg3 (by omega) (fun k hk => by have:=hu k hk; omega)).setCell (p:=⟨G,i,none⟩) h3 v,fun g hg => ?_⟩
 have h5:=hg.1
 rw [Below.heap_setCell _ _ _ _ (show g≠G from hg.2.1),hg3.block g (by omega) (fun e => by have:=hu g e.symm; omega),hb2.block g (by omega)]
theorem MkV.carry {w w2 w3:World} {B0 P0 G MB:Nat} {vA vE:Value} {most:Int} {fr:ByteArray} {vR vN vO vEn vT:Value} {tv nv ov:List Value} {S:Mk} {M:Nat→Prop} (h:MkV w B0 P0 G MB vA vE most fr vR vN vO vEn vT tv nv ov S M)
    (hb2:Below w.heap.size w w2) {u v':Value} (hu:∀ g,u.ownBlock = some g→M g) (hg3:w2.grownBy w3 u.ownBlock) (hnew:v'.ownBlock = u.ownBlock∨v'.ownBlock = some w2.heap.size) (i:Nat) {k n:Nat} {v:Value} {xs:List Value} (hs:SlR M w k v n xs) :
    SlR (fun g => M g∨v'.ownBlock = some g) (w3.setCell ⟨G,i,none⟩ v') k v n xs:=by
 have z2:=hb2.size
 have z3:=hg3.size
 refine (hs.set (M':=fun g => M g∨v'.ownBlock = some g) fun g hlt e => ?_).keep (by simp; omega) fun g hlt hn => ?_
 ·rcases e with e | e
  ·exact e
  ·rcases hnew with f | f
   ·exact hu g (f ▸ e)
   ·rw [f] at e; have:=Option.some.inj e; omega
 ·have hn':¬ M g:=fun e => hn (.inl e)
  rw [Below.heap_setCell _ _ _ _ (show g≠G from fun e => hn' (e ▸ h.mG)),hg3.block g (by omega) (fun e => hn' (hu g e.symm)),hb2.block g hlt]
theorem numsV_full (l:List Int) (n:Nat) (h:l.length = n):numsV l n = (l.map (Value.int .i64)).toArray:=by
 unfold numsV; rw [h,Nat.sub_self]; simp
theorem textsV_full (l:List ByteArray) (n:Nat) (h:l.length = n):textsV l n = (l.map Value.string).toArray:=by
 unfold textsV; rw [h,Nat.sub_self]; simp
structure DoW (w wr:World) (B0 P0 G MB:Nat) (vA vE:Value) (most:Nat) (fr:ByteArray) (vR vN vO vEn vT:Value) (tv nv ov:List Value) (S:Mk) (rows:List (List Tp)) (M:Nat→Prop) (gN gO:Nat) (cN cO:Array Value) (gl n cl:Nat) (l:List Tp) (ns:Nat):Prop where
 mv:MkV wr B0 P0 G MB vA vE (most:Int) fr vR vN vO vEn vT tv nv ov { S with rows:=rows } M
 hN:Blk wr gN 3 cN
 hO:Blk wr gO 9 cO
 tO:vT.ownBlock≠some gO
 pN:P0≤gN
 pO:P0≤gO
 mN:M gN
 mO:M gO
 bd:∀ g,M g→g < wr.heap.size
 row:SlR M wr 2 (.slice (some ⟨gl,0,none⟩) n cl) n (encs encT l)
 good:∀ r∈rows,RowG ns r
 len:rows.length≤most
 bel:Below B0 w wr
 old:∀ g,Old P0 G MB g→wr.heap[g]? = w.heap[g]?
section
variable {w wr w':World} {B0 P0 G MB:Nat} {vA vE:Value} {most:Nat} {fr:ByteArray} {vR vN vO vEn vT:Value} {tv nv ov:List Value} {S:Mk} {rows:List (List Tp)} {M:Nat→Prop} {gN gO:Nat} {cN cO:Array Value} {gl n cl:Nat} {l:List Tp} {ns:Nat}
theorem DoW.call (h:DoW w wr B0 P0 G MB vA vE most fr vR vN vO vEn vT tv nv ov S rows M gN gO cN cO gl n cl l ns) (hb:Below wr.heap.size wr w'):DoW w w' B0 P0 G MB vA vE most fr vR vN vO vEn vT tv nv ov S rows M gN gO cN cO gl n cl l ns :=
 { h with
  mv:=h.mv.call hb
  hN:=h.hN.below hb h.hN.lt
  hO:=h.hO.below hb h.hO.lt
  bd:=fun g hg => Nat.lt_of_lt_of_le (h.bd g hg) hb.size
  row:=h.row.below hb
  bel:=h.bel.trans (hb.mono (Nat.le_trans h.mv.le h.mv.sz))
  old:=fun g hg => (hb.block g (Nat.lt_of_lt_of_le hg.1 h.mv.sz)).trans (h.old g hg) }
theorem DoW.ne (h:DoW w wr B0 P0 G MB vA vE most fr vR vN vO vEn vT tv nv ov S rows M gN gO cN cO gl n cl l ns):gN≠gO:=Blk.ne_ h.hN h.hO (by decide)
theorem DoW.setN (h:DoW w wr B0 P0 G MB vA vE most fr vR vN vO vEn vT tv nv ov S rows M gN gO cN cO gl n cl l ns) (i:Nat) (u:Value):DoW w (wr.setCell ⟨gN,i,none⟩ u) B0 P0 G MB vA vE most fr vR vN vO vEn vT tv nv ov S rows M gN gO (cN.setIfInBounds i u) cO gl n cl l ns :=
 { h with
  mv:=h.mv.far h.mN (h.mv.notInt h.hN) u
  hN:=h.hN.set_ i u
  hO:=h.hO.far (fun e => h.ne e.symm) u
  bd:=fun g hg => by simpa using h.bd g hg
  row:=h.row.far h.mN u
  bel:=h.bel.setCell (p:=⟨gN,i,none⟩) (Nat.le_trans h.mv.le h.pN) u
  old:=fun g hg => by
   have h1:=h.pN
   have h2:=hg.1
   exact (Below.heap_setCell _ _ _ _ (show g≠gN by omega)).trans (h.old g hg) }
theorem DoW.setO (h:DoW w wr B0 P0 G MB vA vE most fr vR vN vO vEn vT tv nv ov S rows M gN gO cN cO gl n cl l ns) (i:Nat) (u:Value):DoW w (wr.setCell ⟨gO,i,none⟩ u) B0 P0 G MB vA vE most fr vR vN vO vEn vT tv nv ov S rows M gN gO cN (cO.setIfInBounds i u) gl n cl l ns :=
 { h with
  mv:=h.mv.far h.mO (h.mv.notText h.hO h.tO) u
  hN:=h.hN.far h.ne u
  hO:=h.hO.set_ i u
  bd:=fun g hg => by simpa using h.bd g hg
  row:=h.row.far h.mO u
  bel:=h.bel.setCell (p:=⟨gO,i,none⟩) (Nat.le_trans h.mv.le h.pO) u
  old:=fun g hg => by
   have h1:=h.pO
   have h2:=hg.1
   exact (Below.heap_setCell _ _ _ _ (show g≠gO by omega)).trans (h.old g hg) }
theorem DoW.stated (h:DoW w wr B0 P0 G MB vA vE most fr vR vN vO vEn vT tv nv ov S rows M gN gO cN cO gl n cl l ns) {r:List Tp} (hr:RowG ns r) {i:Nat} {rows':List (List Tp)} (hst:stateF most rows r = .ok (i,rows')) {vR':Value} {tv':List Value}
    (hm:MkV w' B0 P0 G MB vA vE (most:Int) fr vR' vN vO vEn vT tv' nv ov { S with rows:=rows' } (fun g => M g∨vR'.ownBlock = some g)) (hnew:∀ g,vR'.ownBlock = some g→vR.ownBlock = some g∨wr.heap.size≤g)
    (hk:∀ g,g < wr.heap.size→g≠G→g≠MB→vR.ownBlock≠some g→w'.heap[g]? = wr.heap[g]?) (hb:Below B0 wr w') :
    DoW w w' B0 P0 G MB vA vE most fr vR' vN vO vEn vT tv' nv ov S rows' (fun g => M g∨vR'.ownBlock = some g) gN gO cN cO gl n cl l ns:=by
 have hz:=hb.size
 have key:∀ g,g < wr.heap.size→¬ M g→w'.heap[g]? = wr.heap[g]?:=fun g hg hn => hk g hg (fun e => hn (e ▸ h.mv.mG)) (fun e => hn (e ▸ h.mv.mM)) (fun e => hn (h.mv.mR g e))
 obtain ⟨_,p2,_,p4⟩:=stateF_ok hst h.len
 have nN:=h.mv.notInt h.hN
 have nO:=h.mv.notText h.hO h.tO
 unfold Mine at nN nO
 simp only [not_or] at nN nO
 exact {
  mv:=hm
  hN:=(hk gN h.hN.lt nN.1 nN.2.1 nN.2.2.1).trans h.hN
  hO:=(hk gO h.hO.lt nO.1 nO.2.1 nO.2.2.1).trans h.hO
  tO:=h.tO
  pN:=h.pN
  pO:=h.pO
  mN:=.inl h.mN
  mO:=.inl h.mO
  bd:=fun g hg => by
   rcases hg with hg | hg
   ·have:=h.bd g hg; omega
   ·exact (own_lt hm.oR g hg).2
  row:=(h.row.set (M':=fun g => M g∨vR'.ownBlock = some g) fun g hg e => by
   rcases e with e | e
   ·exact e
   ·rcases hnew g e with f | f
    ·exact h.mv.mR g f
    ·omega).keep hz fun g hg hn => key g hg (fun e => hn (.inl e))
  good:=fun q hq => by
   rcases p4 q hq with hq | rfl
   ·exact h.good q hq
   ·exact hr
  len:=p2
  bel:=h.bel.trans hb
  old:=fun g hg => by
   have h1:=hg.1
   have h2:=h.mv.sz
   refine (hk g (by omega) hg.2.1 hg.2.2 (fun e => ?_)).trans (h.old g hg)
   have:=(own_lt h.mv.oR g e).1
   omega }
end
end Go.Proofs.YtcondkihpmmnnaaGreatDoor
