/- Lemmas, part 28 of 39. No condition. -/
import Derived.Test.YtcondkihpmmnnaaGreatDoorUniqueP26
import Derived.Test.YtcondkihpmmnnaaGreatDoorUniqueP27
import Derived.ArgAppend
namespace Go.Proofs.YtcondkihpmmnnaaGreatDoor
open Go.RowKit Go.Sort
def PairGoal (Q:Exit→Act→World→Prop) (w:World) (i0 i1 i2:Nat) (o0 o1:Oper) (d0 d1 e0:Tmp) (F0 F1:Value→World→Prop) (kont:Act→World→Prop) (is:List Nat) (a:Act) (W:World):Prop :=
 ∃ b:Act,(d0 < b.tmps.size∧d1 < b.tmps.size)∧Maker Tryz.prog (NoPanic Q) b w.drew [d0,d1,e0] o0 d0 F0∧Maker Tryz.prog (NoPanic Q) b w.drew [d0,d1,e0] o1 d1 F1 ∧
  (∀ v0 v1 W,Below w.heap.size w W→F0 v0 W→F1 v1 W→kont (((b.put (some d0) v0).put (some d1) v1).put (some e0) v0) W)∧Below w.drew.heap.size w.drew W ∧
  ((is = [i0,i1,i2]∧a = b)∨(is = [i1,i2]∧∃ v0,F0 v0 W∧a = b.put (some d0) v0)∨(is = [i0,i2]∧∃ v1,F1 v1 W∧a = b.put (some d1) v1) ∨
   (is = [i2]∧∃ v0 v1,F0 v0 W∧F1 v1 W∧a = (b.put (some d0) v0).put (some d1) v1)∨(is = [i1]∧∃ v0,F0 v0 W∧a = (b.put (some d0) v0).put (some e0) v0) ∨
   (is = []∧∃ v0 v1,F0 v0 W∧F1 v1 W∧a = ((b.put (some d0) v0).put (some d1) v1).put (some e0) v0))
theorem PairGoal.start {Q:Exit→Act→World→Prop} {w:World} {i0 i1 i2:Nat} {o0 o1:Oper} {d0 d1 e0:Tmp} {F0 F1:Value→World→Prop} {kont:Act→World→Prop} (b:Act) (hz:d0 < b.tmps.size∧d1 < b.tmps.size)
    (m0:Maker Tryz.prog (NoPanic Q) b w.drew [d0,d1,e0] o0 d0 F0) (m1:Maker Tryz.prog (NoPanic Q) b w.drew [d0,d1,e0] o1 d1 F1)
    (h:∀ v0 v1 W,Below w.heap.size w W→F0 v0 W→F1 v1 W→kont (((b.put (some d0) v0).put (some d1) v1).put (some e0) v0) W):PairGoal Q w i0 i1 i2 o0 o1 d0 d1 e0 F0 F1 kont [i0,i1,i2] b w.drew :=
 ⟨b,hz,m0,m1,h,Below.refl _ _,.inl ⟨rfl,rfl⟩⟩
theorem pair_gen {id:Nat} {base:Act} {w:World} {l:List Oper} {o0 o1 o2:Oper} {Q:Exit→Act→World→Prop} {d0 d1 e0:Tmp} {F0 F1:Value→World→Prop} (n:Nat) (qs:List Nat) (i0 i1 i2:Nat)
    (hm:Tryz.prog.follows .mixedOrders = true) (hB:holdGB .any l.toArray n qs [i0,i1,i2] (fun i => if i = i2 then [i0] else []) = true) (hlen:qs.length + 3 = n) (hin:(qs.all fun i => decide (i < l.length)) = true)
    (hi:i0≠i1∧i0≠i2∧i1≠i2) (ho0:l.toArray[i0]? = some o0) (ho1:l.toArray[i1]? = some o1) (ho2:l.toArray[i2]? = some o2)
    (h01:d0≠d1) (h1e:d1≠e0) (g2:o2.guard = none) (d2:o2.dst = some e0) (p2:o2.op = Op.assign (.tmp d0))
    (h:wpQuiet Tryz.prog l.toArray (fun w' => ∃ p:Regrown,w' = grow (redrawn w p.d) p.os) (fun b => PairGoal Q w i0 i1 i2 o0 o1 d0 d1 e0 F0 F1 (fun a W => wpList Tryz.prog l.toArray (NoPanic Q) (l.drop n) a W) [i0,i1,i2] b w.drew) (pickOps l qs) base) :
    (Code.region id l.toArray true).wp Tryz.prog Q base w:=by
 obtain ⟨n01,n02,n12⟩:=hi
 have hw:∀ W,Below w.drew.heap.size w.drew W→Below w.heap.size w W:=fun W hb => (Below.refl _ w).drew.trans hb
 refine wp_region_fanG_below n qs [i0,i1,i2] (fun i => if i = i2 then [i0] else []) hm hB hlen hin _ ?_ ?_ h
 ·rintro is a W ⟨b,hz,m0,m1,hk,hb,hc⟩ i hii hd
  have er0:([i0,i1,i2]:List Nat).erase i0 = [i1,i2]:=by simp
  have er1:([i0,i1,i2]:List Nat).erase i1 = [i0,i2]:=by simp [n01,beq_iff_eq]
  have er2:([i1,i2]:List Nat).erase i1 = [i2]:=by simp
  have er3:([i1,i2]:List Nat).erase i2 = [i1]:=by simp [n12,beq_iff_eq]
  have er4:([i0,i2]:List Nat).erase i0 = [i2]:=by simp
  have er5:([i2]:List Nat).erase i2 = []:=by simp
  have er6:([i1]:List Nat).erase i1 = []:=by simp
  rcases hc with ⟨rfl,rfl⟩ | ⟨rfl,v0,f0,rfl⟩ | ⟨rfl,v1,f1,rfl⟩ | ⟨rfl,v0,v1,f0,f1,rfl⟩ | ⟨rfl,v0,f0,rfl⟩ | ⟨rfl,_⟩
  ·simp only [List.mem_cons,List.not_mem_nil,or_false] at hii
   rcases hii with rfl | rfl | rfl
   ·refine ⟨o0,ho0,m0.guard,m0.makes _ W _ (fun _ _ => rfl) hb fun v W' hb' hf => ?_⟩
    have hb2:=hb.trans (hb'.mono hb.size)
    exact ⟨regrown_of_below (hw _ hb2),_,hz,m0,m1,hk,hb2,.inr (.inl ⟨er0,v,hf,rfl⟩)⟩
   ·refine ⟨o1,ho1,m1.guard,m1.makes _ W _ (fun _ _ => rfl) hb fun v W' hb' hf => ?_⟩
    have hb2:=hb.trans (hb'.mono hb.size)
    exact ⟨regrown_of_below (hw _ hb2),_,hz,m0,m1,hk,hb2,.inr (.inr (.inl ⟨er1,v,hf,rfl⟩))⟩
   ·exact absurd (by simp) (hd i0 (by simp))
  ·simp only [List.mem_cons,List.not_mem_nil,or_false] at hii
   rcases hii with rfl | rfl
   ·refine ⟨o1,ho1,m1.guard,m1.makes _ W _ (put_agrees (by simp) fun _ _ => rfl) hb fun v W' hb' hf => ?_⟩
    have hb2:=hb.trans (hb'.mono hb.size)
    exact ⟨regrown_of_below (hw _ hb2),b,hz,m0,m1,hk,hb2,.inr (.inr (.inr (.inl ⟨er2,v0,v,m0.stays _ _ _ f0 hb',hf,rfl⟩)))⟩
   ·refine ⟨o2,ho2,g2,op_assign _ p2 ?_⟩
    rw [d2,eval_put_same hz.1]
    exact ⟨regrown_of_below (hw _ hb),b,hz,m0,m1,hk,hb,.inr (.inr (.inr (.inr (.inl ⟨er3,v0,f0,rfl⟩))))⟩
  ·simp only [List.mem_cons,List.not_mem_nil,or_false] at hii
   rcases hii with rfl | rfl
   ·refine ⟨o0,ho0,m0.guard,m0.makes _ W _ (put_agrees (by simp) fun _ _ => rfl) hb fun v W' hb' hf => ?_⟩
    have hb2:=hb.trans (hb'.mono hb.size)
    exact ⟨regrown_of_below (hw _ hb2),b,hz,m0,m1,hk,hb2,.inr (.inr (.inr (.inl ⟨er4,v,v1,hf,m1.stays _ _ _ f1 hb',put_comm _ (Ne.symm h01) _ _⟩)))⟩
   ·exact absurd (by simp) (hd i0 (by simp))
  ·obtain rfl:=List.mem_singleton.1 hii
   refine ⟨o2,ho2,g2,op_assign _ p2 ?_⟩
   rw [d2,eval_put_other (Ne.symm h01),eval_put_same hz.1]
   exact ⟨regrown_of_below (hw _ hb),b,hz,m0,m1,hk,hb,.inr (.inr (.inr (.inr (.inr ⟨er5,v0,v1,f0,f1,rfl⟩))))⟩
  ·obtain rfl:=List.mem_singleton.1 hii
   refine ⟨o1,ho1,m1.guard,m1.makes _ W _ (put_agrees (by simp) (put_agrees (by simp) fun _ _ => rfl)) hb fun v W' hb' hf => ?_⟩
   have hb2:=hb.trans (hb'.mono hb.size)
   exact ⟨regrown_of_below (hw _ hb2),b,hz,m0,m1,hk,hb2,.inr (.inr (.inr (.inr (.inr ⟨er6,v0,v,m0.stays _ _ _ f0 hb',hf,put_comm _ (Ne.symm h1e) _ _⟩))))⟩
  ·cases hii
 ·rintro a W ⟨b,hz,m0,m1,hk,hb,hc⟩
  rcases hc with ⟨h,_⟩ | ⟨h,_⟩ | ⟨h,_⟩ | ⟨h,_⟩ | ⟨h,_⟩ | ⟨_,v0,v1,f0,f1,rfl⟩
  ·cases h
  ·cases h
  ·cases h
  ·cases h
  ·cases h
  ·exact hk v0 v1 W (hw _ hb) f0 f1
end Go.Proofs.YtcondkihpmmnnaaGreatDoor
namespace Go.Proofs.YtcondkihpmmnnaaGreatDoor
open Go.RowKit Go.Sort
def putO (a:Act) (d:Tmp):Option Value→Act
 | none => a
 | some v => a.put (some d) v
theorem putO_comm (a:Act) {d e:Tmp} (h:d≠e) (s:Option Value) (v:Value):(putO a d s).put (some e) v = putO (a.put (some e) v) d s:=by
 cases s with
 | none => rfl
 | some u => exact put_comm _ h _ _
theorem putO_agrees {a b:Act} {d:Tmp} {ds:List Tmp} (hd:d∈ds) (s:Option Value) (h:∀ x,x ∉ ds→a.tmps[x]? = b.tmps[x]?):∀ x,x ∉ ds→(putO a d s).tmps[x]? = b.tmps[x]?:=by
 cases s with
 | none => exact h
 | some u => exact put_agrees hd h
theorem putO_size (a:Act) (d:Tmp) (s:Option Value):(putO a d s).tmps.size = a.tmps.size:=by
 cases s with
 | none => rfl
 | some u => exact put_size u
theorem putO_other {a:Act} {d x:Tmp} (h:d≠x) (s:Option Value):(putO a d s).tmps[x]? = a.tmps[x]?:=by
 cases s with
 | none => rfl
 | some u => exact put_other h u
def four (_mk:Value→Value→Value) (b:Act) (d0 d1 d2 d3:Tmp) (s0 s1:Option Value) (s2:Option Value) (s3:Option Value):Act:=putO (putO (putO (putO b d0 s0) d1 s1) d2 s2) d3 s3
structure FourInv (mk:Value→Value→Value) (Q:Exit→Act→World→Prop) (w:World) (b:Act) (i0 i1 i2 i3:Nat) (d0 d1 d2 d3:Tmp) (F0 F1 F3:Value→World→Prop) (s0 s1 s2 s3:Option Value) (is:List Nat) (a:Act) (W:World):Prop where
 bel:Below w.drew.heap.size w.drew W
 nd:is.Nodup
 sub:∀ i∈is,i = i0∨i = i1∨i = i2∨i = i3
 j0:i0∈is↔s0 = none
 j1:i1∈is↔s1 = none
 j2:i2∈is↔s2 = none
 j3:i3∈is↔s3 = none
 f0:∀ v,s0 = some v→F0 v W
 f1:∀ v,s1 = some v→F1 v W
 f2:∀ v,s2 = some v→∃ v0 v1,s0 = some v0∧s1 = some v1∧v = mk v0 v1
 f3:∀ v,s3 = some v→F3 v W
 act:a = four mk b d0 d1 d2 d3 s0 s1 s2 s3
structure FourGoal (mk:Value→Value→Value) (Q:Exit→Act→World→Prop) (w:World) (o0 o1 o2 o3:Oper) (d0 d1 d2 d3:Tmp) (F0 F1 F3:Value→World→Prop) (kont:Act→World→Prop) (b:Act):Prop where
 sz:d0 < b.tmps.size∧d1 < b.tmps.size
 m0:Maker Tryz.prog (NoPanic Q) b w.drew [d0,d1,d2,d3] o0 d0 F0
 m1:Maker Tryz.prog (NoPanic Q) b w.drew [d0,d1,d2,d3] o1 d1 F1
 m3:Maker Tryz.prog (NoPanic Q) b w.drew [d0,d1,d2,d3] o3 d3 F3
 g2:o2.guard = none
 m2:∀ (a:Act) (W:World) (v0 v1:Value) (K:Act→World→Prop),F0 v0 W→F1 v1 W→a.eval (.tmp d0) = v0→a.eval (.tmp d1) = v1→(∀ x,x ∉ [d0,d1,d2,d3]→a.eval (.tmp x) = b.eval (.tmp x))→K (a.put (some d2) (mk v0 v1)) W→o2.wp Tryz.prog a W K (NoPanic Q)
 go:∀ v0 v1 v3 W,Below w.heap.size w W→F0 v0 W→F1 v1 W→F3 v3 W→kont ((((b.put (some d0) v0).put (some d1) v1).put (some d2) (mk v0 v1)).put (some d3) v3) W
def FourStart (mk:Value→Value→Value) (Q:Exit→Act→World→Prop) (w:World) (i0 i1 i2 i3:Nat) (o0 o1 o2 o3:Oper) (d0 d1 d2 d3:Tmp) (F0 F1 F3:Value→World→Prop) (kont:Act→World→Prop) (W:World) (is:List Nat) (a:Act):Prop :=
 ∃ b s0 s1 s2 s3,FourGoal mk Q w o0 o1 o2 o3 d0 d1 d2 d3 F0 F1 F3 kont b∧FourInv mk Q w b i0 i1 i2 i3 d0 d1 d2 d3 F0 F1 F3 s0 s1 s2 s3 is a W
theorem four_start {mk:Value→Value→Value} {Q:Exit→Act→World→Prop} {w:World} {i0 i1 i2 i3:Nat} {o0 o1 o2 o3:Oper} {d0 d1 d2 d3:Tmp} {F0 F1 F3:Value→World→Prop} {kont:Act→World→Prop} {b:Act} (hi:[i0,i1,i2,i3].Nodup)
    (G:FourGoal mk Q w o0 o1 o2 o3 d0 d1 d2 d3 F0 F1 F3 kont b):FourStart mk Q w i0 i1 i2 i3 o0 o1 o2 o3 d0 d1 d2 d3 F0 F1 F3 kont w.drew [i0,i1,i2,i3] b:=by
 refine ⟨b,none,none,none,none,G,Below.refl _ _,hi,fun i h => by simpa using h,by simp,by simp,by simp,by simp,fun v h => (by cases h),fun v h => (by cases h),fun v h => (by cases h),fun v h => (by cases h),rfl⟩
theorem four_below {id:Nat} {base:Act} {w:World} {l:List Oper} {o0 o1 o2 o3:Oper} {Q:Exit→Act→World→Prop} {d0 d1 d2 d3:Tmp} {F0 F1 F3:Value→World→Prop} (mk:Value→Value→Value) (n:Nat) (qs:List Nat) (i0 i1 i2 i3:Nat)
    (hm:Tryz.prog.follows .mixedOrders = true) (hB:holdGB .any l.toArray n qs [i0,i1,i2,i3] (fun i => if i = i2 then [i0,i1] else []) = true) (hlen:qs.length + 4 = n) (hin:(qs.all fun i => decide (i < l.length)) = true)
    (hi:[i0,i1,i2,i3].Nodup) (ho0:l.toArray[i0]? = some o0) (ho1:l.toArray[i1]? = some o1) (ho2:l.toArray[i2]? = some o2) (ho3:l.toArray[i3]? = some o3) (hd:[d0,d1,d2,d3].Nodup)
    (h:wpQuiet Tryz.prog l.toArray (fun w' => ∃ p:Regrown,w' = grow (redrawn w p.d) p.os) (FourStart mk Q w i0 i1 i2 i3 o0 o1 o2 o3 d0 d1 d2 d3 F0 F1 F3 (fun a W => wpList Tryz.prog l.toArray (NoPanic Q) (l.drop n) a W) w.drew [i0,i1,i2,i3]) (pickOps l qs) base) :
    (Code.region id l.toArray true).wp Tryz.prog Q base w:=by
 have hw:∀ W,Below w.drew.heap.size w.drew W→Below w.heap.size w W:=fun W hb => (Below.refl _ w).drew.trans hb
 simp only [List.nodup_cons,List.mem_cons,List.not_mem_nil,or_false,not_or] at hi hd
 obtain ⟨⟨n01,n02,n03⟩,⟨n12,n13⟩,n23,_⟩:=hi
 obtain ⟨⟨e01,e02,e03⟩,⟨e12,e13⟩,e23,_⟩:=hd
 refine wp_region_fanG_below n qs [i0,i1,i2,i3] (fun i => if i = i2 then [i0,i1] else []) hm hB hlen hin
  (fun is a W => FourStart mk Q w i0 i1 i2 i3 o0 o1 o2 o3 d0 d1 d2 d3 F0 F1 F3 (fun a W => wpList Tryz.prog l.toArray (NoPanic Q) (l.drop n) a W) W is a) ?_ ?_ h
 ·rintro is a W ⟨b,s0,s1,s2,s3,G,I⟩ i hii hdep
  have hag:∀ x,x ∉ [d0,d1,d2,d3]→a.tmps[x]? = b.tmps[x]?:=by
   rw [I.act]; unfold four
   exact putO_agrees (by simp) _ (putO_agrees (by simp) _ (putO_agrees (by simp) _ (putO_agrees (by simp) _ fun _ _ => rfl)))
  have hsz:a.tmps.size = b.tmps.size:=by rw [I.act]; unfold four; rw [putO_size,putO_size,putO_size,putO_size]
  have hmem:∀ j,j∈is.erase i↔j≠i∧j∈is:=fun j => List.Nodup.mem_erase_iff I.nd
  rcases I.sub i hii with rfl | rfl | rfl | rfl
  ·have hs:=I.j0.1 hii
   subst hs
   have h2:s2 = none:=by
    rcases hs2:s2 with _ | v
    ·rfl
    ·obtain ⟨_,_,h,_⟩:=I.f2 v hs2; cases h
   subst h2
   refine ⟨o0,ho0,G.m0.guard,G.m0.makes _ W _ hag I.bel fun v W' hb' hf => ?_⟩
   have hb2:=I.bel.trans (hb'.mono I.bel.size)
   refine ⟨regrown_of_below (hw _ hb2),b,some v,s1,none,s3,G,hb2,I.nd.erase _,fun j hj => I.sub j ((hmem j).1 hj).2,?_,?_,?_,?_,?_,?_,?_,?_,?_⟩
   ·rw [hmem]; simp
   ·rw [hmem,← I.j1]; exact ⟨fun h => h.2,fun h => ⟨(Ne.symm n01),h⟩⟩
   ·rw [hmem,← I.j2]; exact ⟨fun h => h.2,fun h => ⟨(Ne.symm n02),h⟩⟩
   ·rw [hmem,← I.j3]; exact ⟨fun h => h.2,fun h => ⟨(Ne.symm n03),h⟩⟩
   ·intro u hu; rw [← Option.some.inj hu]; exact hf
   ·exact fun u hu => G.m1.stays _ _ _ (I.f1 u hu) hb'
   ·intro u hu; cases hu
   ·exact fun u hu => G.m3.stays _ _ _ (I.f3 u hu) hb'
   ·rw [I.act]; unfold four
    rw [putO_comm _ (Ne.symm e03),putO_comm _ (Ne.symm e02),putO_comm _ (Ne.symm e01)]; rfl
  ·have hs:=I.j1.1 hii
   subst hs
   have h2:s2 = none:=by
    rcases hs2:s2 with _ | v
    ·rfl
    ·obtain ⟨_,_,_,h,_⟩:=I.f2 v hs2; cases h
   subst h2
   refine ⟨o1,ho1,G.m1.guard,G.m1.makes _ W _ hag I.bel fun v W' hb' hf => ?_⟩
   have hb2:=I.bel.trans (hb'.mono I.bel.size)
   refine ⟨regrown_of_below (hw _ hb2),b,s0,some v,none,s3,G,hb2,I.nd.erase _,fun j hj => I.sub j ((hmem j).1 hj).2,?_,?_,?_,?_,?_,?_,?_,?_,?_⟩
   ·rw [hmem,← I.j0]; exact ⟨fun h => h.2,fun h => ⟨n01,h⟩⟩
   ·rw [hmem]; simp
   ·rw [hmem,← I.j2]; exact ⟨fun h => h.2,fun h => ⟨(Ne.symm n12),h⟩⟩
   ·rw [hmem,← I.j3]; exact ⟨fun h => h.2,fun h => ⟨(Ne.symm n13),h⟩⟩
   ·exact fun u hu => G.m0.stays _ _ _ (I.f0 u hu) hb'
   ·intro u hu; rw [← Option.some.inj hu]; exact hf
   ·intro u hu; cases hu
   ·exact fun u hu => G.m3.stays _ _ _ (I.f3 u hu) hb'
   ·rw [I.act]; unfold four
    rw [putO_comm _ (Ne.symm e13),putO_comm _ (Ne.symm e12)]; rfl
  ·have hs:=I.j2.1 hii
   subst hs
   have h0:s0≠none:=fun e => hdep i0 (by simp) (I.j0.2 e)
   have h1:s1≠none:=fun e => hdep i1 (by simp) (I.j1.2 e)
   obtain ⟨v0,rfl⟩:=Option.ne_none_iff_exists'.1 h0
   obtain ⟨v1,rfl⟩:=Option.ne_none_iff_exists'.1 h1
   have k0:a.tmps[d0]? = some v0:=by
    rw [I.act]; unfold four
    rw [putO_other (Ne.symm e03),putO_other (Ne.symm e02),putO_other (Ne.symm e01)]
    exact put_same G.sz.1 v0
   have k1:a.tmps[d1]? = some v1:=by
    rw [I.act]; unfold four
    rw [putO_other (Ne.symm e13),putO_other (Ne.symm e12)]
    exact put_same (by rw [putO_size]; exact G.sz.2) v1
   refine ⟨o2,ho2,G.g2,G.m2 a W v0 v1 _ (I.f0 v0 rfl) (I.f1 v1 rfl) (eval_tmp k0) (eval_tmp k1) (fun x hx => eval_agrees hag x hx) ?_⟩
   refine ⟨regrown_of_below (hw _ I.bel),b,some v0,some v1,some (mk v0 v1),s3,G,I.bel,I.nd.erase _,fun j hj => I.sub j ((hmem j).1 hj).2,?_,?_,?_,?_,I.f0,I.f1,?_,I.f3,?_⟩
   ·rw [hmem,← I.j0]; exact ⟨fun h => h.2,fun h => ⟨n02,h⟩⟩
   ·rw [hmem,← I.j1]; exact ⟨fun h => h.2,fun h => ⟨n12,h⟩⟩
   ·rw [hmem]; simp
   ·rw [hmem,← I.j3]; exact ⟨fun h => h.2,fun h => ⟨(Ne.symm n23),h⟩⟩
   ·intro u hu; exact ⟨v0,v1,rfl,rfl,(Option.some.inj hu).symm⟩
   ·rw [I.act]; unfold four
    rw [putO_comm _ (Ne.symm e23)]; rfl
  ·have hs:=I.j3.1 hii
   subst hs
   refine ⟨o3,ho3,G.m3.guard,G.m3.makes _ W _ hag I.bel fun v W' hb' hf => ?_⟩
   have hb2:=I.bel.trans (hb'.mono I.bel.size)
   refine ⟨regrown_of_below (hw _ hb2),b,s0,s1,s2,some v,G,hb2,I.nd.erase _,fun j hj => I.sub j ((hmem j).1 hj).2,?_,?_,?_,?_,?_,?_,?_,?_,?_⟩
   ·rw [hmem,← I.j0]; exact ⟨fun h => h.2,fun h => ⟨n03,h⟩⟩
   ·rw [hmem,← I.j1]; exact ⟨fun h => h.2,fun h => ⟨n13,h⟩⟩
   ·rw [hmem,← I.j2]; exact ⟨fun h => h.2,fun h => ⟨n23,h⟩⟩
   ·rw [hmem]; simp
   ·exact fun u hu => G.m0.stays _ _ _ (I.f0 u hu) hb'
   ·exact fun u hu => G.m1.stays _ _ _ (I.f1 u hu) hb'
   ·exact I.f2
   ·intro u hu; rw [← Option.some.inj hu]; exact hf
   ·rw [I.act]; rfl
 ·rintro a W ⟨b,s0,s1,s2,s3,G,I⟩
  have h0:s0≠none:=fun e => by have:=I.j0.2 e; cases this
  have h1:s1≠none:=fun e => by have:=I.j1.2 e; cases this
  have h2:s2≠none:=fun e => by have:=I.j2.2 e; cases this
  have h3:s3≠none:=fun e => by have:=I.j3.2 e; cases this
  obtain ⟨v2,rfl⟩:=Option.ne_none_iff_exists'.1 h2
  obtain ⟨v3,rfl⟩:=Option.ne_none_iff_exists'.1 h3
  obtain ⟨v0,v1,rfl,rfl,rfl⟩:=I.f2 v2 rfl
  rw [I.act]
  exact G.go v0 v1 v3 W (hw _ I.bel) (I.f0 _ rfl) (I.f1 _ rfl) (I.f3 _ rfl)
end Go.Proofs.YtcondkihpmmnnaaGreatDoor
namespace Go.Proofs.YtcondkihpmmnnaaGreatDoor
open Go.RowKit Go.Sort
theorem Old.mono {P P' G MB g:Nat} (h:Old P G MB g) (hp:P≤P'):Old P' G MB g:=⟨Nat.lt_of_lt_of_le h.1 hp,h.2⟩
theorem GrpP.mono {α:Type} {p q:Nat→Prop} {enc:α→List Value} {k:Nat} {w:World} {L n:Nat} {rows:Nat→List α} (h:GrpP p enc k w L n rows) (hp:∀ g,p g→q g):GrpP q enc k w L n rows :=
 ⟨hp _ h.1,fun s hs => by
  obtain ⟨A,c,h1,h2,h3,h4⟩:=h.2 s hs
  exact ⟨A,c,h1,h2,h3,h4.mono hp⟩⟩
theorem MkV.setFr {w:World} {B0 P0 G MB:Nat} {vA vE:Value} {most:Int} {fr:ByteArray} {vR vN vO vEn vT:Value} {tv nv ov:List Value} {S:Mk} {M:Nat→Prop} (h:MkV w B0 P0 G MB vA vE most fr vR vN vO vEn vT tv nv ov S M) (f:ByteArray) :
    MkV (w.setCell ⟨G,5,none⟩ (.string f)) B0 P0 G MB vA vE most f vR vN vO vEn vT tv nv ov S M:=by
 have hk:∀ g,g < w.heap.size→¬ M g→(w.setCell ⟨G,5,none⟩ (.string f)).heap[g]? = w.heap[g]?:=fun g _ hg => Below.heap_setCell _ _ _ _ (fun e => hg (e ▸ h.mG))
 have hne:G≠MB:=num_block h.num h.box
 exact { h with
  box:=h.box.set_ 5 (.string f)
  num:=h.num.setCell (fun e => hne e) _
  oR:=own_setCell h.oR (own_blk h.oR h.box (by decide)) _
  oN:=own_setCell h.oN (own_blk h.oN h.box (by decide)) _
  oO:=own_setCell h.oO (own_blk h.oO h.box (by decide)) _
  oE:=own_setCell h.oE (own_blk h.oE h.box (by decide)) _
  oT:=own_setCell h.oT (own_blk h.oT h.box (by decide)) _
  sz:=by simpa using h.sz
  tips:=fun i hi => (h.tips i hi).keep (by simp) hk
  nexts:=fun i hi => (h.nexts i hi).keep (by simp) hk
  outss:=fun i hi => (h.outss i hi).keep (by simp) hk }
theorem loop_step {t:Fs} {most s:Nat} {S:Mk} (hs:s < S.rows.length) (hr:S.rows.length≤most):loopF t most (most - s) s S = match doF t most S s with
    | .error e => .error e
    | .ok m' => loopF t most (most - (s + 1)) (s + 1) m':=by
 obtain ⟨k,hk⟩:∃ k,most - s = k + 1:=⟨most - s - 1,by omega⟩
 rw [hk]
 conv => lhs; unfold loopF
 rw [if_pos hs,show most - (s + 1) = k by omega]
 rcases doF t most S s with e | m <;> rfl
theorem loop_end {t:Fs} {most s k:Nat} {S:Mk} (hs:¬ s < S.rows.length):loopF t most k s S = .ok S:=by
 cases k with
 | zero => rfl
 | succ k => unfold loopF; rw [if_neg hs]
theorem doF_lens {t:Fs} {most s:Nat} {S S':Mk} (h:doF t most S s = .ok S'):S'.next.length = S.next.length + 1∧S'.outs.length = S.outs.length + 1∧S'.ends.length = S.ends.length + 1∧S'.tails.length = S.tails.length + 1:=by
 unfold doF at h
 split at h
 ·cases h
 split at h
 ·cases h
 injection h with h
 subst h
 simp
def AllPost (B0:Nat) (t:Fs) (most:Nat) (w:World) (e:Ending) (w':World):Prop :=
 Below B0 w w'∧match allF t most with
  | .error k => e = .returned (.tuple #[.agg #[.string ⟨#[]⟩,.slice none 0 0,.slice none 0 0,.slice none 0 0,.slice none 0 0],.int .i64 k])
  | .ok q => ∃ v,e = .returned (.tuple #[v,.int .i64 0])∧SeqNew w.heap.size w' q v
theorem all_mf (fn:Fn) (first cap:Array Value) (w:World):(Instr.makeFunc fn first cap).run Tryz.prog w = .ok (.func fn first cap) w:=rfl
set_option maxRecDepth 100000 in
set_option maxHeartbeats 2000000 in
theorem door_ret {R:Ending→World→Prop} {tmps:Array Value} {gq ge:Nat} {c0 c1 c2 c3 c4 v:Value} {W:World} (h4:tmps[4]? = some (.pointer (some ⟨gq,0,none⟩))) (h5:tmps[5]? = some (.pointer (some ⟨ge,0,none⟩)))
    (hq:Blk W gq 27 #[c0,c1,c2,c3,c4]) (he:Blk W ge 33 #[v]) (h:∀ W',Below W.heap.size W W'→R (.returned (.tuple #[.agg #[c0,c1,c2,c3,c4],v])) W') :
    bodyPostD Tryz.prog Tryz.f28 R Exit.ret ⟨tmps,[{ target:=.fn (.func 60) #[.pointer (some ⟨gq,0,none⟩),.pointer (some ⟨ge,0,none⟩)],args:=#[] }]⟩ W:=by
 refine leaves_cons (f:=60) (args:=#[.pointer (some ⟨gq,0,none⟩),.pointer (some ⟨ge,0,none⟩)]) (by simp) (by simp [go_sem]) ?_
 refine (idle _ _ _).mono ?_
 rintro e u' w'' ⟨rfl,rfl,hb⟩
 have hqq:=hq.below hb hq.lt
 have hee:=he.below hb he.lt
 have q0:=hqq.cell 0
 have q1:=hqq.cell 1
 have q2:=hqq.cell 2
 have q3:=hqq.cell 3
 have q4:=hqq.cell 4
 have e0:=hee.cell 0
 have HR:=Lib.hid (h w'' hb)
 simp [Leaves,settle,results,Tryz.results28,go_sem,q0,q1,q2,q3,q4,e0,h4,h5]
 exact HR.out
set_option maxRecDepth 100000 in
set_option maxHeartbeats 2000000 in
theorem door_panic {R:Ending→World→Prop} {tmps:Array Value} {gq ge:Nat} {k:Int} {c0 c1 c2 c3 c4 v:Value} {W:World} (h4:tmps[4]? = some (.pointer (some ⟨gq,0,none⟩))) (h5:tmps[5]? = some (.pointer (some ⟨ge,0,none⟩)))
    (hq:Blk W gq 27 #[c0,c1,c2,c3,c4]) (he:Blk W ge 33 #[v])
    (h:∀ W',(∀ B,B≤gq→B≤ge→B≤W.heap.size→Below B W W')→R (.returned (.tuple #[.agg #[.string ⟨#[]⟩,.slice none 0 0,.slice none 0 0,.slice none 0 0,.slice none 0 0],.int .i64 k])) W') :
    bodyPostD Tryz.prog Tryz.f28 R (Exit.panic [{ v:=.iface 130 (.agg #[.int .i64 k]),recovered:=false }]) ⟨tmps,[{ target:=.fn (.func 60) #[.pointer (some ⟨gq,0,none⟩),.pointer (some ⟨ge,0,none⟩)],args:=#[] }]⟩ W:=by
 refine leaves_cons (f:=60) (args:=#[.pointer (some ⟨gq,0,none⟩),.pointer (some ⟨ge,0,none⟩)]) (by simp) (by simp [go_sem]) ?_
 refine (caught gq ge k [] W c0 c1 c2 c3 c4 v hq he).mono ?_
 rintro e u' w'' ⟨rfl,rfl,hqq,hee,hb⟩
 have q0:=hqq.cell 0
 have q1:=hqq.cell 1
 have q2:=hqq.cell 2
 have q3:=hqq.cell 3
 have q4:=hqq.cell 4
 have e0:=hee.cell 0
 have HR:=Lib.hid (h w'' hb)
 simp [Leaves,settle,results,Tryz.results28,go_sem,q0,q1,q2,q3,q4,e0,h4,h5]
 exact HR.out
set_option maxRecDepth 100000 in
set_option maxHeartbeats 8000000 in
theorem all_any {B0 G MB:Nat} {most:Nat} (t:Fs) (LA LE ns n1 n2 n3 c1 c2 c3:Nat) (A1 A2 A3:Option Addr) (w:World)
    (hbox:Blk w G 78 (mkCells (.slice (some ⟨LA,0,none⟩) ns ns) (.slice (some ⟨LE,0,none⟩) ns ns) (most:Int) MB ⟨#[]⟩ (.slice none 0 0) (.slice none 0 0) (.slice none 0 0) (.slice none 0 0) (.slice none 0 0))) (hnum:Num w MB [])
    (hG:B0≤G) (hMB:B0≤MB) (HS:Reads w w.heap.size 2 A1 n1 (encs encT t.starts))
    (HA:GrpP (Old w.heap.size G MB) encA 8 w LA ns (arcsO t.arcs)) (HE:GrpP (Old w.heap.size G MB) encO 1 w LE ns (endO t.ends)) (hP:Pow w B0)
    (hR:Right t) (hm:most≤1024) (hm1:1≤most) (hns:ns≤1024) (hst:t.starts.length≤1024∧∀ x∈t.starts,0≤x.st∧x.st < (ns:Int)∧x.out.size≤1024)
    (ha:t.arcs.length≤16384∧∀ x∈t.arcs,x.out.size≤1024∧StW x.set∧0≤x.to∧x.to < (ns:Int)) (he:t.ends.length≤1024∧∀ x∈t.ends,x.out.size≤1024) :
    Calls Tryz.prog 28 #[.pointer (some ⟨G,0,none⟩),.agg #[.int .i64 ns,.slice A1 n1 c1,.slice A2 n2 c2,.slice A3 n3 c3]] w (AllPost B0 t most w):=by
 have hln:=reads_len encT_len (by decide) HS
 have HLN:=Lib.hid hln
 have HST:=Lib.hid hst
 have HArc:=Lib.hid ha
 have HEnd:=Lib.hid he
 have hmf:=all_mf
 clear hln hst ha he
 have hz3:(((w.alloc (.cells #[.int .i64 ns,.slice A1 n1 c1,.slice A2 n2 c2,.slice A3 n3 c3] 32)).alloc (.cells #[.string ⟨#[]⟩,.slice none 0 0,.slice none 0 0,.slice none 0 0,.slice none 0 0] 27)).alloc (.cells #[.int .i64 0] 33)).heap.size = w.heap.size + 1 + 1 + 1:=by simp
 have hq3:Blk (((w.alloc (.cells #[.int .i64 ns,.slice A1 n1 c1,.slice A2 n2 c2,.slice A3 n3 c3] 32)).alloc (.cells #[.string ⟨#[]⟩,.slice none 0 0,.slice none 0 0,.slice none 0 0,.slice none 0 0] 27)).alloc (.cells #[.int .i64 0] 33)) (w.heap.size + 1) 27 #[.string ⟨#[]⟩,.slice none 0 0,.slice none 0 0,.slice none 0 0,.slice none 0 0]:=by
  have:=(Blk.new (w.alloc (.cells #[.int .i64 ns,.slice A1 n1 c1,.slice A2 n2 c2,.slice A3 n3 c3] 32)) 27 #[.string ⟨#[]⟩,.slice none 0 0,.slice none 0 0,.slice none 0 0,.slice none 0 0]).alloc (.cells #[.int .i64 0] 33)
  rw [World.size_alloc] at this
  exact this
 have he3:Blk (((w.alloc (.cells #[.int .i64 ns,.slice A1 n1 c1,.slice A2 n2 c2,.slice A3 n3 c3] 32)).alloc (.cells #[.string ⟨#[]⟩,.slice none 0 0,.slice none 0 0,.slice none 0 0,.slice none 0 0] 27)).alloc (.cells #[.int .i64 0] 33)) (w.heap.size + 1 + 1) 33 #[.int .i64 0]:=by
  have:=Blk.new ((w.alloc (.cells #[.int .i64 ns,.slice A1 n1 c1,.slice A2 n2 c2,.slice A3 n3 c3] 32)).alloc (.cells #[.string ⟨#[]⟩,.slice none 0 0,.slice none 0 0,.slice none 0 0,.slice none 0 0] 27)) 33 #[.int .i64 0]
  rw [World.size_alloc,World.size_alloc] at this
  exact this
 have hb3:Below w.heap.size w (((w.alloc (.cells #[.int .i64 ns,.slice A1 n1 c1,.slice A2 n2 c2,.slice A3 n3 c3] 32)).alloc (.cells #[.string ⟨#[]⟩,.slice none 0 0,.slice none 0 0,.slice none 0 0,.slice none 0 0] 27)).alloc (.cells #[.int .i64 0] 33)) :=
  (((Below.refl _ w).alloc (Nat.le_refl _) _).alloc (by simp) _).alloc (by simp; omega) _
 have hGl:=hbox.lt
 have hMl:=hnum.lt
 have hB0:B0≤w.heap.size:=by omega
 rcases Nat.eq_zero_or_pos n1 with hn0 | hn0
 ·subst hn0
  have hs0:t.starts = []:=List.eq_nil_of_length_eq_zero HLN.out
  have hall:allF t most = .ok seq0:=by unfold allF; rw [hs0]
  have hq4:=hq3.set_ 0 (.string ⟨#[]⟩)
  have HAll:=Lib.hid hall
  have HQ3:=Lib.hid hq3
  have HE3:=Lib.hid he3
  have HB3:=Lib.hid hb3
  have q0:=hq3.cell 0
  have q1:=hq3.cell 1
  have q2:=hq3.cell 2
  have q3:=hq3.cell 3
  have q4:=hq3.cell 4
  have g0:=hq3.frozen 0
  have g1:=hq3.frozen 1
  have g2:=hq3.frozen 2
  have g3:=hq3.frozen 3
  have g4:=hq3.frozen 4
  have e0:=he3.cell 0
  have e1:=he3.frozen 0
  clear hs0 hall hq3 he3 hb3
  go_enter_defers Tryz.func28,Tryz.ntmps28
  go_wp2_with fail
  refine door_ret rfl rfl HQ3.out HE3.out fun W' hb => ⟨?_,?_⟩
  ·exact (HB3.out.mono hB0).trans (hb.mono (by simp; omega))
  ·rw [HAll.out]
   exact ⟨_,rfl,seqNew_nil _ _⟩
 ·have hall:allF t most = match stripF t.starts with
    | .error e => .error e
    | .ok (front,l) =>
     match stateF most [] l with
     | .error e => .error e
     | .ok (_,rows) =>
      match loopF t most most 0 ⟨rows,[],[],[],[]⟩ with
      | .error e => .error e
      | .ok m => .ok ⟨front,m.next,m.outs,m.ends,m.tails⟩:=by
    have:=HLN.out
    unfold allF
    cases hs:t.starts with
    | nil => rw [hs] at this; simp at this; omega
    | cons x l => rfl
  have HAll:=Lib.hid hall
  have hmv:MkV (((w.alloc (.cells #[.int .i64 ns,.slice A1 n1 c1,.slice A2 n2 c2,.slice A3 n3 c3] 32)).alloc (.cells #[.string ⟨#[]⟩,.slice none 0 0,.slice none 0 0,.slice none 0 0,.slice none 0 0] 27)).alloc (.cells #[.int .i64 0] 33)) B0 (w.heap.size + 1 + 1 + 1) G MB (.slice (some ⟨LA,0,none⟩) ns ns) (.slice (some ⟨LE,0,none⟩) ns ns) (most:Int) ⟨#[]⟩ (.slice none 0 0) (.slice none 0 0) (.slice none 0 0) (.slice none 0 0) (.slice none 0 0) [] [] [] ⟨[],[],[],[],[]⟩ (fun g => Mine G MB (.slice none 0 0) (.slice none 0 0) (.slice none 0 0) (.slice none 0 0) (.slice none 0 0) g∨g < w.heap.size + 1 + 1 + 1):={
   box:=hbox.below hb3 hGl
   num:=hnum.below hb3 (Nat.le_refl _)
   oR:=World.ownsRow_nil _ _ _ _
   oN:=World.ownsRow_nil _ _ _ _
   oO:=World.ownsRow_nil _ _ _ _
   oE:=World.ownsRow_nil _ _ _ _
   oT:=World.ownsRow_nil _ _ _ _
   tips:=fun i hi => absurd hi (Nat.not_lt_zero _)
   nexts:=fun i hi => absurd hi (Nat.not_lt_zero _)
   outss:=fun i hi => absurd hi (Nat.not_lt_zero _)
   le:=by omega
   sz:=by omega
   gG:=hG
   gM:=hMB
   low:=fun g hg => .inr hg
   mG:=.inl (.inl rfl)
   mM:=.inl (.inr (.inl rfl))
   mR:=fun g e => (by cases e)
   mN:=fun g e => (by cases e)
   mO:=fun g e => (by cases e)
   mE:=fun g e => (by cases e)
   mT:=fun g e => (by cases e) }
  have HS3:=HS.below hb3
  have hcl:=cloneT_any A1 n1 c1 w.heap.size t.starts _ HS3 (by omega) (by have:=HLN.out; have:=HST.out.1; omega)
  have HCl:=Lib.hid hcl
  have HA3:=(HA.kept (fun g hg => hb3.block g hg.1)).mono (fun g hg => Old.mono hg (show w.heap.size≤w.heap.size + 1 + 1 + 1 by omega))
  have HE3':=(HE.kept (fun g hg => hb3.block g hg.1)).mono (fun g hg => Old.mono hg (show w.heap.size≤w.heap.size + 1 + 1 + 1 by omega))
  have hP3:=hP.below (hb3.mono hB0)
  have HBel:=hb3.mono hB0
  have hz3':=hz3
  clear hcl HS3 hall HS HA HE hb3 hbox hnum
  have e1:((n1:Int) == 0) = false:=by simp; omega
  go_enter_defers Tryz.func28,Tryz.ntmps28
  go_wp2_with fail
  generalize (((w.alloc (.cells #[.int .i64 ns,.slice A1 n1 c1,.slice A2 n2 c2,.slice A3 n3 c3] 32)).alloc (.cells #[.string ⟨#[]⟩,.slice none 0 0,.slice none 0 0,.slice none 0 0,.slice none 0 0] 27)).alloc (.cells #[.int .i64 0] 33)) = W3 at *
  refine HCl.out.mono ?_
  rintro e w4 ⟨v4,rfl,hown,hb4⟩
  obtain ⟨g4,cap,rfl,hg4a,hg4b,hcap,hcapm,HM4⟩:=RowM.of_own encT_len tp0 hown HLN.out hn0
  have hln:=HLN.out
  have hstrip:=strip_any g4 cap t.starts w4 (by rw [HLN.out]; exact HM4) hg4b (by rw [HLN.out]; exact hcap) hcapm (by have:=HST.out.1; omega) (by omega) (fun x hx => by have:=(HST.out.2 x hx).2.2; omega)
  rw [HLN.out] at hstrip
  have HStr:=Lib.hid hstrip
  have hz4:=hb4.size
  have HW:=Lib.hid (fun w5 (hb:∀ B,B≤g4→Below B w4 w5) => show Below W3.heap.size W3 w5 from hb4.trans (hb W3.heap.size hg4a))
  clear hstrip hown HM4 HCl hln
  go_wp2_with fail
  refine HStr.out.mono ?_
  rintro e w5 ⟨hbs5,hsp⟩
  have hb5:=HW.out w5 hbs5
  have hq5:=hq3.below hb5 hq3.lt
  have he5:=he3.below hb5 he3.lt
  have hg45:=Nat.lt_of_lt_of_le hg4b (hbs5 0 (Nat.zero_le _)).size
  clear HStr HW hbs5
  have hall:=HAll.out
  rcases hsf:stripF t.starts with ek | ⟨f,l'⟩
  ·rw [hsf] at hsp hall
   unfold faultE at hsp
   subst hsp
   have hbb:=HBel.trans (hb5.mono (by omega))
   have HAl2:=Lib.hid (show allF t most = .error ek from hall)
   clear hall hsf HAll
   go_wp2
   refine door_panic rfl rfl hq5 he5 fun W' hb => ⟨hbb.trans (hb B0 (by omega) (by omega) (by have:=hb5.size; omega)),?_⟩
   rw [HAl2.out]
  ·rw [hsf] at hsp hall
   obtain ⟨rfl,HM5⟩:=hsp
   have hrg:=strip_rowG (ns:=ns) hsf (fun x hx => ⟨(HST.out.2 x hx).1,(HST.out.2 x hx).2.1⟩)
   have hll:=strip_len hsf
   have hm5:=hmv.call hb5
   have hMBl:=hmv.num.lt
   have hn4:¬ (Mine G MB (.slice none 0 0) (.slice none 0 0) (.slice none 0 0) (.slice none 0 0) (.slice none 0 0) g4∨g4 < w.heap.size + 1 + 1 + 1):=by
    rintro ((e | e | e | e | e | e | e) | e)
    ·omega
    ·omega
    ·cases e
    ·cases e
    ·cases e
    ·cases e
    ·cases e
    ·omega
   have hslr:SlR (fun g => Mine G MB (.slice none 0 0) (.slice none 0 0) (.slice none 0 0) (.slice none 0 0) (.slice none 0 0) g∨g < w.heap.size + 1 + 1 + 1) w5 2 (.slice (some ⟨g4,0,none⟩) l'.length cap) l'.length (encs encT l'):=RowM.slr HM5 (by have:=HLN.out; omega) hcapm hg45 hn4
   have hslr6:=hslr.far (p:=⟨G,5,none⟩) (.inl (.inl rfl)) (.string f)
   have hm6:=hm5.setFr f
   have hbx5:=hm5.box
   have p5:=hbx5.cell 5
   have f5:=hbx5.frozen 5
   have hbel6:=HBel.trans ((hb5.mono (by omega)).setCell (p:=⟨G,5,none⟩) hG (.string f))
   have hold6:∀ g,Old (w.heap.size + 1 + 1 + 1) G MB g→(w5.setCell ⟨G,5,none⟩ (.string f)).heap[g]? = W3.heap[g]?:=fun g hg => by
    have:=hg.1
    rw [Below.heap_setCell _ _ _ _ (show g≠G from hg.2.1),hb5.block g (by omega)]
   have hst:=stateM_any g4 cap l' _ hm6 hslr6 (hP.below hbel6) (fun x hx => ⟨(hrg.all x hx).1,by have:=(hrg.all x hx).2.1; omega,(hrg.all x hx).2.2⟩) (by have:=hrg.len; omega) (fun q hq => absurd hq (List.not_mem_nil)) hm (Nat.zero_le _)
   have HSt:=Lib.hid hst
   have HAl:=Lib.hid (show allF t most = match stateF most [] l' with
    | .error e => .error e
    | .ok (_,rows) =>
     match loopF t most most 0 ⟨rows,[],[],[],[]⟩ with
     | .error e => .error e
     | .ok m => .ok ⟨f,m.next,m.outs,m.ends,m.tails⟩ from hall)
   have Hrg:=Lib.hid hrg
   clear hst hall hsf HAll hslr hslr6 HM5 hm5 hrg
   generalize l'.length = ll at *
   have Hm6:=Lib.hid hm6
   clear hm6
   go_wp2_with fail
   refine HSt.out.mono ?_
   rintro e w7 ⟨hb7,hkp,hsp⟩
   have hold7:∀ g,Old (w.heap.size + 1 + 1 + 1) G MB g→w7.heap[g]? = W3.heap[g]?:=fun g hg => by
    have h1:=hg.1
    have h2:=Hm6.out.sz
    exact (hkp g (by omega) hg.2.1 hg.2.2 (fun e => by cases e)).trans (hold6 g hg)
   have hgq:Old (w.heap.size + 1 + 1 + 1) G MB (w.heap.size + 1):=⟨by omega,by omega,by omega⟩
   have hge:Old (w.heap.size + 1 + 1 + 1) G MB (w.heap.size + 1 + 1):=⟨by omega,by omega,by omega⟩
   have hQE:=Lib.hid (fun (W:World) (ho:∀ g,Old (w.heap.size + 1 + 1 + 1) G MB g→W.heap[g]? = W3.heap[g]?) => show Blk W (w.heap.size + 1) 27 #[.string ⟨#[]⟩,.slice none 0 0,.slice none 0 0,.slice none 0 0,.slice none 0 0]∧Blk W (w.heap.size + 1 + 1) 33 #[.int .i64 0] from ⟨(ho _ hgq).trans hq3,(ho _ hge).trans he3⟩)
   have hsp:(match stateF most [] l' with
    | .error k => e = faultE k
    | .ok (i,rows) => e = .returned (.int .i64 (i:Int))∧∃ vR' tv',MkV w7 B0 (w.heap.size + 1 + 1 + 1) G MB (.slice (some ⟨LA,0,none⟩) ns ns) (.slice (some ⟨LE,0,none⟩) ns ns) (most:Int) f vR' (.slice none 0 0) (.slice none 0 0) (.slice none 0 0) (.slice none 0 0) tv' [] [] ⟨rows,[],[],[],[]⟩ (fun g => (Mine G MB (.slice none 0 0) (.slice none 0 0) (.slice none 0 0) (.slice none 0 0) (.slice none 0 0) g∨g < w.heap.size + 1 + 1 + 1)∨vR'.ownBlock = some g) ∧
     ∀ g,vR'.ownBlock = some g→(Value.slice none 0 0).ownBlock = some g∨(w5.setCell ⟨G,5,none⟩ (.string f)).heap.size≤g):=hsp
   have hall:=HAl.out
   have hbelW:=hbel6.trans hb7
   have hz7:=hbelW.size
   rcases hst:stateF most [] l' with ek | ⟨i0,rows⟩
   ·rw [hst] at hsp hall
    unfold faultE at hsp
    subst hsp
    have HAl2:=Lib.hid (show allF t most = .error ek from hall)
    obtain ⟨hq7,he7⟩:=hQE.out w7 hold7
    have hz7:w.heap.size + 1 + 1 + 1≤w7.heap.size:=by
     have h1:=Hm6.out.sz
     have h2:=hb7.size
     omega
    clear hall hst HAl
    go_wp2
    refine door_panic rfl rfl hq7 he7 fun W' hb => ⟨hbelW.trans (hb B0 (by omega) (by omega) (by omega)),?_⟩
    rw [HAl2.out]
   ·rw [hst] at hsp hall
    obtain ⟨rfl,vR7,tv7,hmk7,_⟩:=hsp
    obtain ⟨p1,p2,p3,p4⟩:=stateF_ok hst (Nat.zero_le most)
    have hgood7:∀ r∈rows,RowG ns r:=fun r hr => by
     rcases p4 r hr with h | rfl
     ·cases h
     ·exact Hrg.out
    have HAl2:=Lib.hid (show allF t most = match loopF t most most 0 ⟨rows,[],[],[],[]⟩ with
     | .error e => .error e
     | .ok m => .ok ⟨f,m.next,m.outs,m.ends,m.tails⟩ from hall)
    have HM7:=Lib.hid hmk7
    have HG7:=Lib.hid hgood7
    have HO7:=Lib.hid hold7
    clear hst hall hmk7 hgood7 p1 p3 p4 HAl hsp hold7 hold6 hkp Hm6
    go_wp2
    go_loopw [8] (fun i wr => ∃ (s:Nat) (S:Mk) (vR vN vO vEn vT:Value) (tv nv ov:List Value) (M:Nat→Prop),s≤most∧S.rows.length≤most∧i = .int .i64 (s:Int)∧MkV wr B0 (w.heap.size + 1 + 1 + 1) G MB (.slice (some ⟨LA,0,none⟩) ns ns) (.slice (some ⟨LE,0,none⟩) ns ns) (most:Int) f vR vN vO vEn vT tv nv ov S M ∧
     (S.next.length = s∧S.outs.length = s∧S.ends.length = s∧S.tails.length = s)∧(∀ r∈S.rows,RowG ns r)∧loopF t most most 0 ⟨rows,[],[],[],[]⟩ = loopF t most (most - s) s S∧Below B0 w wr∧∀ g,Old (w.heap.size + 1 + 1 + 1) G MB g→wr.heap[g]? = W3.heap[g]?) (fun i _ => most - (intOf i).toNat)
    case atStart => exact ⟨0,_,_,_,_,_,_,_,_,_,_,Nat.zero_le _,p2,rfl,HM7.out,⟨rfl,rfl,rfl,rfl⟩,HG7.out,rfl,hbelW,HO7.out⟩
    case round =>
     clear HM7 HG7 HO7 p2
     obtain ⟨s,S,vR,vN,vO,vEn,vT,tv,nv,ov,M,hsm,hrl,rfl,hmv,hlens,hgood,hlp,hbel,hold⟩:=hrel
     obtain ⟨AR,cR,rfl,_,_,_⟩:=own_form hmv.oR
     have hbx:=hmv.box
     have q3:=hbx.cell 3
     obtain ⟨hq,he⟩:=hQE.out wr hold
     by_cases hlt:s < S.rows.length
     ·have hi:(s:Int) < (S.rows.length:Int):=by omega
      have hdo:=do_any t LA LE ns s wr hmv (HA3.kept hold) (HE3'.kept hold) (hP.below hbel) hlt hgood hrl hm hns ⟨by omega,by omega,by omega,by omega⟩ HArc.out HEnd.out
      have hls:=hlp.trans (loop_step hlt hrl)
      have HDo:=Lib.hid hdo
      have HLs:=Lib.hid hls
      have Hln:=Lib.hid hlens
      have hsz:=hmv.sz
      clear hdo hls hlp hgood hmv hlens
      generalize hrr:S.rows.length = rr at *
      go_wp2_with fail
      refine HDo.out.mono ?_
      rintro e w9 ⟨hb9,ho9,hsp⟩
      have hold9:∀ g,Old (w.heap.size + 1 + 1 + 1) G MB g→w9.heap[g]? = W3.heap[g]?:=fun g hg => (ho9 g hg).trans (hold g hg)
      have hls:=HLs.out
      rcases hdf:doF t most S s with ek | S'
      ·rw [hdf] at hsp hls
       unfold faultE at hsp
       subst hsp
       obtain ⟨hq9,he9⟩:=hQE.out w9 hold9
       have HAl3:=Lib.hid (show allF t most = .error ek by rw [HAl2.out,hls])
       have hbe9:=hbel.trans hb9
       have hz9:=hb9.size
       clear hls hdf
       go_wp2
       refine door_panic rfl rfl hq9 he9 fun W' hb => ⟨hbe9.trans (hb B0 (by omega) (by omega) (by omega)),?_⟩
       rw [HAl3.out]
      ·rw [hdf] at hsp hls
       obtain ⟨rfl,⟨vR',vN',vO',vE',vT',tv',nv',ov',M',hmk⟩,hgd,hrl'⟩:=hsp
       have hln':=doF_lens hdf
       have HFin:=Lib.hid (And.intro hmk (And.intro hgd (And.intro hls hln')))
       have hbe9:=hbel.trans hb9
       clear hls hdf hmk hgd hln'
       go_wp2
       go_roundw
       case rel =>
        obtain ⟨hmk,hgd,hls,k1,k2,k3,k4⟩:=HFin.out
        obtain ⟨j1,j2,j3,j4⟩:=Hln.out
        exact ⟨s + 1,S',_,_,_,_,_,_,_,_,_,by omega,hrl',by go_num,hmk,⟨by omega,by omega,by omega,by omega⟩,hgd,hls,hbe9,hold9⟩
       case measure => simp [intOf]; omega
     ·have hal:allF t most = .ok ⟨f,S.next,S.outs,S.ends,S.tails⟩:=by rw [HAl2.out,hlp,loop_end hlt]
      obtain ⟨r1,r2,r3,r4,r5,_,r6⟩:=allF_right hR hal
      obtain ⟨l1,l2,l3,l4⟩:=hlens
      obtain ⟨An,cn,hvN,_,_,_⟩:=own_form hmv.oN
      obtain ⟨Ao,co,hvO,_,_,_⟩:=own_form hmv.oO
      obtain ⟨Ae,ce,hvE,_,_,_⟩:=own_form hmv.oE
      obtain ⟨At,ct,hvT,_,_,_⟩:=own_form hmv.oT
      rw [l1] at hvN
      rw [l2] at hvO
      rw [l3] at hvE
      rw [l4] at hvT
      subst hvN hvO hvE hvT
      have hne:w.heap.size + 1≠w.heap.size + 1 + 1:=by omega
      have hlo:∀ g,g < w.heap.size + 1 + 1 + 1→w.heap.size≤g→¬ Mine G MB (.slice AR S.rows.length cR) (.slice An s cn) (.slice Ao s co) (.slice Ae s ce) (.slice At s ct) g:=by
       rintro g hg hg2 (e | e | e | e | e | e | e)
       ·omega
       ·omega
       ·have:=(own_lt hmv.oR g e).1; omega
       ·have:=(own_lt hmv.oN g e).1; omega
       ·have:=(own_lt hmv.oO g e).1; omega
       ·have:=(own_lt hmv.oE g e).1; omega
       ·have:=(own_lt hmv.oT g e).1; omega
      have n1':=hlo (w.heap.size + 1) (by omega) (by omega)
      have n2':=hlo (w.heap.size + 1 + 1) (by omega) (by omega)
      have m1':=hmv.low (w.heap.size + 1) (by omega)
      have m2':=hmv.low (w.heap.size + 1 + 1) (by omega)
      have hF:=(((((hmv.far (p:=⟨w.heap.size + 1,0,none⟩) m1' n1' (.string f)).far (p:=⟨w.heap.size + 1,1,none⟩) m1' n1' (.slice An s cn)).far (p:=⟨w.heap.size + 1,2,none⟩) m1' n1' (.slice Ao s co)).far (p:=⟨w.heap.size + 1,3,none⟩) m1' n1' (.slice Ae s ce)).far (p:=⟨w.heap.size + 1,4,none⟩) m1' n1' (.slice At s ct)).far (p:=⟨w.heap.size + 1 + 1,0,none⟩) m2' n2' (.int .i64 0)
      have hqF:=(((((hq.set_ 0 (.string f)).set_ 1 (.slice An s cn)).set_ 2 (.slice Ao s co)).set_ 3 (.slice Ae s ce)).set_ 4 (.slice At s ct)).far (p:=⟨w.heap.size + 1 + 1,0,none⟩) hne (.int .i64 0)
      have heF:=(((((he.far (p:=⟨w.heap.size + 1,0,none⟩) hne.symm (.string f)).far (p:=⟨w.heap.size + 1,1,none⟩) hne.symm (.slice An s cn)).far (p:=⟨w.heap.size + 1,2,none⟩) hne.symm (.slice Ao s co)).far (p:=⟨w.heap.size + 1,3,none⟩) hne.symm (.slice Ae s ce)).far (p:=⟨w.heap.size + 1,4,none⟩) hne.symm (.slice At s ct)).set_ 0 (.int .i64 0)
      have hbF:=(((((hbel.setCell (p:=⟨w.heap.size + 1,0,none⟩) (show B0≤w.heap.size + 1 by omega) (.string f)).setCell (p:=⟨w.heap.size + 1,1,none⟩) (show B0≤w.heap.size + 1 by omega) (.slice An s cn)).setCell (p:=⟨w.heap.size + 1,2,none⟩) (show B0≤w.heap.size + 1 by omega) (.slice Ao s co)).setCell (p:=⟨w.heap.size + 1,3,none⟩) (show B0≤w.heap.size + 1 by omega) (.slice Ae s ce)).setCell (p:=⟨w.heap.size + 1,4,none⟩) (show B0≤w.heap.size + 1 by omega) (.slice At s ct)).setCell (p:=⟨w.heap.size + 1 + 1,0,none⟩) (show B0≤w.heap.size + 1 + 1 by omega) (.int .i64 0)
      have hsq:=hF.seqNew hm ⟨r1,r2,r3,r4,r5,fun s hs => ⟨(r6 s hs).1,(r6 s hs).2.2.1,(r6 s hs).2.2.2.1,fun b hb => ⟨((r6 s hs).2.2.2.2 b hb).1,((r6 s hs).2.2.2.2 b hb).2.1,((r6 s hs).2.2.2.2 b hb).2.2.1⟩⟩⟩
      have HF:=Lib.hid (And.intro hqF (And.intro heF (And.intro hbF (And.intro hsq hal))))
      have b5:=hbx.cell 5
      have b6:=hbx.cell 6
      have b7:=hbx.cell 7
      have b8:=hbx.cell 8
      have b9:=hbx.cell 9
      have a0:=hq.cell 0
      have a1:=hq.cell 1
      have a2:=hq.cell 2
      have a3:=hq.cell 3
      have a4:=hq.cell 4
      have g0:=hq.frozen 0
      have g1:=hq.frozen 1
      have g2:=hq.frozen 2
      have g3:=hq.frozen 3
      have g4:=hq.frozen 4
      have u0:=(he.far (p:=⟨w.heap.size + 1,0,none⟩) hne.symm (.string f)).cell 0
      have u1:=(he.far (p:=⟨w.heap.size + 1,0,none⟩) hne.symm (.string f)).frozen 0
      have u2:=he.cell 0
      have u3:=he.frozen 0
      clear hqF heF hbF hsq hal hF hlo r6 hmv hgood hlp
      go_wp2
      obtain ⟨hqF,heF,hbF,hsq,hal⟩:=HF.out
      refine door_ret rfl rfl hqF heF fun W' hb => ⟨hbF.trans (hb.mono (by have:=hbF.size; omega)),?_⟩
      rw [hal]
      exact ⟨_,rfl,(hsq.below hb).mono (by omega)⟩
end Go.Proofs.YtcondkihpmmnnaaGreatDoor
namespace Go.Proofs.YtcondkihpmmnnaaGreatDoor
open Go.RowKit Go.Sort
def OwnQ (w:World) (base:Nat) (e:TypeId) (v:Value) (xs:List Value):Prop :=
 ∃ g off cap cur,v = .slice (some ⟨g,off,none⟩) xs.length cap∧base≤g∧w.heap[g]? = some (.cells cur e (0,0))∧xs.length≤cap∧off + cap≤cur.size∧off + cap≤maxLen∧(cur.toList.drop off).take xs.length = xs
section
variable {w w':World} {base:Nat} {e:TypeId} {v:Value} {xs:List Value}
def qBlock:Value→Option Nat
 | .slice (some a) _ _ => some a.block
 | _ => none
theorem OwnQ.lt (h:OwnQ w base e v xs):∀ g,qBlock v = some g→base≤g∧g < w.heap.size:=by
 obtain ⟨g,off,cap,cur,rfl,hb,hh,_⟩:=h
 intro g' e
 have e:g = g':=Option.some.inj e
 subst e
 exact ⟨hb,(Array.getElem?_eq_some_iff.1 hh).1⟩
theorem OwnQ.form (h:OwnQ w base e v xs):∃ g off cap,v = .slice (some ⟨g,off,none⟩) xs.length cap∧xs.length≤cap∧off + cap≤maxLen:=by
 obtain ⟨g,off,cap,cur,rfl,hb,hh,h1,h2,h3,h4⟩:=h
 exact ⟨g,off,cap,rfl,h1,h3⟩
theorem OwnQ.kept {row:Option Nat} (h:OwnQ w base e v xs) (hg:w.grownBy w' row) (hn:qBlock v = none∨qBlock v≠row):OwnQ w' base e v xs:=by
 obtain ⟨g,off,cap,cur,rfl,hb,hh,rest⟩:=h
 refine ⟨g,off,cap,cur,rfl,hb,?_,rest⟩
 rw [hg.block g (Array.getElem?_eq_some_iff.1 hh).1 (fun e => by
  rcases hn with h | h
  ·cases h
  ·exact h e)]
 exact hh
theorem OwnQ.below (h:OwnQ w base e v xs) (hb:Below w.heap.size w w'):OwnQ w' base e v xs:=by
 obtain ⟨g,off,cap,cur,rfl,hb',hh,rest⟩:=h
 exact ⟨g,off,cap,cur,rfl,hb',(hb.block g (Array.getElem?_eq_some_iff.1 hh).1).trans hh,rest⟩
theorem OwnQ.setCell (h:OwnQ w base e v xs) {p:Addr} (hp:qBlock v≠some p.block) (u:Value):OwnQ (w.setCell p u) base e v xs :=
 h.kept (row:=some p.block) ⟨rfl,rfl,rfl,by simp,fun k _ hne => Below.heap_setCell w p u k (fun e => hne (by rw [e]))⟩ (.inr hp)
theorem OwnQ.cell (h:OwnQ w base e v xs):∃ g off cap,v = .slice (some ⟨g,off,none⟩) xs.length cap∧∀ j u,xs[j]? = some u→w.cell? ⟨g,off + j,none⟩ = some u:=by
 obtain ⟨g,off,cap,cur,rfl,hb,hh,h1,h2,h3,h4⟩:=h
 refine ⟨g,off,cap,rfl,fun j u hj => ?_⟩
 have hjl:j < xs.length:=(List.getElem?_eq_some_iff.1 hj).1
 rw [cell_of_row w g (off + j) cur e (0,0) hh,← Array.getElem?_toList]
 rw [← h4,List.getElem?_take,if_pos hjl,List.getElem?_drop] at hj
 exact hj
theorem OwnQ.tail {x:Value} (h:OwnQ w base e v (x :: xs)):∃ g off cap,v = .slice (some ⟨g,off,none⟩) (xs.length + 1) cap∧xs.length + 1≤cap∧OwnQ w base e (.slice (some ⟨g,off + 1,none⟩) xs.length (cap - 1)) xs∧(cap = 1→OwnQ w base e (.slice (some ⟨g,off,none⟩) xs.length 0) xs):=by
 obtain ⟨g,off,cap,cur,rfl,hb,hh,h1,h2,h3,h4⟩:=h
 rw [List.length_cons] at h1
 refine ⟨g,off,cap,rfl,h1,⟨g,off + 1,cap - 1,cur,rfl,hb,hh,by omega,by omega,by omega,?_⟩,fun e => ?_⟩
 ·have h5:=congrArg (List.drop 1) h4
  rw [List.length_cons,List.drop_take,List.drop_drop] at h5
  simpa using h5
 ·obtain rfl:xs = []:=List.eq_nil_of_length_eq_zero (by omega)
  exact ⟨g,off,0,cur,rfl,hb,hh,Nat.le_refl _,by omega,by omega,rfl⟩
theorem OwnQ.of_blk {g:Nat} (hb:base≤g) (h:Blk w g e xs.toArray) (hm:xs.length≤maxLen):OwnQ w base e (.slice (some ⟨g,0,none⟩) xs.length xs.length) xs :=
 ⟨g,0,xs.length,xs.toArray,rfl,hb,h,Nat.le_refl _,by simp,by omega,by simp⟩
end
theorem take_set_end {l xs:List Value} {off:Nat} {x:Value} (hl:off + xs.length < l.length) (h:(l.drop off).take xs.length = xs):((l.set (off + xs.length) x).drop off).take (xs.length + 1) = xs ++ [x]:=by
 have hd:(l.set (off + xs.length) x).drop off = (l.drop off).set xs.length x:=by
  rw [List.drop_set,if_neg (by omega),Nat.add_sub_cancel_left]
 have hm:xs.length < (l.drop off).length:=by rw [List.length_drop]; omega
 rw [hd]
 generalize l.drop off = m at *
 rw [List.take_succ_eq_append_getElem (by rw [List.length_set]; exact hm),List.getElem_set_self,List.take_set_of_le (Nat.le_refl _),h]
section
variable {P:Program} (w:World)
theorem run_append_q (base:Nat) (t ty e:TypeId) (i:TypeInfo) (z:Value) (bytes:Nat) (ht:P.underlying t = some (.slice e)) (hi:P.info? e = some i) (hz:i.zero = some z)
    (hsize:i.size = 1) (hby:i.bytes = bytes) (hzs:z.cells.size = 1)
    (v:Value) (xs:List Value) (hown:OwnQ w base e v xs) (a:Nat) (x:Value) (hx:w.cell? ⟨a,0,none⟩ = some x) (h1:x.oneCell' = true)
    (h63:xs.length + 1≤maxLen) (hbytes:(xs.length + 1) * bytes≤140737488355328) (hbase:base≤w.heap.size) :
    ∃ v' w',(Builtin.append_ #[t,t] ty #[v,.slice (some ⟨a,0,none⟩) 1 1]).run P w = .ok v' w'∧OwnQ w' base e v' (xs ++ [x])∧w.grownBy w' (qBlock v)∧(qBlock v' = qBlock v∨∀ g,qBlock v' = some g→w.heap.size≤g):=by
 have hnews:∀ j u,[x][j]? = some u→w.cell? ((⟨a,0,none⟩:Addr).add j) = some u:=fun j u hj => by
  match j,hj with
  | 0,hj => simp at hj; subst hj; rw [add_mk]; exact hx
 obtain ⟨g,off,cap,cur,rfl,hb,hh,hl,hc,hm,ht'⟩:=hown
 by_cases hroom:xs.length + 1≤cap
 ·have hcl:∀ j,j < [x].length→(w.cell? ⟨g,off + xs.length * i.size + j,none⟩).isSome = true:=fun j hj => by
    have:j = 0:=by simpa using hj
    subst this
    rw [hsize,Nat.mul_one,Nat.add_zero,cell_of_row w g (off + xs.length) cur e (0,0) hh,Array.getElem?_eq_getElem (by omega)]
    rfl
  have hf:∀ j,j < [x].length→w.frozen? ⟨g,off + xs.length * i.size + j,none⟩ = false:=fun j _ => by simp [World.frozen?,hh]
  have hr:=run_append_room_cells (P:=P) w t ty e i ht hi g off xs.length cap ⟨a,0,none⟩ 1 1 [x] (by rw [hsize]; rfl) hnews (fun u hu => by rw [List.mem_singleton] at hu; subst hu; exact h1) hroom hcl hf
  rw [hsize,Nat.mul_one] at hr
  have hset:w.setCells g (off + xs.length) [x] = w.setCell ⟨g,off + xs.length,none⟩ x:=rfl
  rw [hset] at hr
  refine ⟨_,_,hr,⟨g,off,cap,cur.setIfInBounds (off + xs.length) x,by rw [List.length_append]; rfl,hb,?_,by rw [List.length_append]; exact hroom,by simpa using hc,hm,?_⟩,⟨rfl,rfl,rfl,by simp,fun k _ hne => Below.heap_setCell w _ x k (fun e => hne (by rw [e]; rfl))⟩,.inl rfl⟩
  ·have:=Blk.set_ (show Blk w g e cur from hh) (off + xs.length) x
   exact this
  ·rw [Array.toList_setIfInBounds,List.length_append,List.length_singleton]
   exact take_set_end (by rw [Array.length_toList]; exact Nat.lt_of_lt_of_le (Nat.add_lt_add_left hroom off) hc) ht'
 ·have holds:∀ j u,xs[j]? = some u→w.cell? ((⟨g,off,none⟩:Addr).add j) = some u:=fun j u hj => by
    have hjl:j < xs.length:=(List.getElem?_eq_some_iff.1 hj).1
    rw [add_mk,cell_of_row w g (off + j) cur e (0,0) hh,← Array.getElem?_toList]
    rw [← ht',List.getElem?_take,if_pos hjl,List.getElem?_drop] at hj
    exact hj
  obtain ⟨v',w',hr,ho,hgr⟩:=run_append_arg_grows (P:=P) w t ty e i z 1 bytes ht hi hz hsize hby hzs (by decide) ⟨g,off,none⟩ xs.length cap xs (by omega) holds ⟨a,0,none⟩ 1 1 [x] rfl hnews (by omega) h63 hbytes
  refine ⟨v',w',hr,?_,⟨hgr.os,hgr.tape,hgr.output,hgr.size,fun k hk _ => hgr.block k hk (fun e => by cases e)⟩,?_⟩
  ·rcases ho.2 with ⟨_,h0⟩ | ⟨g',cap',cur',rfl,hb',hh',hc',hm',hs',ht2⟩
   ·exact absurd h0 (Nat.succ_ne_zero _)
   ·refine ⟨g',0,cap',cur',by rw [List.length_append]; rfl,by omega,hh',by rw [List.length_append]; exact hc',by omega,by omega,?_⟩
    rw [List.drop_zero,List.length_append,List.length_singleton]
    rwa [Nat.mul_one] at ht2
  ·right
   rcases ho.2 with ⟨_,h0⟩ | ⟨g',cap',cur',rfl,hb',hh',_⟩
   ·exact absurd h0 (Nat.succ_ne_zero _)
   ·intro g2 e
    have e:g' = g2:=Option.some.inj e
    omega
theorem wpList_append_q {ops:Array Oper} {rest:List Oper} {o:Oper} {a:Act} {Q:Exit→Act→World→Prop} (hgd:o.guard = none) (s y:Operand) (t:TypeId)
    (ho:o.op = .call { callee:=.builtin .append,args:=#[s,y],argTypes:=#[t,t] })
    (base:Nat) (e:TypeId) (i:TypeInfo) (z:Value) (bytes:Nat) (ht:P.underlying t = some (.slice e)) (hi:P.info? e = some i) (hz:i.zero = some z) (hsize:i.size = 1) (hby:i.bytes = bytes) (hzs:z.cells.size = 1)
    (v:Value) (xs:List Value) (hs:a.eval s = v) (hown:OwnQ w base e v xs) (b:Nat) (x:Value) (hy:a.eval y = .slice (some ⟨b,0,none⟩) 1 1) (hx:w.cell? ⟨b,0,none⟩ = some x) (h1:x.oneCell' = true)
    (h63:xs.length + 1≤maxLen) (hbytes:(xs.length + 1) * bytes≤140737488355328) (hbase:base≤w.heap.size)
    (h:∀ v' w',OwnQ w' base e v' (xs ++ [x])→w.grownBy w' (qBlock v)→(qBlock v' = qBlock v∨∀ g,qBlock v' = some g→w.heap.size≤g)→wpList P ops Q rest (a.put o.dst v') w'):wpList P ops Q (o :: rest) a w:=by
 refine wpList_plain hgd fun K hK => ?_
 obtain ⟨v',w',hr,h2,h3,h4⟩:=run_append_q (P:=P) w base t o.type e i z bytes ht hi hz hsize hby hzs v xs hown b x hx h1 h63 hbytes hbase
 unfold Oper.wp execOp
 simp only [ho,resolve,invoke,builtin,Sem.run_bind,Sem.run_pure,Result.andThen_ok,List.map_toArray,List.map_cons,List.map_nil,hs,hy,hr]
 exact hK _ _ (h v' w' h2 h3 h4)
end
end Go.Proofs.YtcondkihpmmnnaaGreatDoor
