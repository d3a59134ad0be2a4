/- Lemmas, part 25 of 50. No condition. -/
import Derived.Test.YtcondkihpmmnnaaGreatDoorTwin24
import Derived.Test.YtcondkihpmmnnaaGreatDoorTwin23
set_option maxRecDepth 100000
set_option maxHeartbeats 16000000
namespace Go.Proofs.YtcondkihpmmnnaaGreatDoor
section
def KG (x:Ar):Nat:=if x.cp then x.out.size+1 else x.out.size
def Jh (l:List Nat):Nat:=l.foldl max 0
def Ga (u:Fs) (n:Nat):Nat:=n*n*Jh (u.arcs.map KG)+Jh (u.starts.map fun x=>x.out.size)
theorem Yd (l:List Nat) (a:Nat):Jh (l++[a])=max (Jh l) a:=by unfold Jh;rw[List.foldl_append];rfl
theorem OO:∀(l:List Nat) (b:Nat),b<=l.foldl max b/\∀a∈l,a<=l.foldl max b
 | [],b=>⟨AD _,fun a h=>by cases h⟩
 | x::l,b=>by
  obtain⟨h1,h2⟩:=OO l (max b x);refine⟨by rw[List.foldl_cons];omega,fun a c=>?_⟩;rw[List.foldl_cons];rcases Bh.1 c with rfl|c
  .omega
  .exact h2 a c
theorem OP:∀(l:List Nat) (b m:Nat),b<=m->(∀a∈l,a<=m)->l.foldl max b<=m
 | [],b,m,h,_=>h
 | x::l,b,m,h,k=>by rw[List.foldl_cons];exact OP l _ m (by have:=k x BR;omega) fun a c=>k a (CB _ c)
theorem XF {l:List Nat} {a:Nat} (h:a∈l):a<=Jh l:=(OO l 0).2 a h
theorem Tb {l:List Nat} {m:Nat} (h:∀a∈l,a<=m):Jh l<=m:=OP l 0 m (AN _) h
theorem OQ (l:List Nat) (k:Nat) {m:Nat} (h:∀a∈l,a<=m):Jh (l.take k)<=m:=Tb fun a b=>h a (DH b)
theorem Mu (l:List Nat) (k:Nat) (a:k<l.length):Jh (l.take (k+1))=max (Jh (l.take k)) l[k]:=by rw[Bq a,Yd]
theorem X0B (x:Ar) (c:UInt8):(x.put c).length=KG x:=by
 unfold Ar.put KG;have h:x.out.data.toList.length=x.out.size:=CK x.out;rw[AJ,h];cases x.cp with
 | false=>rfl
 | true=>rfl
theorem XG {u:Fs} {n:Nat} (F:Fit u n):∀a∈u.arcs.map KG,a<=1025:=fun a b=>by obtain⟨x,c,rfl⟩:=Bd.1 b;have:=(F.arcs x c).2.2.2.2.1;unfold KG;split<;>omega
theorem Sc {u:Fs} {n:Nat} (F:Fit u n):∀a∈u.starts.map (fun x=>x.out.size),a<=1024:=fun a b=>by obtain⟨x,c,rfl⟩:=Bd.1 b;exact(F.starts x c).2.2
section
variable {t u v:Fs} {f g:Int->Int}
theorem Sd (c:FR t) (h:Trims t u f) (k:Trims t v g) {x:Tp} (i:x∈v.starts) {w o:List UInt8} {p:Int} (j:Way v.arcs x.st w o p) :∃l,∃y∈u.starts,Way u.arcs y.st w o l/\y.out=x.out:=by obtain⟨b,a,h0,rfl⟩:=(k.starts x).1 i;have ok:=c.2.1 b a;obtain⟨z,m,rfl,d,e⟩:=Trims.back c k j ok h0;have u1:=(k.use _ ok).1 h0;have u2:=(k.use _ d).1 e;exact⟨f z,⟨f b.st,b.out⟩,(h.starts _).2 ⟨b,a,(h.use _ ok).2 u1,rfl⟩,Trims.way c h m u1 u2,rfl⟩
theorem X0C (n:FR t) (h:Trims t u f) (k:Trims t v g) {p q:Int} {a b:List UInt8} (l:Ep v p q a b):∃c d,Ep u c d a b:=by obtain⟨w,H,I,⟨⟨x,r,o,s,rfl⟩,⟨y,z,A,i,rfl⟩⟩,e⟩:=l;obtain⟨c,B,j,C,D⟩:=Sd n h k r s;obtain⟨d,E,m,F,G⟩:=Sd n h k z i;exact⟨c,d,w,_,_,⟨⟨B,j,o,C,by rw[D]⟩,⟨E,m,A,F,by rw[G]⟩⟩,e⟩
theorem X0D (h:Trims t u f) (k:Trims t v g):u.n.toNat<=v.n.toNat:=by
 have r:=h.nn;have w:=k.nn
 have l:∀i:Nat,∃s,i<u.n.toNat->F6 t.n s/\f s=(i:Int):=fun i=>by
  by_cases hi:i<u.n.toNat
  .obtain ⟨s,h1,h2⟩:=h.sur (i:Int) ⟨by omega,by omega⟩;exact⟨s,fun _=>⟨h1,h2⟩⟩
  .exact ⟨0,fun h=>absurd h hi⟩
 obtain⟨c,b⟩:∃c:Nat->Int,∀i,i<u.n.toNat->F6 t.n (c i)/\f (c i)=(i:Int):=⟨fun i=>Classical.choose (l i),fun i=>Classical.choose_spec (l i)⟩
 have d:∀i,i<u.n.toNat->0<=g (c i)/\g (c i)<v.n:=fun i hi=>by obtain⟨h1,h2⟩:=b i hi;exact⟨(k.use _ h1).2 ((h.use _ h1).1 (by omega)),k.lt _ h1⟩
 have:=JS (N:=v.n.toNat) (vs:=(List.range u.n.toNat).map fun i=>(g (c i)).toNat) ?_ ?_
 .rwa [A6,EA]at this
 .refine List.pairwise_map.2 (List.Pairwise.imp_of_mem ?_ E5);intro i j hi a m e;rw[BE]at hi a;obtain⟨o,a2⟩:=d i hi;obtain⟨x,y⟩:=d j a;obtain⟨p,q⟩:=b i hi;obtain⟨d1,d2⟩:=b j a;have:=k.inj _ _ p d1 o (by omega);rw[this,d2]at q;omega
 .intro i hi;obtain⟨j,a,rfl⟩:=Bd.1 hi;rw[BE]at a;have:=d j a;omega
theorem Ye (j:FR t) (h:Trims t u f) (k:Trims t v g) {most:Nat} {m:SeqM} (w:IC u most=.ok m) {n:Nat} (C:v.n=(n:Int)) {p q:Int} {a b:List UInt8} (l:Ep v p q a b) :a.length<=Ga v n/\b.length<=Ga v n:=by
 obtain⟨D,E,l'⟩:=X0C j h k l;have z:=X0D h k;have d:∀x∈u.arcs,KG x<=Jh (v.arcs.map KG):=fun x d=>by obtain⟨y,e,h1,h2,rfl⟩:=(h.arcs x).1 d;obtain⟨i,s⟩:=j.2.2.2 y e;have o:(⟨g y.fr,g y.to,y.set,y.out,y.cp⟩:Ar)∈v.arcs:=(k.arcs _).2 ⟨y,e,(k.use _ i).2 ((h.use _ i).1 h1),(k.use _ s).2 ((h.use _ s).1 h2),rfl⟩;exact XF (Bd.2 ⟨_,o,rfl⟩)
 have B:∀x∈u.starts,x.out.size<=Jh (v.starts.map fun x=>x.out.size):=fun x d=>by obtain⟨y,e,h1,rfl⟩:=(h.starts x).1 d;have i:=j.2.1 y e;have o:(⟨g y.st,y.out⟩:Tp)∈v.starts:=(k.starts _).2 ⟨y,e,(k.use _ i).2 ((h.use _ i).1 h1),rfl⟩;exact XF (Bd.2 ⟨_,o,rfl⟩)
 have:=Yc (h.right j) w (A:=Jh (v.arcs.map KG)) (S:=Jh (v.starts.map fun x=>x.out.size)) (fun x r c=>by rw[X0B];exact d x r) B l';have F:u.n.toNat*u.n.toNat*Jh (v.arcs.map KG)<=n*n*Jh (v.arcs.map KG):=CY _ (Dl (by omega) (by omega));unfold Ga;omega
end
end
section
open Go.RowKit Go.Sort
def Me (Q:Exit->Act->World->Prop) (w:World) (i0 i1 i2:Nat) (o0 o1:Oper) (d0 d1 e0:Tmp) (F0 F1:Value->World->Prop) (kont:Act->World->Prop) (is:List Nat) (a:Act) (W:World):Prop:=
 ∃b:Act,(d0<b.tmps.size/\d1<b.tmps.size)/\Maker Tryz.prog (NoPanic Q) b w.drew [d0,d1,e0] o0 d0 F0/\Maker Tryz.prog (NoPanic Q) b w.drew [d0,d1,e0] o1 d1 F1 /\(∀v0 v1 W,Below w.heap.size w W->F0 v0 W->F1 v1 W->kont (((b.put (some d0) v0).put (some d1) v1).put (some e0) v0) W)/\Below w.drew.heap.size w.drew W /\
  ((is=[i0,i1,i2]/\a=b)\/(is=[i1,i2]/\∃v0,F0 v0 W/\a=b.put (some d0) v0)\/(is=[i0,i2]/\∃v1,F1 v1 W/\a=b.put (some d1) v1) \/(is=[i2]/\∃v0 v1,F0 v0 W/\F1 v1 W/\a=(b.put (some d0) v0).put (some d1) v1)\/(is=[i1]/\∃v0,F0 v0 W/\a=(b.put (some d0) v0).put (some e0) v0) \/(is=[]/\∃v0 v1,F0 v0 W/\F1 v1 W/\a=((b.put (some d0) v0).put (some d1) v1).put (some e0) v0))
theorem Me.start {Q:Exit->Act->World->Prop} {w:World} {i0 c d:Nat} {e f:Oper} {d0 d1 e0:Tmp} {F0 F1:Value->World->Prop} {a:Act->World->Prop} (b:Act) (i:d0<b.tmps.size/\d1<b.tmps.size) (j:Maker Tryz.prog (NoPanic Q) b w.drew [d0,d1,e0] e d0 F0) (k:Maker Tryz.prog (NoPanic Q) b w.drew [d0,d1,e0] f d1 F1) (h:∀v0 g W,Below w.heap.size w W->F0 v0 W->F1 g W->a (((b.put (some d0) v0).put (some d1) g).put (some e0) v0) W):Me Q w i0 c d e f d0 d1 e0 F0 F1 a [i0,c,d] b w.drew:=⟨b,i,j,k,h,AH _ _,.inl ⟨rfl,rfl⟩⟩
theorem UY {id:Nat} {base:Act} {w:World} {l:List Oper} {E y x:Oper} {Q:Exit->Act->World->Prop} {d0 d1 e0:Tmp} {F0 F1:Value->World->Prop} (n:Nat) (z:List Nat) (i0 k g:Nat) (U:Tryz.prog.follows .mixedOrders=true) (V:Lh .any l.toArray n z [i0,k,g] (fun i=>if i=g then[i0]else[])=true) (A:z.length+3=n) (F:(z.all fun i=>decide (i<l.length))=true) (hi:i0≠k/\i0≠g/\k≠g) (B:l.toArray[i0]?=some E) (u:l.toArray[k]?=some y) (C:l.toArray[g]?=some x) (h01:d0≠d1) (G:d1≠e0) (g2:x.guard=none) (d2:x.dst=some e0) (S:x.op=Op.assign (.tmp d0)) (h:wpQuiet Tryz.prog l.toArray (fun w'=>∃p:Regrown,w'=grow (redrawn w p.d) p.os) (fun b=>Me Q w i0 k g E y d0 d1 e0 F0 F1 (fun a W=>wpList Tryz.prog l.toArray (NoPanic Q) (l.drop n) a W) [i0,k,g] b w.drew) (CV l z) base) :(Code.region id l.toArray true).wp Tryz.prog Q base w:=by
 obtain⟨H,X,I⟩:=hi;have t:∀W,Below w.drew.heap.size w.drew W->Below w.heap.size w W:=fun W f=>(AH _ w).drew.trans f
 refine EL n z [i0,k,g] (fun i=>if i=g then[i0]else[]) U V A F _ ?_ ?_ h
 .rintro Y a W ⟨b,q,o,m,r,f,J⟩ i j T
  have K:([i0,k,g]:List Nat).erase i0=[k,g]:=by simp
  have L:([i0,k,g]:List Nat).erase k=[i0,g]:=by simp[H,DF]
  have M:([k,g]:List Nat).erase k=[g]:=by simp
  have N:([k,g]:List Nat).erase g=[k]:=by simp[I,DF]
  have O:([i0,g]:List Nat).erase i0=[g]:=by simp
  have P:([g]:List Nat).erase g=[]:=by simp
  have R:([k]:List Nat).erase k=[]:=by simp
  rcases J with⟨rfl,rfl⟩|⟨rfl,v0,f0,rfl⟩|⟨rfl,D,f1,rfl⟩|⟨rfl,v0,D,f0,f1,rfl⟩|⟨rfl,v0,f0,rfl⟩|⟨rfl,_⟩
  .simp only[Bh,BP,Eg]at j
   rcases j with rfl|rfl|rfl
   .refine ⟨E,B,o.guard,o.makes _ W _ (fun _ _=>rfl) f fun v W' e s=>?_⟩;have c:=f.trans (e.mono f.size);exact⟨A5 (t _ c),_,q,o,m,r,c,.inr (.inl ⟨K,v,s,rfl⟩)⟩
   .refine ⟨y,u,m.guard,m.makes _ W _ (fun _ _=>rfl) f fun v W' e s=>?_⟩;have c:=f.trans (e.mono f.size);exact⟨A5 (t _ c),_,q,o,m,r,c,.inr (.inr (.inl ⟨L,v,s,rfl⟩))⟩
   .exact absurd (by simp) (T i0 (by simp))
  .simp only[Bh,BP,Eg]at j
   rcases j with rfl|rfl
   .refine ⟨y,u,m.guard,m.makes _ W _ (DQ (by simp) fun _ _=>rfl) f fun v W' e s=>?_⟩;have c:=f.trans (e.mono f.size);exact⟨A5 (t _ c),b,q,o,m,r,c,.inr (.inr (.inr (.inl ⟨M,v0,v,o.stays _ _ _ f0 e,s,rfl⟩)))⟩
   .refine ⟨x,C,g2,NA _ S ?_⟩;rw[d2,JH q.1];exact⟨A5 (t _ f),b,q,o,m,r,f,.inr (.inr (.inr (.inr (.inl ⟨N,v0,f0,rfl⟩))))⟩
  .simp only[Bh,BP,Eg]at j
   rcases j with rfl|rfl
   .refine ⟨E,B,o.guard,o.makes _ W _ (DQ (by simp) fun _ _=>rfl) f fun v W' e s=>?_⟩;have c:=f.trans (e.mono f.size);exact⟨A5 (t _ c),b,q,o,m,r,c,.inr (.inr (.inr (.inl ⟨O,v,D,s,m.stays _ _ _ f1 e,put_comm _ (CF h01) _ _⟩)))⟩
   .exact absurd (by simp) (T i0 (by simp))
  .obtain rfl:=AM.1 j;refine⟨x,C,g2,NA _ S ?_⟩;rw[d2,MW (CF h01),JH q.1];exact⟨A5 (t _ f),b,q,o,m,r,f,.inr (.inr (.inr (.inr (.inr ⟨P,v0,D,f0,f1,rfl⟩))))⟩
  .obtain rfl:=AM.1 j;refine⟨y,u,m.guard,m.makes _ W _ (DQ (by simp) (DQ (by simp) fun _ _=>rfl)) f fun v W' e s=>?_⟩;have c:=f.trans (e.mono f.size);exact⟨A5 (t _ c),b,q,o,m,r,c,.inr (.inr (.inr (.inr (.inr ⟨R,v0,v,o.stays _ _ _ f0 e,s,put_comm _ (CF G) _ _⟩))))⟩
  .cases j
 .rintro a W ⟨b,q,o,m,r,f,J⟩
  rcases J with⟨h,_⟩|⟨h,_⟩|⟨h,_⟩|⟨h,_⟩|⟨h,_⟩|⟨_,v0,D,f0,f1,rfl⟩
  .cases h
  .cases h
  .cases h
  .cases h
  .cases h
  .exact r v0 D W (t _ f) f0 f1
end
section
open Go.RowKit Go.Sort
def putO (a:Act) (d:Tmp):Option Value->Act
 | none=>a
 | some v=>a.put (some d) v
theorem Jl (a:Act) {d e:Tmp} (h:d≠e) (s:Option Value) (v:Value):(putO a d s).put (some e) v=putO (a.put (some e) v) d s:=by
 cases s with
 | none=>rfl
 | some u=>exact put_comm _ h _ _
theorem Kd {a b:Act} {d:Tmp} {ds:List Tmp} (c:d∈ds) (s:Option Value) (h:∀x,x∉ds->a.tmps[x]?=b.tmps[x]?):∀x,x∉ds->(putO a d s).tmps[x]?=b.tmps[x]?:=by
 cases s with
 | none=>exact h
 | some u=>exact DQ c h
theorem LJ (a:Act) (d:Tmp) (s:Option Value):(putO a d s).tmps.size=a.tmps.size:=by
 cases s with
 | none=>rfl
 | some u=>exact J6 u
theorem J9 {a:Act} {d x:Tmp} (h:d≠x) (s:Option Value):(putO a d s).tmps[x]?=a.tmps[x]?:=by
 cases s with
 | none=>rfl
 | some u=>exact EB h u
def four (_mk:Value->Value->Value) (b:Act) (d0 d1 d2 d3:Tmp) (s0 s1:Option Value) (s2:Option Value) (s3:Option Value):Act:=putO (putO (putO (putO b d0 s0) d1 s1) d2 s2) d3 s3
structure FourInv (mk:Value->Value->Value) (Q:Exit->Act->World->Prop) (w:World) (b:Act) (i0 i1 i2 i3:Nat) (d0 d1 d2 d3:Tmp) (F0 F1 F3:Value->World->Prop) (s0 s1 s2 s3:Option Value) (is:List Nat) (a:Act) (W:World):Prop where
 bel:Below w.drew.heap.size w.drew W
 nd:is.Nodup
 sub:∀i∈is,i=i0\/i=i1\/i=i2\/i=i3
 j0:i0∈is↔s0=none
 j1:i1∈is↔s1=none
 j2:i2∈is↔s2=none
 j3:i3∈is↔s3=none
 f0:∀v,s0=some v->F0 v W
 f1:∀v,s1=some v->F1 v W
 f2:∀v,s2=some v->∃v0 v1,s0=some v0/\s1=some v1/\v=mk v0 v1
 f3:∀v,s3=some v->F3 v W
 act:a=four mk b d0 d1 d2 d3 s0 s1 s2 s3
structure FourGoal (mk:Value->Value->Value) (Q:Exit->Act->World->Prop) (w:World) (o0 o1 o2 o3:Oper) (d0 d1 d2 d3:Tmp) (F0 F1 F3:Value->World->Prop) (kont:Act->World->Prop) (b:Act):Prop where
 sz:d0<b.tmps.size/\d1<b.tmps.size
 m0:Maker Tryz.prog (NoPanic Q) b w.drew [d0,d1,d2,d3] o0 d0 F0
 m1:Maker Tryz.prog (NoPanic Q) b w.drew [d0,d1,d2,d3] o1 d1 F1
 m3:Maker Tryz.prog (NoPanic Q) b w.drew [d0,d1,d2,d3] o3 d3 F3
 g2:o2.guard=none
 m2:∀(a:Act) (W:World) (v0 v1:Value) (K:Act->World->Prop),F0 v0 W->F1 v1 W->a.eval (.tmp d0)=v0->a.eval (.tmp d1)=v1->(∀x,x∉[d0,d1,d2,d3]->a.eval (.tmp x)=b.eval (.tmp x))->K (a.put (some d2) (mk v0 v1)) W->o2.wp Tryz.prog a W K (NoPanic Q)
 go:∀v0 v1 v3 W,Below w.heap.size w W->F0 v0 W->F1 v1 W->F3 v3 W->kont ((((b.put (some d0) v0).put (some d1) v1).put (some d2) (mk v0 v1)).put (some d3) v3) W
def Om (mk:Value->Value->Value) (Q:Exit->Act->World->Prop) (w:World) (i0 i1 i2 i3:Nat) (o0 o1 o2 o3:Oper) (d0 d1 d2 d3:Tmp) (F0 F1 F3:Value->World->Prop) (kont:Act->World->Prop) (W:World) (is:List Nat) (a:Act):Prop:=∃b s0 s1 s2 s3,FourGoal mk Q w o0 o1 o2 o3 d0 d1 d2 d3 F0 F1 F3 kont b/\FourInv mk Q w b i0 i1 i2 i3 d0 d1 d2 d3 F0 F1 F3 s0 s1 s2 s3 is a W
theorem Vy {mk:Value->Value->Value} {Q:Exit->Act->World->Prop} {w:World} {i0 c d e:Nat} {f g j k:Oper} {d0 d1 d2 d3:Tmp} {F0 F1 F3:Value->World->Prop} {a:Act->World->Prop} {b:Act} (hi:[i0,c,d,e].Nodup) (G:FourGoal mk Q w f g j k d0 d1 d2 d3 F0 F1 F3 a b):Om mk Q w i0 c d e f g j k d0 d1 d2 d3 F0 F1 F3 a w.drew [i0,c,d,e] b:=by refine⟨b,none,none,none,none,G,AH _ _,hi,fun i h=>by simpa using h,by simp,by simp,by simp,by simp,fun v h=>(by cases h),fun v h=>(by cases h),fun v h=>(by cases h),fun v h=>(by cases h),rfl⟩
theorem Vz {id:Nat} {base:Act} {w:World} {l:List Oper} {V X Y Z:Oper} {Q:Exit->Act->World->Prop} {d0 d1 d2 d3:Tmp} {F0 F1 F3:Value->World->Prop} (mk:Value->Value->Value) (n:Nat) (C:List Nat) (i0 o q y:Nat) (hm:Tryz.prog.follows .mixedOrders=true) (hB:Lh .any l.toArray n C [i0,o,q,y] (fun i=>if i=q then[i0,o]else[])=true) (D:C.length+4=n) (aa:(C.all fun i=>decide (i<l.length))=true) (hi:[i0,o,q,y].Nodup) (ab:l.toArray[i0]?=some V) (ac:l.toArray[o]?=some X) (ad:l.toArray[q]?=some Y) (ae:l.toArray[y]?=some Z) (hd:[d0,d1,d2,d3].Nodup) (h:wpQuiet Tryz.prog l.toArray (fun w'=>∃p:Regrown,w'=grow (redrawn w p.d) p.os) (Om mk Q w i0 o q y V X Y Z d0 d1 d2 d3 F0 F1 F3 (fun a W=>wpList Tryz.prog l.toArray (NoPanic Q) (l.drop n) a W) w.drew [i0,o,q,y]) (CV l C) base) :(Code.region id l.toArray true).wp Tryz.prog Q base w:=by
 have E:∀W,Below w.drew.heap.size w.drew W->Below w.heap.size w W:=fun W hb=>(AH _ w).drew.trans hb
 simp only[Dy,Bh,BP,Eg,not_or]at hi hd;obtain⟨⟨F,H,J⟩,⟨K,L⟩,M,_⟩:=hi;obtain⟨⟨N,O,P⟩,⟨R,S⟩,af,_⟩:=hd
 refine EL n C [i0,o,q,y] (fun i=>if i=q then[i0,o]else[]) hm hB D aa
  (fun is a W=>Om mk Q w i0 o q y V X Y Z d0 d1 d2 d3 F0 F1 F3 (fun a W=>wpList Tryz.prog l.toArray (NoPanic Q) (l.drop n) a W) W is a) ?_ ?_ h
 .rintro is a W ⟨b,T,s1,s2,s3,G,I⟩ i m t
  have r:∀x,x∉[d0,d1,d2,d3]->a.tmps[x]?=b.tmps[x]?:=by rw[I.act];unfold four;exact Kd (by simp) _ (Kd (by simp) _ (Kd (by simp) _ (Kd (by simp) _ fun _ _=>rfl)))
  have ag:a.tmps.size=b.tmps.size:=by rw[I.act];unfold four;rw[LJ,LJ,LJ,LJ]
  have c:∀j,j∈is.erase i↔j≠i/\j∈is:=fun j=>List.Nodup.mem_erase_iff I.nd
  rcases I.sub i m with rfl|rfl|rfl|rfl
  .have z:=I.j0.1 m
   subst z
   have h2:s2=none:=by
    rcases A:s2 with _|v
    .rfl
    .obtain ⟨_,_,h,_⟩:=I.f2 v A;cases h
   subst h2;refine⟨V,ab,G.m0.guard,G.m0.makes _ W _ r I.bel fun v W' f U=>?_⟩;have k:=I.bel.trans (f.mono I.bel.size);refine⟨A5 (E _ k),b,some v,s1,none,s3,G,k,I.nd.erase _,fun j B=>I.sub j ((c j).1 B).2,?_,?_,?_,?_,?_,?_,?_,?_,?_⟩
   .rw [c];simp
   .rw [c,<-I.j1];exact⟨fun h=>h.2,fun h=>⟨(CF F),h⟩⟩
   .rw [c,<-I.j2];exact⟨fun h=>h.2,fun h=>⟨(CF H),h⟩⟩
   .rw [c,<-I.j3];exact⟨fun h=>h.2,fun h=>⟨(CF J),h⟩⟩
   .intro u g;rw[<-AL g];exact U
   .exact fun u g=>G.m1.stays _ _ _ (I.f1 u g) f
   .intro u g;cases g
   .exact fun u g=>G.m3.stays _ _ _ (I.f3 u g) f
   .rw [I.act];unfold four;rw[Jl _ (CF P),Jl _ (CF O),Jl _ (CF N)];rfl
  .have z:=I.j1.1 m
   subst z
   have h2:s2=none:=by
    rcases A:s2 with _|v
    .rfl
    .obtain ⟨_,_,_,h,_⟩:=I.f2 v A;cases h
   subst h2;refine⟨X,ac,G.m1.guard,G.m1.makes _ W _ r I.bel fun v W' f U=>?_⟩;have k:=I.bel.trans (f.mono I.bel.size);refine⟨A5 (E _ k),b,T,some v,none,s3,G,k,I.nd.erase _,fun j B=>I.sub j ((c j).1 B).2,?_,?_,?_,?_,?_,?_,?_,?_,?_⟩
   .rw [c,<-I.j0];exact⟨fun h=>h.2,fun h=>⟨F,h⟩⟩
   .rw [c];simp
   .rw [c,<-I.j2];exact⟨fun h=>h.2,fun h=>⟨(CF K),h⟩⟩
   .rw [c,<-I.j3];exact⟨fun h=>h.2,fun h=>⟨(CF L),h⟩⟩
   .exact fun u g=>G.m0.stays _ _ _ (I.f0 u g) f
   .intro u g;rw[<-AL g];exact U
   .intro u g;cases g
   .exact fun u g=>G.m3.stays _ _ _ (I.f3 u g) f
   .rw [I.act];unfold four;rw[Jl _ (CF S),Jl _ (CF R)];rfl
  .have z:=I.j2.1 m
   subst z;have h0:T≠none:=fun e=>t i0 (by simp) (I.j0.2 e)
   have h1:s1≠none:=fun e=>t o (by simp) (I.j1.2 e)
   obtain⟨v0,rfl⟩:=Fh.1 h0;obtain⟨s,rfl⟩:=Fh.1 h1;have k0:a.tmps[d0]?=some v0:=by rw[I.act];unfold four;rw[J9 (CF P),J9 (CF O),J9 (CF N)];exact Ik G.sz.1 v0
   have k1:a.tmps[d1]?=some s:=by rw[I.act];unfold four;rw[J9 (CF S),J9 (CF R)];exact Ik (by rw[LJ];exact G.sz.2) s
   refine⟨Y,ad,G.g2,G.m2 a W v0 s _ (I.f0 v0 rfl) (I.f1 s rfl) (Fc k0) (Fc k1) (fun x hx=>JO r x hx) ?_⟩;refine⟨A5 (E _ I.bel),b,some v0,some s,some (mk v0 s),s3,G,I.bel,I.nd.erase _,fun j B=>I.sub j ((c j).1 B).2,?_,?_,?_,?_,I.f0,I.f1,?_,I.f3,?_⟩
   .rw [c,<-I.j0];exact⟨fun h=>h.2,fun h=>⟨H,h⟩⟩
   .rw [c,<-I.j1];exact⟨fun h=>h.2,fun h=>⟨K,h⟩⟩
   .rw [c];simp
   .rw [c,<-I.j3];exact⟨fun h=>h.2,fun h=>⟨(CF M),h⟩⟩
   .intro u g;exact⟨v0,s,rfl,rfl,(AL g).symm⟩
   .rw [I.act];unfold four;rw[Jl _ (CF af)];rfl
  .have z:=I.j3.1 m
   subst z;refine⟨Z,ae,G.m3.guard,G.m3.makes _ W _ r I.bel fun v W' f U=>?_⟩;have k:=I.bel.trans (f.mono I.bel.size);refine⟨A5 (E _ k),b,T,s1,s2,some v,G,k,I.nd.erase _,fun j B=>I.sub j ((c j).1 B).2,?_,?_,?_,?_,?_,?_,?_,?_,?_⟩
   .rw [c,<-I.j0];exact⟨fun h=>h.2,fun h=>⟨J,h⟩⟩
   .rw [c,<-I.j1];exact⟨fun h=>h.2,fun h=>⟨L,h⟩⟩
   .rw [c,<-I.j2];exact⟨fun h=>h.2,fun h=>⟨M,h⟩⟩
   .rw [c];simp
   .exact fun u g=>G.m0.stays _ _ _ (I.f0 u g) f
   .exact fun u g=>G.m1.stays _ _ _ (I.f1 u g) f
   .exact I.f2
   .intro u g;rw[<-AL g];exact U
   .rw [I.act];rfl
 .rintro a W ⟨b,T,s1,s2,s3,G,I⟩
  have h0:T≠none:=fun e=>by have:=I.j0.2 e;cases this
  have h1:s1≠none:=fun e=>by have:=I.j1.2 e;cases this
  have h2:s2≠none:=fun e=>by have:=I.j2.2 e;cases this
  have h3:s3≠none:=fun e=>by have:=I.j3.2 e;cases this
  obtain⟨v2,rfl⟩:=Fh.1 h2;obtain⟨v3,rfl⟩:=Fh.1 h3;obtain⟨v0,s,rfl,rfl,rfl⟩:=I.f2 v2 rfl;rw[I.act];exact G.go v0 s v3 W (E _ I.bel) (I.f0 _ rfl) (I.f1 _ rfl) (I.f3 _ rfl)
end
section
open Go.RowKit Go.Sort
theorem QZ.mono {P a G MB g:Nat} (h:QZ P G MB g) (b:P<=a):QZ a G MB g:=⟨Aj h.1 b,h.2⟩
theorem GE.mono {α:Type} {p q:Nat->Prop} {enc:α->List Value} {k:Nat} {w:World} {L n:Nat} {rows:Nat->List α} (h:GE p enc k w L n rows) (a:∀g,p g->q g):GE q enc k w L n rows:=⟨a _ h.1,fun s b=>by obtain⟨A,c,h1,h2,h3,h4⟩:=h.2 s b;exact⟨A,c,h1,h2,h3,h4.mono a⟩⟩
theorem MkV.setFr {w:World} {B0 d G MB:Nat} {j k:Value} {most:Int} {r:ByteArray} {vR l m a n:Value} {o p q:List Value} {S:Mk} {M:Nat->Prop} (h:MkV w B0 d G MB j k most r vR l m a n o p q S M) (f:ByteArray) :MkV (w.setCell ⟨G,5,none⟩ (.string f)) B0 d G MB j k most f vR l m a n o p q S M:=by
 have b:∀g,g<w.heap.size->¬M g->(w.setCell ⟨G,5,none⟩ (.string f)).heap[g]?=w.heap[g]?:=fun g _ s=>Am _ _ _ _ (fun e=>s (e▸h.mG))
 have c:G≠MB:=FV h.num h.box
 exact { h with
  box:=h.box.set_ 5 (.string f)
  num:=h.num.setCell (fun e=>c e) _
  oR:=AO h.oR (AV h.oR h.box (by decide)) _
  oN:=AO h.oN (AV h.oN h.box (by decide)) _
  oO:=AO h.oO (AV h.oO h.box (by decide)) _
  oE:=AO h.oE (AV h.oE h.box (by decide)) _
  oT:=AO h.oT (AV h.oT h.box (by decide)) _
  sz:=by simpa using h.sz
  tips:=fun i hi=>(h.tips i hi).keep (by simp) b
  nexts:=fun i hi=>(h.nexts i hi).keep (by simp) b
  outss:=fun i hi=>(h.outss i hi).keep (by simp) b }
theorem Xn {t:Fs} {most s:Nat} {S:Mk} (a:s<S.rows.length) (c:S.rows.length<=most):IS t most (most-s) s S=match Tg t most S s with
    | .error e=>.error e
    | .ok m'=>IS t most (most-(s+1)) (s+1) m':=by
 obtain⟨k,b⟩:∃k,most-s=k+1:=⟨most-s-1,by omega⟩
 rw[b]
 conv=>lhs;unfold IS
 rw[AU a,show most-(s+1)=k by omega];rcases Tg t most S s with e|m<;>rfl
theorem ZX {t:Fs} {most s k:Nat} {S:Mk} (a:¬s<S.rows.length):IS t most k s S=.ok S:=by
 cases k with
 | zero=>rfl
 | succ k=>unfold IS;rw[AP a]
theorem ZY {t:Fs} {most s:Nat} {S a:Mk} (h:Tg t most S s=.ok a):a.next.length=S.next.length+1/\a.outs.length=S.outs.length+1/\a.ends.length=S.ends.length+1/\a.tails.length=S.tails.length+1:=by
 unfold Tg at h;split at h
 .cases h
 split at h
 .cases h
 injection h with h
 subst h;simp
def X1k (B0:Nat) (t:Fs) (most:Nat) (w:World) (e:Ending) (w':World):Prop:=
 Below B0 w w'/\match IC t most with
  | .error k=>e=.returned (.tuple #[.agg #[.string ⟨#[]⟩,.slice none 0 0,.slice none 0 0,.slice none 0 0,.slice none 0 0],.int .i64 k])
  | .ok q=>∃v,e=.returned (.tuple #[v,.int .i64 0])/\Eb w.heap.size w' q v
theorem X1U (fn:Fn) (first cap:Array Value) (w:World):(Instr.makeFunc fn first cap).run Tryz.prog w=.ok (.func fn first cap) w:=rfl
theorem UR {R:Ending->World->Prop} {tmps:Array Value} {b ge:Nat} {i j k l m v:Value} {W:World} (h4:tmps[4]?=some (.pointer (some ⟨b,0,none⟩))) (h5:tmps[5]?=some (.pointer (some ⟨ge,0,none⟩))) (n:BL W b 27 #[i,j,k,l,m]) (o:BL W ge 33 #[v]) (h:∀W',Below W.heap.size W W'->R (.returned (.tuple #[.agg #[i,j,k,l,m],v])) W') :bodyPostD Tryz.prog Tryz.f28 R Exit.ret ⟨tmps,[{ target:=.fn (.func 60) #[.pointer (some ⟨b,0,none⟩),.pointer (some ⟨ge,0,none⟩)],args:=#[] }]⟩ W:=by refine leaves_cons (f:=60) (args:=#[.pointer (some ⟨b,0,none⟩),.pointer (some ⟨ge,0,none⟩)]) (by simp) (by simp[go_sem]) ?_;refine(idle _ _ _).mono ?_;rintro e u c ⟨rfl,rfl,d⟩;have a:=n.below d n.lt;have g:=o.below d o.lt;have p:=a.cell 0;have q1:=a.cell 1;have q:=a.cell 2;have r:=a.cell 3;have s:=a.cell 4;have e0:=g.cell 0;have t:=AB (h c d);simp[Leaves,settle,results,Tryz.results28,go_sem,p,q1,q,r,s,e0,h4,h5];exact t.out
theorem Nn {R:Ending->World->Prop} {tmps:Array Value} {b ge:Nat} {k:Int} {g i j l m v:Value} {W:World} (h4:tmps[4]?=some (.pointer (some ⟨b,0,none⟩))) (h5:tmps[5]?=some (.pointer (some ⟨ge,0,none⟩))) (n:BL W b 27 #[g,i,j,l,m]) (o:BL W ge 33 #[v]) (h:∀W',(∀B,B<=b->B<=ge->B<=W.heap.size->Below B W W')->R (.returned (.tuple #[.agg #[.string ⟨#[]⟩,.slice none 0 0,.slice none 0 0,.slice none 0 0,.slice none 0 0],.int .i64 k])) W') :bodyPostD Tryz.prog Tryz.f28 R (Exit.panic [{ v:=.iface 130 (.agg #[.int .i64 k]),recovered:=false }]) ⟨tmps,[{ target:=.fn (.func 60) #[.pointer (some ⟨b,0,none⟩),.pointer (some ⟨ge,0,none⟩)],args:=#[] }]⟩ W:=by refine leaves_cons (f:=60) (args:=#[.pointer (some ⟨b,0,none⟩),.pointer (some ⟨ge,0,none⟩)]) (by simp) (by simp[go_sem]) ?_;refine(X1S b ge k [] W g i j l m v n o).mono ?_;rintro e w c ⟨rfl,rfl,a,d,p⟩;have q:=a.cell 0;have q1:=a.cell 1;have r:=a.cell 2;have s:=a.cell 3;have t:=a.cell 4;have e0:=d.cell 0;have u:=AB (h c p);simp[Leaves,settle,results,Tryz.results28,go_sem,q,q1,r,s,t,e0,h4,h5];exact u.out
theorem X1l {B0 G MB:Nat} {most:Nat} (t:Fs) (LA LE ns Q n2 n3 c1 c2 c3:Nat) (X A2 A3:Option Addr) (w:World) (Y:BL w G 78 (Li (.slice (some ⟨LA,0,none⟩) ns ns) (.slice (some ⟨LE,0,none⟩) ns ns) (most:Int) MB ⟨#[]⟩ (.slice none 0 0) (.slice none 0 0) (.slice none 0 0) (.slice none 0 0) (.slice none 0 0))) (Z:NP w MB []) (hG:B0<=G) (ck:B0<=MB) (HS:Reads w w.heap.size 2 X Q (B_ CL t.starts)) (HA:GE (QZ w.heap.size G MB) Cx 8 w LA ns (Lz t.arcs)) (HE:GE (QZ w.heap.size G MB) Kr 1 w LE ns (EX t.ends)) (hP:Pow w B0) (hR:FR t) (hm:most<=1024) (dj:1<=most) (cl:ns<=1024) (n:t.starts.length<=1024/\∀x∈t.starts,0<=x.st/\x.st<(ns:Int)/\x.out.size<=1024) (ha:t.arcs.length<=16384/\∀x∈t.arcs,x.out.size<=1024/\OU x.set/\0<=x.to/\x.to<(ns:Int)) (he:t.ends.length<=1024/\∀x∈t.ends,x.out.size<=1024) :Calls Tryz.prog 28 #[.pointer (some ⟨G,0,none⟩),.agg #[.int .i64 ns,.slice X Q c1,.slice A2 n2 c2,.slice A3 n3 c3]] w (X1k B0 t most w):=by
 have an:=FE Dg (by decide) HS;have z:=AB an;have aa:=AB n;have bk:=AB ha;have bl:=AB he;have dk:=X1U;clear an n ha he;have cm:(((w.alloc (.cells #[.int .i64 ns,.slice X Q c1,.slice A2 n2 c2,.slice A3 n3 c3] 32)).alloc (.cells #[.string ⟨#[]⟩,.slice none 0 0,.slice none 0 0,.slice none 0 0,.slice none 0 0] 27)).alloc (.cells #[.int .i64 0] 33)).heap.size=w.heap.size+1+1+1:=by simp
 have j:BL (((w.alloc (.cells #[.int .i64 ns,.slice X Q c1,.slice A2 n2 c2,.slice A3 n3 c3] 32)).alloc (.cells #[.string ⟨#[]⟩,.slice none 0 0,.slice none 0 0,.slice none 0 0,.slice none 0 0] 27)).alloc (.cells #[.int .i64 0] 33)) (w.heap.size+1) 27 #[.string ⟨#[]⟩,.slice none 0 0,.slice none 0 0,.slice none 0 0,.slice none 0 0]:=by have:=(BL.new (w.alloc (.cells #[.int .i64 ns,.slice X Q c1,.slice A2 n2 c2,.slice A3 n3 c3] 32)) 27 #[.string ⟨#[]⟩,.slice none 0 0,.slice none 0 0,.slice none 0 0,.slice none 0 0]).alloc (.cells #[.int .i64 0] 33);rw[Ad]at this;exact this
 have F:BL (((w.alloc (.cells #[.int .i64 ns,.slice X Q c1,.slice A2 n2 c2,.slice A3 n3 c3] 32)).alloc (.cells #[.string ⟨#[]⟩,.slice none 0 0,.slice none 0 0,.slice none 0 0,.slice none 0 0] 27)).alloc (.cells #[.int .i64 0] 33)) (w.heap.size+1+1) 33 #[.int .i64 0]:=by have:=BL.new ((w.alloc (.cells #[.int .i64 ns,.slice X Q c1,.slice A2 n2 c2,.slice A3 n3 c3] 32)).alloc (.cells #[.string ⟨#[]⟩,.slice none 0 0,.slice none 0 0,.slice none 0 0,.slice none 0 0] 27)) 33 #[.int .i64 0];rw[Ad,Ad]at this;exact this
 have u:Below w.heap.size w (((w.alloc (.cells #[.int .i64 ns,.slice X Q c1,.slice A2 n2 c2,.slice A3 n3 c3] 32)).alloc (.cells #[.string ⟨#[]⟩,.slice none 0 0,.slice none 0 0,.slice none 0 0,.slice none 0 0] 27)).alloc (.cells #[.int .i64 0] 33)):=(((AH _ w).alloc (AD _) _).alloc (by simp) _).alloc (by simp;omega) _;have cp:=Y.lt;have dl:=Z.lt;have ba:B0<=w.heap.size:=by omega
 rcases B7 Q with bb|bb
 .subst bb
  have bm:t.starts=[]:=BD z.out;have a:IC t most=.ok MI:=by unfold IC;rw[bm]
  have dm:=j.set_ 0 (.string ⟨#[]⟩);have C:=AB a;have cq:=AB j;have cr:=AB F;have cs:=AB u;have q0:=j.cell 0;have q1:=j.cell 1;have q2:=j.cell 2;have q3:=j.cell 3;have q4:=j.cell 4;have g0:=j.frozen 0;have g1:=j.frozen 1;have g2:=j.frozen 2;have g3:=j.frozen 3;have g4:=j.frozen 4;have e0:=F.cell 0;have e1:=F.frozen 0;clear bm a j F u
  go_enter_defers Tryz.func28,Tryz.ntmps28
  go_wp2_with fail
  refine UR rfl rfl cq.out cr.out fun W' E=>⟨?_,?_⟩
  .exact (cs.out.mono ba).trans (E.mono (by simp;omega))
  .rw [C.out];exact⟨_,rfl,I5 _ _⟩
 .have a:IC t most=match EU t.starts with
    | .error e=>.error e
    | .ok (front,l)=>
     match FO most [] l with
     | .error e=>.error e
     | .ok (_,rows)=>
      match IS t most most 0 ⟨rows,[],[],[],[]⟩with
      | .error e=>.error e
      | .ok m=>.ok ⟨front,m.next,m.outs,m.ends,m.tails⟩:=by
    have:=z.out;unfold IC;cases hs:t.starts with
    | nil=>rw[hs]at this;simp at this;omega
    | cons x l=>rfl
  have C:=AB a
  have c:MkV (((w.alloc (.cells #[.int .i64 ns,.slice X Q c1,.slice A2 n2 c2,.slice A3 n3 c3] 32)).alloc (.cells #[.string ⟨#[]⟩,.slice none 0 0,.slice none 0 0,.slice none 0 0,.slice none 0 0] 27)).alloc (.cells #[.int .i64 0] 33)) B0 (w.heap.size+1+1+1) G MB (.slice (some ⟨LA,0,none⟩) ns ns) (.slice (some ⟨LE,0,none⟩) ns ns) (most:Int) ⟨#[]⟩ (.slice none 0 0) (.slice none 0 0) (.slice none 0 0) (.slice none 0 0) (.slice none 0 0) [] [] [] ⟨[],[],[],[],[]⟩ (fun g=>Lj G MB (.slice none 0 0) (.slice none 0 0) (.slice none 0 0) (.slice none 0 0) (.slice none 0 0) g\/g<w.heap.size+1+1+1):={
   box:=Y.below u cp
   num:=Z.below u (AD _)
   oR:=Bc _ _ _ _
   oN:=Bc _ _ _ _
   oO:=Bc _ _ _ _
   oE:=Bc _ _ _ _
   oT:=Bc _ _ _ _
   tips:=fun i hi=>absurd hi (B6 _)
   nexts:=fun i hi=>absurd hi (B6 _)
   outss:=fun i hi=>absurd hi (B6 _)
   le:=by omega
   sz:=by omega
   gG:=hG
   gM:=ck
   low:=fun g v=>.inr v
   mG:=.inl (.inl rfl)
   mM:=.inl (.inr (.inl rfl))
   mR:=fun g e=>(by cases e)
   mN:=fun g e=>(by cases e)
   mO:=fun g e=>(by cases e)
   mE:=fun g e=>(by cases e)
   mT:=fun g e=>(by cases e) }
  have bn:=HS.below u;have bo:=QK X Q c1 w.heap.size t.starts _ bn (by omega) (by have:=z.out;have:=aa.out.1;omega);have bp:=AB bo;have cu:=(HA.kept (fun g v=>u.block g v.1)).mono (fun g v=>QZ.mono v (show w.heap.size<=w.heap.size+1+1+1 by omega));have bq:=(HE.kept (fun g v=>u.block g v.1)).mono (fun g v=>QZ.mono v (show w.heap.size<=w.heap.size+1+1+1 by omega));have dn:=hP.below (u.mono ba);have ax:=u.mono ba;have dh:=cm;clear bo bn a HS HA HE u Y Z;have e1:((Q:Int)==0)=false:=by simp;omega
  go_enter_defers Tryz.func28,Tryz.ntmps28
  go_wp2_with fail
  generalize (((w.alloc (.cells #[.int .i64 ns,.slice X Q c1,.slice A2 n2 c2,.slice A3 n3 c3] 32)).alloc (.cells #[.string ⟨#[]⟩,.slice none 0 0,.slice none 0 0,.slice none 0 0,.slice none 0 0] 27)).alloc (.cells #[.int .i64 0] 33))=W3 at *;refine bp.out.mono ?_;rintro e w4 ⟨v4,rfl,ay,br⟩;obtain⟨g4,cap,rfl,bs,az,bt,ab,bu⟩:=EV.of_own Dg DI ay z.out bb;have an:=z.out;have A:=Rt g4 cap t.starts w4 (by rw[z.out];exact bu) az (by rw[z.out];exact bt) ab (by have:=aa.out.1;omega) (by omega) (fun x hx=>by have:=(aa.out.2 x hx).2.2;omega);rw[z.out]at A;have a5:=AB A;have dp:=br.size;have HW:=AB (fun w5 (E:∀B,B<=g4->Below B w4 w5)=>show Below W3.heap.size W3 w5 from br.trans (E W3.heap.size bs));clear A ay bu bp an
  go_wp2_with fail
  refine a5.out.mono ?_;rintro e w5 ⟨ac,d⟩;have H:=HW.out w5 ac;have cv:=j.below H j.lt;have cw:=F.below H F.lt;have bv:=Aj az (ac 0 (AN _)).size;clear a5 HW ac;have a:=C.out;rcases R:EU t.starts with ek|⟨f,l'⟩
  .rw [R]at d a
   unfold FP at d;subst d;have cx:=ax.trans (H.mono (by omega));have y:=AB (show IC t most=.error ek from a);clear a R C;go_wp2;refine Nn rfl rfl cv cw fun W' E=>⟨cx.trans (E B0 (by omega) (by omega) (by have:=H.size;omega)),?_⟩
   rw[y.out]
  .rw [R]at d a
   obtain⟨rfl,bw⟩:=d;have T:=QY (ns:=ns) R (fun x hx=>⟨(aa.out.2 x hx).1,(aa.out.2 x hx).2.1⟩);have dq:=Ru R;have bc:=c.call H;have di:=c.num.lt
   have cy:¬(Lj G MB (.slice none 0 0) (.slice none 0 0) (.slice none 0 0) (.slice none 0 0) (.slice none 0 0) g4\/g4<w.heap.size+1+1+1):=by
    rintro((e|e|e|e|e|e|e)|e)
    .omega
    .omega
    .cases e
    .cases e
    .cases e
    .cases e
    .cases e
    .omega
   have a6:JU (fun g=>Lj G MB (.slice none 0 0) (.slice none 0 0) (.slice none 0 0) (.slice none 0 0) (.slice none 0 0) g\/g<w.heap.size+1+1+1) w5 2 (.slice (some ⟨g4,0,none⟩) l'.length cap) l'.length (B_ CL l'):=EV.slr bw (by have:=z.out;omega) ab bv cy;have ad:=a6.far (p:=⟨G,5,none⟩) (.inl (.inl rfl)) (.string f);have bd:=bc.setFr f;have a7:=bc.box;have p5:=a7.cell 5;have f5:=a7.frozen 5;have ae:=ax.trans ((H.mono (by omega)).setCell (p:=⟨G,5,none⟩) hG (.string f));have af:∀g,QZ (w.heap.size+1+1+1) G MB g->(w5.setCell ⟨G,5,none⟩ (.string f)).heap[g]?=W3.heap[g]?:=fun g v=>by have:=v.1;rw[Am _ _ _ _ (show g≠G from v.2.1),H.block g (by omega)]
   have n:=QX g4 cap l' _ bd ad (hP.below ae) (fun x hx=>⟨(T.all x hx).1,by have:=(T.all x hx).2.1;omega,(T.all x hx).2.2⟩) (by have:=T.len;omega) (fun q U=>absurd U (BP)) hm (AN _);have cz:=AB n
   have be:=AB (show IC t most=match FO most [] l' with
    | .error e=>.error e
    | .ok (_,rows)=>
     match IS t most most 0 ⟨rows,[],[],[],[]⟩with
     | .error e=>.error e
     | .ok m=>.ok ⟨f,m.next,m.outs,m.ends,m.tails⟩from a)
   have c0:=AB T;clear n a R C a6 ad bw bc T;generalize l'.length=ll at *;have bf:=AB bd;clear bd
   go_wp2_with fail
   refine cz.out.mono ?_;rintro e w7 ⟨bx,bz,d⟩;have I:∀g,QZ (w.heap.size+1+1+1) G MB g->w7.heap[g]?=W3.heap[g]?:=fun g v=>by have h1:=v.1;have h2:=bf.out.sz;exact(bz g (by omega) v.2.1 v.2.2 (fun e=>by cases e)).trans (af g v)
   have c4:QZ (w.heap.size+1+1+1) G MB (w.heap.size+1):=⟨by omega,by omega,by omega⟩;have c5:QZ (w.heap.size+1+1+1) G MB (w.heap.size+1+1):=⟨by omega,by omega,by omega⟩;have bg:=AB (fun(W:World) (ho:∀g,QZ (w.heap.size+1+1+1) G MB g->W.heap[g]?=W3.heap[g]?)=>show BL W (w.heap.size+1) 27 #[.string ⟨#[]⟩,.slice none 0 0,.slice none 0 0,.slice none 0 0,.slice none 0 0]/\BL W (w.heap.size+1+1) 33 #[.int .i64 0]from⟨(ho _ c4).trans j,(ho _ c5).trans F⟩)
   have d:(match FO most [] l' with
    | .error k=>e=FP k
    | .ok (i,rows)=>e=.returned (.int .i64 (i:Int))/\∃ao b0,MkV w7 B0 (w.heap.size+1+1+1) G MB (.slice (some ⟨LA,0,none⟩) ns ns) (.slice (some ⟨LE,0,none⟩) ns ns) (most:Int) f ao (.slice none 0 0) (.slice none 0 0) (.slice none 0 0) (.slice none 0 0) b0 [] [] ⟨rows,[],[],[],[]⟩ (fun g=>(Lj G MB (.slice none 0 0) (.slice none 0 0) (.slice none 0 0) (.slice none 0 0) (.slice none 0 0) g\/g<w.heap.size+1+1+1)\/ao.ownBlock=some g) /\∀g,ao.ownBlock=some g->(Value.slice none 0 0).ownBlock=some g\/(w5.setCell ⟨G,5,none⟩ (.string f)).heap.size<=g):=d
   have a:=be.out;have J:=ae.trans bx;have c6:=J.size;rcases n:FO most [] l' with ek|⟨i0,rows⟩
   .rw [n]at d a
    unfold FP at d;subst d;have y:=AB (show IC t most=.error ek from a);obtain⟨c7,c8⟩:=bg.out w7 I;have c6:w.heap.size+1+1+1<=w7.heap.size:=by have h1:=bf.out.sz;have h2:=bx.size;omega
    clear a n be;go_wp2;refine Nn rfl rfl c7 c8 fun W' E=>⟨J.trans (E B0 (by omega) (by omega) (by omega)),?_⟩
    rw[y.out]
   .rw [n]at d a
    obtain⟨rfl,dr,ds,a8,_⟩:=d;obtain⟨p1,p2,p3,p4⟩:=Kk n (AN most)
    have N:∀r∈rows,RowG ns r:=fun r hr=>by
     rcases p4 r hr with h|rfl
     .cases h
     .exact c0.out
    have y:=AB (show IC t most=match IS t most most 0 ⟨rows,[],[],[],[]⟩with
     | .error e=>.error e
     | .ok m=>.ok ⟨f,m.next,m.outs,m.ends,m.tails⟩from a)
    have b1:=AB a8;have b2:=AB N;have b3:=AB I;clear n a a8 N p1 p3 p4 be d I af bz bf;go_wp2;go_loopw [8] (fun i wr=>∃(s:Nat) (S:Mk) (vR vN vO b4 vT:Value) (tv nv ov:List Value) (M:Nat->Prop),s<=most/\S.rows.length<=most/\i=.int .i64 (s:Int)/\MkV wr B0 (w.heap.size+1+1+1) G MB (.slice (some ⟨LA,0,none⟩) ns ns) (.slice (some ⟨LE,0,none⟩) ns ns) (most:Int) f vR vN vO b4 vT tv nv ov S M /\(S.next.length=s/\S.outs.length=s/\S.ends.length=s/\S.tails.length=s)/\(∀r∈S.rows,RowG ns r)/\IS t most most 0 ⟨rows,[],[],[],[]⟩=IS t most (most-s) s S/\Below B0 w wr/\∀g,QZ (w.heap.size+1+1+1) G MB g->wr.heap[g]?=W3.heap[g]?) (fun i _=>most-(intOf i).toNat)
    case atStart=>exact⟨0,_,_,_,_,_,_,_,_,_,_,AN _,p2,rfl,b1.out,⟨rfl,rfl,rfl,rfl⟩,b2.out,rfl,J,b3.out⟩
    case round=>
     clear b1 b2 b3 p2;obtain⟨s,S,vR,vN,vO,b4,vT,tv,nv,ov,M,dt,ca,rfl,c,K,L,ap,O,P⟩:=hrel;obtain⟨AR,cR,rfl,_,_,_⟩:=BH c.oR;have V:=c.box;have q3:=V.cell 3;obtain⟨U,he⟩:=bg.out wr P;by_cases bh:s<S.rows.length
     .have hi:(s:Int)<(S.rows.length:Int):=by omega
      have cb:=X1Q t LA LE ns s wr c (cu.kept P) (bq.kept P) (hP.below O) bh L ca hm cl ⟨by omega,by omega,by omega,by omega⟩ bk.out bl.out;have o:=ap.trans (Xn bh ca);have c9:=AB cb;have da:=AB o;have db:=AB K;have du:=c.sz;clear cb o ap L c K;generalize dv:S.rows.length=rr at *
      go_wp2_with fail
      refine c9.out.mono ?_;rintro e w9 ⟨bi,dc,d⟩;have ag:∀g,QZ (w.heap.size+1+1+1) G MB g->w9.heap[g]?=W3.heap[g]?:=fun g v=>(dc g v).trans (P g v)
      have o:=da.out;rcases ah:Tg t most S s with ek|S'
      .rw [ah]at d o
       unfold FP at d;subst d;obtain⟨dd,de⟩:=bg.out w9 ag;have cc:=AB (show IC t most=.error ek by rw[y.out,o]);have ai:=O.trans bi;have dw:=bi.size;clear o ah;go_wp2;refine Nn rfl rfl dd de fun W' E=>⟨ai.trans (E B0 (by omega) (by omega) (by omega)),?_⟩
       rw[cc.out]
      .rw [ah]at d o
       obtain⟨rfl,⟨ao,dx,dy,dz,d0,b0,d1,d2,M',aq⟩,ar,cd⟩:=d;have a9:=ZY ah;have cf:=AB (AI aq (AI ar (AI o a9)));have ai:=O.trans bi;clear o ah aq ar a9;go_wp2;go_roundw
       case rel=>obtain⟨aq,ar,o,k1,k2,k3,k4⟩:=cf.out;obtain⟨j1,j2,j3,j4⟩:=db.out;exact⟨s+1,S',_,_,_,_,_,_,_,_,_,by omega,cd,by go_num,aq,⟨by omega,by omega,by omega,by omega⟩,ar,o,ai,ag⟩
       case measure=>simp[intOf];omega
     .have aj:IC t most=.ok ⟨f,S.next,S.outs,S.ends,S.tails⟩:=by rw[y.out,ap,ZX bh]
      obtain⟨r1,r2,r3,r4,r5,_,r6⟩:=VK hR aj;obtain⟨l1,l2,l3,l4⟩:=K;obtain⟨An,cn,cg,_,_,_⟩:=BH c.oN;obtain⟨Ao,co,ch,_,_,_⟩:=BH c.oO;obtain⟨Ae,ce,ci,_,_,_⟩:=BH c.oE;obtain⟨At,ct,cj,_,_,_⟩:=BH c.oT;rw[l1]at cg;rw[l2]at ch;rw[l3]at ci;rw[l4]at cj;subst cg ch ci cj;have D:w.heap.size+1≠w.heap.size+1+1:=by omega
      have bj:∀g,g<w.heap.size+1+1+1->w.heap.size<=g->¬Lj G MB (.slice AR S.rows.length cR) (.slice An s cn) (.slice Ao s co) (.slice Ae s ce) (.slice At s ct) g:=by
       rintro g v d3 (e|e|e|e|e|e|e)
       .omega
       .omega
       .have:=(own_lt c.oR g e).1;omega
       .have:=(own_lt c.oN g e).1;omega
       .have:=(own_lt c.oO g e).1;omega
       .have:=(own_lt c.oE g e).1;omega
       .have:=(own_lt c.oT g e).1;omega
      have ak:=bj (w.heap.size+1) (by omega) (by omega);have df:=bj (w.heap.size+1+1) (by omega) (by omega);have al:=c.low (w.heap.size+1) (by omega);have dg:=c.low (w.heap.size+1+1) (by omega);have hF:=(((((c.far (p:=⟨w.heap.size+1,0,none⟩) al ak (.string f)).far (p:=⟨w.heap.size+1,1,none⟩) al ak (.slice An s cn)).far (p:=⟨w.heap.size+1,2,none⟩) al ak (.slice Ao s co)).far (p:=⟨w.heap.size+1,3,none⟩) al ak (.slice Ae s ce)).far (p:=⟨w.heap.size+1,4,none⟩) al ak (.slice At s ct)).far (p:=⟨w.heap.size+1+1,0,none⟩) dg df (.int .i64 0);have au:=(((((U.set_ 0 (.string f)).set_ 1 (.slice An s cn)).set_ 2 (.slice Ao s co)).set_ 3 (.slice Ae s ce)).set_ 4 (.slice At s ct)).far (p:=⟨w.heap.size+1+1,0,none⟩) D (.int .i64 0);have av:=(((((he.far (p:=⟨w.heap.size+1,0,none⟩) D.symm (.string f)).far (p:=⟨w.heap.size+1,1,none⟩) D.symm (.slice An s cn)).far (p:=⟨w.heap.size+1,2,none⟩) D.symm (.slice Ao s co)).far (p:=⟨w.heap.size+1,3,none⟩) D.symm (.slice Ae s ce)).far (p:=⟨w.heap.size+1,4,none⟩) D.symm (.slice At s ct)).set_ 0 (.int .i64 0);have am:=(((((O.setCell (p:=⟨w.heap.size+1,0,none⟩) (show B0<=w.heap.size+1 by omega) (.string f)).setCell (p:=⟨w.heap.size+1,1,none⟩) (show B0<=w.heap.size+1 by omega) (.slice An s cn)).setCell (p:=⟨w.heap.size+1,2,none⟩) (show B0<=w.heap.size+1 by omega) (.slice Ao s co)).setCell (p:=⟨w.heap.size+1,3,none⟩) (show B0<=w.heap.size+1 by omega) (.slice Ae s ce)).setCell (p:=⟨w.heap.size+1,4,none⟩) (show B0<=w.heap.size+1 by omega) (.slice At s ct)).setCell (p:=⟨w.heap.size+1+1,0,none⟩) (show B0<=w.heap.size+1+1 by omega) (.int .i64 0);have aw:=hF.seqNew hm ⟨r1,r2,r3,r4,r5,fun s hs=>⟨(r6 s hs).1,(r6 s hs).2.2.1,(r6 s hs).2.2.2.1,fun b E=>⟨((r6 s hs).2.2.2.2 b E).1,((r6 s hs).2.2.2.2 b E).2.1,((r6 s hs).2.2.2.2 b E).2.2.1⟩⟩⟩;have HF:=AB (AI au (AI av (AI am (AI aw aj))));have b5:=V.cell 5;have b6:=V.cell 6;have b7:=V.cell 7;have b8:=V.cell 8;have b9:=V.cell 9;have a0:=U.cell 0;have a1:=U.cell 1;have a2:=U.cell 2;have a3:=U.cell 3;have a4:=U.cell 4;have g0:=U.frozen 0;have g1:=U.frozen 1;have g2:=U.frozen 2;have g3:=U.frozen 3;have g4:=U.frozen 4;have u0:=(he.far (p:=⟨w.heap.size+1,0,none⟩) D.symm (.string f)).cell 0;have u1:=(he.far (p:=⟨w.heap.size+1,0,none⟩) D.symm (.string f)).frozen 0;have u2:=he.cell 0;have u3:=he.frozen 0;clear au av am aw aj hF bj r6 c L ap;go_wp2;obtain⟨au,av,am,aw,aj⟩:=HF.out;refine UR rfl rfl au av fun W' E=>⟨am.trans (E.mono (by have:=am.size;omega)),?_⟩
      rw[aj];exact⟨_,rfl,(aw.below E).mono (by omega)⟩
end
section
open Go.RowKit Go.Sort
def TJ (t:Fs) (most:Int) (w:World) (e:Ending) (w':World):Prop:=
 Below w.heap.size w w'/\∃v q k,e=.returned (.tuple #[v,.int .i64 k])/\Eb w.heap.size w' q v/\(k≠0->q=MI)/\(¬(Dq t=true/\1<=most/\most<=1024)->k=1) /\
  (Dq t=true->1<=most->most<=1024->∃u f,Trims t u f/\Dq u=true/\match IC u most.toNat with
   | .error e=>k=e
   | .ok q'=>k=0/\q=q')
theorem Kx {u:Fs} (h:Dq u=true):0<=u.n/\u.n<=1024/\u.arcs.length<=16384/\u.starts.length<=1024/\u.ends.length<=1024/\(∀x∈u.starts,0<=x.st/\x.st<u.n/\x.out.size<=1024)/\(∀x∈u.ends,0<=x.st/\x.st<u.n/\x.out.size<=1024) /\∀x∈u.arcs,0<=x.fr/\x.fr<u.n/\0<=x.to/\x.to<u.n/\x.out.size<=1024:=by
 unfold Dq Gz at h;simp only[AW,BB,CS]at h;obtain⟨⟨⟨⟨⟨h1,h2⟩,h3⟩,h4,b⟩,h5,c⟩,h6⟩:=h;refine⟨h1,h2,h3,h4,h5,fun x a=>?_,fun x a=>?_,fun x a=>?_⟩
 .have:=b x a;unfold Oa Ju at this;simp only[AW,BB]at this;exact⟨this.1.1,this.1.2,this.2⟩
 .have:=c x a;unfold Oa Ju at this;simp only[AW,BB]at this;exact⟨this.1.1,this.1.2,this.2⟩
 .have:=h6 x a;unfold PO Ju at this;simp only[AW,BB]at this;exact⟨this.1.1.1.1,this.1.1.1.2,this.1.1.2.1,this.1.1.2.2,this.2⟩
structure OfW (W4 wr:World) (G MB LA LE n:Nat) (most:Int) (vA vE:List Value) (rA:Nat->List Ar) (rE:Nat->List ByteArray):Prop where
 box:BL wr G 78 (Li (.slice (some ⟨LA,0,none⟩) n n) (.slice (some ⟨LE,0,none⟩) n n) most MB ⟨#[]⟩ (.slice none 0 0) (.slice none 0 0) (.slice none 0 0) (.slice none 0 0) (.slice none 0 0))
 num:NP wr MB []
 gA:Grp Cx 8 wr W4.heap.size LA n 30 61 vA rA
 gE:Grp Kr 1 wr W4.heap.size LE n 25 9 vE rE
 lG:W4.heap.size<=G
 lM:W4.heap.size<=MB
 bel:Below W4.heap.size W4 wr
section
variable {W4 wr w':World} {G MB LA LE n:Nat} {most:Int} {vA vE:List Value} {rA:Nat->List Ar} {rE:Nat->List ByteArray}
theorem OfW.call (h:OfW W4 wr G MB LA LE n most vA vE rA rE) (a:Below wr.heap.size wr w'):OfW W4 w' G MB LA LE n most vA vE rA rE:=⟨h.box.below a h.box.lt,h.num.below a (AD _),h.gA.call a,h.gE.call a,h.lG,h.lM,h.bel.trans (a.mono h.bel.size)⟩
theorem OfW.lA (h:OfW W4 wr G MB LA LE n most vA vE rA rE):W4.heap.size<=LA/\LA<wr.heap.size:=own_lt h.gA.own LA rfl
theorem OfW.lE (h:OfW W4 wr G MB LA LE n most vA vE rA rE):W4.heap.size<=LE/\LE<wr.heap.size:=own_lt h.gE.own LE rfl
theorem OfW.putA (h:OfW W4 wr G MB LA LE n most vA vE rA rE) (s:Nat) (f:s<n) {v':Value} (x:Ar) (a:wr.grownBy w' (vA.getD s Bf).ownBlock) (g:w'.ownsRow W4.heap.size 61 8 v' ((rA s).length+1) (B_ Cx (rA s)++Cx x)) (i:v'.ownBlock=(vA.getD s Bf).ownBlock\/v'.ownBlock=some wr.heap.size) :OfW W4 (w'.setCell ⟨LA,s,none⟩ v') G MB LA LE n most (vA.set s v') vE (fun t=>if t=s then rA s++[x]else rA t) rE:=by
 have b:=h.gA.row s f;have j:=h.gE.kept a (fun e=>BG b h.gE.own (by decide) LE e rfl) (fun t c=>(BG (h.gE.row t c) b (by decide)).or_none);have d:=h.bel.size;refine⟨(BM h.box a (AV b h.box (by decide))).far (p:=⟨LA,s,none⟩) (fun e=>AV h.gA.own h.box (by decide) (by rw[e];rfl)) _,(I3 h.num b a).setCell (fun e=>JG h.num h.gA.own (by rw[<-e];rfl)) _,h.gA.put (by decide) s f x a g i,?_,h.lG,h.lM,?_⟩
 .refine j.set (p:=⟨LA,s,none⟩) (fun e=>BG h.gA.own h.gE.own (by decide) LA rfl (by rw[show LE=LA from e.symm];rfl)) (fun t c e=>?_) _;exact BG (h.gE.row t c) h.gA.own (by decide) LA e rfl
 .exact (h.bel.grown a d (fun k l=>(own_lt b k l).1)).setCell (p:=⟨LA,s,none⟩) h.lA.1 _
theorem OfW.putE (h:OfW W4 wr G MB LA LE n most vA vE rA rE) (s:Nat) (f:s<n) {v':Value} (x:ByteArray) (a:wr.grownBy w' (vE.getD s Bf).ownBlock) (g:w'.ownsRow W4.heap.size 9 1 v' ((rE s).length+1) (B_ Kr (rE s)++Kr x)) (i:v'.ownBlock=(vE.getD s Bf).ownBlock\/v'.ownBlock=some wr.heap.size) :OfW W4 (w'.setCell ⟨LE,s,none⟩ v') G MB LA LE n most vA (vE.set s v') rA (fun t=>if t=s then rE s++[x]else rE t):=by
 have b:=h.gE.row s f;have j:=h.gA.kept a (fun e=>BG b h.gA.own (by decide) LA e rfl) (fun t c=>(BG (h.gA.row t c) b (by decide)).or_none);have d:=h.bel.size;refine⟨(BM h.box a (AV b h.box (by decide))).far (p:=⟨LE,s,none⟩) (fun e=>AV h.gE.own h.box (by decide) (by rw[e];rfl)) _,(I3 h.num b a).setCell (fun e=>JG h.num h.gE.own (by rw[<-e];rfl)) _,?_,h.gE.put (by decide) s f x a g i,h.lG,h.lM,?_⟩
 .refine j.set (p:=⟨LE,s,none⟩) (fun e=>BG h.gA.own h.gE.own (by decide) LE (by rw[show LE=LA from e];rfl) rfl) (fun t c e=>?_) _;exact BG (h.gA.row t c) h.gE.own (by decide) LE e rfl
 .exact (h.bel.grown a d (fun k l=>(own_lt b k l).1)).setCell (p:=⟨LE,s,none⟩) h.lE.1 _
theorem OfW.pA (h:OfW W4 wr G MB LA LE n most vA vE rA rE):GE (QZ wr.heap.size G MB) Cx 8 wr LA n rA:=GE.of_grp h.gA ⟨h.lA.2,fun e=>AV h.gA.own h.box (by decide) (by rw[e];rfl),fun e=>JG h.num h.gA.own (by rw[e];rfl)⟩ fun s g a e=>⟨(own_lt (h.gA.row s a) g e).2,fun b=>AV (h.gA.row s a) h.box (by decide) (by rw[<-b];exact e),fun b=>JG h.num (h.gA.row s a) (by rw[<-b];exact e)⟩
theorem OfW.pE (h:OfW W4 wr G MB LA LE n most vA vE rA rE):GE (QZ wr.heap.size G MB) Kr 1 wr LE n rE:=GE.of_grp h.gE ⟨h.lE.2,fun e=>AV h.gE.own h.box (by decide) (by rw[e];rfl),fun e=>JG h.num h.gE.own (by rw[e];rfl)⟩ fun s g a e=>⟨(own_lt (h.gE.row s a) g e).2,fun b=>AV (h.gE.row s a) h.box (by decide) (by rw[<-b];exact e),fun b=>JG h.num (h.gE.row s a) (by rw[<-b];exact e)⟩
end
theorem DR {B a:Nat} {w W:World} (h:Below B w W) (b:B<=a) (v0 c v2 v3 v4:Value):Below B w (((((W.setCell ⟨a,0,none⟩ v0).setCell ⟨a,1,none⟩ c).setCell ⟨a,2,none⟩ v2).setCell ⟨a,3,none⟩ v3).setCell ⟨a,4,none⟩ v4):=((((h.setCell (p:=⟨a,0,none⟩) b _).setCell (p:=⟨a,1,none⟩) b _).setCell (p:=⟨a,2,none⟩) b _).setCell (p:=⟨a,3,none⟩) b _).setCell (p:=⟨a,4,none⟩) b _
theorem Ec {a:Nat} {W:World} {T:TypeId} {c d e f g:Value} (h:BL W a T #[c,d,e,f,g]) (v0 b v2 v3 v4:Value):BL (((((W.setCell ⟨a,0,none⟩ v0).setCell ⟨a,1,none⟩ b).setCell ⟨a,2,none⟩ v2).setCell ⟨a,3,none⟩ v3).setCell ⟨a,4,none⟩ v4) a T #[v0,b,v2,v3,v4]:=((((h.set_ 0 v0).set_ 1 b).set_ 2 v2).set_ 3 v3).set_ 4 v4
theorem Qm {R:Ending->World->Prop} {tmps:Array Value} {g:Nat} {b c d e f k:Value} {W:World} (h4:tmps[4]?=some (.pointer (some ⟨g,0,none⟩))) (h5:tmps[5]?=some k) (a:BL W g 27 #[b,c,d,e,f]) (h:R (.returned (.tuple #[.agg #[b,c,d,e,f],k])) W):bodyPost Tryz.prog Tryz.f10 R Exit.ret ⟨tmps,[]⟩ W:=by have i:=a.cell 0;have q1:=a.cell 1;have j:=a.cell 2;have l:=a.cell 3;have m:=a.cell 4;exact AQ (v:=.tuple #[.agg #[b,c,d,e,f],k]) (by simp[results,Tryz.results10,go_sem,i,q1,j,l,m,h4,h5]) rfl h
theorem Md {w:World} {base a:Nat} {e:TypeId} {size n:Nat} {v:Value} {xs:List Value} (h:w.ownsRow base e size v n xs) (d:a<=base):w.ownsRow a e size v n xs:=by
 refine⟨h.1,?_⟩;rcases h.2 with h0|⟨g,cap,b,f,c,i,rest⟩
 .exact .inl h0
 .exact .inr ⟨g,cap,b,f,AK d c,i,rest⟩
theorem J8 {α:Type} {enc:α->List Value} {k:Nat} {w':World} {base L n:Nat} {b e:TypeId} {rows:Nat->List α} (h:w'.ownsRow base b 1 (.slice (some ⟨L,0,none⟩) n n) n (List.replicate n Bf)) (c:∀s,rows s=[]):Grp enc k w' base L n b e (List.replicate n Bf) rows:=by
 have a:∀s,(List.replicate n Bf).getD s Bf=Bf:=by intro s;rw[AC,CC];split<;>rfl
 refine⟨h,fun s _=>?_,fun s t _ _ _=>?_⟩
 .rw [a,c];exact Bc _ _ _ _
 .rw [a,a];intro g d;cases d
theorem UX (x:ByteArray):∀v∈Kr x,v.oneCell'=true:=by intro v a;simp[Kr]at a;subst a;rfl
def Kc (l:List Ar) (k s:Nat):List Ar:=(l.take k).filter fun a=>a.fr==(s:Int)
def H9 (l:List Tp) (k s:Nat):List ByteArray:=((l.take k).filter fun z=>z.st==(s:Int)).map Tp.out
theorem Vo (l:List Ar) (k:Nat) (a:k<l.length) (s:Nat):Kc l (k+1) s=if(s:Int)=(l.getD k Cq).fr then Kc l k s++[l.getD k Cq]else Kc l k s:=by
 unfold Kc;rw[Ek l Cq k a,Ck];by_cases h:(l.getD k Cq).fr=(s:Int)
 .rw [AU h.symm,CD (by simpa using h)];rfl
 .rw [AP (fun x=>h x.symm),CE (by simpa using h)];simp
theorem Qn (l:List Tp) (k:Nat) (a:k<l.length) (s:Nat):H9 l (k+1) s=if(s:Int)=(l.getD k DI).st then H9 l k s++[(l.getD k DI).out]else H9 l k s:=by
 unfold H9;rw[Ek l DI k a,Ck,CH];by_cases h:(l.getD k DI).st=(s:Int)
 .rw [AU h.symm,CD (by simpa using h)];rfl
 .rw [AP (fun x=>h x.symm),CE (by simpa using h)];simp
theorem Xr (l:List Ar) (k s:Nat):(Kc l k s).length<=l.length:=by unfold Kc;exact AK (CA _ _) (by rw[Cv];omega)
theorem SD (l:List Tp) (k s:Nat):(H9 l k s).length<=l.length:=by unfold H9;rw[A6];exact AK (CA _ _) (by rw[Cv];omega)
theorem Xs (l:List Ar):Kc l l.length=Lz l:=by funext s;unfold Kc Lz;rw[CR]
theorem SE (l:List Tp):H9 l l.length=EX l:=by funext s;unfold H9 EX;rw[CR]
end
section
open Go.RowKit Go.Sort
abbrev WH (x:Ar):Value:=.agg (Cx x).toArray
theorem Ln (x:Ar) (b:Nat) (w:World) (t:b<256) (s:x.out.size<=100000000) :Calls Tryz.prog 153 #[WH x,.int .u8 (b:Int)] w (C7 (.string (x.putB b)) w):=by
 obtain⟨a,c,⟨s1,s2,s3,d⟩,q,l⟩:=x;simp only at s;show Calls Tryz.prog 153 #[.agg #[.int .i64 a,.int .i64 c,.int .u64 (s1:Int),.int .u64 (s2:Int),.int .u64 (s3:Int),.int .u64 (d:Int),.string q,.bool l],.int .u8 (b:Int)] w _;have n:=BL.new w 61 #[.int .i64 a,.int .i64 c,.int .u64 (s1:Int),.int .u64 (s2:Int),.int .u64 (s3:Int),.int .u64 (d:Int),.string q,.bool l];have f:=(AH w.heap.size w).alloc (AD _) (.cells #[.int .i64 a,.int .i64 c,.int .u64 (s1:Int),.int .u64 (s2:Int),.int .u64 (s3:Int),.int .u64 (d:Int),.string q,.bool l] 61);have u:=n.cell 6;have y:=n.cell 7;rcases l with _|_
 .have e:(Ar.putB ⟨a,c,⟨s1,s2,s3,d⟩,q,false⟩ b)=q:=by unfold Ar.putB;simp
  have m:=AB (show C7 (.string (Ar.putB ⟨a,c,⟨s1,s2,s3,d⟩,q,false⟩ b)) w (.returned (.string q)) _ from⟨by rw[e],f⟩);clear f;go_enter Tryz.func153,Tryz.ntmps153;go_wp2;exact AQ (v:=.string q) (by simp[results,Tryz.results153,go_sem]) rfl m.out
 .have g:((b.toUInt8.toNat:Nat):Int)=(b:Int):=by simp;omega
  have e:(Ar.putB ⟨a,c,⟨s1,s2,s3,d⟩,q,true⟩ b)=q++⟨#[b.toUInt8]⟩:=by unfold Ar.putB;simp
  have i:=BL.new (w.alloc (.cells #[.int .i64 a,.int .i64 c,.int .u64 (s1:Int),.int .u64 (s2:Int),.int .u64 (s3:Int),.int .u64 (d:Int),.string q,.bool true] 61)) 5 #[.int .u8 (b:Int)];rw[Ad]at i
  have k:=Eh (P:=Tryz.prog) ((w.alloc (.cells #[.int .i64 a,.int .i64 c,.int .u64 (s1:Int),.int .u64 (s2:Int),.int .u64 (s3:Int),.int .u64 (d:Int),.string q,.bool true] 61)).alloc (.cells #[.int .u8 (b:Int)] 5)) 81 9 5 ⟨w.heap.size+1,0,none⟩ 1 [b.toUInt8] Tryz.underlying81 Tryz.underlying5 Tryz.underlying9 (fun j o=>by
   obtain rfl:j=0:=by simp at o;exact o
   show _=some (Value.int .u8 ((b.toUInt8.toNat:Nat):Int));rw[g];exact i.cell 0)
  replace k:(convert 81 9 (.slice (some ⟨w.heap.size+1,0,none⟩) 1 1)).run Tryz.prog ((w.alloc (.cells #[.int .i64 a,.int .i64 c,.int .u64 (s1:Int),.int .u64 (s2:Int),.int .u64 (s3:Int),.int .u64 (d:Int),.string q,.bool true] 61)).alloc (.cells #[.int .u8 (b:Int)] 5))=.ok (.string ⟨#[b.toUInt8]⟩) _:=k;have p:q.size+(⟨#[b.toUInt8]⟩:ByteArray).size<=9223372036854775807:=by show q.size+1<=_;omega
  have r:=f.alloc f.size (.cells #[.int .u8 (b:Int)] 5);have m:=AB (show C7 (.string (Ar.putB ⟨a,c,⟨s1,s2,s3,d⟩,q,true⟩ b)) w (.returned (.string (q++⟨#[b.toUInt8]⟩))) _ from⟨by rw[e],r⟩);clear r f e g;go_enter Tryz.func153,Tryz.ntmps153;go_wp2;exact AQ (v:=.string (q++⟨#[b.toUInt8]⟩)) (by simp[results,Tryz.results153,go_sem]) rfl m.out
theorem Q7 (x:Ar) (b:Nat) (w:World) (t:b<256) (s:x.out.size<=100000000) :Calls Tryz.prog 111 #[WH x,.int .u8 (b:Int)] w (C7 (.string (x.putB b)) w):=by
 obtain⟨a,c,⟨s1,s2,s3,d⟩,q,l⟩:=x;simp only at s;show Calls Tryz.prog 111 #[.agg #[.int .i64 a,.int .i64 c,.int .u64 (s1:Int),.int .u64 (s2:Int),.int .u64 (s3:Int),.int .u64 (d:Int),.string q,.bool l],.int .u8 (b:Int)] w _;have n:=BL.new w 61 #[.int .i64 a,.int .i64 c,.int .u64 (s1:Int),.int .u64 (s2:Int),.int .u64 (s3:Int),.int .u64 (d:Int),.string q,.bool l];have f:=(AH w.heap.size w).alloc (AD _) (.cells #[.int .i64 a,.int .i64 c,.int .u64 (s1:Int),.int .u64 (s2:Int),.int .u64 (s3:Int),.int .u64 (d:Int),.string q,.bool l] 61);have u:=n.cell 6;have y:=n.cell 7;rcases l with _|_
 .have e:(Ar.putB ⟨a,c,⟨s1,s2,s3,d⟩,q,false⟩ b)=q:=by unfold Ar.putB;simp
  have m:=AB (show C7 (.string (Ar.putB ⟨a,c,⟨s1,s2,s3,d⟩,q,false⟩ b)) w (.returned (.string q)) _ from⟨by rw[e],f⟩);clear f;go_enter Tryz.func111,Tryz.ntmps111;go_wp2;exact AQ (v:=.string q) (by simp[results,Tryz.results111,go_sem]) rfl m.out
 .have g:((b.toUInt8.toNat:Nat):Int)=(b:Int):=by simp;omega
  have e:(Ar.putB ⟨a,c,⟨s1,s2,s3,d⟩,q,true⟩ b)=q++⟨#[b.toUInt8]⟩:=by unfold Ar.putB;simp
  have i:=BL.new (w.alloc (.cells #[.int .i64 a,.int .i64 c,.int .u64 (s1:Int),.int .u64 (s2:Int),.int .u64 (s3:Int),.int .u64 (d:Int),.string q,.bool true] 61)) 5 #[.int .u8 (b:Int)];rw[Ad]at i
  have k:=Eh (P:=Tryz.prog) ((w.alloc (.cells #[.int .i64 a,.int .i64 c,.int .u64 (s1:Int),.int .u64 (s2:Int),.int .u64 (s3:Int),.int .u64 (d:Int),.string q,.bool true] 61)).alloc (.cells #[.int .u8 (b:Int)] 5)) 81 9 5 ⟨w.heap.size+1,0,none⟩ 1 [b.toUInt8] Tryz.underlying81 Tryz.underlying5 Tryz.underlying9 (fun j o=>by
   obtain rfl:j=0:=by simp at o;exact o
   show _=some (Value.int .u8 ((b.toUInt8.toNat:Nat):Int));rw[g];exact i.cell 0)
  replace k:(convert 81 9 (.slice (some ⟨w.heap.size+1,0,none⟩) 1 1)).run Tryz.prog ((w.alloc (.cells #[.int .i64 a,.int .i64 c,.int .u64 (s1:Int),.int .u64 (s2:Int),.int .u64 (s3:Int),.int .u64 (d:Int),.string q,.bool true] 61)).alloc (.cells #[.int .u8 (b:Int)] 5))=.ok (.string ⟨#[b.toUInt8]⟩) _:=k;have p:q.size+(⟨#[b.toUInt8]⟩:ByteArray).size<=9223372036854775807:=by show q.size+1<=_;omega
  have r:=f.alloc f.size (.cells #[.int .u8 (b:Int)] 5);have m:=AB (show C7 (.string (Ar.putB ⟨a,c,⟨s1,s2,s3,d⟩,q,true⟩ b)) w (.returned (.string (q++⟨#[b.toUInt8]⟩))) _ from⟨by rw[e],r⟩);clear r f e g;go_enter Tryz.func111,Tryz.ntmps111;go_wp2;exact AQ (v:=.string (q++⟨#[b.toUInt8]⟩)) (by simp[results,Tryz.results111,go_sem]) rfl m.out
end
end Go.Proofs.YtcondkihpmmnnaaGreatDoor
