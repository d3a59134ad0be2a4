/- Lemmas, part 11 of 50. No condition. -/
import Derived.Lib.TrailingZeros
import Derived.Laws.Bits64b
import Derived.Test.YtcondkihpmmnnaaGreatDoorRows
import Derived.ProofKit
import Derived.SizedLaws
import Derived.ShutString
import Derived.SliceStrings
import Derived.Laws.IdiomArrays
import Derived.OpenShut
import Derived.Test.YtcondkihpmmnnaaGreatDoorTwin10
import Derived.Great.BuildSlice
set_option maxRecDepth 100000
set_option maxHeartbeats 16000000
namespace Go.Proofs.YtcondkihpmmnnaaGreatDoor
section
theorem N8 {α:Type} (p q:α->Bool) (h:∀a,p a=true->q a=false):∀l:List α,(l.filter p).length+(l.filter q).length=(l.filter fun a=>p a || q a).length
 | []=>rfl
 | a::l=>by
  have d:=N8 p q h l;rcases b:p a with _|_
  .rcases c:q a with _|_
   .simp [b,c,d]
   .simp [b,c];omega
  .have c:=h a b;simp[b,c];omega
theorem O8 (c:List Ar) (b:Nat):∀l:List Tp,(l.map Tp.st).Nodup->(Db c l b).length=(c.filter fun a=>l.any (fun x=>a.fr==x.st) && a.set.m b).length
 | [],_=>by rw[List.filter_eq_nil_iff.2 (fun a _=>by simp)];rfl
 | x::l,hd=>by
  rw[DO,Dy]at hd;have g:=O8 c b l hd.2;have e:Db c (x::l) b=((c.filter fun a=>a.fr==x.st && a.set.m b).map fun a=>(⟨a.to,x.out++a.putB b⟩:Tp))++Db c l b:=rfl;rw[e,AJ,A6,g,N8]
  .congr 2;funext a;rw[List.any_cons,Bool.and_or_distrib_right]
  .intro a d;rw[AW,DF]at d;rw[Bool.and_eq_false_iff];left;rw[List.any_eq_false];intro y i f;rw[DF]at f;exact hd.1 (Bd.2 ⟨y,i,by rw[<-f,d.1]⟩)
theorem RP (a:List Ar) (b:Nat) (l:List Tp) (c:(l.map Tp.st).Nodup):(Db a l b).length<=a.length:=by rw[O8 a b l c];exact CA _ _
end
section
def Sl (a b:ByteArray):ByteArray:=a.extract 0 (E6 a.data.toList b.data.toList)
theorem Rg:∀a b:List UInt8,a.take (E6 a b)=b.take (E6 a b)
 | [],b=>by simp[E6]
 | _::_,[]=>by simp[E6]
 | x::a,y::b=>by
  unfold E6;split
  .rename_i h;subst h;simp[Rg a b]
  .simp
theorem P_:∀(m a b:List UInt8),m <+: a->m <+: b->m.length<=E6 a b
 | [],_,_,_,_=>AN _
 | x::m,a,b,⟨u,hu⟩,⟨v,hv⟩=>by subst hu hv;show _<=E6 (x::(m++u)) (x::(m++v));unfold E6;rw[AU rfl];have:=P_ m (m++u) (m++v) ⟨u,rfl⟩ ⟨v,rfl⟩;simp;omega
theorem Sm (a:ByteArray) (k:Nat):bl (a.extract 0 k)=(bl a).take k:=by unfold bl;simp[ByteArray.extract,ByteArray.copySlice]
theorem Rh (a b:ByteArray):bl (Sl a b) <+: bl a:=by unfold Sl;rw[Sm];exact List.take_prefix _ _
theorem VL (a b:ByteArray):bl (Sl a b) <+: bl b:=by unfold Sl;rw[Sm];show(bl a).take (E6 (bl a) (bl b)) <+: bl b;rw[Rg];exact List.take_prefix _ _
theorem VM {m:List UInt8} {a b:ByteArray} (h1:m <+: bl a) (h2:m <+: bl b):m <+: bl (Sl a b):=by unfold Sl;rw[Sm];have:=P_ m _ _ h1 h2;exact List.prefix_take_iff.2 ⟨h1,this⟩
theorem Tr (s:ByteArray):∀l:List ByteArray,(∀m,m <+: bl (Jp s l)↔m <+: bl s/\∀x∈l,m <+: bl x):=by
 intro l
 induction l generalizing s with
 | nil=>intro m;simp[Jp]
 | cons y l ih=>
  intro m;have e:Jp s (y::l)=Jp (Sl s y) l:=rfl;rw[e,ih];constructor
  .rintro ⟨h1,h2⟩
   refine⟨h1.trans (Rh _ _),fun x a=>?_⟩;rcases Bh.1 a with rfl|a
   .exact h1.trans (VL _ _)
   .exact h2 x a
  .rintro ⟨h1,h2⟩;exact⟨VM h1 (h2 y BR),fun x a=>h2 x (CB _ a)⟩
theorem IT {l:List ByteArray} (h:l≠[]) (m:List UInt8):m <+: bl (EZ l)↔∀x∈l,m <+: bl x:=by
 cases l with
 | nil=>exact absurd rfl h
 | cons s l=>show m <+: bl (Jp s l)↔_;rw[Tr];simp
theorem XL (l:List ByteArray) (x:ByteArray):EZ (l++[x])=if l=[]then x else Sl (EZ l) x:=by
 cases l with
 | nil=>simp[EZ,Jp]
 | cons s l=>simp only[Cf,EZ,Rb];rfl
structure Frt where
 l:Nat->ByteArray
 some:Nat->Bool
def KQ (q:SeqM) (k:Frt) (s b:Nat):List ByteArray:=if q.nx s b<0\/k.some (q.nx s b).toNat=false then[]else[q.os s b++k.l (q.nx s b).toNat]
def QA (q:SeqM) (s:Nat):List ByteArray:=if q.en s=true then[q.tl s]else[]
def IU (q:SeqM) (k:Frt) (s n:Nat):List ByteArray:=QA q s++(List.range n).flatMap (KQ q k s)
def FZ (q:SeqM) (k:Frt) (s:Nat):List ByteArray:=IU q k s 256
theorem VN (q:SeqM) (k:Frt) (s n:Nat):IU q k s (n+1)=IU q k s n++KQ q k s n:=by unfold IU;rw[Dj,DE,Ac];simp
theorem JL {q:SeqM} {k:Frt} {s:Nat} {x:ByteArray}:x∈FZ q k s↔(q.en s=true/\x=q.tl s)\/∃b,b<256/\0<=q.nx s b/\k.some (q.nx s b).toNat=true/\x=q.os s b++k.l (q.nx s b).toNat:=by
 unfold FZ IU;rw[Bj,Bz];apply or_congr
 .unfold QA;split<;>simp_all
 .constructor
  .rintro ⟨b,c,a⟩
   unfold KQ at a;split at a
   .cases a
   .rename_i h;rw[AM]at a;rw[not_or]at h;exact⟨b,BE.1 c,by omega,by simpa using h.2,a⟩
  .rintro ⟨b,c,h1,h2,rfl⟩;refine⟨b,BE.2 c,?_⟩;unfold KQ;rw[AP (by rw[not_or];exact⟨by omega,by simp[h2]⟩)];exact AM.2 rfl
def QB (q:SeqM) (s:Nat) (o:List UInt8):Prop:=∃w,q.runL s w=Option.some o
def Beg (q:SeqM) (s:Nat) (m:List UInt8):Prop:=∀o,QB q s o->m <+: o
theorem QC {q:SeqM} {s:Nat} (h:q.en s=true):QB q s (bl (q.tl s)):=⟨[],by unfold SeqM.runL;rw[AU h]⟩
theorem I0 {q:SeqM} {s b:Nat} (d:b<256) (h:0<=q.nx s b) {o:List UInt8} (a:QB q (q.nx s b).toNat o):QB q s (bl (q.os s b)++o):=by
 obtain⟨w,c⟩:=a;refine⟨UInt8.ofNat b::w,?_⟩;have e:(UInt8.ofNat b).toNat=b:=by simp;omega
 unfold SeqM.runL;rw[e,AP (by omega),c];rfl
structure FrOk (q:SeqM) (n:Nat) (k:Frt):Prop where
 live:∀s,k.some s=true->s<n/\∃o,QB q s o
 up:∀s,k.some s=true->∀m,Beg q s m->m <+: bl (k.l s)
 down:∀s,k.some s=true->FZ q k s≠[]/\bl (EZ (FZ q k s)) <+: bl (k.l s)
 none:∀s,k.some s=false->k.l s=ByteArray.empty
def Frt.put (k:Frt) (s:Nat) (f:ByteArray):Frt:=⟨fun t=>if t=s then f else k.l t,fun t=>if t=s then true else k.some t⟩
theorem Yx {q:SeqM} {n:Nat} {k:Frt} (h:FrOk q n k) {s:Nat} {m:List UInt8} (a:Beg q s m):∀x∈FZ q k s,m <+: bl x:=by
 intro x i;rcases JL.1 i with⟨j,rfl⟩|⟨b,c,h0,f,rfl⟩
 .exact a _ (QC j)
 .obtain ⟨_,o,g⟩:=h.live _ f
  rw[DW];rcases Nat.le_total m.length (bl (q.os s b)).length with d|d
  .exact (Ci (a _ (I0 c h0 g)) (Cj _ _) d).trans (Cj _ _)
  .have l:bl (q.os s b) <+: m:=Ci (Cj _ o) (a _ (I0 c h0 g)) d;obtain⟨m',rfl⟩:=l;rw[C_];exact h.up _ f m' fun p e=>(C_ _).1 (a _ (I0 c h0 e))
theorem Ri {l m:List ByteArray} (a:l≠[]) (h:∀x∈l,∃y∈m,bl y <+: bl x) (b:m≠[]):bl (EZ m) <+: bl (EZ l):=by rw[IT a];intro x c;obtain⟨y,d,e⟩:=h x c;exact((IT b _).1 (CW _) y d).trans e
theorem Nz {q:SeqM} {k:Frt} {s:Nat} {f:ByteArray} (c:k.some s=true->bl f <+: bl (k.l s)) (t:Nat):∀x∈FZ q k t,∃y∈FZ q (k.put s f) t,bl y <+: bl x:=by
 intro x d;rcases JL.1 d with⟨g,rfl⟩|⟨b,i,h0,a,rfl⟩
 .exact ⟨_,JL.2 (.inl ⟨g,rfl⟩),CW _⟩
 .refine ⟨_,JL.2 (.inr ⟨b,i,h0,?_,rfl⟩),?_⟩
  .unfold Frt.put;simp only;split<;>simp[a]
  .rw [DW,DW,C_]
   unfold Frt.put;simp only;split
   .rename_i e;rw[e]at a;rw[e];exact c a
   .exact CW _
theorem FrOk.put {q:SeqM} {n:Nat} {k:Frt} (h:FrOk q n k) {s:Nat} (v:s<n) (f:FZ q k s≠[]):FrOk q n (k.put s (EZ (FZ q k s))):=by
 have g:k.some s=true->bl (EZ (FZ q k s)) <+: bl (k.l s):=fun e=>(h.down s e).2
 have c:∀t,FZ q k t≠[]->FZ q (k.put s (EZ (FZ q k s))) t≠[]:=fun t a e=>by obtain⟨x,i⟩:=De _ a;obtain⟨y,r,_⟩:=Nz g t x i;rw[e]at r;cases r
 have d:∃o,QB q s o:=by
  obtain⟨x,i⟩:=De _ f;rcases JL.1 i with⟨w,_⟩|⟨b,z,h0,j,_⟩
  .exact ⟨_,QC w⟩
  .obtain ⟨_,o,A⟩:=h.live _ j;exact⟨_,I0 z h0 A⟩
 refine⟨fun t a=>?_,fun t a m u=>?_,fun t a=>?_,fun t a=>?_⟩
 .unfold Frt.put at a
  simp only at a;split at a
  .rename_i e;subst e;exact⟨v,d⟩
  .exact h.live t a
 .unfold Frt.put at a ⊢
  simp only at a ⊢;split at a
  .rename_i e;subst e;rw[AU rfl,IT f];exact Yx h u
  .rename_i e;rw[AP e];exact h.up t a m u
 .by_cases e:t=s
  .subst e
   refine⟨c t f,?_⟩;have:(k.put t (EZ (FZ q k t))).l t=EZ (FZ q k t):=by unfold Frt.put;simp
   rw[this];exact Ri f (Nz g t) (c t f)
  .have p:k.some t=true:=by unfold Frt.put at a;simpa[e]using a
   have:(k.put s (EZ (FZ q k s))).l t=k.l t:=by unfold Frt.put;simp[e]
   rw[this];obtain⟨h1,h2⟩:=h.down t p;exact⟨c t h1,(Ri h1 (Nz g t) (c t h1)).trans h2⟩
 .unfold Frt.put at a ⊢
  simp only at a ⊢;split at a
  .cases a
  .rename_i e;rw[AP e];exact h.none t a
theorem FrOk.start (q:SeqM) (n:Nat):FrOk q n ⟨fun _=>ByteArray.empty,fun _=>false⟩:=⟨fun _ h=>(by cases h),fun _ h=>(by cases h),fun _ h=>(by cases h),fun _ _=>rfl⟩
theorem FrOk.full {q:SeqM} {n:Nat} {k:Frt} (i:∀s b,s<n->b<256->q.nx s b<(n:Int)) (_h:FrOk q n k) (g:∀s,s<n->(FZ q k s≠[]->k.some s=true)/\(k.some s=true->bl (k.l s)=bl (EZ (FZ q k s)))) :∀(w:List UInt8) (s:Nat) (o:List UInt8),s<n->q.runL s w=Option.some o->k.some s=true/\bl (k.l s) <+: o:=by
 intro w
 induction w with
 | nil=>
  intro s o e a;unfold SeqM.runL at a;split at a
  .rename_i j
   injection a with a
   subst a;have d:q.tl s∈FZ q k s:=JL.2 (.inl ⟨j,rfl⟩);have f:=(g s e).1 (Cu d);refine⟨f,?_⟩;rw[(g s e).2 f];exact(IT (Cu d) _).1 (CW _) _ d
  .cases a
 | cons c w ih=>
  intro s o e a;unfold SeqM.runL at a;split at a
  .cases a
  .rename_i h0;rw[CU]at a;obtain⟨m,h1,h2⟩:=a;have t:=i s c.toNat e c.toNat_lt;obtain⟨p,r⟩:=ih _ m (by omega) h1;have d:q.os s c.toNat++k.l (q.nx s c.toNat).toNat∈FZ q k s:=JL.2 (.inr ⟨_,c.toNat_lt,by omega,p,rfl⟩);have f:=(g s e).1 (Cu d);refine⟨f,?_⟩;rw[(g s e).2 f];refine((IT (Cu d) _).1 (CW _) _ d).trans ?_;rw[DW,<-h2];exact(C_ _).2 r
structure Fronts (q:SeqM) (k:Frt):Prop where
 live:∀s,s<q.next.length->(k.some s=true↔∃o,QB q s o)
 beg:∀s,s<q.next.length->k.some s=true->Beg q s (bl (k.l s))
 most:∀s,s<q.next.length->k.some s=true->∀m,Beg q s m->m <+: bl (k.l s)
theorem FrOk.fronts {q:SeqM} {k:Frt} (d:∀s b,s<q.next.length->b<256->q.nx s b<(q.next.length:Int)) (h:FrOk q q.next.length k) (f:∀s,s<q.next.length->(FZ q k s≠[]->k.some s=true)/\(k.some s=true->bl (k.l s)=bl (EZ (FZ q k s)))):Fronts q k:=⟨fun s a=>⟨fun e=>(h.live s e).2,fun⟨o,w,c⟩=>(h.full d f w s o a c).1⟩,fun s a _ o ⟨w,c⟩=>(h.full d f w s o a c).2,fun s _ e=>h.up s e⟩
end
section
structure Pushes (q:SeqM) (k:Frt) (r:SeqM) (us:List Nat):Prop where
 n:r.next.length=us.length
 first:us[0]?=some 0
 front:r.front=q.front++k.l 0
 state:∀(i s:Nat),us[i]?=some s->s<q.next.length/\k.some s=true/\r.en i=q.en s/\(q.en s=true->bl (q.tl s)=bl (k.l s)++bl (r.tl i)) /\
  ∀b,b<256->((q.nx s b<0\/k.some (q.nx s b).toNat=false)/\r.nx i b<0) \/(0<=q.nx s b/\∃j:Nat,us[j]?=some (q.nx s b).toNat/\r.nx i b=(j:Int)/\bl (q.os s b)++bl (k.l (q.nx s b).toNat)=bl (k.l s)++bl (r.os i b))
theorem Pushes.runL {q r:SeqM} {k:Frt} {a:List Nat} (h:Pushes q k r a) (d:Fronts q k) (f:∀s b,s<q.next.length->b<256->q.nx s b<(q.next.length:Int)) :∀(w:List UInt8) (i s:Nat),a[i]?=some s->q.runL s w=(r.runL i w).map (bl (k.l s)++·):=by
 intro w
 induction w with
 | nil=>
  intro i s hi;obtain⟨_,_,g,m,_⟩:=h.state i s hi;unfold SeqM.runL;rw[g];by_cases e:q.en s=true
  .rw [AU e,AU e];show some (bl (q.tl s))=some (bl (k.l s)++bl (r.tl i));rw[m e]
  .rw [AP e,AP e];rfl
 | cons c w ih=>
  intro i s hi;obtain⟨n,_,_,_,p⟩:=h.state i s hi;have v:=f s c.toNat n c.toNat_lt;unfold SeqM.runL;rcases p c.toNat c.toNat_lt with⟨h1,h2⟩|⟨h1,j,h2,h3,h4⟩
  .rw [AU h2]
   by_cases h0:q.nx s c.toNat<0
   .rw [AU h0];rfl
   .rw [AP h0]
    have t:=h1.resolve_left h0
    have:q.runL (q.nx s c.toNat).toNat w=none:=by
     rcases u:q.runL (q.nx s c.toNat).toNat w with _|o
     .rfl
     .have:=(d.live (q.nx s c.toNat).toNat (by omega)).2 ⟨o,w,u⟩;rw[t]at this;cases this
    rw[this];rfl
  .rw [AP (by omega),AP (by omega),h3,BO,ih j _ h2,Option.map_map,Option.map_map];congr 1;funext o;show bl (q.os s c.toNat)++(bl (k.l (q.nx s c.toNat).toNat)++o)=bl (k.l s)++(bl (r.os i c.toNat)++o);rw[<-Ac,h4,Ac]
structure Tight (r:SeqM):Prop where
 live:∀i,i<r.next.length->∃o,QB r i o
 none:∀i,i<r.next.length->∀m,Beg r i m->m=[]
 nx:∀i b,i<r.next.length->b<256->r.nx i b<(r.next.length:Int)
theorem Pushes.tight {q r:SeqM} {k:Frt} {d:List Nat} (h:Pushes q k r d) (f:Fronts q k) (v:∀s b,s<q.next.length->b<256->q.nx s b<(q.next.length:Int)):Tight r:=by
 have g:∀i,i<r.next.length->∃s,d[i]?=some s:=fun i hi=>⟨d[i]'(by rw[<-h.n];exact hi),AG _⟩
 refine⟨fun i hi=>?_,fun i hi m x=>?_,fun i b hi y=>?_⟩
 .obtain ⟨s,a⟩:=g i hi;obtain⟨c,p,_⟩:=h.state i s a;obtain⟨o,w,e⟩:=(f.live s c).1 p;rw[h.runL f v w i s a,CU]at e;obtain⟨t,h1,_⟩:=e;exact⟨t,w,h1⟩
 .obtain ⟨s,a⟩:=g i hi
  obtain⟨c,p,_⟩:=h.state i s a
  have:bl (k.l s)++m <+: bl (k.l s):=by
   refine f.most s c p _ fun o ⟨w,e⟩=>?_
   rw[h.runL f v w i s a,CU]at e;obtain⟨t,h1,rfl⟩:=e;exact(C_ _).2 (x t ⟨w,h1⟩)
  have:=this.length_le;rw[AJ]at this;exact BD (by omega)
 .obtain ⟨s,a⟩:=g i hi
  obtain⟨_,_,_,_,u⟩:=h.state i s a;rcases u b y with⟨_,h2⟩|⟨_,j,h2,h3,_⟩
  .omega
  .rw [h3,h.n]
   have:j<d.length:=by
    rcases BF j d.length with h|h
    .exact h
    .rw [AY h]at h2;cases h2
   omega
theorem Pushes.run {q r:SeqM} {k:Frt} {a:List Nat} (h:Pushes q k r a) (c:Fronts q k) (d:∀s b,s<q.next.length->b<256->q.nx s b<(q.next.length:Int)) (w:List UInt8):r.run w=q.run w:=by
 have h0:=h.state 0 0 h.first
 have f:0<a.length:=by
  rcases B7 a.length with e|e
  .have:=h.first;rw[AY (by omega)]at this;cases this
  .exact e
 unfold SeqM.run;rw[AP (by rw[h.n];omega),AP (by omega),h.runL c d w 0 0 h.first,Option.map_map,h.front];congr 1;funext o;show bl (q.front++k.l 0)++o=bl q.front++(bl (k.l 0)++o);rw[DW,Ac]
def QD (r:SeqM) (i j:Nat):Prop:=∀w,r.runL i w=r.runL j w
theorem Js {r t:SeqM} (s:Tight r) (k:Tight t) {i j:Nat} (hi:i<r.next.length) (I:j<t.next.length) (h:∀w,r.runL i w=t.runL j w) :r.en i=t.en j/\(r.en i=true->r.tl i=t.tl j)/\∀b,b<256->(r.nx i b<0↔t.nx j b<0)/\(0<=r.nx i b->r.os i b=t.os j b/\∀w,r.runL (r.nx i b).toNat w=t.runL (t.nx j b).toNat w):=by
 have h0:=h [];unfold SeqM.runL at h0;have G:r.en i=t.en j:=by rcases v:r.en i with _|_<;>rcases z:t.en j with _|_<;>rw[v,z]at h0<;>first|rfl|cases h0
 refine⟨G,fun e=>?_,fun b H=>?_⟩
 .rw [AU e,AU (G▸e)]at h0
  injection h0 with h0
  exact D_ h0
 .have J:(UInt8.ofNat b).toNat=b:=by simp;omega
  have l:∀w,(if r.nx i b<0 then none else(r.runL (r.nx i b).toNat w).map (bl (r.os i b)++·))=(if t.nx j b<0 then none else(t.runL (t.nx j b).toNat w).map (bl (t.os j b)++·)):=fun w=>by have:=h (UInt8.ofNat b::w);unfold SeqM.runL at this;rw[J]at this;exact this
  have K:=s.nx i b hi H;have L:=k.nx j b I H
  have d:r.nx i b<0↔t.nx j b<0:=by
   constructor
   .intro e;apply DC;intro A;obtain⟨o,w,n⟩:=k.live (t.nx j b).toNat (by omega);have:=l w;rw[AU e,AP A,n]at this;cases this
   .intro e;apply DC;intro A;obtain⟨o,w,n⟩:=s.live (r.nx i b).toNat (by omega);have:=l w;rw[AP A,AU e,n]at this;cases this
  refine⟨d,fun h0=>?_⟩;have p:¬r.nx i b<0:=by omega
  have B:¬t.nx j b<0:=fun e=>p (d.2 e)
  have g:∀w,(r.runL (r.nx i b).toNat w).map (bl (r.os i b)++·)=(t.runL (t.nx j b).toNat w).map (bl (t.os j b)++·):=fun w=>by have:=l w;rwa [AP p,AP B]at this
  obtain⟨M,N,C⟩:=s.live (r.nx i b).toNat (by omega)
  have f:r.os i b=t.os j b:=by
   have key:∀(r t:SeqM) (D u:Nat) (a c:List UInt8),Tight t->u<t.next.length->(∀w,(r.runL D w).map (a++·)=(t.runL u w).map (c++·))->(∃o,QB r D o)->c.length<=a.length->a=c:=by
    intro r t D u a c k E l ⟨o,w,n⟩ q;have h1:=l w;rw[n,DA]at h1;obtain⟨O,h2,h3⟩:=CU.1 h1.symm;have P:c <+: a:=Ci (h3▸Cj c O) (Cj a o) q;obtain⟨m,rfl⟩:=P
    have:m=[]:=by
     refine k.none u E m fun S ⟨Q,F⟩=>?_
     have h4:=l Q;rw[F,DA]at h4;obtain⟨R,h5,h6⟩:=CU.1 h4;simp only[Ac]at h6;exact⟨R,Da h6⟩
    rw[this,BC]
   rcases Nat.le_total (bl (t.os j b)).length (bl (r.os i b)).length with q|q
   .exact D_ (key r t _ _ _ _ k (by omega) g ⟨M,N,C⟩ q)
   .exact (D_ (key t r _ _ _ _ s (by omega) (fun w=>(g w).symm) (k.live _ (by omega)) q)).symm
  refine⟨f,fun w=>?_⟩;have:=g w;rw[f]at this;rcases v:r.runL (r.nx i b).toNat w with _|x<;>rcases z:t.runL (t.nx j b).toNat w with _|y<;>rw[v,z]at this
  .cases this
  .cases this
  .simp only[DA,Dp]at this;rw[Da this]
structure Canon (m:SeqM):Prop where
 tight:Tight m
 pos:0<m.next.length
 lens:m.outs.length=m.next.length/\m.ends.length=m.next.length/\m.tail.length=m.next.length
 row:∀i,i<m.next.length->(m.next.getD i []).length=256/\(m.outs.getD i []).length=256
 no:∀i b,i<m.next.length->b<256->m.nx i b<0->m.nx i b=-1/\m.os i b=ByteArray.empty
 open_:∀i,i<m.next.length->m.en i=false->m.tl i=ByteArray.empty
 diff:∀i j,i<m.next.length->j<m.next.length->QD m i j->i=j
 order:∀i,0<i->i<m.next.length->∃j b,j<i/\b<256/\m.nx j b=(i:Int)/\∀j' b',b'<256->(j'<j\/j'=j/\b'<b)->m.nx j' b'<(i:Int)
end
section
def GV:Nat->Nat->Nat
 | 0,_=>0
 | n+1,x=>x%2+GV n (x / 2)
def NS (g:Nat->Bool):Nat->Nat
 | 0=>0
 | n+1=>NS g n+(g n).toNat
theorem TS {g h:Nat->Bool}:∀n,(∀k,k<n->g k=h k)->NS g n=NS h n
 | 0,_=>rfl
 | n+1,e=>by rw[NS,NS,TS n (fun k a=>e k (by omega)),e n (by omega)]
theorem SN (g:Nat->Bool):∀n,NS g (n+1)=(g 0).toNat+NS (fun k=>g (k+1)) n
 | 0=>by simp[NS]
 | n+1=>by rw[NS,SN g n,NS];omega
theorem Wz (g:Nat->Bool) (a:Nat):∀b,NS g (a+b)=NS g a+NS (fun k=>g (a+k)) b
 | 0=>by simp[NS]
 | b+1=>by rw[<-Dx,NS,Wz g a b,NS];omega
theorem Z1 (g:Nat->Bool):∀n,NS g n<=n
 | 0=>AD _
 | n+1=>by have:=Z1 g n;rw[NS];cases g n<;>simp<;>omega
theorem SO:∀n x,GV n x=NS (fun k=>x.testBit k) n
 | 0,_=>rfl
 | n+1,x=>by
  rw[GV,SO n,SN];congr 1
  .rw [Nat.testBit_zero]
   have:x%2<2:=Cz _ (by decide);rcases BF (x%2) 1 with h|h
   .have e:x%2=0:=by omega
    simp[e]
   .have e:x%2=1:=by omega
    simp[e]
  .apply TS;intro k _;rw[Nat.testBit_succ]
theorem V7 (m:Nat->Bool) (i:Nat):GV 64 (word m i)=NS (fun k=>m (64*i+k)) 64:=by rw[SO];apply TS;intro k a;rw[Cm];simp[a]
theorem G_ (n q r:Nat) (a:r<256):GV (n+8) (256*q+r)=GV n q+GV 8 r:=by
 simp only[GV];have e:(256*q+r) / 2 / 2 / 2 / 2 / 2 / 2 / 2 / 2=q:=by omega
 rw[e];omega
theorem OE (q r M m:Nat) (b:r<256) (c:m<256):(256*q+r) &&& (256*M+m)=256*(q &&& M)+(r &&& m):=by
 have a:r &&& m<256:=Du Nat.and_le_left b;apply Dd;intro k;rw[FJ,show(256:Nat)=2^8 by decide,Gu q b,Gu M c,Gu _ a];split
 .rw [FJ]
 .rw [FJ]
def OF (m:Nat):Nat->Nat
 | 0=>0
 | n+1=>256*OF m n+m
def ME (n x:Nat):Nat:=(x / 2 &&& OF 85 n)+(x &&& OF 85 n)
def NI (n x:Nat):Nat:=(x / 4 &&& OF 51 n)+(x &&& OF 51 n)
def Po (n x:Nat):Nat:=(x / 16+x) &&& OF 15 n
def s1 (r:Nat):Nat:=(r / 2 &&& 85)+(r &&& 85)
def s2 (r:Nat):Nat:=(r / 4 &&& 51)+(r &&& 51)
def s3 (r:Nat):Nat:=(r / 16+r) &&& 15
theorem fact1:∀e,e<2->∀r,r<256->(128*e+r / 2) &&& 85=(r / 2) &&& 85:=by decide +kernel
theorem fact2:∀e,e<4->∀r,r<256->(64*e+r / 4) &&& 51=(r / 4) &&& 51:=by decide +kernel
theorem Z2:∀r,r<256->s2 (s1 r) / 16<=4/\s2 (s1 r)%16<=4/\s1 r<256/\s2 (s1 r)<256/\s3 (s2 (s1 r))=GV 8 r:=by decide +kernel
theorem fact4:∀e,e<5->∀r,r<69->r%16<=4->(16*e+(r / 16+r)) &&& 15=(r / 16+r) &&& 15:=by decide +kernel
theorem Z3 (n q r:Nat) (a:r<256):ME (n+1) (256*q+r)=256*ME n q+s1 r:=by unfold ME s1;rw[OF,show(256*q+r) / 2=256*(q / 2)+(128*(q%2)+r / 2)by omega,OE _ _ _ _ (by omega) (by decide),OE _ _ _ _ a (by decide),fact1 _ (Cz _ (by decide)) r a];omega
theorem Z4 (n q r:Nat) (a:r<256):NI (n+1) (256*q+r)=256*NI n q+s2 r:=by unfold NI s2;rw[OF,show(256*q+r) / 4=256*(q / 4)+(64*(q%4)+r / 4)by omega,OE _ _ _ _ (by omega) (by decide),OE _ _ _ _ a (by decide),fact2 _ (Cz _ (by decide)) r a];omega
theorem SQ (n q r:Nat) (a:r<256):NI (n+1) (ME (n+1) (256*q+r))=256*NI n (ME n q)+s2 (s1 r):=by rw[Z3 n q r a,Z4 _ _ _ (Z2 r a).2.2.1]
theorem YI (x:Nat):NI 0 (ME 0 x)=0:=by simp[NI,OF]
theorem Z5:∀n x,NI n (ME n x)%16<=4
 | 0,x=>by rw[YI];decide
 | n+1,x=>by have a:x%256<256:=Cz _ (by decide);have h:=SQ n (x / 256) (x%256) a;rw[Ft]at h;rw[h];have:=(Z2 _ a).2.1;omega
theorem Kf (n q r:Nat) (a:r<256):Po (n+1) (NI (n+1) (ME (n+1) (256*q+r)))=256*Po n (NI n (ME n q))+GV 8 r:=by obtain⟨f1,f2,_,f4,f5⟩:=Z2 r a;rw[SQ n q r a,<-f5];have b:=Z5 n q;generalize NI n (ME n q)=Q at *;generalize s2 (s1 r)=t at *;unfold Po s3;rw[OF,show(256*Q+t) / 16+(256*Q+t)=256*(Q / 16+Q)+(16*(Q%16)+(t / 16+t))by omega,OE _ _ _ _ (by omega) (by decide),fact4 _ (by omega) t (by omega) f2]
theorem Z6 (a b c d e f g i:Nat) (h0:a<256) (h1:b<256) (h2:c<256) (h3:d<256) (h4:e<256) (h5:f<256) (h6:g<256) (h7:i<256) :Po 8 (NI 8 (ME 8 (256*(256*(256*(256*(256*(256*(256*(256*0+i)+g)+f)+e)+d)+c)+b)+a))) =256*(256*(256*(256*(256*(256*(256*(256*0+GV 8 i)+GV 8 g)+GV 8 f)+GV 8 e)+GV 8 d)+GV 8 c)+GV 8 b)+GV 8 a:=by rw[Kf 7 _ _ h0,Kf 6 _ _ h1,Kf 5 _ _ h2,Kf 4 _ _ h3,Kf 3 _ _ h4,Kf 2 _ _ h5,Kf 1 _ _ h6,Kf 0 _ _ h7];simp[Po,OF]
theorem Ha:∀n x,GV n x<=n
 | 0,_=>AD _
 | n+1,x=>by have:=Ha n (x / 2);have:x%2<2:=Cz _ (by decide);rw[GV];omega
def OG (c:Nat):Nat:=((c+c / 256)+(c+c / 256) / 65536)+((c+c / 256)+(c+c / 256) / 65536) / 4294967296
theorem YJ (m l k e f g i j:Nat) (h0:m<=8) (h1:l<=8) (h2:k<=8) (h3:e<=8) (h4:f<=8) (h5:g<=8) (h6:i<=8) (h7:j<=8) :OG (256*(256*(256*(256*(256*(256*(256*(256*0+j)+i)+g)+f)+e)+k)+l)+m)%256=m+l+k+e+f+g+i+j:=by
 have q1:∀Y c,c<=8->(256*Y+c) / 256=Y:=fun Y c h=>by omega
 have n:∀Z d1 d0,d1<=16->d0<=16->(256*(256*Z+d1)+d0) / 65536=Z:=fun Z d1 d0 h o=>by omega
 have p:∀Z d3 d2 d1 d0,d3<=32->d2<=32->d1<=32->d0<=32->(256*(256*(256*(256*Z+d3)+d2)+d1)+d0) / 4294967296=Z:=fun Z d3 d2 d1 d0 a b c d=>by omega
 have q:∀A B a b,a<=32->b<=32->(256*A+a+(256*B+b))%256=a+b:=fun A B a b h o=>by omega
 have r:256*(256*(256*(256*(256*(256*(256*(256*0+j)+i)+g)+f)+e)+k)+l)+m+(256*(256*(256*(256*(256*(256*(256*0+j)+i)+g)+f)+e)+k)+l) =256*(256*(256*(256*(256*(256*(256*j+(i+j))+(g+i))+(f+g))+(e+f))+(k+e))+(l+k))+(m+l):=by omega
 unfold OG;rw[q1 _ _ h0,r,n _ _ _ (by omega) (by omega)];have s:256*(256*(256*(256*(256*(256*(256*j+(i+j))+(g+i))+(f+g))+(e+f))+(k+e))+(l+k))+(m+l)+(256*(256*(256*(256*(256*j+(i+j))+(g+i))+(f+g))+(e+f))+(k+e)) =256*(256*(256*(256*(256*(256*(256*j+(i+j))+(g+i+j))+(f+g+i+j))+(e+f+g+i))+(k+e+f+g))+(l+k+e+f))+(m+l+k+e):=by omega
 rw[s,p _ _ _ _ _ (by omega) (by omega) (by omega) (by omega),q _ _ _ _ (by omega) (by omega)];omega
theorem V8 (x:Nat) (s:x<18446744073709551616):OG (Po 8 (NI 8 (ME 8 x)))%256=GV 64 x:=by
 obtain⟨i,a,h0,rfl⟩:∃c q,c<256/\x=256*q+c:=⟨x%256,x / 256,Cz _ (by decide),by omega⟩
 obtain⟨j,q1,h1,rfl⟩:∃c q,c<256/\a=256*q+c:=⟨a%256,a / 256,Cz _ (by decide),by omega⟩
 obtain⟨k,b,h2,rfl⟩:∃c q,c<256/\q1=256*q+c:=⟨q1%256,q1 / 256,Cz _ (by decide),by omega⟩
 obtain⟨l,d,h3,rfl⟩:∃c q,c<256/\b=256*q+c:=⟨b%256,b / 256,Cz _ (by decide),by omega⟩
 obtain⟨m,e,h4,rfl⟩:∃c q,c<256/\d=256*q+c:=⟨d%256,d / 256,Cz _ (by decide),by omega⟩
 obtain⟨n,f,h5,rfl⟩:∃c q,c<256/\e=256*q+c:=⟨e%256,e / 256,Cz _ (by decide),by omega⟩
 obtain⟨o,g,h6,rfl⟩:∃c q,c<256/\f=256*q+c:=⟨f%256,f / 256,Cz _ (by decide),by omega⟩
 obtain⟨p,r,h7,rfl⟩:∃c q,c<256/\g=256*q+c:=⟨g%256,g / 256,Cz _ (by decide),by omega⟩
 obtain rfl:r=0:=by omega
 rw[Z6 i j k l m n o p h0 h1 h2 h3 h4 h5 h6 h7,YJ _ _ _ _ _ _ _ _ (Ha 8 _) (Ha 8 _) (Ha 8 _) (Ha 8 _) (Ha 8 _) (Ha 8 _) (Ha 8 _) (Ha 8 _)];rw[G_ 56 _ _ h0,G_ 48 _ _ h1,G_ 40 _ _ h2,G_ 32 _ _ h3,G_ 24 _ _ h4,G_ 16 _ _ h5,G_ 8 _ _ h6,G_ 0 _ _ h7];simp only[GV,C8];omega
theorem W8:OF 85 8=6148914691236517205:=by decide
theorem W_:OF 51 8=3689348814741910323:=by decide
theorem XA:OF 15 8=1085102592571150095:=by decide
end
section
open Go.RowKit Go.Sort
theorem SR (a:Nat) (b:a<9223372036854775808):(BitVec.ofInt 64 (a:Int)).toNat=a:=by rw[BitVec.ofInt_natCast,BitVec.toNat_ofNat];exact Ez (by omega)
theorem Uk (a b:Nat) (c:a<9223372036854775808) (d:b<9223372036854775808):bits .and .i64 (a:Int) (b:Int)=((a &&& b:Nat):Int):=by have e:a &&& b<2^63:=Nat.and_lt_two_pow _ (by omega);show IntKind.i64.wrap ((BitVec.ofInt 64 (a:Int) &&& BitVec.ofInt 64 (b:Int)).toNat:Int)=_;rw[BitVec.toNat_and,SR a c,SR b d,IntKind.wrap_i64];omega
theorem u64_in (n:Nat) (h:n<18446744073709551616):IntKind.u64.wrap (n:Int)=(n:Int):=by rw[EN];omega
theorem Mj (a m:Nat) (M:Int) (b:a<18446744073709551616) (c:M=(m:Int)) (h:m<18446744073709551616):bits .and .u64 (a:Int) M=((a &&& m:Nat):Int):=by rw[c,u64_and_nat a m b h]
theorem V9 (x:Nat) (i:x<18446744073709551616):∃c a2 a3 d e g:Nat,IntKind.u64.wrap (bits .and .u64 ((x:Int) / 2) 6148914691236517205+bits .and .u64 (x:Int) 6148914691236517205)=(c:Int) /\IntKind.u64.wrap (bits .and .u64 ((c:Int) / 4) 3689348814741910323+bits .and .u64 (c:Int) 3689348814741910323)=(a2:Int) /\bits .and .u64 (IntKind.u64.wrap ((a2:Int) / 16+(a2:Int))) 1085102592571150095=(a3:Int) /\IntKind.u64.wrap ((a3:Int)+(a3:Int) / 256)=(d:Int)/\IntKind.u64.wrap ((d:Int)+(d:Int) / 65536)=(e:Int)/\IntKind.u64.wrap ((e:Int)+(e:Int) / 4294967296)=(g:Int) /\g<9223372036854775808/\bits .and .i64 (g:Int) 127=((GV 64 x:Nat):Int):=by
 have j:ME 8 x<=6148914691236517205+6148914691236517205:=by unfold ME;rw[W8];exact Nat.add_le_add Nat.and_le_right Nat.and_le_right
 have k:NI 8 (ME 8 x)<=3689348814741910323+3689348814741910323:=by unfold NI;rw[W_];exact Nat.add_le_add Nat.and_le_right Nat.and_le_right
 have m:Po 8 (NI 8 (ME 8 x))<=1085102592571150095:=by unfold Po;rw[XA];exact Nat.and_le_right
 have n:=V8 x i;have o:=Ha 64 x;refine⟨ME 8 x,NI 8 (ME 8 x),Po 8 (NI 8 (ME 8 x)),Po 8 (NI 8 (ME 8 x))+Po 8 (NI 8 (ME 8 x)) / 256,(Po 8 (NI 8 (ME 8 x))+Po 8 (NI 8 (ME 8 x)) / 256)+(Po 8 (NI 8 (ME 8 x))+Po 8 (NI 8 (ME 8 x)) / 256) / 65536,OG (Po 8 (NI 8 (ME 8 x))),?_,?_,?_,?_,?_,?_,?_,?_⟩
 .rw [show(x:Int) / 2=((x / 2:Nat):Int)by omega,Mj _ 6148914691236517205 6148914691236517205 (by omega) rfl (by decide),Mj _ 6148914691236517205 6148914691236517205 i rfl (by decide),<-Int.natCast_add];unfold ME at j ⊢;rw[W8]at j ⊢;exact u64_in _ (by omega)
 .generalize ME 8 x=a at *;rw[show(a:Int) / 4=((a / 4:Nat):Int)by omega,Mj _ 3689348814741910323 3689348814741910323 (by omega) rfl (by decide),Mj _ 3689348814741910323 3689348814741910323 (by omega) rfl (by decide),<-Int.natCast_add];unfold NI at k ⊢;rw[W_]at k ⊢;exact u64_in _ (by omega)
 .generalize NI 8 (ME 8 x)=a at *;rw[show(a:Int) / 16+(a:Int)=((a / 16+a:Nat):Int)by omega,u64_in _ (by omega),Mj _ 1085102592571150095 1085102592571150095 (by omega) rfl (by decide)];unfold Po;rw[XA]
 .generalize Po 8 (NI 8 (ME 8 x))=a at *;rw[EN];omega
 .generalize Po 8 (NI 8 (ME 8 x))=a at *;generalize l:a+a / 256=b at *;rw[EN];omega
 .unfold OG;generalize Po 8 (NI 8 (ME 8 x))=a at *;rw[EN];omega
 .unfold OG;generalize Po 8 (NI 8 (ME 8 x))=a at *;omega
 .have l:OG (Po 8 (NI 8 (ME 8 x)))<9223372036854775808:=by
    unfold OG;generalize Po 8 (NI 8 (ME 8 x))=a at *;omega
  rw[show(127:Int)=((127:Nat):Int)from rfl,Uk _ _ l (by decide),show(127:Nat)=2^7-1 by decide,Nat.and_two_pow_sub_one_eq_mod];generalize OG (Po 8 (NI 8 (ME 8 x)))=f at *;omega
theorem V_ (x:Nat) (w:World) (a:x<18446744073709551616) :Calls Tryz.prog 68 #[.int .u64 x] w (C7 (.int .i64 ((GV 64 x:Nat):Int)) w):=by obtain⟨b,a2,a3,c,d,e,h1,h2,h3,h4,h5,h6,h7,h8⟩:=V9 x a;go_enter Tryz.func68,Tryz.ntmps68;go_wp2;go_ret;refine⟨?_,AH _ _⟩;rfl
def Z7 (m:Nat->Bool):Nat:=NS m 256
theorem Z8 (m:Nat->Bool) (k:Nat):NS m (64*(k+1))=NS m (64*k)+GV 64 (word m k):=by rw[V7,show 64*(k+1)=64*k+64 by omega,Wz]
theorem WA (m:Nat->Bool) (W:World):(Instr.index 58 (.agg #[.int .u64 ((word m 0:Nat):Int),.int .u64 ((word m 1:Nat):Int),.int .u64 ((word m 2:Nat):Int),.int .u64 ((word m 3:Nat):Int)]) (.int .i64 0)).run Tryz.prog W=.ok (.int .u64 ((word m 0:Nat):Int)) W:=by kernel_rfl
theorem WB (m:Nat->Bool) (W:World):(Instr.index 58 (.agg #[.int .u64 ((word m 0:Nat):Int),.int .u64 ((word m 1:Nat):Int),.int .u64 ((word m 2:Nat):Int),.int .u64 ((word m 3:Nat):Int)]) (.int .i64 1)).run Tryz.prog W=.ok (.int .u64 ((word m 1:Nat):Int)) W:=by kernel_rfl
theorem WC (m:Nat->Bool) (W:World):(Instr.index 58 (.agg #[.int .u64 ((word m 0:Nat):Int),.int .u64 ((word m 1:Nat):Int),.int .u64 ((word m 2:Nat):Int),.int .u64 ((word m 3:Nat):Int)]) (.int .i64 2)).run Tryz.prog W=.ok (.int .u64 ((word m 2:Nat):Int)) W:=by kernel_rfl
theorem WD (m:Nat->Bool) (W:World):(Instr.index 58 (.agg #[.int .u64 ((word m 0:Nat):Int),.int .u64 ((word m 1:Nat):Int),.int .u64 ((word m 2:Nat):Int),.int .u64 ((word m 3:Nat):Int)]) (.int .i64 3)).run Tryz.prog W=.ok (.int .u64 ((word m 3:Nat):Int)) W:=by kernel_rfl
theorem SS (m:Nat->Bool) (k:Nat) (a:k<4) (W:World):(Instr.index 58 (.agg #[.int .u64 ((word m 0:Nat):Int),.int .u64 ((word m 1:Nat):Int),.int .u64 ((word m 2:Nat):Int),.int .u64 ((word m 3:Nat):Int)]) (.int .i64 (k:Int))).run Tryz.prog W=.ok (.int .u64 ((word m k:Nat):Int)) W:=by
 match k,a with
 | 0,_=>exact WA m W
 | 1,_=>exact WB m W
 | 2,_=>exact WC m W
 | 3,_=>exact WD m W
theorem Z9 (m:Nat->Bool) (w:World) :Calls Tryz.prog 32 #[.agg #[.int .u64 ((word m 0:Nat):Int),.int .u64 ((word m 1:Nat):Int),.int .u64 ((word m 2:Nat):Int),.int .u64 ((word m 3:Nat):Int)]] w (C7 (.int .i64 ((Z7 m:Nat):Int)) w):=by
 have l:=Pa w m 58;obtain⟨r,s,t,u⟩:=l.cells4;go_enter Tryz.func32,Tryz.ntmps32;go_wp2;go_loopw [3,7] (fun n i wr=>∃k:Nat,k<=4/\i=.int .i64 k/\n=.int .i64 ((NS m (64*k):Nat):Int)/\Below w.heap.size w wr) (fun _ i _=>4-(intOf i).toNat)
 case atStart=>exact⟨0,by omega,rfl,rfl,(AH _ _).alloc (AD _) _⟩
 case round=>
  obtain⟨k,v,rfl,rfl,g⟩:=hrel;by_cases a:k<4
  .have j:=SS m k a
   have E:=AB (Z8 m k);have x:=Z1 m (64*k);have o:=Ha 64 (word m k);have p:=fun W=>V_ (word m k) W (FD m k)
   generalize GV 64 (word m k)=c at *;generalize NS m (64*k)=d at *
   go_wp2_with (go_at_call 68;refine(p _).mono ?_;rintro e y ⟨rfl,b⟩;have q:=Lb g b)
   go_roundw
   case rel=>exact⟨k+1,by omega,by go_num,by rw[E.out];go_num,q⟩
   case measure=>simp[intOf];omega
  .have f:k=4:=by omega
   subst f;go_wp2;go_ret;exact⟨rfl,g⟩
end
section
open Go.RowKit Go.Sort
def NT (w:World):Prop:=∀j,j<64->w.cell? ⟨1,j,none⟩=some (.int .u8 ((Lib.deBruijn64tab.getD j 0:Nat):Int))
theorem X2c (x a:Nat) (c:x<18446744073709551616) (d:x≠0) (b:x &&& (18446744073709551616-x)=a) :IntKind.u64.wrap (bits BinOp.and IntKind.u64 (x:Int) (IntKind.u64.wrap (-(x:Int)))*285870213051353865) / 288230376151711744=((a*285870213051353865%18446744073709551616 / 288230376151711744:Nat):Int):=by
 have e:IntKind.u64.wrap (-(x:Int))=((18446744073709551616-x:Nat):Int):=by rw[EN];omega
 rw[e,u64_and_nat x _ c (by omega),b,EN];omega
theorem X1A (x k a:Nat) (w:World) (c:((x:Int)==0)=false) (key:IntKind.u64.wrap (bits BinOp.and IntKind.u64 (x:Int) (IntKind.u64.wrap (-(x:Int)))*285870213051353865) / 288230376151711744=(a:Int)) (hi:a<64) (d:k<64) (b:w.cell? ⟨1,a,none⟩=some (.int .u8 k)) :Calls Tryz.prog 152 #[.int .u64 x] w fun e w'=>e=.returned (.int .i64 k)/\w'=w:=by
 go_enter Tryz.func152,Tryz.ntmps152
 go_wp2_with (simp only[key])
 go_ret;exact⟨rfl,rfl⟩
theorem X2d (x:Nat) (e:x<18446744073709551616) (b:x≠0) (w:World) (g:NT w) :Calls Tryz.prog 152 #[.int .u64 x] w (C7 (.int .i64 ((Lib.ctz 64 x:Nat):Int)) w):=by obtain⟨c,f⟩:=Lib.lowest_bit 64 x b e;obtain⟨hi,d⟩:=Lib.deBruijn64_at _ f;have a:=g _ hi;rw[d]at a;exact(X1A x _ _ w (by simp;omega) (X2c x _ e b c) hi f a).mono fun _ _ ⟨i,j⟩=>⟨i,j▸AH _ _⟩
theorem YW (x:Nat) (d:x<18446744073709551616) (a:x≠0):Lib.ctz 64 x<64/\x.testBit (Lib.ctz 64 x)=true/\∀k,k<Lib.ctz 64 x->x.testBit k=false:=by
 unfold Lib.ctz;rw[AP a];obtain⟨m,b,e⟩:=Lib.ctzFrom_spec 64 x (by omega) d;generalize Lib.ctzFrom 64 x=c at *;refine⟨e,?_,fun k f=>?_⟩
 .rw [b,D6,Nat.testBit_mul_two_pow];simp[Nat.testBit_zero]
 .rw [b,D6,Nat.testBit_mul_two_pow]
  have:¬c<=k:=by omega
  simp[this]
def Fv (m:Nat->Bool):Nat->Nat
 | 0=>0
 | n+1=>if Fv m n<n then Fv m n else if m n then n else n+1
theorem Ip (m:Nat->Bool):∀n,Fv m n<=n/\(∀k,k<Fv m n->m k=false)/\(Fv m n<n->m (Fv m n)=true)
 | 0=>⟨AD _,fun k h=>absurd h (by simp[Fv]),fun h=>absurd h (by simp[Fv])⟩
 | n+1=>by
  obtain⟨h1,h2,h3⟩:=Ip m n;rw[Fv];split
  .rename_i h;exact⟨by omega,h2,fun _=>h3 h⟩
  .rename_i h
   have e:Fv m n=n:=by omega
   rw[e]at h2;split
   .rename_i a;exact⟨by omega,h2,fun _=>a⟩
   .rename_i a
    refine⟨AD _,fun k c=>?_,fun h=>absurd h (by omega)⟩;by_cases b:k=n
    .subst b;simpa using a
    .exact h2 k (by omega)
theorem WL (m:Nat->Bool) (n k:Nat) (c:k<n) (a:m k=true) (b:∀j,j<k->m j=false):Fv m n=k:=by
 obtain⟨h1,h2,h3⟩:=Ip m n;rcases Fz (Fv m n) k with h|h|h
 .have:=h3 (by omega);rw[b _ h]at this;cases this
 .exact h
 .rw [h2 k h]at a;cases a
theorem TX (m:Nat->Bool) (n:Nat) (h:∀k,k<n->m k=false):Fv m n=n:=by
 obtain⟨h1,_,h3⟩:=Ip m n;rcases BF (Fv m n) n with h2|h2
 .rw [h _ h2]at h3;exact absurd (h3 h2) (by simp)
 .omega
def JV (m:Nat->Bool):Nat:=Fv m 256
def Ou (m:Nat->Bool):Value:=if JV m<256 then .tuple #[.int .u8 ((JV m:Nat):Int),.bool true]else .tuple #[.int .u8 0,.bool false]
theorem YX (m:Nat->Bool) (w:World) (u:∀W,Below w.heap.size w W->NT W) :Calls Tryz.prog 124 #[.agg #[.int .u64 ((word m 0:Nat):Int),.int .u64 ((word m 1:Nat):Int),.int .u64 ((word m 2:Nat):Int),.int .u64 ((word m 3:Nat):Int)]] w (C7 (Ou m) w):=by
 have c:=Pa w m 58;obtain⟨E,F,G,H⟩:=c.cells4;go_enter Tryz.func124,Tryz.ntmps124;go_wp2;go_loopw [7] (fun i wr=>∃k:Nat,k<=4/\i=.int .i64 k/\(∀b,b<64*k->m b=false)/\Below w.heap.size w wr) (fun i _=>4-(intOf i).toNat)
 case atStart=>exact⟨0,by omega,rfl,fun b c=>absurd c (by omega),(AH _ _).alloc (AD _) _⟩
 case round=>
  obtain⟨k,I,rfl,d,g⟩:=hrel;have a:=AB d;clear d;by_cases o:k<4
  .have f:=SS m k o
   by_cases h0:word m k=0
   .have v:(((word m k:Nat):Int) != 0)=false:=by rw[h0];rfl
    have p:(((word m k:Nat):Int)==0)=true:=by rw[h0];rfl
    have y:=AB h0;clear h0;generalize t:word m k=x at *;have l:=AB t;clear t;go_wp2;go_roundw
    case rel=>
     refine⟨k+1,by omega,by go_num,fun b c=>?_,g⟩;rcases BF b (64*k)with h|h
     .exact a.out b h
     .have:=Cm m k (b-64*k);rw[l.out,y.out,show 64*k+(b-64*k)=b by omega]at this;simpa[show b-64*k<64 by omega]using this.symm
    case measure=>simp[intOf];omega
   .obtain ⟨x,z,l,q,J,A,B⟩:∃x z:Nat,Hid (word m k=x)/\x≠0/\z<64/\(Unit->JV m=64*k+z)/\∀W,Below w.heap.size w W->Calls Tryz.prog 152 #[.int .u64 (x:Int)] W (C7 (.int .i64 (z:Int)) W):=by
      have n:=YW (word m k) (FD m k) h0;refine⟨word m k,Lib.ctz 64 (word m k),AB rfl,h0,n.1,fun _=>WL m 256 _ (by omega) ?_ fun j K=>?_,fun W C=>X2d (word m k) (FD m k) h0 W (u W C)⟩
      .have:=Cm m k (Lib.ctz 64 (word m k));rw[n.2.1]at this;simpa[n.1]using this.symm
      .rcases BF j (64*k)with h|h
       .exact a.out j h
       .have:=Cm m k (j-64*k);rw[n.2.2 _ (by omega),show 64*k+(j-64*k)=j by omega]at this;simpa[show j-64*k<64 by omega]using this.symm
    rw[l.out]at f;have v:((x:Int) != 0)=true:=by simp[bne];omega
    have p:((x:Int)==0)=false:=by simp;omega
    clear h0 q l
    go_wp2_with (go_at_call 152;refine(B _ g).mono ?_;rintro e L ⟨rfl,r⟩;have D:=Lb g r)
    go_ret2
    refine⟨?_,D⟩;unfold Ou;rw[A (),AU (by omega)];rw[show((64*k+z:Nat):Int)=64*(k:Int)+(z:Int)by omega];rfl
  .have s:k=4:=by omega
   subst s;go_wp2
   go_ret2
   refine⟨?_,g⟩;unfold Ou;rw[show JV m=256 from TX m 256 fun b c=>a.out b (by omega),AP (by omega)];rfl
end
section
open Go.ChangeShapes Go.WideShapes Go.ChangeAt Go.RowKit
open Go.ChangeMaps (open_string shut_string)
theorem X1H:ownKnob Tryz.prog.godebug=none:=by kernel_rfl
theorem laidOut:laidOutB Tryz.prog=true:=by kernel_rfl
section
variable {H:Type} {enc:TypeId×Value->H} {P:Program}
theorem Kj (e:laidOutB P=true) {W W':World} (f:Below W.heap.size W W') {g:Nat->Bool} :∀{c:List TypeId} {vs:List Value} {ds:List (DataW H)} {b:List MemPlace},(c.all fun t=>P.readableRec t && decide (t<P.types.size))=true ->DataW.TrodAll enc P W 0 (fun _=>true) true c vs ds b->(∀x∈b,x.block<W.heap.size)->(∀x∈b,g x.block=true)->DataW.TrodAll enc P W' 0 g true c vs ds b
 | [],[],[],_,_,h,_,_=>h
 | t::c,v::vs,d::ds,b,hr,h,hlt,hsp=>by obtain⟨p,q,h1,h2,rfl⟩:=h;simp only[List.all_cons,AW,BB]at hr;exact⟨p,q,WideElems.Trod_stays e hr.1.1 hr.1.2 h1 (fun x a=>f.same (hlt x (C5 _ a))) (fun x a=>hsp x (C5 _ a)),Kj e f hr.2 h2 (fun x a=>hlt x (Fl _ a)) (fun x a=>hsp x (Fl _ a)),rfl⟩
 | [],_::_,_,_,_,h,_,_=>by simp[DataW.TrodAll]at h
 | [],[],_::_,_,_,h,_,_=>by simp[DataW.TrodAll]at h
 | _::_,[],_,_,_,h,_,_=>by simp[DataW.TrodAll]at h
 | _::_,_::_,[],_,_,h,_,_=>by simp[DataW.TrodAll]at h
theorem Nc {f:Func} {s:ChangeSpec} {apart fresh handsOn again:Bool} {W W':World} {args:Array Value} {v:Value} {ds gs:List (DataW H)} {before pa pv:List MemPlace} (n:DataW.Whole enc P f.params.toList s.vars apart W args.toList ds gs before) (g:∀(b:Nat) (k:Nat->Bool) (u:Bool),DataW.TrodAll enc P W' b k u f.resultTypes.toList (v.resultList f.resultTypes.size) (s.fn H (ds++gs)).results []) (a:∀k:Nat->Bool,(∀p∈before,k p.block=true)->DataW.TrodAll enc P W' 0 k true f.params.toList args.toList (s.fn H (ds++gs)).args pa) (c:∀k:Nat->Bool,(∀p∈before,k p.block=true)->DataW.TrodVars enc P W' k s.vars (s.fn H (ds++gs)).vars pv) (e:before=pa++pv) (q:Below W.heap.size W W') (o:∀(j:Nat) (t:TypeId) (r:Value),f.resultTypes[j]?=some t->(v.resultList f.resultTypes.size)[j]?=some r->Value.okWide P W' .any 0 t r) :s.post enc P f apart fresh handsOn again W args v W':=by
 have l:∀p∈before,p.block<W.heap.size:=fun p d=>n.lt p d
 have i:∀p∈before,(fun b=>decide (b<W.heap.size)) p.block=true:=fun p d=>by simpa using l p d
 refine⟨ds,gs,before,[],pa,pv,n,g _ _ _,a _ i,c _ i,World.keptBut_mono (fun p d=>⟨d,?_⟩) (q.frame (·∈before)),fun _=>?_⟩
 .rw [e,Bj]at d;exact Or.inr d
 .obtain ⟨_,_,_,_,_,w,x⟩:=n
  refine⟨o,_,_,([]++pa)++pv,⟨[]++pa,pv,trodAll_append (a _ (fun _ _=>rfl)) (g _ _ _),c _ (fun _ _=>rfl),rfl,?_,?_⟩,?_⟩
  .intro b off d
   have m:MemPlace.cell b off∈before:=by rw[e];simpa using d
   rw[q.frozen (l _ m)];exact w b off m
  .intro y;have:=x y;rw[e]at this;simpa using this
  .intro p d _;rw[e];simpa using d
end
section
variable {H:Type} {enc:TypeId×Value->H} {P:Program}
theorem JC {a:Addr} {n:Nat} {B:Nat} (h:∀x∈MemPlace.row a n,x.block<B) (b:0<n):a.block<B:=by have:=h (.cell a.block (a.off+0)) (Bd.2 ⟨0,by simpa using b,rfl⟩);exact this
end
end
section
open Go.ChangeShapes Go.WideShapes Go.ChangeAt Go.RowKit
section
variable {H:Type} {enc:TypeId×Value->H} {P:Program}
theorem wf_u64 {n:Int} (h:(Lit.int .u64 n).wf=true):0<=n/\n<18446744073709551616:=by have:=bounds_u64 h;omega
theorem Ia {e:TypeId} {W:World} {base fuel:Nat} {a:Nat->Bool} {held:Bool} {c:Value} {y:DataW H×List MemPlace} (b:P.underlying e=some (.int .u64)) (h:DataW.trod enc P W base a held fuel e [c]=some y) :∃n:Nat,c=.int .u64 ((n:Nat):Int)/\n<18446744073709551616:=by obtain⟨n,h1,_,d⟩:=DataW.trod_int b h;simp at h1;subst h1;obtain⟨h0,h2⟩:=wf_u64 d;obtain⟨k,rfl⟩:=Dr h0;exact⟨k,rfl,by omega⟩
end
end
section
open Go.RowKit Go.Sort
theorem JO {act base:Act} {ds:List Tmp} (h:∀x,x∉ds->act.tmps[x]?=base.tmps[x]?) (t:Tmp) (a:t∉ds):act.eval (.tmp t)=base.eval (.tmp t):=by have:=h t a;unfold Act.eval;simp only[this,Gt]
section
variable {Q:Exit->Act->World->Prop} {base:Act} {w:World} {ds:List Tmp} {o:Oper} {d:Tmp}
theorem G7 (q:o.dst=some d) (r:o.guard=none) (l:Tmp) (c:l∉ds) (t:TypeId) (f:o.op=Op.makeSlice t (.tmp l) (.tmp l)) (e:TypeId) (i:TypeInfo) (z:Value) (size:Nat) (h1:Tryz.prog.underlying t=some (.slice e)) (h2:Tryz.prog.info? e=some i) (h3:i.zero=some z) (h4:i.size=size) (n:Nat) (s:base.eval (.tmp l)=.int .i64 (n:Int)) (u:i.bytes*n<=281474976710656) (x:n<=maxLen) :Maker Tryz.prog Q base w ds o d (fun v W=>∃g,v=.slice (some ⟨g,0,none⟩) n n/\w.heap.size<=g/\W.ownsRow w.heap.size e size v n (madeCells z.cells (n*size)).toList):=by
 refine⟨q,r,?_,?_⟩
 .rintro v W W' ⟨g,rfl,j,y⟩ b;exact⟨g,rfl,j,BQ y b⟩
 .intro act W K m b A;have p:act.eval (.tmp l)=.int .i64 (n:Int):=(JO m l c).trans s;obtain⟨w',a,B,C⟩:=run_make_full (P:=Tryz.prog) W w.heap.size t e i z size h1 h2 h3 h4 .i64 .i64 n u x b.size;unfold Oper.wp;simp[execOp,f,p,a,Result.andThen];show K (act.put o.dst _) _;rw[q];exact A _ _ ((AH _ W).grown C (AD _) (fun k e=>by cases e)) ⟨W.heap.size,rfl,b.size,B⟩
theorem QS {F:Value->World->Prop} (j:o.dst=some d) (k:o.guard=none) (x:Tmp) (l:x∉ds) (f:FuncId) (m:Array TypeId) (a:o.op=Op.call { callee:=.value (.func f),args:=#[.tmp x],argTypes:=m }) (n:∀args W,(callFunc f args).run Tryz.prog W=.ok (.enter f args) W) (p:∀v W W',F v W->Below W.heap.size W W'->F v W') (h:∀W,Below w.heap.size w W->Calls Tryz.prog f #[base.eval (.tmp x)] W fun e W'=>∃v,e=.returned v/\Below W.heap.size W W'/\F v W') :Maker Tryz.prog Q base w ds o d F:=by
 refine⟨j,k,p,?_⟩;intro act W K b q r;have c:act.eval (.tmp x)=base.eval (.tmp x):=JO b x l;have s:act.eval (.func f)=.func (.func f) #[] #[]:=rfl;unfold Oper.wp execOp;simp only[a,resolve,invoke,Fw,FX,DO,EG,c,s];have g:(Deferred.ofValue (Value.func (Fn.func f) #[] #[]) #[base.eval (.tmp x)]).run Tryz.prog W=.ok { target:=.fn (.func f) #[],args:=#[base.eval (.tmp x)] } W:=by rfl
 rw[g,Ee];simp only[Array.append_empty,n];rw[Oper.upon_enter];refine(h W q).mono ?_;rintro e W' ⟨v,rfl,i,t⟩;show K (act.put o.dst v) W';rw[j];exact r _ _ i t
end
end
section
open Go.RowKit Go.Sort
section
variable {K:Act->World->Prop} {Q:Exit->Act->World->Prop} {a:Act} {W:World} {o:Oper}
theorem Pd (l:Tmp) (t:TypeId) (c:o.op=Op.makeSlice t (.tmp l) (.tmp l)) (base:Nat) (e:TypeId) (i:TypeInfo) (z:Value) (size:Nat) (h1:Tryz.prog.underlying t=some (.slice e)) (h2:Tryz.prog.info? e=some i) (h3:i.zero=some z) (h4:i.size=size) (n:Nat) (d:a.eval (.tmp l)=.int .i64 (n:Int)) (f:i.bytes*n<=281474976710656) (g:n<=maxLen) (j:base<=W.heap.size) (m:∀W',W'.ownsRow base e size (.slice (some ⟨W.heap.size,0,none⟩) n n) n (madeCells z.cells (n*size)).toList->Below W.heap.size W W'->K (a.put o.dst (.slice (some ⟨W.heap.size,0,none⟩) n n)) W'):o.wp Tryz.prog a W K Q:=by obtain⟨w',b,p,q⟩:=run_make_full (P:=Tryz.prog) W base t e i z size h1 h2 h3 h4 .i64 .i64 n f g j;unfold Oper.wp;simp[execOp,c,d,b,Result.andThen];exact m _ p ((AH _ W).grown q (AD _) (fun k e=>by cases e))
theorem T_ (T:TypeId) (z:Value) (c:o.op=Op.alloc T) (b:∀W,(Instr.alloc T true (.tuple #[])).run Tryz.prog W=.ok (.pointer (some ⟨W.heap.size,0,none⟩)) (W.alloc (.cells #[z] T))) (d:K (a.put o.dst (.pointer (some ⟨W.heap.size,0,none⟩))) (W.alloc (.cells #[z] T))):o.wp Tryz.prog a W K Q:=by unfold Oper.wp;simp[execOp,c,b,Result.andThen];exact d
theorem VY {W:World} {g:Nat} {T:TypeId} {u:Value} (a:BL W g T #[u]) (v:Value):W.setRow g #[v]=W.setCell ⟨g,0,none⟩ v:=by
 unfold World.setRow World.setCell;congr 1;apply Array.ext_getElem?;intro k;simp only[Array.getElem?_modify];by_cases b:g=k
 .subst b;unfold BL at a;simp[a]
 .simp [b]
theorem ZJ (T:TypeId) (x y:Operand) (b:o.op=Op.store T x y) (g:Nat) (v u:Value) (e:a.eval x=.pointer (some ⟨g,0,none⟩)) (f:a.eval y=v) (hi:(Tryz.prog.info? T).map (·.size)=some 1) (h1:v.oneCell'=true) (c:BL W g T #[u]) (i:K (a.put o.dst undef) (W.setCell ⟨g,0,none⟩ v)):o.wp Tryz.prog a W K Q:=by have d:=run_storeVar_one (P:=Tryz.prog) W g T T u v c hi h1;rw[VY c]at d;unfold Oper.wp execOp;simp only[b,e,f,Instr.storeAt,Instr.sureAddr,Fw,Sem.run_pure,Ee,d];exact i
end
theorem Ik {a:Act} {d:Tmp} (h:d<a.tmps.size) (v:Value):(a.put (some d) v).tmps[d]?=some v:=by show(a.tmps.setIfInBounds d v)[d]?=some v;rw[Gw h]
theorem EB {a:Act} {d x:Tmp} (h:d≠x) (v:Value):(a.put (some d) v).tmps[x]?=a.tmps[x]?:=by show(a.tmps.setIfInBounds d v)[x]?=_;rw[GD h]
theorem J6 {a:Act} {d:Tmp} (v:Value):(a.put (some d) v).tmps.size=a.tmps.size:=by show(a.tmps.setIfInBounds d v).size=_;rw[GA]
theorem Fc {a:Act} {x:Tmp} {v:Value} (h:a.tmps[x]?=some v):a.eval (.tmp x)=v:=by unfold Act.eval;simp only[Gt,h,DV]
end
end Go.Proofs.YtcondkihpmmnnaaGreatDoor
