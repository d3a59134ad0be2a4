/- Lemmas, part 34 of 50. No condition. -/
import Derived.Test.YtcondkihpmmnnaaGreatDoorTwin31
set_option maxRecDepth 100000
set_option maxHeartbeats 16000000
namespace Go.Proofs.YtcondkihpmmnnaaGreatDoor
section
structure OrdI (q:SeqM) (n c:Nat) (m:Nat->Nat) (xs:List Nat) (pl:Nat->Int) (i b:Nat):Prop where
 first:xs[0]?=some 0
 lt:∀j s:Nat,xs[j]?=some s->s<n/\pl (m s)=(j:Int)
 plc:∀p,p<c->pl p=-1\/∃j s:Nat,xs[j]?=some s/\m s=p/\pl p=(j:Int)
 done:∀j s b':Nat,xs[j]?=some s->b'<256->(j<i\/j=i/\b'<b)->0<=q.nx s b'->0<=pl (m (q.nx s b').toNat)
 ord:∀k s:Nat,0<k->xs[k]?=some s->∃j t b':Nat,xs[j]?=some t/\j<k/\(j<i\/j=i/\b'<b)/\b'<256/\0<=q.nx t b'/\pl (m (q.nx t b').toNat)=(k:Int) /\∀j' t' b'':Nat,xs[j']?=some t'->b''<256->(j'<j\/j'=j/\b''<b')->0<=q.nx t' b''->pl (m (q.nx t' b'').toNat)<(k:Int)
theorem GG {α:Type} {l:List α} {i:Nat} {x:α} (h:l[i]?=some x):i<l.length:=by
 rcases BF i l.length with e|e
 .exact e
 .rw [AY e]at h;cases h
theorem LH {l:List Nat} {z i x:Nat} (h:(l++[z])[i]?=some x):l[i]?=some x\/(i=l.length/\x=z):=by
 rcases Fz i l.length with e|e|e
 .rw [Bi e]at h;exact .inl h
 .rw [CT (by omega),e]at h;simp at h;exact .inr ⟨e,h.symm⟩
 .rw [AY (by simp;omega)]at h;cases h
section
variable {q:SeqM} {n c:Nat} {m:Nat->Nat} {xs:List Nat} {pl:Nat->Int} {i b:Nat}
theorem OrdI.start (_hm0:m 0<c) (hn:0<n):OrdI q n c m [0] (fun p=>if p=m 0 then 0 else -1) 0 0:=by
 refine⟨rfl,fun j s h=>?_,fun p b=>?_,fun j s d h f g=>?_,fun k s i h=>?_⟩
 .have:=GG h
  have e:j=0:=by simp at this;exact this
  subst e;have a:s=0:=by simpa using h.symm
  subst a;exact⟨hn,by simp⟩
 .by_cases e:p=m 0
  .right;exact⟨0,0,rfl,e.symm,by simp[e]⟩
  .left;simp[e]
 .omega
 .have:=GG h;simp at this;omega
theorem OrdI.mono (h:OrdI q n c m xs pl i b) {d f:Nat} (g:∀j a,a<256->(j<i\/j=i/\a<b)->(j<d\/j=d/\a<f)) (r:∀j s a:Nat,xs[j]?=some s->a<256->(j<d\/j=d/\a<f)->¬(j<i\/j=i/\a<b)->0<=q.nx s a->0<=pl (m (q.nx s a).toNat)):OrdI q n c m xs pl d f:=by
 refine⟨h.first,h.lt,h.plc,fun j s a l o u h0=>?_,fun k s v w=>?_⟩
 .by_cases e:j<i\/j=i/\a<b
  .exact h.done j s a l o e h0
  .exact r j s a l o u e h0
 .obtain ⟨j,t,p,h1,h2,h3,h4,h5⟩:=h.ord k s v w;exact⟨j,t,p,h1,h2,g j p h4 h3,h4,h5⟩
theorem OrdI.next (h:OrdI q n c m xs pl i 256):OrdI q n c m xs pl (i+1) 0:=h.mono (fun j a b d=>by omega) fun j s a _ b d hn=>by omega
theorem OrdI.pass (h:OrdI q n c m xs pl i b) {s:Nat} (e:xs[i]?=some s) (f:0<=q.nx s b->0<=pl (m (q.nx s b).toNat)):OrdI q n c m xs pl i (b+1):=by
 refine h.mono (fun j a g k=>by omega) fun j t a d g k hn h0=>?_
 have l:j=i:=by omega
 have o:a=b:=by omega
 subst l o;rw[e]at d;obtain rfl:=AL d;exact f h0
theorem OrdI.put (h:OrdI q n c m xs pl i b) {s z:Nat} (A:xs[i]?=some s) (H:b<256) (F:q.nx s b=(z:Int)) (B:z<n) (I:pl (m z)<0) (C:∀t b:Nat,t<n->b<256->0<=q.nx t b->m (q.nx t b).toNat<c) :OrdI q n c m (xs++[z]) (fun p=>if p=m z then(xs.length:Int)else pl p) i (b+1):=by
 have r:=GG A;have v:∀j t:Nat,xs[j]?=some t->m t≠m z:=fun j t w e=>by have:=(h.lt j t w).2;rw[e]at this;omega
 refine⟨?_,fun j t g=>?_,fun p J=>?_,fun j t y g D P h0=>?_,fun k t K w=>?_⟩
 .rw [Bi (by omega)];exact h.first
 .rcases LH g with g|⟨rfl,rfl⟩
  .refine ⟨(h.lt j t g).1,?_⟩;rw[AP (v j t g)];exact(h.lt j t g).2
  .exact ⟨B,by simp⟩
 .by_cases e:p=m z
  .right;exact⟨xs.length,z,by simp,e.symm,by simp[e]⟩
  .rcases h.plc p J with h1|⟨j,t,h1,h2,h3⟩
   .left;rw[AP e];exact h1
   .right;exact⟨j,t,by rw[Bi (GG h1)];exact h1,h2,by rw[AP e];exact h3⟩
 .by_cases e:m (q.nx t y).toNat=m z
  .simp only[e,Dm];omega
  .simp only[e,Ef]
   rcases LH g with g|⟨rfl,rfl⟩
   .by_cases L:j<i\/j=i/\y<b
    .exact h.done j t y g D L h0
    .have M:j=i:=by omega
     have N:y=b:=by omega
     subst M N;rw[A]at g;obtain rfl:=AL g;rw[F,BO]at e;exact absurd rfl e
   .omega
 .rcases LH w with w|⟨rfl,O⟩
  .obtain ⟨j,u,G,h1,h2,h3,h4,h5,h6,h7⟩:=h.ord k t K w
   refine⟨j,u,G,by rw[Bi (GG h1)];exact h1,h2,by omega,h4,h5,?_,fun x l f a d o h0=>?_⟩
   .have e:m (q.nx u G).toNat≠m z:=fun e=>by rw[e]at h6;omega
    rw[AP e];exact h6
   .rcases LH a with a|⟨rfl,rfl⟩
    .have E:=h.done x l f a d (by omega) h0
     have e:m (q.nx l f).toNat≠m z:=fun e=>by rw[e]at E;omega
     rw[AP e];exact h7 x l f a d o h0
    .have:=GG h1;omega
  .refine ⟨i,s,b,by rw[Bi r];exact A,r,by omega,H,by omega,?_,fun x l f a d o h0=>?_⟩
   .rw [F,BO,AU rfl]
   .rcases LH a with a|⟨rfl,rfl⟩
    .have E:=h.done x l f a d o h0
     have e:m (q.nx l f).toNat≠m z:=fun e=>by rw[e]at E;omega
     rw[AP e];rcases h.plc _ (C l f (h.lt x l a).1 d h0)with h1|⟨j,t,h1,h2,h3⟩
     .omega
     .have:=GG h1;omega
    .omega
theorem OrdI.len (h:OrdI q n c m xs pl i b) (l:∀s,s<n->m s<c):xs.length<=c:=by
 have d:(xs.map m).Nodup:=by unfold List.Nodup;rw[List.pairwise_iff_getElem];intro j k f g o e;rw[A6]at f g;rw[ER,ER]at e;have h1:=(h.lt j _ (AG (show j<xs.length by omega))).2;have h2:=(h.lt k _ (AG g)).2;rw[e]at h1;omega
 have a:xs.map m ⊆ List.range c:=fun p r=>by obtain⟨s,t,rfl⟩:=Bd.1 r;obtain⟨j,f⟩:=List.getElem?_of_mem t;exact BE.2 (l s (h.lt j s f).1)
 have:=d.length_le_of_subset a;simpa using this
end
def F9 (q:SeqM) (m:Nat->Nat) (pl:Nat->Int) (s b:Nat):Int:=if q.nx s b<0 then q.nx s b else pl (m (q.nx s b).toNat)
def GZ (q:SeqM) (m:Nat->Nat) (pl:Nat->Int) (xs:List Nat):SeqM:=⟨q.front,xs.map (fun s=>(List.range 256).map (F9 q m pl s)),xs.map (fun s=>q.outs.getD s []),xs.map q.en,xs.map q.tl⟩
theorem X_ {α:Type} (g:Nat->α) (d:α) {n b:Nat} (a:b<n):((List.range n).map g).getD b d=g b:=by rw[AC,Ag,CP a];rfl
theorem IW {α:Type} (g:Nat->α) (d:α) {a:List Nat} {i s:Nat} (h:a[i]?=some s):(a.map g).getD i d=g s:=by rw[AC,Ag,h];rfl
section
variable {q:SeqM} {n c:Nat} {m:Nat->Nat} {xs:List Nat} {pl:Nat->Int} {i s b:Nat}
theorem NG (h:xs[i]?=some s) (a:b<256):(GZ q m pl xs).nx i b=F9 q m pl s b:=by unfold SeqM.nx GZ;simp only;rw[IW (fun s=>(List.range 256).map (F9 q m pl s)) [] h];exact X_ _ _ a
theorem TM (h:xs[i]?=some s):(GZ q m pl xs).os i b=q.os s b:=by unfold SeqM.os GZ;simp only;rw[IW (fun s=>q.outs.getD s []) [] h]
theorem Wv (h:xs[i]?=some s):(GZ q m pl xs).en i=q.en s:=by unfold SeqM.en GZ;simp only;exact IW q.en false h
theorem TN (h:xs[i]?=some s):(GZ q m pl xs).tl i=q.tl s:=by unfold SeqM.tl GZ;simp only;exact IW q.tl _ h
theorem JQ:(GZ q m pl xs).next.length=xs.length:=by unfold GZ;simp
section
variable (hck:Gp q=true) (hn:q.next.length=n) (hP:PartsOk q n m c) (hO:OrdI q n c m xs pl xs.length 0)
include hck hn hP hO
theorem Mi (hi:xs[i]?=some s) (a:b<256) (h0:0<=q.nx s b):∃j t:Nat,xs[j]?=some t/\pl (m (q.nx s b).toNat)=(j:Int)/\QD q t (q.nx s b).toNat:=by
 have c:=(hO.lt i s hi).1;have d:=(FQ hck (s:=s) (by rw[hn];exact c) a).2.1;rw[hn]at d;have e:=hO.done i s b hi a (.inl (GG hi)) h0;rcases hO.plc _ (hP.lt (q.nx s b).toNat (by omega))with h1|⟨j,t,h1,h2,h3⟩
 .omega
 .exact ⟨j,t,h1,h3,(hP.eq t _ (hO.lt j t h1).1 (by omega)).1 h2⟩
theorem LI:∀(w:List UInt8) (i s:Nat),xs[i]?=some s->(GZ q m pl xs).runL i w=q.runL s w
 | [],i,s,hi=>by unfold SeqM.runL;rw[Wv hi,TN hi]
 | a::w,i,s,hi=>by
  unfold SeqM.runL;rw[NG hi a.toNat_lt,TM hi];unfold F9;by_cases h0:q.nx s a.toNat<0
  .rw [AU h0,AU h0,AU h0]
  .obtain ⟨j,t,h1,h2,h3⟩:=Mi hck hn hP hO hi a.toNat_lt (by omega);rw[AP h0,AP h0,h2,AP (by omega),BO,LI w j t h1,h3 w]
theorem X1q (w:List UInt8):(GZ q m pl xs).run w=q.run w:=by
 have h1:=GG hO.first
 have h2:=(hO.lt 0 0 hO.first).1;unfold SeqM.run;rw[JQ,AP (by omega),AP (by omega),LI hck hn hP hO w 0 0 hO.first];rfl
theorem SH (y:Tight q):Canon (GZ q m pl xs):=by
 obtain⟨J,K,L,M,N,C⟩:=Ea hck;have z:=hO.len hP.lt;have d:∀i,i<(GZ q m pl xs).next.length->∃s,xs[i]?=some s/\s<n:=fun i hi=>by rw[JQ]at hi;have:=AG hi;exact⟨_,this,(hO.lt i _ this).1⟩
 have l:∀i b,i<(GZ q m pl xs).next.length->b<256->(GZ q m pl xs).nx i b<((GZ q m pl xs).next.length:Int):=fun i b hi f=>by
  obtain⟨s,a,c⟩:=d i hi;rw[NG a f,JQ];unfold F9;split
  .omega
  .obtain ⟨j,t,h1,h2,_⟩:=Mi hck hn hP hO a f (by omega);have:=GG h1;omega
 refine⟨⟨fun i hi=>?_,fun i hi u D=>?_,l⟩,by rw[JQ];exact GG hO.first,by unfold GZ;simp,fun i hi=>?_,fun i b hi f h0=>?_,fun i hi A=>?_,fun i j hi E h=>?_,fun i h0 hi=>?_⟩
 .obtain ⟨s,a,c⟩:=d i hi;obtain⟨o,w,p⟩:=y.live s (by omega);exact⟨o,w,by rw[LI hck hn hP hO w i s a];exact p⟩
 .obtain ⟨s,a,c⟩:=d i hi;exact y.none s (by omega) u fun o ⟨w,p⟩=>D o ⟨w,by rw[LI hck hn hP hO w i s a];exact p⟩
 .obtain ⟨s,a,c⟩:=d i hi;unfold GZ;simp only;rw[IW _ [] a,IW _ [] a];exact⟨by simp,(C s (by omega)).2⟩
 .obtain ⟨s,a,c⟩:=d i hi
  rw[NG a f]at h0 ⊢;rw[TM a];have F:=FQ hck (s:=s) (by rw[hn];exact c) f;unfold F9 at h0 ⊢;by_cases e:q.nx s b<0
  .rw [AU e];exact⟨by omega,F.2.2.2.1 (by omega)⟩
  .obtain ⟨j,t,h1,h2,_⟩:=Mi hck hn hP hO a f (by omega);rw[AP e,h2]at h0;omega
 .obtain ⟨s,a,c⟩:=d i hi;rw[Wv a]at A;rw[TN a];exact(FQ hck (s:=s) (b:=0) (by rw[hn];exact c) (by decide)).2.2.2.2.2 A
 .obtain ⟨s,a,c⟩:=d i hi
  obtain⟨t,B,r⟩:=d j E;have:m s=m t:=(hP.eq s t c r).2 fun w=>by rw[<-LI hck hn hP hO w i s a,<-LI hck hn hP hO w j t B];exact h w
  have h1:=(hO.lt i s a).2;have h2:=(hO.lt j t B).2;rw[this]at h1;omega
 .obtain ⟨s,a,c⟩:=d i hi
  obtain⟨j,t,b,h1,h2,_,h4,h5,h6,h7⟩:=hO.ord i s h0 a;refine⟨j,b,h2,h4,?_,fun v G g H=>?_⟩
  .rw [NG h1 h4];unfold F9;rw[AP (by omega)];exact h6
  .have x:v<(GZ q m pl xs).next.length:=by omega
   obtain⟨I,k,_⟩:=d v x;rw[NG k g];unfold F9;split
   .omega
   .exact h7 v I G k g H (by omega)
theorem SI:xs.length<=n/\∀i,i<xs.length->((GZ q m pl xs).tail.getD i ByteArray.empty).size<=4096/\((GZ q m pl xs).next.getD i []).length=256/\((GZ q m pl xs).outs.getD i []).length=256 /\∀b,b<256->-1<=((GZ q m pl xs).next.getD i []).getD b 0/\((GZ q m pl xs).next.getD i []).getD b 0<(xs.length:Int)/\(((GZ q m pl xs).outs.getD i []).getD b ByteArray.empty).size<=4096:=by
 obtain⟨l,o,p,r,u,e⟩:=Ea hck;refine⟨AK (hO.len hP.lt) (NC hP.onto),fun i hi=>?_⟩;have a:=AG hi;generalize xs[i]=s at a;have c:=(hO.lt i s a).1;refine⟨?_,?_,?_,fun b d=>?_⟩
 .have:=TN (q:=q) (m:=m) (pl:=pl) a;show((GZ q m pl xs).tl i).size<=4096;rw[this];exact(FQ hck (s:=s) (b:=0) (by rw[hn];exact c) (by decide)).2.2.2.2.1
 .unfold GZ;simp only;rw[IW _ [] a];simp
 .unfold GZ;simp only;rw[IW _ [] a];exact(e s (by omega)).2
 .have f:=FQ hck (s:=s) (by rw[hn];exact c) d
  have g:((GZ q m pl xs).next.getD i []).getD b 0=F9 q m pl s b:=NG a d;have k:((GZ q m pl xs).outs.getD i []).getD b ByteArray.empty=q.os s b:=TM a;rw[g,k];refine⟨?_,?_,f.2.2.1⟩
  .unfold F9
   split
   .omega
   .obtain ⟨j,t,h1,h2,_⟩:=Mi hck hn hP hO a d (by omega);omega
  .unfold F9
   split
   .omega
   .obtain ⟨j,t,h1,h2,_⟩:=Mi hck hn hP hO a d (by omega);have:=GG h1;omega
end
end
end
section
open Go.RowKit Go.Sort
theorem qV_at {xs:List Nat} {i s:Nat} (h:xs[i]?=some s) (d:Value):(qV xs).getD i d=.int .i64 (s:Int):=by unfold qV;rw[AC,Ag,h];rfl
def SJ (q:SeqM) (n c:Nat) (m:Nat->Nat) (w:World) (e:Ending) (w':World):Prop:=∃(v:Value) (xs:List Nat) (gP:Nat) (pl:Nat->Int),e=.returned (.tuple #[v,.slice (some ⟨gP,0,none⟩) c c])/\w'.ownsRow w.heap.size 3 1 v xs.length (qV xs)/\BL w' gP 3 (FF pl c)/\w.heap.size<=gP /\Below w.heap.size w w'/\OrdI q n c m xs pl xs.length 0
structure OdrW (w wr:World) (B:Nat) (cs:Array Value) (gP c:Nat) (v:Value) (xs:List Nat) (pl:Nat->Int):Prop where
 box:BL wr w.heap.size 27 cs
 st:wr.ownsRow B 3 1 v xs.length (qV xs)
 p:BL wr gP 3 (FF pl c)
 ap:v.ownBlock≠some gP
 lo:w.heap.size<gP
 lB:w.heap.size<B
 bel:Below w.heap.size w wr
section
variable {w wr w':World} {B gP c:Nat} {cs:Array Value} {v:Value} {xs:List Nat} {pl:Nat->Int}
theorem OdrW.call (h:OdrW w wr B cs gP c v xs pl) (a:Below wr.heap.size wr w'):OdrW w w' B cs gP c v xs pl:=⟨h.box.below a h.box.lt,BQ h.st a,h.p.below a h.p.lt,h.ap,h.lo,h.lB,h.bel.trans (a.mono h.bel.size)⟩
theorem OdrW.set (h:OdrW w wr B cs gP c v xs pl) (j:Nat) (a:j<c) (i:Int):OdrW w (wr.setCell ⟨gP,j,none⟩ (.int .i64 i)) B cs gP c v xs (fun t=>if t=j then i else pl t):=by have b:=h.lo;refine⟨h.box.far (p:=⟨gP,j,none⟩) (by show w.heap.size≠gP;omega) _,AO h.st h.ap _,?_,h.ap,h.lo,h.lB,h.bel.setCell (p:=⟨gP,j,none⟩) (by show w.heap.size<=gP;omega) _⟩;have:=h.p.set_ j (.int .i64 i);rwa [NE _ _ _ _ a]at this
theorem OdrW.push (h:OdrW w wr B cs gP c v xs pl) {v':Value} {z:Nat} (b:w'.ownsRow B 3 1 v' (xs.length+1) (qV xs++[.int .i64 (z:Int)])) (a:wr.grownBy w' v.ownBlock) (d:v'.ownBlock=v.ownBlock\/v'.ownBlock=some wr.heap.size) :OdrW w w' B cs gP c v' (xs++[z]) pl:=by
 have f:=h.lo;have g:=h.lB;refine⟨BM h.box a (fun e=>?_),?_,BM h.p a h.ap,?_,h.lo,h.lB,h.bel.grown a h.bel.size (fun k i=>by have:=(own_lt h.st k i).1;omega)⟩
 .have:=(own_lt h.st _ e).1;omega
 .have e:qV (xs++[z])=qV xs++[.int .i64 (z:Int)]:=by unfold qV;simp
  rw[e,AJ];exact b
 .intro e
  rcases d with h1|h1
  .exact h.ap (h1▸e)
  .rw [h1]at e;have:=h.p.lt;have:=AL e;omega
end
end
section
open Go.RowKit Go.Sort
theorem YA (q:SeqM) (v:Value) (B n c gm:Nat) (m:Nat->Nat) (w:World) (HS:GC w B q v) (hB:B<=w.heap.size) (ab:Gp q=true) (hn:q.next.length=n) (ac:0<n) (HM:BL w gm 3 (iV m n)) (hP:PartsOk q n m c) :Calls Tryz.prog 35 #[v,.slice (some ⟨gm,0,none⟩) n n,.int .i64 (c:Int)] w (SJ q n c m w):=by
 obtain⟨X,L,M,N,O,P,Q,R,rfl,hf,l1,l2,l3,l4,m1,m2,m3,m4,R1,J,R2,a9,R3,R4,ba⟩:=HS;obtain⟨p1,p2,p3,p4,p5,p6⟩:=Ea ab;have bb:=AB p6;have am:=AB (fun s b (f:s<n) (D:b<256)=>FQ ab (s:=s) (by rw[hn];exact f) D);have S:=AB hP;rw[p2,p3,p4];rw[hn]at p1 l1 R1 ⊢;have Hn:=AB hn;have b6:c<=n:=NC hP.onto;have F:m 0<c:=hP.lt 0 ac;generalize q.front=T at *;have K:=BL.new w 27 #[.string T,.slice X n L,.slice M n N,.slice O n P,.slice Q n R];have LB:=(AH w.heap.size w).alloc (AD _) (.cells #[.string T,.slice X n L,.slice M n N,.slice O n P,.slice Q n R] 27);have bu:=K.lt;have b7:=HM.lt;have an:=AB (fun(W:World) (D:Below w.heap.size w W) (z:Nat) (J:z<n)=>((HM.below D HM.lt).cell z).trans (Rz m J));have bc:=AB R1;obtain⟨i0,hi,ao,ap,aq⟩:=BK Fq;have ar:i0.bytes*c<=281474976710656:=by rw[aq];omega
 have bd:c<=maxLen:=by unfold maxLen;omega
 clear R1 R2 R3 R4 J a9 ba p2 p3 p4 p5 p6 ab hn l2 l3 l4 HM hP;go_enter Tryz.func35,Tryz.ntmps35;go_upto_region 2 with(at_make;refine Cw _ rfl _ _ 55 rfl (w.alloc (.cells #[.string T,.slice X n L,.slice M n N,.slice O n P,.slice Q n R] 27)).heap.size 3 i0 _ 1 Tryz.underlying55 hi ao ap _ _ (c:Int) (c:Int) c rfl rfl rfl rfl ar bd (AD _) ?_;intro w2 l au)
 have U:=(AH (w.alloc (.cells #[.string T,.slice X n L,.slice M n N,.slice O n P,.slice Q n R] 27)).heap.size _).grown au (AD _) (fun k e=>by cases e);rw[show(Value.int .i64 0).cells=#[Value.int .i64 0]from rfl,CG,BZ,IN]at l;have E:BL w2 (w.alloc (.cells #[.string T,.slice X n L,.slice M n N,.slice O n P,.slice Q n R] 27)).heap.size 3 (FF (fun _=>0) c):=DG l;rw[Ad]at E U;have K2:=K.below U (by simp);have av:=LB.trans (U.mono (by omega));have HG:=AB (AI E (AI K2 av));clear l au U K LB hi ao ap aq ar E K2 av;go_wp2;go_loopw [18] (fun i wr=>∃k:Nat,k<=c/\i=.int .i64 (k:Int)/\BL wr (w.heap.size+1) 3 (FF (fun j=>if j<k then -1 else 0) c)/\BL wr w.heap.size 27 #[.string T,.slice X n L,.slice M n N,.slice O n P,.slice Q n R]/\Below w.heap.size w wr) (fun i _=>c-(intOf i).toNat)
 case atStart=>exact⟨0,AN _,rfl,HG.out.1,HG.out.2.1,HG.out.2.2⟩
 case round=>
  clear HG;obtain⟨k,hk,rfl,E,hK,D⟩:=hrel;by_cases o:k<c
  .have aw:(0:Int)<=(k:Int):=by omega
   have ad:(k:Int)<(c:Int):=by omega
   have u1:=(E.cell k).trans (IE _ o);have u2:=E.frozen k;have V:=E.set_ k (.int .i64 (-1));rw[NE _ _ _ _ o]at V
   have e:(fun j=>if j=k then(-1:Int)else if j<k then -1 else 0)=fun j=>if j<k+1 then -1 else 0:=by
    funext j;by_cases h1:j=k
    .rw [AU h1,AU (by omega)]
    .rw [AP h1]
     by_cases h2:j<k
     .rw [AU h2,AU (by omega)]
     .rw [AP h2,AP (by omega)]
   rw[e]at V;have ae:=AB (AI V (AI (hK.far (p:=⟨w.heap.size+1,k,none⟩) (by show w.heap.size≠w.heap.size+1;omega) (.int .i64 (-1))) (D.setCell (p:=⟨w.heap.size+1,k,none⟩) (by show w.heap.size<=w.heap.size+1;omega) (.int .i64 (-1)))));clear E V e hK D;go_wp2;go_roundw
   case rel=>exact⟨k+1,by omega,by go_num,ae.out.1,ae.out.2.1,ae.out.2.2⟩
   case measure=>simp[intOf];omega
  .obtain rfl:c=k:=by omega
   have Y:FF (fun j=>if j<c then(-1:Int)else 0) c=FF (fun _=>-1) c:=by unfold FF;rw[IM (g:=fun _=>.int .i64 (-1)) (fun j hj=>by show Value.int _ (if j<c then(-1:Int)else 0)=_;rw[AU hj])]
   rw[Y]at E;clear Y;have ax:=D.size;have ay:=E.lt;have LQ:=(AH wr.heap.size wr).alloc (AD _) (.cells #[.int .i64 0] 3);have az:(wr.alloc (.cells #[.int .i64 0] 3)).ownsRow (w.heap.size+2) 3 1 (.slice (some ⟨wr.heap.size,0,none⟩) 1 1) 1 [.int .i64 0]:=ND (by omega) (BL.new wr 3 #[.int .i64 0]) (by unfold maxLen;decide);have G:OdrW w (wr.alloc (.cells #[.int .i64 0] 3)) (w.heap.size+2) #[.string T,.slice X n L,.slice M n N,.slice O n P,.slice Q n R] (w.heap.size+1) c (.slice (some ⟨wr.heap.size,0,none⟩) 1 1) [0] (fun _=>-1):=⟨hK.below LQ hK.lt,az,E.below LQ ay,(by show some wr.heap.size≠some (w.heap.size+1);intro e;have:=AL e;omega),by omega,by omega,D.trans (LQ.mono ax)⟩;have a1:=an.out _ G.bel 0 ac;have aw:(0:Int)<=(m 0:Int):=by omega
   have ad:(m 0:Int)<(c:Int):=by omega
   have be:(0:Int)<(n:Int):=by omega
   have u1:=(G.p.cell (m 0)).trans (IE _ F);have u2:=G.p.frozen (m 0);have x:=G.set (m 0) F 0;rw[GB _ _ _ _ ay]at x;have x:=AB x;have HOr:=AB (OrdI.start (q:=q) (n:=n) (c:=c) (m:=m) F ac);clear G az LQ E hK D;generalize m 0=z0 at *;go_wp2;clear a1 u1 u2;generalize ((wr.setCell ⟨w.heap.size+1,z0,none⟩ (.int .i64 0)).alloc (.cells #[.int .i64 0] 3))=w5 at *;generalize wr.heap.size=gq at *;go_loopw [10,11] (fun sv i wr=>∃(vv:Value) (xs:List Nat) (pl:Nat->Int) (A:Nat),vv=sv/\i=.int .i64 (A:Int)/\A<=xs.length/\OdrW w wr (w.heap.size+2) #[.string T,.slice X n L,.slice M n N,.slice O n P,.slice Q n R] (w.heap.size+1) c vv xs pl/\OrdI q n c m xs pl A 0) (fun _ i _=>c-(intOf i).toNat)
   case atStart=>exact⟨_,[0],_,0,rfl,rfl,AN _,x.out,HOr.out⟩
   case round=>
    clear x HOr;obtain⟨vv,xs,pl,A,rfl,rfl,bf,a,y⟩:=hrel;have a0:=y.len S.out.lt;have b8:=a.bel.size;obtain⟨Av,cv,rfl,a2,bg,af⟩:=BH a.st;by_cases o:A<xs.length
    .obtain ⟨s,f⟩:∃s,xs[A]?=some s:=⟨_,AG o⟩
     have ag:=(y.lt A s f).1;obtain⟨ga,rfl,bv,bw⟩:=af (by omega);have a1:=CM a.st A o Bf;rw[qV_at f]at a1;obtain⟨g1,o1,b9,d1,rfl,bh,x0,Q0,y1,z1⟩:=bc.out.at_ s ag;have x1:=((a.bel.mono hB).cell (p:=⟨g1,o1+s,none⟩) (by show g1<B;exact bh)).trans x0;have e1:(q.next.map fun r=>r.map (Value.int .i64)).getD s []=(q.next.getD s []).map (Value.int .i64):=by rw[AC,AC,Ag];cases q.next[s]?<;>rfl
     rw[e1]at x1 Q0 y1;simp only[A6]at x1 Q0 y1;rw[(bb.out s (by rw[Hn.out];exact ag)).1]at x1 Q0 y1;have bi:=AB (fun(W:World) (D:Below w.heap.size w W)=>Q0.below (D.mono hB));clear x0 Q0 e1;have k1:=a.box.cell 1;have y2:=AF a1;have y3:=AF x1;have y4:=AF k1;have bj:=AB (fun(W:World) (h:Below wr.heap.size wr W)=>a.call h);have a3:=AB y;have Z:=AB f;have aw:(0:Int)<=(A:Int):=by omega
     have ad:(A:Int)<(xs.length:Int):=by omega
     have be:(0:Int)<=(s:Int):=by omega
     have ca:(s:Int)<(n:Int):=by omega
     clear a y f af;have bk:=AB (Eq.refl xs.length);generalize ah:xs.length=xl at *;go_wp2;refine Au (by kernel_rfl) (by kernel_rfl) ?_
     repeat (go_big_quiet_step (fail))
     refine Ah ?_;intro w6 a4;have a5:=AB (bj.out w6 (Bu a4));clear a4 y2 y3 y4 a1 x1 k1;go_wp2;go_loopw [10,46] (fun sv i wr=>∃(vv:Value) (xs:List Nat) (pl:Nat->Int) (b:Nat),vv=sv/\i=.int .i64 (b:Int)/\b<=256/\OdrW w wr (w.heap.size+2) #[.string T,.slice (some ⟨g1,o1,none⟩) n L,.slice M n N,.slice O n P,.slice Q n R] (w.heap.size+1) c vv xs pl/\OrdI q n c m xs pl A b/\xs[A]?=some s) (fun _ i _=>256-(intOf i).toNat)
     case atStart=>exact⟨_,xs,pl,0,rfl,rfl,AN _,a5.out,a3.out,Z.out⟩
     case round=>
      clear a5 a3 Z ah bk o ad a2;clear a0 bf;obtain⟨vv,xs,pl,b,rfl,rfl,D,a,y,f⟩:=hrel;have a0:=y.len S.out.lt;have o:=GG f;have bx:=a.bel.size;obtain⟨Av,cv,rfl,a2,bg,af⟩:=BH a.st;by_cases H:b<256
      .have cb:(0:Int)<=(b:Int):=by omega
       have cc:(b:Int)<256:=by omega
       obtain⟨cd,bl,_⟩:=am.out s b ag H;rw[Hn.out]at bl;obtain⟨h1,q1,rfl,ce,r1⟩:=C6 (d:=0) (bi.out wr a.bel) b H;have bm:(q.next.getD s []).getD b 0=q.nx s b:=rfl;rw[bm]at r1;by_cases aa:q.nx s b<0
       .have C:=AB (y.pass f (fun h0=>absurd h0 (by omega)))
        have I:=AB a;have Z:=AB f;have bn:¬q.nx s b>=0:=by omega
        clear y a f;generalize q.nx s b=z at *;go_wp2;go_roundw
        case rel=>exact⟨_,xs,pl,b+1,rfl,by go_num,by omega,I.out,C.out,Z.out⟩
        case measure=>simp[intOf];omega
       .obtain ⟨z,J⟩:∃z:Nat,q.nx s b=(z:Int):=⟨_,(AT (by omega)).symm⟩
        have ai:z<n:=by omega
        have aj:=S.out.lt z ai;have bz:(0:Int)<=(z:Int):=by omega
        have b0:(z:Int)<(n:Int):=by omega
        have bn:(z:Int)>=0:=by omega
        have b1:(0:Int)<=(m z:Int):=by omega
        have b2:(m z:Int)<(c:Int):=by omega
        have a1:=an.out wr a.bel z ai;have u1:=(a.p.cell (m z)).trans (IE _ aj)
        have b3:-1<=pl (m z)/\pl (m z)<=1024:=by
         rcases y.plc (m z) aj with h1|⟨j,t,h1,h2,h3⟩
         .omega
         .have:=GG h1;omega
        by_cases bo:pl (m z)<0
        .have C:=AB (y.put f H J ai bo (fun t b ht D h0=>S.out.lt _ (by have:=(am.out t b ht D).2.1;rw[Hn.out]at this;omega)))
         have Z:=AB (show(xs++[z])[A]?=some s by rw[Bi o];exact f);have u2:=a.p.frozen (m z);have x:=a.set (m z) aj (xs.length:Int);have LA:=(AH (wr.setCell ⟨w.heap.size+1,m z,none⟩ (.int .i64 (xs.length:Int))).heap.size (wr.setCell ⟨w.heap.size+1,m z,none⟩ (.int .i64 (xs.length:Int)))).alloc (AD _) (.cells #[.int .i64 (z:Int)] 3);have ak:=x.call LA;have bp:=ak.st;have bq:=AB ak;have br:=Bg (wr.setCell ⟨w.heap.size+1,m z,none⟩ (.int .i64 (xs.length:Int))) [.int .i64 (z:Int)] 3 1 1 rfl;obtain⟨i1,t0,t1,t2,t3⟩:=BK Fq;have a6:∀u∈[Value.int .i64 (z:Int)],u.oneCell'=true:=fun u hu=>by rw[AM]at hu;subst hu;rfl
         have h63:xs.length+1<=maxLen:=by unfold maxLen;omega
         have bs:(xs.length+1)*8<=140737488355328:=by omega
         have bt:w.heap.size+2<=((wr.setCell ⟨w.heap.size+1,m z,none⟩ (.int .i64 (xs.length:Int))).alloc (.cells #[.int .i64 (z:Int)] 3)).heap.size:=by have:=a.p.lt;simp;omega
         rw[J]at r1 aa;clear a x ak LA y f J;generalize b4:m z=mz at *;generalize b5:pl mz=pz at *;go_upto_region 17 with(fail)
         clear a1 u1 u2 r1;generalize wr.setCell ⟨w.heap.size+1,mz,none⟩ (.int .i64 (xs.length:Int))=w7 at *;generalize ah:xs.length=xl at *
         go_wp2_with (at_builtin;refine Ba _ rfl _ _ 55 rfl (w.heap.size+2) 3 i1 _ 1 8 Tryz.underlying55 t0 t1 t2 t3 rfl (by decide) _ _ _ rfl bp _ (some ⟨w7.heap.size,0,none⟩) 1 1 [.int .i64 (z:Int)] rfl br a6 h63 bs bt ?_;intro v' w8 l al a7)
         go_roundw
         case rel=>exact⟨_,xs++[z],_,b+1,rfl,by go_num,by omega,bq.out.push (by rw[ah];exact l) al a7,C.out,Z.out⟩
         case measure=>simp[intOf];omega
        .have C:=AB (y.pass f (fun h0=>by rw[J,BO];omega))
         have I:=AB a;have Z:=AB f;rw[J]at r1 aa;clear y a f J;generalize m z=mz at *;generalize pl mz=pz at *;go_wp2;go_roundw
         case rel=>exact⟨_,xs,pl,b+1,rfl,by go_num,by omega,I.out,C.out,Z.out⟩
         case measure=>simp[intOf];omega
      .obtain rfl:b=256:=by omega
       have C:=AB y.next;have I:=AB a;clear y a f;go_wp2;go_roundw
       case rel=>exact⟨_,xs,pl,A+1,rfl,by go_num,by omega,I.out,C.out⟩
       case measure=>simp[intOf];omega
    .obtain rfl:A=xs.length:=by omega
     have a8:=a.bel;have HP:=AB (show SJ q n c m w (.returned (.tuple #[.slice Av xs.length cv,.slice (some ⟨w.heap.size+1,0,none⟩) c c])) wr from⟨_,xs,_,pl,rfl,Md a.st (by omega),a.p,by omega,a8,y⟩);clear a y a8;generalize xs.length=xl at *;go_wp2;exact AQ (v:=.tuple #[.slice Av xl cv,.slice (some ⟨w.heap.size+1,0,none⟩) c c]) (by simp[results,Tryz.results35,go_sem]) rfl HP.out
end
section
open Go.RowKit Go.Sort
theorem SM (t:Fs) (vt:Value) (B:Nat) (most:Int) (w:World) (ci:EK w B t vt) (hB:B<=w.heap.size) (hP:Pow w w.heap.size) (dt:-9223372036854775808<=most/\most<=9223372036854775807) :Calls Tryz.prog 10 #[vt,.int .i64 most] w (TJ t most w):=by
 have bo:=ci;obtain⟨A1,c1,A2,c2,A3,c3,rfl,h1,h2,h3,h4,h5,h6,h7,h8,R1,W1,R2,W2,R3,W3⟩:=ci;have B0:Below w.heap.size w ((w.alloc (.cells #[.int .i64 t.n,.slice A1 t.starts.length c1,.slice A2 t.ends.length c2,.slice A3 t.arcs.length c3] 32)).alloc (.cells #[.string ⟨#[]⟩,.slice none 0 0,.slice none 0 0,.slice none 0 0,.slice none 0 0] 27)):=((AH _ w).alloc (AD _) _).alloc (by simp) _;have Ja:=(BL.new w 32 #[.int .i64 t.n,.slice A1 t.starts.length c1,.slice A2 t.ends.length c2,.slice A3 t.arcs.length c3]).alloc (.cells #[.string ⟨#[]⟩,.slice none 0 0,.slice none 0 0,.slice none 0 0,.slice none 0 0] 27);have Jr:=BL.new (w.alloc (.cells #[.int .i64 t.n,.slice A1 t.starts.length c1,.slice A2 t.ends.length c2,.slice A3 t.arcs.length c3] 32)) 27 #[.string ⟨#[]⟩,.slice none 0 0,.slice none 0 0,.slice none 0 0,.slice none 0 0];simp only[Ad]at Jr;have bp:=fun W (hb:Below w.heap.size w W)=>GX t _ B W (bo.below (hb.mono hB)) (AK hB hb.size)
 have Q:=bp _ B0
 have ap:=AB (fun(w':World) (hb:Below w.heap.size w w') (hn:¬(Dq t=true/\1<=most/\most<=1024))=>show TJ t most w (.returned (.tuple #[.agg #[.string ⟨#[]⟩,.slice none 0 0,.slice none 0 0,.slice none 0 0,.slice none 0 0],.int .i64 1])) w' from
  ⟨hb,_,MI,1,rfl,I5 _ _,fun _=>rfl,fun _=>rfl,fun a b c=>(hn ⟨a,b,c⟩).elim⟩)
 have j0:=Ja.cell 0;have j1:=Ja.cell 1;have j2:=Ja.cell 2;have j3:=Ja.cell 3;clear R1 R2 R3 W1 W2 W3;rcases ae:Dq t with _|_
 .rw [ae]at Q
  have HC:=AB Q;go_enter Tryz.func10,Tryz.ntmps10
  go_wp2_with fail
  refine HC.out.mono ?_;rintro e w1 ⟨rfl,F⟩;have j:=Jr.below F Jr.lt;have r0:=j.cell 0;have r1:=j.cell 1;have r2:=j.cell 2;have r3:=j.cell 3;have r4:=j.cell 4;have g0:=j.frozen 0;have g1:=j.frozen 1;have g2:=j.frozen 2;have g3:=j.frozen 3;have g4:=j.frozen 4;have c0:O1 false=1:=rfl
  go_wp2_with fail
  exact Qm rfl rfl (Ec j _ _ _ _ _) (ap.out _ (DR (B0.trans (F.mono (by simp;omega))) (by omega) _ _ _ _ _) (by rw[ae];rintro⟨h,_⟩;cases h))
 .rw [ae]at Q
  have HC:=AB Q;have c0:O1 true=0:=rfl;by_cases b0:most<1
  .go_enter Tryz.func10,Tryz.ntmps10
   go_wp2_with fail
   refine HC.out.mono ?_;rintro e w1 ⟨rfl,F⟩;have j:=Jr.below F Jr.lt;have r0:=j.cell 0;have r1:=j.cell 1;have r2:=j.cell 2;have r3:=j.cell 3;have r4:=j.cell 4;have g0:=j.frozen 0;have g1:=j.frozen 1;have g2:=j.frozen 2;have g3:=j.frozen 3;have g4:=j.frozen 4
   go_wp2_with fail
   exact Qm rfl rfl (Ec j _ _ _ _ _) (ap.out _ (DR (B0.trans (F.mono (by simp;omega))) (by omega) _ _ _ _ _) (by omega))
  by_cases du:most>1024
  .have ds:¬most<1:=b0
   go_enter Tryz.func10,Tryz.ntmps10
   go_wp2_with fail
   refine HC.out.mono ?_;rintro e w1 ⟨rfl,F⟩;have j:=Jr.below F Jr.lt;have r0:=j.cell 0;have r1:=j.cell 1;have r2:=j.cell 2;have r3:=j.cell 3;have r4:=j.cell 4;have g0:=j.frozen 0;have g1:=j.frozen 1;have g2:=j.frozen 2;have g3:=j.frozen 3;have g4:=j.frozen 4
   go_wp2_with fail
   exact Qm rfl rfl (Ec j _ _ _ _ _) (ap.out _ (DR (B0.trans (F.mono (by simp;omega))) (by omega) _ _ _ _ _) (by omega))
  .obtain ⟨mo,rfl⟩:=Dr (show 0<=most by omega)
   have c4:=AB (fun W (hb:Below w.heap.size w W)=>Ql t _ B W (bo.below (hb.mono hB)) (AK hB hb.size));go_enter Tryz.func10,Tryz.ntmps10
   go_wp2_with fail
   refine HC.out.mono ?_;rintro e w1 ⟨rfl,F⟩;have aa:=Ja.below F Ja.lt;have j:=Jr.below F Jr.lt;have ak:=B0.trans (F.mono (by simp;omega));have j0:=aa.cell 0;have j1:=aa.cell 1;have j2:=aa.cell 2;have j3:=aa.cell 3;clear Ja Jr
   go_wp2_with fail
   refine(c4.out w1 ak).mono ?_;rintro e w2 ⟨u,r,⟨vu,rfl,hU,cj,bf⟩,ck,_,cl⟩;obtain rfl:=cl ae;obtain⟨_,aq,f,b5⟩:=ck rfl;obtain⟨B1,d1,B2,d2,B3,d3,rfl,e1,e2,e3,e4,e5,e6,e7,e8,U1,V1,U2,V2,U3,V3⟩:=hU;obtain⟨_,D1,c5,_,D2,c6,_,D3,c7,_,bg,f1,f2,f3⟩:=cj;have bg:B1=D1/\B2=D2/\B3=D3/\u.starts.length=c5/\u.ends.length=c6/\u.arcs.length=c7:=by simp at bg;obtain⟨_,⟨a,b,_⟩,⟨c,d,_⟩,e,f,_⟩:=bg;exact⟨a,c,e,b,d,f⟩
   obtain⟨rfl,rfl,rfl,rfl,rfl,rfl⟩:=bg;obtain⟨s1,s2,s3,s4,s5,s6,s7,s8⟩:=Kx aq;obtain⟨n,hn⟩:∃n:Nat,u.n=(n:Int):=⟨u.n.toNat,(AT s1).symm⟩
   have C:w.heap.size<w1.heap.size:=aa.lt;have Y:=aa.below bf aa.lt;have cm:=j.below bf j.lt;have bq:=ak.trans (bf.mono ak.size);have k0:=Y.cell 0;have k1:=Y.cell 1;have k2:=Y.cell 2;have k3:=Y.cell 3;have l0:=Y.frozen 0;have l1:=Y.frozen 1;have l2:=Y.frozen 2;have l3:=Y.frozen 3;have dv:=@run_makeMap Tryz.prog;go_upto_region 7 with(fail)
   have b6:((((w2.setCell ⟨w.heap.size,0,none⟩ (.int .i64 (n:Int))).setCell ⟨w.heap.size,1,none⟩ (.slice B1 u.starts.length d1)).setCell ⟨w.heap.size,2,none⟩ (.slice B2 u.ends.length d2)).setCell ⟨w.heap.size,3,none⟩ (.slice B3 u.arcs.length d3)).heap.size=w2.heap.size:=by simp
   have af:BL ((((w2.setCell ⟨w.heap.size,0,none⟩ (.int .i64 (n:Int))).setCell ⟨w.heap.size,1,none⟩ (.slice B1 u.starts.length d1)).setCell ⟨w.heap.size,2,none⟩ (.slice B2 u.ends.length d2)).setCell ⟨w.heap.size,3,none⟩ (.slice B3 u.arcs.length d3)) w.heap.size 32 #[.int .i64 (n:Int),.slice B1 u.starts.length d1,.slice B2 u.ends.length d2,.slice B3 u.arcs.length d3]:=(((Y.set_ 0 _).set_ 1 _).set_ 2 _).set_ 3 _;have bh:w.heap.size+1≠w.heap.size:=by omega
   have b7:=(((cm.far (p:=⟨w.heap.size,0,none⟩) bh (.int .i64 (n:Int))).far (p:=⟨w.heap.size,1,none⟩) bh (.slice B1 u.starts.length d1)).far (p:=⟨w.heap.size,2,none⟩) bh (.slice B2 u.ends.length d2)).far (p:=⟨w.heap.size,3,none⟩) bh (.slice B3 u.arcs.length d3);have ar:=(((bq.setCell (p:=⟨w.heap.size,0,none⟩) (AD _) (.int .i64 (n:Int))).setCell (p:=⟨w.heap.size,1,none⟩) (AD _) (.slice B1 u.starts.length d1)).setCell (p:=⟨w.heap.size,2,none⟩) (AD _) (.slice B2 u.ends.length d2)).setCell (p:=⟨w.heap.size,3,none⟩) (AD _) (.slice B3 u.arcs.length d3);have c8:=(((U1.freshSet f1 (p:=⟨w.heap.size,0,none⟩) C (.int .i64 (n:Int))).freshSet f1 (p:=⟨w.heap.size,1,none⟩) C (.slice B1 u.starts.length d1)).freshSet f1 (p:=⟨w.heap.size,2,none⟩) C (.slice B2 u.ends.length d2)).freshSet f1 (p:=⟨w.heap.size,3,none⟩) C (.slice B3 u.arcs.length d3);have c9:=(((U2.freshSet f2 (p:=⟨w.heap.size,0,none⟩) C (.int .i64 (n:Int))).freshSet f2 (p:=⟨w.heap.size,1,none⟩) C (.slice B1 u.starts.length d1)).freshSet f2 (p:=⟨w.heap.size,2,none⟩) C (.slice B2 u.ends.length d2)).freshSet f2 (p:=⟨w.heap.size,3,none⟩) C (.slice B3 u.arcs.length d3);have da:=(((U3.freshSet f3 (p:=⟨w.heap.size,0,none⟩) C (.int .i64 (n:Int))).freshSet f3 (p:=⟨w.heap.size,1,none⟩) C (.slice B1 u.starts.length d1)).freshSet f3 (p:=⟨w.heap.size,2,none⟩) C (.slice B2 u.ends.length d2)).freshSet f3 (p:=⟨w.heap.size,3,none⟩) C (.slice B3 u.arcs.length d3);clear k0 k1 k2 k3 l0 l1 l2 l3 aa j Y cm ak bq U1 U2 U3 f1 f2 f3 F bf bp Q HC B0;generalize ((((w2.setCell ⟨w.heap.size,0,none⟩ (.int .i64 (n:Int))).setCell ⟨w.heap.size,1,none⟩ (.slice B1 u.starts.length d1)).setCell ⟨w.heap.size,2,none⟩ (.slice B2 u.ends.length d2)).setCell ⟨w.heap.size,3,none⟩ (.slice B3 u.arcs.length d3))=W4 at *;generalize w2.heap.size=K at *;have HV:=AB (AI V1 (AI V2 V3));have HS:=AB (AI s6 (AI s7 s8));clear V1 V2 V3 s6 s7 s8;obtain⟨Sx,o⟩:∃Sx:World->Prop,Sx=fun W=>BL W w.heap.size 32 #[.int .i64 (n:Int),.slice B1 u.starts.length d1,.slice B2 u.ends.length d2,.slice B3 u.arcs.length d3]:=⟨_,rfl⟩
   have E:=fun W x1=>show Sx W by rw[o];exact x1
   have y:=fun W (h:Sx W)=>show BL W w.heap.size 32 #[.int .i64 (n:Int),.slice B1 u.starts.length d1,.slice B2 u.ends.length d2,.slice B3 u.arcs.length d3]by rw[o]at h;exact h
   have y0:=fun p:Cr Sx=>(y p.w p.2).cell 0
   clear o;have db:w.heap.size+1<K:=by have:=b7.lt;omega
   have cn:=(AH K W4).alloc (by omega) (.map #[] 0);have br:=cn.alloc (by simp;omega) (.cells (YD Bf (mo:Int) K) 78);have bs:BL ((W4.alloc (.map #[] 0)).alloc (.cells (YD Bf (mo:Int) K) 78)) (K+1) 78 (YD Bf (mo:Int) K):=by have:=BL.new (W4.alloc (.map #[] 0)) 78 (YD Bf (mo:Int) K);rw[Ad,b6]at this;exact this
   have bt:NP ((W4.alloc (.map #[] 0)).alloc (.cells (YD Bf (mo:Int) K) 78)) K []:=by have:=(NP.made W4).below ((AH _ (W4.alloc (.map #[] 0))).alloc (AD _) (.cells (YD Bf (mo:Int) K) 78)) (AD _);rw[b6]at this;exact this
   have O:Sx ((W4.alloc (.map #[] 0)).alloc (.cells (YD Bf (mo:Int) K) 78)).drew:=E _ ((af.alloc _).alloc _);have b8:Nonempty (Cr Sx):=⟨⟨_,O⟩⟩;obtain⟨iA,a1,a2,a3,a4⟩:=BK Ni;obtain⟨iE,b1,b2,b3,b4⟩:=BK Kt;have al:n<=1024:=by omega
   refine TR (B0:=K) (G:=K+1) (MB:=K) (n:=n) (most:=(mo:Int)) Sx (by kernel_rfl) (by kernel_rfl) a1 a2 a3 a4 b1 b2 b3 b4 al rfl rfl rfl rfl rfl rfl rfl rfl rfl ?_ ?_ ?_ O (fun W W' h hb=>E _ ((y _ h).below hb (y _ h).lt)) (fun W v h=>E _ ((y _ h).far (p:=⟨K+1,0,none⟩) (by show w.heap.size≠K+1;omega) v)) ?_
   .intro a W KK ha hk;unfold Oper.wp;simp only[execOp,ha];simp[go_sem];exact hk
   .intro a W KK ha hk;unfold Oper.wp;simp only[execOp,ha];simp[go_sem];exact hk
   .intro a W KK LA ha hb hc hf hk;unfold Oper.wp;simp only[execOp,ha,hb];simp[go_sem,hc,hf];exact hk
   .simp only[CV,A_,BA]
    repeat (go_big_quiet_step (fail))
    refine Ah ?_;clear y0;refine OD.start _ ⟨by show 46<107;decide,rfl,rfl,rfl⟩ (EQ _) bs O ?_;intro LA LE W au av co bi bj am;have cq:((W4.alloc (.map #[] 0)).alloc (.cells (YD Bf (mo:Int) K) 78)).heap.size=K+1+1:=by simp;omega
    rw[cq]at bi bj av;have cr:LE≠K+1:=by have:=(own_lt bj LE rfl).1;omega
    have cs:LA≠K+1:=by have:=(own_lt bi LA rfl).1;omega
    have bu:=am.set_ 1 (.slice (some ⟨LE,0,none⟩) n n);have hW:Below W4.heap.size W4 W:=by rw[b6];exact br.trans au
    have aw:NP W K []:=bt.kept (row:=some (K+1)) ⟨au.os,au.tape,au.output,by rw[cq];exact av,fun g hg hn=>co g hg (fun e=>hn (BY some e))⟩ (fun e=>by have:=AL e;omega)
    have b9:OfW W4 (W.setCell ⟨K+1,1,none⟩ (.slice (some ⟨LE,0,none⟩) n n)) (K+1) K LA LE n (mo:Int) (List.replicate n Bf) (List.replicate n Bf) (Kc u.arcs 0) (H9 u.ends 0):={
     box:=bu
     num:=aw.setCell (p:=⟨K+1,1,none⟩) (by show K+1≠K;omega) _
     gA:=J8 (Md (AO bi (p:=⟨K+1,1,none⟩) (fun e=>cs (AL e)) _) (by omega)) (fun _=>rfl)
     gE:=J8 (Md (AO bj (p:=⟨K+1,1,none⟩) (fun e=>cr (AL e)) _) (by omega)) (fun _=>rfl)
     lG:=by omega
     lM:=by omega
     bel:=hW.setCell (p:=⟨K+1,1,none⟩) (by show W4.heap.size<=K+1;omega) _ }
    have dc:=am.cell 1;have dd:=am.frozen 1;have Z:=af.below b9.bel af.lt;have k3:=Z.cell 3;have bv:=AB b9;clear bu aw hW au co bi bj av am b9 bs bt cn br Z O E y b8 a1 a2 a3 a4 b1 b2 b3 b4;simp only[Act.put];go_wp2;refine Be ?_;generalize W.setCell ⟨K+1,1,none⟩ (.slice (some ⟨LE,0,none⟩) n n)=W5 at *;clear dc dd;generalize ct:u.arcs.length=na at *;have bk:=AB ct;clear ct;generalize cu:u.ends.length=ne at *;have bl:=AB cu;clear cu;go_wp2;clear k3;go_loopw [52] (fun i wr=>∃(k:Nat) (vA vE:List Value),k<=na/\i=.int .i64 ((k:Nat):Int)/\OfW W4 wr (K+1) K LA LE n (mo:Int) vA vE (Kc u.arcs k) (H9 u.ends 0)) (fun i _=>na-(intOf i).toNat)
    case atStart=>exact⟨0,_,_,AN _,rfl,bv.out⟩
    case round=>
     clear bv;obtain⟨k,vA,vE,hk,rfl,H⟩:=hrel;by_cases ca:k<na
     .have de:(0:Int)<=(k:Int):=by omega
      have df:(k:Int)<(na:Int):=by omega
      obtain⟨g3,o3,rfl,dg,a0,a1,a2,a3,a4,a5,a6,a7⟩:=Di (da.below (H.bel.mono (by omega))) k ca;have ax:k<u.arcs.length:=by have:=bk.out;omega
      have hx:=HS.out.2.2 _ (getD_in u.arcs Cq k ax);obtain⟨s,hs⟩:∃s:Nat,(u.arcs.getD k Cq).fr=(s:Int):=⟨_,(AT hx.1).symm⟩
      have A:s<n:=by omega
      have ag:=AB (Vo u.arcs k ax);have dh:(Kc u.arcs k s).length<=16384:=AK (Xr u.arcs k s) (by have:=bk.out;omega);clear hx;generalize Kc u.arcs k=rows at *;generalize u.arcs.getD k Cq=x at *;obtain⟨fr,tt,⟨I,J,L,M⟩,q,cp⟩:=x;simp only at hs a0 a1 a2 a3 a4 a5 a6 a7;subst hs;have di:(0:Int)<=(s:Int):=by omega
      have dj:(s:Int)<(n:Int):=by omega
      have R:=H.call ((AH wr.heap.size wr).alloc (AD _) (.cells #[.int .i64 (s:Int),.int .i64 tt,.int .u64 I,.int .u64 J,.int .u64 L,.int .u64 M,.string q,.bool cp] 61));have HG:=BL.new wr 61 #[.int .i64 (s:Int),.int .i64 tt,.int .u64 I,.int .u64 J,.int .u64 L,.int .u64 M,.string q,.bool cp];have cw:=H.bel.size;have an:=fun g (e:(vA.getD s Bf).ownBlock=some g)=>(own_lt (H.gA.row s A) g e).2
      clear H;go_wp2;clear a0 a1 a2 a3 a4 a5 a6 a7;generalize cb:wr.heap.size=gx at *;have cc:(wr.alloc (.cells #[.int .i64 (s:Int),.int .i64 tt,.int .u64 I,.int .u64 J,.int .u64 L,.int .u64 M,.string q,.bool cp] 61)).heap.size=gx+1:=by rw[Ad,cb]
      generalize (wr.alloc (.cells #[.int .i64 (s:Int),.int .i64 tt,.int .u64 I,.int .u64 J,.int .u64 L,.int .u64 M,.string q,.bool cp] 61))=wa at *;have ay:=R.gA.row s A;obtain⟨Av,cv,hv,dk,dl,dm⟩:=BH ay;have ah:=CM R.gA.own s A Bf;rw[hv]at ah;obtain⟨S,o⟩:∃S:World->Prop,S=fun W=>BL W gx 61 #[.int .i64 (s:Int),.int .i64 tt,.int .u64 I,.int .u64 J,.int .u64 L,.int .u64 M,.string q,.bool cp]/\BL W (K+1) 78 (Li (.slice (some ⟨LA,0,none⟩) n n) (.slice (some ⟨LE,0,none⟩) n n) (mo:Int) K ⟨#[]⟩ Bf Bf Bf Bf Bf)/\W.cell? ⟨LA,s,none⟩=some (.slice Av (rows s).length cv):=⟨_,rfl⟩
      have E:=fun W h1 h2 h3=>show S W by rw[o];exact⟨h1,h2,h3⟩
      have y:=fun W (h:S W)=>show BL W gx 61 #[.int .i64 (s:Int),.int .i64 tt,.int .u64 I,.int .u64 J,.int .u64 L,.int .u64 M,.string q,.bool cp]/\BL W (K+1) 78 (Li (.slice (some ⟨LA,0,none⟩) n n) (.slice (some ⟨LE,0,none⟩) n n) (mo:Int) K ⟨#[]⟩ Bf Bf Bf Bf Bf)/\W.cell? ⟨LA,s,none⟩=some (.slice Av (rows s).length cv)by rw[o]at h;exact h
      have z0:=fun p:Cr S=>(y p.w p.2).1.cell 0
      have z1:=fun p:Cr S=>(y p.w p.2).1.cell 1
      have z2:=fun p:Cr S=>(y p.w p.2).1.cell 2
      have z3:=fun p:Cr S=>(y p.w p.2).1.cell 3
      have z4:=fun p:Cr S=>(y p.w p.2).1.cell 4
      have z5:=fun p:Cr S=>(y p.w p.2).1.cell 5
      have z6:=fun p:Cr S=>(y p.w p.2).1.cell 6
      have z7:=fun p:Cr S=>(y p.w p.2).1.cell 7
      have zG:=fun p:Cr S=>(y p.w p.2).2.1.cell 0
      have zL:=fun p:Cr S=>(y p.w p.2).2.2
      have O:S wa.drew:=E _ HG R.box ah;clear o;have b8:Nonempty (Cr S):=⟨⟨_,O⟩⟩;go_wp2;refine Cs S 17 [0,1,2,3,4,5,6,7,8,9,10,11,12,13,14] [15,16] (by kernel_rfl) (by kernel_rfl) rfl (by kernel_rfl) O ?_;simp only[CV,A_,BA,Az,BI]
      repeat (go_big_quiet_step (fail))
      refine Ah ?_;clear z0 z1 z2 z3 z4 z5 z6 z7 zL zG;refine BU rfl (fun KK T=>?_);go_simp;have ai:Below wa.heap.size wa (wa.drew.alloc (.cells #[.int .i64 (s:Int),.int .i64 tt,.int .u64 I,.int .u64 J,.int .u64 L,.int .u64 M,.string q,.bool cp] 61)):=(AH _ wa).drew.alloc (AD _) _;have ab:=HG.below ai (by omega);have m:=R.call ai;have U:=CM m.gA.own s A Bf;rw[hv]at U;refine T _ _ (EW.of (E _ ab m.box U)) ?_;clear T KK;have aj:=Bg wa.drew [.int .i64 (s:Int),.int .i64 tt,.int .u64 I,.int .u64 J,.int .u64 L,.int .u64 M,.string q,.bool cp] 61 8 1 rfl;rw[show wa.drew.heap.size=gx+1 from cc]at aj;have D:=m.gA.row s A;rw[hv]at D;have az:=ID ⟨(s:Int),tt,⟨I,J,L,M⟩,q,cp⟩;have h63:(rows s).length+1<=maxLen:=by unfold maxLen;omega
      have cd:((rows s).length+1)*72<=140737488355328:=by omega
      have ce:W4.heap.size<=(wa.drew.alloc (.cells #[.int .i64 (s:Int),.int .i64 tt,.int .u64 I,.int .u64 J,.int .u64 L,.int .u64 M,.string q,.bool cp] 61)).heap.size:=m.bel.size;obtain⟨ia,cf,a8,a9,ba⟩:=BK Ig;refine BU rfl (fun KK T=>?_);refine DL _ _ _ 30 rfl W4.heap.size 61 ia _ 8 72 Tryz.underlying30 cf a8 a9 ba rfl (by decide) _ _ _ rfl D _ (some ⟨gx+1,0,none⟩) 1 1 [.int .i64 (s:Int),.int .i64 tt,.int .u64 I,.int .u64 J,.int .u64 L,.int .u64 M,.string q,.bool cp] rfl aj az h63 cd ce ?_;intro v' w5 V N ac;have l:=N;rw[<-hv]at l;have HW:=m.putA s A ⟨(s:Int),tt,⟨I,J,L,M⟩,q,cp⟩ l V (by rw[hv];exact ac);have k5:=m.gA.own.kept l (BG m.gA.own (m.gA.row s A) (by decide)).or_none;have X:=CM k5 s A Bf;have bb:=Df k5 s;rw[hv]at X;have bc:=BM ab N (fun e=>by have:=an gx (by rw[hv];exact e);omega);have bd:=BM m.box l (AV (m.gA.row s A) m.box (by decide));refine T _ _ (EW.of (E _ bc bd X)) ?_;clear T KK;obtain⟨cg,ch,rfl,_,_,_⟩:=BH V;clear V N l ac aj D ab bc HG m R E y O k5 ai ah U bd an;refine Cc ?_;go_wp2;refine Be ?_;clear X bb;go_wp2;go_roundw
      case rel=>
       refine⟨k+1,vA.set s (.slice cg ((rows s).length+1) ch),vE,by omega,by go_num,?_⟩
       have e:Kc u.arcs (k+1)=fun z=>if z=s then rows s++[(⟨(s:Int),tt,⟨I,J,L,M⟩,q,cp⟩:Ar)]else rows z:=by
        funext z;rw[ag.out z];by_cases hu:z=s
        .subst hu;rw[AU rfl,AU rfl]
        .rw [AP (show ¬((z:Int)=(s:Int))by omega),AP hu]
       rw[e];exact HW
      case measure=>simp[intOf];omega
     .obtain rfl:na=k:=by omega
      have bw:Kc u.arcs na=Lz u.arcs:=by rw[<-bk.out];exact Xs _
      rw[bw]at H;have cx:=AB H;have Z:=af.below H.bel af.lt;have k2:=Z.cell 2;clear bw Z H;go_wp2;clear k2;go_loopw [78] (fun i wr=>∃(k:Nat) (vA vE:List Value),k<=ne/\i=.int .i64 ((k:Nat):Int)/\OfW W4 wr (K+1) K LA LE n (mo:Int) vA vE (Lz u.arcs) (H9 u.ends k)) (fun i _=>ne-(intOf i).toNat)
      case atStart=>exact⟨0,_,_,AN _,rfl,cx.out⟩
      case round=>
       clear cx vA vE;obtain⟨k,vA,vE,hk,rfl,H⟩:=hrel;by_cases ca:k<ne
       .have de:(0:Int)<=(k:Int):=by omega
        have df:(k:Int)<(ne:Int):=by omega
        obtain⟨g3,o3,rfl,dg,a0,a1⟩:=Dh (c9.below (H.bel.mono (by omega))) k ca;have ax:k<u.ends.length:=by have:=bl.out;omega
        have hx:=HS.out.2.1 _ (getD_in u.ends DI k ax);obtain⟨s,hs⟩:∃s:Nat,(u.ends.getD k DI).st=(s:Int):=⟨_,(AT hx.1).symm⟩
        have A:s<n:=by omega
        have ag:=AB (Qn u.ends k ax);have dh:(H9 u.ends k s).length<=1024:=AK (SD u.ends k s) (by have:=bl.out;omega);clear hx;generalize H9 u.ends k=rows at *;generalize u.ends.getD k DI=x at *;obtain⟨fr,q⟩:=x;simp only at hs a0 a1;subst hs;have di:(0:Int)<=(s:Int):=by omega
        have dj:(s:Int)<(n:Int):=by omega
        have R:=H.call ((AH wr.heap.size wr).alloc (AD _) (.cells #[.int .i64 (s:Int),.string q] 54));have HG:=BL.new wr 54 #[.int .i64 (s:Int),.string q];have cw:=H.bel.size;have an:=fun g (e:(vE.getD s Bf).ownBlock=some g)=>(own_lt (H.gE.row s A) g e).2
        clear H;go_wp2;clear a0 a1;generalize cb:wr.heap.size=gx at *;have cc:(wr.alloc (.cells #[.int .i64 (s:Int),.string q] 54)).heap.size=gx+1:=by rw[Ad,cb]
        generalize (wr.alloc (.cells #[.int .i64 (s:Int),.string q] 54))=wa at *;have ay:=R.gE.row s A;obtain⟨Av,cv,hv,dk,dl,dm⟩:=BH ay;have ah:=CM R.gE.own s A Bf;rw[hv]at ah;obtain⟨S,o⟩:∃S:World->Prop,S=fun W=>BL W gx 54 #[.int .i64 (s:Int),.string q]/\BL W (K+1) 78 (Li (.slice (some ⟨LA,0,none⟩) n n) (.slice (some ⟨LE,0,none⟩) n n) (mo:Int) K ⟨#[]⟩ Bf Bf Bf Bf Bf)/\W.cell? ⟨LE,s,none⟩=some (.slice Av (rows s).length cv):=⟨_,rfl⟩
        have E:=fun W h1 h2 h3=>show S W by rw[o];exact⟨h1,h2,h3⟩
        have y:=fun W (h:S W)=>show BL W gx 54 #[.int .i64 (s:Int),.string q]/\BL W (K+1) 78 (Li (.slice (some ⟨LA,0,none⟩) n n) (.slice (some ⟨LE,0,none⟩) n n) (mo:Int) K ⟨#[]⟩ Bf Bf Bf Bf Bf)/\W.cell? ⟨LE,s,none⟩=some (.slice Av (rows s).length cv)by rw[o]at h;exact h
        have z0:=fun p:Cr S=>(y p.w p.2).1.cell 0
        have z1:=fun p:Cr S=>(y p.w p.2).1.cell 1
        have zG:=fun p:Cr S=>(y p.w p.2).2.1.cell 1
        have zL:=fun p:Cr S=>(y p.w p.2).2.2
        have O:S wa.drew:=E _ HG R.box ah;clear o;have b8:Nonempty (Cr S):=⟨⟨_,O⟩⟩;go_wp2;refine Cs S 18 [0,1,2,3,4,5,6,7,8,9,10,11,12,13,14,15] [16,17] (by kernel_rfl) (by kernel_rfl) rfl (by kernel_rfl) O ?_;simp only[CV,A_,BA,Az,BI]
        repeat (go_big_quiet_step (fail))
        refine Ah ?_;clear z0 z1 zL zG;refine BU rfl (fun KK T=>?_);go_simp;have ai:Below wa.heap.size wa (wa.drew.alloc (.cells #[.string q] 9)):=(AH _ wa).drew.alloc (AD _) _;have ab:=HG.below ai (by omega);have m:=R.call ai;have U:=CM m.gE.own s A Bf;rw[hv]at U;refine T _ _ (EW.of (E _ ab m.box U)) ?_;clear T KK;have aj:=Bg wa.drew [.string q] 9 1 1 rfl;rw[show wa.drew.heap.size=gx+1 from cc]at aj;have D:=m.gE.row s A;rw[hv]at D;have az:=UX q;have h63:(rows s).length+1<=maxLen:=by unfold maxLen;omega
        have cd:((rows s).length+1)*16<=140737488355328:=by omega
        have ce:W4.heap.size<=(wa.drew.alloc (.cells #[.string q] 9)).heap.size:=m.bel.size;obtain⟨ia,cf,a8,a9,ba⟩:=BK GI;refine BU rfl (fun KK T=>?_);refine DL _ _ _ 25 rfl W4.heap.size 9 ia _ 1 16 Tryz.underlying25 cf a8 a9 ba rfl (by decide) _ _ _ rfl D _ (some ⟨gx+1,0,none⟩) 1 1 [.string q] rfl aj az h63 cd ce ?_;intro v' w5 V N ac;have l:=N;rw[<-hv]at l;have HW:=m.putE s A q l V (by rw[hv];exact ac);have k5:=m.gE.own.kept l (BG m.gE.own (m.gE.row s A) (by decide)).or_none;have X:=CM k5 s A Bf;have bb:=Df k5 s;rw[hv]at X;have bc:=BM ab l (AV (m.gE.row s A) ab (by decide));have bd:=BM m.box l (AV (m.gE.row s A) m.box (by decide));refine T _ _ (EW.of (E _ bc bd X)) ?_;clear T KK;obtain⟨cg,ch,rfl,_,_,_⟩:=BH V;clear V N l ac aj D ab bc HG m R E y O k5 ai ah U bd an;refine Cc ?_;go_wp2;refine Be ?_;clear X bb;go_wp2;go_roundw
        case rel=>
         refine⟨k+1,vA,vE.set s (.slice cg ((rows s).length+1) ch),by omega,by go_num,?_⟩
         have e:H9 u.ends (k+1)=fun z=>if z=s then rows s++[q]else rows z:=by
          funext z;rw[ag.out z];by_cases hu:z=s
          .subst hu;rw[AU rfl,AU rfl]
          .rw [AP (show ¬((z:Int)=(s:Int))by omega),AP hu]
         rw[e];exact HW
        case measure=>simp[intOf];omega
       .obtain rfl:ne=k:=by omega
        have hE:H9 u.ends ne=EX u.ends:=by rw[<-bl.out];exact SE _
        rw[hE]at H;have dw:=H.bel.size;have Z:=af.below H.bel af.lt;have dn:=b7.below H.bel b7.lt;have bm:=HS.out.1
        have bx:=X1l (most:=mo) u LA LE n u.starts.length ne na d1 d2 d3 B1 B2 B3 wr H.box H.num (EQ _) (AD _) ((c8.below (H.bel.mono (by omega))).more (by omega)) H.pA H.pE
         (((hP.below ar).mono (show w.heap.size<=K by omega)).below (H.bel.mono (by omega))) (b5.right (Jv ae)) (by omega) (by omega) al
         ⟨s4,fun x hx=>⟨(bm x hx).1,by have:=(bm x hx).2.1;omega,(bm x hx).2.2⟩⟩
         ⟨by rw[bk.out];exact s3,fun x hx=>⟨(HS.out.2.2 x hx).2.2.2.2,(HV.out.2.2 x hx).2.2.2.2.1,(HS.out.2.2 x hx).2.2.1,by have:=(HS.out.2.2 x hx).2.2.2.1;omega⟩⟩
         ⟨by rw[bl.out];exact s5,fun x hx=>(HS.out.2.1 x hx).2.2⟩
        have cy:=AB bx;have dp:=ar.trans (H.bel.mono (by have:=ar.size;omega));have k0:=Z.cell 0;have k1:=Z.cell 1;have k2:=Z.cell 2;have k3:=Z.cell 3;clear bx hE H bm;have dq:w.heap.size+1<K:=db;have HT:=AB (AI b5 aq);clear b5 aq ck cl
        go_wp2_with fail
        refine cy.out.mono ?_;rintro e w9 ⟨cz,bn⟩;have P:=dn.below cz dq;have r0:=P.cell 0;have r1:=P.cell 1;have r2:=P.cell 2;have r3:=P.cell 3;have r4:=P.cell 4;have g0:=P.frozen 0;have g1:=P.frozen 1;have g2:=P.frozen 2;have dx:=P.frozen 3;have g4:=P.frozen 4;have bz:=dp.trans (cz.mono (by omega));rcases ao:IC u mo with ek|q
        .rw [ao]at bn
         subst bn
         have be:=AB (fun(W':World) (hb:Below w.heap.size w W')=>show TJ t (mo:Int) w (.returned (.tuple #[.agg #[.string ⟨#[]⟩,.slice none 0 0,.slice none 0 0,.slice none 0 0,.slice none 0 0],.int .i64 ek])) W' from
          ⟨hb,_,MI,ek,rfl,I5 _ _,fun _=>rfl,fun hn=>(hn ⟨ae,b0,by omega⟩).elim,fun _ _ _=>⟨u,f,HT.out.1,HT.out.2,by rw[BO,ao]⟩⟩)
         clear ao;go_wp2;exact Qm rfl rfl (Ec P _ _ _ _ _) (be.out _ (DR bz (by omega) _ _ _ _ _))
        .rw [ao]at bn
         obtain⟨v,rfl,hq⟩:=bn;obtain⟨Q1,y1,Q2,y2,Q3,y3,Q4,y4,rfl,_⟩:=hq.at_
         have be:=AB (fun(W':World) (hb:Below w.heap.size w W') (dr:Eb w.heap.size W' q (.agg #[.string q.front,.slice Q1 q.next.length y1,.slice Q2 q.outs.length y2,.slice Q3 q.ends.length y3,.slice Q4 q.tail.length y4]))=>show TJ t (mo:Int) w (.returned (.tuple #[.agg #[.string q.front,.slice Q1 q.next.length y1,.slice Q2 q.outs.length y2,.slice Q3 q.ends.length y3,.slice Q4 q.tail.length y4],.int .i64 0])) W' from
          ⟨hb,_,q,0,rfl,dr,fun h=>(h rfl).elim,fun hn=>(hn ⟨ae,b0,by omega⟩).elim,fun _ _ _=>⟨u,f,HT.out.1,HT.out.2,by rw[BO,ao];exact⟨rfl,rfl⟩⟩⟩)
         have HQ:=AB hq;clear ao hq;generalize q.front=qf at *;generalize q.next.length=q1 at *;generalize q.outs.length=q2 at *;generalize q.ends.length=q3 at *;generalize q.tail.length=q4 at *;go_wp2;refine Qm rfl rfl (Ec P _ _ _ _ _) (be.out _ (DR bz (by omega) _ _ _ _ _) ?_);have ad:w.heap.size+1<wr.heap.size:=by omega
         exact(((((HQ.out.setCell (p:=⟨w.heap.size+1,0,none⟩) ad _).setCell (p:=⟨w.heap.size+1,1,none⟩) ad _).setCell (p:=⟨w.heap.size+1,2,none⟩) ad _).setCell (p:=⟨w.heap.size+1,3,none⟩) ad _).setCell (p:=⟨w.heap.size+1,4,none⟩) ad _).mono (by omega)
end
end Go.Proofs.YtcondkihpmmnnaaGreatDoor
