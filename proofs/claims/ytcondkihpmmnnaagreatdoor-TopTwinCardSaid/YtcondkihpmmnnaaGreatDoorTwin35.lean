/- Lemmas, part 35 of 50. No condition. -/
import Derived.Test.YtcondkihpmmnnaaGreatDoorTwin32
import Derived.Test.YtcondkihpmmnnaaGreatDoorTwin31
set_option maxRecDepth 100000
set_option maxHeartbeats 16000000
namespace Go.Proofs.YtcondkihpmmnnaaGreatDoor
section
open Go.RowKit Go.Sort
def Jf (P0:Nat) (w:World) (T:TypeId) (v:Value) (xs:List Value):Prop:=∃g,v=.slice (some ⟨g,0,none⟩) 256 256/\P0<=g/\BL w g T xs.toArray/\xs.length=256
structure SqB (W0 wr:World) (gr:Nat) (fr:ByteArray) (vN vO vE vT:Value) (nv ov:List Value) (N:List (List Int)) (O:List (List ByteArray)) (E:List Bool) (T:List ByteArray):Prop where
 box:BL wr gr 27 #[.string fr,vN,vO,vE,vT]
 oN:wr.ownsRow W0.heap.size 55 1 vN N.length nv
 oO:wr.ownsRow W0.heap.size 25 1 vO O.length ov
 oE:wr.ownsRow W0.heap.size 4 1 vE E.length (E.map Value.bool)
 oT:wr.ownsRow W0.heap.size 9 1 vT T.length (T.map Value.string)
 rN:∀i,i<N.length->Jf W0.heap.size wr 3 (nv.getD i Bf) ((N.getD i []).map (Value.int .i64))
 rO:∀i,i<O.length->Jf W0.heap.size wr 9 (ov.getD i Bf) ((O.getD i []).map Value.string)
 ap:∀i,i<O.length->∀g,vT.ownBlock=some g->(ov.getD i Bf).ownBlock≠some g
 lo:W0.heap.size<=gr
 bel:Below W0.heap.size W0 wr
theorem Jf.kept {a:Nat} {w w':World} {T:TypeId} {v:Value} {xs:List Value} {row:Option Nat} (h:Jf a w T v xs) (b:w.grownBy w' row) (c:∀g,v.ownBlock=some g->row≠some g):Jf a w' T v xs:=by obtain⟨g,rfl,h1,h2,h3⟩:=h;exact⟨g,rfl,h1,BM h2 b (c g rfl),h3⟩
theorem Jf.ne_own {b base n size:Nat} {w:World} {T e:TypeId} {v u:Value} {xs c:List Value} (h:Jf b w T v xs) (d:w.ownsRow base e size u n c) (a:e≠T):∀g,v.ownBlock=some g->u.ownBlock≠some g:=by obtain⟨f,rfl,_,h2,_⟩:=h;intro g i;obtain rfl:f=g:=AL i;exact AV d h2 a
theorem Jf.ne_box {c gr:Nat} {w:World} {T b:TypeId} {v:Value} {xs:List Value} {d:Array Value} (h:Jf c w T v xs) (f:BL w gr b d) (a:T≠b):∀g,v.ownBlock=some g->some gr≠some g:=by obtain⟨i,rfl,_,h2,_⟩:=h;intro g j e;obtain rfl:i=g:=AL j;exact BL.ne_ h2 f a (AL e).symm
theorem Jf.set {b gr:Nat} {w:World} {T c:TypeId} {v:Value} {xs:List Value} {d:Array Value} (h:Jf b w T v xs) (e:BL w gr c d) (a:T≠c) (i:Nat) (u:Value):Jf b (w.setCell ⟨gr,i,none⟩ u) T v xs:=h.kept (Lib.grownBy_setCell w gr i u) (h.ne_box e a)
section
variable {W0 wr w':World} {gr:Nat} {fr:ByteArray} {vN vO vE vT:Value} {nv ov:List Value} {N:List (List Int)} {O:List (List ByteArray)} {E:List Bool} {T:List ByteArray}
theorem SqB.call (h:SqB W0 wr gr fr vN vO vE vT nv ov N O E T) (a:Below wr.heap.size wr w'):SqB W0 w' gr fr vN vO vE vT nv ov N O E T:=by
 have b:∀g,g<wr.heap.size->w'.heap[g]?=wr.heap[g]?:=fun g b=>a.block g b
 refine⟨h.box.below a h.box.lt,BQ h.oN a,BQ h.oO a,BQ h.oE a,BQ h.oT a,fun i hi=>?_,fun i hi=>?_,h.ap,h.lo,h.bel.trans (a.mono h.bel.size)⟩
 .obtain ⟨g,e,h1,h2,h3⟩:=h.rN i hi;exact⟨g,e,h1,h2.below a h2.lt,h3⟩
 .obtain ⟨g,e,h1,h2,h3⟩:=h.rO i hi;exact⟨g,e,h1,h2.below a h2.lt,h3⟩
theorem Kz {α:Type} {l:List α} {x d:α} {i:Nat} (h:i<l.length):(l++[x]).getD i d=l.getD i d:=by rw[AC,AC,Bi h]
theorem K9 {α:Type} {l:List α} {x d:α} {i:Nat} (h:i=l.length):(l++[x]).getD i d=x:=by subst h;rw[AC,CT (AD _)];simp
theorem Wp {w:World} {base n:Nat} {e:TypeId} {v:Value} {xs:List Value} (h:w.ownsRow base e 1 v n xs):xs.length=n:=by have:=h.1;omega
theorem SqB.putN (h:SqB W0 wr gr fr vN vO vE vT nv ov N O E T) {v' u:Value} {r:List Int} (a:wr.grownBy w' vN.ownBlock) (c:w'.ownsRow W0.heap.size 55 1 v' (N.length+1) (nv++[u])) (d:Jf W0.heap.size wr 3 u (r.map (Value.int .i64))) :SqB W0 (w'.setCell ⟨gr,1,none⟩ v') gr fr v' vO vE vT (nv++[u]) ov (N++[r]) O E T:=by
 have b:=BM h.box a (AV h.oN h.box (by decide));have f:=h.oO.kept a (BG h.oO h.oN (by decide)).or_none;have g:=h.oE.kept a (BG h.oE h.oN (by decide)).or_none;have j:=h.oT.kept a (BG h.oT h.oN (by decide)).or_none;have m:=Wp h.oN;refine⟨b.set_ 1 v',?_,AO f (AV f b (by decide)) _,AO g (AV g b (by decide)) _,AO j (AV j b (by decide)) _,fun i hi=>?_,fun i hi=>?_,h.ap,h.lo,(h.bel.grown a h.bel.size (fun k l=>(own_lt h.oN k l).1)).setCell (p:=⟨gr,1,none⟩) h.lo _⟩
 .rw [AJ,BJ];exact AO c (AV c b (by decide)) _
 .rw [AJ,BJ]at hi
  by_cases e:i<N.length
  .rw [Kz e,Kz (by omega)];exact((h.rN i e).kept a ((h.rN i e).ne_own h.oN (by decide))).set b (by decide) 1 v'
  .rw [K9 (show i=N.length by omega),K9 (show i=nv.length by omega)];exact(d.kept a (d.ne_own h.oN (by decide))).set b (by decide) 1 v'
 .exact ((h.rO i hi).kept a ((h.rO i hi).ne_own h.oN (by decide))).set b (by decide) 1 v'
theorem SqB.putO (h:SqB W0 wr gr fr vN vO vE vT nv ov N O E T) {v' u:Value} {r:List ByteArray} (a:wr.grownBy w' vO.ownBlock) (d:w'.ownsRow W0.heap.size 25 1 v' (O.length+1) (ov++[u])) (f:Jf W0.heap.size wr 9 u (r.map Value.string)) (c:∀g,vT.ownBlock=some g->u.ownBlock≠some g) :SqB W0 (w'.setCell ⟨gr,2,none⟩ v') gr fr vN v' vE vT nv (ov++[u]) N (O++[r]) E T:=by
 have b:=BM h.box a (AV h.oO h.box (by decide));have j:=h.oN.kept a (BG h.oN h.oO (by decide)).or_none;have l:=h.oE.kept a (BG h.oE h.oO (by decide)).or_none;have m:=h.oT.kept a (BG h.oT h.oO (by decide)).or_none;have o:=Wp h.oO;refine⟨b.set_ 2 v',AO j (AV j b (by decide)) _,?_,AO l (AV l b (by decide)) _,AO m (AV m b (by decide)) _,fun i hi=>?_,fun i hi=>?_,fun i hi=>?_,h.lo,(h.bel.grown a h.bel.size (fun k n=>(own_lt h.oO k n).1)).setCell (p:=⟨gr,2,none⟩) h.lo _⟩
 .rw [AJ,BJ];exact AO d (AV d b (by decide)) _
 .exact ((h.rN i hi).kept a ((h.rN i hi).ne_own h.oO (by decide))).set b (by decide) 2 v'
 .rw [AJ,BJ]at hi
  by_cases e:i<O.length
  .rw [Kz e,Kz (by omega)];exact((h.rO i e).kept a ((h.rO i e).ne_own h.oO (by decide))).set b (by decide) 2 v'
  .rw [K9 (show i=O.length by omega),K9 (show i=ov.length by omega)];exact(f.kept a (f.ne_own h.oO (by decide))).set b (by decide) 2 v'
 .rw [AJ,BJ]at hi
  by_cases e:i<O.length
  .rw [Kz (by omega)];exact h.ap i e
  .rw [K9 (show i=ov.length by omega)];exact c
theorem SqB.putE (h:SqB W0 wr gr fr vN vO vE vT nv ov N O E T) {v':Value} {x:Bool} (a:wr.grownBy w' vE.ownBlock) (c:w'.ownsRow W0.heap.size 4 1 v' (E.length+1) (E.map Value.bool++[.bool x])) :SqB W0 (w'.setCell ⟨gr,3,none⟩ v') gr fr vN vO v' vT nv ov N O (E++[x]) T:=by
 have b:=BM h.box a (AV h.oE h.box (by decide));have d:=h.oN.kept a (BG h.oN h.oE (by decide)).or_none;have e:=h.oO.kept a (BG h.oO h.oE (by decide)).or_none;have f:=h.oT.kept a (BG h.oT h.oE (by decide)).or_none;refine⟨b.set_ 3 v',AO d (AV d b (by decide)) _,AO e (AV e b (by decide)) _,?_,AO f (AV f b (by decide)) _,fun i hi=>?_,fun i hi=>?_,h.ap,h.lo,(h.bel.grown a h.bel.size (fun k g=>(own_lt h.oE k g).1)).setCell (p:=⟨gr,3,none⟩) h.lo _⟩
 .rw [AJ,BJ,CH];exact AO c (AV c b (by decide)) _
 .exact ((h.rN i hi).kept a ((h.rN i hi).ne_own h.oE (by decide))).set b (by decide) 3 v'
 .exact ((h.rO i hi).kept a ((h.rO i hi).ne_own h.oE (by decide))).set b (by decide) 3 v'
theorem SqB.putT (h:SqB W0 wr gr fr vN vO vE vT nv ov N O E T) {v':Value} {x:ByteArray} (a:wr.grownBy w' vT.ownBlock) (d:w'.ownsRow W0.heap.size 9 1 v' (T.length+1) (T.map Value.string++[.string x])) (m:v'.ownBlock=vT.ownBlock\/v'.ownBlock=some wr.heap.size) :SqB W0 (w'.setCell ⟨gr,4,none⟩ v') gr fr vN vO vE v' nv ov N O E (T++[x]):=by
 have b:=BM h.box a (AV h.oT h.box (by decide));have f:=h.oN.kept a (BG h.oN h.oT (by decide)).or_none;have j:=h.oO.kept a (BG h.oO h.oT (by decide)).or_none;have l:=h.oE.kept a (BG h.oE h.oT (by decide)).or_none;refine⟨b.set_ 4 v',AO f (AV f b (by decide)) _,AO j (AV j b (by decide)) _,AO l (AV l b (by decide)) _,?_,fun i hi=>?_,fun i hi=>?_,fun i hi g e=>?_,h.lo,(h.bel.grown a h.bel.size (fun k n=>(own_lt h.oT k n).1)).setCell (p:=⟨gr,4,none⟩) h.lo _⟩
 .rw [AJ,BJ,CH];exact AO d (AV d b (by decide)) _
 .exact ((h.rN i hi).kept a ((h.rN i hi).ne_own h.oT (by decide))).set b (by decide) 4 v'
 .exact ((h.rO i hi).kept a (fun g e c=>h.ap i hi g c e)).set b (by decide) 4 v'
 .rcases m with c|c
  .exact h.ap i hi g (c▸e)
  .obtain ⟨o,q,_,h4,_⟩:=h.rO i hi;rw[c]at e;rw[q];intro r;have h6:=h4.lt;have s:o=g:=AL r;have t:wr.heap.size=g:=AL e;omega
theorem SqB.seqNew (h:SqB W0 wr gr fr vN vO vE vT nv ov N O E T) {m:Nat} (c:m<=1024) (d:N.length<=m/\O.length=N.length/\E.length=N.length/\T.length=N.length/\fr.size<=100000000 /\∀s,s<N.length->(T.getD s ByteArray.empty).size<=4096/\(N.getD s []).length=256/\(O.getD s []).length=256 /\∀b,b<256->-1<=(N.getD s []).getD b 0/\(N.getD s []).getD b 0<N.length/\((O.getD s []).getD b ByteArray.empty).size<=4096) :Eb W0.heap.size wr ⟨fr,N,O,E,T⟩ (.agg #[.string fr,vN,vO,vE,vT]):=fun W f j=>by
 have a:∀{T:TypeId} {v:Value} {xs:List Value},Jf W0.heap.size wr T v xs->JU (fun g=>g<W0.heap.size) wr 1 v xs.length xs:=fun⟨g,e,h1,h2,h3⟩=>⟨g,256,by rw[h3];exact e,by omega,by unfold maxLen;decide,h2.lt,by omega,Ky h2 rfl⟩
 have k:MkQ wr W0.heap.size vN vO vE vT nv ov ⟨[],N,O,E,T⟩ (fun g=>g<W0.heap.size):=
  ⟨h.oN,h.oO,h.oE,h.oT,fun i hi=>by
   have:=a (h.rN i hi);rwa [A6]at this,fun i hi=>by
   have:=a (h.rO i hi);rwa [A6]at this⟩
 exact((k.stays (fun g l=>l) f j).seq c d)
end
end
section
def GS (f:Nat->Bool) (n:Nat):List Nat:=(List.range n).filter f
def H7 (f:Nat->Bool) (n s:Nat):Int:=if s<n/\f s=true then((GS f s).length:Int)else -1
theorem Qq (f:Nat->Bool) (n:Nat):GS f (n+1)=GS f n++if f n=true then[n]else[]:=by
 unfold GS;rw[Dj,Ck];congr 1;split
 .rename_i h;rw[CD h];rfl
 .rename_i h;rw[CE h];rfl
theorem Ok (f:Nat->Bool) (n:Nat):(GS f n).length<=n:=by unfold GS;exact AK (CA _ _) (by simp)
theorem Ol {f:Nat->Bool}:∀{n s:Nat},s<n->f s=true->(GS f n)[(GS f s).length]?=some s
 | 0,_,h,_=>absurd h (B6 _)
 | n+1,s,h,hf=>by
  rw[Qq];by_cases e:s=n
  .subst e;rw[AU hf,CT (AD _)];simp
  .have:=Ol (n:=n) (s:=s) (by omega) hf
   rw[Bi]
   .exact this
   .rcases BF (GS f s).length (GS f n).length with h|h
    .exact h
    .rw [AY h]at this;cases this
theorem Wq {f:Nat->Bool} {n i s:Nat} (h:(GS f n)[i]?=some s):s<n/\f s=true/\i=(GS f s).length:=by
 have a:=Cl h;unfold GS at a;rw[BV,BE]at a;refine⟨a.1,a.2,?_⟩;have h2:=Ol a.1 a.2;have b:(GS f n).Nodup:=List.Nodup.sublist List.filter_sublist E5
 have hi:i<(GS f n).length:=by
  rcases BF i (GS f n).length with e|e
  .exact e
  .rw [AY e]at h;cases h
 have c:(GS f s).length<(GS f n).length:=by
  rcases BF (GS f s).length (GS f n).length with e|e
  .exact e
  .rw [AY e]at h2;cases h2
 rw[AG hi]at h;rw[AG c]at h2;exact(List.getElem_inj b).1 ((AL h).trans (AL h2).symm)
def L7 (q:SeqM) (k:Frt) (s:Nat):ByteArray:=if q.en s=true then(q.tl s).extract (k.l s).size (q.tl s).size else ByteArray.empty
def Ua (q:SeqM) (pl:Nat->Int) (s:Nat):List Int:=(List.range 256).map (JP q pl s)
def Ub (q:SeqM) (k:Frt) (pl:Nat->Int) (s:Nat):List ByteArray:=(List.range 256).map (JX q k pl s)
def D9 (q:SeqM) (k:Frt) (pl:Nat->Int) (us:List Nat):SeqM:=⟨q.front++k.l 0,us.map (Ua q pl),us.map (Ub q k pl),us.map q.en,us.map (L7 q k)⟩
theorem Nb {α:Type} (g:Nat->α) (d:α) {n b:Nat} (a:b<n):((List.range n).map g).getD b d=g b:=by rw[AC,Ag,CP a];rfl
theorem I7 {α:Type} (g:Nat->α) (d:α) {us:List Nat} {i s:Nat} (h:us[i]?=some s):(us.map g).getD i d=g s:=by rw[AC,Ag,h];rfl
section
variable {q:SeqM} {k:Frt} {pl:Nat->Int} {us:List Nat} {i s b:Nat}
theorem Uc (h:us[i]?=some s) (a:b<256):(D9 q k pl us).nx i b=JP q pl s b:=by unfold SeqM.nx D9;simp only;rw[I7 (Ua q pl) [] h];exact Nb _ _ a
theorem Ud (h:us[i]?=some s) (a:b<256):(D9 q k pl us).os i b=JX q k pl s b:=by unfold SeqM.os D9;simp only;rw[I7 (Ub q k pl) [] h];exact Nb _ _ a
theorem Ue (h:us[i]?=some s):(D9 q k pl us).en i=q.en s:=by unfold SeqM.en D9;simp only;exact I7 q.en false h
theorem Uf (h:us[i]?=some s):(D9 q k pl us).tl i=L7 q k s:=by unfold SeqM.tl D9;simp only;exact I7 (L7 q k) _ h
end
theorem SF {q:SeqM} {k:Frt} (d:Fronts q k) {s b:Nat} (n:s<q.next.length) (p:k.some s=true) (e:b<256) (h0:0<=q.nx s b) (i:(q.nx s b).toNat<q.next.length) (c:k.some (q.nx s b).toNat=true) :bl (k.l s) <+: bl (q.os s b)++bl (k.l (q.nx s b).toNat):=by
 have a:=d.beg s n p;obtain⟨o,j⟩:=(d.live _ i).1 c;rcases Nat.le_total (bl (k.l s)).length (bl (q.os s b)).length with f|f
 .exact (Ci (a _ (I0 e h0 j)) (Cj _ _) f).trans (Cj _ _)
 .have r:bl (q.os s b) <+: bl (k.l s):=Ci (Cj _ o) (a _ (I0 e h0 j)) f
  obtain⟨m',m⟩:=r;rw[<-m,C_];refine d.most _ i c m' fun t g=>?_
  have:=a _ (I0 e h0 g);rw[<-m]at this;exact(C_ _).1 this
theorem Qr {q:SeqM} {k:Frt} (a:Fronts q k) {s:Nat} (b:s<q.next.length) (c:k.some s=true) (d:q.en s=true):bl (k.l s) <+: bl (q.tl s):=a.beg s b c _ (QC d)
theorem PD {a x:List UInt8} (h:a <+: x):x=a++x.drop a.length:=by obtain⟨y,rfl⟩:=h;simp
structure Kept (q:SeqM) (k:Frt) (n:Nat) (seen:Nat->Bool):Prop where
 first:seen 0=true
 some0:k.some 0=true
 pos:0<n
 closed:∀s,s<n->seen s=true->∀b,b<256->0<=q.nx s b->seen (q.nx s b).toNat=true
def keepF (k:Frt) (seen:Nat->Bool) (s:Nat):Bool:=seen s && k.some s
section
variable {q:SeqM} {k:Frt} {n:Nat} {seen:Nat->Bool}
theorem OB (a:Gp q=true) (f:q.next.length=n) (g:Kept q k n seen) {s b:Nat} (d:s<n) (c:seen s=true) (e:b<256) :kept q (H7 (keepF k seen) n) s b↔0<=q.nx s b/\k.some (q.nx s b).toNat=true:=by
 have i:=(FQ a (by rw[f];exact d) e).2.1;unfold kept H7;constructor
 .rintro ⟨h1,h2⟩
  refine⟨h1,?_⟩;split at h2
  .rename_i h3;unfold keepF at h3;simp only[AW]at h3;exact h3.2.2
  .omega
 .rintro ⟨h1,h2⟩
  refine⟨h1,?_⟩;rw[AU]
  .omega
  .unfold keepF;rw[g.closed s d c b e h1,h2];exact⟨by omega,rfl⟩
theorem Xx (j:Gp q=true) (t:q.next.length=n) (x:Fronts q k) (u:Kept q k n seen) :Pushes q k (D9 q k (H7 (keepF k seen) n) (GS (keepF k seen) n)) (GS (keepF k seen) n):=by
 have z:∀s b,s<n->b<256->q.nx s b<(n:Int):=fun s b l d=>by have:=(FQ j (s:=s) (by rw[t];exact l) d).2.1;rwa [t]at this
 refine⟨by unfold D9;simp,?_,rfl,fun i s hi=>?_⟩
 .have:=Ol (f:=keepF k seen) (n:=n) (s:=0) u.pos (by unfold keepF;rw[u.first,u.some0];rfl);exact this
 .obtain ⟨l,w,_⟩:=Wq hi
  have c:=w;unfold keepF at c;simp only[AW]at c;obtain⟨m,o⟩:=c;have p:s<q.next.length:=by rw[t];exact l
  refine⟨p,o,Ue hi,fun y=>?_,fun b d=>?_⟩
  .rw [Uf hi];unfold L7;rw[AU y,Nf];exact PD (Qr x p o y)
  .rw [Uc hi d,Ud hi d]
   by_cases a:kept q (H7 (keepF k seen) n) s b
   .have g:=(OB j t u l m d).1 a
    have A:=z s b l d;right;refine⟨a.1,?_⟩;have v:keepF k seen (q.nx s b).toNat=true:=by unfold keepF;rw[u.closed s l m b d a.1,g.2];rfl
    have r:(q.nx s b).toNat<n:=by omega
    refine⟨(GS (keepF k seen) (q.nx s b).toNat).length,Ol r v,?_,?_⟩
    .unfold JP;rw[AU a];unfold H7;rw[AU ⟨r,v⟩]
    .unfold JX;rw[AU a,Nf,DW];exact PD (SF x p o d a.1 (by rw[t];exact r) g.2)
   .left
    refine⟨?_,?_⟩
    .by_cases h0:q.nx s b<0
     .exact .inl h0
     .right
      rcases e:k.some (q.nx s b).toNat with _|_
      .rfl
      .exact absurd ((OB j t u l m d).2 ⟨by omega,e⟩) a
    .unfold JP;rw[AP a];omega
theorem Ug (a:Kept q k n seen):0<(GS (keepF k seen) n).length:=by
 have h0:=Ol (f:=keepF k seen) (n:=n) (s:=0) a.pos (by unfold keepF;rw[a.first,a.some0];rfl);rcases B7 (GS (keepF k seen) n).length with e|e
 .rw [AY (by omega)]at h0;cases h0
 .exact e
theorem Mg:(D9 q k (H7 (keepF k seen) n) (GS (keepF k seen) n)).next.length=(GS (keepF k seen) n).length:=by unfold D9;simp
theorem Wr (j:Gp q=true) (y:q.next.length=n) (r:∀s,s<n->keepF k seen s=true->∀b,b<256->kept q (H7 (keepF k seen) n) s b->(q.os s b).size+(k.l (q.nx s b).toNat).size<=4096+(k.l s).size) (i:Nat) (hi:i<(GS (keepF k seen) n).length) :VT (D9 q k (H7 (keepF k seen) n) (GS (keepF k seen) n)) (GS (keepF k seen) n).length i=true:=by
 obtain⟨D,E,F,G,H,I⟩:=Ea j;have z:=Ok (keepF k seen) n;obtain⟨s,f⟩:∃s,(GS (keepF k seen) n)[i]?=some s:=⟨_,AG hi⟩
 obtain⟨m,t,_⟩:=Wq f;have v:=Uf (q:=q) (k:=k) (pl:=H7 (keepF k seen) n) f;have A:=Ue (q:=q) (k:=k) (pl:=H7 (keepF k seen) n) f;have o:=fun b g=>FQ j (s:=s) (b:=b) (by rw[y];exact m) g
 have d:∀(x:ByteArray) (a:Nat),(x.extract a x.size).size<=x.size-a:=fun x a=>by have:=BY List.length (Nf x a);rw[List.length_drop,CK,CK]at this;omega
 unfold VT L9 Nd;simp only[AW,DJ,BB,CS];refine⟨⟨?_,?_⟩,⟨?_,?_⟩,fun b g=>?_⟩
 .show ((D9 q k (H7 (keepF k seen) n) (GS (keepF k seen) n)).tl i).size<=4096
  rw[v];unfold L7;split
  .have:=d (q.tl s) (k.l s).size;have:=(o 0 (by decide)).2.2.2.2.1;omega
  .exact AN _
 .by_cases w:q.en s=true
  .left;show(D9 q k (H7 (keepF k seen) n) (GS (keepF k seen) n)).en i=true;rw[A];exact w
  .right;show((D9 q k (H7 (keepF k seen) n) (GS (keepF k seen) n)).tl i).size=0;rw[v];unfold L7;rw[AP w];rfl
 .unfold D9;simp only;rw[I7 _ [] f];unfold Ua;simp
 .unfold D9;simp only;rw[I7 _ [] f];unfold Ub;simp
 .have g:=BE.1 g
  have B:=Uc (q:=q) (k:=k) (pl:=H7 (keepF k seen) n) f g;have C:=Ud (q:=q) (k:=k) (pl:=H7 (keepF k seen) n) f g;have g1:(((D9 q k (H7 (keepF k seen) n) (GS (keepF k seen) n)).next.getD i []).getD b 0)=JP q (H7 (keepF k seen) n) s b:=B;have g2:(((D9 q k (H7 (keepF k seen) n) (GS (keepF k seen) n)).outs.getD i []).getD b ByteArray.empty)=JX q k (H7 (keepF k seen) n) s b:=C;rw[g1,g2];unfold JP JX;by_cases c:kept q (H7 (keepF k seen) n) s b
  .rw [AU c,AU c]
   have h2:=c.2
   have p:H7 (keepF k seen) n (q.nx s b).toNat<((GS (keepF k seen) n).length:Int):=by
    unfold H7 at h2 ⊢;split
    .rename_i h3
     have:=Ol h3.1 h3.2
     have:(GS (keepF k seen) (q.nx s b).toNat).length<(GS (keepF k seen) n).length:=by
      rcases BF (GS (keepF k seen) (q.nx s b).toNat).length (GS (keepF k seen) n).length with e|e
      .exact e
      .rw [AY e]at this;cases this
     omega
    .rename_i h3;rw[AP h3]at h2;omega
   have h3:=r s m t b g c;have h4:=d (q.os s b++k.l (q.nx s b).toNat) (k.l s).size;rw[Cg]at h4;have u:=Cg (a:=q.os s b) (b:=k.l (q.nx s b).toNat);rw[u]at *;exact⟨⟨⟨by omega,p⟩,by omega⟩,.inl (by omega)⟩
  .rw [AP c,AP c];exact⟨⟨⟨by omega,by omega⟩,by decide⟩,.inr rfl⟩
theorem X1o (a:Gp q=true) (g:q.next.length=n) (j:Kept q k n seen) (c:(q.front++k.l 0).size<=4096) (d:∀s,s<n->keepF k seen s=true->∀b,b<256->kept q (H7 (keepF k seen) n) s b->(q.os s b).size+(k.l (q.nx s b).toNat).size<=4096+(k.l s).size) :Gp (D9 q k (H7 (keepF k seen) n) (GS (keepF k seen) n))=true:=by have e:=Wr a g d;obtain⟨o,_⟩:=Ea a;have m:=Ok (keepF k seen) n;have f:=Ug j;unfold Gp;simp only[AW,DJ,BB,CS];refine⟨⟨⟨⟨⟨⟨by rw[Mg];omega,by unfold D9;simp⟩,by unfold D9;simp⟩,by unfold D9;simp⟩,c⟩,.inl (by rw[Mg];omega)⟩,fun i hi=>?_⟩;have hi:=BE.1 hi;rw[Mg]at hi ⊢;exact e i hi
theorem Zl (a:Gp q=true) (f:q.next.length=n) (g:Kept q k n seen) (c:∀s,s<n->keepF k seen s=true->∀b,b<256->kept q (H7 (keepF k seen) n) s b->(q.os s b).size+(k.l (q.nx s b).toNat).size<=4096+(k.l s).size) :Gp { D9 q k (H7 (keepF k seen) n) (GS (keepF k seen) n)with front:=ByteArray.empty }=true:=by have d:=Wr a f c;obtain⟨m,_⟩:=Ea a;have j:=Ok (keepF k seen) n;have e:=Ug g;unfold Gp;simp only[AW,DJ,BB,CS];refine⟨⟨⟨⟨⟨⟨by rw[Mg];omega,by unfold D9;simp⟩,by unfold D9;simp⟩,by unfold D9;simp⟩,by decide⟩,.inr rfl⟩,fun i hi=>?_⟩;have hi:=BE.1 hi;rw[Mg]at hi ⊢;exact d i hi
end
def Qs (q:SeqM) (k:Frt):Prop:=(∃s b,s<q.next.length/\b<256/\0<=q.nx s b/\k.some (q.nx s b).toNat=true/\4096<(q.os s b).size+(k.l (q.nx s b).toNat).size)\/(k.some 0=true/\4096<q.front.size+(k.l 0).size)
end
section
open Go.RowKit Go.Sort
def K_ (q:SeqM) (w:World) (e:Ending) (w':World):Prop:=Below w.heap.size w w'/\∃(v:Value) (r:SeqM) (c:Int),e=.returned (.tuple #[v,.int .i64 c])/\Eb w.heap.size w' r v /\((Gp q=false/\c=1/\r=MI)\/(Gp q=true/\∃k,Fronts q k/\((c=0/\r=MI/\(q.next.length=0\/k.some 0=false))\/(c=2/\r=MI/\Qs q k)\/(c=0/\Gp r=true/\∃us,Pushes q k r us))))
theorem LC {R:Ending->World->Prop} {tmps:Array Value} {g:Nat} {b c d e f k:Value} {W:World} (h4:tmps[2]?=some (.pointer (some ⟨g,0,none⟩))) (h5:tmps[3]?=some k) (a:BL W g 27 #[b,c,d,e,f]) (h:R (.returned (.tuple #[.agg #[b,c,d,e,f],k])) W):bodyPost Tryz.prog Tryz.f33 R Exit.ret ⟨tmps,[]⟩ W:=by have i:=a.cell 0;have q1:=a.cell 1;have j:=a.cell 2;have l:=a.cell 3;have m:=a.cell 4;exact AQ (v:=.tuple #[.agg #[b,c,d,e,f],k]) (by simp[results,Tryz.results33,go_sem,i,q1,j,l,m,h4,h5]) rfl h
structure PsA (w wr:World) (cs:Array Value) (n gL gM gP gS:Nat) (k:Frt) (pl:Nat->Int) (seen:Nat->Bool):Prop where
 box:BL wr w.heap.size 27 cs
 res:BL wr (w.heap.size+1) 27 #[.string ⟨#[]⟩,.slice none 0 0,.slice none 0 0,.slice none 0 0,.slice none 0 0]
 l:BL wr gL 9 (kL k n).toArray
 m:BL wr gM 4 (bV k.some n)
 p:BL wr gP 3 (FF pl n)
 s:BL wr gS 4 (bV seen n)
 bL:w.heap.size+2<=gL
 bM:w.heap.size+2<=gM
 bP:w.heap.size+2<=gP
 bS:w.heap.size+2<=gS
 bel:Below w.heap.size w wr
section
variable {w wr w':World} {cs:Array Value} {n gL gM gP gS:Nat} {k:Frt} {pl:Nat->Int} {seen:Nat->Bool}
theorem PsA.call (h:PsA w wr cs n gL gM gP gS k pl seen) (a:Below wr.heap.size wr w'):PsA w w' cs n gL gM gP gS k pl seen:=⟨h.box.below a h.box.lt,h.res.below a h.res.lt,h.l.below a h.l.lt,h.m.below a h.m.lt,h.p.below a h.p.lt,h.s.below a h.s.lt,h.bL,h.bM,h.bP,h.bS,h.bel.trans (a.mono h.bel.size)⟩
theorem PsA.set (h:PsA w wr cs n gL gM gP gS k pl seen) (j:Nat) (a:j<n) (i:Int):PsA w (wr.setCell ⟨gP,j,none⟩ (.int .i64 i)) cs n gL gM gP gS k (fun t=>if t=j then i else pl t) seen:=by have b:=h.bP;refine⟨h.box.far (p:=⟨gP,j,none⟩) (by show w.heap.size≠gP;omega) _,h.res.far (p:=⟨gP,j,none⟩) (by show w.heap.size+1≠gP;omega) _,h.l.far (p:=⟨gP,j,none⟩) (fun e=>BL.ne_ h.l h.p (by decide) e) _,h.m.far (p:=⟨gP,j,none⟩) (fun e=>BL.ne_ h.m h.p (by decide) e) _,?_,h.s.far (p:=⟨gP,j,none⟩) (fun e=>BL.ne_ h.s h.p (by decide) e) _,h.bL,h.bM,h.bP,h.bS,h.bel.setCell (p:=⟨gP,j,none⟩) (by show w.heap.size<=gP;omega) _⟩;have:=h.p.set_ j (.int .i64 i);rwa [NE _ _ _ _ a]at this
theorem PsA.congr (h:PsA w wr cs n gL gM gP gS k pl seen) {pl':Nat->Int} (e:∀j,j<n->pl j=pl' j):PsA w wr cs n gL gM gP gS k pl' seen:=by
 have:FF pl n=FF pl' n:=by unfold FF;rw[IM (fun j a=>by rw[e j a])]
 exact { h with p:=this▸h.p }
end
def Zo (f:Nat->Bool) (n j s:Nat):Int:=if s<j then H7 f n s else 0
theorem TL {f:Nat->Bool} {n j:Nat} (a:j<n):∀s,s<n->(if s=j then H7 f n j else Zo f n j s)=Zo f n (j+1) s:=by
 intro s _;unfold Zo;by_cases e:s=j
 .subst e;simp
 .rw [AP e]
  by_cases h:s<j
  .rw [AU h,AU (by omega)]
  .rw [AP h,AP (by omega)]
theorem Zp {f:Nat->Bool} {n j:Nat} {i0:Int} (a:j<n):∀s,s<n->(if s=j then H7 f n j else if s=j then i0 else Zo f n j s)=Zo f n (j+1) s:=by
 intro s b;rw[<-TL a s b];by_cases e:s=j
 .rw [AU e,AU e]
 .rw [AP e,AP e,AP e]
theorem Wt {f:Nat->Bool} {n j:Nat} (a:j<n) (h:f j=true):H7 f n j=((GS f j).length:Int):=by unfold H7;rw[AU ⟨a,h⟩]
theorem Vu {f:Nat->Bool} {n j:Nat} (h:f j=false):H7 f n j=-1:=by unfold H7;rw[AP (by rw[h];simp)]
theorem Vv (f:Nat->Bool) (n z:Nat) (a:n<=1024):-1<=H7 f n z/\H7 f n z<=2000:=by
 unfold H7;split
 .have:=Ok f z;omega
 .omega
theorem Wu {f:Nat->Bool} {j:Nat} (h:f j=true):GS f (j+1)=GS f j++[j]:=by rw[Qq,AU h]
theorem Vw {f:Nat->Bool} {j:Nat} (h:f j=false):GS f (j+1)=GS f j:=by rw[Qq,AP (by rw[h];decide),BC]
theorem Xz (f:Nat->Int):FF f 256=(((List.range 256).map f).map (Value.int .i64)).toArray:=by unfold FF GY;rw[Gc];rfl
theorem X0 (f:Nat->ByteArray):GU f 256=(((List.range 256).map f).map Value.string).toArray:=by unfold GU GY;rw[Gc];rfl
theorem SG {a g:Nat} {w:World} {f:Nat->Int} (h:BL w g 3 (FF f 256)) (b:a<=g):Jf a w 3 (.slice (some ⟨g,0,none⟩) 256 256) (((List.range 256).map f).map (Value.int .i64)):=⟨g,rfl,b,by rw[<-Xz];exact h,by simp⟩
theorem X4 {a g:Nat} {w:World} {f:Nat->ByteArray} (h:BL w g 9 (GU f 256)) (b:a<=g):Jf a w 9 (.slice (some ⟨g,0,none⟩) 256 256) (((List.range 256).map f).map Value.string):=⟨g,rfl,b,by rw[<-X0];exact h,by simp⟩
theorem Jf.call {a:Nat} {w w':World} {T:TypeId} {v:Value} {xs:List Value} (h:Jf a w T v xs) (b:Below w.heap.size w w'):Jf a w' T v xs:=by obtain⟨g,e,h1,h2,h3⟩:=h;exact⟨g,e,h1,h2.below b h2.lt,h3⟩
theorem getD_some {a:List Nat} {i:Nat} (hi:i<a.length):a[i]?=some (a.getD i 0):=by rw[AC,AG hi];rfl
def Im (q:SeqM) (k:Frt) (f:Nat->Bool) (n s:Nat):Prop:=∀t,t<s->f t=true->∀b,b<256->kept q (H7 f n) t b->(q.os t b).size+(k.l (q.nx t b).toNat).size<=4096+(k.l t).size
section
variable {q:SeqM} {k:Frt} {n:Nat} {seen:Nat->Bool}
theorem Vx (c:Gp q=true) (g:q.next.length=n) (i:Kept q k n seen) (d:q.front.size+(k.l 0).size<=100000000) (j:Im q k (keepF k seen) n n) :(D9 q k (H7 (keepF k seen) n) (GS (keepF k seen) n)).next.length<=1024/\(D9 q k (H7 (keepF k seen) n) (GS (keepF k seen) n)).outs.length=(D9 q k (H7 (keepF k seen) n) (GS (keepF k seen) n)).next.length /\(D9 q k (H7 (keepF k seen) n) (GS (keepF k seen) n)).ends.length=(D9 q k (H7 (keepF k seen) n) (GS (keepF k seen) n)).next.length /\(D9 q k (H7 (keepF k seen) n) (GS (keepF k seen) n)).tail.length=(D9 q k (H7 (keepF k seen) n) (GS (keepF k seen) n)).next.length/\(D9 q k (H7 (keepF k seen) n) (GS (keepF k seen) n)).front.size<=100000000 /\∀s,s<(D9 q k (H7 (keepF k seen) n) (GS (keepF k seen) n)).next.length->((D9 q k (H7 (keepF k seen) n) (GS (keepF k seen) n)).tail.getD s ByteArray.empty).size<=4096 /\((D9 q k (H7 (keepF k seen) n) (GS (keepF k seen) n)).next.getD s []).length=256/\((D9 q k (H7 (keepF k seen) n) (GS (keepF k seen) n)).outs.getD s []).length=256 /\∀b,b<256->-1<=((D9 q k (H7 (keepF k seen) n) (GS (keepF k seen) n)).next.getD s []).getD b 0 /\((D9 q k (H7 (keepF k seen) n) (GS (keepF k seen) n)).next.getD s []).getD b 0<(D9 q k (H7 (keepF k seen) n) (GS (keepF k seen) n)).next.length /\(((D9 q k (H7 (keepF k seen) n) (GS (keepF k seen) n)).outs.getD s []).getD b ByteArray.empty).size<=4096:=by
 have h0:=Zl c g i (fun s a m b e o=>j s a m b e o);obtain⟨p,r,t,u,_,f⟩:=Ea h0;refine⟨p,r,t,u,?_,fun s a=>?_⟩
 .show (q.front++k.l 0).size<=100000000;rw[Cg];exact d
 .refine ⟨(FQ h0 (s:=s) (b:=0) a (by decide)).2.2.2.2.1,(f s a).1,(f s a).2,fun b e=>?_⟩;obtain⟨v,a2,a3,_⟩:=FQ h0 (s:=s) (b:=b) a e;exact⟨v,a2,a3⟩
end
section
variable {q:SeqM} {k:Frt} {n s:Nat} {seen:Nat->Bool}
theorem Qu (h:keepF k seen s=true):k.some s=true:=by unfold keepF at h;simp only[AW]at h;exact h.2
theorem Qv (h:keepF k seen s=true):seen s=true:=by unfold keepF at h;simp only[AW]at h;exact h.1
theorem Zq (a:Gp q=true) (d:q.next.length=n) (g:Fronts q k) (i:Kept q k n seen) (e:s<n) (c:keepF k seen s=true) (b:Nat) (f:b<256) (j:kept q (H7 (keepF k seen) n) s b) :(k.l s).size<=(q.os s b).size+(k.l (q.nx s b).toNat).size:=by have m:=(FQ a (s:=s) (by rw[d];exact e) f).2.1;have h2:=(OB a d i e (Qv c) f).1 j;have:=(SF g (by rw[d];exact e) (Qu c) f h2.1 (by omega) h2.2).length_le;rwa [AJ,CK,CK,CK]at this
theorem Zr (b:q.next.length=n) (c:Fronts q k) (d:s<n) (a:keepF k seen s=true) (e:q.en s=true):(k.l s).size<=(q.tl s).size:=by have:=(Qr c (by rw[b];exact d) (Qu a) e).length_le;rwa [CK,CK]at this
theorem X5 (a:Gp q=true) (d:q.next.length=n) (g:Kept q k n seen) (e:s<n) (c:keepF k seen s=true) (h:Vk q k (H7 (keepF k seen) n) s):Qs q k:=by obtain⟨b,f,i,j⟩:=h;have h2:=(OB a d g e (Qv c) f).1 i;exact .inl ⟨s,b,by rw[d];exact e,f,h2.1,h2.2,j⟩
end
theorem X6 {W0 W:World} {b:Nat} {c:ByteArray} (d:BL W b 27 #[.string c,Bf,Bf,Bf,Bf]) (e:W0.heap.size<=b) (a:Below W0.heap.size W0 W):SqB W0 W b c Bf Bf Bf Bf [] [] [] [] [] []:=⟨d,Bc _ _ _ _,Bc _ _ _ _,Bc _ _ _ _,Bc _ _ _ _,fun _i h=>absurd h (B6 _),fun _i h=>absurd h (B6 _),fun _i h=>absurd h (B6 _),e,a⟩
def Gr (q:SeqM) (k:Frt) (f:Nat->Bool) (n s:Nat) (N:List (List Int)) (O:List (List ByteArray)) (E:List Bool) (T:List ByteArray):Prop:=N=(GS f s).map (Ua q (H7 f n))/\O=(GS f s).map (Ub q k (H7 f n))/\E=(GS f s).map q.en/\T=(GS f s).map (L7 q k)
section
variable {q:SeqM} {k:Frt} {f:Nat->Bool} {n s:Nat} {N:List (List Int)} {O:List (List ByteArray)} {E:List Bool} {T:List ByteArray}
theorem Gr.start:Gr q k f n 0 [] [] [] []:=⟨rfl,rfl,rfl,rfl⟩
theorem Gr.len (h:Gr q k f n s N O E T):N.length=(GS f s).length/\O.length=(GS f s).length/\E.length=(GS f s).length/\T.length=(GS f s).length:=by obtain⟨rfl,rfl,rfl,rfl⟩:=h;simp
theorem Gr.skip (h:Gr q k f n s N O E T) (a:f s=false):Gr q k f n (s+1) N O E T:=by unfold Gr at h ⊢;rw[Vw a];exact h
theorem Gr.put (h:Gr q k f n s N O E T) (a:f s=true):Gr q k f n (s+1) (N++[Ua q (H7 f n) s]) (O++[Ub q k (H7 f n) s]) (E++[q.en s]) (T++[L7 q k s]):=by unfold Gr at h ⊢;obtain⟨rfl,rfl,rfl,rfl⟩:=h;rw[Wu a];simp
theorem Gr.seq (h:Gr q k f n n N O E T):D9 q k (H7 f n) (GS f n)=⟨q.front++k.l 0,N,O,E,T⟩:=by obtain⟨rfl,rfl,rfl,rfl⟩:=h;rfl
theorem Im.start:Im q k f n 0:=fun _t h=>absurd h (B6 _)
theorem Im.skip (h:Im q k f n s) (b:f s=false):Im q k f n (s+1):=fun t c a=>by
 by_cases e:t=s
 .subst e;rw[b]at a;cases a
 .exact h t (by omega) a
theorem Im.put (h:Im q k f n s) (c:∀b,b<256->kept q (H7 f n) s b->(q.os s b).size+(k.l (q.nx s b).toNat).size<=4096+(k.l s).size):Im q k f n (s+1):=fun t d a=>by
 by_cases e:t=s
 .subst e;exact c
 .exact h t (by omega) a
end
end
section
open Go.RowKit Go.Sort
theorem Zs (q:SeqM) (v:Value) (B:Nat) (w:World) (E:GC w B q v) (F:B<=w.heap.size) (c:Gp q=false) :Calls Tryz.prog 33 #[v] w (K_ q w):=by
 have f:=AB (fun W (d:Below w.heap.size w W)=>(E.below (d.mono F)).more (AK F d.size));obtain⟨l,m,n,o,p,r,s,t,rfl,O,l1,l2,P,Q,R,S,T,U,I,J,K,u,G,H,g⟩:=E;have L:=AB G;have M:=AB (AI H g);clear I K G H J u g
 have i:=AB (fun(W:World) (d:Below w.heap.size w W)=>show K_ q w (.returned (.tuple #[.agg #[.string ⟨#[]⟩,.slice none 0 0,.slice none 0 0,.slice none 0 0,.slice none 0 0],.int .i64 1])) W from
  ⟨d,_,MI,1,rfl,I5 _ _,.inl ⟨c,rfl,rfl⟩⟩)
 have b:=AB (fun W d=>Ii q _ W.heap.size W (f.out W d) (AD _));rw[c]at b;generalize q.front=x at *;generalize q.next.length=y at *;generalize q.outs.length=z at *;generalize q.ends.length=A at *;generalize q.tail.length=C at *;have B0:Below w.heap.size w ((w.alloc (.cells #[.string x,.slice l y m,.slice n z o,.slice p A r,.slice s C t] 27)).alloc (.cells #[.string ⟨#[]⟩,.slice none 0 0,.slice none 0 0,.slice none 0 0,.slice none 0 0] 27)):=((AH _ w).alloc (AD _) _).alloc (by simp) _;have j:=(BL.new w 27 #[.string x,.slice l y m,.slice n z o,.slice p A r,.slice s C t]).alloc (.cells #[.string ⟨#[]⟩,.slice none 0 0,.slice none 0 0,.slice none 0 0,.slice none 0 0] 27);have D:=BL.new (w.alloc (.cells #[.string x,.slice l y m,.slice n z o,.slice p A r,.slice s C t] 27)) 27 #[.string ⟨#[]⟩,.slice none 0 0,.slice none 0 0,.slice none 0 0,.slice none 0 0];simp only[Ad]at D;have V:=j.cell 0;have X:=j.cell 1;have Y:=j.cell 2;have Z:=j.cell 3;have j4:=j.cell 4;clear c;go_enter Tryz.func33,Tryz.ntmps33
 go_wp2_with fail
 refine(b.out _ B0).mono ?_;rintro e w1 ⟨rfl,k⟩;have a:=D.below k D.lt;have r0:=a.cell 0;have r1:=a.cell 1;have r2:=a.cell 2;have r3:=a.cell 3;have r4:=a.cell 4;have g0:=a.frozen 0;have g1:=a.frozen 1;have g2:=a.frozen 2;have g3:=a.frozen 3;have g4:=a.frozen 4;have N:O1 false=1:=rfl
 go_wp2_with fail
 exact LC rfl rfl (Ec a _ _ _ _ _) (i.out _ (DR (B0.trans (k.mono (by simp;omega))) (by omega) _ _ _ _ _))
end
end Go.Proofs.YtcondkihpmmnnaaGreatDoor
