/- Lemmas, part 24 of 50. No condition. -/
import Derived.Test.YtcondkihpmmnnaaGreatDoorTwin22
import Derived.Tactics2
import Derived.Recover
import Derived.ChangeAlike
import Derived.Laws.Pointers
set_option maxRecDepth 100000
set_option maxHeartbeats 16000000
namespace Go.Proofs.YtcondkihpmmnnaaGreatDoor
section
open Go.RowKit Go.Sort
theorem Hu {Q:Exit->Act->World->Prop} {base:Act} {w:World} {ds:List Tmp} {o:Oper} {d:Tmp} (l:o.dst=some d) (m:o.guard=none) (n:Nat) (t:TypeId) (c:o.op=Op.makeSlice t (.const (.int .i64 (n:Int))) (.const (.int .i64 (n:Int)))) (e:TypeId) (i:TypeInfo) (z:Value) (size:Nat) (h1:Tryz.prog.underlying t=some (.slice e)) (h2:Tryz.prog.info? e=some i) (h3:i.zero=some z) (h4:i.size=size) (p:i.bytes*n<=281474976710656) (q:n<=maxLen) :Maker Tryz.prog Q base w ds o d (fun v W=>∃g,v=.slice (some ⟨g,0,none⟩) n n/\w.heap.size<=g/\W.ownsRow w.heap.size e size v n (madeCells z.cells (n*size)).toList):=by
 refine⟨l,m,?_,?_⟩
 .rintro v W W' ⟨g,rfl,f,r⟩ b;exact⟨g,rfl,f,BQ r b⟩
 .intro act W K s b u;have j:act.eval (.const (.int .i64 (n:Int)))=.int .i64 (n:Int):=rfl;obtain⟨w',a,x,y⟩:=run_make_full (P:=Tryz.prog) W w.heap.size t e i z size h1 h2 h3 h4 .i64 .i64 n p q b.size;unfold Oper.wp;simp[execOp,c,j,a,Result.andThen];show K (act.put o.dst _) _;rw[l];exact u _ _ ((AH _ W).grown y (AD _) (fun k e=>by cases e)) ⟨W.heap.size,rfl,b.size,x⟩
theorem Fq:(Tryz.prog.info? 3).map (fun i=>(i.zero,i.size,i.bytes))=some (some (.int .i64 0),1,8):=by kernel_rfl
theorem MV:(Tryz.prog.info? 55).map (fun i=>(i.zero,i.size,i.bytes))=some (some (.slice none 0 0),1,24):=by kernel_rfl
theorem Kt:(Tryz.prog.info? 25).map (fun i=>(i.zero,i.size,i.bytes))=some (some (.slice none 0 0),1,24):=by kernel_rfl
theorem IL:(Tryz.prog.info? 4).map (fun i=>(i.zero,i.size,i.bytes))=some (some (.bool false),1,1):=by kernel_rfl
def QZ (P0 G MB:Nat) (k:Nat):Prop:=k<P0/\k≠G/\k≠MB
def S7 (B0 P0 G MB:Nat) (vA vE:Value) (most:Nat) (fr:ByteArray) (ns:Nat) (t:Fs) (S:Mk) (s:Nat) (w:World) (e:Ending) (w':World):Prop:=
 Below B0 w w'/\(∀g,QZ P0 G MB g->w'.heap[g]?=w.heap[g]?)/\match Tg t most S s with
  | .error k=>e=FP k
  | .ok S'=>e=.returned (.tuple #[])/\(∃vR' vN' vO' vE' vT' tv' nv' ov' M',MkV w' B0 P0 G MB vA vE (most:Int) fr vR' vN' vO' vE' vT' tv' nv' ov' S' M')/\(∀r∈S'.rows,RowG ns r)/\S'.rows.length<=most
theorem JU.of_blk {M:Nat->Prop} {w:World} {g:Nat} {T:TypeId} {xs:List Value} {n:Nat} (h:BL w g T xs.toArray) (a:xs.length=n) (b:n<=maxLen) (c:¬M g):JU M w 1 (.slice (some ⟨g,0,none⟩) n n) n xs:=⟨g,n,rfl,AD _,b,h.lt,c,by rw[CG];exact a,fun _=>⟨_,rfl,h.lt,fun j u d=>by rw[Gq,C8,h.cell];simpa using d⟩⟩
theorem JU.far {M:Nat->Prop} {w:World} {k n:Nat} {v:Value} {xs:List Value} (h:JU M w k v n xs) {p:Addr} (a:M p.block) (u:Value):JU M (w.setCell p u) k v n xs:=h.keep (by simp) fun g _ b=>Am _ _ _ _ (fun e=>b (e▸a))
theorem JU.reads {M:Nat->Prop} {w:World} {k n c g:Nat} {xs:List Value} (h:JU M w k (.slice (some ⟨g,0,none⟩) n c) n xs):Reads w w.heap.size k (some ⟨g,0,none⟩) n xs/\g<w.heap.size/\¬M g:=by
 obtain⟨a,b,e,h1,h2,h3,h4,h5⟩:=h;injection e with e1 e2 e3
 injection e1 with e1
 injection e1 with e1
 subst e1;exact⟨h5,h3,h4⟩
theorem EV.slr {M:Nat->Prop} {w:World} {g c:Nat} {l:List Tp} (h:EV CL 2 w g l.length fun a=>l.getD a DI) (d:l.length<=c) (e:c<=maxLen) (b:g<w.heap.size) (f:¬M g):JU M w 2 (.slice (some ⟨g,0,none⟩) l.length c) l.length (B_ CL l):=⟨g,c,rfl,d,e,b,f,h.reads Dg (by decide) DI (AD _) b⟩
section
variable {w w' w1:World} {B0 P0 G MB:Nat} {vA vE:Value} {most:Int} {fr:ByteArray} {vR vN vO vEn vT:Value} {tv nv ov:List Value} {S:Mk} {M M':Nat->Prop}
theorem MkV.notInt (h:MkV w B0 P0 G MB vA vE most fr vR vN vO vEn vT tv nv ov S M) {g:Nat} {b:Array Value} (a:BL w g 3 b):¬Lj G MB vR vN vO vEn vT g:=by
 rintro(e|e|e|e|e|e|e)
 .exact BL.ne_ a h.box (by decide) e
 .exact FV h.num a e
 .exact AV h.oR a (by decide) e
 .exact AV h.oN a (by decide) e
 .exact AV h.oO a (by decide) e
 .exact AV h.oE a (by decide) e
 .exact AV h.oT a (by decide) e
theorem MkV.notText (h:MkV w B0 P0 G MB vA vE most fr vR vN vO vEn vT tv nv ov S M) {g:Nat} {b:Array Value} (a:BL w g 9 b) (c:vT.ownBlock≠some g):¬Lj G MB vR vN vO vEn vT g:=by
 rintro(e|e|e|e|e|e|e)
 .exact BL.ne_ a h.box (by decide) e
 .exact FV h.num a e
 .exact AV h.oR a (by decide) e
 .exact AV h.oN a (by decide) e
 .exact AV h.oO a (by decide) e
 .exact AV h.oE a (by decide) e
 .exact c e
end
end
section
open Go.RowKit Go.Sort
section
variable {K:Act->World->Prop} {Q:Exit->Act->World->Prop} {a:Act} {W:World} {o:Oper}
theorem NA (x:Operand) (b:o.op=Op.assign x) (c:K (a.put o.dst (a.eval x)) W):o.wp Tryz.prog a W K Q:=by unfold Oper.wp;simp[execOp,b];exact c
end
theorem JH {a:Act} {d:Tmp} (h:d<a.tmps.size) (v:Value):(a.put (some d) v).eval (.tmp d)=v:=Fc (Ik h v)
theorem MW {a:Act} {d x:Tmp} (h:d≠x) (v:Value):(a.put (some d) v).eval (.tmp x)=a.eval (.tmp x):=by unfold Act.eval;simp only[Gt,EB h]
theorem Nk {id:Nat} {base:Act} {w:World} {n k g r:Oper} {Q:Exit->Act->World->Prop} {d0 d1 e0:Tmp} {F0 F1:Value->World->Prop} (z:Tryz.prog.follows .mixedOrders=true) (A:Lh .any #[n,k,g,r] 3 [] [0,1,2] (fun i=>if i=2 then[0]else[])=true) (h01:d0≠d1) (_h0e:d0≠e0) (s:d1≠e0) (u:d0<base.tmps.size/\d1<base.tmps.size) (q:Maker Tryz.prog (NoPanic Q) base w.drew [d0,d1,e0] n d0 F0) (o:Maker Tryz.prog (NoPanic Q) base w.drew [d0,d1,e0] k d1 F1) (g2:g.guard=none) (d2:g.dst=some e0) (x:g.op=Op.assign (.tmp d0)) (h:∀v0 f W,Below w.heap.size w W->F0 v0 W->F1 f W->wpList Tryz.prog #[n,k,g,r] (NoPanic Q) [r] (((base.put (some d0) v0).put (some d1) f).put (some e0) v0) W) :(Code.region id #[n,k,g,r] true).wp Tryz.prog Q base w:=by
 have m:∀W,Below w.drew.heap.size w.drew W->Below w.heap.size w W:=fun W e=>(AH _ w).drew.trans e
 have size_put:∀(a:Act) (d:Tmp) (v:Value),(a.put (some d) v).tmps.size=a.tmps.size:=fun a d v=>J6 v
 refine EL (l:=[n,k,g,r]) 3 [] [0,1,2] (fun i=>if i=2 then[0]else[]) z A rfl rfl
  (fun p a W=>Below w.drew.heap.size w.drew W/\((p=[0,1,2]/\a=base)\/(p=[1,2]/\∃v0,F0 v0 W/\a=base.put (some d0) v0)\/(p=[0,2]/\∃f,F1 f W/\a=base.put (some d1) f) \/(p=[2]/\∃v0 f,F0 v0 W/\F1 f W/\a=(base.put (some d0) v0).put (some d1) f)\/(p=[1]/\∃v0,F0 v0 W/\a=(base.put (some d0) v0).put (some e0) v0) \/(p=[]/\∃v0 f,F0 v0 W/\F1 f W/\a=((base.put (some d0) v0).put (some d1) f).put (some e0) v0))) ?_ ?_ ?_
 .rintro p a W ⟨e,t⟩ i hi y
  rcases t with⟨rfl,rfl⟩|⟨rfl,v0,f0,rfl⟩|⟨rfl,f,f1,rfl⟩|⟨rfl,v0,f,f0,f1,rfl⟩|⟨rfl,v0,f0,rfl⟩|⟨rfl,_⟩
  .simp only[Bh,BP,Eg]at hi
   rcases hi with rfl|rfl|rfl
   .refine ⟨n,rfl,q.guard,q.makes _ W _ (fun _ _=>rfl) e fun v W' c j=>?_⟩;have b:=e.trans (c.mono e.size);exact⟨A5 (m _ b),b,.inr (.inl ⟨rfl,v,j,rfl⟩)⟩
   .refine ⟨k,rfl,o.guard,o.makes _ W _ (fun _ _=>rfl) e fun v W' c j=>?_⟩;have b:=e.trans (c.mono e.size);exact⟨A5 (m _ b),b,.inr (.inr (.inl ⟨rfl,v,j,rfl⟩))⟩
   .exact absurd (by simp) (y 0 (by simp))
  .simp only[Bh,BP,Eg]at hi
   rcases hi with rfl|rfl
   .refine ⟨k,rfl,o.guard,o.makes _ W _ (DQ (by simp) fun _ _=>rfl) e fun v W' c j=>?_⟩;have b:=e.trans (c.mono e.size);exact⟨A5 (m _ b),b,.inr (.inr (.inr (.inl ⟨rfl,v0,v,q.stays _ _ _ f0 c,j,rfl⟩)))⟩
   .refine ⟨g,rfl,g2,NA _ x ?_⟩;rw[d2,JH u.1];exact⟨A5 (m _ e),e,.inr (.inr (.inr (.inr (.inl ⟨rfl,v0,f0,rfl⟩))))⟩
  .simp only[Bh,BP,Eg]at hi
   rcases hi with rfl|rfl
   .refine ⟨n,rfl,q.guard,q.makes _ W _ (DQ (by simp) fun _ _=>rfl) e fun v W' c j=>?_⟩;have b:=e.trans (c.mono e.size);exact⟨A5 (m _ b),b,.inr (.inr (.inr (.inl ⟨rfl,v,f,j,o.stays _ _ _ f1 c,put_comm _ (CF h01) _ _⟩)))⟩
   .exact absurd (by simp) (y 0 (by simp))
  .obtain rfl:=AM.1 hi;refine⟨g,rfl,g2,NA _ x ?_⟩;rw[d2,MW (CF h01),JH u.1];exact⟨A5 (m _ e),e,.inr (.inr (.inr (.inr (.inr ⟨rfl,v0,f,f0,f1,rfl⟩))))⟩
  .obtain rfl:=AM.1 hi;refine⟨k,rfl,o.guard,o.makes _ W _ (DQ (by simp) (DQ (by simp) fun _ _=>rfl)) e fun v W' c j=>?_⟩;have b:=e.trans (c.mono e.size);exact⟨A5 (m _ b),b,.inr (.inr (.inr (.inr (.inr ⟨rfl,v0,v,q.stays _ _ _ f0 c,j,put_comm _ (CF s) _ _⟩))))⟩
  .cases hi
 .rintro a W ⟨e,t⟩
  rcases t with⟨h,_⟩|⟨h,_⟩|⟨h,_⟩|⟨h,_⟩|⟨h,_⟩|⟨_,v0,f,f0,f1,rfl⟩
  .cases h
  .cases h
  .cases h
  .cases h
  .cases h
  .exact h v0 f W (m _ e) f0 f1
 .exact Ah ⟨AH _ _,.inl ⟨rfl,rfl⟩⟩
end
section
open Go.RowKit Go.Sort
theorem MkV.mine {w:World} {B0 P0 G MB:Nat} {vA vE:Value} {most:Int} {fr:ByteArray} {vR vN vO vEn vT:Value} {tv nv ov:List Value} {S:Mk} {M:Nat->Prop} (h:MkV w B0 P0 G MB vA vE most fr vR vN vO vEn vT tv nv ov S M) {g:Nat} (a:Lj G MB vR vN vO vEn vT g):M g:=by
 rcases a with rfl|rfl|e|e|e|e|e
 .exact h.mG
 .exact h.mM
 .exact h.mR g e
 .exact h.mN g e
 .exact h.mO g e
 .exact h.mE g e
 .exact h.mT g e
theorem MkV.step {w d c:World} {B0 P0 G MB:Nat} {vA vE:Value} {most:Int} {fr:ByteArray} {vR vN vO vEn vT:Value} {tv nv ov:List Value} {S:Mk} {M:Nat->Prop} (h:MkV w B0 P0 G MB vA vE most fr vR vN vO vEn vT tv nv ov S M) (a:Below w.heap.size w d) {u:Value} (f:∀g,u.ownBlock=some g->P0<=g) (b:d.grownBy c u.ownBlock) (i:Nat) (v:Value):Below B0 w (c.setCell ⟨G,i,none⟩ v)/\∀g,QZ P0 G MB g->(c.setCell ⟨G,i,none⟩ v).heap[g]?=w.heap[g]?:=by have h1:=h.le;have h2:=h.sz;have h3:=h.gG;have h4:=a.size;refine⟨((a.mono (by omega)).grown b (by omega) (fun k l=>by have:=f k l;omega)).setCell (p:=⟨G,i,none⟩) h3 v,fun g j=>?_⟩;have h5:=j.1;rw[Am _ _ _ _ (show g≠G from j.2.1),b.block g (by omega) (fun e=>by have:=f g e.symm;omega),a.block g (by omega)]
theorem MkV.carry {w l m:World} {B0 P0 G MB:Nat} {vA vE:Value} {most:Int} {fr:ByteArray} {vR vN vO vEn vT:Value} {tv nv ov:List Value} {S:Mk} {M:Nat->Prop} (h:MkV w B0 P0 G MB vA vE most fr vR vN vO vEn vT tv nv ov S M) (a:Below w.heap.size w l) {u v':Value} (o:∀g,u.ownBlock=some g->M g) (b:l.grownBy m u.ownBlock) (c:v'.ownBlock=u.ownBlock\/v'.ownBlock=some l.heap.size) (i:Nat) {k n:Nat} {v:Value} {xs:List Value} (p:JU M w k v n xs) :JU (fun g=>M g\/v'.ownBlock=some g) (m.setCell ⟨G,i,none⟩ v') k v n xs:=by
 have z2:=a.size;have z3:=b.size;refine(p.set (M':=fun g=>M g\/v'.ownBlock=some g) fun g d e=>?_).keep (by simp;omega) fun g d q=>?_
 .rcases e with e|e
  .exact e
  .rcases c with f|f
   .exact o g (f▸e)
   .rw [f]at e;have:=AL e;omega
 .have j:¬M g:=fun e=>q (.inl e)
  rw[Am _ _ _ _ (show g≠G from fun e=>j (e▸h.mG)),b.block g (by omega) (fun e=>j (o g e.symm)),a.block g d]
theorem Vd (l:List Int) (n:Nat) (h:l.length=n):J7 l n=(l.map (Value.int .i64)).toArray:=by unfold J7;rw[h,Gd];simp
theorem UE (l:List ByteArray) (n:Nat) (h:l.length=n):I4 l n=(l.map Value.string).toArray:=by unfold I4;rw[h,Gd];simp
structure DoW (w wr:World) (B0 P0 G MB:Nat) (vA vE:Value) (most:Nat) (fr:ByteArray) (vR vN vO vEn vT:Value) (tv nv ov:List Value) (S:Mk) (rows:List (List Tp)) (M:Nat->Prop) (gN gO:Nat) (cN cO:Array Value) (gl n cl:Nat) (l:List Tp) (ns:Nat):Prop where
 mv:MkV wr B0 P0 G MB vA vE (most:Int) fr vR vN vO vEn vT tv nv ov { S with rows:=rows } M
 hN:BL wr gN 3 cN
 hO:BL wr gO 9 cO
 tO:vT.ownBlock≠some gO
 pN:P0<=gN
 pO:P0<=gO
 mN:M gN
 mO:M gO
 bd:∀g,M g->g<wr.heap.size
 row:JU M wr 2 (.slice (some ⟨gl,0,none⟩) n cl) n (B_ CL l)
 good:∀r∈rows,RowG ns r
 len:rows.length<=most
 bel:Below B0 w wr
 old:∀g,QZ P0 G MB g->wr.heap[g]?=w.heap[g]?
section
variable {w wr w':World} {B0 P0 G MB:Nat} {vA vE:Value} {most:Nat} {fr:ByteArray} {vR vN vO vEn vT:Value} {tv nv ov:List Value} {S:Mk} {rows:List (List Tp)} {M:Nat->Prop} {gN gO:Nat} {cN cO:Array Value} {gl n cl:Nat} {l:List Tp} {ns:Nat}
theorem DoW.call (h:DoW w wr B0 P0 G MB vA vE most fr vR vN vO vEn vT tv nv ov S rows M gN gO cN cO gl n cl l ns) (a:Below wr.heap.size wr w'):DoW w w' B0 P0 G MB vA vE most fr vR vN vO vEn vT tv nv ov S rows M gN gO cN cO gl n cl l ns:=
 { h with
  mv:=h.mv.call a
  hN:=h.hN.below a h.hN.lt
  hO:=h.hO.below a h.hO.lt
  bd:=fun g b=>Aj (h.bd g b) a.size
  row:=h.row.below a
  bel:=h.bel.trans (a.mono (AK h.mv.le h.mv.sz))
  old:=fun g b=>(a.block g (Aj b.1 h.mv.sz)).trans (h.old g b) }
theorem DoW.ne (h:DoW w wr B0 P0 G MB vA vE most fr vR vN vO vEn vT tv nv ov S rows M gN gO cN cO gl n cl l ns):gN≠gO:=BL.ne_ h.hN h.hO (by decide)
theorem DoW.setN (h:DoW w wr B0 P0 G MB vA vE most fr vR vN vO vEn vT tv nv ov S rows M gN gO cN cO gl n cl l ns) (i:Nat) (u:Value):DoW w (wr.setCell ⟨gN,i,none⟩ u) B0 P0 G MB vA vE most fr vR vN vO vEn vT tv nv ov S rows M gN gO (cN.setIfInBounds i u) cO gl n cl l ns:=
 { h with
  mv:=h.mv.far h.mN (h.mv.notInt h.hN) u
  hN:=h.hN.set_ i u
  hO:=h.hO.far (fun e=>h.ne e.symm) u
  bd:=fun g a=>by simpa using h.bd g a
  row:=h.row.far h.mN u
  bel:=h.bel.setCell (p:=⟨gN,i,none⟩) (AK h.mv.le h.pN) u
  old:=fun g a=>by have h1:=h.pN;have h2:=a.1;exact(Am _ _ _ _ (show g≠gN by omega)).trans (h.old g a) }
theorem DoW.setO (h:DoW w wr B0 P0 G MB vA vE most fr vR vN vO vEn vT tv nv ov S rows M gN gO cN cO gl n cl l ns) (i:Nat) (u:Value):DoW w (wr.setCell ⟨gO,i,none⟩ u) B0 P0 G MB vA vE most fr vR vN vO vEn vT tv nv ov S rows M gN gO cN (cO.setIfInBounds i u) gl n cl l ns:=
 { h with
  mv:=h.mv.far h.mO (h.mv.notText h.hO h.tO) u
  hN:=h.hN.far h.ne u
  hO:=h.hO.set_ i u
  bd:=fun g a=>by simpa using h.bd g a
  row:=h.row.far h.mO u
  bel:=h.bel.setCell (p:=⟨gO,i,none⟩) (AK h.mv.le h.pO) u
  old:=fun g a=>by have h1:=h.pO;have h2:=a.1;exact(Am _ _ _ _ (show g≠gO by omega)).trans (h.old g a) }
theorem DoW.stated (h:DoW w wr B0 P0 G MB vA vE most fr vR vN vO vEn vT tv nv ov S rows M gN gO cN cO gl n cl l ns) {r:List Tp} (x:RowG ns r) {i:Nat} {a:List (List Tp)} (s:FO most rows r=.ok (i,a)) {c:Value} {d:List Value} (u:MkV w' B0 P0 G MB vA vE (most:Int) fr c vN vO vEn vT d nv ov { S with rows:=a } (fun g=>M g\/c.ownBlock=some g)) (j:∀g,c.ownBlock=some g->vR.ownBlock=some g\/wr.heap.size<=g) (p:∀g,g<wr.heap.size->g≠G->g≠MB->vR.ownBlock≠some g->w'.heap[g]?=wr.heap[g]?) (v:Below B0 wr w') :DoW w w' B0 P0 G MB vA vE most fr c vN vO vEn vT d nv ov S a (fun g=>M g\/c.ownBlock=some g) gN gO cN cO gl n cl l ns:=by
 have y:=v.size;have key:∀g,g<wr.heap.size->¬M g->w'.heap[g]?=wr.heap[g]?:=fun g b k=>p g b (fun e=>k (e▸h.mv.mG)) (fun e=>k (e▸h.mv.mM)) (fun e=>k (h.mv.mR g e))
 obtain⟨_,z,_,A⟩:=Kk s h.len;have m:=h.mv.notInt h.hN;have o:=h.mv.notText h.hO h.tO;unfold Lj at m o;simp only[not_or]at m o
 exact {
  mv:=u
  hN:=(p gN h.hN.lt m.1 m.2.1 m.2.2.1).trans h.hN
  hO:=(p gO h.hO.lt o.1 o.2.1 o.2.2.1).trans h.hO
  tO:=h.tO
  pN:=h.pN
  pO:=h.pO
  mN:=.inl h.mN
  mO:=.inl h.mO
  bd:=fun g b=>by
   rcases b with b|b
   .have:=h.bd g b;omega
   .exact (own_lt u.oR g b).2
  row:=(h.row.set (M':=fun g=>M g\/c.ownBlock=some g) fun g b e=>by
   rcases e with e|e
   .exact e
   .rcases j g e with f|f
    .exact h.mv.mR g f
    .omega).keep y fun g b k=>key g b (fun e=>k (.inl e))
  good:=fun q t=>by
   rcases A q t with t|rfl
   .exact h.good q t
   .exact x
  len:=z
  bel:=h.bel.trans v
  old:=fun g b=>by have h1:=b.1;have h2:=h.mv.sz;refine(p g (by omega) b.2.1 b.2.2 (fun e=>?_)).trans (h.old g b);have:=(own_lt h.mv.oR g e).1;omega }
end
end
section
open Go.RowKit Go.Sort
theorem X1Q {B0 b G MB:Nat} {most:Nat} {fr:ByteArray} {vR vN vO fy vT:Value} {tv nv ov:List Value} {S:Mk} {M:Nat->Prop} (t:Fs) (LA LE ns s:Nat) (w:World) (h:MkV w B0 b G MB (.slice (some ⟨LA,0,none⟩) ns ns) (.slice (some ⟨LE,0,none⟩) ns ns) (most:Int) fr vR vN vO fy vT tv nv ov S M) (HA:GE (QZ b G MB) Cx 8 w LA ns (Lz t.arcs)) (HE:GE (QZ b G MB) Kr 1 w LE ns (EX t.ends)) (hP:Pow w B0) (hs:s<S.rows.length) (hr:∀r∈S.rows,RowG ns r) (fz:S.rows.length<=most) (hm:most<=1024) (d7:ns<=1024) (L:S.next.length<=1024/\S.outs.length<=1024/\S.ends.length<=1024/\S.tails.length<=1024) (ha:t.arcs.length<=16384/\∀x∈t.arcs,x.out.size<=1024/\OU x.set/\0<=x.to/\x.to<(ns:Int)) (he:t.ends.length<=1024/\∀x∈t.ends,x.out.size<=1024) :Calls Tryz.prog 64 #[.pointer (some ⟨G,0,none⟩),.int .i64 (s:Int)] w (S7 B0 b G MB (.slice (some ⟨LA,0,none⟩) ns ns) (.slice (some ⟨LE,0,none⟩) ns ns) most fr ns t S s w):=by
 obtain⟨Ar,cr,rfl,gw,gx,d8⟩:=BH h.oR;obtain⟨gR,rfl,gm,gn⟩:=d8 (by omega);obtain⟨An,cn,rfl,_,_,_⟩:=BH h.oN;obtain⟨Ao,co,rfl,_,_,_⟩:=BH h.oO;obtain⟨Ae,ce,rfl,_,_,_⟩:=BH h.oE;obtain⟨At,ct,rfl,_,_,_⟩:=BH h.oT;have b5:=h.box;have c3:=b5.cell 3;have d0:=CM h.oR s hs Bf;have az:=h.tips s hs;have N:=hr _ (P8 hs);obtain⟨gl,cl,hv,f0,gy,gz,g0,dc⟩:=az;have az:=h.tips s hs;rw[hv]at d0 az;have d9:=HE.read (B:=w.heap.size) (fun k hk=>Aj hk.1 h.sz);have a6:=ZI G w.heap.size (some ⟨gl,0,none⟩) (S.rows.getD s []).length cl t.ends (S.rows.getD s []) w _ _ _ _ _ _ _ LE ns most fr b5 dc d9 (AD _) b5.lt (fun x K=>N.all x K) he (by have:=N.len;omega) d7;have ac:=AB a6;obtain⟨l,hl⟩:∃l,l=S.rows.getD s []:=⟨_,rfl⟩
 rw[<-hl]at ac az N dc d0 f0;have HL:=AB hl;have aq:=AB N;have dd:=AB hr;have O:=AB ha
 have de:=AB (show Tg t most S s=match JK t.ends l with
  | .error e=>.error e
  | .ok (e,o)=>
   match Et t.arcs most l S.rows 256 with
   | .error e=>.error e
   | .ok (rows,next,outs)=>.ok ⟨rows,S.next++[next],S.outs++[outs],S.ends++[e],S.tails++[o]⟩by rw[hl];rfl)
 have g1:(0:Int)<=(s:Int):=by omega
 have g3:(s:Int)<(S.rows.length:Int):=by omega
 clear a6 d9 hl N hr ha he hv;generalize df:S.rows.length=nr at *;generalize b8:l.length=n at *;go_enter Tryz.func64,Tryz.ntmps64
 go_wp2_with fail
 refine ac.out.mono ?_;rintro e w1 ⟨P,hT⟩;clear c3 d0 b5;have h1:=h.call P;have b9:B0<=w.heap.size:=AK h.le h.sz;have f1:b<=w.heap.size:=h.sz;rcases a0:JK t.ends l with ek|⟨eb,eo⟩
 .rw [a0]at hT;have hp:S7 B0 b G MB (.slice (some ⟨LA,0,none⟩) ns ns) (.slice (some ⟨LE,0,none⟩) ns ns) most fr ns t S s w (FP ek) w1:=⟨P.mono b9,fun g c=>P.block g (Aj c.1 f1),by rw[de.out,a0]⟩;have HP:=AB hp;unfold FP at hT;subst hT;clear hp a0;go_wp2;exact⟨rfl,HP.out⟩
 .rw [a0]at hT
  subst hT;go_wp2;obtain⟨iN,a7,ea,ec,ed⟩:=BK Fq;obtain⟨iO,a8,ee,ef,eg⟩:=BK GI
  refine Nk (d0:=24) (d1:=25) (e0:=7) (by kernel_rfl) (by kernel_rfl) (by decide) (by decide) (by decide) ⟨by show 24<103;decide,by show 25<103;decide⟩
   (Hu rfl rfl 256 55 rfl 3 iN _ 1 Tryz.underlying55 a7 ea ec (by rw[ed];decide) (by unfold maxLen;decide))
   (Hu rfl rfl 256 25 rfl 9 iO _ 1 Tryz.underlying25 a8 ee ef (by rw[eg];decide) (by unfold maxLen;decide)) rfl rfl rfl ?_
  rintro vi vj w2 C ⟨gN,rfl,f2,ad⟩ ⟨D,rfl,eh,ae⟩;rw[show(Value.int .i64 0).cells=#[Value.int .i64 0]from rfl,CG,BZ]at ad;rw[show(Value.string ByteArray.empty).cells=#[Value.string ByteArray.empty]from rfl,CG,BZ]at ae;have HN:=DG ad;have HO:=DG ae;rw[show(List.replicate 256 (Value.int .i64 0)).toArray=J7 [] 256 from rfl]at HN;rw[show(List.replicate 256 (Value.string ByteArray.empty)).toArray=I4 [] 256 from rfl]at HO;clear ad ae a7 ea ec ed a8 ee ef eg;have ei:∀g,(Value.slice At S.tails.length ct).ownBlock=some g->g≠D:=fun g e=>by have:=(own_lt h1.oT g e).2;have:w1.heap.size<=D:=eh;omega
  have g4:=P.size;have g5:=C.size;have go:w1.heap.size<=gN:=f2;have gp:w1.heap.size<=D:=eh
  have a9:∀g,g<w1.heap.size->((Lj G MB (.slice (some ⟨gR,0,none⟩) nr cr) (.slice An S.next.length cn) (.slice Ao S.outs.length co) (.slice Ae S.ends.length ce) (.slice At S.tails.length ct) g\/g<b)\/g=gN\/g=D)->(Lj G MB (.slice (some ⟨gR,0,none⟩) nr cr) (.slice An S.next.length cn) (.slice Ao S.outs.length co) (.slice Ae S.ends.length ce) (.slice At S.tails.length ct) g\/g<b):=fun g c e=>by
   rcases e with e|e|e
   .exact e
   .omega
   .omega
  have I:=h1.less;have h2:=(I.other (M':=fun g=>(Lj G MB (.slice (some ⟨gR,0,none⟩) nr cr) (.slice An S.next.length cn) (.slice Ao S.outs.length co) (.slice Ae S.ends.length ce) (.slice At S.tails.length ct) g\/g<b)\/g=gN\/g=D) a9 (.inl I.mG) (.inl I.mM) (fun g e=>.inl (I.mR g e)) (fun g e=>.inl (I.mN g e)) (fun g e=>.inl (I.mO g e)) (fun g e=>.inl (I.mE g e)) (fun g e=>.inl (I.mT g e)) (fun g c=>.inl (.inr c))).call C;have ca:JU (fun g=>(Lj G MB (.slice (some ⟨gR,0,none⟩) nr cr) (.slice An S.next.length cn) (.slice Ao S.outs.length co) (.slice Ae S.ends.length ce) (.slice At S.tails.length ct) g\/g<b)\/g=gN\/g=D) w2 2 (.slice (some ⟨gl,0,none⟩) n cl) n (B_ CL l):=((az.below P).set fun g c e=>(a9 g c e).elim (fun e=>h1.mine e) (fun e=>h1.low g e)).below C
  have ej:DoW w w2 B0 b G MB (.slice (some ⟨LA,0,none⟩) ns ns) (.slice (some ⟨LE,0,none⟩) ns ns) most fr (.slice (some ⟨gR,0,none⟩) nr cr) (.slice An S.next.length cn) (.slice Ao S.outs.length co) (.slice Ae S.ends.length ce) (.slice At S.tails.length ct) tv nv ov S S.rows (fun g=>(Lj G MB (.slice (some ⟨gR,0,none⟩) nr cr) (.slice An S.next.length cn) (.slice Ao S.outs.length co) (.slice Ae S.ends.length ce) (.slice At S.tails.length ct) g\/g<b)\/g=gN\/g=D) gN D (J7 [] 256) (I4 [] 256) gl n cl l ns:={
   mv:=h2
   hN:=HN
   hO:=HO
   tO:=fun e=>ei _ e rfl
   pN:=by omega
   pO:=by omega
   mN:=.inr (.inl rfl)
   mO:=.inr (.inr rfl)
   bd:=fun g c=>by
    rcases c with(c|c)|rfl|rfl
    .rcases c with rfl|rfl|e|e|e|e|e
     .exact h2.box.lt
     .exact h2.num.lt
     .exact (own_lt h2.oR g e).2
     .exact (own_lt h2.oN g e).2
     .exact (own_lt h2.oO g e).2
     .exact (own_lt h2.oE g e).2
     .exact (own_lt h2.oT g e).2
    .omega
    .exact HN.lt
    .exact HO.lt
   row:=ca
   good:=dd.out
   len:=by rw[df];exact fz
   bel:=(P.mono b9).trans (C.mono (by omega))
   old:=fun g c=>by have g6:=c.1;rw[C.block g (by omega),P.block g (by omega)] }
  have ba:=AB (show Et t.arcs most l S.rows 0=.ok (S.rows,[],[])from rfl);have dg:=AB ej;have f3:=AB b8
  have bc:=AB (show Tg t most S s=match Et t.arcs most l S.rows 256 with
   | .error e=>.error e
   | .ok (rows,next,outs)=>.ok ⟨rows,S.next++[next],S.outs++[outs],S.ends++[eb],S.tails++[eo]⟩by rw[de.out,a0])
  clear de;clear ej h2 ca HN HO I a9 C h1 h ei P az dc a0 ac d8 df b8;have g7:=dg.out.mv.box.lt;simp only[Act.put];go_wp2;refine Be ?_;go_wp2;go_loopw [26] (fun i wr=>∃(k:Nat) (rows:List (List Tp)) (nx:List Int) (os:List ByteArray) (a1:Value) (el:List Value) (M':Nat->Prop),k<=256/\i=.int .i64 ((k:Nat):Int)/\Et t.arcs most l S.rows k=.ok (rows,nx,os)/\nx.length=k/\os.length=k /\DoW w wr B0 b G MB (.slice (some ⟨LA,0,none⟩) ns ns) (.slice (some ⟨LE,0,none⟩) ns ns) most fr a1 (.slice An S.next.length cn) (.slice Ao S.outs.length co) (.slice Ae S.ends.length ce) (.slice At S.tails.length ct) el nv ov S rows M' gN D (J7 nx 256) (I4 os 256) gl n cl l ns) (fun i _=>256-(intOf i).toNat)
  case atStart=>exact⟨0,_,_,_,_,_,_,AN _,rfl,ba.out,rfl,rfl,dg.out⟩
  case round=>
   clear dg ba;obtain⟨k,rows,nx,os,a1,el,M',hk,rfl,cb,em,en,E⟩:=hrel;have be:=AB cb;have m:=AB em;have J:=AB en;clear cb em en;by_cases af:k<256
   .have g8:(0:Int)<=(k:Int):=by omega
    have g9:(k:Int)<256:=by omega
    have n0:wr.cell? ⟨gN,k,none⟩=some (.int .i64 0):=by rw[E.hN.cell];exact ZQ _ _ _ m.out af
    have n1:=E.hN.frozen k;have z:=E.setN k (.int .i64 (-1));have e1:=Xf nx 256 (-1) (by rw[m.out];exact af);rw[m.out]at e1;rw[e1]at z;clear e1 E
    go_wp2_with fail
    generalize wr.setCell ⟨gN,k,none⟩ (.int .i64 (-1))=w3 at *;have ep:=(HA.kept (fun g c=>z.old g c)).read (B:=w3.heap.size) (fun g c=>Aj c.1 z.mv.sz);have cc:=Vc G w3.heap.size (some ⟨gl,0,none⟩) n cl k t.arcs l w3 _ _ _ _ _ _ _ LA ns most fr z.mv.box z.row.reads.1 ep (AD _) z.mv.box.lt (fun x K=>aq.out.all x K) ⟨O.out.1,fun x K=>⟨(O.out.2 x K).1,(O.out.2 x K).2.1⟩⟩ (by have:=aq.out.len;have:=f3.out;omega) d7 af;have eq:(Db t.arcs l k).length<=16384:=AK (RP t.arcs k l aq.out.nodup) O.out.1;have er:∀x∈Db t.arcs l k,x.out.size<=6000/\0<=x.st/\x.st<(ns:Int):=fun x K=>by obtain⟨y,hy,a,ha,_,_,rfl⟩:=(E8 x).1 K;have h1:=(aq.out.all y hy).2.2;have h2:=O.out.2 a ha;refine⟨?_,h2.2.2.1,h2.2.2.2⟩;have h3:=GJ a k;have e:=BY List.length (DW y.out (a.putB k));rw[CK,AJ,CK,CK]at e;show(y.out++a.putB k).size<=_;omega
    have es:=UA be.out;have cd:=AB cc;have dh:=AB eq;have di:=AB er;have dj:=AB es;clear cc eq er es n0 n1 ep;refine cd.out.mono ?_;rintro e w4 ⟨v,rfl,bg,dk⟩;have dl:=z.call dk;obtain⟨A2,c2,rfl,gq,gr,gs⟩:=BH bg;have et:=AB bg;clear cd bg
    have ag:=AB (show MH t.arcs most l k (rows,nx,os)=match Db t.arcs l k with
     | []=>.ok (rows,nx++[-1],os++[ByteArray.empty])
     | x::r=>
      match EU (x::r)with
      | .error e=>.error e
      | .ok (o,r')=>
       match FO most rows r' with
       | .error e=>.error e
       | .ok (i,rows)=>.ok (rows,nx++[(i:Int)],os++[o])from rfl)
    generalize eu:Db t.arcs l k=bf at *;have hc:=AB eu;clear eu;rcases bf with _|⟨b0,bf⟩
    .have e2:=UC os 256 (by rw[J.out];exact af)
     rw[e2]at dl;have Q:=dj.out.trans ag.out;have bh:=AB Q;clear Q e2 z dk;simp only[Co]at *;go_wp2;go_roundw
     case rel=>exact⟨k+1,rows,nx++[-1],os++[ByteArray.empty],_,_,_,by omega,by go_num,bh.out,by rw[AJ,m.out];rfl,by rw[AJ,J.out];rfl,dl⟩
     case measure=>simp[intOf];omega
    .obtain ⟨g2,cap,hv,ev,cf,ew,bi,HM⟩:=EV.of_own Dg DI et.out rfl (by simp)
     have ar:=Rt g2 cap (b0::bf) w4 HM cf ew bi (by have:=dh.out;omega) (by simp) (fun x K=>by have:=(di.out x K).1;omega);have cg:=AB ar;have gt:(((b0::bf).length:Nat):Int)>0:=by simp
     have f4:(b0::bf)≠[]:=List.cons_ne_nil _ _;injection hv with hv1 _ hv2
     subst hv1 hv2;have HW:=AB (fun w5 (hb:∀B,B<=g2->Below B w4 w5)=>z.call (dk.trans (hb w3.heap.size ev)));have ex:¬M' g2:=fun e=>by have:=z.bd g2 e;omega
     have f5:=hP
     have d:MH t.arcs most l k (rows,nx,os)=match EU (b0::bf)with
      | .error e=>.error e
      | .ok (o,r')=>
       match FO most rows r' with
       | .error e=>.error e
       | .ok (i,rows)=>.ok (rows,nx++[(i:Int)],os++[o]):=ag.out
     have ch:=AB (fun(W:World) (e:Int) (hb:Below B0 w W) (ho:∀g,QZ b G MB g->W.heap[g]?=w.heap[g]?) (h:MH t.arcs most l k (rows,nx,os)=.error e)=>show S7 B0 b G MB (.slice (some ⟨LA,0,none⟩) ns ns) (.slice (some ⟨LE,0,none⟩) ns ns) most fr ns t S s w (FP e) W from
      ⟨hb,ho,by rw[bc.out,PT (k:=k+1) (by omega) (dj.out.trans h)]⟩)
     have ey:=AB (fun x K=>(di.out x K).2);have hd:=dh.out;have hf:=z.bel.size;clear ag di ar HM et dl dh;generalize b0::bf=bb at *;generalize ez:bb.length=bn at *;have f6:=AB ez;clear ez
     go_wp2_with fail
     refine cg.out.mono ?_;rintro e w5 ⟨bj,j⟩;have ah:=HW.out w5 bj;rcases ai:EU bb with ek|⟨f,r'⟩
     .rw [ai]at j d;have HP:=AB (ch.out w5 ek ah.bel ah.old d);unfold FP at j;subst j;clear ai d;go_wp2;exact⟨rfl,HP.out⟩
     .rw [ai]at j d
      obtain⟨rfl,e3⟩:=j;have aj:=QY ai ey.out;have df:=ZP ai f4;have e4:g2<w5.heap.size:=Aj cf (bj g2 (AD _)).size;have hh:=AB aj;have gu:=Ru ai;have ci:JU M' w5 2 (.slice (some ⟨g2,0,none⟩) r'.length c2) r'.length (B_ CL r'):=EV.slr e3 (by have:=f6.out;omega) bi e4 ex;have o0:w5.cell? ⟨D,k,none⟩=some (.string ByteArray.empty):=by rw[ah.hO.cell];exact Xg _ _ _ J.out af
      have o1:=ah.hO.frozen k;have A:=ah.setO k (.string f);have e5:=ci.far ah.mO (p:=⟨D,k,none⟩) (.string f);have e1:=VZ os 256 f (by rw[J.out];exact af);rw[J.out]at e1;rw[e1]at A;have R:=QX g2 c2 r' _ A.mv e5 (f5.below A.bel) (fun x K=>⟨(aj.all x K).1,by have:=(aj.all x K).2.1;omega,(aj.all x K).2.2⟩) (by have:=aj.len;omega) (fun q hq x K=>((A.good q hq).all x K).1) hm A.len;have f7:=AB R;have f8:=AB d;have f9:=AB A;have ga:=AB aj;have dm:=A.bel;have dn:=AB (fun(w7:World) (hk:∀g,g<(w5.setCell ⟨D,k,none⟩ (.string f)).heap.size->g≠G->g≠MB->a1.ownBlock≠some g->w7.heap[g]?=(w5.setCell ⟨D,k,none⟩ (.string f)).heap[g]?) (g:Nat) (c:QZ b G MB g)=>show w7.heap[g]?=w.heap[g]? from(hk g (Aj c.1 A.mv.sz) c.2.1 c.2.2 (fun e=>by have h1:=(own_lt A.mv.oR g e).1;have h2:=c.1;omega)).trans (A.old g c));clear R d ai e3 aj ci e5 ah HW cg bj e1;generalize hi:r'.length=rl at *
      go_wp2_with fail
      refine f7.out.mono ?_;rintro e w7 ⟨e6,dp,j⟩
      have j:(match FO most rows r' with
       | .error k=>e=FP k
       | .ok (i,ak)=>e=.returned (.int .i64 (i:Int))/\∃b6 e7,MkV w7 B0 b G MB (.slice (some ⟨LA,0,none⟩) ns ns) (.slice (some ⟨LE,0,none⟩) ns ns) (most:Int) fr b6 (.slice An S.next.length cn) (.slice Ao S.outs.length co) (.slice Ae S.ends.length ce) (.slice At S.tails.length ct) e7 nv ov { S with rows:=ak } (fun g=>M' g\/b6.ownBlock=some g) /\∀g,b6.ownBlock=some g->a1.ownBlock=some g\/(w5.setCell ⟨D,k,none⟩ (.string f)).heap.size<=g):=j
      have F:=f8.out;rcases R:FO most rows r' with ek|⟨i,ak⟩
      .rw [R]at j F;have HP:=AB (ch.out w7 ek (dm.trans e6) (dn.out w7 dp) F);unfold FP at j;subst j;clear R F;go_wp2;exact⟨rfl,HP.out⟩
      .rw [R]at j F
       obtain⟨rfl,b6,e7,e8,cj⟩:=j;have b7:=f9.out.stated ga.out R e8 cj dp e6;have n0:w7.cell? ⟨gN,k,none⟩=some (.int .i64 (-1)):=by rw[b7.hN.cell];exact Va _ _ _ _ m.out
       have n1:=b7.hN.frozen k;have e9:=b7.setN k (.int .i64 (i:Int));have e1:=UD nx 256 (-1) (i:Int) (by rw[m.out];exact af);rw[m.out]at e1;rw[e1]at e9;have bh:=AB (dj.out.trans F);clear R e8 cj dp b7 F e1;go_wp2;go_roundw
       case rel=>exact⟨k+1,ak,nx++[(i:Int)],os++[f],_,_,_,by omega,by go_num,bh.out,by rw[AJ,m.out];rfl,by rw[AJ,J.out];rfl,e9⟩
       case measure=>simp[intOf];omega
   .obtain rfl:k=256:=by omega
    have ck:JU (fun g=>Lj G MB a1 (.slice An S.next.length cn) (.slice Ao S.outs.length co) (.slice Ae S.ends.length ce) (.slice At S.tails.length ct) g\/g<b) wr 1 (.slice (some ⟨gN,0,none⟩) 256 256) nx.length (nx.map (Value.int .i64)):=by have h1:=E.hN;rw[Vd _ _ m.out]at h1;rw[m.out];exact JU.of_blk h1 (by rw[A6,m.out]) (by unfold maxLen;decide) (fun e=>e.elim (E.mv.notInt E.hN) (fun h=>by have:=E.pN;omega))
    have au:JU (fun g=>Lj G MB a1 (.slice An S.next.length cn) (.slice Ao S.outs.length co) (.slice Ae S.ends.length ce) (.slice At S.tails.length ct) g\/g<b) wr 1 (.slice (some ⟨D,0,none⟩) 256 256) os.length (os.map Value.string):=by have h1:=E.hO;rw[UE _ _ J.out]at h1;rw[J.out];exact JU.of_blk h1 (by rw[A6,J.out]) (by unfold maxLen;decide) (fun e=>e.elim (E.mv.notText E.hO E.tO) (fun h=>by have:=E.pO;omega))
    have T:=E.mv.less;have dq:=E.bel;have dr:=E.old;have ds:=AB E.good;have dt:=AB E.len;have gv:=E.ne;have du:=bc.out;rw[be.out]at du;have gb:=AB (show Tg t most S s=.ok ⟨rows,S.next++[nx],S.outs++[os],S.ends++[eb],S.tails++[eo]⟩from du);clear E bc du be;obtain⟨iN,a7,fa,fb,fc⟩:=BK MV;have U:=T.box;have qN:=U.cell 6;have fN:=U.frozen 6;have bk:wr.ownsRow b 55 1 (.slice An S.next.length cn) S.next.length nv:=T.oN;have cm:=fun g (e:(Value.slice An S.next.length cn).ownBlock=some g)=>(own_lt bk g e).1
    have a2:=(AH wr.heap.size wr).alloc (AD _) (.cells #[.slice (some ⟨gN,0,none⟩) 256 256] 55);have ad:=BQ bk a2;have av:=U.below a2 U.lt;have bl:=AV ad av (by decide);have cp:=Bg wr [.slice (some ⟨gN,0,none⟩) 256 256] 55 1 1 rfl;have cq:S.next.length+1<=maxLen:=by have:=L;unfold maxLen;omega
    have cs:(S.next.length+1)*24<=140737488355328:=by have:=L;omega
    have bm:∀u∈[Value.slice (some ⟨gN,0,none⟩) 256 256],u.oneCell'=true:=fun u hu=>by rw[AM]at hu;subst hu;rfl
    have cu:b<=(wr.alloc (.cells #[.slice (some ⟨gN,0,none⟩) 256 256] 55)).heap.size:=by have:=T.sz;simp;omega
    go_upto_region 13 with(at_builtin;refine Ba _ rfl _ _ 22 rfl b 55 iN _ 1 24 Tryz.underlying22 a7 fa fb fc rfl (by decide) _ _ _ rfl ad _ (some ⟨wr.heap.size,0,none⟩) 1 1 [.slice (some ⟨gN,0,none⟩) 256 256] rfl cp bm cq cs cu ?_;intro vN wN al H am;obtain⟨fd,fe,rfl,_,_,_⟩:=BH al;have gc:=(BM av H bl).cell 6;have gd:=(BM av H bl).frozen 6)
    have a3:=T.putN a2 ck H al am;obtain⟨dv,dw⟩:=T.step a2 (fun g e=>cm g e) H 6 (.slice fd (S.next.length+1) fe);have au:=T.carry a2 (fun g e=>T.mN g e) H am 6 au;clear qN fN gc gd a2 av bl cp bm cq cs cu U ad bk cm al H am T ck a7 fa fb fc;generalize wN.setCell ⟨G,6,none⟩ (.slice fd (S.next.length+1) fe)=W1 at *;obtain⟨iO,a8,ff,fg,fh⟩:=BK Kt;have V:=a3.box;have qO:=V.cell 7;have fO:=V.frozen 7;have bo:W1.ownsRow b 25 1 (.slice Ao S.outs.length co) S.outs.length ov:=a3.oO;have cv:=fun g (e:(Value.slice Ao S.outs.length co).ownBlock=some g)=>(own_lt bo g e).1
    have bp:=(AH W1.heap.size W1).alloc (AD _) (.cells #[.slice (some ⟨D,0,none⟩) 256 256] 25);have ae:=BQ bo bp;have aw:=V.below bp V.lt;have bq:=AV ae aw (by decide);have cw:=Bg W1 [.slice (some ⟨D,0,none⟩) 256 256] 25 1 1 rfl;have cx:S.outs.length+1<=maxLen:=by have:=L;unfold maxLen;omega
    have cy:(S.outs.length+1)*24<=140737488355328:=by have:=L;omega
    have br:∀u∈[Value.slice (some ⟨D,0,none⟩) 256 256],u.oneCell'=true:=fun u hu=>by rw[AM]at hu;subst hu;rfl
    have cz:b<=(W1.alloc (.cells #[.slice (some ⟨D,0,none⟩) 256 256] 25)).heap.size:=by have:=a3.sz;simp;omega
    go_upto_region 14 with(at_builtin;refine Ba _ rfl _ _ 23 rfl b 25 iO _ 1 24 Tryz.underlying23 a8 ff fg fh rfl (by decide) _ _ _ rfl ae _ (some ⟨W1.heap.size,0,none⟩) 1 1 [.slice (some ⟨D,0,none⟩) 256 256] rfl cw br cx cy cz ?_;intro vO wO an X bs;obtain⟨fi,fj,rfl,_,_,_⟩:=BH an;have ge:=(BM aw X bq).cell 7;have gf:=(BM aw X bq).frozen 7)
    have a4:=a3.putO bp au X an bs;obtain⟨dx,dy⟩:=a3.step bp (fun g e=>cv g e) X 7 (.slice fi (S.outs.length+1) fj);clear qO fO ge gf bp aw bq cw br cx cy cz V ae bo cv an X bs a3 au a8 ff fg fh;generalize wO.setCell ⟨G,7,none⟩ (.slice fi (S.outs.length+1) fj)=W2 at *;obtain⟨iE,fk,fl,fm,fn⟩:=BK IL;have Y:=a4.box;have qE:=Y.cell 8;have fE:=Y.frozen 8;have bt:W2.ownsRow b 4 1 (.slice Ae S.ends.length ce) S.ends.length (S.ends.map Value.bool):=a4.oE;have c0:=fun g (e:(Value.slice Ae S.ends.length ce).ownBlock=some g)=>(own_lt bt g e).1
    have bu:=(AH W2.heap.size W2).alloc (AD _) (.cells #[.bool eb] 4);have dz:=BQ bt bu;have ax:=Y.below bu Y.lt;have bv:=AV dz ax (by decide);have c1:=Bg W2 [.bool eb] 4 1 1 rfl;have c4:S.ends.length+1<=maxLen:=by have:=L;unfold maxLen;omega
    have c5:(S.ends.length+1)*1<=140737488355328:=by have:=L;omega
    have bw:∀u∈[Value.bool eb],u.oneCell'=true:=fun u hu=>by rw[AM]at hu;subst hu;rfl
    have c6:b<=(W2.alloc (.cells #[.bool eb] 4)).heap.size:=by have:=a4.sz;simp;omega
    go_upto_region 15 with(at_builtin;refine Ba _ rfl _ _ 24 rfl b 4 iE _ 1 1 Tryz.underlying24 fk fl fm fn rfl (by decide) _ _ _ rfl dz _ (some ⟨W2.heap.size,0,none⟩) 1 1 [.bool eb] rfl c1 bw c4 c5 c6 ?_;intro vE wE ao Z bx;obtain⟨fo,fp,rfl,_,_,_⟩:=BH ao;have gg:=(BM ax Z bv).cell 8;have gh:=(BM ax Z bv).frozen 8)
    have a5:=a4.putE bu Z ao bx;obtain⟨d2,d3⟩:=a4.step bu (fun g e=>c0 g e) Z 8 (.slice fo (S.ends.length+1) fp);clear qE fE gg gh bu ax bv c1 bw c4 c5 c6 Y dz bt c0 ao Z bx a4 fk fl fm fn;generalize wE.setCell ⟨G,8,none⟩ (.slice fo (S.ends.length+1) fp)=W3 at *;obtain⟨iT,fq,fs,ft,fu⟩:=BK GI;have aa:=a5.box;have qT:=aa.cell 9;have fT:=aa.frozen 9;have bz:W3.ownsRow b 9 1 (.slice At S.tails.length ct) S.tails.length (S.tails.map Value.string):=a5.oT;have c7:=fun g (e:(Value.slice At S.tails.length ct).ownBlock=some g)=>(own_lt bz g e).1
    have b1:=(AH W3.heap.size W3).alloc (AD _) (.cells #[.string eo] 9);have d4:=BQ bz b1;have ay:=aa.below b1 aa.lt;have b2:=AV d4 ay (by decide);have c8:=Bg W3 [.string eo] 9 1 1 rfl;have c9:S.tails.length+1<=maxLen:=by have:=L;unfold maxLen;omega
    have da:(S.tails.length+1)*16<=140737488355328:=by have:=L;omega
    have b3:∀u∈[Value.string eo],u.oneCell'=true:=fun u hu=>by rw[AM]at hu;subst hu;rfl
    have db:b<=(W3.alloc (.cells #[.string eo] 9)).heap.size:=by have:=a5.sz;simp;omega
    go_wp2_with (at_builtin;refine Ba _ rfl _ _ 25 rfl b 9 iT _ 1 16 Tryz.underlying25 fq fs ft fu rfl (by decide) _ _ _ rfl d4 _ (some ⟨W3.heap.size,0,none⟩) 1 1 [.string eo] rfl c8 b3 c9 da db ?_;intro vT wT ap ab b4;obtain⟨fv,fw,rfl,_,_,_⟩:=BH ap;have gi:=(BM ay ab b2).cell 9;have gj:=(BM ay ab b2).frozen 9)
    have fx:=a5.putT b1 ab ap b4;obtain⟨d5,d6⟩:=a5.step b1 (fun g e=>c7 g e) ab 9 (.slice fv (S.tails.length+1) fw);clear qT fT gi gj b1 ay b2 c8 b3 c9 da db aa d4 bz c7 ap ab b4 a5 fq fs ft fu;generalize wT.setCell ⟨G,9,none⟩ (.slice fv (S.tails.length+1) fw)=W4 at *;have Q:S7 B0 b G MB (.slice (some ⟨LA,0,none⟩) ns ns) (.slice (some ⟨LE,0,none⟩) ns ns) most fr ns t S s w (.returned (.tuple #[])) W4:=by refine⟨dq.trans (dv.trans (dx.trans (d2.trans d5))),fun g c=>(d6 g c).trans ((d3 g c).trans ((dy g c).trans ((dw g c).trans (dr g c)))),?_⟩;rw[gb.out];exact⟨rfl,⟨_,_,_,_,_,_,_,_,_,fx⟩,ds.out,dt.out⟩
    have HF:=AB Q;clear Q fx;go_end0;exact HF.out
end
section
open Go.RowKit Go.Sort
theorem ZR (W:World) (v:Value):(Instr.typeAssert (.iface 130 v) 20 130 true).run Tryz.prog W=.ok (.tuple #[v,.bool true]) W:=by kernel_rfl
theorem X1R (W:World):(Instr.typeAssert .nilIface 20 130 true).run Tryz.prog W=.ok (.tuple #[.agg #[.int .i64 0],.bool false]) W:=by kernel_rfl
def Wd (gq ge:Nat) (k:Int) (w w':World):Prop:=BL w' gq 27 #[.string ⟨#[]⟩,.slice none 0 0,.slice none 0 0,.slice none 0 0,.slice none 0 0]/\BL w' ge 33 #[.int .i64 k]/\∀B,B<=gq->B<=ge->B<=w.heap.size->Below B w w'
theorem X1S (a ge:Nat) (k:Int) (f:List PanicEntry) (w:World) (r s t u x v:Value) (m:BL w a 27 #[r,s,t,u,x]) (n:BL w ge 33 #[v]) :CallsD Tryz.prog 60 #[.pointer (some ⟨a,0,none⟩),.pointer (some ⟨ge,0,none⟩)] (.panicking ({ v:=.iface 130 (.agg #[.int .i64 k]),recovered:=false }::f)) w fun e C w'=>e=.returned (.tuple #[])/\C=.panicking ({ v:=.iface 130 (.agg #[.int .i64 k]),recovered:=true }::f)/\Wd a ge k w w':=by
 refine callsD_of_wpS Tryz.func60 rfl fun c₀ D E=>?_
 apply wpS_seq;apply wpS_region;simp[wpOpsS,go_sem,recoverD,E,ZR,Tryz.ntmps60,Exit.thenS];refine wpS_of_wp ?_;have y:=BL.new w 130 #[.int .i64 k];have j:=m.alloc (.cells #[.int .i64 k] 130);have l:=n.alloc (.cells #[.int .i64 k] 130);have o:a≠w.heap.size:=by have:=m.lt;omega
 have z:ge≠w.heap.size:=by have:=n.lt;omega
 have q:=AB y;have d:=AB j;have i:=AB l;have A:=AB (fun B (F:B<=w.heap.size)=>(AH B w).alloc F (.cells #[.int .i64 k] 130));clear y j l m n;simp[Array.replicate];go_wp2;generalize w.alloc (.cells #[.int .i64 k] 130)=W at *;have J:W.cell? ⟨w.heap.size,0,none⟩=some (.int .i64 k):=q.out.cell 0;have K:W.cell? ⟨a,0,none⟩=some r:=d.out.cell 0;have q1:W.cell? ⟨a,1,none⟩=some s:=d.out.cell 1;have L:W.cell? ⟨a,2,none⟩=some t:=d.out.cell 2;have M:W.cell? ⟨a,3,none⟩=some u:=d.out.cell 3;have N:W.cell? ⟨a,4,none⟩=some x:=d.out.cell 4;have g0:=d.out.frozen 0;have g1:=d.out.frozen 1;have g2:=d.out.frozen 2;have g3:=d.out.frozen 3;have g4:=d.out.frozen 4;have e0:W.cell? ⟨ge,0,none⟩=some v:=i.out.cell 0;have O:=i.out.frozen 0;have b:ge≠a:=fun e=>by subst e;have:=d.out.symm.trans i.out;simp at this
 have G:(W.setCell ⟨a,0,none⟩ (.string ⟨#[]⟩)).cell? ⟨w.heap.size,0,none⟩=some (.int .i64 k):=(q.out.far (p:=⟨a,0,none⟩) (fun e=>o e.symm) _).cell 0;have H:(W.setCell ⟨a,0,none⟩ (.string ⟨#[]⟩)).cell? ⟨ge,0,none⟩=some v:=(i.out.far (p:=⟨a,0,none⟩) b _).cell 0
 have g:Wd a ge k w ((((((W.setCell ⟨a,0,none⟩ (.string ⟨#[]⟩)).setCell ⟨a,1,none⟩ (.slice none 0 0)).setCell ⟨a,2,none⟩ (.slice none 0 0)).setCell ⟨a,3,none⟩ (.slice none 0 0)).setCell ⟨a,4,none⟩ (.slice none 0 0)).setCell ⟨ge,0,none⟩ (.int .i64 k)).drew:=by
  refine⟨BL.drew (BL.far (((((d.out.set_ 0 _).set_ 1 _).set_ 2 _).set_ 3 _).set_ 4 _) (p:=⟨ge,0,none⟩) (fun e=>b e.symm) _),?_,fun B h1 h2 h3=>?_⟩
  .have:=(((((i.out.far (p:=⟨a,0,none⟩) b (.string ⟨#[]⟩)).far (p:=⟨a,1,none⟩) b (.slice none 0 0)).far (p:=⟨a,2,none⟩) b (.slice none 0 0)).far (p:=⟨a,3,none⟩) b (.slice none 0 0)).far (p:=⟨a,4,none⟩) b (.slice none 0 0)).set_ 0 (.int .i64 k);exact this.drew
  .exact ((((((A.out B h3).setCell (p:=⟨a,0,none⟩) h1 _).setCell (p:=⟨a,1,none⟩) h1 _).setCell (p:=⟨a,2,none⟩) h1 _).setCell (p:=⟨a,3,none⟩) h1 _).setCell (p:=⟨a,4,none⟩) h1 _).setCell (p:=⟨ge,0,none⟩) h2 _ |>.drew
 have I:=AB g;clear g;clear d i q A;generalize w.heap.size=P at *
 go_region
 show bodyPostS Tryz.prog _ c₀ D _ _ _ _ _;simp[bodyPostS,results,Tryz.results60];exact I.out
theorem idle (b ge:Nat) (w:World) :CallsD Tryz.prog 60 #[.pointer (some ⟨b,0,none⟩),.pointer (some ⟨ge,0,none⟩)] .returning w fun e d w'=>e=.returned (.tuple #[])/\d=.returning/\Below w.heap.size w w':=by
 have a:=(AH w.heap.size w).alloc (AD _) (.cells #[.int .i64 0] 130);have f:=AB a;clear a;refine callsD_of_wpS Tryz.func60 rfl fun c₀ i g=>?_
 apply wpS_seq;apply wpS_region;simp[wpOpsS,go_sem,recoverD,g,X1R,Tryz.ntmps60,Exit.thenS];refine wpS_of_wp ?_;simp[Array.replicate];go_wp2;cases c₀;simp_all [bodyPostS,results,Tryz.results60];exact f.out
end
section
open Go.RowKit Go.Sort
def ZS:Value->Option Addr×Nat
 | .slice A _ c=>(A,c)
 | _=>(none,0)
theorem UF {M:Nat->Prop} {w:World} {base:Nat} {e:TypeId} {A:Option Addr} {n c:Nat} {b:List Value} {rows:List (List Value)} (j:w.ownsRow base e 1 (.slice A n c) n b) (p:rows.length=n) (h:∀i,i<rows.length->JU M w 1 (b.getD i Bf) (rows.getD i []).length (rows.getD i [])):JJ w w.heap.size A n rows:=by
 have k:=j.1;rw[CG]at k
 have l:(List.zip (b.map ZS) rows).map (fun x=>Value.slice x.1.1 x.2.length x.1.2)=b:=by
  apply List.ext_getElem
  .simp;omega
  intro i h1 h2;have hi:i<rows.length:=by omega
  obtain⟨g,m,a,_⟩:=h i hi;rw[AC,AG h2]at a;simp only[DV]at a;have d:rows.getD i []=rows[i]:=by rw[AC,AG hi];rfl
  rw[d]at a;rw[ER,List.getElem_zip];simp only[ER];rw[a];rfl
 refine⟨b.map ZS,by rw[A6];omega,by rw[l];exact Reads.of_own j,fun x o=>?_⟩;obtain⟨i,h1,rfl⟩:=Bp.1 o;have hi:i<rows.length:=by simp at h1;omega
 have f:i<b.length:=by omega
 obtain⟨g,m,a,h3,h4,h5,h6,h7⟩:=h i hi;have d:rows.getD i []=rows[i]:=by rw[AC,AG hi];rfl
 rw[AC,AG f]at a;simp only[DV]at a;rw[d]at a h3 h7;rw[List.getElem_zip];simp only[ER];rw[a];exact⟨h7,h3,h4⟩
theorem GC.below {w w':World} {B:Nat} {q:SeqM} {v:Value} (h:GC w B q v) (a:Below B w w'):GC w' B q v:=by obtain⟨b,c,d,e,f,g,i,j,rfl,k,l1,l2,l,m,n,o,p,r,s,t,u,x,y,z,A⟩:=h;exact⟨b,c,d,e,f,g,i,j,rfl,k,l1,l2,l,m,n,o,p,r,s.below a,t,u.below a,x,y.below a,z.below a,A⟩
theorem GC.more {w:World} {B B':Nat} {q:SeqM} {v:Value} (h:GC w B q v) (a:B<=B'):GC w B' q v:=by obtain⟨b,c,d,e,f,g,i,j,rfl,k,l1,l2,l,m,n,o,p,r,s,t,u,x,y,z,A⟩:=h;exact⟨b,c,d,e,f,g,i,j,rfl,k,l1,l2,l,m,n,o,p,r,s.more a,t,u.more a,x,y.more a,z.more a,A⟩
theorem Xi (w:World) (B:Nat):GC w B MI (.agg #[.string ⟨#[]⟩,.slice none 0 0,.slice none 0 0,.slice none 0 0,.slice none 0 0]):=by refine⟨none,0,none,0,none,0,none,0,rfl,AN _,AD _,AD _,AD _,AD _,AN _,AN _,AN _,AN _,⟨[],rfl,Reads.none_,fun x b=>(BP b).elim⟩,fun r a=>(BP a).elim,⟨[],rfl,Reads.none_,fun x b=>(BP b).elim⟩,fun r a=>(BP a).elim,Reads.none_,Reads.none_,fun r a=>(BP a).elim⟩
theorem UG {α β:Type} (f:α->β) (d:α) (a:β) (b:f d=a) (l:List α) (i:Nat):(l.map f).getD i a=f (l.getD i d):=by rw[AC,AC,Ag];cases l[i]?<;>simp[b]
def Eb (B:Nat) (w:World) (q:SeqM) (v:Value):Prop:=∀W:World,w.heap.size<=W.heap.size->(∀g,B<=g->g<w.heap.size->W.heap[g]?=w.heap[g]?)->GC W W.heap.size q v
section
variable {B B':Nat} {w w':World} {q:SeqM} {v:Value}
theorem Eb.at_ (h:Eb B w q v):GC w w.heap.size q v:=h w (AD _) fun _ _ _=>rfl
theorem Eb.mono (h:Eb B w q v) (a:B'<=B):Eb B' w q v:=fun W b c=>h W b fun g d e=>c g (AK a d) e
theorem Eb.stays (h:Eb B w q v) (c:w.heap.size<=w'.heap.size) (f:∀g,B<=g->g<w.heap.size->w'.heap[g]?=w.heap[g]?):Eb B w' q v:=fun W a b=>h W (AK c a) fun g d e=>(b g d (Aj e c)).trans (f g d e)
theorem Eb.below (h:Eb B w q v) (a:Below w.heap.size w w'):Eb B w' q v:=h.stays a.size fun g _ b=>a.block g b
theorem Eb.setCell (h:Eb B w q v) {p:Addr} (a:p.block<B) (u:Value):Eb B (w.setCell p u) q v:=h.stays (by simp) fun g b _=>Am _ _ _ _ (by omega)
theorem I5 (B:Nat) (w:World):Eb B w MI (.agg #[.string ⟨#[]⟩,.slice none 0 0,.slice none 0 0,.slice none 0 0,.slice none 0 0]):=fun W _ _=>Xi W _
end
theorem NB {w w':World} {base:Nat} {e:TypeId} {size n:Nat} {v:Value} {xs:List Value} (h:w.ownsRow base e size v n xs) (d:∀g,base<=g->g<w.heap.size->w'.heap[g]?=w.heap[g]?):w'.ownsRow base e size v n xs:=by
 refine⟨h.1,?_⟩;rcases h.2 with h0|⟨g,cap,b,f,a,c,rest⟩
 .exact .inl h0
 .refine .inr ⟨g,cap,b,f,a,?_,rest⟩
  rw[d g a ?_]
  .exact c
  .rcases BF g w.heap.size with h|h
   .exact h
   .rw [Cn h]at c;cases c
structure MkQ (w:World) (P0:Nat) (vN vO vEn vT:Value) (nv ov:List Value) (S:Mk) (M:Nat->Prop):Prop where
 oN:w.ownsRow P0 55 1 vN S.next.length nv
 oO:w.ownsRow P0 25 1 vO S.outs.length ov
 oE:w.ownsRow P0 4 1 vEn S.ends.length (S.ends.map Value.bool)
 oT:w.ownsRow P0 9 1 vT S.tails.length (S.tails.map Value.string)
 nexts:∀i,i<S.next.length->JU M w 1 (nv.getD i Bf) (S.next.getD i []).length ((S.next.getD i []).map (Value.int .i64))
 outss:∀i,i<S.outs.length->JU M w 1 (ov.getD i Bf) (S.outs.getD i []).length ((S.outs.getD i []).map Value.string)
theorem MkQ.stays {w w':World} {e:Nat} {f j a k:Value} {l m:List Value} {S:Mk} {M:Nat->Prop} (h:MkQ w e f j a k l m S M) (b:∀g,g<e->M g) (n:w.heap.size<=w'.heap.size) (c:∀g,e<=g->g<w.heap.size->w'.heap[g]?=w.heap[g]?):MkQ w' e f j a k l m S M:=
 have d:∀g,g<w.heap.size->¬M g->w'.heap[g]?=w.heap[g]?:=fun g o p=>c g (Nat.le_of_not_lt fun h=>p (b g h)) o
 ⟨NB h.oN c,NB h.oO c,NB h.oE c,NB h.oT c,fun i hi=>(h.nexts i hi).keep n d,fun i hi=>(h.outss i hi).keep n d⟩
theorem MkQ.seq {w:World} {x:Nat} {n:ByteArray} {t u d v:Value} {y A:List Value} {S:Mk} {M:Nat->Prop} (h:MkQ w x t u d v y A S M) {m:Nat} (U:m<=1024) (B:S.next.length<=m/\S.outs.length=S.next.length/\S.ends.length=S.next.length/\S.tails.length=S.next.length/\n.size<=100000000 /\∀s,s<S.next.length->(S.tails.getD s ByteArray.empty).size<=4096/\(S.next.getD s []).length=256/\(S.outs.getD s []).length=256 /\∀b,b<256->-1<=(S.next.getD s []).getD b 0/\(S.next.getD s []).getD b 0<S.next.length/\((S.outs.getD s []).getD b ByteArray.empty).size<=4096) :GC w w.heap.size ⟨n,S.next,S.outs,S.ends,S.tails⟩ (.agg #[.string n,t,u,d,v]):=by
 obtain⟨h1,h2,h3,h4,h5,h6⟩:=B;obtain⟨C,D,rfl,E,F,_⟩:=BH h.oN;obtain⟨G,H,rfl,I,J,_⟩:=BH h.oO;obtain⟨K,L,rfl,N,f,_⟩:=BH h.oE;obtain⟨O,P,rfl,t1,t2,_⟩:=BH h.oT;refine⟨C,D,G,H,K,L,O,P,rfl,by unfold maxLen;simp only;omega,E,I,N,t1,F,J,f,t2,?_,fun r o z Q=>?_,?_,fun r o s g=>?_,Reads.of_own h.oE,Reads.of_own h.oT,fun s g=>?_⟩
 .refine UF (M:=M) h.oN (by rw[A6]) fun i hi=>?_
  rw[A6]at hi;have:=h.nexts i hi;rw[UG (fun r:List Int=>r.map (Value.int .i64)) [] [] rfl,A6];exact this
 .obtain ⟨s,g,rfl⟩:=Bp.1 o
  obtain⟨b,j,rfl⟩:=Bp.1 Q;have k:s<S.next.length:=g;obtain⟨_,p,q,l⟩:=h6 s k;have e:S.next.getD s []=S.next[s]:=by rw[AC,AG k];rfl
  rw[e]at p l;have a:b<(S.next[s]).length:=j;rw[p]at a;obtain⟨R,z2,_⟩:=l b a;have f:(S.next[s]).getD b 0=S.next[s][b]:=by rw[AC,AG j];rfl
  rw[f]at R z2;show -9223372036854775808<=S.next[s][b]/\S.next[s][b]<=9223372036854775807;omega
 .refine UF (M:=M) h.oO (by rw[A6]) fun i hi=>?_
  rw[A6]at hi;have:=h.outss i hi;rw[UG (fun r:List ByteArray=>r.map Value.string) [] [] rfl,A6];exact this
 .obtain ⟨i,hi,rfl⟩:=Bp.1 o
  obtain⟨b,j,rfl⟩:=Bp.1 g;have c:i<S.outs.length:=hi;obtain⟨_,p,q,l⟩:=h6 i (by omega);have e:S.outs.getD i []=S.outs[i]:=by rw[AC,AG c];rfl
  rw[e]at q l;have a:b<(S.outs[i]).length:=j;rw[q]at a;obtain⟨_,_,z3⟩:=l b a;have f:(S.outs[i]).getD b ByteArray.empty=S.outs[i][b]:=by rw[AC,AG j];rfl
  rw[f]at z3;show(S.outs[i][b]).size<=maxLen;unfold maxLen;omega
 .obtain ⟨i,hi,rfl⟩:=Bp.1 g
  have c:i<S.tails.length:=hi;have T:=(h6 i (by omega)).1;have e:S.tails.getD i ByteArray.empty=S.tails[i]:=by rw[AC,AG c];rfl
  rw[e]at T;show(S.tails[i]).size<=maxLen;unfold maxLen;omega
theorem MkV.seqNew {w:World} {B0 e G MB:Nat} {l n:Value} {most:Int} {d:ByteArray} {vR f g a i:Value} {o j k:List Value} {S:Mk} {M:Nat->Prop} (h:MkV w B0 e G MB l n most d vR f g a i o j k S M) {m:Nat} (p:m<=1024) (c:S.next.length<=m/\S.outs.length=S.next.length/\S.ends.length=S.next.length/\S.tails.length=S.next.length/\d.size<=4096 /\∀s,s<S.next.length->(S.tails.getD s ByteArray.empty).size<=4096/\(S.next.getD s []).length=256/\(S.outs.getD s []).length=256 /\∀b,b<256->-1<=(S.next.getD s []).getD b 0/\(S.next.getD s []).getD b 0<S.next.length/\((S.outs.getD s []).getD b ByteArray.empty).size<=4096) :Eb e w ⟨d,S.next,S.outs,S.ends,S.tails⟩ (.agg #[.string d,f,g,a,i]):=fun W q r=>((⟨h.oN,h.oO,h.oE,h.oT,h.nexts,h.outss⟩:MkQ w e f g a i j k S M).stays h.low q r).seq p ⟨c.1,c.2.1,c.2.2.1,c.2.2.2.1,AK c.2.2.2.2.1 (by decide),c.2.2.2.2.2⟩
end
section
open Go.RowKit Go.Sort
def GY (f:Nat->Value) (n:Nat):List Value:=(List.range n).map f
theorem IH (f:Nat->Value) {n k:Nat} (h:k<n):(GY f n)[k]?=some (f k):=by unfold GY;rw[Ag,CP h];rfl
theorem Gh (f:Nat->Value) (n:Nat):(GY f n).length=n:=by unfold GY;simp
theorem MX (f:Nat->Value) (n k:Nat) (v:Value) (b:k<n):(GY f n).set k v=GY (fun j=>if j=k then v else f j) n:=by
 apply Ct;intro j;rw[List.getElem?_set];by_cases a:j<n
 .rw [IH _ a,IH _ a]
  by_cases e:k=j
  .subst e;rw[AU rfl,AU (by rw[Gh];exact a),AU rfl]
  .rw [AP e,AP (CF e)]
 .rw [AY (by rw[Gh];omega),AY (by rw[Gh];omega)];split<;>simp_all
theorem Ku {w:World} {B n:Nat} {A:Option Addr} {f:Nat->Value} (d:Reads w B 1 A n (GY f n)) (k:Nat) (i:k<n):∃g o,A=some ⟨g,o,none⟩/\g<B/\w.cell? ⟨g,o+k,none⟩=some (f k):=by
 obtain⟨a,e,j,b⟩:=d.2 (by omega);have h0:=b 0 _ (IH f (by omega));have h00:a.add 0=a:=by simp[Addr.add]
 rw[h00]at h0;have es:=OX h0;have c:=b k _ (IH f i);rw[es,Gq]at c;exact⟨a.block,a.off,by rw[e,<-es],j,c⟩
theorem FQ {q:SeqM} (h:Gp q=true) {s b:Nat} (d:s<q.next.length) (f:b<256):-1<=q.nx s b/\q.nx s b<(q.next.length:Int)/\(q.os s b).size<=4096/\(q.nx s b=-1->q.os s b=ByteArray.empty)/\(q.tl s).size<=4096/\(q.en s=false->q.tl s=ByteArray.empty):=by
 unfold Gp at h;simp only[AW,DJ,BB,CS]at h;obtain⟨_,h7⟩:=h;have:=h7 s (BE.2 d);unfold VT L9 Nd at this;simp only[AW,DJ,BB,CS]at this;obtain⟨⟨g,a2⟩,_,a3⟩:=this;obtain⟨⟨⟨i,j⟩,k⟩,l⟩:=a3 b (BE.2 f);have a:∀x:ByteArray,x.size=0->x=ByteArray.empty:=fun x m=>D_ (by rw[Yu];exact BD (by rw[CK];exact m))
 refine⟨i,j,k,fun e=>a _ (l.resolve_left (fun c=>c e)),g,fun e=>a _ (a2.resolve_left (fun c=>?_))⟩;have:q.en s=true:=c;rw[e]at this;cases this
end
end Go.Proofs.YtcondkihpmmnnaaGreatDoor
