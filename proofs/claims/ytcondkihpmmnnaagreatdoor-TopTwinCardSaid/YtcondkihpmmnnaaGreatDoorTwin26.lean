/- Lemmas, part 26 of 50. No condition. -/
import Derived.ArgAppend
import Derived.Test.YtcondkihpmmnnaaGreatDoorTwin25
set_option maxRecDepth 100000
set_option maxHeartbeats 16000000
namespace Go.Proofs.YtcondkihpmmnnaaGreatDoor
section
open Go.RowKit Go.Sort
def Gv (w:World) (base:Nat) (e:TypeId) (v:Value) (xs:List Value):Prop:=∃g off cap cur,v=.slice (some ⟨g,off,none⟩) xs.length cap/\base<=g/\w.heap[g]?=some (.cells cur e (0,0))/\xs.length<=cap/\off+cap<=cur.size/\off+cap<=maxLen/\(cur.toList.drop off).take xs.length=xs
section
variable {w w':World} {base:Nat} {e:TypeId} {v:Value} {xs:List Value}
def F8:Value->Option Nat
 | .slice (some a) _ _=>some a.block
 | _=>none
theorem Gv.lt (h:Gv w base e v xs):∀g,F8 v=some g->base<=g/\g<w.heap.size:=by obtain⟨g,off,cap,a,rfl,b,c,_⟩:=h;intro d e;have e:g=d:=AL e;subst e;exact⟨b,(BS.1 c).1⟩
theorem Gv.form (h:Gv w base e v xs):∃g off cap,v=.slice (some ⟨g,off,none⟩) xs.length cap/\xs.length<=cap/\off+cap<=maxLen:=by obtain⟨g,off,cap,a,rfl,b,c,h1,h2,h3,h4⟩:=h;exact⟨g,off,cap,rfl,h1,h3⟩
theorem Gv.kept {row:Option Nat} (h:Gv w base e v xs) (c:w.grownBy w' row) (d:F8 v=none\/F8 v≠row):Gv w' base e v xs:=by
 obtain⟨g,off,cap,a,rfl,f,b,rest⟩:=h;refine⟨g,off,cap,a,rfl,f,?_,rest⟩
 rw[c.block g (BS.1 b).1 (fun e=>by
  rcases d with h|h
  .cases h
  .exact h e)]
 exact b
theorem Gv.below (h:Gv w base e v xs) (d:Below w.heap.size w w'):Gv w' base e v xs:=by obtain⟨g,off,cap,a,rfl,b,c,rest⟩:=h;exact⟨g,off,cap,a,rfl,b,(d.block g (BS.1 c).1).trans c,rest⟩
theorem Gv.setCell (h:Gv w base e v xs) {p:Addr} (b:F8 v≠some p.block) (u:Value):Gv (w.setCell p u) base e v xs:=h.kept (row:=some p.block) ⟨rfl,rfl,rfl,by simp,fun k _ a=>Am w p u k (fun e=>a (by rw[e]))⟩ (.inr b)
theorem Gv.cell (h:Gv w base e v xs):∃g off cap,v=.slice (some ⟨g,off,none⟩) xs.length cap/\∀j u,xs[j]?=some u->w.cell? ⟨g,off+j,none⟩=some u:=by obtain⟨g,off,cap,a,rfl,f,d,h1,h2,h3,h4⟩:=h;refine⟨g,off,cap,rfl,fun j u b=>?_⟩;have c:j<xs.length:=(DD.1 b).1;rw[cell_of_row w g (off+j) a e (0,0) d,<-Array.getElem?_toList];rw[<-h4,Dv,AU c,Dt]at b;exact b
theorem Gv.tail {x:Value} (h:Gv w base e v (x::xs)):∃g off cap,v=.slice (some ⟨g,off,none⟩) (xs.length+1) cap/\xs.length+1<=cap/\Gv w base e (.slice (some ⟨g,off+1,none⟩) xs.length (cap-1)) xs/\(cap=1->Gv w base e (.slice (some ⟨g,off,none⟩) xs.length 0) xs):=by
 obtain⟨g,off,cap,a,rfl,b,c,h1,h2,h3,h4⟩:=h;rw[Bn]at h1;refine⟨g,off,cap,rfl,h1,⟨g,off+1,cap-1,a,rfl,b,c,by omega,by omega,by omega,?_⟩,fun e=>?_⟩
 .have h5:=BY (List.drop 1) h4;rw[Bn,List.drop_take,List.drop_drop]at h5;simpa using h5
 .obtain rfl:xs=[]:=BD (by omega);exact⟨g,off,0,a,rfl,b,c,AD _,by omega,by omega,rfl⟩
theorem Gv.of_blk {g:Nat} (a:base<=g) (h:BL w g e xs.toArray) (b:xs.length<=maxLen):Gv w base e (.slice (some ⟨g,0,none⟩) xs.length xs.length) xs:=⟨g,0,xs.length,xs.toArray,rfl,a,h,AD _,by simp,by omega,by simp⟩
end
theorem S9 {l xs:List Value} {off:Nat} {x:Value} (c:off+xs.length<l.length) (h:(l.drop off).take xs.length=xs):((l.set (off+xs.length) x).drop off).take (xs.length+1)=xs++[x]:=by
 have a:(l.set (off+xs.length) x).drop off=(l.drop off).set xs.length x:=by rw[List.drop_set,AP (by omega),Nat.add_sub_cancel_left]
 have b:xs.length<(l.drop off).length:=by rw[List.length_drop];omega
 rw[a];generalize l.drop off=m at *;rw[Bq (by rw[DU];exact b),List.getElem_set_self,List.take_set_of_le (AD _),h]
section
variable {P:Program} (w:World)
theorem S_ (base:Nat) (t C e:TypeId) (i:TypeInfo) (z:Value) (bytes:Nat) (N:P.underlying t=some (.slice e)) (hi:P.info? e=some i) (S:i.zero=some z) (b:i.size=1) (D:i.bytes=bytes) (E:z.cells.size=1) (v:Value) (xs:List Value) (q:Gv w base e v xs) (a:Nat) (x:Value) (T:w.cell? ⟨a,0,none⟩=some x) (h1:x.oneCell'=true) (h63:xs.length+1<=maxLen) (m:(xs.length+1)*bytes<=140737488355328) (F:base<=w.heap.size) :∃v' w',(Builtin.append_ #[t,t] C #[v,.slice (some ⟨a,0,none⟩) 1 1]).run P w=.ok v' w'/\Gv w' base e v' (xs++[x])/\w.grownBy w' (F8 v)/\(F8 v'=F8 v\/∀g,F8 v'=some g->w.heap.size<=g):=by
 have d:∀j u,[x][j]?=some u->w.cell? ((⟨a,0,none⟩:Addr).add j)=some u:=fun j u l=>by
  match j,l with
  | 0,l=>simp at l;subst l;rw[Gq];exact T
 obtain⟨g,off,cap,n,rfl,U,B,hl,O,V,r⟩:=q;by_cases c:xs.length+1<=cap
 .have G:∀j,j<[x].length->(w.cell? ⟨g,off+xs.length*i.size+j,none⟩).isSome=true:=fun j l=>by
    have:j=0:=by simpa using l
    subst this;rw[b,CG,D0,cell_of_row w g (off+xs.length) n e (0,0) B,Array.getElem?_eq_getElem (by omega)];rfl
  have W:∀j,j<[x].length->w.frozen? ⟨g,off+xs.length*i.size+j,none⟩=false:=fun j _=>by simp[World.frozen?,B]
  have s:=run_append_room_cells (P:=P) w t C e i N hi g off xs.length cap ⟨a,0,none⟩ 1 1 [x] (by rw[b];rfl) d (fun u Q=>by rw[AM]at Q;subst Q;exact h1) c G W;rw[b,CG]at s;have y:w.setCells g (off+xs.length) [x]=w.setCell ⟨g,off+xs.length,none⟩ x:=rfl;rw[y]at s;refine⟨_,_,s,⟨g,off,cap,n.setIfInBounds (off+xs.length) x,by rw[AJ];rfl,U,?_,by rw[AJ];exact c,by simpa using O,V,?_⟩,⟨rfl,rfl,rfl,by simp,fun k _ H=>Am w _ x k (fun e=>H (by rw[e];rfl))⟩,.inl rfl⟩
  .have:=BL.set_ (show BL w g e n from B) (off+xs.length) x;exact this
  .rw [Array.toList_setIfInBounds,AJ,BJ];exact S9 (by rw[FL];exact Aj (Nat.add_lt_add_left c off) O) r
 .have holds:∀j u,xs[j]?=some u->w.cell? ((⟨g,off,none⟩:Addr).add j)=some u:=fun j u l=>by
    have I:j<xs.length:=(DD.1 l).1;rw[Gq,cell_of_row w g (off+j) n e (0,0) B,<-Array.getElem?_toList];rw[<-r,Dv,AU I,Dt]at l;exact l
  obtain⟨v',w',s,R,f⟩:=run_append_arg_grows (P:=P) w t C e i z 1 bytes N hi S b D E (by decide) ⟨g,off,none⟩ xs.length cap xs (by omega) holds ⟨a,0,none⟩ 1 1 [x] rfl d (by omega) h63 m;refine⟨v',w',s,?_,⟨f.os,f.tape,f.output,f.size,fun k X _=>f.block k X (fun e=>by cases e)⟩,?_⟩
  .rcases R.2 with⟨_,h0⟩|⟨J,o,p,rfl,K,A,L,Y,Z,M⟩
   .exact absurd h0 (Nat.succ_ne_zero _)
   .refine ⟨J,0,o,p,by rw[AJ];rfl,by omega,A,by rw[AJ];exact L,by omega,by omega,?_⟩;rw[BI,AJ,BJ];rwa [CG]at M
  .right
   rcases R.2 with⟨_,h0⟩|⟨J,o,p,rfl,K,A,_⟩
   .exact absurd h0 (Nat.succ_ne_zero _)
   .intro g2 e;have e:J=g2:=AL e;omega
theorem II {ops:Array Oper} {rest:List Oper} {o:Oper} {a:Act} {Q:Exit->Act->World->Prop} (k:o.guard=none) (s y:Operand) (t:TypeId) (n:o.op=.call { callee:=.builtin .append,args:=#[s,y],argTypes:=#[t,t] }) (base:Nat) (e:TypeId) (i:TypeInfo) (z:Value) (bytes:Nat) (p:P.underlying t=some (.slice e)) (hi:P.info? e=some i) (q:i.zero=some z) (d:i.size=1) (l:i.bytes=bytes) (m:z.cells.size=1) (v:Value) (xs:List Value) (r:a.eval s=v) (j:Gv w base e v xs) (b:Nat) (x:Value) (u:a.eval y=.slice (some ⟨b,0,none⟩) 1 1) (A:w.cell? ⟨b,0,none⟩=some x) (h1:x.oneCell'=true) (h63:xs.length+1<=maxLen) (c:(xs.length+1)*bytes<=140737488355328) (f:base<=w.heap.size) (h:∀v' w',Gv w' base e v' (xs++[x])->w.grownBy w' (F8 v)->(F8 v'=F8 v\/∀g,F8 v'=some g->w.heap.size<=g)->wpList P ops Q rest (a.put o.dst v') w'):wpList P ops Q (o::rest) a w:=by
 refine wpList_plain k fun K B=>?_
 obtain⟨v',w',C,h2,h3,h4⟩:=S_ (P:=P) w base t o.type e i z bytes p hi q d l m v xs j b x A h1 h63 c f;unfold Oper.wp execOp;simp only[n,resolve,invoke,builtin,Fw,Sem.run_pure,Ee,FX,DO,EG,r,u,C];exact B _ _ (h v' w' h2 h3 h4)
end
end
section
open Go.RowKit Go.Sort
def MA (h:Hop):List Value:=[.bool h.live,.bool h.last,.int .i64 h.x,.int .i64 h.y,.int .u8 (h.c:Int)]
def RR (x:Bx):List Value:=[.int .i64 x.p,.int .i64 x.q,.string x.a,.string x.b,.int .i64 x.fr,.int .u8 (x.c:Int)]
def RS (b:Bk):List Value:=[.int .i64 b.fr,.int .i64 b.x,.int .i64 b.y]
theorem Hd (x:Hop):(MA x).length=5:=rfl
theorem X0d (x:Bx):(RR x).length=6:=rfl
theorem X0e (x:Bk):(RS x).length=3:=rfl
theorem Uo (x:Bx):∀v∈RR x,v.oneCell'=true:=by intro v a;simp[RR]at a;rcases a with rfl|rfl|rfl|rfl|rfl|rfl<;>rfl
theorem X0f (x:Bk):∀v∈RS x,v.oneCell'=true:=by intro v a;simp[RS]at a;rcases a with rfl|rfl|rfl<;>rfl
def IA (l:List Ar) (k s:Nat):List Int:=((List.range k).filter fun i=>decide ((l.getD i Cq).fr=(s:Int))).map fun i:Nat=>(i:Int)
theorem YO (l:List Ar) (k s:Nat):IA l (k+1) s=if(s:Int)=(l.getD k Cq).fr then IA l k s++[(k:Int)]else IA l k s:=by
 unfold IA;rw[Dj,Ck,CH];by_cases h:(l.getD k Cq).fr=(s:Int)
 .rw [AU h.symm,CD (by simpa using h)];rfl
 .rw [AP (fun x=>h x.symm),CE (by simpa using h)];simp
theorem Mp (l:List Ar) (k s:Nat):(IA l k s).length<=k:=by unfold IA;rw[A6];exact AK (CA _ _) (by simp)
theorem JT {u:Fs} {s:Nat} {z:Int}:z∈IA u.arcs u.arcs.length s↔J_ u z/\(Ex u z).fr=(s:Int):=by
 unfold IA J_ Ex;rw[Bd];constructor
 .rintro ⟨i,hi,rfl⟩;rw[BV,BE,Ca]at hi;exact⟨⟨by omega,by omega⟩,by rw[BO];exact hi.2⟩
 .rintro ⟨⟨h1,h2⟩,h3⟩;refine⟨z.toNat,?_,by omega⟩;rw[BV,BE,Ca];exact⟨by omega,h3⟩
def Fx (K G H PL g:Nat):Prop:=g<K/\g≠G/\g≠H/\g≠PL
structure SrL where
 B:Nat
 K:Nat
 G:Nat
 H:Nat
 PL:Nat
 LA:Nat
 LE:Nat
 n:Nat
 A1:Option Addr
 n1:Nat
 c1:Nat
 A2:Option Addr
 n2:Nat
 c2:Nat
 A3:Option Addr
 n3:Nat
 c3:Nat
abbrev Jg (n:Nat) (v1 v2 v3:Value) (LA LE:Nat) (vH vR vP:Value) (tx:ByteArray) (fd:Bool):Array Value:=#[.int .i64 (n:Int),v1,v2,v3,.slice (some ⟨LA,0,none⟩) n n,.slice (some ⟨LE,0,none⟩) n n,vH,vR,vP,.string tx,.bool fd]
abbrev SrL.cells (L:SrL) (vR:Value) (tx:ByteArray) (fd:Bool):Array Value:=Jg L.n (.slice L.A1 L.n1 L.c1) (.slice L.A2 L.n2 L.c2) (.slice L.A3 L.n3 L.c3) L.LA L.LE (.slice (some ⟨L.H,0,none⟩) (L.n*L.n) (L.n*L.n)) vR (.slice (some ⟨L.PL,0,none⟩) (L.n*L.n) (L.n*L.n)) tx fd
structure SrV (L:SrL) (u:Fs) (w:World) (hops:List Hop) (vR:Value) (row:List Bx) (place:List Int) (tx:ByteArray) (fd:Bool):Prop where
 box:BL w L.G 155 (L.cells vR tx fd)
 hb:BL w L.H 208 (B_ MA hops).toArray
 pb:BL w L.PL 3 (place.map (Value.int .i64)).toArray
 oR:w.ownsRow L.K 197 6 vR row.length (B_ RR row)
 rdS:DP (Fx L.K L.G L.H L.PL) w 2 L.A1 L.n1 (B_ CL u.starts)
 rdA:DP (Fx L.K L.G L.H L.PL) w 8 L.A3 L.n3 (B_ Cx u.arcs)
 gA:GE (Fx L.K L.G L.H L.PL) Ib 1 w L.LA L.n (IA u.arcs u.arcs.length)
 gE:GE (Fx L.K L.G L.H L.PL) Kr 1 w L.LE L.n (EX u.ends)
 sz:L.K<=w.heap.size
 gG:L.B<=L.G/\L.G<L.K
 gH:L.B<=L.H/\L.H<L.K
 gP:L.B<=L.PL/\L.PL<L.K
section
variable {L:SrL} {u:Fs} {w w':World} {hops hops':List Hop} {vR vR':Value} {row row':List Bx} {place place':List Int} {tx tx':ByteArray} {fd fd':Bool}
theorem SrV.hl (h:SrV L u w hops vR row place tx fd):L.B<=w.heap.size:=by have:=h.sz;have:=h.gG;omega
theorem SrV.call (h:SrV L u w hops vR row place tx fd) (hb:Below w.heap.size w w'):SrV L u w' hops vR row place tx fd:=by
 have a:∀k,Fx L.K L.G L.H L.PL k->w'.heap[k]?=w.heap[k]?:=fun k a=>hb.block k (Aj a.1 h.sz)
 exact { h with
  box:=h.box.below hb h.box.lt
  hb:=h.hb.below hb h.hb.lt
  pb:=h.pb.below hb h.pb.lt
  oR:=BQ h.oR hb
  rdS:=h.rdS.kept a
  rdA:=h.rdA.kept a
  gA:=h.gA.kept a
  gE:=h.gE.kept a
  sz:=AK h.sz hb.size }
theorem SrV.far (h:SrV L u w hops vR row place tx fd) {p:Addr} (c:L.K<=p.block) (b:vR.ownBlock≠some p.block) (v:Value):SrV L u (w.setCell p v) hops vR row place tx fd:=by
 have g1:=h.gG;have g2:=h.gH;have g3:=h.gP;have a:∀k,Fx L.K L.G L.H L.PL k->(w.setCell p v).heap[k]?=w.heap[k]?:=fun k a=>Am _ _ _ _ (fun e=>by have:=a.1;omega)
 exact { h with
  box:=h.box.far (by omega) v
  hb:=h.hb.far (by omega) v
  pb:=h.pb.far (by omega) v
  oR:=AO h.oR b v
  rdS:=h.rdS.kept a
  rdA:=h.rdA.kept a
  gA:=h.gA.kept a
  gE:=h.gE.kept a
  sz:=by simpa using h.sz }
structure SrStay (L:SrL) (vR vR':Value) (w w':World):Prop where
 bel:Below L.B w w'
 keep:∀g,g<w.heap.size->g≠L.G->g≠L.PL->vR.ownBlock≠some g->w'.heap[g]?=w.heap[g]?
 own:∀g,vR'.ownBlock=some g->vR.ownBlock=some g\/w.heap.size<=g
theorem SrStay.refl (L:SrL) (vR:Value) (w:World):SrStay L vR vR w w:=⟨AH _ _,fun _ _ _ _ _=>rfl,fun _ h=>.inl h⟩
theorem SrStay.of_below (a:L.B<=w.heap.size) (h:Below w.heap.size w w'):SrStay L vR vR w w':=⟨h.mono a,fun g b _ _ _=>h.block g b,fun _ h=>.inl h⟩
theorem SrStay.trans {b:World} {a:Value} (h:SrStay L vR vR' w w') (k:SrStay L vR' a w' b):SrStay L vR a w b:=by
 have d:=h.bel.size;refine⟨h.bel.trans k.bel,fun g c h1 h2 h3=>?_,fun g c=>?_⟩
 .rw [k.keep g (by omega) h1 h2 (fun e=>by
    rcases h.own g e with h4|h4
    .exact h3 h4
    .omega),h.keep g c h1 h2 h3]
 .rcases k.own g c with h4|h4
  .exact h.own g h4
  .exact .inr (by omega)
theorem SrStay.blk {g:Nat} {T:TypeId} {a:Array Value} (h:SrStay L vR vR' w w') (b:SrV L u w hops vR row place tx fd) (c:BL w g T a) (e:L.K<=g) (d:vR.ownBlock≠some g):BL w' g T a:=by have g1:=b.gG;have g3:=b.gP;exact(h.keep g c.lt (by omega) (by omega) d).trans c
theorem SrV.own_ne (h:SrV L u w hops vR row place tx fd) {g:Nat} {T:TypeId} {b:Array Value} (c:BL w g T b) (a:197≠T):vR.ownBlock≠some g:=FI h.oR c a
theorem SrV.own_lt (h:SrV L u w hops vR row place tx fd):∀g,vR.ownBlock=some g->L.K<=g/\g<w.heap.size:=Go.Proofs.YtcondkihpmmnnaaGreatDoor.own_lt h.oR
end
theorem OI {α:Type} {enc:α->List Value} {k:Nat} {w:World} {g:Nat} {T:TypeId} {l:List α} (b:∀x,(enc x).length=k) (h:BL w g T (B_ enc l).toArray) (d:α) (j:Nat) (c:j<l.length) (i:Nat) (u:Value) (a:(enc (l.getD j d))[i]?=some u):w.cell? ⟨g,j*k+i,none⟩=some u:=by
 have hi:i<k:=by
  rcases BF i (enc (l.getD j d)).length with h|h
  .rw [b]at h;exact h
  .rw [AY h]at a;cases a
 rw[h.cell,CQ,If b l d j i c hi];exact a
theorem IZ {w:World} {g:Nat} {l:List Hop} (h:BL w g 208 (B_ MA l).toArray) (j:Nat) (a:j<l.length) :w.cell? ⟨g,j*5,none⟩=some (.bool (l.getD j ED).live)/\w.cell? ⟨g,j*5+1,none⟩=some (.bool (l.getD j ED).last)/\w.cell? ⟨g,j*5+2,none⟩=some (.int .i64 (l.getD j ED).x)/\w.cell? ⟨g,j*5+3,none⟩=some (.int .i64 (l.getD j ED).y) /\w.cell? ⟨g,j*5+4,none⟩=some (.int .u8 ((l.getD j ED).c:Int)):=⟨OI Hd h ED j a 0 _ rfl,OI Hd h ED j a 1 _ rfl,OI Hd h ED j a 2 _ rfl,OI Hd h ED j a 3 _ rfl,OI Hd h ED j a 4 _ rfl⟩
theorem NJ {w:World} {B n:Nat} {A:Option Addr} {l:List Bx} (f:Reads w B 6 A n (B_ RR l)) (j:Nat) (i:j<n) :∃g o,A=some ⟨g,o,none⟩/\g<B/\w.cell? ⟨g,o+j*6,none⟩=some (.int .i64 (l.getD j JZ).p)/\w.cell? ⟨g,o+j*6+1,none⟩=some (.int .i64 (l.getD j JZ).q)/\w.cell? ⟨g,o+j*6+2,none⟩=some (.string (l.getD j JZ).a) /\w.cell? ⟨g,o+j*6+3,none⟩=some (.string (l.getD j JZ).b)/\w.cell? ⟨g,o+j*6+4,none⟩=some (.int .i64 (l.getD j JZ).fr)/\w.cell? ⟨g,o+j*6+5,none⟩=some (.int .u8 ((l.getD j JZ).c:Int)):=by obtain⟨g,o,e,k,d⟩:=E9 X0d (by decide) f JZ j i;exact⟨g,o,e,k,d 0 _ rfl,d 1 _ rfl,d 2 _ rfl,d 3 _ rfl,d 4 _ rfl,d 5 _ rfl⟩
theorem Nr {w:World} {g:Nat} {l:List Int} (h:BL w g 3 (l.map (Value.int .i64)).toArray) (j:Nat) (a:j<l.length):w.cell? ⟨g,j,none⟩=some (.int .i64 (l.getD j 0)):=by rw[h.cell,CQ,Ag,AC,AG a];rfl
end
end Go.Proofs.YtcondkihpmmnnaaGreatDoor
