/- Lemmas, part 14 of 50. No condition. -/
import Derived.Test.YtcondkihpmmnnaaGreatDoorTwin12
import Derived.Deep.Cut
import Derived.Deep.CutRange
set_option maxRecDepth 100000
set_option maxHeartbeats 16000000
namespace Go.Proofs.YtcondkihpmmnnaaGreatDoor
section
open Go.RowKit Go.Sort
structure LeavW (w wr:World) (cs:Array Value) (L n:Nat) (vs:List Value) (rows:Nat->List Ar):Prop where
 box:BL wr w.heap.size 32 cs
 gL:w.heap.size<L
 grp:Grp Cx 8 wr (w.heap.size+1) L n 30 61 vs rows
 bel:Below w.heap.size w wr
section
variable {w wr w':World} {cs:Array Value} {L n:Nat} {vs:List Value} {rows:Nat->List Ar}
theorem LeavW.size (h:LeavW w wr cs L n vs rows):w.heap.size<wr.heap.size:=h.box.lt
theorem LeavW.call (h:LeavW w wr cs L n vs rows) (a:Below wr.heap.size wr w'):LeavW w w' cs L n vs rows:=
 have b:=h.size
 ⟨h.box.below a b,h.gL,h.grp.call a,h.bel.trans (a.mono (by omega))⟩
theorem LeavW.put (h:LeavW w wr cs L n vs rows) (s:Nat) (b:s<n) {v':Value} (x:Ar) (a:wr.grownBy w' (vs.getD s Bf).ownBlock) (d:w'.ownsRow (w.heap.size+1) 61 8 v' ((rows s).length+1) (B_ Cx (rows s)++Cx x)) (e:v'.ownBlock=(vs.getD s Bf).ownBlock\/v'.ownBlock=some wr.heap.size) :LeavW w (w'.setCell ⟨L,s,none⟩ v') cs L n (vs.set s v') (fun t=>if t=s then rows s++[x]else rows t):=by have i:=h.size;have f:=h.gL;have c:=h.grp.row s b;refine⟨(BM h.box a (AV c h.box (by decide))).far (p:=⟨L,s,none⟩) (by simp;omega) _,f,h.grp.put (by decide) s b x a d e,?_⟩;exact((h.bel).grown a (by omega) (fun k g=>by have:=(own_lt c k g).1;omega)).setCell (p:=⟨L,s,none⟩) (by show w.heap.size<=L;omega) _
end
theorem Ni:(Tryz.prog.info? 30).map (fun i=>(i.zero,i.size,i.bytes))=some (some (.slice none 0 0),1,24):=by kernel_rfl
def Cr (S:World->Prop):Type:={w:World // S w}
def Cr.w {S:World->Prop} (p:Cr S):World:=p.1
abbrev EW (S:World->Prop) (w':World):Prop:=∃p:Cr S,w'=p.w
theorem EW.of {S:World->Prop} {w':World} (h:S w'):EW S w':=⟨⟨w',h⟩,rfl⟩
theorem Cs {P:Program} {Q:Exit->Act->World->Prop} {id:Nat} {a:Act} {w:World} {l:List Oper} (S:World->Prop) (n:Nat) (c d:List Nat) (f:P.follows .mixedOrders=true) (g:Rn .any l.toArray n c d=true) (e:c.length+d.length=n) (b:((c++d).all fun i=>decide (i<l.length))=true) (j:S w.drew) (h:wpQuiet P l.toArray (fun w'=>∃p:Cr S,w'=p.w) (fun k=>IG P l.toArray (fun w'=>∃p:Cr S,w'=p.w) (NoPanic Q) (l.drop n) (CV l d) k w.drew) (CV l c) a) :(Code.region id l.toArray true).wp P Q a w:=by rw[Gj,AW]at b;refine wp_region_noPanic ?_;exact MO (fun w'=>∃p:Cr S,w'=p.w) n c d _ _ f g e (FS l c b.1) (FS l d b.2) (fun _ _ _ _ _ h=>h) ⟨⟨_,j⟩,rfl⟩ h
end
section
open Go.RowKit Go.Sort
theorem VV {w:World} {base k n m b:Nat} {T K:TypeId} {v:Value} {xs:List Value} {D:DataW Unit} (h:w.ownsRow base T k v n xs) (d:w.ownsMap Tryz.prog K unitElem b m D):v.ownBlock≠some b:=by
 rcases h.2 with⟨rfl,_⟩|⟨g,cap,f,rfl,_,a,_⟩
 .intro e;cases e
 .obtain ⟨es,clock,c,_⟩:=d;intro e;have e:=AL e;rw[show g=b from e]at a;rw[a]at c;cases c
structure WaysW (w wr:World) (M:Nat) (v8 v11:Value) (now next:List Tp):Prop where
 now:wr.ownsRow w.heap.size 54 2 v8 now.length (B_ CL now)
 nxt:wr.ownsRow w.heap.size 54 2 v11 next.length (B_ CL next)
 ap:Ij v8 v11
 seen:Seen 54 CL MJ wr M next
 gM:w.heap.size<=M
 lt:M<wr.heap.size
 bel:Below w.heap.size w wr
section
variable {w wr w':World} {M:Nat} {v8 v11:Value} {now next:List Tp}
theorem WaysW.call (h:WaysW w wr M v8 v11 now next) (a:Below wr.heap.size wr w'):WaysW w w' M v8 v11 now next:=⟨BQ h.now a,BQ h.nxt a,h.ap,h.seen.below a (AD _),h.gM,by have:=h.lt;have:=a.size;omega,h.bel.trans (a.mono h.bel.size)⟩
end
theorem Seen.ne {α:Type} {T:TypeId} {enc:α->List Value} {ok:α->Prop} {w:World} {b:Nat} {l:List α} (h:Seen T enc ok w b l) {base:Nat} {e:TypeId} {size n:Nat} {v:Value} {xs:List Value} (a:w.ownsRow base e size v n xs):some b≠v.ownBlock:=by obtain⟨_,D,h1,_⟩:=h;exact fun e=>VV a h1 e.symm
theorem WaysW.put {w wr c d:World} {M:Nat} {v8 v11 v':Value} {now next:List Tp} (h:WaysW w wr M v8 v11 now next) (q:Tp) (a:wr.grownBy c (some M)) (l:Seen 54 CL MJ c M (next++[q])) {o:Obj} (b:(c.alloc o).grownBy d v11.ownBlock) (m:d.ownsRow w.heap.size 54 2 v' (next.length+1) (B_ CL next++CL q)) (n:v'.ownBlock=v11.ownBlock\/v'.ownBlock=some (c.alloc o).heap.size) :WaysW w d M v8 v' now (next++[q]):=by
 have i:=(h.now.kept a (.inr fun e=>h.seen.ne h.now e.symm)).alloc o;have j:=(h.nxt.kept a (.inr fun e=>h.seen.ne h.nxt e.symm)).alloc o;have s1:=l.below ((AH c.heap.size c).alloc (AD _) o) (AD _);have t:=a.size;have z2:=b.size;have u:=h.bel.size;have p:=h.gM;have r:=h.lt;rw[Ad]at z2;refine⟨i.kept b h.ap.or_none,by rw[AJ,Ej];exact m,?_,s1.kept b (s1.ne j),p,by omega,?_⟩
 .intro g h1 h2
  rcases n with e|e
  .exact h.ap g h1 (by rw[<-e];exact h2)
  .rw [e]at h2;have:=(own_lt i g h1).2;have:=AL h2;omega
 .have s:=h.bel.grown a (by omega) (fun k f=>by have:=AL f;omega);exact(s.alloc (by omega) o).grown b (by rw[Ad];omega) (fun k f=>(own_lt j k f).1)
theorem MR {w w':World} (a:Below w.heap.size w w'):w.grownBy w' none:=⟨a.os,a.tape,a.output,a.size,fun k b _=>a.block k b⟩
theorem I2 {H:Type} {w:World} {g n b:Nat} {T K:TypeId} {a:Array Value} {R:Value->Option (DataW H×List MemPlace)} {D:DataW H} (h:BL w g T a) (c:w.ownsMap Tryz.prog K R b n D):some g≠some b:=by obtain⟨es,clock,d,_⟩:=c;intro e;have e:=AL e;unfold BL at h;rw[e,d]at h;cases h
theorem WaysW.own1 {w wr b:World} {M:Nat} {v8 v11:Value} {now next:List Tp} (h:WaysW w wr M v8 v11 now next) (a:wr.grownBy b (some M)) (o:Obj) :(b.alloc o).ownsRow w.heap.size 54 2 v11 next.length (B_ CL next)/\w.heap.size<=(b.alloc o).heap.size:=by refine⟨(h.nxt.kept a (.inr fun e=>h.seen.ne h.nxt e.symm)).alloc o,?_⟩;have:=a.size;have:=h.bel.size;rw[Ad];omega
end
section
open Go.RowKit Go.Sort
structure Ch where
 w:World
 G:Nat
 M0:Nat
 M1:Nat
 M2:Nat
 L:Nat
 E:Nat
 n:Nat
 an:Int
 bn:Int
 aS:Value
 aE:Value
 aA:Value
 bS:Value
 bE:Value
 bA:Value
def Ch.P (c:Ch) (k:Nat):Prop:=k<c.w.heap.size/\k≠c.G/\k≠c.M0/\k≠c.M1/\k≠c.M2
def Ch.cs (c:Ch) (vS vE vA:Value) (ov:Bool):Array Value:=#[.int .i64 c.an,c.aS,c.aE,c.aA,.int .i64 c.bn,c.bS,c.bE,c.bA,.slice (some ⟨c.L,0,none⟩) c.n c.n,.slice (some ⟨c.E,0,none⟩) c.n c.n,.map (some c.M2),.map (some c.M0),.map (some c.M1),.int .i64 (c.an*c.bn),vS,vE,vA,.bool ov]
structure ChW (c:Ch) (wr:World) (vS vE vA:Value) (S E:List Tp) (A:List Ar) (ov:Bool):Prop where
 box:BL wr c.G 73 (c.cs vS vE vA ov)
 oS:wr.ownsRow c.w.heap.size 54 2 vS S.length (B_ CL S)
 oE:wr.ownsRow c.w.heap.size 54 2 vE E.length (B_ CL E)
 oA:wr.ownsRow c.w.heap.size 61 8 vA A.length (B_ Cx A)
 ap:Ij vS vE
 sS:Seen 54 CL MJ wr c.M0 S
 sE:Seen 54 CL MJ wr c.M1 E
 sA:Seen 61 Cx Th wr c.M2 A
 gG:c.G<c.w.heap.size
 g0:c.M0<c.w.heap.size
 g1:c.M1<c.w.heap.size
 g2:c.M2<c.w.heap.size
 n01:c.M0≠c.M1
 n02:c.M0≠c.M2
 n12:c.M1≠c.M2
 size:c.w.heap.size<=wr.heap.size
 os:wr.os=c.w.os
 tape:wr.tape=c.w.tape
 output:wr.output=c.w.output
 keep:∀k,c.P k->wr.heap[k]?=c.w.heap[k]?
theorem Seen.blk_ne {α:Type} {T:TypeId} {enc:α->List Value} {ok:α->Prop} {w:World} {b:Nat} {l:List α} (h:Seen T enc ok w b l) {g:Nat} {a:TypeId} {c:Array Value} (d:BL w g a c):g≠b:=by obtain⟨n,D,h1,_⟩:=h;exact fun e=>I2 d h1 (by rw[e])
theorem Seen.setCell {α:Type} {T:TypeId} {enc:α->List Value} {ok:α->Prop} {w:World} {b:Nat} {l:List α} (h:Seen T enc ok w b l) {a:Addr} (c:b≠a.block) (u:Value):Seen T enc ok (w.setCell a u) b l:=by obtain⟨n,D,h1,h2⟩:=h;exact⟨n,D,h1.setCell c u,h2⟩
section
variable {c:Ch} {wr w' w1 w2:World} {vS vE vA:Value} {S E:List Tp} {A:List Ar} {ov:Bool}
theorem ChW.neG (h:ChW c wr vS vE vA S E A ov):c.G≠c.M0/\c.G≠c.M1/\c.G≠c.M2:=⟨h.sS.blk_ne h.box,h.sE.blk_ne h.box,h.sA.blk_ne h.box⟩
theorem ChW.call (h:ChW c wr vS vE vA S E A ov) (a:Below wr.heap.size wr w'):ChW c w' vS vE vA S E A ov:=by have b:=h.size;have e:=h.box.lt;refine⟨h.box.below a e,BQ h.oS a,BQ h.oE a,BQ h.oA a,h.ap,h.sS.below a (AD _),h.sE.below a (AD _),h.sA.below a (AD _),h.gG,h.g0,h.g1,h.g2,h.n01,h.n02,h.n12,AK b a.size,a.os.trans h.os,a.tape.trans h.tape,a.output.trans h.output,fun k d=>(a.block k (Aj d.1 b)).trans (h.keep k d)⟩
def Fr (c:Ch) (wr:World) (v:Value) (k:Nat):Prop:=c.w.heap.size<=k/\k<wr.heap.size/\v.ownBlock≠some k
def Cp (c:Ch) (wr:World) (v:Value) (w':World) (v':Value):Prop:=∀k,Fr c wr v k->Fr c w' v' k/\w'.heap[k]?=wr.heap[k]?
theorem Cp.refl {v:Value}:Cp c wr v wr v:=fun _ h=>⟨h,rfl⟩
theorem Cp.trans {v a v2:Value} (h:Cp c wr v w1 a) (b:Cp c w1 a w2 v2):Cp c wr v w2 v2:=fun k d=>
 have h1:=h k d;have h2:=b k h1.1
 ⟨h2.1,h2.2.trans h1.2⟩
theorem Cp.call {v:Value} (b:Below wr.heap.size wr w'):Cp c wr v w' v:=fun k a=>⟨⟨a.1,Aj a.2.1 b.size,a.2.2⟩,b.block k a.2.1⟩
theorem Cp.map {v:Value} {M:Nat} (b:wr.grownBy w' (some M)) (d:M<c.w.heap.size):Cp c wr v w' v:=fun k a=>⟨⟨a.1,Aj a.2.1 b.size,a.2.2⟩,b.block k a.2.1 (fun e=>by have:=AL e;have:=a.1;omega)⟩
theorem Cp.app {v v':Value} (b:wr.grownBy w' v.ownBlock) (d:v'.ownBlock=v.ownBlock\/v'.ownBlock=some wr.heap.size):Cp c wr v w' v':=fun k a=>by
 refine⟨⟨a.1,Aj a.2.1 b.size,fun e=>?_⟩,b.block k a.2.1 (fun e=>a.2.2 e.symm)⟩;rcases d with h|h
 .exact a.2.2 (h.symm.trans e)
 .rw [h]at e;have:=AL e;have:=a.2.1;omega
theorem Cp.set {v:Value} (b:c.G<c.w.heap.size) (i:Nat) (u:Value):Cp c wr v (wr.setCell ⟨c.G,i,none⟩ u) v:=fun k a=>⟨⟨a.1,by rw[Fg];exact a.2.1,a.2.2⟩,Am wr _ _ k (by have:=a.1;show k≠c.G;omega)⟩
theorem Cp.blk {v v':Value} (h:Cp c wr v w' v') {g:Nat} {T:TypeId} {a:Array Value} (b:BL wr g T a) (d:Fr c wr v g):BL w' g T a:=(h g d).2.trans b
theorem Cp.reads {v v':Value} (h:Cp c wr v w' v') {size n:Nat} {b:Option Addr} {xs:List Value} (d:DP (Fr c wr v) wr size b n xs):DP (Fr c w' v') w' size b n xs:=(d.kept fun k a=>(h k a).2).mono fun k a=>(h k a).1
theorem ChW.over (h:ChW c wr vS vE vA S E A ov):ChW c (wr.setCell ⟨c.G,17,none⟩ (.bool true)) vS vE vA S E A true:=by obtain⟨b,d,f⟩:=h.neG;have g:=AV h.oS h.box (by decide);have i:=AV h.oE h.box (by decide);have j:=AV h.oA h.box (by decide);exact⟨h.box.set_ 17 _,AO h.oS g _,AO h.oE i _,AO h.oA j _,h.ap,h.sS.setCell (fun e=>b e.symm) _,h.sE.setCell (fun e=>d e.symm) _,h.sA.setCell (fun e=>f e.symm) _,h.gG,h.g0,h.g1,h.g2,h.n01,h.n02,h.n12,by simpa using h.size,h.os,h.tape,h.output,fun k a=>(Am wr _ _ k a.2.1).trans (h.keep k a)⟩
theorem ChW.own1 {o:Obj} {base M:Nat} {T:TypeId} {size n:Nat} {v:Value} {xs:List Value} (c:wr.ownsRow base T size v n xs) (b:some M≠v.ownBlock) (a:wr.grownBy w1 (some M)) (d:base<=wr.heap.size) :(w1.alloc o).ownsRow base T size v n xs/\base<=(w1.alloc o).heap.size:=by refine⟨(c.kept a (.inr fun e=>b e.symm)).alloc o,?_⟩;have:=a.size;rw[Ad];omega
theorem ChW.putS (h:ChW c wr vS vE vA S E A ov) (x:Tp) (a:wr.grownBy w1 (some c.M0)) (z:Seen 54 CL MJ w1 c.M0 (S++[x])) {o:Obj} {v':Value} (b:(w1.alloc o).grownBy w2 vS.ownBlock) (j:w2.ownsRow c.w.heap.size 54 2 v' (S.length+1) (B_ CL S++CL x)) (B:v'.ownBlock=vS.ownBlock\/v'.ownBlock=some (w1.alloc o).heap.size) :ChW c (w2.setCell ⟨c.G,14,none⟩ v') v' vE vA (S++[x]) E A ov:=by
 obtain⟨l,C,D⟩:=h.neG;have z0:=h.size;have P:=a.size;have z2:=b.size;rw[Ad]at z2;have d:=(AH w1.heap.size w1).alloc (AD _) o;have i:=((h.oS.kept a (.inr fun e=>h.sS.ne h.oS e.symm)).alloc o);have m:=((h.oE.kept a (.inr fun e=>h.sS.ne h.oE e.symm)).alloc o);have n:=((h.oA.kept a (.inr fun e=>h.sS.ne h.oA e.symm)).alloc o);have p:=(h.box.grown a (fun e=>l (AL e))).alloc o;have f:=p.grown b (fun e=>AV i p (by decide) e.symm);have q:=m.kept b (Ij.or_none (v:=vE) (v':=vS) h.ap.symm);have r:=n.kept b (BG n i (by decide)).or_none;have s:=z.below d (AD _);have F:=s.kept b (s.ne i);have t:=(h.sE.kept a (fun e=>h.n01 (AL e).symm)).below d (AD _);have H:=t.kept b (t.ne i);have u:=(h.sA.kept a (fun e=>h.n02 (AL e).symm)).below d (AD _);have I:=u.kept b (u.ne i);refine⟨f.set_ 14 v',AO (by rw[AJ,Ej];exact j) (AV j f (by decide)) _,AO q (AV q f (by decide)) _,AO r (AV r f (by decide)) _,?_,F.setCell (fun e=>l e.symm) _,H.setCell (fun e=>C e.symm) _,I.setCell (fun e=>D e.symm) _,h.gG,h.g0,h.g1,h.g2,h.n01,h.n02,h.n12,by rw[Fg];omega,?_,?_,?_,fun k y=>?_⟩
 .intro g g1 g2
  rcases B with e|e
  .exact h.ap g (by rw[<-e];exact g1) g2
  .rw [e]at g1;have:=(own_lt m g g2).2;have:=AL g1;omega
 .exact (b.os.trans a.os).trans h.os
 .exact (b.tape.trans a.tape).trans h.tape
 .exact (b.output.trans a.output).trans h.output
 .obtain ⟨Q,J,K,R,T⟩:=id y;have L:=Am w2 ⟨c.G,14,none⟩ v' k J;have M:=b.block k (by rw[Ad];omega) (fun e=>by have:=(own_lt i k e.symm).1;omega);have N:=d.block k (by omega);have O:=a.block k (by omega) (fun e=>K (AL e));exact L.trans (M.trans (N.trans (O.trans (h.keep k y))))
theorem ChW.putE (h:ChW c wr vS vE vA S E A ov) (x:Tp) (a:wr.grownBy w1 (some c.M1)) (z:Seen 54 CL MJ w1 c.M1 (E++[x])) {o:Obj} {v':Value} (b:(w1.alloc o).grownBy w2 vE.ownBlock) (j:w2.ownsRow c.w.heap.size 54 2 v' (E.length+1) (B_ CL E++CL x)) (B:v'.ownBlock=vE.ownBlock\/v'.ownBlock=some (w1.alloc o).heap.size) :ChW c (w2.setCell ⟨c.G,15,none⟩ v') vS v' vA S (E++[x]) A ov:=by
 obtain⟨C,l,D⟩:=h.neG;have z0:=h.size;have P:=a.size;have z2:=b.size;rw[Ad]at z2;have d:=(AH w1.heap.size w1).alloc (AD _) o;have m:=((h.oS.kept a (.inr fun e=>h.sE.ne h.oS e.symm)).alloc o);have i:=((h.oE.kept a (.inr fun e=>h.sE.ne h.oE e.symm)).alloc o);have n:=((h.oA.kept a (.inr fun e=>h.sE.ne h.oA e.symm)).alloc o);have p:=(h.box.grown a (fun e=>l (AL e))).alloc o;have f:=p.grown b (fun e=>AV i p (by decide) e.symm);have q:=m.kept b (Ij.or_none (v:=vS) (v':=vE) h.ap);have r:=n.kept b (BG n i (by decide)).or_none;have s:=(h.sS.kept a (fun e=>h.n01 (AL e))).below d (AD _);have F:=s.kept b (s.ne i);have t:=z.below d (AD _);have H:=t.kept b (t.ne i);have u:=(h.sA.kept a (fun e=>h.n12 (AL e).symm)).below d (AD _);have I:=u.kept b (u.ne i);refine⟨f.set_ 15 v',AO q (AV q f (by decide)) _,AO (by rw[AJ,Ej];exact j) (AV j f (by decide)) _,AO r (AV r f (by decide)) _,?_,F.setCell (fun e=>C e.symm) _,H.setCell (fun e=>l e.symm) _,I.setCell (fun e=>D e.symm) _,h.gG,h.g0,h.g1,h.g2,h.n01,h.n02,h.n12,by rw[Fg];omega,?_,?_,?_,fun k y=>?_⟩
 .intro g g1 g2
  rcases B with e|e
  .exact h.ap g g1 (by rw[<-e];exact g2)
  .rw [e]at g2;have:=(own_lt m g g1).2;have:=AL g2;omega
 .exact (b.os.trans a.os).trans h.os
 .exact (b.tape.trans a.tape).trans h.tape
 .exact (b.output.trans a.output).trans h.output
 .obtain ⟨Q,J,R,K,T⟩:=id y;have L:=Am w2 ⟨c.G,15,none⟩ v' k J;have M:=b.block k (by rw[Ad];omega) (fun e=>by have:=(own_lt i k e.symm).1;omega);have N:=d.block k (by omega);have O:=a.block k (by omega) (fun e=>K (AL e));exact L.trans (M.trans (N.trans (O.trans (h.keep k y))))
theorem ChW.putA (h:ChW c wr vS vE vA S E A ov) (x:Ar) (a:wr.grownBy w1 (some c.M2)) (v:Seen 61 Cx Th w1 c.M2 (A++[x])) {o:Obj} {v':Value} (b:(w1.alloc o).grownBy w2 vA.ownBlock) (i:w2.ownsRow c.w.heap.size 61 8 v' (A.length+1) (B_ Cx A++Cx x)) (_hl:v'.ownBlock=vA.ownBlock\/v'.ownBlock=some (w1.alloc o).heap.size) :ChW c (w2.setCell ⟨c.G,16,none⟩ v') vS vE v' S E (A++[x]) ov:=by
 obtain⟨y,z,j⟩:=h.neG;have z0:=h.size;have M:=a.size;have z2:=b.size;rw[Ad]at z2;have d:=(AH w1.heap.size w1).alloc (AD _) o;have l:=((h.oS.kept a (.inr fun e=>h.sA.ne h.oS e.symm)).alloc o);have m:=((h.oE.kept a (.inr fun e=>h.sA.ne h.oE e.symm)).alloc o);have g:=((h.oA.kept a (.inr fun e=>h.sA.ne h.oA e.symm)).alloc o);have n:=(h.box.grown a (fun e=>j (AL e))).alloc o;have f:=n.grown b (fun e=>AV g n (by decide) e.symm);have p:=l.kept b (BG l g (by decide)).or_none;have q:=m.kept b (BG m g (by decide)).or_none;have r:=(h.sS.kept a (fun e=>h.n02 (AL e))).below d (AD _);have B:=r.kept b (r.ne g);have s:=(h.sE.kept a (fun e=>h.n12 (AL e))).below d (AD _);have C:=s.kept b (s.ne g);have t:=v.below d (AD _);have D:=t.kept b (t.ne g);refine⟨f.set_ 16 v',AO p (AV p f (by decide)) _,AO q (AV q f (by decide)) _,AO (by rw[AJ,Ej];exact i) (AV i f (by decide)) _,h.ap,B.setCell (fun e=>y e.symm) _,C.setCell (fun e=>z e.symm) _,D.setCell (fun e=>j e.symm) _,h.gG,h.g0,h.g1,h.g2,h.n01,h.n02,h.n12,by rw[Fg];omega,?_,?_,?_,fun k u=>?_⟩
 .exact (b.os.trans a.os).trans h.os
 .exact (b.tape.trans a.tape).trans h.tape
 .exact (b.output.trans a.output).trans h.output
 .obtain ⟨N,F,O,P,H⟩:=id u;have I:=Am w2 ⟨c.G,16,none⟩ v' k F;have J:=b.block k (by rw[Ad];omega) (fun e=>by have:=(own_lt g k e.symm).1;omega);have K:=d.block k (by omega);have L:=a.block k (by omega) (fun e=>H (AL e));exact I.trans (J.trans (K.trans (L.trans (h.keep k u))))
end
end
end Go.Proofs.YtcondkihpmmnnaaGreatDoor
