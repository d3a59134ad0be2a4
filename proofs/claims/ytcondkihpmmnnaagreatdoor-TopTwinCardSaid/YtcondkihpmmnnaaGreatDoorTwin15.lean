/- Lemmas, part 15 of 50. No condition. -/
import Derived.Test.YtcondkihpmmnnaaGreatDoorTwin13
import Derived.Test.YtcondkihpmmnnaaGreatDoorTwin14
set_option maxRecDepth 100000
set_option maxHeartbeats 16000000
namespace Go.Proofs.YtcondkihpmmnnaaGreatDoor
section
open Go.RowKit Go.Sort
structure PutW (B:Nat) (W0 wr:World) (G:Nat) (n:Int) (vS vE vA:Value) (S E:List Tp) (A:List Ar):Prop where
 keep:∀i,i<W0.heap.size->i≠G->wr.heap[i]?=W0.heap[i]?
 gB:B<=G
 gG:G<W0.heap.size
 t:BL wr G 32 #[.int .i64 n,vS,vE,vA]
 oS:wr.ownsRow W0.heap.size 54 2 vS S.length (B_ CL S)
 oE:wr.ownsRow W0.heap.size 54 2 vE E.length (B_ CL E)
 oA:wr.ownsRow W0.heap.size 61 8 vA A.length (B_ Cx A)
 ap:Ij vS vE
 bel:Below B W0 wr
section
variable {B:Nat} {W0 wr w':World} {G:Nat} {n:Int} {vS vE vA:Value} {S E:List Tp} {A:List Ar}
theorem PutW.new (h:BL W0 G 32 #[.int .i64 n,.slice none 0 0,.slice none 0 0,.slice none 0 0]) (a:B<=G):PutW B W0 W0 G n (.slice none 0 0) (.slice none 0 0) (.slice none 0 0) [] [] []:=⟨fun _ _ _=>rfl,a,h.lt,h,Bc _ _ _ _,Bc _ _ _ _,Bc _ _ _ _,fun g b=>(by cases b),AH _ _⟩
theorem PutW.size (h:PutW B W0 wr G n vS vE vA S E A):W0.heap.size<=wr.heap.size:=h.bel.size
theorem PutW.blk (h:PutW B W0 wr G n vS vE vA S E A) {g:Nat} {T:TypeId} {a:Array Value} (b:BL W0 g T a) (c:g≠G):BL wr g T a:=(h.keep g b.lt c).trans b
theorem PutW.call (h:PutW B W0 wr G n vS vE vA S E A) (a:Below wr.heap.size wr w'):PutW B W0 w' G n vS vE vA S E A:=
 have c:=h.size;have d:=h.gG;have e:=h.gB
 ⟨fun i hi b=>(a.block i (by omega)).trans (h.keep i hi b),h.gB,h.gG,h.t.below a (by omega),BQ h.oS a,BQ h.oE a,BQ h.oA a,h.ap,h.bel.trans (a.mono (by omega))⟩
theorem PutW.kept (h:PutW B W0 wr G n vS vE vA S E A) {v:Value} (b:∀g,v.ownBlock=some g->W0.heap.size<=g) (c:wr.grownBy w' v.ownBlock) (i:Nat) (u:Value) :(∀j,j<W0.heap.size->j≠G->(w'.setCell ⟨G,i,none⟩ u).heap[j]?=W0.heap[j]?)/\Below B W0 (w'.setCell ⟨G,i,none⟩ u):=by have m:=h.size;have d:=h.gG;have o:=h.gB;refine⟨fun j f a=>?_,(h.bel.grown c (by omega) (fun k l=>by have:=b k l;omega)).setCell (p:=⟨G,i,none⟩) (by show B<=G;omega) _⟩;rw[Am _ _ _ _ (show j≠G from a),c.block j (by omega) (fun e=>by have:=b j e.symm;omega)];exact h.keep j f a
theorem PutW.putA (h:PutW B W0 wr G n vS vE vA S E A) {v':Value} {c:List Ar} (a:wr.grownBy w' vA.ownBlock) (d:w'.ownsRow W0.heap.size 61 8 v' c.length (B_ Cx c)) :PutW B W0 (w'.setCell ⟨G,3,none⟩ v') G n vS vE v' S E c:=by have b:=BM h.t a (AV h.oA h.t (by decide));have kS:=h.oS.kept a (BG h.oS h.oA (by decide)).or_none;have f:=h.oE.kept a (BG h.oE h.oA (by decide)).or_none;obtain⟨i,j⟩:=h.kept (fun g e=>(own_lt h.oA g e).1) a 3 v';exact⟨i,h.gB,h.gG,b.set_ 3 v',AO kS (AV kS b (by decide)) _,AO f (AV f b (by decide)) _,AO d (AV d b (by decide)) _,h.ap,j⟩
theorem PutW.putE (h:PutW B W0 wr G n vS vE vA S E A) {v':Value} {f:List Tp} (c:wr.grownBy w' vE.ownBlock) (i:w'.ownsRow W0.heap.size 54 2 v' f.length (B_ CL f)) (k:v'.ownBlock=vE.ownBlock\/v'.ownBlock=some wr.heap.size) :PutW B W0 (w'.setCell ⟨G,2,none⟩ v') G n vS v' vA S f A:=by
 have d:=BM h.t c (AV h.oE h.t (by decide));have kS:=h.oS.kept c h.ap.or_none;have j:=h.oA.kept c (BG h.oA h.oE (by decide)).or_none;obtain⟨l,m⟩:=h.kept (fun g e=>(own_lt h.oE g e).1) c 2 v';refine⟨l,h.gB,h.gG,d.set_ 2 v',AO kS (AV kS d (by decide)) _,AO i (AV i d (by decide)) _,AO j (AV j d (by decide)) _,fun g b a=>?_,m⟩;rcases k with e|e
 .exact h.ap g b (by rw[<-e];exact a)
 .rw [e]at a;have:=(own_lt h.oS g b).2;have:=AL a;omega
theorem PutW.putS (h:PutW B W0 wr G n vS vE vA S E A) {v':Value} {f:List Tp} (c:wr.grownBy w' vS.ownBlock) (i:w'.ownsRow W0.heap.size 54 2 v' f.length (B_ CL f)) (l:v'.ownBlock=vS.ownBlock\/v'.ownBlock=some wr.heap.size) :PutW B W0 (w'.setCell ⟨G,1,none⟩ v') G n v' vE vA f E A:=by
 have d:=BM h.t c (AV h.oS h.t (by decide));have j:=h.oE.kept c h.ap.symm.or_none;have k:=h.oA.kept c (BG h.oA h.oS (by decide)).or_none;obtain⟨m,o⟩:=h.kept (fun g e=>(own_lt h.oS g e).1) c 1 v';refine⟨m,h.gB,h.gG,d.set_ 1 v',AO i (AV i d (by decide)) _,AO j (AV j d (by decide)) _,AO k (AV k d (by decide)) _,fun g a b=>?_,o⟩;rcases l with e|e
 .exact h.ap g (by rw[<-e];exact a) b
 .rw [e]at a;have:=(own_lt h.oE g b).2;have:=AL a;omega
theorem PutW.fst {a b c:Option Addr} {k l m d e f:Nat} (h:PutW B W0 wr G n (.slice a k d) (.slice b l e) (.slice c m f) S E A) (o:-9223372036854775808<=n/\n<=9223372036854775807) (p:∀x∈S,MJ x) (q:∀x∈E,MJ x) (r:∀x∈A,Th x):EK wr wr.heap.size ⟨n,S,E,A⟩ (.agg #[.int .i64 n,.slice a k d,.slice b l e,.slice c m f]):=by
 obtain⟨v,d1,g,u1,s,_⟩:=BH h.oS;obtain⟨w,d2,i,u2,t,_⟩:=BH h.oE;obtain⟨y,d3,j,u3,u,_⟩:=BH h.oA;injection g with g f1 g1
 injection i with i f2 g2
 injection j with j f3 g3
 subst g f1 g1 i f2 g2 j f3 g3;exact⟨a,d,b,e,c,f,rfl,u1,u2,u3,s,t,u,o.1,o.2,Reads.of_own h.oS,p,Reads.of_own h.oE,q,Reads.of_own h.oA,r⟩
end
end
end Go.Proofs.YtcondkihpmmnnaaGreatDoor
