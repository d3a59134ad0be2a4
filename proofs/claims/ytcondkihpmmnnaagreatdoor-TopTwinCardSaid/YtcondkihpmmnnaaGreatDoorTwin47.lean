/- Lemmas, part 47 of 50. No condition. -/
import Derived.Test.YtcondkihpmmnnaaGreatDoorTwin46
import Derived.Sort.MapsRangeIn
import Derived.Maps.OwnIn
set_option maxRecDepth 100000
set_option maxHeartbeats 16000000
namespace Go.Proofs.YtcondkihpmmnnaaGreatDoor
section
open Go.RowKit Go.Sort
open Go.Maps (Keyed)
theorem WO (w:World):(zeroValue 158).run Tryz.prog w=.ok (.agg #[]) w:=by rw[Tryz.zeroValue158]
def Ed (w:World) (b:Nat) (l:List Lg):Prop:=∃n,∃D:DataW Unit,w.ownsMap Tryz.prog 157 unitElem b n D/\n<=l.length/\Maps.IsMap D/\Maps.size D=l.length/\∀q,LgW q->∀kl,keyOf Tryz.prog 157 (.agg (Fm q).toArray)=some kl->(Maps.has D kl=true↔q∈l)
section
variable {w w':World} {b:Nat} {l:List Lg}
theorem Ed.made (w:World):Ed (w.alloc (.map #[] 0)) w.heap.size []:=⟨0,_,World.ownsMap_made w Tryz.prog 157 unitElem,AD _,Maps.isMap_empty,rfl,fun q _ a _=>by simp[Maps.has]⟩
theorem Ed.kept {row:Option Nat} (h:Ed w b l) (c:w.grownBy w' row) (a:some b≠row):Ed w' b l:=by obtain⟨n,D,h1,h2⟩:=h;exact⟨n,D,h1.kept c a,h2⟩
theorem Ed.same (h:Ed w b l) (a:w.grownBy w' none):Ed w' b l:=h.kept a (by simp)
theorem Ed.setCell (h:Ed w b l) {a:Addr} (c:b≠a.block) (u:Value):Ed (w.setCell a u) b l:=by obtain⟨n,D,h1,h2⟩:=h;exact⟨n,D,h1.setCell c u,h2⟩
theorem Ed.lt (h:Ed w b l):b<w.heap.size:=by obtain⟨n,D,h1,_⟩:=h;exact h1.lt
theorem Ed.len (h:Ed w b l) (a:TypeId):(Builtin.len_ #[103] a #[.map (some b)]).run Tryz.prog w=.ok (.int .i64 (l.length:Int)) w:=by obtain⟨n,D,h1,_,_,c,_⟩:=h;rw[<-c];exact h1.len Tryz.underlying103 a
theorem Ed.len_eq {l':List Lg} (h:Ed w b l) (a:Ed w b l'):l.length=l'.length:=by
 have e:=(h.len 3).symm.trans (a.len 3);injection e with e1 e2
 injection e1 with e3 e4
 omega
theorem Ed.look (h:Ed w b l) (x:Lg) (a:LgW x):(Instr.lookup 103 (.map (some b)) (.agg (Fm x).toArray) true).run Tryz.prog w=.ok (.tuple #[.agg #[],.bool (decide (x∈l))]) w:=by obtain⟨n,D,h1,h2,h3,h4,h5⟩:=h;obtain⟨d,c⟩:=Sb x a;exact M7 ON Tryz.underlying103 WO (l:=l) (ok:=LgW) ⟨n,D,h1,h2,h3,h5⟩ x a c
theorem Ed.store (h:Ed w b l) (x:Lg) (f:LgW x) (j:x∉l) (t:l.length<=100000) :∃w',(Instr.mapUpdate 103 (.map (some b)) (.agg (Fm x).toArray) (.agg #[])).run Tryz.prog w=.ok () w'/\Ed w' b (l++[x])/\w.grownBy w' (some b):=by
 obtain⟨n,D,h1,h2,h3,h4,h5⟩:=h;obtain⟨d,c⟩:=Sb x f;obtain⟨w',k,g,m⟩:=h1.update ON Tryz.underlying103 (by unfold maxLen;omega) c (unitElem_mk (H:=Unit));refine⟨w',k,⟨n+1,_,g,by rw[AJ,BJ];omega,g.isMap,?_,fun q o i a=>?_⟩,m⟩
 .have p:Maps.has D d=false:=by
    rcases r:Maps.has D d with _|_
    .rfl
    .exact absurd ((h5 x f d c).1 r) j
  rw[Maps.size_put (h1.tidy ON),p,h4,AJ];rfl
 .rw [Bj,AM]
  by_cases e:i=d
  .subst e
   rw[Maps.has_put_same h3 (ON.key c)];have:=ON.inj a c;injection this with h
   have:=X0A _ _ h;exact⟨fun _=>.inr this,fun _=>rfl⟩
  .rw [Maps.has_put_other e,h5 q o i a];refine⟨.inl,fun h=>h.resolve_right fun s=>?_⟩;subst s;exact e (AL (a.symm.trans c))
end
open Classical in
noncomputable def seenLen (w:World) (b:Nat):Nat:=if h:∃l,Ed w b l then(Classical.choose h).length else 0
theorem RC {w:World} {b:Nat} {l:List Lg} (h:Ed w b l):seenLen w b=l.length:=by
 have hex:∃l,Ed w b l:=⟨l,h⟩
 unfold seenLen;rw[dif_pos hex];exact(Classical.choose_spec hex).len_eq h
theorem NV {F:Fence} {C:Nat} {P:Program} (w:World) {ops:Array Oper} {rest:List Oper} {o:Oper} {a:Act} {Q:Exit->Act->World->Prop} (k:o.guard=none) (s x:Operand) (t:TypeId) (l:o.op=.call { callee:=.builtin .append,args:=#[s,x],argTypes:=#[t,t] }) (base:Nat) (e:TypeId) (i:TypeInfo) (z:Value) (size bytes:Nat) (D:P.underlying t=some (.slice e)) (hi:P.info? e=some i) (E:i.zero=some z) (d:i.size=size) (p:i.bytes=bytes) (q:z.cells.size=size) (r:0<size) (v:Value) (n:Nat) (xs:List Value) (G:a.eval s=v) (g:w.ownsRow base e size v n xs) (B:Nat) (A:Option Addr) (m c:Nat) (news:List Value) (H:a.eval x=.slice A m c) (I:Reads w B size A m news) (h1:∀u∈news,u.oneCell'=true) (h63:n+m<=maxLen) (b:(n+m)*bytes<=140737488355328) (f:base<=w.heap.size) (h:∀v' w',w'.ownsRow base e size v' (n+m) (xs++news)->w.grownBy w' v.ownBlock->(v'.ownBlock=v.ownBlock\/v'.ownBlock=some w.heap.size)->wpListIn F C P ops Q rest (a.put o.dst v') w'):wpListIn F C P ops Q (o::rest) a w:=by
 refine wpListIn_plain k fun K J=>?_
 obtain⟨v',w',j,h2,h3,h4⟩:=MF (P:=P) w base t o.type e i z size bytes D hi E d p q r v n xs g B A m c news I h1 h63 b f;unfold Oper.wpIn;refine⟨by simp[Oper.about,l,resolve,Target.leads,Sem.run_pure],?_⟩;rw[Oper.semAt_plain F _ _ (by rw[l];intro c y;cases y)];simp[execOp,l,resolve,invoke,builtin,G,H,j,Result.andThen];exact J _ _ (h v' w' h2 h3 h4)
theorem NO {w:World} {base:Nat} {e:TypeId} {size n:Nat} {v:Value} {xs:List Value} (h:w.ownsRow base e size v n xs):∀g,v.ownBlock=some g->∃b T c,w.heap[g]?=some (.cells b T c):=by
 intro g a;rcases h.2 with⟨rfl,_⟩|⟨d,cap,f,rfl,j,i,_⟩
 .cases a
 .have:d=g:=AL a;subst this;exact⟨_,_,_,i⟩
theorem KpX.of {lo hi bR bs:Nat} {A B:World} (d:A.heap.size<=B.heap.size) (i:bs<lo) (j:lo<=hi) (a:∀k,k<A.heap.size->(lo<=k/\k<hi)\/k=bs\/Iv bR A k\/B.heap[k]?=A.heap[k]?) (f:∀k,Iv bR B k->Iv bR A k\/(A.heap.size<=k/\k<B.heap.size)) (g:∀k,Iv bR A k->hi<=k/\∃b T c,A.heap[k]?=some (.cells b T c)):KpX lo hi bR bs A B:=by
 refine⟨⟨d,fun k h1 h2 h3=>?_,fun k b T c h1 h2 h3 h4=>?_,fun k h1 h2 h3 h4 h5=>?_,fun h1 h2 k h5=>?_⟩,d,fun k o h1 h2 h3=>?_⟩
 .rcases a k h1 with h|h|h|h
  .omega
  .exact absurd h h3
  .have:=(g k h).1;omega
  .exact h
 .rcases a k (BS.1 h2).1 with h|h|h|h
  .omega
  .omega
  .exact absurd h h4
  .exact h
 .rcases f k h5 with h|h
  .exact h4 h
  .omega
 .rcases f k h5 with h|h
  .have:=h2 k h;omega
  .exact h.2
 .rcases a k (BS.1 h2).1 with h|h|h|h
  .omega
  .omega
  .obtain ⟨_,b,T,c,e⟩:=g k h;rw[e]at h2;cases h2;cases h3
  .exact h.trans h2
structure TkW (u:Fs) (n most lo bs G:Nat) (w0:World) (S R:List Lg) (m:Bool) (v:Value) (W:World):Prop where
 bw:BL W lo 102 #[.pointer (some ⟨G,0,none⟩)]
 br:BL W (lo+1) 106 #[v]
 bf:BL W (lo+2) 4 #[.bool false]
 bm:BL W (lo+3) 4 #[.bool m]
 own:W.ownsRow (lo+4) 157 4 v R.length (B_ Fm R)
 seen:Ed W bs S
 old:∀k,OW lo bs k->W.heap[k]?=w0.heap[k]?
 os:W.os=w0.os/\W.tape=w0.tape/\W.output=w0.output
 good:∀x∈R,GM u n most x
 le:S.length<=2048
 rl:R.length<=S.length
 sz:lo+4<=W.heap.size
 nw:bs<lo
section
variable {u:Fs} {n most lo bs G:Nat} {w0:World} {S R:List Lg} {m:Bool} {v:Value} {W W':World}
theorem Ow (h:BL W (lo+1) 106 #[v]) {k:Nat} (a:Iv (lo+1) W k):v.ownBlock=some k:=by obtain⟨o,n,c,e⟩:=a;rw[h.cell]at e;rw[AL (show some v=some (Value.slice (some ⟨k,o,none⟩) n c)from e)];rfl
theorem TkW.ptr (h:TkW u n most lo bs G w0 S R m v W) (k:Nat) (a:Iv (lo+1) W k):lo+4<=k/\∃b T c,W.heap[k]?=some (.cells b T c):=⟨(own_lt h.own k (Ow h.br a)).1,NO h.own k (Ow h.br a)⟩
theorem TkW.grown (h:TkW u n most lo bs G w0 S R m v W) {r:Option Nat} (a:W.grownBy W' r) (d:∀k,r=some k->lo+4<=k/\∃o:Obj,W.heap[k]?=some o/\o.isCells=false):TkW u n most lo bs G w0 S R m v W':=by
 have b:∀{g:Nat} {T:TypeId} {i:Array Value},BL W g T i->some g≠r:=fun {g T i} f e=>by obtain⟨_,o,c,j⟩:=d g e.symm;unfold BL at f;rw[f]at c;cases c;cases j
 have l:=h.sz;have p:=h.nw;refine⟨h.bw.grown a (b h.bw),h.br.grown a (b h.br),h.bf.grown a (b h.bf),h.bm.grown a (b h.bm),h.own.kept a ?_,h.seen.kept a (fun e=>by have:=(d _ e.symm).1;omega),fun k q=>(a.block k (by have:=q.1;omega) (fun e=>by have:=(d _ e.symm).1;have:=q.1;omega)).trans (h.old k q),⟨a.os.trans h.os.1,a.tape.trans h.os.2.1,a.output.trans h.os.2.2⟩,h.good,h.le,h.rl,AK l a.size,p⟩;cases f:v.ownBlock with
 | none=>exact .inl rfl
 | some g=>
  refine .inr fun e=>?_
  obtain⟨i,T,t,j⟩:=NO h.own g f;obtain⟨_,o,c,s⟩:=d g e.symm;rw[j]at c;cases c;cases s
theorem TkW.below (h:TkW u n most lo bs G w0 S R m v W) (a:Below W.heap.size W W'):TkW u n most lo bs G w0 S R m v W':=h.grown (r:=none) ⟨a.os,a.tape,a.output,a.size,fun k b _=>a.block k b⟩ (fun k e=>by cases e)
end
structure TkE (u:Fs) (n K most lo bs:Nat) (w0 W:World):Prop where
 br:BL W (lo+1) 106 #[.slice none 0 0]
 bf:BL W (lo+2) 4 #[.bool true]
 bm:BL W (lo+3) 4 #[.bool false]
 old:∀k,OW lo bs k->W.heap[k]?=w0.heap[k]?
 os:W.os=w0.os/\W.tape=w0.tape/\W.output=w0.output
 far:∃x,GM u n K x/\(most<x.a.size\/most<x.b.size)
 sz:lo+4<=W.heap.size
theorem TkE.grown {u:Fs} {n K most lo bs:Nat} {w0 W W':World} (h:TkE u n K most lo bs w0 W) {r:Option Nat} (a:W.grownBy W' r) (f:∀k,r=some k->lo+4<=k/\∃o:Obj,W.heap[k]?=some o/\o.isCells=false):TkE u n K most lo bs w0 W':=by
 have b:∀{g:Nat} {T:TypeId} {i:Array Value},BL W g T i->some g≠r:=fun {g T i} j e=>by obtain⟨_,o,l,m⟩:=f g e.symm;unfold BL at j;rw[j]at l;cases l;cases m
 have c:=h.sz;exact⟨h.br.grown a (b h.br),h.bf.grown a (b h.bf),h.bm.grown a (b h.bm),fun k d=>(a.block k (by have:=d.1;omega) (fun e=>by have:=(f _ e.symm).1;have:=d.1;omega)).trans (h.old k d),⟨a.os.trans h.os.1,a.tape.trans h.os.2.1,a.output.trans h.os.2.2⟩,h.far,AK c a.size⟩
theorem EJ {B:Nat} {A C:World} (h:Below A.heap.size A C):KeepsFrom B A C:=⟨h.size,fun k o _ a _=>(h.block k (BS.1 a).1).trans a⟩
theorem KpX.below {lo hi bR bs:Nat} {A C:World} (h:Below A.heap.size A C):KpX lo hi bR bs A C:=⟨KpT.below h,EJ h⟩
section
variable {u:Fs} {n K most lo bs G:Nat} {w0:World} {S R:List Lg} {m:Bool} {v:Value} {W W':World}
theorem IR {W:World} {p:Addr} {k:Nat} (u:Value) (h:k≠p.block):(W.setCell p u).heap[k]?=W.heap[k]?:=Am _ _ _ _ h
theorem TkW.far (h:TkW u n most lo bs G w0 S R m v W) (i:∃x,GM u n K x/\(most<x.a.size\/most<x.b.size)) :let c:=((W.setCell ⟨lo+1,0,none⟩ (.slice none 0 0)).setCell ⟨lo+2,0,none⟩ (.bool true)).setCell ⟨lo+3,0,none⟩ (.bool false)
    KeepsFrom (lo+4) W c/\KpX lo (lo+4) (lo+1) bs W c/\TkE u n K most lo bs w0 c:=by
 intro c;have j:=h.sz;have f:=h.nw;have d:∀k,k≠lo+1->k≠lo+2->k≠lo+3->c.heap[k]?=W.heap[k]?:=fun k h1 h2 h3=>((IR _ h3).trans (IR _ h2)).trans (IR _ h1)
 have s:c.heap.size=W.heap.size:=by simp[c]
 have g:BL c (lo+1) 106 #[.slice none 0 0]:=((h.br.set_ 0 (.slice none 0 0)).far (p:=⟨lo+2,0,none⟩) (show lo+1≠lo+2 by omega) _).far (p:=⟨lo+3,0,none⟩) (show lo+1≠lo+3 by omega) _;have l:BL c (lo+2) 4 #[.bool true]:=((h.bf.far (p:=⟨lo+1,0,none⟩) (show lo+2≠lo+1 by omega) _).set_ 0 (.bool true)).far (p:=⟨lo+3,0,none⟩) (show lo+2≠lo+3 by omega) _;have o:BL c (lo+3) 4 #[.bool false]:=((h.bm.far (p:=⟨lo+1,0,none⟩) (show lo+3≠lo+1 by omega) _).far (p:=⟨lo+2,0,none⟩) (show lo+3≠lo+2 by omega) _).set_ 0 (.bool false);refine⟨(((FM _ _ _).trans (FM _ _ _)).trans (FM _ _ _)).from _,KpX.of (by omega) f (by omega) (fun k _=>?_) (fun k q=>?_) h.ptr,g,l,o,fun k e=>(d k (by have:=e.1;omega) (by have:=e.1;omega) (by have:=e.1;omega)).trans (h.old k e),h.os,i,by omega⟩
 .by_cases r:lo<=k/\k<lo+4
  .exact .inl r
  .exact .inr (.inr (.inr (d k (by omega) (by omega) (by omega))))
 .have:=Ow g q;cases this
theorem TkW.many (h:TkW u n most lo bs G w0 S R m v W) :let d:=W.setCell ⟨lo+3,0,none⟩ (.bool true)
    KeepsFrom (lo+4) W d/\KpX lo (lo+4) (lo+1) bs W d/\TkW u n most lo bs G w0 S R true v d:=by
 intro d;have i:=h.sz;have f:=h.nw;have b:∀k,k≠lo+3->d.heap[k]?=W.heap[k]?:=fun k h1=>IR _ h1
 have s:d.heap.size=W.heap.size:=by simp[d]
 have j:BL d (lo+1) 106 #[v]:=h.br.far (p:=⟨lo+3,0,none⟩) (show lo+1≠lo+3 by omega) _;refine⟨(FM _ _ _).from _,KpX.of (by omega) f (by omega) (fun k _=>?_) (fun k l=>?_) h.ptr,h.bw.far (p:=⟨lo+3,0,none⟩) (show lo≠lo+3 by omega) _,j,h.bf.far (p:=⟨lo+3,0,none⟩) (show lo+2≠lo+3 by omega) _,h.bm.set_ 0 (.bool true),AO h.own (fun e=>?_) _,h.seen.setCell (show bs≠lo+3 by omega) _,fun k g=>(b k (by have:=g.1;omega)).trans (h.old k g),h.os,h.good,h.le,h.rl,by omega,f⟩
 .by_cases q:k=lo+3
  .exact .inl ⟨by omega,by omega⟩
  .exact .inr (.inr (.inr (b k q)))
 .refine .inl ?_;obtain⟨o,r,c,e⟩:=l;exact⟨o,r,c,(cell_kept (a:=⟨lo+1,0,none⟩) (b _ (by show lo+1≠lo+3;omega))).symm.trans e⟩
 .have:=(own_lt h.own _ e).1;simp only at this;omega
theorem TkW.map (h:TkW u n most lo bs G w0 S R m v W) {z:Lg} (p:Ed W' bs (S++[z])) (d:W.grownBy W' (some bs)) (q:S.length<2048) :KeepsFrom (lo+4) W W'/\KpX lo (lo+4) (lo+1) bs W W'/\TkW u n most lo bs G w0 (S++[z]) R m v W':=by
 have r:=h.sz;have i:=h.nw;have j:=d.size;have b:∀k,k<W.heap.size->k≠bs->W'.heap[k]?=W.heap[k]?:=fun k h1 h2=>d.block k h1 (fun e=>h2 (AL e))
 have f:∀{k:Nat},lo<=k->some k≠some bs:=fun {k} g e=>by have:=AL e;omega
 refine⟨⟨j,fun k o h1 h2 _=>(b k (BS.1 h2).1 (by omega)).trans h2⟩,KpX.of j i (by omega) (fun k g=>?_) (fun k s=>?_) h.ptr,h.bw.grown d (f (AD _)),h.br.grown d (f (by omega)),h.bf.grown d (f (by omega)),h.bm.grown d (f (by omega)),h.own.kept d (.inr fun e=>?_),p,fun k g=>(b k (by have:=g.1;omega) g.2).trans (h.old k g),⟨d.os.trans h.os.1,d.tape.trans h.os.2.1,d.output.trans h.os.2.2⟩,h.good,by rw[AJ];exact q,by have:=h.rl;rw[AJ];omega,by omega,i⟩
 .by_cases l:k=bs
  .exact .inr (.inl l)
  .exact .inr (.inr (.inr (b k g l)))
 .refine .inl ?_;obtain⟨o,t,c,e⟩:=s;exact⟨o,t,c,(cell_kept (a:=⟨lo+1,0,none⟩) (b _ (by show lo+1<_;omega) (by show lo+1≠bs;omega))).symm.trans e⟩
 .have:=(own_lt h.own _ e).1;omega
theorem TkW.app (h:TkW u n most lo bs G w0 S R m v W) {v':Value} {z:Lg} (q:W'.ownsRow (lo+4) 157 4 v' (R.length+1) (B_ Fm R++Fm z)) (c:W.grownBy W' v.ownBlock) (f:v'.ownBlock=v.ownBlock\/v'.ownBlock=some W.heap.size) (r:GM u n most z) (s:R.length+1<=S.length) :KeepsFrom (lo+4) W (W'.setCell ⟨lo+1,0,none⟩ v')/\KpX lo (lo+4) (lo+1) bs W (W'.setCell ⟨lo+1,0,none⟩ v')/\TkW u n most lo bs G w0 S (R++[z]) m v' (W'.setCell ⟨lo+1,0,none⟩ v'):=by
 have y:=h.sz;have g:=h.nw;have F:=c.size;have A:(W'.setCell ⟨lo+1,0,none⟩ v').heap.size=W'.heap.size:=by simp
 have a:∀{k:Nat},k<lo+4->some k≠v.ownBlock:=fun {k} d e=>by have:=(own_lt h.own _ e.symm).1;omega
 have b:∀k,k<W.heap.size->k≠lo+1->v.ownBlock≠some k->(W'.setCell ⟨lo+1,0,none⟩ v').heap[k]?=W.heap[k]?:=fun k h1 h2 h3=>(IR _ h2).trans (c.block k h1 (fun e=>h3 e.symm))
 have w:BL (W'.setCell ⟨lo+1,0,none⟩ v') (lo+1) 106 #[v']:=(h.br.grown c (a (by omega))).set_ 0 v'
 have i:∀k,Iv (lo+1) W k↔v.ownBlock=some k:=fun k=>⟨Ow h.br,fun e=>by
  rcases h.own.2 with⟨rfl,_⟩|⟨B,cap,C,rfl,_⟩
  .cases e
  .have:B=k:=AL e;subst this;exact⟨0,_,_,h.br.cell 0⟩⟩
 have t:v'.ownBlock≠some (lo+1):=fun e=>by have:=(own_lt q _ e).1;omega
 refine⟨⟨by omega,fun k o h1 h2 h3=>(b k (BS.1 h2).1 (by omega) (fun e=>?_)).trans h2⟩,KpX.of (by omega) g (by omega) (fun k d=>?_) (fun k l=>?_) h.ptr,(h.bw.grown c (a (by omega))).far (p:=⟨lo+1,0,none⟩) (show lo≠lo+1 by omega) _,w,(h.bf.grown c (a (by omega))).far (p:=⟨lo+1,0,none⟩) (show lo+2≠lo+1 by omega) _,(h.bm.grown c (a (by omega))).far (p:=⟨lo+1,0,none⟩) (show lo+3≠lo+1 by omega) _,?_,(h.seen.kept c (a (by omega))).setCell (show bs≠lo+1 by omega) _,fun k d=>(b k (by have:=d.1;omega) (by have:=d.1;omega) (fun e=>a (by have:=d.1;omega) e.symm)).trans (h.old k d),⟨c.os.trans h.os.1,c.tape.trans h.os.2.1,c.output.trans h.os.2.2⟩,fun x j=>?_,h.le,by rw[AJ];exact s,by omega,g⟩
 .obtain ⟨H,T,I,D⟩:=NO h.own k e;rw[D]at h2;cases h2;cases h3
 .by_cases E:k=lo+1
  .exact .inl ⟨by omega,by omega⟩
  .by_cases l:Iv (lo+1) W k
   .exact .inr (.inr (.inl l))
   .exact .inr (.inr (.inr (b k d E (fun e=>l ((i k).2 e)))))
 .have e:=Ow w l
  rcases f with f|f
  .exact .inl ((i k).2 (f.symm.trans e))
  .have:k=W.heap.size:=AL (e.symm.trans f);have:=(own_lt q _ e).2;exact .inr ⟨by omega,by omega⟩
 .have:=AO q (p:=⟨lo+1,0,none⟩) t v';rw[Ej,AJ];exact this
 .rcases Bj.1 j with j|j
  .exact h.good x j
  .rw [AM.1 j];exact r
end
end
section
open Go.RowKit Go.Sort Go.Shelf
attribute [local go_sem] Gl
def X0F (u:Fs) (n K most bs:Nat) (S:List Lg) (w0:World) (e:Ending) (w':World):Prop:=∃(v:Value) (R:List Lg) (far many:Bool),e=.returned (.tuple #[v,.bool far,.bool many])/\w0.heap.size<=w'.heap.size/\(∀k,OW w0.heap.size bs k->w'.heap[k]?=w0.heap[k]?)/\(w'.os=w0.os/\w'.tape=w0.tape/\w'.output=w0.output) /\(far=true->∃x,GM u n K x/\(most<x.a.size\/most<x.b.size)) /\(far=false->w'.ownsRow w0.heap.size 157 4 v R.length (B_ Fm R)/\Ed w' bs (S++R)/\(∀x∈R,GM u n most x)/\(S++R).length<=2048)
def TkI (u:Fs) (n most lo bs G:Nat) (w0:World) (S:List Lg) (W:World):Prop:=∃R m v,TkW u n most lo bs G w0 (S++R) R m v W
theorem X0G:(Tryz.prog.info? 157).map (fun i=>(i.zero,i.size,i.bytes))=some (some (.agg #[.int .i64 0,.int .i64 0,.string ⟨#[]⟩,.string ⟨#[]⟩]),4,48):=by kernel_rfl
theorem X0H (x:Lg):∀v∈Fm x,v.oneCell'=true:=by intro v a;simp[Fm]at a;rcases a with rfl|rfl|rfl|rfl<;>rfl
theorem TkW.same {u:Fs} {n most lo bs G:Nat} {w0:World} {S R:List Lg} {m:Bool} {v:Value} {W:World} (h:TkW u n most lo bs G w0 S R m v W) (k:Nat) (x:Value) (a:k=lo+1/\x=v\/k=lo+2/\x=.bool false\/k=lo+3/\x=.bool m) :TkW u n most lo bs G w0 S R m v (W.setCell ⟨k,0,none⟩ x):=by
 have g:=h.sz;have c:=h.nw;have b:∀i,i≠k->(W.setCell ⟨k,0,none⟩ x).heap[i]?=W.heap[i]?:=fun i h1=>IR _ h1
 have d:v.ownBlock≠some k:=fun e=>by have:=(own_lt h.own _ e).1;omega
 have keep:∀{i:Nat} {T:TypeId} {y:Value},BL W i T #[y]->(i=k->x=y)->BL (W.setCell ⟨k,0,none⟩ x) i T #[y]:=fun {i T y} f j=>by
  by_cases e:i=k
  .subst e;have:=j rfl;subst this;exact f.set_ 0 x
  .exact f.far (p:=⟨k,0,none⟩) e x
 exact⟨h.bw.far (p:=⟨k,0,none⟩) (show lo≠k by omega) _,keep h.br (fun e=>by rcases a with a|a|a<;>first|exact a.2|(exfalso;omega)),keep h.bf (fun e=>by rcases a with a|a|a<;>first|exact a.2|(exfalso;omega)),keep h.bm (fun e=>by rcases a with a|a|a<;>first|exact a.2|(exfalso;omega)),AO h.own d _,h.seen.setCell (show bs≠k by omega) _,fun i hi=>(b i (by have:=hi.1;omega)).trans (h.old i hi),h.os,h.good,h.le,h.rl,by simp;omega,c⟩
theorem TkW.post {u:Fs} {n K most bs G:Nat} {w0:World} {S R:List Lg} {m:Bool} {v:Value} {W:World} (h:TkW u n most w0.heap.size bs G w0 (S++R) R m v W):X0F u n K most bs S w0 (.returned (.tuple #[v,.bool false,.bool m])) W:=⟨v,R,false,m,rfl,by have:=h.sz;omega,h.old,h.os,(fun e=>by cases e),fun _=>⟨Md h.own (by omega),h.seen,h.good,h.le⟩⟩
theorem U7 (u:Fs) (n most K bs G LR nS cS gf N:Nat) (lb:Array Value) (A1:Option Addr) (v2 v3:Value) (S:List Lg) (w0:World) (hn:n<=32) (hK:K<=90000000) (hm:most<=90000000) (wk:WkAt w0.heap.size bs G n LR most A1 nS cS v2 v3 u w0) (bx:bs<w0.heap.size) (hS:Ed w0 bs S) (bz:S.length<=2048) (eg:∀args w,(callFunc gf args).run Tryz.prog w=.ok (.enter gf args) w) (am:∀W,Below w0.heap.size w0 W->W.heap.size=w0.heap.size+4->RU (w0.heap.size+1) W->X0x Fence.wide 4 Tryz.prog gf lb (fun z:Te u n K=>#[NU z.1]) (KpX w0.heap.size (w0.heap.size+4) (w0.heap.size+1) bs) N W) :Calls Tryz.prog 44 #[.pointer (some ⟨G,0,none⟩),.func (.func gf) #[] lb] w0 (X0F u n K most bs S w0):=by
 refine(Ge (n:=5)).1 (callsIn_of_wp_marks Tryz.func44 rfl trivial ?_ rfl);simp only[Tryz.ntmps44,CJ,Bn,Co,Nat.reduceAdd,Nat.reduceSub,ES,ET,FG,En,Cy,Cf];have B1:=BL.new w0 102 #[.pointer (some ⟨G,0,none⟩)];have B2:=BL.new (w0.alloc (.cells #[.pointer (some ⟨G,0,none⟩)] 102)) 106 #[.slice none 0 0];have B3:=BL.new ((w0.alloc (.cells #[.pointer (some ⟨G,0,none⟩)] 102)).alloc (.cells #[.slice none 0 0] 106)) 4 #[.bool false];have B4:=BL.new (((w0.alloc (.cells #[.pointer (some ⟨G,0,none⟩)] 102)).alloc (.cells #[.slice none 0 0] 106)).alloc (.cells #[.bool false] 4)) 4 #[.bool false];simp only[Ad]at B2 B3 B4;replace B1:=((B1.alloc (.cells #[.slice none 0 0] 106)).alloc (.cells #[.bool false] 4)).alloc (.cells #[.bool false] 4);replace B2:=(B2.alloc (.cells #[.bool false] 4)).alloc (.cells #[.bool false] 4);replace B3:=B3.alloc (.cells #[.bool false] 4);have E:=((((AH w0.heap.size w0).alloc (AD _) (.cells #[.pointer (some ⟨G,0,none⟩)] 102)).alloc (by simp) (.cells #[.slice none 0 0] 106)).alloc (by simp;omega) (.cells #[.bool false] 4)).alloc (by simp;omega) (.cells #[.bool false] 4);gi_wp2;have hz:((((w0.alloc (.cells #[.pointer (some ⟨G,0,none⟩)] 102)).alloc (.cells #[.slice none 0 0] 106)).alloc (.cells #[.bool false] 4)).alloc (.cells #[.bool false] 4)).heap.size=w0.heap.size+4:=by simp
 generalize ((((w0.alloc (.cells #[.pointer (some ⟨G,0,none⟩)] 102)).alloc (.cells #[.slice none 0 0] 106)).alloc (.cells #[.bool false] 4)).alloc (.cells #[.bool false] 4))=wl at *;have a3:TkW u n most w0.heap.size bs G w0 (S++[]) [] false (.slice none 0 0) wl:=⟨B1,B2,B3,B4,Bc _ _ _ _,by rw[BC];exact hS.same ⟨E.os,E.tape,E.output,E.size,fun k hk _=>E.block k hk⟩,fun k hk=>E.block k hk.1,⟨E.os,E.tape,E.output⟩,fun x hx=>(BP hx).elim,by rw[BC];exact bz,AN _,by omega,bx⟩;have a4:RU (w0.heap.size+1) wl:=⟨by omega,fun k hk=>by have:=Ow B2 hk;cases this⟩;have T:=am wl E hz a4;have U:=AB a3;have L:=AB wk;clear B1 B2 B3 B4 E a3 am a4 wk hS;generalize a5:w0.heap.size=lo at *;rw[show lo+1+1+1=lo+3 from rfl,show lo+1+1=lo+2 from rfl]
 refine PI (n:=5) rfl (by decide) (gf:=gf) (lb:=lb) rfl trivial eg T KpX.trans (fun M o o' hl ho _=>by rw[hz]at hl ⊢;exact KpX.putObj M o o' hl ho (by omega) (by omega)) (fun M o=>KpX.alloc M o) (fun _=>rfl)
  (fun _ W'=>TkI u n most lo bs G w0 S W') (fun _ W'=>TkE u n K most lo bs w0 W')
  (fun zs A C row ⟨R,m,v,h⟩ hg hr=>⟨R,m,v,h.grown hg (fun k e=>by rw[<-hz];exact hr k e)⟩)
  (fun zs A C row h hg hr=>h.grown hg (fun k e=>by rw[<-hz];exact hr k e))
  ⟨[],false,_,U.out⟩ (fun z=>.cells (Fm z.1).toArray 157) 7 ?assign ?body ?done ?stop
 case assign=>clear U T;rintro l2 zs ⟨⟨l,p,g,i⟩,O⟩ W' KK b0 a6;have V:=AB a6;clear b0 a6;simp only[NU,Fm];gi_wp2;refine V.out _ ?_;simp[NU,Fm]
 case body=>
  clear U T;rintro l2 zs ⟨⟨l,p,g,i⟩,O⟩ kz W' ⟨R,m,v,F⟩ ch b1 af;rw[hz]at b1 ⊢;have j:BL W' kz 157 #[.int .i64 l,.int .i64 p,.string g,.string i]:=af;have HT:=AB F;have z2:=j.cell 2;have z3:=j.cell 3;have cw:=F.bw.cell 0;have cm:=(cell_kept (a:=⟨G,5,none⟩) (F.old _ L.out.lG)).trans (L.out.box.cell 5);clear F;by_cases h1:most<g.size
  .have ag:decide ((most:Int)<(g.size:Int))=true:=by simpa using h1
   gi_wp2;refine JA (by kernel_rfl) (by kernel_rfl) (by kernel_rfl) ?_
   repeat (gi_big_quiet_step (fail))
   refine wpQuietIn_nil ?_;intro _ X;obtain⟨nq,r⟩:=X;subst r;have c:=Mv W' nq;have b:=HT.out.below c;have s:KpX lo (lo+4) (lo+1) bs W' (W'.drewN nq):=KpX.below c;have t:KeepsFrom (lo+4) W' (W'.drewN nq):=EJ c;have d:=j.below c j.lt;clear z2 z3 cw cm HT j af;generalize W'.drewN nq=W5 at *;clear c;have q:=AB (AI t s);clear t s;clear ag;have H:=AB (b.far (K:=K) ⟨⟨l,p,g,i⟩,O,.inl h1⟩);have k1:=b.br.cell 0;have k2:=b.bf.cell 0;have k3:=b.bm.cell 0;have f1:=b.br.frozen 0;have f2:=b.bf.frozen 0;have f3:=b.bm.frozen 0;clear b d;gi_wp2;exact⟨q.out.1.trans H.out.1,q.out.2.trans H.out.2.1,H.out.2.2⟩
  .have ag:decide ((most:Int)<(g.size:Int))=false:=by simpa using h1
   by_cases h2:most<i.size
   .have ar:decide ((most:Int)<(i.size:Int))=true:=by simpa using h2
    gi_wp2;refine JA (by kernel_rfl) (by kernel_rfl) (by kernel_rfl) ?_
    repeat (gi_big_quiet_step (fail))
    refine wpQuietIn_nil ?_;intro _ X;obtain⟨nq,r⟩:=X;subst r;have c:=Mv W' nq;have b:=HT.out.below c;have s:KpX lo (lo+4) (lo+1) bs W' (W'.drewN nq):=KpX.below c;have t:KeepsFrom (lo+4) W' (W'.drewN nq):=EJ c;have d:=j.below c j.lt;clear z2 z3 cw cm HT j af;generalize W'.drewN nq=W5 at *;clear c;have q:=AB (AI t s);clear t s;clear ag ar;have H:=AB (b.far (K:=K) ⟨⟨l,p,g,i⟩,O,.inr h2⟩);have k1:=b.br.cell 0;have k2:=b.bf.cell 0;have k3:=b.bm.cell 0;have f1:=b.br.frozen 0;have f2:=b.bf.frozen 0;have f3:=b.bm.frozen 0;clear b d;gi_wp2;exact⟨q.out.1.trans H.out.1,q.out.2.trans H.out.2.1,H.out.2.2⟩
   .have ar:decide ((most:Int)<(i.size:Int))=false:=by simpa using h2
    gi_wp2;refine JA (by kernel_rfl) (by kernel_rfl) (by kernel_rfl) ?_
    repeat (gi_big_quiet_step (fail))
    refine wpQuietIn_nil ?_;intro _ X;obtain⟨nq,r⟩:=X;subst r;have c:=Mv W' nq;have b:=HT.out.below c;have s:KpX lo (lo+4) (lo+1) bs W' (W'.drewN nq):=KpX.below c;have t:KeepsFrom (lo+4) W' (W'.drewN nq):=EJ c;have d:=j.below c j.lt;clear z2 z3 cw cm HT j af;generalize W'.drewN nq=W5 at *;clear c;have q:=AB (AI t s);clear t s;clear ag ar;have I:GM u n most ⟨l,p,g,i⟩:=⟨O.1,O.2.1,O.2.2.1,Nat.le_of_not_lt h1,Nat.le_of_not_lt h2⟩;have a7:=I.w hn (by omega);have b2:=AB I;have a8:=fun(k:Nat) os=>(b.below (DN W5 k os)).seen.look ⟨l,p,g,i⟩ a7
    have z0:=AF (d.cell 0);have z1:=AF (d.cell 1);have z2:=AF (d.cell 2);have z3:=AF (d.cell 3);have cw:=AF (b.bw.cell 0);have cm:=AF ((cell_kept (a:=⟨G,6,none⟩) (b.old _ L.out.lG)).trans (L.out.box.cell 6));simp only[Fm]at a8;have an:decide ((⟨l,p,g,i⟩:Lg)∈S++R)=true↔(⟨l,p,g,i⟩:Lg)∈S++R:=Ca;generalize decide ((⟨l,p,g,i⟩:Lg)∈S++R)=bm at *;have Y:=AB an;have a9:=AB b;have au:=AB d;clear b I d an;gi_wp2;refine MC 11 [0,1,2,3,4,5,6,7,8] [9,10] (by kernel_rfl) (by kernel_rfl) (by kernel_rfl) rfl (by kernel_rfl) ?_;simp only[CV,A_,BA,Az,BI]
    repeat (go_big_quiet_step (fail))
    refine Ah ?_;clear a8 z0 z1 z2 z3 cw cm;have LA:Below W5.heap.size W5 ((W5.alloc (.cells #[] 158)).drew):=((AH _ W5).alloc (AD _) _).drew;refine BU rfl (fun KK Z=>?_);go_simp;refine Z _ _ (A5 LA) ?_;clear Z KK;refine BU rfl (fun KK Z=>?_);go_simp;refine Z _ _ (A5 LA) ?_;clear Z KK;refine Cc ?_;go_wp2;refine Iw.normal ?_;have f:=a9.out.below LA;have y:=au.out.below LA au.out.lt;have J:=AB (AI (q.out.1.trans (EJ (B:=lo+4) LA)) (q.out.2.trans (KpX.below (lo:=lo) (hi:=lo+4) (bR:=lo+1) (bs:=bs) LA)));clear q a9 au LA;generalize ((W5.alloc (.cells #[] 158)).drew)=W6 at *;rcases bm with _|_
    .have ba:(⟨l,p,g,i⟩:Lg)∉S++R:=fun h=>by have:=Y.out.2 h;cases this
     have b3:=AB ba;clear ba Y;have cw:=f.bw.cell 0;have cm:=(cell_kept (a:=⟨G,6,none⟩) (f.old _ L.out.lG)).trans (L.out.box.cell 6);have b4:=fun ty=>f.seen.len ty
     by_cases bb:2048<=(S++R).length
     .have av:(2048:Int)<=((S++R).length:Int):=by omega
      generalize aa:(S++R).length=sl at *;have ah:=AB aa;clear aa;have aw:=AB f.many;have k3:=f.bm.cell 0;have f3:=f.bm.frozen 0;clear f y;gi_wp2;exact⟨J.out.1.trans aw.out.1,J.out.2.trans aw.out.2.1,R,true,v,aw.out.2.2⟩
     .have av:((S++R).length:Int)<2048:=by omega
      have ao:=f.rl;have y0:=AF (y.cell 0);have y1:=AF (y.cell 1);have y2:=AF (y.cell 2);have y3:=AF (y.cell 3);have yw:=AF cw;have ym:=AF cm;have ai:=AB f;have ax:=AB y;have bc:(S++R).length<2048:=by omega
      have aj:=AB bc;have b5:=AB ao;generalize aa:(S++R).length=sl at *;have ah:=AB aa;clear aa f y bc ao bb;gi_wp2;clear b4 cw cm;refine MD 6 (by kernel_rfl) (by kernel_rfl) (by kernel_rfl) ?_;simp only[CO,CN,Az,BI]
      repeat (go_big_quiet_step (fail))
      refine Ah ?_;intro w7 bd;have ab:=Bu bd;have ay:=ai.out.below ab;have be:=ax.out.below ab ax.out.lt;have V:=AB (AI (J.out.1.trans (EJ (B:=lo+4) ab)) (J.out.2.trans (KpX.below (lo:=lo) (hi:=lo+4) (bR:=lo+1) (bs:=bs) ab)));clear bd y0 y1 y2 y3 yw ym J ai ax ab;obtain⟨w8,ap,bg,az⟩:=ay.seen.store ⟨l,p,g,i⟩ a7 b3.out (by rw[ah.out];have:=aj.out;omega);simp only[Fm]at ap;have ak:=ay.map bg az (by rw[ah.out];exact aj.out);have ac:=be.grown az (fun e=>by have:=AL e;omega);have bh:=AB (AI (V.out.1.trans ak.1) (V.out.2.trans ak.2.1));have bi:=AB ak.2.2;clear ak bg az ay be V;go_wp2;refine Iw.normal ?_;clear ap;have al:=bi.out;obtain⟨Ar,cr,rfl,_,_,_⟩:=BH al.own;have ci:=ac.cell 0;have q1:=ac.cell 1;have q2:=ac.cell 2;have q3:=ac.cell 3;have r1:=al.br.cell 0;have E:=(AH w8.heap.size w8).alloc (AD _) (.cells #[.int .i64 l,.int .i64 p,.string g,.string i] 157);have P:=al.below E;have bj:=AB (AI (bh.out.1.trans (EJ (B:=lo+4) E)) (bh.out.2.trans (KpX.below (lo:=lo) (hi:=lo+4) (bR:=lo+1) (bs:=bs) E)));obtain⟨i0,b6,b7,b8,b9⟩:=BK X0G;have ca:=Bg w8 [.int .i64 l,.int .i64 p,.string g,.string i] 157 4 1 rfl;have cb:=P.own;have bk:=X0H ⟨l,p,g,i⟩;have cj:R.length<=sl:=b5.out;have h63:R.length+1<=maxLen:=by have:=aj.out;unfold maxLen;omega
      have cc:(R.length+1)*48<=140737488355328:=by have:=aj.out;omega
      have a0:=P.sz;have bl:R.length+1<=(S++R++[(⟨l,p,g,i⟩:Lg)]).length:=by rw[AJ,ah.out,BJ];omega
      have bn:=AB (fun v' w9 (h1:World.ownsRow w9 (lo+4) 157 4 v' (R.length+1) (B_ Fm R++Fm ⟨l,p,g,i⟩)) h2 h3=>P.app (v':=v') (W':=w9) (z:=⟨l,p,g,i⟩) h1 h2 h3 b2.out bl);have cd:=AB (fun(w9:World) (hg:(w8.alloc (.cells #[.int .i64 l,.int .i64 p,.string g,.string i] 157)).grownBy w9 (Value.slice Ar R.length cr).ownBlock)=>P.br.grown hg (fun e=>by have:=(own_lt P.own _ e.symm).1;omega));clear al P E bi ac
      gi_wp2_with (gi_at_builtin;refine NV _ rfl _ _ 106 rfl (lo+4) 157 i0 _ 4 48 Tryz.underlying106 b6 b7 b8 b9 rfl (by decide) _ _ _ rfl cb _ (some ⟨w8.heap.size,0,none⟩) 1 1 [.int .i64 l,.int .i64 p,.string g,.string i] rfl ca bk h63 cc a0 ?_;intro v' w9 aq ad bo;obtain⟨A9,c9,ce,_,_,_⟩:=BH aq;subst ce;have a1:=AB (bn.out _ w9 aq ad bo);have bp:=cd.out w9 ad;have rk:=bp.cell 0;have rf:=bp.frozen 0)
      exact⟨bj.out.1.trans a1.out.1,bj.out.2.trans a1.out.2.1,R++[⟨l,p,g,i⟩],m,_,by rw[<-Ac];exact a1.out.2.2⟩
    .clear y Y;have ai:=AB f;clear f;gi_wp2;exact⟨J.out.1,J.out.2,R,m,v,ai.out⟩
 case done=>
  clear U T;rintro D zs W' hD ⟨R,m,v,F⟩ hd;rw[hz]at hD;obtain⟨Ar,cr,rfl,_,_,_⟩:=BH F.own;have r1:=AF (F.br.cell 0);have r3:=AF (F.bm.cell 0);have cf:=(BS.1 hd).1;have k1:=F.br.cell 0;have k2:=F.bf.cell 0;have k3:=F.bm.cell 0;have f1:=F.br.frozen 0;have f2:=F.bf.frozen 0;have f3:=F.bm.frozen 0;have ck:Tryz.prog.follows .mixedOrders=true:=by kernel_rfl
  have h1:=fun M (h:TkW u n most lo bs G w0 (S++R) R m (.slice Ar R.length cr) M)=>h.same (lo+1) (.slice Ar R.length cr) (.inl ⟨rfl,rfl⟩)
  have h2:=fun M (h:TkW u n most lo bs G w0 (S++R) R m (.slice Ar R.length cr) M)=>h.same (lo+2) (.bool false) (.inr (.inl ⟨rfl,rfl⟩))
  have h3:=fun M (h:TkW u n most lo bs G w0 (S++R) R m (.slice Ar R.length cr) M)=>h.same (lo+3) (.bool m) (.inr (.inr ⟨rfl,rfl⟩))
  have bq:∀(M:World) (k:Nat) (x:Value),k<lo+4->M.heap[D]?=some (Obj.deferred (some []))->(M.setCell ⟨k,0,none⟩ x).heap[D]?=some (Obj.deferred (some [])):=fun M k x hk h=>(IR _ (show D≠k by omega)).trans h
  have bt:=AB F;have HD:=AB hd;have HH:=AB (AI h1 (AI h2 (AI h3 bq)));clear F r1 r3 hd cf h1 h2 h3 bq;gi_wp2;refine wpIn_mono (Q:=fun e a' w'=>e=.normal/\a'={ tmps:=#[.pointer (some ⟨G,0,none⟩),.func (.func gf) #[] lb,.pointer (some ⟨lo,0,none⟩),undef,.pointer (some ⟨lo+1,0,none⟩),.pointer (some ⟨lo+2,0,none⟩),.pointer (some ⟨lo+3,0,none⟩),undef,undef,undef,.func (.func gf) #[] lb,undef,undef,undef,undef,undef,undef,undef,undef,undef,undef,undef,undef,undef,undef,undef,undef,undef,undef,undef,undef,undef,undef,undef,undef,undef,undef,undef,undef,undef,undef,undef,undef,undef,undef,undef,undef,undef,undef,undef,undef,undef,undef,undef,undef,undef,.slice Ar R.length cr,.bool m],defers:=[{ target:=.collected D,args:=#[] }] }/\TkW u n most lo bs G w0 (S++R) R m (.slice Ar R.length cr) w'/\w'.heap[D]?=some (.deferred (some []))) ?_ ?_
  .gi_region
   exact⟨rfl,rfl,(HH.out.2.2.1 _ (HH.out.2.1 _ (HH.out.1 _ bt.out))).below ((AH _ _).drew),HH.out.2.2.2 _ _ _ (by omega) (HH.out.2.2.2 _ _ _ (by omega) (HH.out.2.2.2 _ _ _ (by omega) HD.out))⟩
  .rintro e a' WF ⟨rfl,rfl,bu,a2⟩;have ae:=AB (bu.grown (grownBy_putObj' WF D (.deferred none)) (fun k e=>by cases e;exact⟨hD,_,a2,rfl⟩));have cg:=AB a2;clear bu a2 bt HD HH k1 k2 k3 f1 f2 f3;gi_wp2;refine⟨by simp,.inl ⟨_,_,rfl,run_takeDeferred cg.out,?_⟩⟩;have g1:=ae.out.br.cell 0;have g2:=ae.out.bf.cell 0;have g3:=ae.out.bm.cell 0;refine⟨.tuple #[.slice Ar R.length cr,.bool false,.bool m],by simp[results,Tryz.results44,go_sem,g1,g2,g3],?_⟩;rw[<-a5]at ae;exact ae.out.post
 case stop=>clear U T;rintro D zs W' hD hE hd;rw[hz]at hD;have bv:=hE.grown (grownBy_putObj' W' D (.deferred none)) (fun k e=>by cases e;exact⟨hD,_,hd,rfl⟩);have HE:=AB bv;clear hE bv;gi_wp2;refine⟨by simp,.inl ⟨_,_,rfl,run_takeDeferred hd,?_⟩⟩;have g1:=HE.out.br.cell 0;have g2:=HE.out.bf.cell 0;have g3:=HE.out.bm.cell 0;refine⟨.tuple #[.slice none 0 0,.bool true,.bool false],by simp[results,Tryz.results44,go_sem,g1,g2,g3],?_⟩;rw[<-a5]at HE;exact⟨_,[],true,false,rfl,by have:=HE.out.sz;omega,HE.out.old,HE.out.os,fun _=>HE.out.far,(fun e=>by cases e)⟩
end
end Go.Proofs.YtcondkihpmmnnaaGreatDoor
