/- Lemmas, part 29 of 50. No condition. -/
import Derived.Test.YtcondkihpmmnnaaGreatDoorTwin27
set_option maxRecDepth 100000
set_option maxHeartbeats 16000000
namespace Go.Proofs.YtcondkihpmmnnaaGreatDoor
section
open Go.RowKit Go.Sort
abbrev YD (v:Value) (most:Int) (MB:Nat):Array Value:=#[v,.slice none 0 0,.int .i64 most,.slice none 0 0,.map (some MB),.string ⟨#[]⟩,.slice none 0 0,.slice none 0 0,.slice none 0 0,.slice none 0 0]
structure FldInv (w0:World) (B0 G MB n:Nat) (most:Int) (b:Act) (is:List Nat) (a:Act) (W:World) (LA LE:Nat):Prop where
 nd:is.Nodup
 sub:∀i∈is,i∈[4,7,8,9,10]
 defers:a.defers=b.defers
 size:a.tmps.size=b.tmps.size
 same:∀x,x∉[41,44,45,46]->a.tmps[x]?=b.tmps[x]?
 bel:Below B0 w0 W
 sz:w0.heap.size<=W.heap.size
 keep:∀g,g<w0.heap.size->g≠G->W.heap[g]?=w0.heap[g]?
 bG:B0<=G
 dep:10∉is->4∉is
 m4:4∉is->a.tmps[41]?=some (.slice (some ⟨LA,0,none⟩) n n)/\W.ownsRow w0.heap.size 30 1 (.slice (some ⟨LA,0,none⟩) n n) n (List.replicate n Bf)
 m7:7∉is->a.tmps[44]?=some (.slice (some ⟨LE,0,none⟩) n n)/\W.ownsRow w0.heap.size 25 1 (.slice (some ⟨LE,0,none⟩) n n) n (List.replicate n Bf)
 m8:8∉is->a.tmps[45]?=some (.pointer (some ⟨G,0,none⟩))
 m9:9∉is->a.tmps[46]?=some (.pointer (some ⟨G,0,none⟩))
 box:BL W G 78 (YD (if 10∈is then Bf else .slice (some ⟨LA,0,none⟩) n n) most MB)
 lG:G<w0.heap.size
section
variable {w0 W W':World} {B0 G MB n:Nat} {most:Int} {b a:Act} {is:List Nat} {LA LE:Nat}
theorem LM (a:is.Nodup) (i j:Nat):j∉is.erase i↔j=i\/j∉is:=by rw[a.mem_erase_iff];by_cases e:j=i<;>simp[e]
theorem Pn {a b:Act} {d:Tmp} (e:d∈[41,44,45,46]) (f:a.tmps.size=b.tmps.size) (c:46<b.tmps.size) (v:Value):(a.put (some d) v).tmps[d]?=some v:=by
 refine Ik ?_ v;rw[f];simp only[Bh,BP,Eg]at e;rcases e with rfl|rfl|rfl|rfl
 .exact Nat.lt_trans (by decide) c
 .exact Nat.lt_trans (by decide) c
 .exact Nat.lt_trans (by decide) c
 .exact c
theorem FldInv.make4 (h:FldInv w0 B0 G MB n most b is a W LA LE) (hi:4∈is) (l:46<b.tmps.size) (j:Below W.heap.size W W') (m:W'.ownsRow w0.heap.size 30 1 (.slice (some ⟨W.heap.size,0,none⟩) n n) n (List.replicate n Bf)) :FldInv w0 B0 G MB n most b (is.erase 4) (a.put (some 41) (.slice (some ⟨W.heap.size,0,none⟩) n n)) W' W.heap.size LE:=by
 have e:=LM h.nd 4;have h10:10∈is:=Classical.byContradiction fun c=>h.dep c hi
 have d:10∈is.erase 4:=(h.nd.mem_erase_iff).2 ⟨by decide,h10⟩;have f:=h.box;rw[AU h10]at f
 exact { nd:=h.nd.erase 4,sub:=fun i hi=>h.sub i (Do hi),defers:=h.defers,size:=(J6 _).trans h.size,same:=DQ (by simp) h.same,bel:=h.bel.trans (j.mono (AK h.bG (EI (Aj h.lG h.sz)))),sz:=AK h.sz j.size,keep:=fun g k o=>(j.block g (Aj k h.sz)).trans (h.keep g k o),bG:=h.bG,lG:=h.lG
         dep:=fun c=>absurd d c
         m4:=fun _=>⟨Pn (by simp) h.size l _,m⟩
         m7:=fun c=>by obtain⟨p,q⟩:=h.m7 ((((e 7).1 c).resolve_left (by decide)));exact⟨(EB (by decide) _).trans p,BQ q j⟩
         m8:=fun c=>(EB (by decide) _).trans (h.m8 (((e 8).1 c).resolve_left (by decide)))
         m9:=fun c=>(EB (by decide) _).trans (h.m9 (((e 9).1 c).resolve_left (by decide)))
         box:=by rw[AU d];exact f.below j f.lt }
theorem FldInv.make7 (h:FldInv w0 B0 G MB n most b is a W LA LE) (j:46<b.tmps.size) (d:Below W.heap.size W W') (k:W'.ownsRow w0.heap.size 25 1 (.slice (some ⟨W.heap.size,0,none⟩) n n) n (List.replicate n Bf)) :FldInv w0 B0 G MB n most b (is.erase 7) (a.put (some 44) (.slice (some ⟨W.heap.size,0,none⟩) n n)) W' LA W.heap.size:=by
 have e:=LM h.nd 7;have h10:10∈is.erase 7↔10∈is:=by rw[h.nd.mem_erase_iff];simp
 exact { nd:=h.nd.erase 7,sub:=fun i hi=>h.sub i (Do hi),defers:=h.defers,size:=(J6 _).trans h.size,same:=DQ (by simp) h.same,bel:=h.bel.trans (d.mono (AK h.bG (EI (Aj h.lG h.sz)))),sz:=AK h.sz d.size,keep:=fun g f l=>(d.block g (Aj f h.sz)).trans (h.keep g f l),bG:=h.bG,lG:=h.lG
         dep:=fun c=>(e 4).2 (.inr (h.dep (fun x=>c (h10.2 x))))
         m4:=fun c=>by obtain⟨m,o⟩:=h.m4 ((((e 4).1 c).resolve_left (by decide)));exact⟨(EB (by decide) _).trans m,BQ o d⟩
         m7:=fun _=>⟨Pn (by simp) h.size j _,k⟩
         m8:=fun c=>(EB (by decide) _).trans (h.m8 (((e 8).1 c).resolve_left (by decide)))
         m9:=fun c=>(EB (by decide) _).trans (h.m9 (((e 9).1 c).resolve_left (by decide)))
         box:=by simp only[h10];exact h.box.below d h.box.lt }
theorem FldInv.make8 (h:FldInv w0 B0 G MB n most b is a W LA LE) (g:46<b.tmps.size):FldInv w0 B0 G MB n most b (is.erase 8) (a.put (some 45) (.pointer (some ⟨G,0,none⟩))) W LA LE:=by
 have e:=LM h.nd 8;have h10:10∈is.erase 8↔10∈is:=by rw[h.nd.mem_erase_iff];simp
 exact { nd:=h.nd.erase 8,sub:=fun i hi=>h.sub i (Do hi),defers:=h.defers,size:=(J6 _).trans h.size,same:=DQ (by simp) h.same,bel:=h.bel,sz:=h.sz,keep:=h.keep,bG:=h.bG,lG:=h.lG
         dep:=fun c=>(e 4).2 (.inr (h.dep (fun x=>c (h10.2 x))))
         m4:=fun c=>by obtain⟨d,f⟩:=h.m4 ((((e 4).1 c).resolve_left (by decide)));exact⟨(EB (by decide) _).trans d,f⟩
         m7:=fun c=>by obtain⟨d,f⟩:=h.m7 ((((e 7).1 c).resolve_left (by decide)));exact⟨(EB (by decide) _).trans d,f⟩
         m8:=fun _=>Pn (by simp) h.size g _
         m9:=fun c=>(EB (by decide) _).trans (h.m9 (((e 9).1 c).resolve_left (by decide)))
         box:=by simp only[h10];exact h.box }
theorem FldInv.make9 (h:FldInv w0 B0 G MB n most b is a W LA LE) (g:46<b.tmps.size):FldInv w0 B0 G MB n most b (is.erase 9) (a.put (some 46) (.pointer (some ⟨G,0,none⟩))) W LA LE:=by
 have e:=LM h.nd 9;have h10:10∈is.erase 9↔10∈is:=by rw[h.nd.mem_erase_iff];simp
 exact { nd:=h.nd.erase 9,sub:=fun i hi=>h.sub i (Do hi),defers:=h.defers,size:=(J6 _).trans h.size,same:=DQ (by simp) h.same,bel:=h.bel,sz:=h.sz,keep:=h.keep,bG:=h.bG,lG:=h.lG
         dep:=fun c=>(e 4).2 (.inr (h.dep (fun x=>c (h10.2 x))))
         m4:=fun c=>by obtain⟨d,f⟩:=h.m4 ((((e 4).1 c).resolve_left (by decide)));exact⟨(EB (by decide) _).trans d,f⟩
         m7:=fun c=>by obtain⟨d,f⟩:=h.m7 ((((e 7).1 c).resolve_left (by decide)));exact⟨(EB (by decide) _).trans d,f⟩
         m8:=fun c=>(EB (by decide) _).trans (h.m8 (((e 8).1 c).resolve_left (by decide)))
         m9:=fun _=>Pn (by simp) h.size g _
         box:=by simp only[h10];exact h.box }
theorem FldInv.make10 (h:FldInv w0 B0 G MB n most b is a W LA LE) (hi:10∈is) (h4:4∉is):FldInv w0 B0 G MB n most b (is.erase 10) (a.put none undef) (W.setCell ⟨G,0,none⟩ (.slice (some ⟨LA,0,none⟩) n n)) LA LE:=by
 have e:=LM h.nd 10;have d:=h.box;rw[AU hi]at d;have h10:10∉is.erase 10:=(e 10).2 (.inl rfl);have own:∀{f:TypeId} {v:Value} {xs:List Value},f≠78->W.ownsRow w0.heap.size f 1 v n xs->(W.setCell ⟨G,0,none⟩ (.slice (some ⟨LA,0,none⟩) n n)).ownsRow w0.heap.size f 1 v n xs:=fun j m=>AO m (AV m d j) _
 exact { nd:=h.nd.erase 10,sub:=fun i hi=>h.sub i (Do hi),defers:=h.defers,size:=h.size,same:=h.same,bel:=h.bel.setCell (p:=⟨G,0,none⟩) h.bG _,sz:=by simpa using h.sz,keep:=fun g q o=>(Am _ _ _ _ (show g≠G from o)).trans (h.keep g q o),bG:=h.bG,lG:=h.lG
         dep:=fun _=>(e 4).2 (.inr h4)
         m4:=fun c=>by obtain⟨k,l⟩:=h.m4 h4;exact⟨k,own (by decide) l⟩
         m7:=fun c=>by obtain⟨k,l⟩:=h.m7 ((((e 7).1 c).resolve_left (by decide)));exact⟨k,own (by decide) l⟩
         m8:=fun c=>h.m8 (((e 8).1 c).resolve_left (by decide))
         m9:=fun c=>h.m9 (((e 9).1 c).resolve_left (by decide))
         box:=by rw[AP h10];exact d.set_ 0 _ }
theorem FldInv.start (b:Act) (w0:World) (d:B0<=G) (a:BL w0 G 78 (YD Bf most MB)):FldInv w0 B0 G MB n most b [4,7,8,9,10] b w0 LA LE where
 nd:=by decide
 sub:=fun i hi=>hi
 defers:=rfl
 size:=rfl
 same:=fun _ _=>rfl
 bel:=AH _ _
 sz:=AD _
 keep:=fun _ _ _=>rfl
 bG:=d
 lG:=a.lt
 dep:=fun c=>absurd (by simp) c
 m4:=fun c=>absurd (by simp) c
 m7:=fun c=>absurd (by simp) c
 m8:=fun c=>absurd (by simp) c
 m9:=fun c=>absurd (by simp) c
 box:=a
end
def OD (Sx:World->Prop) (w:World) (B0 G MB n:Nat) (most:Int) (kont:Act->Nat->Nat->World->Prop) (is:List Nat) (a:Act) (W:World):Prop:=∃b LA LE,(46<b.tmps.size/\b.tmps[37]?=some (.pointer (some ⟨G,0,none⟩))/\b.tmps[40]?=some (.int .i64 (n:Int))/\b.tmps[43]?=some (.int .i64 (n:Int)))/\Sx W/\FldInv w.drew B0 G MB n most b is a W LA LE /\∀LA LE W,Below B0 w W->w.heap.size<=W.heap.size->(∀g,g<w.heap.size->g≠G->W.heap[g]?=w.heap[g]?)->W.ownsRow w.heap.size 30 1 (.slice (some ⟨LA,0,none⟩) n n) n (List.replicate n Bf)->W.ownsRow w.heap.size 25 1 (.slice (some ⟨LE,0,none⟩) n n) n (List.replicate n Bf)->BL W G 78 (YD (.slice (some ⟨LA,0,none⟩) n n) most MB)->kont b LA LE W
theorem OD.start {e:World->Prop} {w:World} {B0 G MB n:Nat} {most:Int} {a:Act->Nat->Nat->World->Prop} (b:Act) (f:46<b.tmps.size/\b.tmps[37]?=some (.pointer (some ⟨G,0,none⟩))/\b.tmps[40]?=some (.int .i64 (n:Int))/\b.tmps[43]?=some (.int .i64 (n:Int))) (i:B0<=G) (c:BL w G 78 (YD Bf most MB)) (d:e w.drew) (j:∀LA LE W,Below B0 w W->w.heap.size<=W.heap.size->(∀g,g<w.heap.size->g≠G->W.heap[g]?=w.heap[g]?)->W.ownsRow w.heap.size 30 1 (.slice (some ⟨LA,0,none⟩) n n) n (List.replicate n Bf)->W.ownsRow w.heap.size 25 1 (.slice (some ⟨LE,0,none⟩) n n) n (List.replicate n Bf)->BL W G 78 (YD (.slice (some ⟨LA,0,none⟩) n n) most MB)->a b LA LE W) :OD e w B0 G MB n most a [4,7,8,9,10] b w.drew:=⟨b,0,0,f,d,FldInv.start b w.drew i c,j⟩
theorem TR {id:Nat} {base:Act} {w:World} {A B C D r E F s t v d e f g:Oper} {Q:Exit->Act->World->Prop} {B0 G MB n:Nat} {most:Int} {J L:TypeInfo} (y:World->Prop) (X:Tryz.prog.follows .mixedOrders=true) (Y:Lh .any #[A,B,C,D,r,E,F,s,t,v,d,e,f,g] 11 [0,1,2,3,5,6] [4,7,8,9,10] (fun i=>if i=8 then[4]else if i=9 then[8]else if i=10 then[9,4]else[])=true) (Z:Tryz.prog.info? 30=some J) (a2:J.zero=some Bf) (a3:J.size=1) (a4:J.bytes=24) (b1:Tryz.prog.info? 25=some L) (b2:L.zero=some Bf) (b3:L.size=1) (b4:L.bytes=24) (hn:n<=1024) (p4:r.op=Op.makeSlice 66 (.tmp 40) (.tmp 40)) (d4:r.dst=some 41) (g4:r.guard=none) (p7:s.op=Op.makeSlice 23 (.tmp 43) (.tmp 43)) (d7:s.dst=some 44) (g7:s.guard=none) (g8:t.guard=none) (g9:v.guard=none) (g10:d.guard=none) (h8:∀(a:Act) (W:World) (K:Act->World->Prop),a.eval (.tmp 37)=.pointer (some ⟨G,0,none⟩)->K (a.put (some 45) (.pointer (some ⟨G,0,none⟩))) W->t.wp Tryz.prog a W K (NoPanic Q)) (h9:∀(a:Act) (W:World) (K:Act->World->Prop),a.eval (.tmp 45)=.pointer (some ⟨G,0,none⟩)->K (a.put (some 46) (.pointer (some ⟨G,0,none⟩))) W->v.wp Tryz.prog a W K (NoPanic Q)) (h10:∀(a:Act) (W:World) (K:Act->World->Prop) (LA:Nat),a.eval (.tmp 46)=.pointer (some ⟨G,0,none⟩)->a.eval (.tmp 41)=.slice (some ⟨LA,0,none⟩) n n->W.cell? ⟨G,0,none⟩=some Bf->W.frozen? ⟨G,0,none⟩=false->K (a.put none undef) (W.setCell ⟨G,0,none⟩ (.slice (some ⟨LA,0,none⟩) n n))->d.wp Tryz.prog a W K (NoPanic Q)) (O:y w.drew) (M:∀W W',y W->Below W.heap.size W W'->y W') (P:∀W u,y W->y (W.setCell ⟨G,0,none⟩ u)) (h:wpQuiet Tryz.prog #[A,B,C,D,r,E,F,s,t,v,d,e,f,g] (fun w'=>∃p:Cr y,w'=p.w) (fun b=>OD y w B0 G MB n most (fun b LA LE W=>wpList Tryz.prog #[A,B,C,D,r,E,F,s,t,v,d,e,f,g] (NoPanic Q) [e,f,g] ((((b.put (some 41) (.slice (some ⟨LA,0,none⟩) n n)).put (some 44) (.slice (some ⟨LE,0,none⟩) n n)).put (some 45) (.pointer (some ⟨G,0,none⟩))).put (some 46) (.pointer (some ⟨G,0,none⟩))) W) [4,7,8,9,10] b w.drew) (CV [A,B,C,D,r,E,F,s,t,v,d,e,f,g] [0,1,2,3,5,6]) base) :(Code.region id #[A,B,C,D,r,E,F,s,t,v,d,e,f,g] true).wp Tryz.prog Q base w:=by
 refine wp_region_noPanic ?_
 refine MT (l:=[A,B,C,D,r,E,F,s,t,v,d,e,f,g]) (fun w'=>∃p:Cr y,w'=p.w) 11 [0,1,2,3,5,6] [4,7,8,9,10] (fun i=>if i=8 then[4]else if i=9 then[8]else if i=10 then[9,4]else[]) _ X Y rfl (FS [A,B,C,D,r,E,F,s,t,v,d,e,f,g] [0,1,2,3,5,6] rfl) (fun _ _ _ _ _ h=>h) ⟨⟨_,O⟩,rfl⟩
  (OD y w B0 G MB n most fun b LA LE W=>wpList Tryz.prog #[A,B,C,D,r,E,F,s,t,v,d,e,f,g] (NoPanic Q) [e,f,g] ((((b.put (some 41) (.slice (some ⟨LA,0,none⟩) n n)).put (some 44) (.slice (some ⟨LE,0,none⟩) n n)).put (some 45) (.pointer (some ⟨G,0,none⟩))).put (some 46) (.pointer (some ⟨G,0,none⟩))) W) ?_ ?_ h
 .rintro is a W ⟨b,LA,LE,⟨z,k,m,o⟩,H,c,I⟩ i hi R
  have U:=c.sub i hi;simp only[Bh,BP,Eg]at U;have t37:=(c.same 37 (by decide)).trans k;have t40:=(c.same 40 (by decide)).trans m;have t43:=(c.same 43 (by decide)).trans o;rcases U with rfl|rfl|rfl|rfl|rfl
  .refine ⟨r,rfl,g4,Pd 40 66 p4 w.drew.heap.size 30 J _ 1 Tryz.underlying66 Z a2 a3 n (Fc t40) (by rw[a4];omega) (by unfold maxLen;omega) c.sz fun W' N x=>?_⟩;rw[show Bf.cells=#[Bf]from rfl,CG,BZ]at N;have j:=M W W' H x;rw[d4];exact⟨⟨⟨W',j⟩,rfl⟩,b,_,LE,⟨z,k,m,o⟩,j,c.make4 hi z x N,I⟩
  .refine ⟨s,rfl,g7,Pd 43 23 p7 w.drew.heap.size 25 L _ 1 Tryz.underlying23 b1 b2 b3 n (Fc t43) (by rw[b4];omega) (by unfold maxLen;omega) c.sz fun W' N x=>?_⟩;rw[show Bf.cells=#[Bf]from rfl,CG,BZ]at N;have j:=M W W' H x;rw[d7];exact⟨⟨⟨W',j⟩,rfl⟩,b,LA,_,⟨z,k,m,o⟩,j,c.make7 z x N,I⟩
  .exact ⟨t,rfl,g8,h8 a W _ (Fc t37) ⟨⟨⟨W,H⟩,rfl⟩,b,LA,LE,⟨z,k,m,o⟩,H,c.make8 z,I⟩⟩
  .exact ⟨v,rfl,g9,h9 a W _ (Fc (c.m8 (R 8 (by decide)))) ⟨⟨⟨W,H⟩,rfl⟩,b,LA,LE,⟨z,k,m,o⟩,H,c.make9 z,I⟩⟩
  .have V:=R 4 (by decide);have n9:=R 9 (by decide);have q:=c.box;rw[AU hi]at q;have j:=P W (.slice (some ⟨LA,0,none⟩) n n) H;exact⟨d,rfl,g10,h10 a W _ LA (Fc (c.m9 n9)) (Fc (c.m4 V).1) (q.cell 0) (q.frozen 0) ⟨⟨⟨_,j⟩,rfl⟩,b,LA,LE,⟨z,k,m,o⟩,j,c.make10 hi V,I⟩⟩
 .rintro a W ⟨b,LA,LE,hs,H,c,I⟩;obtain⟨x4,S⟩:=c.m4 (by simp);obtain⟨x7,T⟩:=c.m7 (by simp);have x8:=c.m8 (by simp);have x9:=c.m9 (by simp);have q:=c.box;rw[AP (by simp)]at q;rw[Ph c.defers c.size c.same x4 x7 x8 x9];exact I LA LE W ((AH _ w).drew.trans c.bel) c.sz c.keep S T q
end
section
abbrev Pq (u:Fs) (s:Nat):List Int:=IA u.arcs u.arcs.length s
def Qy (u:Fs) (N:Nat) (rows:Nat->List Bk) (i a b:Nat):Prop:=a<(Pq u (i / N)).length->b<(Pq u (i%N)).length->(Ex u ((Pq u (i / N)).getD a 0)).set.both (Ex u ((Pq u (i%N)).getD b 0)).set≠St.none ->∃k∈rows (ix N (Ex u ((Pq u (i / N)).getD a 0)).to (Ex u ((Pq u (i%N)).getD b 0)).to),k.fr=(i:Int)
structure BkH (u:Fs) (N i:Nat) (rows:Nat->List Bk):Prop where
 good:∀j,j<N*N->∀b∈rows j,TW u N j b
 len:∀j,j<N*N->(rows j).length<=i
 full:∀i',i'<i->∀a b,Qy u N rows i' a b
structure BkI (u:Fs) (N i kx ky:Nat) (rows:Nat->List Bk) (sn:List Bool):Prop where
 good:∀j,j<N*N->∀b∈rows j,TW u N j b
 len:∀j,j<N*N->(rows j).length<=i+1/\(sn.getD j false=false->(rows j).length<=i)
 sl:sn.length=N*N
 seen:∀j,j<N*N->sn.getD j false=true->∃b∈rows j,b.fr=(i:Int)
 full:∀i',i'<i->∀a b,Qy u N rows i' a b
 here:∀a b,a<kx\/(a=kx/\b<ky)->Qy u N rows i a b
section
variable {u:Fs} {N i kx ky:Nat} {rows:Nat->List Bk} {sn:List Bool}
theorem BkH.start:BkH u N 0 (fun _=>[]):=⟨fun _ _ _ h=>(by cases h),fun _ _=>AD _,fun _ h=>absurd h (by omega)⟩
theorem YP (n j:Nat):(List.replicate n false).getD j false=false:=by rw[AC,CC];split<;>rfl
theorem BkH.enter (h:BkH u N i rows):BkI u N i 0 0 rows (List.replicate (N*N) false):=⟨h.good,fun j c=>⟨Nat.le_succ_of_le (h.len j c),fun _=>h.len j c⟩,by simp,fun j _ d=>(by rw[YP]at d;cases d),h.full,fun a b h=>absurd h (by omega)⟩
theorem BkI.row (h:BkI u N i kx ky rows sn) (j:(Pq u (i%N)).length<=ky):BkI u N i (kx+1) 0 rows sn:=
 ⟨h.good,h.len,h.sl,h.seen,h.full,fun a b d=>by
  rcases BF a kx with c|e
  .exact h.here a b (.inl c)
  .obtain rfl:a=kx:=by omega
   intro f g;exact h.here a b (.inr ⟨rfl,by omega⟩) f g⟩
theorem BkI.leave (h:BkI u N i kx ky rows sn) (l:(Pq u (i / N)).length<=kx):BkH u N (i+1) rows:=
 ⟨h.good,fun j e=>(h.len j e).1,fun c hi a b=>by
  rcases BF c i with d|f
  .exact h.full c d a b
  .obtain rfl:c=i:=by omega
   intro g k;exact h.here a b (.inl (by omega)) g k⟩
theorem BkI.skip (h:BkI u N i kx ky rows sn) {x y:Ar} (f:Ex u ((Pq u (i / N)).getD kx 0)=x) (g:Ex u ((Pq u (i%N)).getD ky 0)=y) (j:ix N x.to y.to<N*N) (c:sn.getD (ix N x.to y.to) false=true\/x.set.both y.set=St.none):BkI u N i kx (ky+1) rows sn:=
 ⟨h.good,h.len,h.sl,h.seen,h.full,fun a b k=>by
  by_cases e:a=kx/\b=ky
  .obtain ⟨rfl,rfl⟩:=e
   intro l m d;rw[f,g]at d ⊢;rcases c with c|c
   .exact h.seen _ j c
   .exact absurd c d
  .exact h.here a b (by omega)⟩
theorem BkI.put (h:BkI u N i kx ky rows sn) {l m:Int} {x y:Ar} (w:J_ u l) (z:J_ u m) (A:(Pq u (i / N)).getD kx 0=l) (B:(Pq u (i%N)).getD ky 0=m) (q:Ex u l=x) (r:Ex u m=y) (hi:i<N*N) (C:ix N x.fr y.fr=i) {j:Nat} (H:ix N x.to y.to=j) (D:j<N*N) (K:sn.getD j false=false) (E:x.set.both y.set≠St.none):BkI u N i kx (ky+1) (fun t=>if t=j then rows j++[(⟨(i:Int),l,m⟩:Bk)]else rows t) (sn.set j true):=by
 have d:∀{t:Nat} {k:Bk},k∈rows t->k∈(if t=j then rows j++[(⟨(i:Int),l,m⟩:Bk)]else rows t):=fun {t k} s=>by
  by_cases e:t=j
  .subst e;rw[AU rfl];exact C5 _ s
  .rw [AP e];exact s
 have f:(⟨(i:Int),l,m⟩:Bk)∈(if j=j then rows j++[(⟨(i:Int),l,m⟩:Bk)]else rows j):=by rw[AU rfl];simp
 have g:∀{v a b:Nat},Qy u N rows v a b->Qy u N (fun t=>if t=j then rows j++[(⟨(i:Int),l,m⟩:Bk)]else rows t) v a b:=fun L I c J=>by obtain⟨k,s,F⟩:=L I c J;exact⟨k,d s,F⟩
 have n:∀t,(sn.set j true).getD t false=if t=j then true else sn.getD t false:=fun t=>by
  by_cases e:t=j
  .subst e;rw[AU rfl,GW _ _ _ _ (by rw[h.sl];exact D)]
  .rw [AP e,getD_set_ne _ _ _ _ _ (CF e)]
 refine⟨fun t o b c=>?_,fun t o=>?_,by rw[DU];exact h.sl,fun t o p=>?_,fun v G a b=>g (h.full v G a b),fun a b M=>?_⟩
 .by_cases e:t=j
  .subst e
   rw[AU rfl]at c;rcases Bj.1 c with c|c
   .exact h.good t o b c
   .rw [AM]at c;subst c;exact⟨w,z,(show(0:Int)<=(i:Int)by omega),(show(i:Int)<((N*N:Nat):Int)by omega),by rw[q,r,C];simp,by rw[q,r];exact H,by rw[q,r];exact E⟩
  .rw [AP e]at c;exact h.good t o b c
 .rw [n]
  by_cases e:t=j
  .subst e;rw[AU rfl,AU rfl,AJ,BJ];have:=(h.len t o).2 K;exact⟨by omega,fun h=>by cases h⟩
  .rw [AP e,AP e];exact h.len t o
 .rw [n]at p
  by_cases e:t=j
  .subst e;exact⟨_,f,rfl⟩
  .rw [AP e]at p;obtain⟨b,c,F⟩:=h.seen t o p;exact⟨b,d c,F⟩
 .by_cases e:a=kx/\b=ky
  .obtain ⟨rfl,rfl⟩:=e;intro I c J;rw[A,B,q,r,H];exact⟨_,f,rfl⟩
  .exact g (h.here a b (by omega))
theorem BkH.ok (h:BkH u N (N*N) rows) (F:Fit u N):BacksOk u N rows:=by
 refine⟨h.good,fun x i y j c=>?_,h.len⟩;obtain⟨o,d,ex⟩:=TV i;obtain⟨p,e,l⟩:=TV j;obtain⟨q,a2,a3,a4,_⟩:=F.arcs x i;obtain⟨r,t,B,C,_⟩:=F.arcs y j;have hi:=L8 q a2 r t;have v:((ix N x.fr y.fr / N:Nat):Int)=x.fr:=by unfold ix;rw[IX (by omega)];omega
 have w:((ix N x.fr y.fr%N:Nat):Int)=y.fr:=by unfold ix;rw[IY (by omega)];omega
 obtain⟨a,m,f⟩:=Bp.1 ((JT (u:=u) (s:=ix N x.fr y.fr / N)).2 ⟨d,by rw[ex,v]⟩);obtain⟨b,n,g⟩:=Bp.1 ((JT (u:=u) (s:=ix N x.fr y.fr%N)).2 ⟨e,by rw[l,w]⟩);have g1:(Pq u (ix N x.fr y.fr / N)).getD a 0=o:=by rw[AC,AG m,f];rfl
 have g2:(Pq u (ix N x.fr y.fr%N)).getD b 0=p:=by rw[AC,AG n,g];rfl
 have:=h.full _ hi a b m n;rw[g1,g2,ex,l]at this;obtain⟨k,z,A⟩:=this c;exact⟨k,z,by rw[A];exact BO _⟩
end
end
section
open Go.RowKit Go.Sort
structure BackOk (q:SeqM) (n:Nat) (rows:Nat->List Int) (s b:Nat):Prop where
 sound:∀z,z<n->∀x∈rows z,∃t:Nat,x=(t:Int)/\t<n/\∃c,c<256/\q.nx t c=(z:Int)
 full:∀t c,c<256->(t<s\/t=s/\c<b)->∀z,z<n->q.nx t c=(z:Int)->(t:Int)∈rows z
 len:∀z,(rows z).length<=s*256+b
theorem BackOk.start (q:SeqM) (n:Nat):BackOk q n (fun _=>[]) 0 0:=⟨fun _ _ _ h=>(by cases h),fun t c _ h=>(by omega),fun _=>AN _⟩
theorem BackOk.next {q:SeqM} {n:Nat} {rows:Nat->List Int} {s:Nat} (h:BackOk q n rows s 256):BackOk q n rows (s+1) 0:=⟨h.sound,fun t c a b=>h.full t c a (by omega),fun z=>by have:=h.len z;omega⟩
theorem BackOk.pass {q:SeqM} {n:Nat} {rows:Nat->List Int} {s b:Nat} (h:BackOk q n rows s b) (d:∀z,z<n->q.nx s b=(z:Int)->(s:Int)∈rows z):BackOk q n rows s (b+1):=
 ⟨h.sound,fun t c f i z a e=>by
  by_cases g:t=s/\c=b
  .obtain ⟨rfl,rfl⟩:=g;exact d z a e
  .exact h.full t c f (by omega) z a e,fun z=>by have:=h.len z;omega⟩
theorem BackOk.put {q:SeqM} {n:Nat} {rows:Nat->List Int} {s b z:Nat} (h:BackOk q n rows s b) (g:s<n) (i:b<256) (j:q.nx s b=(z:Int)):BackOk q n (fun t=>if t=z then rows z++[(s:Int)]else rows t) s (b+1):=by
 refine⟨fun y d x a=>?_,fun t c k m y d e=>?_,fun y=>?_⟩
 .by_cases e:y=z
  .subst e
   rw[AU rfl]at a;rcases Bj.1 a with a|a
   .exact h.sound y d x a
   .rw [AM]at a;exact⟨s,a,g,b,i,j⟩
  .rw [AP e]at a;exact h.sound y d x a
 .by_cases l:t=s/\c=b
  .obtain ⟨rfl,rfl⟩:=l
   have:y=z:=by omega
   rw[AU this];simp
  .have:=h.full t c k (by omega) y d e
   by_cases f:y=z
   .rw [AU f,<-f];exact C5 _ this
   .rw [AP f];exact this
 .have:=h.len y
  by_cases e:y=z
  .rw [AU e,AJ,BJ,<-e];omega
  .rw [AP e];omega
structure BakW (w wr:World) (LB n:Nat) (cs:Array Value) (vs:List Value) (rows:Nat->List Int):Prop where
 box:BL wr w.heap.size 27 cs
 grp:Grp Ib 1 wr w.heap.size LB n 55 3 vs rows
 bel:Below w.heap.size w wr
section
variable {w wr w':World} {LB n:Nat} {cs:Array Value} {vs:List Value} {rows:Nat->List Int}
theorem BakW.call (h:BakW w wr LB n cs vs rows) (a:Below wr.heap.size wr w'):BakW w w' LB n cs vs rows:=⟨h.box.below a h.box.lt,h.grp.call a,h.bel.trans (a.mono h.bel.size)⟩
theorem BakW.put (h:BakW w wr LB n cs vs rows) (s:Nat) (b:s<n) {v':Value} (x:Int) (a:wr.grownBy w' (vs.getD s Bf).ownBlock) (d:w'.ownsRow w.heap.size 3 1 v' ((rows s).length+1) (B_ Ib (rows s)++Ib x)) (f:v'.ownBlock=(vs.getD s Bf).ownBlock\/v'.ownBlock=some wr.heap.size) :BakW w (w'.setCell ⟨LB,s,none⟩ v') LB n cs (vs.set s v') (fun t=>if t=s then rows s++[x]else rows t):=by have c:=h.grp.row s b;have g:=own_lt h.grp.own LB rfl;exact⟨(BM h.box a (AV c h.box (by decide))).far (p:=⟨LB,s,none⟩) (fun e=>AV h.grp.own h.box (by decide) (by rw[e];rfl)) _,h.grp.put (by decide) s b x a d f,(h.bel.grown a h.bel.size (fun k i=>(own_lt c k i).1)).setCell (p:=⟨LB,s,none⟩) g.1 _⟩
end
end
section
open Go.RowKit Go.Sort
theorem Xt {Q:Exit->Act->World->Prop} {base:Act} {w:World} {ds:List Tmp} {o:Oper} {d:Tmp} (f:o.dst=some d) (j:o.guard=none) (b:o.op=Op.buildSlice 55 0 #[]) :Maker Tryz.prog Q base w ds o d (fun v W=>∃g,v=.slice (some ⟨g,0,none⟩) 0 0/\w.heap.size<=g/\BL W g 3 #[]):=by
 refine⟨f,j,?_,?_⟩
 .rintro v W W' ⟨g,rfl,c,i⟩ e;exact⟨g,rfl,c,i.below e i.lt⟩
 .intro act W K k e l;have a:K (act.put (some d) (.slice (some ⟨W.heap.size,0,none⟩) 0 0)) (W.alloc (.cells #[] 3)):=l _ _ ((AH _ W).alloc (AD _) _) ⟨W.heap.size,rfl,e.size,BL.new W _ _⟩;unfold Oper.wp;simp only[execOp,b];simp[go_sem];rw[f];exact a
structure FroW (W0 wr:World) (gL gM gW n:Nat) (k:Frt) (wts:Nat->Bool) (xs:List Nat) (v:Value):Prop where
 l:BL wr gL 9 (kL k n).toArray
 m:BL wr gM 4 (bV k.some n)
 w:BL wr gW 4 (bV wts n)
 que:Gv wr W0.heap.size 3 v (qV xs)
 ne:gM≠gW
 bL:W0.heap.size<=gL
 bM:W0.heap.size<=gM
 bW:W0.heap.size<=gW
 bel:Below W0.heap.size W0 wr
section
variable {W0 wr w':World} {gL gM gW n:Nat} {k:Frt} {wts:Nat->Bool} {xs:List Nat} {v:Value}
theorem FroW.call (h:FroW W0 wr gL gM gW n k wts xs v) (a:Below wr.heap.size wr w'):FroW W0 w' gL gM gW n k wts xs v:=⟨h.l.below a h.l.lt,h.m.below a h.m.lt,h.w.below a h.w.lt,h.que.below a,h.ne,h.bL,h.bM,h.bW,h.bel.trans (a.mono h.bel.size)⟩
theorem FroW.wait (h:FroW W0 wr gL gM gW n k wts xs v) (z:Nat) (a:z<n) (b:Bool):FroW W0 (wr.setCell ⟨gW,z,none⟩ (.bool b)) gL gM gW n k (fun j=>if j=z then b else wts j) xs v:=by refine⟨h.l.far (p:=⟨gW,z,none⟩) (fun e=>BL.ne_ h.l h.w (by decide) e) _,h.m.far (p:=⟨gW,z,none⟩) h.ne _,?_,h.que.setCell (NZ h.que h.w (by decide)) _,h.ne,h.bL,h.bM,h.bW,h.bel.setCell (p:=⟨gW,z,none⟩) h.bW _⟩;have:=h.w.set_ z (.bool b);rwa [Qc _ _ _ _ a]at this
theorem X1V (k:Frt) (n s:Nat) (f:ByteArray) (a:s<n):(kL k n).toArray.setIfInBounds s (.string f)=(kL (k.put s f) n).toArray:=by unfold kL;rw[Bm,MX _ _ _ _ a];congr 1;unfold GY;apply Em;intro j _;unfold Frt.put;show(if j=s then Value.string f else .string (k.l j))=.string (if j=s then f else k.l j);split<;>rfl
theorem FroW.tell (h:FroW W0 wr gL gM gW n k wts xs v) (s:Nat) (a:s<n) (f:ByteArray):FroW W0 ((wr.setCell ⟨gL,s,none⟩ (.string f)).setCell ⟨gM,s,none⟩ (.bool true)) gL gM gW n (k.put s f) wts xs v:=by
 have b:gL≠gM:=BL.ne_ h.l h.m (by decide);have c:gL≠gW:=BL.ne_ h.l h.w (by decide);refine⟨?_,?_,((h.w.far (p:=⟨gL,s,none⟩) c.symm _).far (p:=⟨gM,s,none⟩) h.ne.symm _),(h.que.setCell (p:=⟨gL,s,none⟩) (NZ h.que h.l (by decide)) _).setCell (p:=⟨gM,s,none⟩) (NZ h.que h.m (by decide)) _,h.ne,h.bL,h.bM,h.bW,(h.bel.setCell (p:=⟨gL,s,none⟩) h.bL _).setCell (p:=⟨gM,s,none⟩) h.bM _⟩
 .have:=h.l.set_ s (.string f);rw[X1V _ _ _ _ a]at this;exact this.far (p:=⟨gM,s,none⟩) b _
 .have:=(h.m.far (p:=⟨gL,s,none⟩) b.symm (.string f)).set_ s (.bool true);rwa [Qc _ _ _ _ a]at this
theorem FroW.push (h:FroW W0 wr gL gM gW n k wts xs v) {v':Value} {z:Nat} (b:Gv w' W0.heap.size 3 v' (qV xs++[.int .i64 (z:Int)])) (a:wr.grownBy w' (F8 v)):FroW W0 w' gL gM gW n k wts (xs++[z]) v':=by
 have c:=NZ h.que h.l (by decide);have d:=NZ h.que h.m (by decide);have f:=NZ h.que h.w (by decide);refine⟨h.l.grown a (fun e=>c e.symm),h.m.grown a (fun e=>d e.symm),h.w.grown a (fun e=>f e.symm),?_,h.ne,h.bL,h.bM,h.bW,h.bel.grown a h.bel.size (fun k g=>(h.que.lt k g).1)⟩;have e:qV (xs++[z])=qV xs++[.int .i64 (z:Int)]:=by unfold qV;simp
 rw[e];exact b
def UZ (w:World) (gL gM n C:Nat):Nat:=((List.range n).map fun s=>match w.cell? ⟨gM,s,none⟩with
 | some (.bool true)=>(match w.cell? ⟨gL,s,none⟩with|some (.string x)=>x.size+1|_=>0)
 | _=>C).sum
theorem FroW.rank (h:FroW W0 wr gL gM gW n k wts xs v) (C:Nat):UZ wr gL gM n C=N_ k n C:=by
 unfold UZ N_;congr 1;apply Em;intro s a;have a:=BE.1 a;rw[h.m.cell,Kb _ a,h.l.cell];have:(kL k n).toArray[s]?=some (.string (k.l s)):=by unfold kL;rw[CQ,IH _ a]
 rw[this];cases k.some s<;>rfl
end
def JY (q:SeqM) (j:Nat):List Nat:=(List.range j).filter q.en
theorem Qo (q:SeqM) (j:Nat):JY q (j+1)=JY q j++if q.en j=true then[j]else[]:=by
 unfold JY;rw[Dj,Ck];congr 1;split
 .rename_i h;rw[CD h];rfl
 .rename_i h;rw[CE h];rfl
def Zj:Frt:=⟨fun _=>ByteArray.empty,fun _=>false⟩
theorem Wo (q:SeqM) (s:Nat):FZ q Zj s=QA q s:=by
 unfold FZ IU;have:(List.range 256).flatMap (KQ q Zj s)=[]:=by rw[List.flatMap_eq_nil_iff];intro b _;unfold KQ;rw[AU (.inr rfl)]
 rw[this,BC]
theorem Xu {q:SeqM} {n:Nat} {wts:Nat->Bool} (h:∀s,s<n->(wts s=true↔s∈JY q n)):FroI q n Zj wts (JY q n):=by
 refine⟨FrOk.start q n,fun s=>by show(0:Nat)<=_;omega,h,List.Nodup.sublist List.filter_sublist E5,fun s a=>?_,fun s a b=>?_,fun s a=>?_⟩
 .exact BE.1 (BV.1 a).1
 .have c:q.en s=false:=by
    rcases e:q.en s with _|_
    .rfl
    .exact absurd (BV.2 ⟨BE.2 a,e⟩) b
  refine⟨fun h=>?_,fun h=>by cases h⟩;rw[Wo]at h;unfold QA at h;rw[c]at h;exact absurd rfl h
 .rw [Wo];unfold QA;rw[AU (BV.1 a).2];exact List.cons_ne_nil _ _
end
end Go.Proofs.YtcondkihpmmnnaaGreatDoor
