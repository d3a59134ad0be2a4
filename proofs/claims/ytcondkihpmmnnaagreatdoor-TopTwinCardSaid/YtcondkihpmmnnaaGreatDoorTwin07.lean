/- Lemmas, part 7 of 50. No condition. -/
import Derived.RangeFuncLeaves
import Derived.OrdersHeld
import Derived.DeepKeys4
import Derived.Maps.OwnOps
import Derived.Test.YtcondkihpmmnnaaGreatDoorTwin06
import Derived.Shelf.Strings.BuilderK
set_option maxRecDepth 100000
set_option maxHeartbeats 16000000
namespace Go.Proofs.YtcondkihpmmnnaaGreatDoor
section
open Go.RowKit
def X0x {α:Type} (F:Fence) (n:Nat) (P:Program) (g:Nat) (lb:Array Value) (enc:α->Array Value) (Kp:World->World->Prop) (N:Nat) (w:World):Prop:=
 ∀(l:Nat) (J Jx:List α->World->Prop) (W:World),Below w.heap.size w W->w.heap.size+2<=W.heap.size->OwnFrom W.heap.size J->OwnFrom W.heap.size Jx ->
  (∀pre x W1,J pre W1->pre.length<N->YieldAt F (n-1) P l (enc x) W1 fun e W'=>(e=.returned (.bool true)/\J (pre++[x]) W'/\Kp W1 W')\/(e=.returned (.bool false)/\Jx (pre++[x]) W'/\Kp W1 W')) ->
  J [] W ->
  CallsIn F n P g (#[.func (.yield l) #[] #[]]++lb) W fun e W'=>(∃v,e=.returned v)/\((∃xs,J xs W')\/(∃xs,Jx xs W'))
def postX {α:Type} (B:Nat) (Kp:World->World->Prop) (I Ix:List α->World->Prop) (xs:List α) (W:World):Exit->Act->World->Prop
 | .normal,_,W'=>KeepsFrom B W W'/\Kp W W'/\I xs W'
 | .ret,_,W'=>KeepsFrom B W W'/\Kp W W'/\Ix xs W'
 | _,_,_=>False
theorem PI {α:Type} {F:Fence} {n:Nat} {P:Program} {g:Operand} {ps:Array Tmp} {assign body:Code} {Q:Exit->Act->World->Prop} {a:Act} {w:World} (af:F.round=none) (h1:1<=n) {gf:Nat} {lb:Array Value} (hg:a.eval g=.func (.func gf) #[] lb) (ag:F.fn gf) (eg:∀args w,(callFunc gf args).run P w=.ok (.enter gf args) w) {enc:α->Array Value} {i:World->World->Prop} {N:Nat} (ab:X0x F (n-1) P gf lb enc i N w) (y:∀{A B C:World},i A B->i B C->i A C) (ac:∀(W:World) (o o':Obj),W.heap[w.heap.size+1]?=some o->o.isCells=false->o'.isCells=false->i W (W.putObj (w.heap.size+1) o')) (ah:∀(W:World) (o:Obj),i W (W.alloc o)) (ai:∀x,(enc x).size=ps.size) (I Ix:List α->World->Prop) (z:OwnFrom w.heap.size I) (E:OwnFrom w.heap.size Ix) (h0:I [] w) (q:α->Obj) (sl:Nat) (d:∀(l:Nat) (pre:List α) (x:α) (W:World) (K:Act->World->Prop),I pre W->(∀a',a'={ tmps:=((ps.zip (enc x)).foldl (fun t (p,v)=>t.setIfInBounds p v) a.tmps).setIfInBounds sl (.pointer (some ⟨W.heap.size,0,none⟩)),defers:=[] }->K a' (W.alloc (q x))) ->assign.wpIn (F.inRound l) (n-1-1) P (Exit.then K (fun _ _ _=>False)) { tmps:=(ps.zip (enc x)).foldl (fun t (p,v)=>t.setIfInBounds p v) a.tmps,defers:=[] } W) (G:∀(l:Nat) (pre:List α) (x:α) (k:Nat) (W:World),I pre W->pre.length<N->w.heap.size+2<=k->W.heap[k]?=some (q x)->body.wpIn (F.inRound l) (n-1-1) P (postX w.heap.size i I Ix (pre++[x]) W) { tmps:=((ps.zip (enc x)).foldl (fun t (p,v)=>t.setIfInBounds p v) a.tmps).setIfInBounds sl (.pointer (some ⟨k,0,none⟩)),defers:=[] } W) (H:∀(D:Nat) (xs:List α) (W:World),w.heap.size<=D->I xs W->W.heap[D]?=some (.deferred (some []))->Q .normal { a with defers:={ target:=.collected D,args:=#[] }::a.defers } W) (J:∀(D:Nat) (xs:List α) (W:World),w.heap.size<=D->Ix xs W->W.heap[D]?=some (.deferred (some []))->Code.ret.wpIn F n P Q { a with defers:={ target:=.collected D,args:=#[] }::a.defers } W) :(Code.rangeFunc g ps assign body).wpIn F n P Q a w:=by
 refine wpIn_rangeFunc fun fn aj=>?_
 rw[af];obtain⟨R,m⟩:∃R:LoopState->Option Code->Loop,R=fun st pe=>{ state:=st,pending:=pe,fn,tmps:=a.tmps,params:=ps,assign,body,defers:=w.heap.size }:=⟨_,rfl⟩
 have hz:(w.alloc (.deferred (some []))).heap.size=w.heap.size+1:=Ad ..;obtain⟨V,hV⟩:∃V,(w.alloc (.deferred (some []))).alloc (.loop (R .ready none))=V:=⟨_,rfl⟩
 have vz:V.heap.size=w.heap.size+2:=by rw[<-hV,Ad,hz]
 have vl:V.heap[w.heap.size+1]?=some (.loop (R .ready none)):=by rw[<-hV,<-hz];exact World.alloc_heap_new _ _
 have vd:V.heap[w.heap.size]?=some (.deferred (some [])):=by rw[<-hV];exact(FW _ _ _ (by omega)).trans (World.alloc_heap_new w _)
 have vI:I [] V:=by rw[<-hV];exact z.alloc _ (z.alloc _ h0)
 have vb:Below w.heap.size w V:=by rw[<-hV];exact((AH _ w).alloc (AD _) _).alloc (by omega) _
 refine⟨w.heap.size+1,[{ target:=.collected w.heap.size,args:=#[] }],V,{ target:=.fn (.func gf) lb,args:=#[.func (.yield (w.heap.size+1)) #[] #[]] },V,gf,#[.func (.yield (w.heap.size+1)) #[] #[]]++lb,V,by rw[<-hV,m];exact run_enterLoop_outer _ _ _ _ _,by simp only[resolve,hg];simp[go_sem],fun f' ad=>?_,by simp[invoke,go_sem,eg],fun _=>h1,?_⟩
 .simp [Target.leads]at ad;subst ad;exact ag
 have keeps:∀{I':List α->World->Prop} (o1 o2:Obj) (_:OwnFrom w.heap.size I') (_:o1.isCells=false) (_:o2.isCells=false),OwnFrom V.heap.size (fun xs W=>I' xs W/\W.heap[w.heap.size+1]?=some o1/\W.heap[w.heap.size]?=some o2):=by
  intro I' o1 o2 hO _ _ s A B row hs hg u;have L:=(BS.1 hs.2.1).1;refine⟨hO s A B row hs.1 hg (fun r e=>⟨by have:=(u r e).1;omega,(u r e).2⟩),(hg.block _ L (fun e=>?_)).trans hs.2.1,(hg.block _ (by omega) (fun e=>?_)).trans hs.2.2⟩
  .have:=(u _ e.symm).1;omega
  .have:=(u _ e.symm).1;omega
 refine(ab (w.heap.size+1)
  (fun xs W=>I xs W/\W.heap[w.heap.size+1]?=some (.loop (R .ready none))/\W.heap[w.heap.size]?=some (.deferred (some [])))
  (fun xs W=>Ix xs W/\W.heap[w.heap.size+1]?=some (.loop (R .done (some .ret)))/\W.heap[w.heap.size]?=some (.deferred (some [])))
  V vb (by omega) (keeps _ _ z rfl rfl) (keeps _ _ E rfl rfl) ?_ ⟨vI,vl,vd⟩).mono ?_
 ·
  rintro pre x W ⟨hi,c,M⟩ ae;have ap:=(BS.1 c).1;have hy:=run_yield (P:=P) (args:=enc x) c (by rw[m];exact ai x);rw[m]at hy;have ak:=World.alloc_heap_new W (q x);have O:∀k o,W.heap[k]?=some o->(W.alloc (q x)).heap[k]?=some o:=fun k o h=>(FW _ _ _ (BS.1 h).1).trans h
  replace c:=O _ _ c;replace M:=O _ _ M;have L:w.heap.size+1<(W.alloc (q x)).heap.size:=(BS.1 c).1;have al:=ah W (q x);have am:I pre (W.alloc (q x)):=z.alloc _ hi;refine⟨fn,_,assign,body,hy,roundIn_of_wpIn aj (d _ pre x W _ hi fun a' an=>⟨_,run_beginRound c (by rw[m]),?_⟩)⟩;subst an;clear hi O;generalize aq:W.alloc (q x)=Wa at *;obtain⟨Y,hY⟩:∃Y,Wa.putObj (w.heap.size+1) (.loop { R .ready none with state:=.busy })=Y:=⟨_,rfl⟩
  have yl:Y.heap[w.heap.size+1]?=some (.loop { R .ready none with state:=.busy }):=by rw[<-hY];exact World.putObj_heap_same L
  have yd:Y.heap[w.heap.size]?=some (.deferred (some [])):=by rw[<-hY];exact(CX (by omega)).trans M
  have yk:i W Y:=by rw[<-hY];exact y al (ac _ _ _ c rfl rfl)
  have yi:I pre Y:=by rw[<-hY];exact z.putObj _ am (by omega) c rfl
  have yn:Y.heap[W.heap.size]?=some (q x):=by rw[<-hY];exact(CX (by omega)).trans ak
  show body.wpIn _ _ _ _ _ (Wa.putObj (w.heap.size+1) (.loop { R .ready none with state:=.busy }));rw[hY];refine wpIn_mono (G _ pre x _ Y yi ae (by omega) yn) ?_;have fin:∀(j:Option Code) (Z:World),KeepsFrom w.heap.size Y Z->i Y Z ->(Instr.endRound (w.heap.size+1) j).run P Z=.ok (.bool j.isNone) (Z.putObj (w.heap.size+1) (.loop (R (if j.isNone then .ready else .done) j))) /\Z.heap[w.heap.size+1]?=some (.loop { R .ready none with state:=.busy }) /\(Z.putObj (w.heap.size+1) (.loop (R (if j.isNone then .ready else .done) j))).heap[w.heap.size+1]?=some (.loop (R (if j.isNone then .ready else .done) j)) /\(Z.putObj (w.heap.size+1) (.loop (R (if j.isNone then .ready else .done) j))).heap[w.heap.size]?=some (.deferred (some [])) /\i W (Z.putObj (w.heap.size+1) (.loop (R (if j.isNone then .ready else .done) j))):=fun j Z hk ao=>by have b:=hk.same _ _ (by omega) yl rfl;have he:=run_endRound (P:=P) j b;rw[m]at he ⊢;rw[m]at b;exact⟨he,b,World.putObj_heap_same (BS.1 b).1,(CX (by omega)).trans (hk.same _ _ (AD _) yd rfl),y (y yk ao) (ac _ _ _ b rfl rfl)⟩
  rintro e a3 Z hp;cases e with
  | normal=>obtain⟨S,f,T⟩:=hp;obtain⟨u,b,U,X,aa⟩:=fin none Z S f;exact⟨_,_,u,.inl ⟨rfl,⟨z.putObj _ T (by omega) b rfl,U,X⟩,aa⟩⟩
  | ret=>obtain⟨S,f,T⟩:=hp;obtain⟨u,b,U,X,aa⟩:=fin (some .ret) Z S f;exact⟨_,_,u,.inr ⟨rfl,⟨E.putObj _ T (by omega) b rfl,U,X⟩,aa⟩⟩
  | exit id=>exact hp.elim
  | goto t=>exact hp.elim
  | panic ch=>exact hp.elim
  | outgrown=>exact hp.elim
 ·
  rintro e W2 ⟨⟨v,rfl⟩,(⟨xs,hi,c,M⟩|⟨xs,hi,c,M⟩)⟩
  .exact ⟨none,_,by have:=run_endLoop (P:=P) c (by rw[m];simp);rw[m]at this;exact this,H _ xs _ (AD _) (z.putObj _ hi (by omega) c rfl) ((CX (by omega)).trans M)⟩
  .exact ⟨some .ret,_,by have:=run_endLoop (P:=P) c (by rw[m];simp);rw[m]at this;exact this,J _ xs _ (AD _) (E.putObj _ hi (by omega) c rfl) ((CX (by omega)).trans M)⟩
end
section
open Go.RowKit Go.Sort
section
variable {P:Program} {ops:Array Oper} {md:Region.Mode} {C:World->Prop}
def Tw (P:Program) (md:Region.Mode) (ops:Array Oper) (C:World->Prop) (n:Nat) (L:Array Bool->Act->Prop):Nat->Array Bool->Act->Prop
 | 0=>L
 | f+1=>fun listed a=>Region.ready md ops listed≠[]/\∀i∈Region.ready md ops listed,i<n/\qOp P ops C i (Tw P md ops C n L f (listed.setIfInBounds i true)) a
theorem Ld {n g:Nat} {L:Array Bool->Act->Prop} {Q':Exit->Act->World->Prop} (c:∀listed a w,C w->L listed a->wpAny P md ops Q' g listed a w) :∀(f:Nat) (listed:Array Bool) (a:Act) (w:World),C w->Tw P md ops C n L f listed a->wpAny P md ops Q' (f+g) listed a w
 | 0,_,_,_,hw,h=>by rw[C8];exact c _ _ _ hw h
 | f+1,_,_,_,hw,h=>by rw[Nat.add_right_comm];exact⟨fun h0=>absurd h0 h.1,fun i hi=>wpOp_of_qOp hw (fun _ _ b d=>Ld c f _ _ _ b d) (h.2 i hi).2⟩
theorem Ji {n i j:Nat} {listed:Array Bool} (d:Region.sinkB md ops n=true) (e:Region.chainB md ops n=true) (f:n<ops.size) (a:HeadInv md ops n listed) (b:i<n) (c:listed.getD i true=false) (g:j∈Region.ready md ops listed):j<n:=by
 rcases BF j n with h|h
 .exact h
 .exact absurd g (tail_waits d e f a _ i rfl b c j h)
theorem O3 {n i:Nat} {u:Oper} {v:Value} {L:Array Bool->Act->Prop} (hi:ops[i]?=some u) (d:∀(j:Nat) (o:Oper) w b,ops[j]?=some o->o.op≠.select w b) (A:Region.sinkB md ops n=true) (B:Region.chainB md ops n=true) (D:n<ops.size) (l:i<n) (g:∀listed a,L listed a->∀j∈Region.ready md ops listed,n<=j) :∀(f:Nat) (listed:Array Bool) (a:Act),HeadInv md ops n listed ->(∀j r,ops[j]?=some r->j≠i->listed.getD j true=false->(∀e∈r.after,Region.binds md e=true->e.on≠i)->u.apart ops r=true) ->i∈Region.ready md ops listed->YieldsIn P ops C u v a ->Tw P md ops C n L f (listed.setIfInBounds i true) (a.put u.dst v)->Tw P md ops C n L (f+1) listed a
 | f,listed,a,inv,hfree,hr,hy,H=>by
  have m:=(mem_ready.1 hr).1;refine⟨Cu hr,fun j s=>⟨Ji A B D inv l m s,?_⟩⟩;by_cases c:j=i
  .subst c;exact hy.qOp hi H
  cases f with
  | zero=>have h1:=g _ _ H j (ready_mono s c);have h2:=Ji A B D inv l m s;exact absurd h2 (by omega)
  | succ f=>
   obtain⟨p,r,t,x⟩:=mem_ready.1 s;have y:∀e∈r.after,Region.binds md e=true->e.on≠i:=fun e I J E=>by have h1:=x e I J;rw[E,getD_both m]at h1;cases h1
   have h2:=qOp_put t (hfree j r t c p y) (fun w b=>d i u w b hi) (fun w b=>d j r w b t) hy (H.2 j (ready_mono s c)).2;refine qOp_mono (fun K h3=>?_) h2
   refine O3 hi d A B D l g f (listed.setIfInBounds j true) K (inv.set s (Ji A B D inv l m s)) (fun k ok M F q G=>hfree k ok M F ?_ G)
    (ready_mono hr (CF c)) h3.1 (by rw[Array.setIfInBounds_comm _ _ c];exact h3.2)
   by_cases z:j=k
   .subst z;exact p
   .rw [getD_set_ne true z]at q;exact q
theorem Oc {n g:Nat} {f:Act->Prop} (c:Region.noSelect ops=true) (m:Region.sinkB md ops n=true) (p:Region.chainB md ops n=true) (q:n<ops.size) :∀(l:List Oper) (k:Nat) (listed:Array Bool) (a:Act),(∀j,j<l.length->l[j]?=ops[k+j]?)->k+l.length=n->HeadInv md ops n listed ->Region.lexHead md ops g l.length k listed=true->wpQuiet P ops C f l a->Tw P md ops C n (fun b r=>Region.seqB md ops g n b=true/\f r) l.length listed a
 | [],k,listed,a,_,hk,_,hB,h=>by obtain rfl:k=n:=hk;exact⟨hB,h⟩
 | o::l,k,listed,a,hl,hk,inv,hB,h=>by
  have h0:ops[k]?=some o:=by simpa using (hl 0 (by simp)).symm
  simp only[Bn,Region.lexHead,AW]at hB;obtain⟨⟨s,t⟩,i⟩:=hB;have d:k<n:=by simp only[Bn]at hk;omega
  have e:k∈Region.ready md ops listed:=by simpa using s
  obtain⟨v,u,w⟩:=yieldsIn_of_qOp (C:=C) (K:=wpQuiet P ops C f l) h0 (by unfold qOp;simp only[h0];exact h)
  refine O3 h0 (Region.noSelect_spec c) m p q d (fun _ _ x=>seqB_ready x.1) l.length listed a inv (Region.free_spec h0 t) e u
   (Oc c m p q l (k+1) _ _ (fun j y=>?_) (by simp only[Bn]at hk;omega) (inv.set e d) i w)
  have:=hl (j+1) (by simp;omega);simpa[Dx,Nat.add_comm 1 j]using this
theorem E_ {id:Nat} {Q:Exit->Act->World->Prop} {a:Act} {w:World} {l:List Oper} (n:Nat) (s:P.follows .mixedOrders=true) (m:Region.lexTailB .any l.toArray n=true) (u:C { w with drawn:=w.drawn+1 }) (h:wpQuiet P l.toArray C (fun i=>∀w',C w'->wpList P l.toArray Q (l.drop n) i w') (l.take n) a):(Code.region id l.toArray true).wp P Q a w:=by
 simp only[Region.lexTailB,AW,BB]at m;obtain⟨⟨⟨⟨c,o⟩,v⟩,x⟩,d⟩:=m;have y:n<l.length:=by simpa using o
 have b:(l.take n).length=n:=by simp;omega
 have e:(l.drop n).length=l.toArray.size-n:=by simp
 have f:HeadInv .any l.toArray n (Array.replicate l.toArray.size false):=⟨by simp,fun j A _ p=>(by rw[C0]at p;cases p),fun t _ z=>getD_in (by simpa using z) (C0 _ _)⟩;have H:=Oc (P:=P) (C:=C) (md:=.any) (g:=l.toArray.size-n) c v x o (l.take n) 0 _ a (fun j q=>by rw[b]at q;simp[q]) (by simpa using b) f (by rw[b];exact d) h;refine wp_region_any s ?_;have:=Ld (Q':=Q) (g:=l.toArray.size-n) (fun listed i w' k r=>by have:=wpAny_of_seq (md:=.any) (Q':=Q) (l.drop n) n listed i w' (fun j=>by simp[Dt]) (by rw[e];exact r.1) (r.2 w' k);rwa [e]at this) _ _ _ _ u H;rw[b,show n+(l.toArray.size-n)=l.toArray.size by omega]at this;exact this
theorem Cb {id:Nat} {Q:Exit->Act->World->Prop} {a:Act} {w:World} {l:List Oper} (n:Nat) (b:P.follows .mixedOrders=true) (c:Region.lexTailB .any l.toArray n=true) (h:wpQuiet P l.toArray (fun w'=>∃p:Regrown,w'=grow (redrawn w p.d) p.os) (fun e=>∀w',(∃p:Regrown,w'=grow (redrawn w p.d) p.os)->wpList P l.toArray Q (l.drop n) e w') (l.take n) a):(Code.region id l.toArray true).wp P Q a w:=E_ (C:=fun w'=>∃p:Regrown,w'=grow (redrawn w p.d) p.os) n b c ⟨⟨w.drawn+1,#[]⟩,by rw[F_];rfl⟩ h
end
end
section
open Go.RowKit Go.Sort
def Sv:Op->Bool
 | .move _|.assign _|.load _ _|.build _ _|.binOp _ _ _ _ _|.unOp _ _ _|.convert _ _ _|.fieldAddr _ _ _|.field _ _ _|.indexAddr _ _ _|.index _ _ _|.extract _ _|.nilCheck _|.lookup _ _ _ _=>true
 | _=>false
theorem XV {P:Program} (s:Sem Value) (w:World):((do pure (Next.value (<-s))):Sem Next).run P w=(s.run P w).andThen fun x w'=>.ok (.value x) w':=by simp only[Fw,Sem.run_pure]
theorem Sw {P:Program} {α β:Type} {m:Sem α} {k:α->Sem β} {w w':World} {r:β} (h:(m >>= k).run P w=.ok r w'):∃a b,(k a).run P b=.ok r w':=by
 rw[Fw]at h;cases c:m.run P w with
 | ok a b=>rw[c]at h;exact⟨a,b,h⟩
 | halt x b=>rw[c]at h;simp[Result.andThen]at h
theorem VS {P:Program} {o:Oper} (c:Sv o.op=true) (e:Operand->Value) (w w':World) (r:Next) (h:(execOp e o).run P w=.ok r w'):∃v,r=.value v:=by
 have key:∀s:Sem Value,((do pure (Next.value (<-s))):Sem Next).run P w=.ok r w'->∃v,r=.value v:=fun s b=>by
  rw[XV]at b;cases d:s.run P w with
  | ok x w1=>rw[d]at b;simp only[Ee,Result.ok.injEq]at b;exact⟨x,b.1.symm⟩
  | halt x w1=>rw[d]at b;simp[Result.andThen]at b
 have a:∀(W:World) (u:Value),((pure (Next.value u)):Sem Next).run P W=.ok r w'->∃v,r=.value v:=fun W u f=>by simp only[Sem.run_pure,Result.ok.injEq]at f;exact⟨_,f.1.symm⟩
 unfold execOp at h;cases g:o.op<;>rw[g]at c h<;>first|exact a _ _ h|exact key _ h|(exfalso;revert c;simp[Sv];done)|skip
 dsimp only at h;split at h
 .simp [go_sem]at h
 .simp [go_sem]at h
 .simp [go_sem]at h
 .split at h
  .simp [go_sem]at h
  .obtain ⟨_,_,h⟩:=Sw h
   obtain⟨_,_,h⟩:=Sw h;split at h
   .obtain ⟨_,_,h⟩:=Sw h;exact a _ _ h
   .exact a _ _ h
  .exact a _ _ h
 .exact a _ _ h
section
variable {P:Program} {ops:Array Oper} {md:Region.Mode} {S:World->Prop}
theorem N1 {o:Oper} {v:Value} {a:Act} (c:Sv o.op=true) (h:YieldsIn P ops S o v a):YieldsIf P ops S o v a:=by
 rcases h with⟨d,e⟩|h
 .refine .inl ⟨d,fun w f=>?_⟩
  have h1:=e w f;unfold Oper.quietAt at h1;cases b:(execOp a.eval o).run P w with
  | ok r w'=>obtain⟨u,rfl⟩:=VS c _ _ _ _ b;rw[b]at h1;simp only[Oper.quietUpon]at h1;rw[h1.1,h1.2]
  | halt x w'=>rw[b]at h1;simp only[Oper.quietUpon]at h1
 .exact .inr h
def N2 (P:Program) (md:Region.Mode) (ops:Array Oper) (Q:Exit->Act->World->Prop) (S:World->Prop) (n:Nat) (L:Array Bool->Act->World->Prop):Nat->Array Bool->Act->World->Prop
 | 0=>L
 | f+1=>fun listed a w=>Region.ready md ops listed≠[]/\∀i∈Region.ready md ops listed,i<n/\wpOp P ops Q i (fun a' w'=>S w'/\N2 P md ops Q S n L f (listed.setIfInBounds i true) a' w') a w
variable {Q:Exit->Act->World->Prop}
theorem Ih {n g:Nat} {L:Array Bool->Act->World->Prop} (b:∀listed a w,L listed a w->wpAny P md ops Q g listed a w) :∀(f:Nat) (listed:Array Bool) (a:Act) (w:World),N2 P md ops Q S n L f listed a w->wpAny P md ops Q (f+g) listed a w
 | 0,_,_,_,h=>by rw[C8];exact b _ _ _ h
 | f+1,_,_,_,h=>by rw[Nat.add_right_comm];exact⟨fun h0=>absurd h0 h.1,fun i hi=>wpOp_mono (fun _ _ c=>Ih b f _ _ _ c.2) (h.2 i hi).2⟩
theorem O7 {n i:Nat} {x:Oper} {v:Value} {L:Array Bool->Act->World->Prop} (hi:ops[i]?=some x) (g:∀(j:Nat) (o:Oper) y b,ops[j]?=some o->o.op≠.select y b) (J:∀c a w,Q (.panic c) (a.put x.dst v) w->Q (.panic c) a w) (C:Region.sinkB md ops n=true) (D:Region.chainB md ops n=true) (E:n<ops.size) (m:i<n) (l:∀listed a w,L listed a w->∀j∈Region.ready md ops listed,n<=j) :∀(f:Nat) (listed:Array Bool) (a:Act) (w:World),HeadInv md ops n listed ->(∀j s,ops[j]?=some s->j≠i->listed.getD j true=false->(∀e∈s.after,Region.binds md e=true->e.on≠i)->x.apart ops s=true) ->i∈Region.ready md ops listed->YieldsIf P ops S x v a->S w ->N2 P md ops Q S n L f (listed.setIfInBounds i true) (a.put x.dst v) w->N2 P md ops Q S n L (f+1) listed a w
 | f,listed,a,w,inv,hfree,hr,hy,hS,H=>by
  have p:=(mem_ready.1 hr).1;refine⟨Cu hr,fun j t=>⟨Ji C D E inv m p t,?_⟩⟩;by_cases d:j=i
  .subst d;exact hy.wpOp hi hS ⟨hS,H⟩
  cases f with
  | zero=>have h1:=l _ _ _ H j (ready_mono t d);have h2:=Ji C D E inv m p t;exact absurd h2 (by omega)
  | succ f=>
   obtain⟨q,s,u,z⟩:=mem_ready.1 t;have A:∀e∈s.after,Region.binds md e=true->e.on≠i:=fun e K M F=>by have h1:=z e K M;rw[F,getD_both p]at h1;cases h1
   have h2:=wpOp_putIf u (hfree j s u d q A) (fun y b=>g i x y b hi) (fun y b=>g j s y b u) J hy (H.2 j (ready_mono t d)).2;refine wpOp_mono (fun N w' h3=>⟨h3.2.1,?_⟩) h2
   refine O7 hi g J C D E m l f (listed.setIfInBounds j true) N w' (inv.set t (Ji C D E inv m p t)) (fun k ok O G r I=>hfree k ok O G ?_ I)
    (ready_mono hr (CF d)) h3.1 h3.2.1 (by rw[Array.setIfInBounds_comm _ _ d];exact h3.2.2)
   by_cases B:j=k
   .subst B;exact q
   .rw [getD_set_ne true B]at r;exact r
def Od (md:Region.Mode) (ops:Array Oper) (n:Nat):List Nat->Array Bool->Bool
 | [],_=>true
 | i::rest,listed=>(match ops[i]? with|some o=>Sv o.op|none=>false) && decide (i<n) && (Region.ready md ops listed).contains i && Region.free md ops listed i && Od md ops n rest (listed.setIfInBounds i true)
def PZ (md:Region.Mode) (ops:Array Oper) (n g:Nat):List Nat->Array Bool->Bool
 | [],listed=>Region.seqB md ops g n listed
 | i::rest,listed=>decide (Region.ready md ops listed=[i]) && decide (i<n) && PZ md ops n g rest (listed.setIfInBounds i true)
def N3 (l:List Nat) (listed:Array Bool):Array Bool:=l.foldl (fun s i=>s.setIfInBounds i true) listed
def Rn (md:Region.Mode) (ops:Array Oper) (n:Nat) (qs fs:List Nat):Bool:=
 Region.noSelect ops && decide (n<ops.size) && Region.sinkB md ops n && Region.chainB md ops n && Od md ops n qs (Array.replicate ops.size false) &&
  PZ md ops n (ops.size-n) fs (N3 qs (Array.replicate ops.size false))
def IG (P:Program) (ops:Array Oper) (S:World->Prop) (Q:Exit->Act->World->Prop) (tail:List Oper):List Oper->Act->World->Prop
 | [],a,w=>wpList P ops Q tail a w
 | o::rest,a,w=>if Region.wanted o (yielded ops a.tmps)=true then o.wp P a w (fun a' w'=>S w'/\IG P ops S Q tail rest a' w') Q else S w/\IG P ops S Q tail rest (a.put o.dst undef) w
theorem Cc {tail:List Oper} {a:Act} {w:World} (h:wpList P ops Q tail a w):IG P ops S Q tail [] a w:=h
theorem BU {tail rest:List Oper} {o:Oper} {a:Act} {w:World} (c:o.guard=none) (h:∀K:Act->World->Prop,(∀b w',S w'->IG P ops S Q tail rest b w'->K b w')->o.wp P a w K Q):IG P ops S Q tail (o::rest) a w:=by
 have d:Region.wanted o (yielded ops a.tmps)=true:=by simp[Region.wanted,c]
 unfold IG;rw[AU d];exact h _ fun b w' h1 h2=>⟨h1,h2⟩
theorem KU {n g:Nat} {tail:List Oper} (k:(ops.toList.drop n)=tail) :∀(c:List Nat) (d:List Oper) (listed:Array Bool) (a:Act) (w:World),c.map (fun i=>ops[i]?)=d.map some->PZ md ops n g c listed=true->IG P ops S Q tail d a w ->N2 P md ops Q S n (fun b e w'=>Region.seqB md ops g n b=true/\wpList P ops Q tail e w') c.length listed a w
 | [],[],listed,a,w,_,hB,h=>⟨hB,h⟩
 | [],_::_,_,_,_,he,_,_=>by simp at he
 | _::_,[],_,_,_,he,_,_=>by simp at he
 | i::c,o::d,listed,a,w,he,hB,h=>by
  simp only[DO,List.cons.injEq]at he;simp only[PZ,AW,BB]at hB;refine⟨by rw[hB.1.1];simp,fun j l=>?_⟩;rw[hB.1.1]at l;obtain rfl:j=i:=by simpa using l
  refine⟨hB.1.2,?_⟩;unfold IG at h;unfold wpOp;simp only[he.1];split
  .rename_i f;rw[AU f]at h;exact .inl (Oper.wp_mono (fun e w' m=>⟨m.1,KU k c d _ e w' he.2 hB.2 m.2⟩) h)
  .rename_i f;rw[AP f]at h;exact⟨h.1,KU k c d _ _ w he.2 hB.2 h.2⟩
theorem J5 {n g m:Nat} {tail:List Oper} {q:Act->Prop} (e:Region.noSelect ops=true) (t:Region.sinkB md ops n=true) (u:Region.chainB md ops n=true) (x:n<ops.size) (y:∀c a d v w,Q (.panic c) (a.put d v) w->Q (.panic c) a w) {w:World} (z:S w) {last:Array Bool} (j:∀a,q a->N2 P md ops Q S n (fun b r w'=>Region.seqB md ops g n b=true/\wpList P ops Q tail r w') m last a w) :∀(f:List Nat) (k:List Oper) (listed:Array Bool) (a:Act),f.map (fun i=>ops[i]?)=k.map some->HeadInv md ops n listed->Od md ops n f listed=true->N3 f listed=last ->wpQuiet P ops S q k a->N2 P md ops Q S n (fun b r w'=>Region.seqB md ops g n b=true/\wpList P ops Q tail r w') (f.length+m) listed a w
 | [],[],listed,a,_,_,_,hl,h=>by rw[Co,C8];obtain rfl:listed=last:=hl;exact j a h
 | [],_::_,_,_,he,_,_,_,_=>by simp at he
 | _::_,[],_,_,he,_,_,_,_=>by simp at he
 | i::f,o::k,listed,a,he,inv,hB,hl,h=>by
  simp only[DO,List.cons.injEq]at he;simp only[Od,he.1,AW,BB]at hB;obtain⟨⟨⟨⟨A,l⟩,B⟩,D⟩,s⟩:=hB;have p:i∈Region.ready md ops listed:=by simpa using B
  obtain⟨v,E,F⟩:=yieldsIn_of_qOp (C:=S) (K:=wpQuiet P ops S q k) he.1 (by unfold qOp;simp only[he.1];exact h);rw[show(i::f).length+m=(f.length+m)+1 by simp only[Bn];omega]
  exact O7 he.1 (Region.noSelect_spec e) (fun c a w=>y c a _ _ w) t u x l (fun _ _ _ G=>seqB_ready G.1) _ listed a w inv (Region.free_spec he.1 D) p (N1 A E) z
   (J5 e t u x y z j f k _ _ he.2 (inv.set p l) s hl F)
theorem MO {id:Nat} {a:Act} {w:World} {l:List Oper} (S:World->Prop) (n:Nat) (q b:List Nat) (r s:List Oper) (D:P.follows .mixedOrders=true) (z:Rn .any l.toArray n q b=true) (e:q.length+b.length=n) (E:q.map (fun i=>l.toArray[i]?)=r.map some) (F:b.map (fun i=>l.toArray[i]?)=s.map some) (G:∀c a d v w,Q (.panic c) (a.put d v) w->Q (.panic c) a w) (I:S w.drew) (h:wpQuiet P l.toArray S (fun f=>IG P l.toArray S Q (l.drop n) s f w.drew) r a):(Code.region id l.toArray true).wp P Q a w:=by
 simp only[Rn,AW,BB]at z;obtain⟨⟨⟨⟨⟨k,A⟩,J⟩,K⟩,u⟩,x⟩:=z;have o:(l.drop n).length=l.toArray.size-n:=by simp
 have p:HeadInv .any l.toArray n (Array.replicate l.toArray.size false):=⟨by simp,fun j N _ B=>(by rw[C0]at B;cases B),fun t _ L=>getD_in (by simpa using L) (C0 _ _)⟩;have H:=J5 (P:=P) (S:=S) (md:=.any) (g:=l.toArray.size-n) (tail:=l.drop n) (m:=b.length) k J K A G I (fun f y=>KU rfl b s _ f _ F x y) q r _ a E p u rfl h;refine wp_region_any D ?_;have:=Ih (P:=P) (S:=S) (g:=l.toArray.size-n) (fun listed f w' C=>by have:=wpAny_of_seq (md:=.any) (Q':=Q) (l.drop n) n listed f w' (fun j=>by simp[Dt]) (by rw[o];exact C.1) C.2;rwa [o]at this) _ _ _ _ H;have M:n<l.toArray.size:=A;rw[e,show n+(l.toArray.size-n)=l.toArray.size by omega]at this;exact this
def CV (l:List Oper):List Nat->List Oper
 | []=>[]
 | i::is=>match l[i]? with
  | some o=>o::CV l is
  | none=>CV l is
theorem FS (l:List Oper):∀a:List Nat,(a.all fun i=>decide (i<l.length))=true->a.map (fun i=>l.toArray[i]?)=(CV l a).map some
 | [],_=>rfl
 | i::a,h=>by
  simp only[List.all_cons,AW,BB]at h;have e:l[i]?=some (l[i]'h.1):=AG h.1;have b:l.toArray[i]?=some (l[i]'h.1):=by simp[h.1]
  rw[DO,b,FS l a h.2];simp only[CV,e,DO]
theorem Cd {id:Nat} {a:Act} {w:World} {l:List Oper} (n:Nat) (c e:List Nat) (g:P.follows .mixedOrders=true) (j:Rn .any l.toArray n c e=true) (f:c.length+e.length=n) (b:((c++e).all fun i=>decide (i<l.length))=true) (h:wpQuiet P l.toArray (fun w'=>∃p:Regrown,w'=grow (redrawn w p.d) p.os) (fun k=>IG P l.toArray (fun w'=>∃p:Regrown,w'=grow (redrawn w p.d) p.os) (NoPanic Q) (l.drop n) (CV l e) k w.drew) (CV l c) a) :(Code.region id l.toArray true).wp P Q a w:=by rw[Gj,AW]at b;refine wp_region_noPanic ?_;exact MO (fun w'=>∃p:Regrown,w'=grow (redrawn w p.d) p.os) n c e _ _ g j f (FS l c b.1) (FS l e b.2) (fun _ _ _ _ _ h=>h) ⟨⟨w.drawn+1,#[]⟩,by rw[F_];rfl⟩ h
end
end
section
open Go.RowKit Go.Sort
theorem X1d (Z:List Int) (O:List ByteArray) (A C:Option Addr) (n p c I B s:Nat) (w:World) (r:Reads w B 1 A n (Z.map (Value.int .i64))) (j:Reads w B 1 C p (O.map Value.string)) (D:B<=w.heap.size) (J:s<=maxLen) (K:n<=maxLen) (v:p<=maxLen) (E:∀x∈O,x.size<=maxLen) :Calls Tryz.prog 47 #[.slice A n c,.slice C p I,.int .i64 s] w (C7 (.bool (L9 Z O s)) w):=by
 have F:=r.more D;have t:=j.more D;clear r j;have l1:Z.length=n:=by have:=F.1;simpa using this
 have l2:O.length=p:=by have:=t.1;simpa using this
 unfold maxLen at J K v;rcases Decidable.em (n≠256)with h1|h1
 .have e:L9 Z O s=false:=by unfold L9;rw[l1,DB h1];rfl
  rw[e];go_enter Tryz.func47,Tryz.ntmps47;go_wp2;go_ret;exact⟨rfl,AH _ _⟩
 rcases Decidable.em (p≠256)with h2|h2
 .have e:L9 Z O s=false:=by unfold L9;rw[l2,DB h2];simp
  rw[e];have h1:n=256:=by omega
  subst h1;go_enter Tryz.func47,Tryz.ntmps47;go_wp2;go_ret;exact⟨rfl,AH _ _⟩
 have h1:n=256:=by omega
 have h2:p=256:=by omega
 subst h1;subst h2;go_enter Tryz.func47,Tryz.ntmps47;go_wp2;go_loopw [19] (fun i wr=>∃k:Nat,k<=256/\i=.int .i64 k/\Below w.heap.size w wr/\(List.range k).all (fun b=>Nd (Z.getD b 0) (O.getD b ByteArray.empty) s)=true) (fun i _=>256-(intOf i).toNat)
 case atStart=>exact⟨0,by omega,rfl,AH _ _,rfl⟩
 case round=>
  obtain⟨k,R,rfl,f,y⟩:=hrel;have L:=f.size;by_cases m:k<256
  .have M:(0:Int)<=(k:Int):=by omega
   have N:(k:Int)<(256:Int):=by omega
   obtain⟨g,o,rfl,P,S⟩:=C6 (d:=0) (F.below f) k m;obtain⟨T,U,rfl,G,d0⟩:=C6 (d:=ByteArray.empty) (t.below f) k m;have l:Nd (Z.getD k 0) (O.getD k ByteArray.empty) s=false->L9 Z O s=false:=fun h=>by unfold L9;rw[Lx m h,Bool.and_false]
   have a:Nd (Z.getD k 0) (O.getD k ByteArray.empty) s=true->(List.range (k+1)).all (fun b=>Nd (Z.getD b 0) (O.getD b ByteArray.empty) s)=true:=fun h=>by rw[Dj,Gj,y];simpa using h
   have V:(O.getD k ByteArray.empty).size<=9223372036854775807:=by have:=E (O.getD k ByteArray.empty) (by rw[AC,AG (by omega)];exact CI _);unfold maxLen at this;omega
   generalize Z.getD k 0=z at *;generalize O.getD k ByteArray.empty=q at *;clear y E;have u:=AB l;clear l;have H:=AB a;clear a;by_cases W:z < -1
   .go_wp2;go_ret;refine⟨?_,f⟩;rw[u.out (by unfold Nd;simp;omega)];rfl
   by_cases a2:(s:Int)<=z
   .go_wp2;go_ret;refine⟨?_,f⟩;rw[u.out (by unfold Nd;simp;omega)];rfl
   by_cases a3:(4096:Int)<(q.size:Int)
   .go_wp2;go_ret;refine⟨?_,f⟩;rw[u.out (by unfold Nd;simp;omega)];rfl
   by_cases a4:z=-1
   .by_cases a5:q=ByteArray.empty
    .subst a4
     subst a5;go_wp2;go_roundw
     case rel=>exact⟨k+1,by omega,by go_num,f,H.out (by unfold Nd;simp;omega)⟩
     case measure=>simp[intOf];omega
    .subst a4
     have X:q.toList.isEmpty=false:=by rw[DT,<-D5];intro h;exact a5 (FU (Array.toList_eq_nil_iff.1 (List.isEmpty_iff.1 h)))
     go_wp2;go_ret;refine⟨?_,f⟩;rw[u.out (by unfold Nd;simp;intro _ _ h;exact a5 (by simpa using h))];rfl
   .go_wp2
    go_roundw
    case rel=>exact⟨k+1,by omega,by go_num,f,H.out (by unfold Nd;simp;omega)⟩
    case measure=>simp[intOf];omega
  .have e:k=256:=by omega
   subst e;have Q:L9 Z O s=true:=by unfold L9;rw[l1,l2,y];rfl
   go_wp2;go_ret;refine⟨?_,f⟩;rw[Q];rfl
end
section
open Go.RowKit Go.Sort
def VT (q:SeqM) (n s:Nat):Bool:=decide ((q.tail.getD s ByteArray.empty).size<=4096) && (q.ends.getD s false || decide ((q.tail.getD s ByteArray.empty).size=0)) && L9 (q.next.getD s []) (q.outs.getD s []) n
def Gp (q:SeqM):Bool:=
 decide (q.next.length<=1024) && decide (q.outs.length=q.next.length) && decide (q.ends.length=q.next.length) && decide (q.tail.length=q.next.length) && decide (q.front.size<=4096) &&
  (decide (q.next.length≠0) || decide (q.front.size=0)) && (List.range q.next.length).all (VT q q.next.length)
theorem Y8 {q:SeqM} (h:¬(q.next.length<=1024/\q.outs.length=q.next.length/\q.ends.length=q.next.length/\q.tail.length=q.next.length/\q.front.size<=4096/\(q.next.length≠0\/q.front.size=0))):O1 (Gp q)=1:=by
 have:Gp q=false:=by rw[<-D5];intro h2;apply h;unfold Gp at h2;simp only[AW,DJ,BB]at h2;exact⟨h2.1.1.1.1.1.1,h2.1.1.1.1.1.2,h2.1.1.1.1.2,h2.1.1.1.2,h2.1.1.2,h2.1.2⟩
 rw[this];rfl
theorem Y9 {q:SeqM} {k:Nat} (a:k<q.next.length) (h:VT q q.next.length k=false):O1 (Gp q)=1:=by
 have:Gp q=false:=by unfold Gp;rw[Lx a h,Bool.and_false]
 rw[this];rfl
theorem Ii (q:SeqM) (v:Value) (B:Nat) (w:World) (HS:GC w B q v) (V:B<=w.heap.size) :Calls Tryz.prog 18 #[v] w (C7 (.int .i64 (O1 (Gp q))) w):=by
 obtain⟨A1,c1,A2,c2,A3,c3,A4,c4,rfl,hf,l1,l2,l3,l4,m1,m2,m3,m4,R1,hz,R2,hs,R3,R4,ht⟩:=HS;have y:=AB (@Y8 q);have z:=AB (fun k=>@Y9 q k)
 have I:(q.next.length<=1024/\q.outs.length=q.next.length/\q.ends.length=q.next.length/\q.tail.length=q.next.length/\q.front.size<=4096/\(q.next.length≠0\/q.front.size=0))->(List.range q.next.length).all (VT q q.next.length)=true->O1 (Gp q)=0:=by
  rintro⟨h1,h2,h3,h4,h5,h6⟩ h7;have:Gp q=true:=by unfold Gp;simp only[AW,DJ,BB];exact⟨⟨⟨⟨⟨⟨h1,h2⟩,h3⟩,h4⟩,h5⟩,h6⟩,h7⟩
  rw[this];rfl
 have A:=AB I;clear I;unfold maxLen at *;rcases Decidable.em (¬(q.next.length<=1024/\q.outs.length=q.next.length/\q.ends.length=q.next.length/\q.tail.length=q.next.length/\q.front.size<=4096/\(q.next.length≠0\/q.front.size=0)))with h|h
 .generalize O1 (Gp q)=r at *
  have c:r=1:=y.out h;subst c;clear y z A;generalize q.next.length=n1 at *;generalize q.outs.length=n2 at *;generalize q.ends.length=n3 at *;generalize q.tail.length=n4 at *;go_enter Tryz.func18,Tryz.ntmps18;by_cases d1:1024<n1
  .go_wp2;go_ret;exact⟨rfl,(AH _ _).alloc (AD _) _⟩
  by_cases d2:n2=n1
  .subst d2
   by_cases d3:n3=n2
   .subst d3
    by_cases d4:n4=n3
    .subst d4
     by_cases d5:4096<q.front.size
     .go_wp2;go_ret;exact⟨rfl,(AH _ _).alloc (AD _) _⟩
     .have d6:n4=0:=by omega
      have d7:q.front.toList.isEmpty=false:=by rw[DT,<-D5];intro h2;have:=Array.toList_eq_nil_iff.1 (List.isEmpty_iff.1 h2);exact h ⟨by omega,rfl,rfl,rfl,by omega,.inr (by show q.front.data.size=0;rw[this];rfl)⟩
      subst d6;clear h;go_wp2;go_ret;exact⟨rfl,(AH _ _).alloc (AD _) _⟩
    .have e4:((n4:Int) != (n3:Int))=true:=by simp;omega
     go_wp2;go_ret;exact⟨rfl,(AH _ _).alloc (AD _) _⟩
   .go_wp2;go_ret;exact⟨rfl,(AH _ _).alloc (AD _) _⟩
  .go_wp2;go_ret;exact⟨rfl,(AH _ _).alloc (AD _) _⟩
 .have h':=Decidable.not_not.1 h
  clear h y;have f:=AB (fun h7=>A.out h' h7);clear A;obtain⟨h1,h2,h3,h4,h5,h6⟩:=h';have J:=R1.more V;have C:=R2.more V;have D:=R3.more V;have E:=R4.more V;clear R1 R2 R3 R4;have H:=AB h6;clear h6;generalize hn:q.next.length=n at *;rw[h2]at C l2 ⊢;rw[h3]at D l3 ⊢;rw[h4]at E l4 ⊢;go_enter Tryz.func18,Tryz.ntmps18;by_cases e0:n=0
  .subst e0
   have hq:q.front=ByteArray.empty:=FU (Array.eq_empty_of_size_eq_zero (by have:=H.out;simpa using this));rw[hq];have c:O1 (Gp q)=0:=f.out rfl;rw[c];clear f z;go_wp2;go_loopw [45] (fun i wr=>i=.int .i64 0/\Below w.heap.size w wr) (fun i _=>0-(intOf i).toNat)
   case atStart=>exact⟨rfl,(AH _ _).alloc (AD _) _⟩
   case round=>obtain⟨rfl,g⟩:=hrel;go_wp2;go_ret;exact⟨rfl,g⟩
  .have e1:((n:Int)==0)=false:=by simp;omega
   go_wp2;go_loopw [45] (fun i wr=>∃k:Nat,k<=n/\i=.int .i64 k/\Below w.heap.size w wr/\BL wr w.heap.size 27 #[.string q.front,.slice A1 n c1,.slice A2 n c2,.slice A3 n c3,.slice A4 n c4]/\w.heap.size<wr.heap.size/\(List.range k).all (VT q n)=true) (fun i _=>n-(intOf i).toNat)
   case atStart=>exact⟨0,by omega,rfl,(AH _ _).alloc (AD _) _,BL.new _ _ _,by simp,rfl⟩
   case round=>
    obtain⟨k,hk,rfl,g,G,p,X⟩:=hrel;by_cases j:k<n
    .have ae:(0:Int)<=(k:Int):=by omega
     have af:(k:Int)<(n:Int):=by omega
     have b1:wr.cell? ⟨w.heap.size,1,none⟩=some (.slice A1 n c1):=G.cell 1;have b2:wr.cell? ⟨w.heap.size,2,none⟩=some (.slice A2 n c2):=G.cell 2;have b3:wr.cell? ⟨w.heap.size,3,none⟩=some (.slice A3 n c3):=G.cell 3;have b4:wr.cell? ⟨w.heap.size,4,none⟩=some (.slice A4 n c4):=G.cell 4;obtain⟨g4,o4,rfl,ag,d4⟩:=C6 (d:=ByteArray.empty) (E.below g) k j;obtain⟨g3,o3,rfl,ah,d3⟩:=C6 (d:=false) (D.below g) k j;obtain⟨g1,o1,K,L,rfl,ai,d1,Y,y1,z1⟩:=(J.below g).at_ k j;obtain⟨g2,o2,M,N,rfl,aj,d2,Z,y2,z2⟩:=(C.below g).at_ k j;have hq:(q.tail.getD k ByteArray.empty).size<=9223372036854775807:=by have:=ht (q.tail.getD k ByteArray.empty) (by rw[AC,AG (by omega)];exact CI _);omega
     have t:VT q n k=false->O1 (Gp q)=1:=fun h=>z.out k j h
     have Hb:=AB t;clear t;have O:VT q n k=(decide ((q.tail.getD k ByteArray.empty).size<=4096) && (q.ends.getD k false || decide ((q.tail.getD k ByteArray.empty).size=0)) && L9 (q.next.getD k []) (q.outs.getD k []) n):=rfl;generalize q.tail.getD k ByteArray.empty=tl at *;generalize q.ends.getD k false=en at *;have l:=AB O;clear O;by_cases a1:(4096:Int)<(tl.size:Int)
     .have c:O1 (Gp q)=1:=Hb.out (by rw[l.out];simp;omega);clear X;go_wp2;go_ret;refine⟨?_,g⟩;rw[c];rfl
     .have a:∀W,Below wr.heap.size wr W->Calls Tryz.prog 47 #[.slice K ((q.next.map fun r=>r.map (Value.int .i64)).getD k []).length L,.slice M ((q.outs.map fun r=>r.map Value.string).getD k []).length N,.int .i64 n] W (C7 (.bool (L9 (q.next.getD k []) (q.outs.getD k []) n)) W):=fun W hb=>by
        have e1:(q.next.map fun r=>r.map (Value.int .i64)).getD k []=(q.next.getD k []).map (Value.int .i64):=by rw[AC,AC,Ag];cases q.next[k]?<;>rfl
        have e2:(q.outs.map fun r=>r.map Value.string).getD k []=(q.outs.getD k []).map Value.string:=by rw[AC,AC,Ag];cases q.outs[k]?<;>rfl
        rw[e1]at Y y1;rw[e2]at Z y2;rw[e1,e2];simp only[A6]at Y Z y1 y2 ⊢;refine X1d _ _ K M _ _ L N w.heap.size n W (Y.below (hb.mono (by omega))) (Z.below (hb.mono (by omega))) (by have:=hb.size;omega) (by unfold maxLen;omega) (AK y1 z1) (AK y2 z2) ?_;intro s aa;have:(q.outs.getD k [])∈q.outs:=by rw[AC,AG (by omega)];exact CI _
        have:=hs _ this s aa;unfold maxLen;omega
      generalize ab:((q.next.map fun r=>r.map (Value.int .i64)).getD k []).length=ak at *;generalize ac:((q.outs.map fun r=>r.map Value.string).getD k []).length=al at *;generalize L9 (q.next.getD k []) (q.outs.getD k []) n=rb at *;clear hs ht hz J C D E Y Z ab ac;have F:=AB (fun(h:VT q n k=true)=>show(List.range (k+1)).all (VT q n)=true by rw[Dj,Gj,X];simpa using h);clear X;by_cases a2:en=false/\tl≠ByteArray.empty
      .obtain ⟨rfl,a3⟩:=a2
       have a4:tl.toList.isEmpty=false:=by rw[DT,<-D5];intro h;exact a3 (FU (Array.toList_eq_nil_iff.1 (List.isEmpty_iff.1 h)))
       have c:O1 (Gp q)=1:=Hb.out (by
        rw[l.out];have:tl.size≠0:=fun h=>a3 (FU (Array.eq_empty_of_size_eq_zero h))
        simp[this])
       have Hr:=AB c;clear c a;go_wp2;go_ret;refine⟨?_,g⟩;rw[Hr.out];rfl
      .have P:=AF b1
       have Q:=AF b2;have R:=AF d1;have S:=AF d2
       have u:VT q n k=rb:=by
        rw[l.out];have h1:decide (tl.size<=4096)=true:=DK (by omega);rw[h1];rcases Bool.eq_false_or_eq_true en with h2|h2
        .rw [h2];rfl
        .have:tl=ByteArray.empty:=DC fun h=>a2 ⟨h2,h⟩
         rw[this,h2];rfl
       have x:=AB u;clear u
       have m:en=true\/(en=false/\tl=ByteArray.empty):=by
        rcases Bool.eq_false_or_eq_true en with h2|h2
        .exact .inl h2
        .exact .inr ⟨h2,DC fun h=>a2 ⟨h2,h⟩⟩
       clear a2;have ad:=AB l.out;clear l;rcases rb with _|_
       .have c:=AB (Hb.out x.out)
        rcases m with rfl|⟨rfl,rfl⟩
        all_goals
         go_wp2;refine Au (by kernel_rfl) (by kernel_rfl) ?_
         repeat (go_big_quiet_step ((go_at_call 47;exact DY (a _ (DN _ _ _)))))
         refine Ah ?_;intro w5 o;have b:=Bu o;have L5:=g.trans (b.mono (by omega));have T:=G.below b (by omega);have U:w.heap.size<w5.heap.size:=Aj p b.size;clear o a P Q R S b1 b2 b3 b4 d1 d2 d3 d4;go_wp2;go_ret;refine⟨?_,L5⟩;rw[c.out];rfl
       .have c:=AB (F.out x.out)
        rcases m with rfl|⟨rfl,rfl⟩
        all_goals
         go_wp2;refine Au (by kernel_rfl) (by kernel_rfl) ?_
         repeat (go_big_quiet_step ((go_at_call 47;exact DY (a _ (DN _ _ _)))))
         refine Ah ?_;intro w5 o;have b:=Bu o;have L5:=g.trans (b.mono (by omega));have T:=G.below b (by omega);have U:w.heap.size<w5.heap.size:=Aj p b.size;clear o a P Q R S b1 b2 b3 b4 d1 d2 d3 d4;go_wp2;go_roundw
         case rel=>exact⟨k+1,by omega,by go_num,L5,T,U,c.out⟩
         case measure=>simp[intOf];omega
    .have e:k=n:=by omega
     subst e;have c:O1 (Gp q)=0:=f.out X;go_wp2;go_ret;refine⟨?_,g⟩;rw[c];rfl
end
section
open Go.Maps (Keyed)
theorem QP:laidOutB Tryz.prog=true:=by kernel_rfl
theorem Sy:(54:TypeId)<Tryz.prog.types.size:=of_decide_eq_true (by kernel_rfl)
end
section
def FA (l:List Ar) (k s:Nat):List Ar:=(l.take k).filter fun a=>decide (a.fr=(s:Int))
end
section
open Go.RowKit Go.Sort
theorem T7 (w:World) (m:Nat->Bool) (T:TypeId) (i:Nat) (h:i<4) :(w.alloc (.cells #[.int .u64 ((word m 0:Nat):Int),.int .u64 ((word m 1:Nat):Int),.int .u64 ((word m 2:Nat):Int),.int .u64 ((word m 3:Nat):Int)] T)).cell? ⟨w.heap.size,i,none⟩=some (.int .u64 ((word m i:Nat):Int)):=by
 rw[(BL.new w T _).cell i]
 match i,h with
 | 0,_=>rfl
 | 1,_=>rfl
 | 2,_=>rfl
 | 3,_=>rfl
theorem X1g (m:Nat->Bool) (b:Nat) (w:World) (a:b<256) :Calls Tryz.prog 110 #[.agg #[.int .u64 ((word m 0:Nat):Int),.int .u64 ((word m 1:Nat):Int),.int .u64 ((word m 2:Nat):Int),.int .u64 ((word m 3:Nat):Int)],.int .u8 b] w (C7 (.bool (m b)) w):=by have c:=T7 w m 58 (b / 64) (by omega);go_enter Tryz.func110,Tryz.ntmps110;go_wp2;go_ret;refine⟨?_,(AH _ _).alloc (AD _) _⟩;simp[Yq]
theorem Pa (w:World) (m:Nat->Bool) (T:TypeId):BL (w.alloc (.cells #[.int .u64 ((word m 0:Nat):Int),.int .u64 ((word m 1:Nat):Int),.int .u64 ((word m 2:Nat):Int),.int .u64 ((word m 3:Nat):Int)] T)) w.heap.size T (Es m):=BL.new w T _
theorem BL.cells4 {w:World} {B:Nat} {T:TypeId} {m:Nat->Bool} (h:BL w B T (Es m)) :w.cell? ⟨B,0,none⟩=some (.int .u64 ((word m 0:Nat):Int))/\w.cell? ⟨B,1,none⟩=some (.int .u64 ((word m 1:Nat):Int))/\w.cell? ⟨B,2,none⟩=some (.int .u64 ((word m 2:Nat):Int))/\w.cell? ⟨B,3,none⟩=some (.int .u64 ((word m 3:Nat):Int)):=⟨h.cell 0,h.cell 1,h.cell 2,h.cell 3⟩
theorem BL.cellAt {w:World} {B:Nat} {T:TypeId} {m:Nat->Bool} (h:BL w B T (Es m)) (k:Nat) (a:k<4) :w.cell? ⟨B,k,none⟩=some (.int .u64 ((word m k:Nat):Int)):=(h.cell k).trans (VE m k a)
theorem ZE (m n:Nat->Bool) (w:World) :Calls Tryz.prog 58 #[.agg #[.int .u64 ((word m 0:Nat):Int),.int .u64 ((word m 1:Nat):Int),.int .u64 ((word m 2:Nat):Int),.int .u64 ((word m 3:Nat):Int)],.agg #[.int .u64 ((word n 0:Nat):Int),.int .u64 ((word n 1:Nat):Int),.int .u64 ((word n 2:Nat):Int),.int .u64 ((word n 3:Nat):Int)]] w (C7 (.agg #[.int .u64 ((word ((JW m n)) 0:Nat):Int),.int .u64 ((word ((JW m n)) 1:Nat):Int),.int .u64 ((word ((JW m n)) 2:Nat):Int),.int .u64 ((word ((JW m n)) 3:Nat):Int)]) w):=by
 go_enter Tryz.func58,Tryz.ntmps58;go_wp2;go_loopw [5,6] (fun _ i wr=>∃k:Nat,k<=4/\i=.int .i64 k/\BL wr w.heap.size 58 (Es (Pw (JW m n) m k))/\BL wr (w.heap.size+1) 58 (Es n) /\BL wr (w.heap.size+1+1) 58 #[.int .u64 0,.int .u64 0,.int .u64 0,.int .u64 0]/\Below w.heap.size w wr) (fun _ i _=>4-(intOf i).toNat)
 case atStart=>
  refine⟨0,by omega,rfl,?_,?_,?_,((((AH _ _).alloc (AD _) _).alloc (by simp) _).alloc (by simp;omega) _)⟩
  .have:=((Pa w m 58).alloc (.cells (Es n) 58)).alloc (.cells #[.int .u64 0,.int .u64 0,.int .u64 0,.int .u64 0] 58);rw[Nv (m:=Pw (JW m n) m 0) (m':=m) (fun i _=>RF _ _ i)];exact this
  .have:=(BL.new (w.alloc (.cells (Es m) 58)) 58 (Es n)).alloc (.cells #[.int .u64 0,.int .u64 0,.int .u64 0,.int .u64 0] 58);simp only[Ad]at this;exact this
  .have:=BL.new ((w.alloc (.cells (Es m) 58)).alloc (.cells (Es n) 58)) 58 #[.int .u64 0,.int .u64 0,.int .u64 0,.int .u64 0];simp only[Ad]at this;exact this
 case round=>
  obtain⟨k,o,rfl,b,d,a,f⟩:=hrel;by_cases c:k<4
  .have g:=b.cellAt k c
   have f0:=b.frozen k;have j:=d.cellAt k c;rw[KO _ _ _ _ (AD _)]at g;have l:=RW m n k;go_wp2
   go_region
   go_wp2;go_roundw
   case rel=>refine⟨k+1,by omega,by go_num,?_,(d.far (p:=⟨w.heap.size,k,none⟩) (by simp) _).drew,(a.far (p:=⟨w.heap.size,k,none⟩) (by simp;omega) _).drew,(f.setCell (p:=⟨w.heap.size,k,none⟩) (AD _) _).drew⟩;rw[<-VF _ _ _ c];exact(b.set_ k _).drew
   case measure=>simp[intOf];omega
  .have e:k=4:=by omega
   subst e;rw[Nv (m:=Pw (JW m n) m 4) (m':=JW m n) (fun i h=>KN _ _ _ i h)]at b;obtain⟨g,j,q,r⟩:=b.cells4;have g0:=a.cell 0;have g1:=a.cell 1;have g2:=a.cell 2;have g3:=a.cell 3;have f0:=a.frozen 0;have f1:=a.frozen 1;have f2:=a.frozen 2;have f3:=a.frozen 3;simp at g0 g1 g2 g3;go_wp2
   exact AQ (v:=.agg #[.int .u64 ((word ((JW m n)) 0:Nat):Int),.int .u64 ((word ((JW m n)) 1:Nat):Int),.int .u64 ((word ((JW m n)) 2:Nat):Int),.int .u64 ((word ((JW m n)) 3:Nat):Int)]) (by simp[results,Tryz.results58,go_sem,g0,g1,g2,g3]) rfl
    ⟨rfl,(((f.setCell (p:=⟨w.heap.size+1+1,0,none⟩) (by simp;omega) _).setCell (p:=⟨w.heap.size+1+1,1,none⟩) (by simp;omega) _).setCell (p:=⟨w.heap.size+1+1,2,none⟩) (by simp;omega) _).setCell (p:=⟨w.heap.size+1+1,3,none⟩) (by simp;omega) _⟩
end
section
open Go.Maps (Keyed)
def Seen {α:Type} (T:TypeId) (enc:α->List Value) (ok:α->Prop) (w:World) (b:Nat) (l:List α):Prop:=∃n,∃D:DataW Unit,w.ownsMap Tryz.prog T unitElem b n D/\n<=l.length/\Maps.IsMap D/\∀q,ok q->∀kl,keyOf Tryz.prog T (.agg (enc q).toArray)=some kl->(Maps.has D kl=true↔q∈l)
section
variable {α:Type} {T:TypeId} {enc:α->List Value} {ok:α->Prop} {w w':World} {b:Nat} {l:List α}
theorem Seen.made (w:World):Seen T enc ok (w.alloc (.map #[] 0)) w.heap.size []:=⟨0,_,World.ownsMap_made w Tryz.prog T unitElem,AD _,Maps.isMap_empty,fun q _ a _=>by simp[Maps.has]⟩
theorem Seen.kept {row:Option Nat} (h:Seen T enc ok w b l) (c:w.grownBy w' row) (a:some b≠row):Seen T enc ok w' b l:=by obtain⟨n,D,h1,h2,h3,h4⟩:=h;exact⟨n,D,h1.kept c a,h2,h3,h4⟩
theorem Seen.below {B:Nat} (h:Seen T enc ok w b l) (a:RowKit.Below B w w') (c:w.heap.size<=B):Seen T enc ok w' b l:=by have d:=a.size;refine h.kept (row:=none) ⟨a.os,a.tape,a.output,a.size,fun k e _=>a.block k (by omega)⟩ (by simp)
end
end
section
open Go.RowKit
theorem St.word_m (s:St) (h:OU s):s.a=word s.m 0/\s.b=word s.m 1/\s.c=word s.m 2/\s.d=word s.m 3:=by
 obtain⟨h1,h2,h3,h4⟩:=h;have f:∀i k,k<64->s.m (64*i+k)=(s.w i).testBit k:=fun i k e=>by unfold St.m;rw[show(64*i+k) / 64=i by omega,show(64*i+k)%64=k by omega]
 exact⟨(Jc _ h1 _ 0 (fun k e=>f 0 k e)).symm,(Jc _ h2 _ 1 (fun k e=>f 1 k e)).symm,(Jc _ h3 _ 2 (fun k e=>f 2 k e)).symm,(Jc _ h4 _ 3 (fun k e=>f 3 k e)).symm⟩
theorem MQ (s:St) (h:OU s) (b:Nat) (w:World) (e:b<256) :Calls Tryz.prog 110 #[.agg #[.int .u64 (s.a:Int),.int .u64 (s.b:Int),.int .u64 (s.c:Int),.int .u64 (s.d:Int)],.int .u8 b] w (C7 (.bool (s.m b)) w):=by obtain⟨f,g,i,j⟩:=St.word_m s h;have:=X1g s.m b w e;rw[<-f,<-g,<-i,<-j]at this;exact this
end
section
open Go.RowKit
theorem T5:(Tryz.prog.info? 83).map (·.size)=some 2:=by kernel_rfl
theorem Y_:liesAt Tryz.prog Tryz.prog.depth 83 (2 / Tryz.prog.cellsOf 83) 0 83 1=true:=by kernel_rfl
theorem M5:(Tryz.prog.info? 5).map (fun i=>(i.zero,i.size,i.bytes))=some (some (.int .u8 0),1,1):=by kernel_rfl
theorem PR (b:Nat) (w:World) (h0:w.cell? ⟨b,0,none⟩=some (.pointer none)) (a:w.shape? b=some (83,2)) (f:w.frozen? ⟨b,0,none⟩=false) :Calls Tryz.prog 65 #[.pointer (some ⟨b,0,none⟩)] w fun e w'=>e=.returned (.tuple #[])/\w'=w.setCell ⟨b,0,none⟩ (.pointer (some ⟨b,0,none⟩)):=by obtain⟨j,d,c⟩:=CU.1 T5;go_enter Tryz.func65,Tryz.ntmps65;go_wp2;rw[Lib.run_to_unsafe w ⟨b,0,none⟩ Tryz.underlying80 Tryz.underlying183 d (by rw[c];decide) a (Nat.zero_lt_succ 1)];simp only[Result.andThen];rw[Oper.upon_value];go_wp2;rw[run_callFunc_extern Tryz.func99 (by kernel_rfl) (by kernel_rfl) (by kernel_rfl) (e:=Extern.AbiNoEscape.same) (by kernel_rfl)];rw[Lib.run_noEscape];simp only[Result.andThen];rw[Oper.upon_value];go_wp2;rw[Lib.run_from_unsafe w ⟨b,0,none⟩ Tryz.underlying183 Tryz.underlying80 d a Y_];simp only[Result.andThen];rw[Oper.upon_value];go_wp2;go_end0;exact⟨rfl,rfl⟩
theorem QM (b:Nat) (w:World) (h0:w.cell? ⟨b,0,none⟩=some (.pointer (some ⟨b,0,none⟩))) :Calls Tryz.prog 65 #[.pointer (some ⟨b,0,none⟩)] w fun e w'=>e=.returned (.tuple #[])/\w'=w:=by obtain⟨j,a,c⟩:=CU.1 T5;have d:=Lib.run_neq_ptr_same w (P:=Tryz.prog) ⟨b,0,none⟩ Tryz.underlying80 a;go_enter Tryz.func65,Tryz.ntmps65;go_wp2;go_end0;exact⟨rfl,rfl⟩
abbrev Oe (B b:Nat) (bs:List Value) (w:World):Prop:=Lib.IsBuilderF 83 5 B b bs w
theorem NY (B b:Nat) (bs:List Value) (w:World) (h:Oe B b bs w) :Calls Tryz.prog 65 #[.pointer (some ⟨b,0,none⟩)] w fun e w'=>e=.returned (.tuple #[])/\(Lib.BuilderAtF 83 5 B b (.pointer (some ⟨b,0,none⟩)) bs w'/\Below B w w'/\Lib.OthersKept 5 (some b) w w'):=by
 rcases h with h|h
 .refine (PR b w h.cell0 h.shape h.frozen0).mono ?_;rintro e w' ⟨rfl,rfl⟩;exact⟨rfl,h.used _,(AH B w).setCell (p:=⟨b,0,none⟩) h.1 _,(Lib.OthersKept.refl _ _ w).setCell ⟨b,0,none⟩ rfl _⟩
 .refine (QM b w h.cell0).mono ?_;rintro e w' ⟨rfl,rfl⟩;exact⟨rfl,h,AH B _,Lib.OthersKept.refl _ _ _⟩
theorem JD (B b:Nat) (bs:List Value) (c:Int) (w:World) (h:Oe B b bs w) (C:bs.length+1<=140737488355328) (F:B<=w.heap.size) :Calls Tryz.prog 104 #[.pointer (some ⟨b,0,none⟩),.int .u8 c] w fun e w'=>e=.returned .nilIface/\(Oe B b (bs++[.int .u8 c]) w'/\Below B w w'/\Lib.OthersKept 5 (some b) w w'):=by
 obtain⟨i0,hi,r,s,t⟩:=BK M5;go_enter Tryz.func104,Tryz.ntmps104
 go_wp2_with (go_at_call 65;refine(NY B b bs _ h).mono ?_)
 rintro e n ⟨rfl,h1,i,x⟩;obtain⟨D,v,l,d,y⟩:=h1;have J:n.cell? ⟨b,0,none⟩=some (.pointer (some ⟨b,0,none⟩)):=by rw[E0 l];rfl
 have c1:n.cell? ⟨b,1,none⟩=some v:=by rw[E0 l];rfl
 go_wp2_with (at_builtin;refine wpList_append_ownF _ rfl _ _ 81 rfl B 5 i0 (.int .u8 0) 1 1 Tryz.underlying81 hi r s t rfl (by decide) _ _ _ rfl (d.alloc _) ⟨n.heap.size,0,none⟩ 1 1 [.int .u8 c] rfl rfl ?c1 ?c2 ?c3 ?c4 ?c5 ?_)
 case c1=>
  intro j u o
  match j,o with
  | 0,o=>simp at o;subst o;simp[Addr.add]
 case c2=>intro u E;simp at E;subst E;rfl
 case c3=>unfold maxLen;omega
 case c4=>omega
 case c5=>have:=i.size;simp;omega
 intro v' q f a _
 have z:b<n.heap.size:=by
  rcases BF b n.heap.size with A|A
  .exact A
  .simp [Cn A]at l
 have m:q.heap[b]?=some (.cells #[.pointer (some ⟨b,0,none⟩),v] 83 (0,0)):=by rw[a.block b (by simp;omega) (fun e=>y e.symm),Lib.alloc_old n _ b z];exact l
 have d0:q.cell? ⟨b,0,none⟩=some (.pointer (some ⟨b,0,none⟩)):=by rw[E0 m];rfl
 have d1:q.cell? ⟨b,1,none⟩=some v:=by rw[E0 m];rfl
 have f1:q.frozen? ⟨b,1,none⟩=false:=Lib.frozen_of_heap m 1
 obtain⟨g,cap,rfl⟩:∃g cap,v'=.slice (some ⟨g,0,none⟩) (bs.length+1) cap:=by
  rcases f.2 with⟨_,h0⟩|⟨g,cap,G,K,H,_⟩
  .omega
  .exact ⟨g,cap,H⟩
 go_wp2;go_ret;refine⟨rfl,.inr ?_,?_,((x.alloc _).grown a (Lib.ownsRowF_kind (d.alloc _))).setCell ⟨b,1,none⟩ rfl _⟩
 .exact Lib.BuilderAtF.put (T:=83) (e:=5) D m (bs':=bs++[.int .u8 c]) (by simpa using f) (by decide)
 .exact ((i.alloc (by have:=i.size;omega) _).grown a (by have:=i.size;simp;omega) (fun k I=>(d.lt k I).1)).setCell (p:=⟨b,1,none⟩) D _
theorem EF (B b:Nat) (bs:List Value) (s:ByteArray) (w:World) (h:Oe B b bs w) (z:bs.length+s.size<=140737488355328) (E:B<=w.heap.size) :Calls Tryz.prog 29 #[.pointer (some ⟨b,0,none⟩),.string s] w fun e w'=>e=.returned (.tuple #[.int .i64 s.size,.nilIface])/\(Oe B b (bs++Lib.strCells s) w'/\Below B w w'/\Lib.OthersKept 5 (some b) w w'):=by
 obtain⟨i0,hi,n,o,q⟩:=BK M5;go_enter Tryz.func29,Tryz.ntmps29
 go_wp2_with (go_at_call 65;refine(NY B b bs _ h).mono ?_)
 rintro e l ⟨rfl,h1,j,r⟩;obtain⟨A,v,f,c,t⟩:=h1;have H:l.cell? ⟨b,0,none⟩=some (.pointer (some ⟨b,0,none⟩)):=by rw[E0 f];rfl
 have I:l.cell? ⟨b,1,none⟩=some v:=by rw[E0 f];rfl
 go_wp2_with (at_builtin;refine Lib.wpList_append_own_stringF _ rfl _ _ 81 9 rfl B 5 i0 Tryz.underlying81 Tryz.underlying9 hi n o q _ _ _ rfl c s rfl ?c3 ?c4 ?c5 ?_)
 case c3=>unfold maxLen;omega
 case c4=>omega
 case c5=>have:=j.size;omega
 intro v' m d a _
 have u:b<l.heap.size:=by
  rcases BF b l.heap.size with x|x
  .exact x
  .simp [Cn x]at f
 have i:m.heap[b]?=some (.cells #[.pointer (some ⟨b,0,none⟩),v] 83 (0,0)):=by rw[a.block b u (fun e=>t e.symm)];exact f
 have d0:m.cell? ⟨b,0,none⟩=some (.pointer (some ⟨b,0,none⟩)):=by rw[E0 i];rfl
 have d1:m.cell? ⟨b,1,none⟩=some v:=by rw[E0 i];rfl
 have f1:m.frozen? ⟨b,1,none⟩=false:=Lib.frozen_of_heap i 1
 obtain⟨C,D,cap,rfl⟩:∃C D cap,v'=.slice C D cap:=by
  rcases d.2 with⟨y,_⟩|⟨g,cap,F,J,y,_⟩
  .exact ⟨_,_,_,y⟩
  .exact ⟨_,_,_,y⟩
 go_wp2
 go_ret2
 refine⟨rfl,.inr ?_,?_,(r.grown a (Lib.ownsRowF_kind c)).setCell ⟨b,1,none⟩ rfl _⟩
 .exact Lib.BuilderAtF.put (T:=83) (e:=5) A i (bs':=bs++Lib.strCells s) (by simpa[Lib.strCells_length]using d) (by decide)
 .exact (j.grown a (by have:=j.size;omega) (fun k G=>(c.lt k G).1)).setCell (p:=⟨b,1,none⟩) A _
end
end Go.Proofs.YtcondkihpmmnnaaGreatDoor
