/- Lemmas, part 22 of 50. No condition. -/
import Derived.Test.YtcondkihpmmnnaaGreatDoorTwin21
set_option maxRecDepth 100000
set_option maxHeartbeats 16000000
namespace Go.Proofs.YtcondkihpmmnnaaGreatDoor
section
open Go.RowKit Go.Sort
theorem Qz:∀W:World,(Instr.alloc 61 true (.tuple #[])).run Tryz.prog W=.ok (.pointer (some ⟨W.heap.size,0,none⟩)) (W.alloc (.cells #[.int .i64 0,.int .i64 0,.int .u64 0,.int .u64 0,.int .u64 0,.int .u64 0,.string ⟨#[]⟩,.bool false] 61)):=fun W=>by simp[go_sem]
structure CalInv (w:World) (base:Act) (i1 i2 i3 i4:Nat) (d1 d2 d3 d4:Tmp) (v1 v2 v3:Value) (T:TypeId) (zs:Array Value) (is:List Nat) (a:Act) (W:World):Prop where
 nd:is.Nodup
 sub:∀i∈is,i∈[i1,i2,i3,i4]
 size:a.tmps.size=base.tmps.size
 defers:a.defers=base.defers
 same:∀x,x∉[d1,d2,d3,d4]->a.tmps[x]?=base.tmps[x]?
 bel:Below w.heap.size w W
 m1:i1∉is->a.tmps[d1]?=some v1
 m2:i2∉is->a.tmps[d2]?=some v2
 m3:i3∉is->a.tmps[d3]?=some v3
 m4:i4∉is->∃g,a.tmps[d4]?=some (.pointer (some ⟨g,0,none⟩))/\w.heap.size<=g/\BL W g T zs
section
variable {w:World} {base:Act} {i1 i2 i3 i4:Nat} {d1 d2 d3 d4:Tmp} {v1 v2 v3:Value} {T:TypeId} {zs:Array Value} {is:List Nat} {a:Act} {W W':World}
theorem Io {a:Act} {d:Tmp} (h:d<a.tmps.size) (v:Value):(a.put (some d) v).tmps[d]?=some v:=by show(a.tmps.setIfInBounds d v)[d]?=some v;rw[Gk,AU rfl,AU h]
theorem DM {a:Act} {d x:Tmp} (h:d≠x) (v:Value):(a.put (some d) v).tmps[x]?=a.tmps[x]?:=by show(a.tmps.setIfInBounds d v)[x]?=_;rw[Gk,AP h]
theorem YQ (a:Act) (d:Tmp) (v:Value):(a.put (some d) v).tmps.size=a.tmps.size:=by show(a.tmps.setIfInBounds d v).size=_;rw[GA]
theorem CalInv.step (h:CalInv w base i1 i2 i3 i4 d1 d2 d3 d4 v1 v2 v3 T zs is a W) (G:[d1,d2,d3,d4].Nodup) (J:∀d∈[d1,d2,d3,d4],d<base.tmps.size) (i:Nat) (d:Tmp) (v:Value) (H:Below W.heap.size W W') (n:(i=i1/\d=d1/\v=v1)\/(i=i2/\d=d2/\v=v2)\/(i=i3/\d=d3/\v=v3)\/(i=i4/\d=d4/\∃g,v=.pointer (some ⟨g,0,none⟩)/\w.heap.size<=g/\BL W' g T zs)) (hi:[i1,i2,i3,i4].Nodup) :CalInv w base i1 i2 i3 i4 d1 d2 d3 d4 v1 v2 v3 T zs (is.erase i) (a.put (some d) v) W':=by
 have c:∀j,j≠i->(j∉is.erase i↔j∉is):=fun j b=>by rw[List.mem_erase_of_ne b]
 have o:=h.bel.trans (H.mono h.bel.size);simp only[Dy,Bh,BP,Eg,not_or,List.nodup_nil,and_true,not_false_eq_true]at G hi;obtain⟨⟨p,q,r⟩,⟨s,t⟩,u⟩:=G;obtain⟨⟨y,z,A⟩,⟨B,C⟩,D⟩:=hi;have F:∀{g},BL W g T zs->BL W' g T zs:=fun k=>k.below H k.lt
 have E:d∈[d1,d2,d3,d4]:=by rcases n with⟨_,rfl,_⟩|⟨_,rfl,_⟩|⟨_,rfl,_⟩|⟨_,rfl,_⟩<;>simp
 have f:d<a.tmps.size:=by rw[h.size];exact J d E
 refine⟨h.nd.erase _,fun j b=>h.sub j (Do b),by rw[YQ];exact h.size,h.defers,fun x I=>?_,o,?_,?_,?_,?_⟩
 .rw [DM (fun e=>I (by rw[<-e];exact E))];exact h.same x I
 .intro b
  rcases n with⟨rfl,rfl,rfl⟩|⟨rfl,rfl,rfl⟩|⟨rfl,rfl,rfl⟩|⟨rfl,rfl,_⟩
  .exact Io f _
  .rw [DM (CF p)];exact h.m1 ((c _ y).1 b)
  .rw [DM (CF q)];exact h.m1 ((c _ z).1 b)
  .rw [DM (CF r)];exact h.m1 ((c _ A).1 b)
 .intro b
  rcases n with⟨rfl,rfl,rfl⟩|⟨rfl,rfl,rfl⟩|⟨rfl,rfl,rfl⟩|⟨rfl,rfl,_⟩
  .rw [DM p];exact h.m2 ((c _ (CF y)).1 b)
  .exact Io f _
  .rw [DM (CF s)];exact h.m2 ((c _ B).1 b)
  .rw [DM (CF t)];exact h.m2 ((c _ C).1 b)
 .intro b
  rcases n with⟨rfl,rfl,rfl⟩|⟨rfl,rfl,rfl⟩|⟨rfl,rfl,rfl⟩|⟨rfl,rfl,_⟩
  .rw [DM q];exact h.m3 ((c _ (CF z)).1 b)
  .rw [DM s];exact h.m3 ((c _ (CF B)).1 b)
  .exact Io f _
  .rw [DM (CF u)];exact h.m3 ((c _ D).1 b)
 .intro b
  rcases n with⟨rfl,rfl,rfl⟩|⟨rfl,rfl,rfl⟩|⟨rfl,rfl,rfl⟩|⟨rfl,rfl,g,rfl,l,m⟩
  .obtain ⟨g,e,l,m⟩:=h.m4 ((c _ (CF A)).1 b);exact⟨g,by rw[DM r];exact e,l,F m⟩
  .obtain ⟨g,e,l,m⟩:=h.m4 ((c _ (CF C)).1 b);exact⟨g,by rw[DM t];exact e,l,F m⟩
  .obtain ⟨g,e,l,m⟩:=h.m4 ((c _ (CF D)).1 b);exact⟨g,by rw[DM u];exact e,l,F m⟩
  .exact ⟨g,Io f _,l,m⟩
end
theorem LU {o:Oper} {a:Act} {K:Act->World->Prop} {Q:Exit->Act->World->Prop} {W:World} (T:TypeId) (zs:Array Value) (c:o.op=Op.alloc T) (b:∀W,(Instr.alloc T true (.tuple #[])).run Tryz.prog W=.ok (.pointer (some ⟨W.heap.size,0,none⟩)) (W.alloc (.cells zs T))) (d:K (a.put o.dst (.pointer (some ⟨W.heap.size,0,none⟩))) (W.alloc (.cells zs T))):o.wp Tryz.prog a W K Q:=by unfold Oper.wp;simp[execOp,c,b,Result.andThen];exact d
theorem X0g {o:Oper} {a:Act} {K:Act->World->Prop} {Q:Exit->Act->World->Prop} {W:World} (x y:Tmp) (f:FuncId) (d:Array TypeId) (b:o.op=Op.call { callee:=.value (.func f),args:=#[.tmp x,.tmp y],argTypes:=d }) (g:∀args W,(callFunc f args).run Tryz.prog W=.ok (.enter f args) W) (u1 u2:Value) (h1:a.eval (.tmp x)=u1) (h2:a.eval (.tmp y)=u2) (h:Calls Tryz.prog f #[u1,u2] W fun e W'=>∃v,e=.returned v/\K (a.put o.dst v) W'):o.wp Tryz.prog a W K Q:=by
 have i:a.eval (.func f)=.func (.func f) #[] #[]:=rfl;unfold Oper.wp execOp;simp only[b,resolve,invoke,Fw,FX,DO,EG,h1,h2,i];have c:(Deferred.ofValue (Value.func (Fn.func f) #[] #[]) #[u1,u2]).run Tryz.prog W=.ok { target:=.fn (.func f) #[],args:=#[u1,u2] } W:=by rfl
 rw[c,Ee];simp only[Array.append_empty,g];rw[Oper.upon_enter];refine h.mono ?_;rintro e W' ⟨v,rfl,j⟩;exact j
structure CalGo (w:World) (Q:Exit->Act->World->Prop) (l:List Oper) (n:Nat) (o1 o2 o3:Oper) (d1 d2 d3 d4:Tmp) (v1 v2 v3:Value) (T:TypeId) (zs:Array Value) (base:Act):Prop where
 sz:∀d∈[d1,d2,d3,d4],d<base.tmps.size
 c1:∀act W K,(∀x,x∉[d1,d2,d3,d4]->act.tmps[x]?=base.tmps[x]?)->Below w.heap.size w W->(∀W',Below W.heap.size W W'->K (act.put (some d1) v1) W')->o1.wp Tryz.prog act W K (NoPanic Q)
 c2:∀act W (K:Act->World->Prop),(∀x,x∉[d1,d2,d3,d4]->act.tmps[x]?=base.tmps[x]?)->act.tmps[d1]?=some v1->Below w.heap.size w W->K (act.put (some d2) v2) W->o2.wp Tryz.prog act W K (NoPanic Q)
 c3:∀act W (K:Act->World->Prop),(∀x,x∉[d1,d2,d3,d4]->act.tmps[x]?=base.tmps[x]?)->act.tmps[d2]?=some v2->Below w.heap.size w W->K (act.put (some d3) v3) W->o3.wp Tryz.prog act W K (NoPanic Q)
 fin:∀W g,Below w.heap.size w W->w.heap.size<=g->BL W g T zs->wpList Tryz.prog l.toArray (NoPanic Q) (l.drop n) ((((base.put (some d1) v1).put (some d2) v2).put (some d3) v3).put (some d4) (.pointer (some ⟨g,0,none⟩))) W
theorem YR {id:Nat} {a:Act} {w:World} {l:List Oper} {Q:Exit->Act->World->Prop} (n:Nat) (k:List Nat) (i1 i2 i3 i4:Nat) (e f j m:Oper) (d1 d2 d3 d4:Tmp) (v1 v2 v3:Value) (T:TypeId) (zs:Array Value) (E:Lh .any l.toArray n k [i1,i2,i3,i4] (fun i=>if i=i2 then[i1]else if i=i3 then[i2]else[])=true) (F:Tryz.prog.follows .mixedOrders=true) (o:k.length+4=n) (x:(k.all fun i=>decide (i<l.length))=true) (hi:[i1,i2,i3,i4].Nodup) (u:[d1,d2,d3,d4].Nodup) (y:l.toArray[i1]?=some e) (z:l.toArray[i2]?=some f) (A:l.toArray[i3]?=some j) (B:l.toArray[i4]?=some m) (g1:e.guard=none/\e.dst=some d1) (g2:f.guard=none/\f.dst=some d2) (g3:j.guard=none/\j.dst=some d3) (g4:m.guard=none/\m.dst=some d4/\m.op=Op.alloc T) (q:∀W,(Instr.alloc T true (.tuple #[])).run Tryz.prog W=.ok (.pointer (some ⟨W.heap.size,0,none⟩)) (W.alloc (.cells zs T))) (h:wpQuiet Tryz.prog l.toArray (fun w'=>∃p:Regrown,w'=grow (redrawn w p.d) p.os) (fun r=>∃base,CalGo w.drew Q l n e f j d1 d2 d3 d4 v1 v2 v3 T zs base/\CalInv w.drew base i1 i2 i3 i4 d1 d2 d3 d4 v1 v2 v3 T zs [i1,i2,i3,i4] r w.drew) (CV l k) a) :(Code.region id l.toArray true).wp Tryz.prog Q a w:=by
 have v:∀{W:World},Below w.drew.heap.size w.drew W->∃p:Regrown,W=grow (redrawn w p.d) p.os:=fun c=>A5 ((AH _ w).drew.trans c)
 refine EL n k [i1,i2,i3,i4] (fun i=>if i=i2 then[i1]else if i=i3 then[i2]else[]) F E o x
  (fun is r W=>∃base:Act,CalGo w.drew Q l n e f j d1 d2 d3 d4 v1 v2 v3 T zs base/\CalInv w.drew base i1 i2 i3 i4 d1 d2 d3 d4 v1 v2 v3 T zs is r W) ?step ?fin h
 case step=>
  rintro is r W ⟨base,H,I⟩ i C b;have s:=I.sub i C;simp only[Bh,BP,Eg]at s;have t:=hi;simp only[Dy,Bh,BP,Eg,not_or,List.nodup_nil,and_true,not_false_eq_true]at t;obtain⟨⟨G,J,K⟩,⟨D,L⟩,M⟩:=t;rcases s with rfl|rfl|rfl|rfl
  .exact ⟨e,y,g1.1,H.c1 _ _ _ I.same I.bel fun W' c=>⟨v (I.bel.trans (c.mono I.bel.size)),base,H,I.step u H.sz _ _ _ c (.inl ⟨rfl,rfl,rfl⟩) hi⟩⟩
  .have h1:i1∉is:=b i1 (by simp);exact⟨f,z,g2.1,H.c2 _ _ _ I.same (I.m1 h1) I.bel ⟨v I.bel,base,H,I.step u H.sz _ _ _ (AH _ _) (.inr (.inl ⟨rfl,rfl,rfl⟩)) hi⟩⟩
  .have h2:i2∉is:=b i2 (by simp[CF D]);exact⟨j,A,g3.1,H.c3 _ _ _ I.same (I.m2 h2) I.bel ⟨v I.bel,base,H,I.step u H.sz _ _ _ (AH _ _) (.inr (.inr (.inl ⟨rfl,rfl,rfl⟩))) hi⟩⟩
  .have c:Below W.heap.size W (W.alloc (.cells zs T)):=(AH _ W).alloc (AD _) _;refine⟨m,B,g4.1,LU T zs g4.2.2 q ?_⟩;rw[g4.2.1];exact⟨v (I.bel.trans (c.mono I.bel.size)),base,H,I.step u H.sz _ _ _ c (.inr (.inr (.inr ⟨rfl,rfl,W.heap.size,rfl,I.bel.size,BL.new W _ _⟩))) hi⟩
 case fin=>rintro r W ⟨base,H,I⟩;obtain⟨g,N,O,P⟩:=I.m4 (by simp);rw[Ph I.defers I.size I.same (I.m1 (by simp)) (I.m2 (by simp)) (I.m3 (by simp)) N];exact H.fin W g I.bel O P
theorem YS (a:Act) {d e:Tmp} (h:d≠e) (v u:Value):(a.put (some d) v).put (some e) u=(a.put (some e) u).put (some d) v:=put_comm a h v u
def Al2G (w:World) (Q:Exit->Act->World->Prop) (l:List Oper) (n:Nat) (di dj:Tmp) (T:TypeId) (zs cs:Array Value) (base:Act):Prop:=∀W gx gy,Below w.heap.size w W->gx≠gy->w.heap.size<=gx->w.heap.size<=gy->BL W gx T cs->BL W gy T zs->W.heap.size=w.heap.size+2->wpList Tryz.prog l.toArray (NoPanic Q) (l.drop n) ((base.put (some di) (.pointer (some ⟨gx,0,none⟩))).put (some dj) (.pointer (some ⟨gy,0,none⟩))) W
def Al2S (Q:Exit->Act->World->Prop) (o:Oper) (di dj:Tmp) (T:TypeId) (zs cs:Array Value) (base:Act):Prop:=∀act W (K:Act->World->Prop) gx,(∀x,x∉[di,dj]->act.tmps[x]?=base.tmps[x]?)->act.tmps[di]?=some (.pointer (some ⟨gx,0,none⟩))->BL W gx T zs ->(∀W',W'.heap.size=W.heap.size->Below gx W W'->(∀k,k≠gx->W'.heap[k]?=W.heap[k]?)->BL W' gx T cs->K act W')->o.wp Tryz.prog act W K (NoPanic Q)
def Up (w:World) (Q:Exit->Act->World->Prop) (l:List Oper) (n i j k:Nat) (ok:Oper) (di dj:Tmp) (T:TypeId) (zs cs:Array Value) (is:List Nat) (a:Act) (W:World):Prop:=∃base,Al2G w Q l n di dj T zs cs base/\Al2S Q ok di dj T zs cs base/\(di<base.tmps.size/\dj<base.tmps.size)/\((is=[i,j,k]/\a=base/\W=w.drew)\/(is=[j,k]/\a=base.put (some di) (.pointer (some ⟨w.heap.size,0,none⟩))/\W=w.drew.alloc (.cells zs T)) \/(is=[i,k]/\a=base.put (some dj) (.pointer (some ⟨w.heap.size,0,none⟩))/\W=w.drew.alloc (.cells zs T)) \/(is=[k]/\W=(w.drew.alloc (.cells zs T)).alloc (.cells zs T)/\(a=(base.put (some di) (.pointer (some ⟨w.heap.size,0,none⟩))).put (some dj) (.pointer (some ⟨w.heap.size+1,0,none⟩))\/a=(base.put (some di) (.pointer (some ⟨w.heap.size+1,0,none⟩))).put (some dj) (.pointer (some ⟨w.heap.size,0,none⟩)))) \/(is=[]/\wpList Tryz.prog l.toArray (NoPanic Q) (l.drop n) a W))
theorem Up.start {w:World} {Q:Exit->Act->World->Prop} {l:List Oper} {n i j k:Nat} {ok:Oper} {di dj:Tmp} {T:TypeId} {zs a:Array Value} {base:Act} (b:di<base.tmps.size/\dj<base.tmps.size) (c:Al2S Q ok di dj T zs a base) (h:Al2G w Q l n di dj T zs a base):Up w Q l n i j k ok di dj T zs a [i,j,k] base w.drew:=⟨base,h,c,b,.inl ⟨rfl,rfl,rfl⟩⟩
theorem Lm {id:Nat} {a:Act} {w:World} {l:List Oper} {Q:Exit->Act->World->Prop} (n:Nat) (v:List Nat) (i j k:Nat) (o q ok:Oper) (di dj:Tmp) (T:TypeId) (zs J:Array Value) (Z:Lh .any l.toArray n v [i,j,k] (fun x=>if x=k then[i,j]else[])=true) (hm:Tryz.prog.follows .mixedOrders=true) (z:v.length+3=n) (K:(v.all fun i=>decide (i<l.length))=true) (L:i≠j) (aa:i≠k) (ab:j≠k) (V:di≠dj) (A:l.toArray[i]?=some o) (B:l.toArray[j]?=some q) (M:l.toArray[k]?=some ok) (r:o.guard=none/\o.dst=some di/\o.op=Op.alloc T) (s:q.guard=none/\q.dst=some dj/\q.op=Op.alloc T) (gk:ok.guard=none) (b:∀W,(Instr.alloc T true (.tuple #[])).run Tryz.prog W=.ok (.pointer (some ⟨W.heap.size,0,none⟩)) (W.alloc (.cells zs T))) (h:wpQuiet Tryz.prog l.toArray (fun w'=>∃p:Regrown,w'=grow (redrawn w p.d) p.os) (fun f=>Up w Q l n i j k ok di dj T zs J [i,j,k] f w.drew) (CV l v) a) :(Code.region id l.toArray true).wp Tryz.prog Q a w:=by
 have C:∀{W:World},Below w.heap.size w W->∃p:Regrown,W=grow (redrawn w p.d) p.os:=fun hb=>A5 hb
 have B0:Below w.heap.size w w.drew:=(AH _ w).drew;have I:Below w.heap.size w (w.drew.alloc (.cells zs T)):=B0.alloc (AD _) _;have N:Below w.heap.size w ((w.drew.alloc (.cells zs T)).alloc (.cells zs T)):=I.alloc I.size _;have O:(w.drew.alloc (.cells zs T)).heap.size=w.heap.size+1:=by simp
 have z2:((w.drew.alloc (.cells zs T)).alloc (.cells zs T)).heap.size=w.heap.size+2:=by simp
 have X:BL ((w.drew.alloc (.cells zs T)).alloc (.cells zs T)) w.heap.size T zs:=(BL.new w.drew T zs).alloc _;have Y:BL ((w.drew.alloc (.cells zs T)).alloc (.cells zs T)) (w.heap.size+1) T zs:=by have:=BL.new (w.drew.alloc (.cells zs T)) T zs;rwa [O]at this
 refine EL n v [i,j,k] (fun x=>if x=k then[i,j]else[]) hm Z z K (Up w Q l n i j k ok di dj T zs J) ?step ?fin h
 case step=>
  rintro is f W ⟨base,H,t,u,P⟩ x e c
  have store:∀(g m:Nat),g≠m->w.heap.size<=g->w.heap.size<=m->BL ((w.drew.alloc (.cells zs T)).alloc (.cells zs T)) g T zs->BL ((w.drew.alloc (.cells zs T)).alloc (.cells zs T)) m T zs ->ok.wp Tryz.prog ((base.put (some di) (.pointer (some ⟨g,0,none⟩))).put (some dj) (.pointer (some ⟨m,0,none⟩))) ((w.drew.alloc (.cells zs T)).alloc (.cells zs T)) (fun f W'=>(∃p:Regrown,W'=grow (redrawn w p.d) p.os)/\Up w Q l n i j k ok di dj T zs J ([k].erase k) f W') (NoPanic Q):=by
   intro g m D h1 h2 h3 h4;refine t _ _ _ g (fun y R=>?_) ?_ h3 fun W' S U E F=>?_
   .simp only[Bh,BP,Eg,not_or]at R;rw[DM (CF R.2),DM (CF R.1)]
   .rw [DM (CF V)];exact Io u.1 _
   .have G:Below w.heap.size w W':=N.trans (U.mono h1);exact⟨C G,base,H,t,u,.inr (.inr (.inr (.inr ⟨by simp,H W' g m G D h1 h2 F ((E m (CF D)).trans h4) (by rw[S,z2])⟩)))⟩
  rcases P with⟨rfl,rfl,rfl⟩|⟨rfl,rfl,rfl⟩|⟨rfl,rfl,rfl⟩|⟨rfl,rfl,P⟩|⟨rfl,_⟩
  .simp only[Bh,BP,Eg]at e
   rcases e with rfl|rfl|rfl
   .refine ⟨o,A,r.1,LU T zs r.2.2 b ?_⟩;rw[r.2.1];exact⟨C I,f,H,t,u,.inr (.inl ⟨by simp,rfl,rfl⟩)⟩
   .refine ⟨q,B,s.1,LU T zs s.2.2 b ?_⟩;rw[s.2.1];exact⟨C I,f,H,t,u,.inr (.inr (.inl ⟨by rw[List.erase_cons_tail (by simpa using L)];simp,rfl,rfl⟩))⟩
   .exact absurd (BR) (c i (by simp))
  .simp only[Bh,BP,Eg]at e
   rcases e with rfl|rfl
   .refine ⟨q,B,s.1,LU T zs s.2.2 b ?_⟩;rw[s.2.1,O];exact⟨C N,base,H,t,u,.inr (.inr (.inr (.inl ⟨by simp,rfl,.inl rfl⟩)))⟩
   .exact absurd (BR) (c j (by simp))
  .simp only[Bh,BP,Eg]at e
   rcases e with rfl|rfl
   .refine ⟨o,A,r.1,LU T zs r.2.2 b ?_⟩;rw[r.2.1,O,YS _ (CF V)];exact⟨C N,base,H,t,u,.inr (.inr (.inr (.inl ⟨by simp,rfl,.inr rfl⟩)))⟩
   .exact absurd (BR) (c i (by simp))
  .simp only[Bh,BP,Eg]at e
   subst e;refine⟨ok,M,gk,?_⟩;rcases P with rfl|rfl
   .exact store _ _ (by omega) (AD _) (EQ _) X Y
   .exact store _ _ (by omega) (EQ _) (AD _) Y X
  .cases e
 case fin=>
  rintro f W ⟨base,H,_,_,⟨h,_⟩|⟨h,_⟩|⟨h,_⟩|⟨h,_⟩|⟨_,h⟩⟩
  .cases h
  .cases h
  .cases h
  .cases h
  .exact h
theorem CalInv.start {w:World} {base:Act} {i1 i2 i3 i4:Nat} {d1 d2 d3 d4:Tmp} {v1 v2 v3:Value} {T:TypeId} {zs:Array Value} (hi:[i1,i2,i3,i4].Nodup):CalInv w base i1 i2 i3 i4 d1 d2 d3 d4 v1 v2 v3 T zs [i1,i2,i3,i4] base w:=⟨hi,fun _ h=>h,rfl,rfl,fun _ _=>rfl,AH _ _,fun h=>absurd (by simp) h,fun h=>absurd (by simp) h,fun h=>absurd (by simp) h,fun h=>absurd (by simp) h⟩
end
section
open Go.RowKit Go.Sort
def Lz (arcs:List Ar) (s:Nat):List Ar:=arcs.filter fun a=>a.fr==(s:Int)
def Vb (b:Nat) (xo:ByteArray) (row:List Ar):List Tp:=(row.filter fun a=>a.set.m b).map fun a=>⟨a.to,xo++a.putB b⟩
theorem S8 (c:List Ar) (l:List Tp) (b k:Nat) (d:k<l.length) (s:Nat) (e:(l.getD k DI).st=(s:Int)):Db c (l.take (k+1)) b=Db c (l.take k) b++Vb b (l.getD k DI).out (Lz c s):=by unfold Db Vb Lz;rw[Ek l DI k d,DE,D7,e,List.filter_filter];congr 3;funext a;exact Bool.and_comm _ _
theorem Xh (b:Nat) (c:ByteArray) (row:List Ar) (j:Nat) (d:j<row.length):Vb b c (row.take (j+1))=Vb b c (row.take j)++if(row.getD j Cq).set.m b=true then[⟨(row.getD j Cq).to,c++(row.getD j Cq).putB b⟩]else[]:=by
 unfold Vb;rw[Ek row Cq j d,Ck,CH];by_cases h:(row.getD j Cq).set.m b=true
 .rw [AU h,CD (p:=fun a:Ar=>a.set.m b) h];rfl
 .rw [AP h,CE (p:=fun a:Ar=>a.set.m b) h];simp
def Qa (arcs:List Ar) (l:List Tp) (b:Nat) (w:World) (e:Ending) (w':World):Prop:=∃v,e=.returned v/\w'.ownsRow w.heap.size 54 2 v (Db arcs l b).length (B_ CL (Db arcs l b))/\Below w.heap.size w w'
theorem Vc (G B:Nat) (A:Option Addr) (n c b:Nat) (d:List Ar) (l:List Tp) (w:World) (vE vR vM vN vO a7 vT:Value) (L ns:Nat) (most:Int) (fr:ByteArray) (hG:BL w G 78 #[.slice (some ⟨L,0,none⟩) ns ns,vE,.int .i64 most,vR,vM,.string fr,vN,vO,a7,vT]) (HR:Reads w B 2 A n (B_ CL l)) (HA:QO Cx 8 w B L ns (Lz d)) (hB:B<=w.heap.size) (a8:G<w.heap.size) (hl:∀x∈l,0<=x.st/\x.st<(ns:Int)/\x.out.size<=4096) (ha:d.length<=16384/\∀x∈d,x.out.size<=1024/\OU x.set) (hn:n<=1024) (_hns:ns<=1024) (hb:b<256) :Calls Tryz.prog 98 #[.pointer (some ⟨G,0,none⟩),.slice A n c,.int .u8 (b:Int)] w (Qa d l b w):=by
 have am:=FE Dg (by decide) HR;have ac:=AB am;have Hl:=AB hl;have an:=AB ha;clear am hl ha;go_enter Tryz.func98,Tryz.ntmps98;go_wp2;go_loopw [7,15] (fun rv i wr=>∃(k:Nat) (v:Value),k<=n/\i=.int .i64 ((k:Nat):Int)/\v=rv/\wr.ownsRow w.heap.size 54 2 v (Db d (l.take k) b).length (B_ CL (Db d (l.take k) b))/\(Db d (l.take k) b).length<=k*16384/\Below w.heap.size w wr) (fun _ i _=>n-(intOf i).toNat)
 case atStart=>exact⟨0,_,AN _,rfl,rfl,Bc _ _ _ _,AN _,AH _ _⟩
 case round=>
  obtain⟨k,v,hk,rfl,rfl,a,N,t⟩:=hrel;by_cases a9:k<n
  .have bi:(0:Int)<=(k:Int):=by omega
   have bj:(k:Int)<(n:Int):=by omega
   obtain⟨g,o,rfl,bk,d0,d1⟩:=Dh (HR.below (t.mono hB)) k a9;have hq:=Hl.out _ (getD_in l DI k (by have:=ac.out;omega));obtain⟨x,hx⟩:∃x:Nat,(l.getD k DI).st=(x:Int):=⟨_,(AT hq.1).symm⟩
   have O:=AB (S8 d l b k (by have:=ac.out;omega) x hx);rw[hx]at d0 hq;generalize (l.getD k DI).out=f at *;have ba:x<ns:=by omega
   have bl:(0:Int)<=(x:Int):=by omega
   have bm:(x:Int)<(ns:Int):=by omega
   obtain⟨A2,c2,g0,g1,g2,g3⟩:=(HA.below (t.mono hB)).2 x ba;have bn:(Lz d x).length<=16384:=AK (CA _ _) an.out.1;have bb:=AB (show ∀z∈Lz d x,z.out.size<=1024/\OU z.set from fun z hz=>an.out.2 z (BV.1 hz).1);clear hx;generalize Lz d x=row at *;generalize ap:row.length=rl at *;have ab:=AB ap;clear ap;have M:=(AH wr.heap.size wr).alloc (AD _) (.cells #[.int .i64 (x:Int),.string f] 54);have HX:=BL.new wr 54 #[.int .i64 (x:Int),.string f];have y:v.ownBlock≠some wr.heap.size:=fun e=>by have:=(own_lt a _ e).2;omega
   have x0:=AF (HX.cell 0);have ad:=t.trans (M.mono t.size);have aq:=(hG.below t a8).below M (by have:=t.size;omega);have y1:=AF (aq.cell 0);have y2:=AF ((M.cell (p:=⟨L,x,none⟩) (by have:=HA.1;have:=t.size;show L<_;omega)).trans g0);have R2:=g3.below (M.mono (AK hB t.size));have ar:=BQ a M;have bo:=t.size;clear M t g0 g3 a;go_wp2;clear d0 d1;refine Au (by kernel_rfl) (by kernel_rfl) ?_
   repeat (go_big_quiet_step (fail))
   refine Ah ?_;intro w5 au;have M:=Bu au;have C:=HX.below M HX.lt;have F:=ad.trans (M.mono ad.size);have R5:=R2.below (M.mono (by simp;omega));have av:=BQ ar M;have bp:wr.heap.size<w5.heap.size:=C.lt;clear au x0 y1 y2 HX aq ad R2 M ar;generalize wr.heap.size=gX at *;generalize aw:Db d (l.take k) b=S0 at *;have bq:=AB aw;clear aw;go_wp2;go_loopw [7,28] (fun rv i wv=>∃(j:Nat) (v:Value) (S:List Tp),j<=rl/\i=.int .i64 ((j:Nat):Int)/\v=rv/\S=S0++Vb b f (row.take j)/\wv.ownsRow w.heap.size 54 2 v S.length (B_ CL S)/\S.length<=k*16384+j/\Below w.heap.size w wv/\BL wv gX 54 #[.int .i64 (x:Int),.string f]/\v.ownBlock≠some gX/\Reads wv B 8 A2 rl (B_ Cx row)) (fun _ i _=>rl-(intOf i).toNat)
   case atStart=>exact⟨0,v,S0,AN _,rfl,rfl,by simp[Vb],av,N,F,C,y,R5⟩
   case round=>
    clear av C y R5 N F;obtain⟨j,v,S,hj,rfl,rfl,hS,a,N,F,C,y,R5⟩:=hrel;have HS:=AB hS;clear hS;by_cases ax:j<rl
    .have br:(0:Int)<=(j:Int):=by omega
     have bs:(j:Int)<(rl:Int):=by omega
     have ay:=F.size;obtain⟨g',o',rfl,bf,e0,e1,e2,e3,e4,e5,e6,e7⟩:=Di R5 j ax;have hz:=bb.out _ (getD_in row Cq j (by have:=ab.out;omega));have ae:=AB (Xh b f row j (by have:=ab.out;omega));generalize row.getD j Cq=q at *;obtain⟨af,at',⟨s1,s2,s3,s4⟩,s,cp⟩:=q;simp only at e0 e1 e2 e3 e4 e5 e6 e7 hz;have hH:=fun W=>MQ ⟨s1,s2,s3,s4⟩ hz.2 b W hb
     have Q:=(AH wr.heap.size wr).alloc (AD _) (.cells #[.int .i64 af,.int .i64 at',.int .u64 (s1:Int),.int .u64 (s2:Int),.int .u64 (s3:Int),.int .u64 (s4:Int),.string s,.bool cp] 61);have HY:=BL.new wr 61 #[.int .i64 af,.int .i64 at',.int .u64 (s1:Int),.int .u64 (s2:Int),.int .u64 (s3:Int),.int .u64 (s4:Int),.string s,.bool cp];have u2:=HY.cell 2;have u3:=HY.cell 3;have u4:=HY.cell 4;have u5:=HY.cell 5;have ag:=F.trans (Q.mono ay);have ah:=C.below Q C.lt;have az:=BQ a Q;have R6:=R5.below (Q.mono (AK hB ay));have bg:=C.lt;clear C R5 a F Q
     go_wp2_with fail
     refine(hH _).mono ?_;rintro e D ⟨rfl,R⟩;have H:=ag.trans (R.mono ag.size);have E:=ah.below R ah.lt;have I:=HY.below R HY.lt;have K:=BQ az R;have R7:=R6.below (R.mono (AK hB ag.size));clear e0 e1 e2 e3 e4 e5 e6 e7 u2 u3 u4 u5 ah HY az R6 hH;generalize hm:(⟨s1,s2,s3,s4⟩:St).m b=mb at *;rcases mb with _|_
     .go_wp2
      go_roundw
      case rel=>exact⟨j+1,v,S,by omega,by go_num,rfl,by rw[ae.out,HS.out];simp,K,by omega,H,E,y,R7⟩
      case measure=>simp[intOf];omega
     .have t1:=I.cell 1
      have t6:=I.cell 6;have t7:=I.cell 7;have p1:=E.cell 1;have bt:f.size<=4096:=hq.2.2;have bu:f.size+s.size<=9223372036854775807:=by have:=hz.1;omega
      obtain⟨Av,cv,rfl,_,_,_⟩:=BH K;obtain⟨i0,hi,a0,a1,a2⟩:=BK G0;have h63:S.length+1<=maxLen:=by unfold maxLen;omega
      have a3:(S.length+1)*24<=140737488355328:=by omega
      rcases cp with _|_
      .have L1:=(AH D.heap.size D).alloc (AD _) (.cells #[.int .i64 at',.string (f++s)] 54)
       have HZ:=BL.new D 54 #[.int .i64 at',.string (f++s)];have z0:=HZ.cell 0;have z1:=HZ.cell 1;have LL:=L1.alloc L1.size (.cells #[.int .i64 at',.string (f++s)] 54);have U:=Bg (D.alloc (.cells #[.int .i64 at',.string (f++s)] 54)) [.int .i64 at',.string (f++s)] 54 2 1 rfl;rw[Ad]at U;have ai:=BQ K LL;have aj:=E.below LL E.lt;have R9:=R7.below (LL.mono (AK hB H.size));have J:=H.trans (LL.mono H.size);have V:=GH ⟨at',f++s⟩;have u:=J.size;have X:=fun g (e:(Value.slice Av S.length cv).ownBlock=some g)=>(own_lt K g e).1
       have Y:=AB (fun Z v' (a:World.ownsRow Z w.heap.size 54 2 v' (S.length+1) (B_ CL S++CL ⟨at',f++s⟩))=>show World.ownsRow Z w.heap.size 54 2 v' (S++[(⟨at',f++s⟩:Tp)]).length (B_ CL (S++[(⟨at',f++s⟩:Tp)]))by rw[Ej,AJ];exact a);have bc:=(I.below L1 I.lt).cell 7;clear L1 HZ
       go_wp2_with (at_builtin;refine Ba _ rfl _ _ 29 rfl w.heap.size 54 i0 _ 2 24 Tryz.underlying29 hi a0 a1 a2 rfl (by decide) _ _ _ rfl ai _ (some ⟨D.heap.size+1,0,none⟩) 1 1 [.int .i64 at',.string (f++s)] rfl U V h63 a3 u ?_;intro v' Z a r aa)
       go_roundw
       case rel=>
        obtain⟨ak,al⟩:BL Z gX 54 #[.int .i64 (x:Int),.string f]/\v'.ownBlock≠some gX:=⟨aj.grown r (fun e=>y e.symm),fun e=>by
         rcases aa with h|h
         .exact y (h.symm.trans e)
         .have:=AL (h.symm.trans e);simp at this;have:=E.lt;omega⟩
        refine⟨j+1,v',S++[⟨at',f++s⟩],by omega,by go_num,rfl,?_,Y.out Z v' a,by simp;omega,J.grown r u X,ak,al,R9.keep fun p hp=>?_⟩
        .rw [ae.out,HS.out,AU trivial,Ac];have:((⟨af,at',⟨s1,s2,s3,s4⟩,s,false⟩:Ar).putB b)=s:=D_ (by simp[Ar.putB]);rw[this]
        .exact cell_kept (r.block _ (by have:=J.size;omega) (fun e=>by have:=X _ e.symm;omega))
       case measure=>simp[intOf];omega
      .have L1:=(AH D.heap.size D).alloc (AD _) (.cells #[.int .i64 at',.string (f++s)] 54)
       have HZ:=BL.new D 54 #[.int .i64 at',.string (f++s)];have z1:=HZ.cell 1;have bc:=(I.below L1 I.lt).cell 7;have a4:(f++s).size+1<=9223372036854775807:=by have e:=BY List.length (DW f s);rw[CK,AJ,CK,CK]at e;omega
       have a5:=BL.new (D.alloc (.cells #[.int .i64 at',.string (f++s)] 54)) 5 #[.int .u8 (b:Int)];rw[Ad]at a5;have bd:((b.toUInt8.toNat:Nat):Int)=(b:Int):=by simp;omega
       have a6:=Eh (P:=Tryz.prog) ((D.alloc (.cells #[.int .i64 at',.string (f++s)] 54)).alloc (.cells #[.int .u8 (b:Int)] 5)) 81 9 5 ⟨D.heap.size+1,0,none⟩ 1 [b.toUInt8] Tryz.underlying81 Tryz.underlying5 Tryz.underlying9 (fun j hj=>by
        obtain rfl:j=0:=by simp at hj;exact hj
        show _=some (Value.int .u8 ((b.toUInt8.toNat:Nat):Int));rw[bd];exact a5.cell 0)
       replace a6:(convert 81 9 (.slice (some ⟨D.heap.size+1,0,none⟩) 1 1)).run Tryz.prog ((D.alloc (.cells #[.int .i64 at',.string (f++s)] 54)).alloc (.cells #[.int .u8 (b:Int)] 5))=.ok (.string ⟨#[b.toUInt8]⟩) _:=a6;have bh:(f++s).size+(⟨#[b.toUInt8]⟩:ByteArray).size<=9223372036854775807:=a4;obtain⟨T,hT⟩:∃T:ByteArray,T=f++s++⟨#[UInt8.ofNat b]⟩:=⟨_,rfl⟩
       have be:f++s++⟨#[b.toUInt8]⟩=T:=hT.symm;have M1:=(AH D.heap.size D).alloc (AD _) (.cells #[.int .i64 at',.string T] 54);have M2:=M1.alloc M1.size (.cells #[.int .u8 (b:Int)] 5);have LL:=M2.alloc M2.size (.cells #[.int .i64 at',.string T] 54);have U:=Bg ((D.alloc (.cells #[.int .i64 at',.string T] 54)).alloc (.cells #[.int .u8 (b:Int)] 5)) [.int .i64 at',.string T] 54 2 1 rfl;rw[Ad,Ad]at U;have ai:=BQ K LL;have aj:=E.below LL E.lt;have R9:=R7.below (LL.mono (AK hB H.size));have J:=H.trans (LL.mono H.size);have V:=GH ⟨at',T⟩;have u:=J.size;have X:=fun g (e:(Value.slice Av S.length cv).ownBlock=some g)=>(own_lt K g e).1
       have Y:=AB (fun Z v' (a:World.ownsRow Z w.heap.size 54 2 v' (S.length+1) (B_ CL S++CL ⟨at',T⟩))=>show World.ownsRow Z w.heap.size 54 2 v' (S++[(⟨at',T⟩:Tp)]).length (B_ CL (S++[(⟨at',T⟩:Tp)]))by rw[Ej,AJ];exact a);have HT:=AB hT;subst hT;clear L1 HZ M1 M2 be
       go_wp2_with (at_builtin;refine Ba _ rfl _ _ 29 rfl w.heap.size 54 i0 _ 2 24 Tryz.underlying29 hi a0 a1 a2 rfl (by decide) _ _ _ rfl ai _ (some ⟨D.heap.size+1+1,0,none⟩) 1 1 [.int .i64 at',.string (f++s++ByteArray.mk #[UInt8.ofNat b])] rfl U V h63 a3 u ?_;intro v' Z a r aa)
       go_roundw
       case rel=>
        obtain⟨ak,al⟩:BL Z gX 54 #[.int .i64 (x:Int),.string f]/\v'.ownBlock≠some gX:=⟨aj.grown r (fun e=>y e.symm),fun e=>by
         rcases aa with h|h
         .exact y (h.symm.trans e)
         .have:=AL (h.symm.trans e);simp at this;have:=E.lt;omega⟩
        refine⟨j+1,v',S++[⟨at',f++s++⟨#[UInt8.ofNat b]⟩⟩],by omega,by go_num,rfl,?_,Y.out Z v' a,by simp;omega,J.grown r u X,ak,al,R9.keep fun p hp=>?_⟩
        .rw [ae.out,HS.out,AU trivial,Ac];have:f++((⟨af,at',⟨s1,s2,s3,s4⟩,s,true⟩:Ar).putB b)=f++s++⟨#[UInt8.ofNat b]⟩:=D_ (by simp[Ar.putB]);rw[this]
        .exact cell_kept (r.block _ (by have:=J.size;omega) (fun e=>by have:=X _ e.symm;omega))
       case measure=>simp[intOf];omega
    .obtain rfl:rl=j:=by omega
     go_wp2;go_roundw
     case rel=>exact⟨k+1,v,by omega,by go_num,rfl,by rw[O.out,<-BX (l:=row) (Nat.le_of_eq ab.out),<-HS.out];exact a,by rw[O.out,<-BX (l:=row) (Nat.le_of_eq ab.out),<-HS.out];omega,F⟩
     case measure=>simp[intOf];omega
  .obtain rfl:n=k:=by omega
   rw[BX (by have:=ac.out;omega)]at a;have HP:=AB (show Qa d l b w (.returned v) wr from⟨v,rfl,a,t⟩);go_wp2;exact AQ (v:=v) (by simp[results,Tryz.results98,go_sem]) rfl HP.out
end
section
structure Hop where
 live:Bool
 last:Bool
 x:Int
 y:Int
 c:Nat
def ED:Hop:=⟨false,false,0,0,0⟩
structure Bx where
 p:Int
 q:Int
 a:ByteArray
 b:ByteArray
 fr:Int
 c:Nat
def JZ:Bx:=⟨0,0,ByteArray.empty,ByteArray.empty,0,0⟩
structure Bk where
 fr:Int
 x:Int
 y:Int
def bk0:Bk:=⟨0,0,0⟩
structure Fit (u:Fs) (N:Nat):Prop where
 n:u.n=(N:Int)
 le:N<=32
 arcs:∀x∈u.arcs,0<=x.fr/\x.fr<N/\0<=x.to/\x.to<N/\x.out.size<=1024/\OU x.set
 ends:∀x∈u.ends,0<=x.st/\x.st<N/\x.out.size<=1024
 starts:∀x∈u.starts,0<=x.st/\x.st<N/\x.out.size<=1024
 many:u.arcs.length<=16384
theorem X0c {p q n:Nat} (h1:p<n) (h2:q<n):p*n+q<n*n:=by have:(p+1)*n<=n*n:=CY n h1;rw[EH]at this;omega
theorem IX {p q n:Nat} (h2:q<n):(p*n+q) / n=p:=by rw[D6,Nat.mul_add_div (by omega),Nat.div_eq_of_lt h2,D0]
theorem IY {p q n:Nat} (h2:q<n):(p*n+q)%n=q:=by rw[D6,Nat.mul_add_mod,Ez h2]
theorem Um {i n:Nat} (h:i<n*n):i / n<n:=EP h
theorem Un {i n:Nat} (h:i<n*n):i%n<n:=by
 rcases B7 n with rfl|h0
 .exact absurd h (by simp)
 .exact Cz _ h0
theorem YN (i n:Nat):i / n*n+i%n=i:=by rw[D6];exact Ft i n
def ix (N:Nat) (p q:Int):Nat:=p.toNat*N+q.toNat
theorem L8 {N:Nat} {p q:Int} (c:0<=p) (a:p<N) (d:0<=q) (b:q<N):ix N p q<N*N:=X0c (by omega) (by omega)
theorem TU {N:Nat} {p q:Int} (a:0<=p) (b:0<=q):((ix N p q:Nat):Int)=p*N+q:=by unfold ix;rw[Int.natCast_add,Dk,AT a,AT b]
theorem X2a {N:Nat} {p q b a:Int} (g:0<=p) (i:0<=q) (d:q<N) (e:0<=b) (f:0<=a) (c:a<N) (h:ix N p q=ix N b a):p=b/\q=a:=by
 unfold ix at h;have h1:(p.toNat*N+q.toNat) / N=(b.toNat*N+a.toNat) / N:=by rw[h]
 have h2:(p.toNat*N+q.toNat)%N=(b.toNat*N+a.toNat)%N:=by rw[h]
 rw[IX (by omega),IX (by omega)]at h1;rw[IY (by omega),IY (by omega)]at h2;omega
def Ex (u:Fs) (i:Int):Ar:=u.arcs.getD i.toNat Cq
def J_ (u:Fs) (i:Int):Prop:=0<=i/\i<u.arcs.length
theorem J_.mem {u:Fs} {i:Int} (h:J_ u i):Ex u i∈u.arcs:=by unfold Ex;rw[AC,AG (by have:=h.1;have:=h.2;omega)];exact CI _
theorem TV {u:Fs} {x:Ar} (h:x∈u.arcs):∃i:Nat,J_ u (i:Int)/\Ex u (i:Int)=x:=by obtain⟨i,hi,rfl⟩:=Bp.1 h;refine⟨i,⟨by omega,by omega⟩,?_⟩;unfold Ex;rw[BO,AC,AG hi];rfl
def TW (u:Fs) (N j:Nat) (b:Bk):Prop:=J_ u b.x/\J_ u b.y/\0<=b.fr/\b.fr<(N*N:Nat)/\ix N (Ex u b.x).fr (Ex u b.y).fr=b.fr.toNat/\ix N (Ex u b.x).to (Ex u b.y).to=j/\(Ex u b.x).set.both (Ex u b.y).set≠St.none
structure BacksOk (u:Fs) (N:Nat) (rows:Nat->List Bk):Prop where
 good:∀j,j<N*N->∀b∈rows j,TW u N j b
 full:∀x∈u.arcs,∀y∈u.arcs,x.set.both y.set≠St.none->∃b∈rows (ix N x.to y.to),b.fr.toNat=ix N x.fr y.fr
 len:∀j,j<N*N->(rows j).length<=N*N
def hasEnd (u:Fs) (s:Nat):Prop:=∃e∈u.ends,e.st=(s:Int)
def XC (u:Fs) (N i:Nat) (h:Hop):Prop:=h.c<256/\(h.last=true->hasEnd u (i / N)/\hasEnd u (i%N)) /\(h.last=false->J_ u h.x/\J_ u h.y/\ix N (Ex u h.x).fr (Ex u h.y).fr=i/\(Ex u h.x).set.both (Ex u h.y).set≠St.none)
structure Bfs (u:Fs) (N:Nat) (rows:Nat->List Bk) (hops:List Hop) (vs:List Nat) (k:Nat):Prop where
 len:hops.length=N*N
 nd:vs.Nodup
 lt:∀i∈vs,i<N*N
 live:∀i,i<N*N->((hops.getD i ED).live=true↔i∈vs)
 hop:∀m,m<vs.length->XC u N (vs.getD m 0) (hops.getD (vs.getD m 0) ED)/\((hops.getD (vs.getD m 0) ED).last=false->∃m',m'<m/\vs.getD m' 0=ix N (Ex u (hops.getD (vs.getD m 0) ED).x).to (Ex u (hops.getD (vs.getD m 0) ED).y).to)
 seed:∀i,i<N*N->hasEnd u (i / N)->hasEnd u (i%N)->i∈vs
 done:∀m,m<k->∀b∈rows (vs.getD m 0),b.fr.toNat∈vs
 le:k<=vs.length
structure Looked (u:Fs) (N:Nat) (hops:List Hop):Prop where
 len:hops.length=N*N
 live:∀p q:Int,0<=p->p<N->0<=q->q<N->((hops.getD (ix N p q) ED).live=true↔KM u p q)
 rank:∃ρ:Nat->Nat,∀i,i<N*N->(hops.getD i ED).live=true->ρ i<N*N/\XC u N i (hops.getD i ED) /\((hops.getD i ED).last=false->(hops.getD (ix N (Ex u (hops.getD i ED).x).to (Ex u (hops.getD i ED).y).to) ED).live=true/\ρ (ix N (Ex u (hops.getD i ED).x).to (Ex u (hops.getD i ED).y).to)<ρ i)
theorem JS {N:Nat} {vs:List Nat} (a:vs.Nodup) (h:∀i∈vs,i<N):vs.length<=N:=by have:=GQ a (fun i hi=>BE.2 (h i hi));rwa [EA]at this
section
variable {u:Fs} {N:Nat} {rows:Nat->List Bk} {hops:List Hop} {vs:List Nat} {k:Nat}
theorem LP (l:List Nat) (m:Nat) (h:m<l.length):l.getD m 0=l[m]:=by rw[AC,AG h];rfl
theorem Bfs.sound (F:Fit u N) (B:Bfs u N rows hops vs k):∀(n m:Nat),m<=n->m<vs.length->KM u ((vs.getD m 0 / N:Nat):Int) ((vs.getD m 0%N:Nat):Int)
 | n,m,hm,hl=>by
  obtain⟨⟨h1,h2,h3⟩,h4⟩:=B.hop m hl;rcases a:(hops.getD (vs.getD m 0) ED).last with _|_
  .obtain ⟨m',l,o⟩:=h4 a
   obtain⟨g1,g2,g3,g4⟩:=h3 a
   have b:KM u ((vs.getD m' 0 / N:Nat):Int) ((vs.getD m' 0%N:Nat):Int):=by
    cases n with
    | zero=>omega
    | succ n=>exact Bfs.sound F B n m' (by omega) (by omega)
   rw[o]at b;generalize p:Ex u (hops.getD (vs.getD m 0) ED).x=x at *;generalize q:Ex u (hops.getD (vs.getD m 0) ED).y=y at *;have i:x∈u.arcs:=p▸g1.mem;have j:y∈u.arcs:=q▸g2.mem;obtain⟨C,a2,a3,a4,_,r⟩:=F.arcs x i;obtain⟨D,E,G,H,_,s⟩:=F.arcs y j;obtain⟨c,d⟩:=NF _ (St.both_w _ _ r s) g4;rw[St.both_m,AW]at d;have g:((ix N x.to y.to / N:Nat):Int)=x.to:=by unfold ix;rw[IX (by omega)];omega
   have t:((ix N x.to y.to%N:Nat):Int)=y.to:=by unfold ix;rw[IY (by omega)];omega
   rw[g,t]at b;have:=b.on (JI i d.1) (JI j d.2);have v:((ix N x.fr y.fr / N:Nat):Int)=x.fr:=by unfold ix;rw[IX (by omega)];omega
   have w:((ix N x.fr y.fr%N:Nat):Int)=y.fr:=by unfold ix;rw[IY (by omega)];omega
   rw[<-g3,v,w];exact this
  .obtain ⟨⟨e,z,g⟩,⟨f,A,f1⟩⟩:=h2 a
   refine⟨[],[],[],e,z,f,A,?_,?_⟩
   .rw [g];exact .nil _
   .rw [f1];exact .nil _
theorem Bfs.full (F:Fit u N) (R:BacksOk u N rows) (B:Bfs u N rows hops vs vs.length):∀(w a d:List UInt8) (p q:Int) (e f:Tp),e∈u.ends->f∈u.ends->0<=p->p<N->0<=q->q<N->Way u.arcs p w a e.st->Way u.arcs q w d f.st->ix N p q∈vs
 | [],a,d,p,q,e,f,he,hf,h1,h2,h3,h4,k1,k2=>by
  obtain⟨rfl,I⟩:=Way.nil_iff.1 k1;obtain⟨rfl,J⟩:=Way.nil_iff.1 k2;refine B.seed _ (L8 h1 h2 h3 h4) ⟨e,he,?_⟩ ⟨f,hf,?_⟩
  .unfold ix;rw[IX (by omega)];omega
  .unfold ix;rw[IY (by omega)];omega
 | c::w,a,d,p,q,e,f,he,hf,h1,h2,h3,h4,k1,k2=>by
  obtain⟨x,j,n,o,r,s,_⟩:=Way.cons_iff.1 k1;obtain⟨y,k,t,v,z,A,_⟩:=Way.cons_iff.1 k2;subst n t;obtain⟨K,a2,a3,a4,_,L⟩:=F.arcs x j;obtain⟨M,O,C,D,_,P⟩:=F.arcs y k;have E:=Bfs.full F R B w r z x.to y.to e f he hf a3 a4 C D s A
  have g:x.set.both y.set≠St.none:=fun h0=>by
   have:(x.set.both y.set).m c.toNat=true:=by rw[St.both_m,o,v];rfl
   rw[h0,St.none_m]at this;cases this
  obtain⟨b,G,i⟩:=R.full x j y k g;obtain⟨m,l,H⟩:=Bp.1 E;have:=B.done m l b (by rw[LP _ _ l,H];exact G);rwa [i]at this
theorem Bfs.looked (F:Fit u N) (R:BacksOk u N rows) (B:Bfs u N rows hops vs vs.length):Looked u N hops:=by
 refine⟨B.len,fun p q h1 h2 h3 h4=>?_,?_⟩
 .have hi:=L8 h1 h2 h3 h4
  rw[B.live _ hi];constructor
  .intro d
   obtain⟨m,d,j⟩:=Bp.1 d;have:=B.sound F m m (AD _) d;rw[LP _ _ d,j]at this;have n:((ix N p q / N:Nat):Int)=p:=by unfold ix;rw[IX (by omega)];omega
   have o:((ix N p q%N:Nat):Int)=q:=by unfold ix;rw[IY (by omega)];omega
   rwa [n,o]at this
  .rintro ⟨w,r,s,e,t,f,v,x,y⟩;exact B.full F R w r s p q e f t v h1 h2 h3 h4 x y
 .refine ⟨fun i=>vs.idxOf i,fun i hi z=>?_⟩
  have d:=(B.live i hi).1 z;have a:=List.idxOf_lt_length_of_mem d;have j:vs.getD (vs.idxOf i) 0=i:=by rw[LP _ _ a];exact List.getElem_idxOf a
  obtain⟨g1,g2⟩:=B.hop _ a;rw[j]at g1 g2;refine⟨Aj a (JS B.nd B.lt),g1,fun c=>?_⟩;obtain⟨m',k,l⟩:=g2 c;have g:m'<vs.length:=by omega
  rw[<-l];have b:vs.getD m' 0∈vs:=by rw[LP _ _ g];exact CI _
  refine⟨(B.live _ (B.lt _ b)).2 b,?_⟩;rw[LP _ _ g];show List.idxOf vs[m'] vs<vs.idxOf i;rw[B.nd.idxOf_getElem];exact k
end
end
section
theorem GW {α:Type} (l:List α) (s:Nat) (v d:α) (h:s<l.length):(l.set s v).getD s d=v:=by rw[AC,List.getElem?_set_self h];rfl
theorem getD_set_ne {α:Type} (l:List α) (s t:Nat) (v d:α) (h:s≠t):(l.set s v).getD t d=l.getD t d:=by rw[AC,AC,List.getElem?_set_ne h]
theorem FT {α:Type} (l r:List α) (m:Nat) (d:α) (h:m<l.length):(l++r).getD m d=l.getD m d:=by rw[AC,AC,Bi h]
theorem Mn {α:Type} (l:List α) (x d:α):(l++[x]).getD l.length d=x:=by rw[AC,CT (AD _),Gd];rfl
theorem FK {α:Type} (l:List α) (m:Nat) (d:α) (h:m<l.length):l.getD m d∈l:=by rw[AC,AG h];exact CI _
def hopE:Hop:=⟨true,true,0,0,0⟩
structure Seeds (u:Fs) (N:Nat) (hops:List Hop) (vs:List Nat) (i:Nat):Prop where
 len:hops.length=N*N
 nd:vs.Nodup
 mem:∀j,j∈vs↔j<i/\hasEnd u (j / N)/\hasEnd u (j%N)
 hop:∀j,j<N*N->hops.getD j ED=if j∈vs then hopE else ED
section
variable {u:Fs} {N:Nat} {rows:Nat->List Bk} {hops:List Hop} {vs:List Nat} {i k r:Nat}
theorem Seeds.start:Seeds u N (List.replicate (N*N) ED) [] 0:=by refine⟨by simp,List.nodup_nil,fun j=>⟨fun h=>(by cases h),fun h=>absurd h.1 (by omega)⟩,fun j a=>?_⟩;rw[AP (by simp),AC,CC,AU a];rfl
theorem Seeds.no (S:Seeds u N hops vs i) (h:¬(hasEnd u (i / N)/\hasEnd u (i%N))):Seeds u N hops vs (i+1):=by
 refine⟨S.len,S.nd,fun j=>?_,S.hop⟩;rw[S.mem];constructor
 .rintro ⟨h1,h2⟩;exact⟨by omega,h2⟩
 .rintro ⟨h1,h2⟩
  rcases BF j i with a|b
  .exact ⟨a,h2⟩
  .obtain rfl:j=i:=by omega
   exact absurd h2 h
theorem Seeds.yes (S:Seeds u N hops vs i) (hi:i<N*N) (h1:hasEnd u (i / N)) (h2:hasEnd u (i%N)):Seeds u N (hops.set i hopE) (vs++[i]) (i+1):=by
 have g:i∉vs:=fun h=>by have:=((S.mem i).1 h).1;omega
 refine⟨by rw[DU];exact S.len,?_,fun j=>?_,fun j k=>?_⟩
 .rw [List.nodup_append];exact⟨S.nd,by simp,fun a l b f=>by rintro rfl;rw[AM]at f;subst f;exact g l⟩
 .rw [Bj,AM,S.mem]
  constructor
  .rintro (⟨g1,g2⟩|rfl)
   .exact ⟨by omega,g2⟩
   .exact ⟨by omega,h1,h2⟩
  .rintro ⟨g1,g2⟩
   rcases BF j i with d|m
   .exact .inl ⟨d,g2⟩
   .exact .inr (by omega)
 .by_cases e:i=j
  .subst e;rw[GW _ _ _ _ (by rw[S.len];exact hi),AU (by simp)]
  .rw [getD_set_ne _ _ _ _ _ e,S.hop j k]
   by_cases c:j∈vs
   .rw [AU c,AU (C5 _ c)]
   .rw [AP c,AP]
    rw[Bj,AM];rintro(h|h)
    .exact c h
    .exact e h.symm
theorem Seeds.bfs (S:Seeds u N hops vs (N*N)):Bfs u N rows hops vs 0:=by
 refine⟨S.len,S.nd,fun j b=>((S.mem j).1 b).1,fun j b=>?_,fun m a=>?_,fun j b h1 h2=>(S.mem j).2 ⟨b,h1,h2⟩,fun m a=>absurd a (by omega),AN _⟩
 .rw [S.hop j b]
  by_cases a:j∈vs
  .rw [AU a];exact⟨fun _=>a,fun _=>rfl⟩
  .rw [AP a];exact⟨fun h=>absurd h (by decide),fun h=>absurd h a⟩
 .have c:=FK vs m 0 a;obtain⟨h1,h2⟩:=(S.mem _).1 c;rw[S.hop _ h1,AU c];exact⟨⟨by decide,fun _=>h2,fun h=>absurd h (by decide)⟩,fun h=>absurd h (by decide)⟩
def Qx (u:Fs) (N:Nat) (rows:Nat->List Bk) (hops:List Hop) (vs:List Nat) (k r:Nat):Prop:=Bfs u N rows hops vs k/\k<vs.length/\∀r',r'<r->r'<(rows (vs.getD k 0)).length->((rows (vs.getD k 0)).getD r' bk0).fr.toNat∈vs
theorem Bfs.begin_ (B:Bfs u N rows hops vs k) (h:k<vs.length):Qx u N rows hops vs k 0:=⟨B,h,fun a h=>absurd h (by omega)⟩
theorem Qx.old (B:Qx u N rows hops vs k r) (h:((rows (vs.getD k 0)).getD r bk0).fr.toNat∈vs):Qx u N rows hops vs k (r+1):=
 ⟨B.1,B.2.1,fun a h1 h2=>by
  rcases BF a r with b|c
  .exact B.2.2 a b h2
  .obtain rfl:a=r:=by omega
   exact h⟩
theorem Qx.new (B:Qx u N rows hops vs k r) {b:Bk} (s:(rows (vs.getD k 0)).getD r bk0=b) (t:TW u N (vs.getD k 0) b) (o:b.fr.toNat∉vs) {c:Nat} (v:c<256) :Qx u N rows (hops.set b.fr.toNat ⟨true,false,b.x,b.y,c⟩) (vs++[b.fr.toNat]) k (r+1):=by
 obtain⟨g1,g2,g3,g4,g5,g6,g7⟩:=t;have f:b.fr.toNat<N*N:=by omega
 have p:=B.2.1;have j:∀m,m<vs.length->(hops.set b.fr.toNat ⟨true,false,b.x,b.y,c⟩).getD (vs.getD m 0) ED=hops.getD (vs.getD m 0) ED:=fun m g=>by exact getD_set_ne _ _ _ _ _ (fun e=>o (by rw[e];exact FK vs m 0 g))
 refine⟨⟨by rw[DU];exact B.1.len,?_,fun i hi=>?_,fun i hi=>?_,fun m g=>?_,fun i hi h1 h2=>C5 _ (B.1.seed i hi h1 h2),fun m g q d=>?_,?_⟩,?_,fun l h1 h2=>?_⟩
 .rw [List.nodup_append];exact⟨B.1.nd,by simp,fun a w q d=>by rintro rfl;rw[AM]at d;subst d;exact o w⟩
 .rcases Bj.1 hi with hi|hi
  .exact B.1.lt i hi
  .rw [AM]at hi;subst hi;exact f
 .by_cases e:b.fr.toNat=i
  .subst e;rw[GW _ _ _ _ (by rw[B.1.len];exact f)];exact⟨fun _=>by simp,fun _=>rfl⟩
  .rw [getD_set_ne _ _ _ _ _ e,B.1.live i hi,Bj,AM];exact⟨.inl,fun h=>h.elim id fun h=>absurd h.symm e⟩
 .rw [AJ,BJ]at g
  by_cases e:m<vs.length
  .rw [FT _ _ _ _ e,j m e];obtain⟨q1,z⟩:=B.1.hop m e;refine⟨q1,fun h=>?_⟩;obtain⟨m',n,A⟩:=z h;exact⟨m',n,by rw[FT _ _ _ _ (by omega)];exact A⟩
  .obtain rfl:m=vs.length:=by omega
   rw[Mn,GW _ _ _ _ (by rw[B.1.len];exact f)];exact⟨⟨v,fun h=>Bool.noConfusion h,fun _=>⟨g1,g2,g5,g7⟩⟩,fun _=>⟨k,by omega,by rw[FT _ _ _ _ p];exact g6.symm⟩⟩
 .rw [FT _ _ _ _ (by omega)]at d;exact C5 _ (B.1.done m g q d)
 .rw [AJ];have:=B.1.le;omega
 .rw [AJ];omega
 .rw [FT _ _ _ _ p]at h2 ⊢
  rcases BF l r with C|D
  .exact C5 _ (B.2.2 l C h2)
  .obtain rfl:l=r:=by omega
   rw[s];simp
theorem Qx.done (B:Qx u N rows hops vs k r) (h:(rows (vs.getD k 0)).length<=r):Bfs u N rows hops vs (k+1):=by
 obtain⟨d,n,f⟩:=B;refine { d with done:=fun m o b e=>?_,le:=by omega };rcases BF m k with c|g
 .exact d.done m c b e
 .obtain rfl:m=k:=by omega
  obtain⟨i,a,j⟩:=Bp.1 e;have:=f i (by omega) a;rw[AC (l:=rows _),AG a]at this;rw[j]at this;exact this
end
def Has (row:List Bx) (p q:Int) (a b:List UInt8):Prop:=∃e∈row,e.p=p/\e.q=q/\bl e.a=a/\bl e.b=b
def X2b (u:Fs) (N:Nat) (place:List Int) (k:Nat) (e:Bx):Prop:=(0<=e.p/\e.p<N/\0<=e.q/\e.q<N)/\Ep u e.p e.q (bl e.a) (bl e.b)/\(bl e.a=[]\/bl e.b=[])/\KM u e.p e.q/\(-1<=e.fr/\e.fr<k)/\e.c<256/\(e.a.size<=1025*(k+1)/\e.b.size<=1025*(k+1)) /\place.getD (ix N e.p e.q) 0=(k:Int)+1/\∀x∈u.ends,∀y∈u.ends,x.st=e.p->y.st=e.q->bl e.a++bl x.out=bl e.b++bl y.out
structure Srch (u:Fs) (N:Nat) (row:List Bx) (place:List Int) (found:Bool):Prop where
 plen:place.length=N*N
 good:∀k,k<row.length->X2b u N place k (row.getD k JZ)
 plc:∀i,i<N*N->place.getD i 0=0\/∃k,k<row.length/\place.getD i 0=(k:Int)+1/\ix N (row.getD k JZ).p (row.getD k JZ).q=i
 fnd:found=true->KH u
section
variable {u:Fs} {N:Nat} {row row':List Bx} {place:List Int} {found:Bool}
theorem Has.mono {p q:Int} {a b:List UInt8} (h:Has row p q a b) (c:row <+: row'):Has row' p q a b:=by obtain⟨e,d,h⟩:=h;obtain⟨r,rfl⟩:=c;exact⟨e,C5 _ d,h⟩
theorem Srch.start:Srch u N [] (List.replicate (N*N) 0) false:=⟨by simp,fun k h=>absurd h (by simp),fun i hi=>.inl (by rw[AC,CC,AU hi];rfl),fun h=>by cases h⟩
theorem Srch.short (S:Srch u N row place found):row.length<=N*N:=by
 have a:((List.range row.length).map fun k=>ix N (row.getD k JZ).p (row.getD k JZ).q).Nodup:=by unfold List.Nodup;rw[List.pairwise_map];refine List.Pairwise.imp_of_mem ?_ E5;intro x y b c d e;have g1:=(S.good x (BE.1 b)).2.2.2.2.2.2.2.1;have g2:=(S.good y (BE.1 c)).2.2.2.2.2.2.2.1;rw[e]at g1;rw[g1]at g2;omega
 have:=JS (N:=N*N) a fun i hi=>by obtain⟨k,f,rfl⟩:=Bd.1 hi;obtain⟨⟨h1,h2,h3,h4⟩,_⟩:=S.good k (BE.1 f);exact L8 h1 h2 h3 h4
 rwa [A6,EA]at this
theorem Srch.at_ (S:Srch u N row place found) {p q:Int} (h1:0<=p) (h2:p<N) (h3:0<=q) (h4:q<N) (h:place.getD (ix N p q) 0≠0):∃k,k<row.length/\place.getD (ix N p q) 0=(k:Int)+1/\(row.getD k JZ).p=p/\(row.getD k JZ).q=q:=by
 rcases S.plc _ (L8 h1 h2 h3 h4)with h0|⟨k,a,b,c⟩
 .exact absurd h0 h
 .obtain ⟨⟨g1,g2,g3,g4⟩,_⟩:=S.good k a;obtain⟨d,e⟩:=X2a g1 g3 g4 h1 h3 h4 c;exact⟨k,a,b,d,e⟩
theorem Srch.tell (S:Srch u N row place found) (h:KH u) (b:Bool):Srch u N row place b:=⟨S.plen,S.good,S.plc,fun _=>h⟩
theorem Srch.put (S:Srch u N row place found) {e:Bx} (d:0<=e.p/\e.p<N/\0<=e.q/\e.q<N) (n:Ep u e.p e.q (bl e.a) (bl e.b)) (h1:bl e.a=[]\/bl e.b=[]) (j:KM u e.p e.q) (o:-1<=e.fr/\e.fr<row.length) (r:e.c<256) (s:e.a.size<=1025*(row.length+1)/\e.b.size<=1025*(row.length+1)) (t:∀x∈u.ends,∀y∈u.ends,x.st=e.p->y.st=e.q->bl e.a++bl x.out=bl e.b++bl y.out) (h0:place.getD (ix N e.p e.q) 0=0) :Srch u N (row++[e]) (place.set (ix N e.p e.q) ((row.length:Int)+1)) found:=by
 have hi:=L8 d.1 d.2.1 d.2.2.1 d.2.2.2;have f:ix N e.p e.q<place.length:=by rw[S.plen];exact hi
 refine⟨by rw[DU];exact S.plen,fun k l=>?_,fun i m=>?_,S.fnd⟩
 .rw [AJ,BJ]at l
  by_cases g:k<row.length
  .rw [FT _ _ _ _ g];obtain⟨g1,g2,g3,g4,g5,g6,g7,g8,g9⟩:=S.good k g;refine⟨g1,g2,g3,g4,g5,g6,g7,?_,g9⟩;rw[getD_set_ne _ _ _ _ _ (fun v=>by rw[v,g8]at h0;omega)];exact g8
  .obtain rfl:k=row.length:=by omega
   rw[Mn];exact⟨d,n,h1,j,⟨o.1,by omega⟩,r,s,by rw[GW _ _ _ _ f],t⟩
 .by_cases g:ix N e.p e.q=i
  .subst g;refine .inr ⟨row.length,by simp,by rw[GW _ _ _ _ f],by rw[Mn]⟩
  .rw [getD_set_ne _ _ _ _ _ g]
   rcases S.plc i m with h|⟨k,l,h2,h3⟩
   .exact .inl h
   .exact .inr ⟨k,by simp;omega,h2,by rw[FT _ _ _ _ l];exact h3⟩
def Mo (u:Fs) (row:List Bx) (k:Nat):Prop:=∀x∈u.arcs,∀y∈u.arcs,x.fr=(row.getD k JZ).p->y.fr=(row.getD k JZ).q->∀c:UInt8,x.set.m c.toNat=true->y.set.m c.toNat=true->KM u x.to y.to ->Has row x.to y.to (Dc (bl (row.getD k JZ).a++x.put c) (bl (row.getD k JZ).b++y.put c)).1 (Dc (bl (row.getD k JZ).a++x.put c) (bl (row.getD k JZ).b++y.put c)).2
def I8 (u:Fs) (row:List Bx):Prop:=∀x∈u.starts,∀y∈u.starts,KM u x.st y.st->Has row x.st y.st (Dc (bl x.out) (bl y.out)).1 (Dc (bl x.out) (bl y.out)).2
theorem Mo.mono {k:Nat} (h:Mo u row k) (a:k<row.length) (b:row <+: row'):Mo u row' k:=by intro x d y e h1 h2 c h3 h4 h5;obtain⟨r,rfl⟩:=b;rw[FT _ _ _ _ a]at h1 h2 ⊢;exact(h x d y e h1 h2 c h3 h4 h5).mono (Cj _ _)
theorem I8.mono (h:I8 u row) (a:row <+: row'):I8 u row':=fun x b y c h1=>(h x b y c h1).mono a
theorem Srch.one (S:Srch u N row place found) (B:I8 u row) (C:∀k,k<row.length->Mo u row k):Qw u:=by
 have j:∀e∈row,∀m∈row,e.p=m.p->e.q=m.q->e=m:=by
  intro e g m s h1 h2;obtain⟨k,i,rfl⟩:=Bp.1 g;obtain⟨A,o,rfl⟩:=Bp.1 s;have g1:=(S.good k i).2.2.2.2.2.2.2.1;have g2:=(S.good A o).2.2.2.2.2.2.2.1;rw[AC,AC,AG i,DV]at g1;rw[AC,AC,AG o,DV]at g2;rw[h1,h2]at g1;rw[g1]at g2;obtain rfl:k=A:=by omega
  rfl
 have d:∀{p q:Int} {a b:List UInt8},Has row p q a b->((row.find? fun e=>e.p==p && e.q==q).map fun e=>(bl e.a,bl e.b))=some (a,b):=by
  rintro p q a b ⟨e,g,h1,h2,h3,h4⟩;rcases n:row.find? fun e=>e.p==p && e.q==q with _|m
  .have:=List.find?_eq_none.1 n e g;simp[h1,h2]at this
  .have t:=List.mem_of_find?_eq_some n;have l:=List.find?_some n;simp only[AW,DF]at l;have D:=j m t e g (by rw[l.1,h1]) (by rw[l.2,h2]);rw[n,D];simp[h3,h4]
 have r:∀{p q:Int} {a b:List UInt8},((row.find? fun e=>e.p==p && e.q==q).map fun e=>(bl e.a,bl e.b))=some (a,b)->∃k,k<row.length/\(row.getD k JZ).p=p/\(row.getD k JZ).q=q/\bl (row.getD k JZ).a=a/\bl (row.getD k JZ).b=b:=by
  intro p q a b h;obtain⟨e,g,h2⟩:=CU.1 h;have t:=List.mem_of_find?_eq_some g;have l:=List.find?_some g;simp only[AW,DF]at l;obtain⟨k,i,rfl⟩:=Bp.1 t;injection h2 with h3 h4
  refine⟨k,i,?_⟩;rw[AC,AG i,DV];exact⟨l.1,l.2,h3,h4⟩
 refine Held1.one (L:=fun p q=>(row.find? fun e=>e.p==p && e.q==q).map fun e=>(bl e.a,bl e.b)) ⟨fun x v y w z=>?_,fun p q a b h e g f n E f1=>?_,fun p q a b h x v y w h1 h2 c h3 h4 z=>?_⟩
 .exact d (B x v y w z)
 .obtain ⟨k,i,rfl,rfl,rfl,rfl⟩:=r h;exact(S.good k i).2.2.2.2.2.2.2.2 e g f n E f1
 .obtain ⟨k,i,rfl,rfl,rfl,rfl⟩:=r h;exact d (C k i x v y w h1 h2 c h3 h4 z)
end
end
end Go.Proofs.YtcondkihpmmnnaaGreatDoor
