/- Lemmas, part 8 of 50. No condition. -/
import Derived.Test.YtcondkihpmmnnaaGreatDoorTwin07
set_option maxRecDepth 100000
set_option maxHeartbeats 16000000
namespace Go.Proofs.YtcondkihpmmnnaaGreatDoor
section
open Go.RowKit Go.Sort
section
variable {P:Program} {ops:Array Oper} {md:Region.Mode} {S:World->Prop} {Q:Exit->Act->World->Prop}
def N4 (P:Program) (ops:Array Oper) (S:World->Prop) (Q:Exit->Act->World->Prop) (tail:List Oper):Nat->List Nat->Act->World->Prop
 | 0,_,a,w=>wpList P ops Q tail a w
 | n+1,is,a,w=>∀i∈is,∃o,ops[i]?=some o/\o.guard=none/\o.wp P a w (fun a' w'=>S w'/\N4 P ops S Q tail n (is.erase i) a' w') Q
def fanB (md:Region.Mode) (ops:Array Oper) (n g:Nat):Nat->List Nat->Array Bool->Bool
 | 0,_,listed=>Region.seqB md ops g n listed
 | k+1,is,listed=>decide (Region.ready md ops listed=is) && !is.isEmpty && is.all fun i=>decide (i<n) && fanB md ops n g k (is.erase i) (listed.setIfInBounds i true)
theorem Rq {n g:Nat} {tail:List Oper} (t:(ops.toList.drop n)=tail) :∀(k:Nat) (f:List Nat) (listed:Array Bool) (a:Act) (w:World),fanB md ops n g k f listed=true->N4 P ops S Q tail k f a w ->N2 P md ops Q S n (fun b i w'=>Region.seqB md ops g n b=true/\wpList P ops Q tail i w') k listed a w
 | 0,_,_,_,_,hB,h=>⟨hB,h⟩
 | k+1,f,listed,a,w,hB,h=>by
  simp only[fanB,AW,BB,CS]at hB;obtain⟨⟨r,c⟩,d⟩:=hB;refine⟨by rw[r];intro e;rw[e]at c;simp at c,fun j l=>?_⟩;rw[r]at l;obtain⟨m,p⟩:=d j l;obtain⟨o,u,v,x⟩:=h j l;refine⟨m,?_⟩;unfold wpOp;simp only[u];have q:Region.wanted o (yielded ops a.tmps)=true:=by simp[Region.wanted,v]
  rw[AU q];exact .inl (Oper.wp_mono (fun i w' s=>⟨s.1,Rq t k _ _ i w' p s.2⟩) x)
def QR (md:Region.Mode) (ops:Array Oper) (n:Nat) (qs is:List Nat):Bool:=
 Region.noSelect ops && decide (n<ops.size) && Region.sinkB md ops n && Region.chainB md ops n && Od md ops n qs (Array.replicate ops.size false) &&
  fanB md ops n (ops.size-n) is.length is (N3 qs (Array.replicate ops.size false))
theorem RN {id:Nat} {a:Act} {w:World} {l:List Oper} (S:World->Prop) (n:Nat) (q b:List Nat) (r:List Oper) (C:P.follows .mixedOrders=true) (y:QR .any l.toArray n q b=true) (e:q.length+b.length=n) (D:q.map (fun i=>l.toArray[i]?)=r.map some) (E:∀c a d v w,Q (.panic c) (a.put d v) w->Q (.panic c) a w) (F:S w.drew) (h:wpQuiet P l.toArray S (fun f=>N4 P l.toArray S Q (l.drop n) b.length b f w.drew) r a):(Code.region id l.toArray true).wp P Q a w:=by
 simp only[QR,AW,BB]at y;obtain⟨⟨⟨⟨⟨k,z⟩,G⟩,I⟩,s⟩,u⟩:=y;have o:(l.drop n).length=l.toArray.size-n:=by simp
 have p:HeadInv .any l.toArray n (Array.replicate l.toArray.size false):=⟨by simp,fun j L _ A=>(by rw[C0]at A;cases A),fun t _ J=>getD_in (by simpa using J) (C0 _ _)⟩;have H:=J5 (P:=P) (S:=S) (md:=.any) (g:=l.toArray.size-n) (tail:=l.drop n) (m:=b.length) k G I z E F (fun f x=>Rq rfl b.length b _ f _ u x) q r _ a D p s rfl h;refine wp_region_any C ?_;have:=Ih (P:=P) (S:=S) (g:=l.toArray.size-n) (fun listed f w' B=>by have:=wpAny_of_seq (md:=.any) (Q':=Q) (l.drop n) n listed f w' (fun j=>by simp[Dt]) (by rw[o];exact B.1) B.2;rwa [o]at this) _ _ _ _ H;have K:n<l.toArray.size:=z;rw[e,show n+(l.toArray.size-n)=l.toArray.size by omega]at this;exact this
theorem H_ {id:Nat} {a:Act} {w:World} {l:List Oper} (n:Nat) (b c:List Nat) (g:P.follows .mixedOrders=true) (j:QR .any l.toArray n b c=true) (e:b.length+c.length=n) (f:(b.all fun i=>decide (i<l.length))=true) (h:wpQuiet P l.toArray (fun w'=>∃p:Regrown,w'=grow (redrawn w p.d) p.os) (fun k=>N4 P l.toArray (fun w'=>∃p:Regrown,w'=grow (redrawn w p.d) p.os) (NoPanic Q) (l.drop n) c.length c k w.drew) (CV l b) a) :(Code.region id l.toArray true).wp P Q a w:=by refine wp_region_noPanic ?_;exact RN (fun w'=>∃p:Regrown,w'=grow (redrawn w p.d) p.os) n b c _ g j e (FS l b f) (fun _ _ _ _ _ h=>h) ⟨⟨w.drawn+1,#[]⟩,by rw[F_];rfl⟩ h
structure Maker (P:Program) (Q:Exit->Act->World->Prop) (base:Act) (w:World) (ds:List Tmp) (o:Oper) (d:Tmp) (F:Value->World->Prop):Prop where
 dst:o.dst=some d
 guard:o.guard=none
 stays:∀v W W',F v W->Below W.heap.size W W'->F v W'
 makes:∀act W K,(∀x,x∉ds->act.tmps[x]?=base.tmps[x]?)->Below w.heap.size w W->(∀v W',Below W.heap.size W W'->F v W'->K (act.put (some d) v) W')->o.wp P act W K Q
theorem DQ {a:Act} {base:Act} {d:Tmp} {ds:List Tmp} {v:Value} (f:d∈ds) (h:∀x,x∉ds->a.tmps[x]?=base.tmps[x]?):∀x,x∉ds->(a.put (some d) v).tmps[x]?=base.tmps[x]?:=fun x c=>by
 have b:d≠x:=fun e=>c (e▸f)
 have e:(a.put (some d) v).tmps=a.tmps.setIfInBounds d v:=rfl;rw[e,GD b];exact h x c
theorem put_comm (a:Act) {d e:Tmp} (h:d≠e) (v u:Value):(a.put (some d) v).put (some e) u=(a.put (some e) u).put (some d) v:=by show({ a with tmps:=(a.tmps.setIfInBounds d v).setIfInBounds e u }:Act)={ a with tmps:=(a.tmps.setIfInBounds e u).setIfInBounds d v };rw[Array.setIfInBounds_comm _ _ h]
theorem fan2 {base:Act} {w:World} {tail:List Oper} {i j:Nat} {o q:Oper} {di dj:Tmp} {v z:Value->World->Prop} (s:i≠j) (B:di≠dj) (hi:ops[i]?=some o) (A:ops[j]?=some q) (k:Maker P Q base w [di,dj] o di v) (l:Maker P Q base w [di,dj] q dj z) (h:∀f g W,Below w.heap.size w W->v f W->z g W->wpList P ops Q tail ((base.put (some di) f).put (some dj) g) W) :N4 P ops (fun w'=>∃p:Regrown,w'=grow (redrawn w p.d) p.os) Q tail 2 [i,j] base w:=by
 intro x r;rcases Bh.1 r with rfl|r
 .refine ⟨o,hi,k.guard,k.makes base w _ (fun _ _=>rfl) (AH _ _) fun f t a c=>⟨A5 a,?_⟩⟩;rw[show([x,j]:List Nat).erase x=[j]by simp];intro y m;rw[AM]at m;subst m;refine⟨q,A,l.guard,l.makes _ t _ (DQ (by simp) fun _ _=>rfl) a fun g u b e=>?_⟩;have n:=a.trans (b.mono a.size);exact⟨A5 n,h f g u n (k.stays _ _ _ c b) e⟩
 .rw [AM]at r;subst r;refine⟨q,A,l.guard,l.makes base w _ (fun _ _=>rfl) (AH _ _) fun g u b e=>⟨A5 b,?_⟩⟩;rw[show([i,x]:List Nat).erase x=[i]by simp[s]];intro y m;rw[AM]at m;subst m;refine⟨o,hi,k.guard,k.makes _ u _ (DQ (by simp) fun _ _=>rfl) b fun f t a c=>?_⟩;have n:=b.trans (a.mono b.size);refine⟨A5 n,?_⟩;rw[put_comm _ (CF B)];exact h f g t n c (l.stays _ _ _ e a)
theorem fan3 {base:Act} {w:World} {tail:List Oper} {i j k:Nat} {G H ok:Oper} {di dj dk:Tmp} {Fi Fj Fk:Value->World->Prop} (I:i≠j) (J:i≠k) (K:j≠k) (hd:di≠dj) (L:di≠dk) (M:dj≠dk) (hi:ops[i]?=some G) (hj:ops[j]?=some H) (hk:ops[k]?=some ok) (N:Maker P Q base w [di,dj,dk] G di Fi) (O:Maker P Q base w [di,dj,dk] H dj Fj) (mk:Maker P Q base w [di,dj,dk] ok dk Fk) (h:∀o v A W,Below w.heap.size w W->Fi o W->Fj v W->Fk A W->wpList P ops Q tail (((base.put (some di) o).put (some dj) v).put (some dk) A) W) :N4 P ops (fun w'=>∃p:Regrown,w'=grow (redrawn w p.d) p.os) Q tail 3 [i,j,k] base w:=by
 have two:∀(x y:Nat) (R S:Oper) (T U:Tmp) (Fx Fy:Value->World->Prop) (a:Act) (W0:World),x≠y->ops[x]?=some R->ops[y]?=some S->Maker P Q base w [di,dj,dk] R T Fx->Maker P Q base w [di,dj,dk] S U Fy->T∈[di,dj,dk]->U∈[di,dj,dk]->T≠U ->(∀z,z∉[di,dj,dk]->a.tmps[z]?=base.tmps[z]?)->Below w.heap.size w W0->(∀E F W,Below W0.heap.size W0 W->Fx E W->Fy F W->wpList P ops Q tail ((a.put (some T) E).put (some U) F) W) ->N4 P ops (fun w'=>∃p:Regrown,w'=grow (redrawn w p.d) p.os) Q tail 2 [x,y] a W0:=by
  intro x y R S T U Fx Fy a W0 aa V hy X Y ab ac ad q b ht z hz;rcases Bh.1 hz with rfl|hz
  .refine ⟨R,V,X.guard,X.makes a W0 _ q b fun E Wx c C=>?_⟩;have f:=b.trans (c.mono b.size);refine⟨A5 f,?_⟩;rw[show([z,y]:List Nat).erase z=[y]by simp];intro u Z;rw[AM]at Z;subst Z;refine⟨S,hy,Y.guard,Y.makes _ Wx _ (DQ ab q) f fun F Wy e D=>?_⟩;have g:=c.trans (e.mono c.size);exact⟨A5 (b.trans (g.mono b.size)),ht E F Wy g (X.stays _ _ _ C e) D⟩
  .rw [AM]at hz;subst hz;refine⟨S,hy,Y.guard,Y.makes a W0 _ q b fun F Wy e D=>?_⟩;have f:=b.trans (e.mono b.size);refine⟨A5 f,?_⟩;rw[show([x,z]:List Nat).erase z=[x]by simp[aa]];intro u Z;rw[AM]at Z;subst Z;refine⟨R,V,X.guard,X.makes _ Wy _ (DQ ac q) f fun E Wx c C=>?_⟩;have g:=e.trans (c.mono e.size);refine⟨A5 (b.trans (g.mono b.size)),?_⟩;rw[put_comm _ (CF ad)];exact ht E F Wx g C (Y.stays _ _ _ D c)
 intro x V;simp only[Bh,BP,Eg]at V;rcases V with rfl|rfl|rfl
 .refine ⟨G,hi,N.guard,N.makes base w _ (fun _ _=>rfl) (AH _ _) fun o Wi r l=>⟨A5 r,?_⟩⟩
  rw[show([x,j,k]:List Nat).erase x=[j,k]by simp];refine two j k H ok dj dk Fj Fk _ Wi K hj hk O mk (by simp) (by simp) M (DQ (by simp) fun _ _=>rfl) r fun v A W B m n=>?_
  exact h o v A W (r.trans (B.mono r.size)) (N.stays _ _ _ l B) m n
 .refine ⟨H,hj,O.guard,O.makes base w _ (fun _ _=>rfl) (AH _ _) fun v Wj s m=>⟨A5 s,?_⟩⟩
  rw[show([i,x,k]:List Nat).erase x=[i,k]by simp[I]];refine two i k G ok di dk Fi Fk _ Wj J hi hk N mk (by simp) (by simp) L (DQ (by simp) fun _ _=>rfl) s fun o A W B l n=>?_
  rw[put_comm base (CF hd)];exact h o v A W (s.trans (B.mono s.size)) l (O.stays _ _ _ m B) n
 .refine ⟨ok,hk,mk.guard,mk.makes base w _ (fun _ _=>rfl) (AH _ _) fun A Wk t n=>⟨A5 t,?_⟩⟩
  rw[show([i,j,x]:List Nat).erase x=[i,j]by simp[J,K]];refine two i j G H di dj Fi Fj _ Wk I hi hj N O (by simp) (by simp) hd (DQ (by simp) fun _ _=>rfl) t fun o v W B l m=>?_
  rw[put_comm base (CF L),put_comm (base.put (some di) o) (CF M)];exact h o v A W (t.trans (B.mono t.size)) l m (mk.stays _ _ _ n B)
end
end
section
open Go.Maps (Keyed)
theorem QU:Keyed Tryz.prog 9:=Maps.string_keyed Tryz.underlying9
def NP (w:World) (b:Nat) (ks:List (List UInt8)):Prop:=∃n,∃D:DataW Unit,w.ownsMap Tryz.prog 9 (plainElem Tryz.prog 3) b n D/\n<=ks.length/\Maps.Tidy D/\Maps.IsMap D/\Maps.size D=ks.length/\ks.Nodup /\∀k:List UInt8,(Maps.has D (.string k)=true↔k∈ks)/\∀i:Nat,ks[i]?=some k->D.atKey (.string k) (.lit (.int .i64 0))=.lit (.int .i64 (i:Int))
section
variable {w w':World} {b:Nat} {ks:List (List UInt8)}
theorem NP.made (w:World):NP (w.alloc (.map #[] 0)) w.heap.size []:=⟨0,_,World.ownsMap_made w Tryz.prog 9 _,AD _,(World.ownsMap_made (H:=Unit) w Tryz.prog 9 (plainElem Tryz.prog 3)).tidy QU,Maps.isMap_empty,rfl,List.nodup_nil,fun k=>⟨by simp[Maps.has],fun i h=>by simp at h⟩⟩
theorem NP.kept {row:Option Nat} (h:NP w b ks) (c:w.grownBy w' row) (a:some b≠row):NP w' b ks:=by obtain⟨n,D,h1,h2⟩:=h;exact⟨n,D,h1.kept c a,h2⟩
theorem NP.below {B:Nat} (h:NP w b ks) (a:RowKit.Below B w w') (c:w.heap.size<=B):NP w' b ks:=h.kept (row:=none) ⟨a.os,a.tape,a.output,a.size,fun k d _=>a.block k (by omega)⟩ (by simp)
theorem NP.lt (h:NP w b ks):b<w.heap.size:=by obtain⟨n,D,h1,_⟩:=h;exact h1.lt
theorem Wb {n:Nat} {D:DataW Unit} (h2:n<=ks.length) (m:Maps.Tidy D) (h3:Maps.IsMap D) (o:Maps.size D=ks.length) (p:ks.Nodup) (h4:∀k:List UInt8,(Maps.has D (.string k)=true↔k∈ks)/\∀i:Nat,ks[i]?=some k->D.atKey (.string k) (.lit (.int .i64 0))=.lit (.int .i64 (i:Int))) (x:List UInt8) (g:x∉ks) (d:Maps.has D (.string x)=false) (j:WideAt.IsKeyLit (.string x)) (f:w'.ownsMap Tryz.prog 9 (plainElem Tryz.prog 3) b (n+1) (D.put (.string x) (.lit (.int .i64 (ks.length:Int))))):NP w' b (ks++[x]):=by
 refine⟨n+1,_,f,by rw[AJ,BJ];omega,f.tidy QU,f.isMap,?_,?_,fun k=>?_⟩
 .rw [Maps.size_put m,d,o,AJ];rfl
 .rw [List.nodup_append];exact⟨p,by simp,fun a q b l=>by rw[AM]at l;subst l;exact fun e=>g (e▸q)⟩
 .by_cases e:k=x
  .subst e
   refine⟨by rw[Maps.has_put_same h3 j];simp,fun i hi=>?_⟩;rw[Maps.atKey_put_same h3 j]
   have:i=ks.length:=by
    rcases Fz i ks.length with h|h|h
    .rw [Bi h]at hi;exact absurd (Cl hi) g
    .exact h
    .rw [AY (by simp;omega)]at hi;cases hi
   rw[this]
  .have c:(Lit.string k)≠.string x:=fun h=>e (by injection h)
   refine⟨by rw[Maps.has_put_other c,(h4 k).1,Bj,AM];simp[e],fun i hi=>?_⟩;rw[Maps.atKey_put_other c];refine(h4 k).2 i ?_;rcases BF i ks.length with h|h
   .rw [Bi h]at hi;exact hi
   .rw [CT h]at hi
    rcases B7 (i-ks.length)with h0|h0
    .rw [h0]at hi;simp at hi;exact absurd hi.symm e
    .rw [AY (by simp;omega)]at hi;cases hi
end
end
section
open Go.RowKit Go.Sort
section
variable {P:Program} {ops:Array Oper} {Q:Exit->Act->World->Prop}
structure FanInv (P:Program) (base:Act) (w:World) (ds:List Tmp) (mk:Nat->Tmp×(Value->World->Prop)) (is0 is:List Nat) (a:Act) (W:World):Prop where
 defers:a.defers=base.defers
 size:a.tmps.size=base.tmps.size
 same:∀x,x∉ds->a.tmps[x]?=base.tmps[x]?
 bel:Below w.heap.size w W
 made:∀i∈is0,i∉is->∃v,a.tmps[(mk i).1]?=some v/\(mk i).2 v W
theorem Ph {a base:Act} {d1 d2 d3 d4:Tmp} {e v2 v3 v4:Value} (g:a.defers=base.defers) (i:a.tmps.size=base.tmps.size) (j:∀x,x∉[d1,d2,d3,d4]->a.tmps[x]?=base.tmps[x]?) (h1:a.tmps[d1]?=some e) (h2:a.tmps[d2]?=some v2) (h3:a.tmps[d3]?=some v3) (h4:a.tmps[d4]?=some v4):a=(((base.put (some d1) e).put (some d2) v2).put (some d3) v3).put (some d4) v4:=by
 obtain⟨t,o⟩:=a;obtain⟨k,l⟩:=base;simp only at g i j h1 h2 h3 h4;subst g;have l1:d1<t.size:=(BS.1 h1).1;have l2:d2<t.size:=(BS.1 h2).1;have m:d3<t.size:=(BS.1 h3).1;have n:d4<t.size:=(BS.1 h4).1;show Act.mk _ _=Act.mk _ _;congr 1;apply Array.ext_getElem?;intro x;show t[x]?=((((k.setIfInBounds d1 e).setIfInBounds d2 v2).setIfInBounds d3 v3).setIfInBounds d4 v4)[x]?;simp only[Gk,GA,<-i];by_cases b:d4=x
 .subst b;rw[AU rfl,AU n];exact h4
 .by_cases c:d3=x
  .subst c;rw[AP b,AU rfl,AU m];exact h3
  .by_cases d:d2=x
   .subst d;rw[AP b,AP c,AU rfl,AU l2];exact h2
   .by_cases f:d1=x
    .subst f;rw[AP b,AP c,AP d,AU rfl,AU l1];exact h1
    .simp only[b,c,d,f,Ef];exact j x (by simp[CF f,CF d,CF c,CF b])
end
end
section
open Go.RowKit
theorem St.both_w (s t:St) (h:OU s) (_h':OU t):OU (s.both t):=⟨Du Nat.and_le_left h.1,Du Nat.and_le_left h.2.1,Du Nat.and_le_left h.2.2.1,Du Nat.and_le_left h.2.2.2⟩
theorem LN (s t:St) (h:OU s) (f:OU t) (w:World) :Calls Tryz.prog 58 #[.agg #[.int .u64 (s.a:Int),.int .u64 (s.b:Int),.int .u64 (s.c:Int),.int .u64 (s.d:Int)],.agg #[.int .u64 (t.a:Int),.int .u64 (t.b:Int),.int .u64 (t.c:Int),.int .u64 (t.d:Int)]] w (C7 (.agg #[.int .u64 ((s.both t).a:Int),.int .u64 ((s.both t).b:Int),.int .u64 ((s.both t).c:Int),.int .u64 ((s.both t).d:Int)]) w):=by
 obtain⟨g,i,j,l⟩:=St.word_m s h;obtain⟨f1,f2,f3,f4⟩:=St.word_m t f;obtain⟨g1,g2,g3,g4⟩:=St.word_m (s.both t) (St.both_w s t h f);have n:∀k,(s.both t).m k=JW s.m t.m k:=fun k=>St.both_m s t k
 have e:(s.both t).m=JW s.m t.m:=funext n;have:=ZE s.m t.m w;rw[<-e]at this;rw[<-g,<-i,<-j,<-l,<-f1,<-f2,<-f3,<-f4,<-g1,<-g2,<-g3,<-g4]at this;exact this
theorem neqS (s:St) (W:World):(binOp .neq 58 (.agg #[.int .u64 (s.a:Int),.int .u64 (s.b:Int),.int .u64 (s.c:Int),.int .u64 (s.d:Int)]) (.agg #[.int .u64 0,.int .u64 0,.int .u64 0,.int .u64 0])).run Tryz.prog W=.ok (.bool (decide (s≠St.none))) W:=by rw[XT W];congr 2;rw[DS];obtain⟨s1,s2,s3,e⟩:=s;simp[St.none]
end
section
open Go.RowKit Go.Sort
theorem NH (m:Nat->Bool) (i:Nat) (h:∀k,k<64->m (64*i+k)=false):word m i=0:=Jc 0 (by decide) m i (fun k a=>by rw[h k a];simp)
theorem Ui (m:Nat->Bool) (h:∀b,m b=false):Es m=#[.int .u64 0,.int .u64 0,.int .u64 0,.int .u64 0]:=by unfold Es;rw[NH m 0 (fun _ _=>h _),NH m 1 (fun _ _=>h _),NH m 2 (fun _ _=>h _),NH m 3 (fun _ _=>h _)];rfl
def GL (l:List Nat):List Value:=l.map fun b=>.int .u8 ((b:Nat):Int)
theorem YF {w:World} {B n:Nat} {A:Option Addr} {l:List Nat} (b:Reads w B 1 A n (GL l)) (k:Nat) (c:k<l.length) :∃a,A=some a/\w.cell? (a.add k)=some (.int .u8 ((l[k]:Nat):Int)):=by have d:=b.1;simp[GL]at d;obtain⟨a,e,_,f⟩:=b.2 (by omega);exact⟨a,e,f k _ (by simp[GL,c])⟩
theorem V4 (A:Option Addr) (n c B:Nat) (l:List Nat) (w:World) (f:Reads w B 1 A n (GL l)) (s:B<=w.heap.size) (o:∀b∈l,b<256) (C:n<=c) (t:c<=maxLen) :Calls Tryz.prog 19 #[.slice A n c] w (C7 (.agg #[.int .u64 ((word ((Gy l)) 0:Nat):Int),.int .u64 ((word ((Gy l)) 1:Nat):Int),.int .u64 ((word ((Gy l)) 2:Nat):Int),.int .u64 ((word ((Gy l)) 3:Nat):Int)]) w):=by
 have q:=f.more s;clear f;have r:=q.1;simp[GL]at r;subst r;unfold maxLen at t;have u:=AB o;clear o;go_enter Tryz.func19,Tryz.ntmps19;go_wp2;go_loopw [5,8] (fun _ i wr=>∃k:Nat,k<=l.length/\i=.int .i64 k/\BL wr (w.heap.size+1) 58 (Es (Gy (l.take k))) /\BL wr w.heap.size 58 #[.int .u64 0,.int .u64 0,.int .u64 0,.int .u64 0]/\Below w.heap.size w wr) (fun _ i _=>l.length-(intOf i).toNat)
 case atStart=>
  refine⟨0,by omega,rfl,?_,?_,(((AH _ _).alloc (AD _) _).alloc (by simp) _)⟩
  .rw [Ui _ (fun _=>by simp[Gy])];have:=BL.new (w.alloc (.cells #[.int .u64 0,.int .u64 0,.int .u64 0,.int .u64 0] 58)) 58 #[.int .u64 0,.int .u64 0,.int .u64 0,.int .u64 0];simp only[Ad]at this;exact this
  .exact (BL.new w _ _).alloc _
 case round=>
  obtain⟨k,D,rfl,d,a,j⟩:=hrel;by_cases e:k<l.length
  .obtain ⟨E,rfl,x⟩:=YF (q.below j) k e
   have m:=u.out _ (CI e);have g:l.take (k+1)=l.take k++[l[k]]:=Bq e;generalize l[k]=b at *;have y:=d.cellAt (b / 64) (by omega);have f0:=d.frozen (b / 64);have z:=AB g;clear g;go_wp2;go_roundw
   case rel=>refine⟨k+1,by omega,by go_num,?_,(a.far (p:=⟨w.heap.size+1,b / 64,none⟩) (by simp) _),(j.setCell (p:=⟨w.heap.size+1,b / 64,none⟩) (by simp) _)⟩;rw[z.out,Ys,<-VG _ b m];exact d.set_ (b / 64) _
   case measure=>simp[intOf];omega
  .have g:l.take k=l:=BX (by omega)
   rw[g]at d;obtain⟨y,F,G,H⟩:=d.cells4;have g0:=a.cell 0;have g1:=a.cell 1;have g2:=a.cell 2;have g3:=a.cell 3;have f0:=a.frozen 0;have f1:=a.frozen 1;have f2:=a.frozen 2;have f3:=a.frozen 3;simp at g0 g1 g2 g3;go_wp2
   exact AQ (v:=.agg #[.int .u64 ((word ((Gy l)) 0:Nat):Int),.int .u64 ((word ((Gy l)) 1:Nat):Int),.int .u64 ((word ((Gy l)) 2:Nat):Int),.int .u64 ((word ((Gy l)) 3:Nat):Int)]) (by simp[results,Tryz.results19,go_sem,g0,g1,g2,g3]) rfl
    ⟨rfl,(((j.setCell (p:=⟨w.heap.size,0,none⟩) (by simp) _).setCell (p:=⟨w.heap.size,1,none⟩) (by simp) _).setCell (p:=⟨w.heap.size,2,none⟩) (by simp) _).setCell (p:=⟨w.heap.size,3,none⟩) (by simp) _⟩
end
end Go.Proofs.YtcondkihpmmnnaaGreatDoor
