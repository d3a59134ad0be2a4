/- Lemmas, part 12 of 50. No condition. -/
import Derived.Test.YtcondkihpmmnnaaGreatDoorTwin11
import Derived.Lib.SmallJoins
import Derived.Deep.Slices
import Derived.Deep.Fields
import Derived.Deep.Grids
import Derived.ChangeSame
set_option maxRecDepth 100000
set_option maxHeartbeats 16000000
namespace Go.Proofs.YtcondkihpmmnnaaGreatDoor
section
inductive SP (t:Fs):List (Int×Int)->List UInt8->List UInt8->Prop
 | start (x y:Tp) (hx:x∈t.starts) (hy:y∈t.starts):SP t [(x.st,y.st)] (Dc (bl x.out) (bl y.out)).1 (Dc (bl x.out) (bl y.out)).2
 | step {vis:List (Int×Int)} {a b:List UInt8} (x y:Ar) (c:UInt8) (h:SP t ((x.fr,y.fr)::vis) a b) (hx:x∈t.arcs) (hy:y∈t.arcs) (h1:x.set.m c.toNat=true) (h2:y.set.m c.toNat=true) (hn:(x.to,y.to)∉(x.fr,y.fr)::vis) :
     SP t ((x.to,y.to)::(x.fr,y.fr)::vis) (Dc (a++x.put c) (b++y.put c)).1 (Dc (a++x.put c) (b++y.put c)).2
section
variable {t:Fs}
theorem SP.lagAt {V:List (Int×Int)} {a b:List UInt8} (h:SP t V a b):∀p q d,V=(p,q)::d->Ep t p q a b:=by
 induction h with
 | start x y hx hy=>intro p q d e;cases e;exact .start hx hy
 | step x y c h hx hy h1 h2 hn ih=>intro p q d e;cases e;exact(ih _ _ _ rfl).step hx hy rfl rfl h1 h2
theorem SP.red {V:List (Int×Int)} {a b:List UInt8} (h:SP t V a b):Red a b:=by
 cases h with
 | start=>exact Ml _ _
 | step=>exact Ml _ _
theorem SP.cut {V:List (Int×Int)} {a b:List UInt8} (h:SP t V a b):∀p q f,V=(p,q)::f->∀l m,(l,m)∈V ->∃d j k,SP t ((l,m)::d) j k/\∃w l1 l2,Way t.arcs l w l1 p/\Way t.arcs m w l2 q/\(a,b)=Dc (j++l1) (k++l2):=by
 have g:∀{V a b},SP t V a b->∀p q f,V=(p,q)::f->∃d j k,SP t ((p,q)::d) j k/\∃w l1 l2,Way t.arcs p w l1 p/\Way t.arcs q w l2 q/\(a,b)=Dc (j++l1) (k++l2):=fun {V a b} h p q f e=>by subst e;exact⟨f,a,b,h,[],[],[],.nil _,.nil _,by rw[BC,BC,Pp h.red]⟩
 induction h with
 | start x y hx hy=>
  intro p q f e l m i;have i:(l,m)=(x.st,y.st):=by simpa using i
  cases i;exact g (.start x y hx hy) _ _ _ rfl |> fun h=>by cases e;exact h
 | @step vis0 a0 b0 x y c h hx hy h1 h2 hn ih=>
  intro p q f e l m i;cases e;rcases Bh.1 i with i|i
  .cases i;exact g (.step x y c h hx hy h1 h2 hn) _ _ _ rfl
  .obtain ⟨d,j,k,n,w,l1,l2,o,r,e⟩:=ih _ _ _ rfl l m i;refine⟨d,j,k,n,w++[c],l1++x.put c,l2++y.put c,o.app (JI hx h1),r.app (JI hy h2),?_⟩;have:=LO (j++l1) (k++l2) (x.put c) (y.put c);rw[<-e]at this;simp only at this;rw[<-Ac,<-Ac,<-this]
theorem SP.nodup {V:List (Int×Int)} {a b:List UInt8} (h:SP t V a b):V.Nodup:=by
 induction h with
 | start=>simp
 | step x y c h hx hy h1 h2 hn ih=>exact Dy.2 ⟨hn,ih⟩
theorem SP.ok (e:FR t) {V:List (Int×Int)} {a b:List UInt8} (h:SP t V a b):∀x∈V,F6 t.n x.1/\F6 t.n x.2:=by
 induction h with
 | start x y hx hy=>
  intro z d;have d:z=(x.st,y.st):=by simpa using d
  subst d;exact⟨e.2.1 x hx,e.2.1 y hy⟩
 | step x y c h hx hy h1 h2 hn ih=>
  intro z d;rcases Bh.1 d with rfl|d
  .exact ⟨(e.2.2.2 x hx).2,(e.2.2.2 y hy).2⟩
  .exact ih z d
theorem SP.short {A S:Nat} (d:∀x∈t.arcs,∀c,(x.put c).length<=A) (e:∀x∈t.starts,x.out.size<=S) {V:List (Int×Int)} {a b:List UInt8} (h:SP t V a b):a.length+A<=S+V.length*A/\b.length+A<=S+V.length*A:=by
 induction h with
 | start x y hx hy=>have:=Mm (bl x.out) (bl y.out);have h1:=e x hx;have h2:=e y hy;rw[CK,CK]at this;simp only[Bn,Co,C8,Nat.one_mul];omega
 | @step vis0 a0 b0 x y c h hx hy h1 h2 hn ih=>have:=Mm (a0++x.put c) (b0++y.put c);rw[AJ,AJ]at this;have g1:=d x hx c;have g2:=d y hy c;rw[Bn,EH];omega
theorem SP.every {K:Nat} (J:∀p q a b,Ep t p q a b->a.length<=K/\b.length<=K):∀(n:Nat) {w:List UInt8} {p q:Int} {u z:List UInt8},w.length=n->Two t w p q u z->∃e a b,SP t ((p,q)::e) a b/\Dc u z=(a,b)
 | 0,w,p,q,u,z,hw,h=>by obtain rfl:=BD hw;obtain⟨⟨x,A,u1,B,rfl⟩,⟨y,C,u2,D,rfl⟩⟩:=h;obtain⟨rfl,rfl⟩:=Way.nil_iff.1 B;obtain⟨rfl,rfl⟩:=Way.nil_iff.1 D;rw[BC,BC];exact⟨_,_,_,.start x y A C,rfl⟩
 | n+1,w,p,q,u,z,hw,h=>by
  have i:w≠[]:=by rintro rfl;cases hw
  obtain⟨v,c,rfl⟩:∃v c,w=v++[c]:=⟨w.dropLast,w.getLast i,(Gm i).symm⟩
  obtain⟨⟨x,A,u1,B,rfl⟩,⟨y,C,u2,D,rfl⟩⟩:=h;obtain⟨U,L,Q,f,j,E,k,F,rfl⟩:=Way.snoc_iff.1 B;obtain⟨V,M,R,g,l,G,m,H,rfl⟩:=Way.snoc_iff.1 D;subst E G F H;obtain⟨e,a,b,N,S⟩:=SP.every J n (by simpa using hw) (⟨⟨x,A,L,Q,rfl⟩,⟨y,C,M,R,rfl⟩⟩:Two t v f.fr g.fr _ _);have d:=LO (bl x.out++L) (bl y.out++M) (f.put c) (g.put c);rw[S]at d;simp only at d;rw[<-Ac,<-Ac,<-d];by_cases o:(f.to,g.to)∈(f.fr,g.fr)::e
  .obtain ⟨r,O,P,s,w',l1,l2,g1,g2,I⟩:=N.cut _ _ _ rfl _ _ o;refine⟨r,O,P,s,?_⟩;have T:=(s.lagAt _ _ _ rfl).loop J (g1.app (JI j k)) (g2.app (JI l m));have:=LO (O++l1) (P++l2) (f.put c) (g.put c);rw[<-I]at this;simp only at this;rw[this,Ac,Ac,T]
  .exact ⟨_,_,_,.step f g c N j l k m o,rfl⟩
theorem Yb (n:Nat) (V:List (Int×Int)) (g:V.Nodup) (h:∀x∈V,F6 n x.1/\F6 n x.2):V.length<=n*n:=by
 have a:(V.map fun x=>(x.1*(n:Int)+x.2).toNat).Nodup:=by unfold List.Nodup;rw[List.pairwise_map];refine List.Pairwise.imp_of_mem ?_ g;intro x y c i d e;obtain⟨⟨f,a2⟩,a3,a4⟩:=h x c;obtain⟨⟨j,t⟩,k,l⟩:=h y i;have m:0<=x.1*(n:Int):=GO f (by omega);have u:0<=y.1*(n:Int):=GO j (by omega);obtain⟨o,r⟩:=Pt (n:=(n:Int)) (p:=x.1) (q:=y.1) ⟨a3,a4⟩ ⟨k,l⟩ (by omega);exact d (Prod.ext o r)
 have b:(V.map fun x=>(x.1*(n:Int)+x.2).toNat) ⊆ List.range (n*n):=by
  intro z s;obtain⟨x,c,rfl⟩:=Bd.1 s;obtain⟨⟨f,a2⟩,a3,a4⟩:=h x c;rw[BE];have h1:(x.1+1)*(n:Int)<=n*n:=Dz (by omega) (by omega);rw[Int.add_mul,Int.one_mul]at h1;have m:0<=x.1*(n:Int):=GO f (by omega);have:((n*n:Nat):Int)=(n:Int)*n:=by simp
  omega
 have:=GQ a b;rwa [A6,EA]at this
theorem PU (f:FR t) {A S K:Nat} (i:∀x∈t.arcs,∀c,(x.put c).length<=A) (j:∀x∈t.starts,x.out.size<=S) (k:∀p q a b,Ep t p q a b->a.length<=K/\b.length<=K) {p q:Int} {a b:List UInt8} (h:Ep t p q a b):a.length<=t.n.toNat*t.n.toNat*A+S/\b.length<=t.n.toNat*t.n.toNat*A+S:=by obtain⟨w,o,r,h,e⟩:=h;obtain⟨l,s,u,d,g⟩:=SP.every k w.length rfl h;rw[e]at g;cases g;have h1:=d.short i j;have m:((t.n.toNat:Nat):Int)=t.n:=AT f.1;have h2:=Yb t.n.toNat _ d.nodup (by rw[m];exact d.ok f);have:=CY A h2;omega
end
theorem Is.tips {t:Fs} {most:Nat} {q:SeqM} {m:Mk} (h:Is t most q m):∀(n:Nat) (w:List UInt8),w.length=n ->(∀x∈t.starts,∀o s,¬Way t.arcs x.st w o s)\/∃i,i<m.rows.length/\(∀y∈m.rows.getD i [],y.out.size<=4096)/\∃c,∀x∈t.starts,∀o s,Way t.arcs x.st w o s->∃y∈m.rows.getD i [],y.st=s/\bl x.out++o=c++bl y.out
 | 0,w,hw=>by
  obtain rfl:=BD hw;obtain⟨l,O,h0⟩:=h.front
  have h1:0<m.rows.length:=by
   rcases BF 0 m.rows.length with h|h
   .exact h
   .rw [AY h]at h0;cases h0
  have d:m.rows.getD 0 []=l:=by rw[AC,h0];rfl
  obtain⟨_,g2,g3,g4⟩:=Hh O;refine .inr ⟨0,h1,by rw[d];exact g2,bl q.front,fun x g o s k=>?_⟩;obtain⟨rfl,rfl⟩:=Way.nil_iff.1 k;rw[d,BC];exact⟨Ie q.front.size x,(g3 _).2 ⟨x,g,rfl⟩,rfl,g4 x g⟩
 | n+1,w,hw=>by
  have u:w≠[]:=by rintro rfl;cases hw
  obtain⟨v,b,rfl⟩:∃v c,w=v++[c]:=⟨w.dropLast,w.getLast u,(Gm u).symm⟩
  rcases Is.tips h n v (by simpa using hw)with D|⟨i,hi,Q,c,L⟩
  .refine .inl fun x g o s k=>?_
   obtain⟨y,M,A,_⟩:=Way.snoc_iff.1 k;exact D x g _ _ A
  .obtain ⟨_,_,B⟩:=h.made.row i hi
   rcases B b.toNat (u8_lt b)with⟨h0,_⟩|⟨j,_,P,E,F⟩
   .refine .inl fun x g o s k=>?_
    obtain⟨y,M,A,a,G,H,I,N,rfl⟩:=Way.snoc_iff.1 k;obtain⟨z,p,r,_⟩:=L x g _ _ A;have:(⟨a.to,z.out++a.putB b.toNat⟩:Tp)∈Db t.arcs (m.rows.getD i []) b.toNat:=(E8 _).2 ⟨z,p,a,G,by rw[H,r],I,rfl⟩;rw[h0]at this;cases this
   .have J:j<m.rows.length:=by
      rcases BF j m.rows.length with h|h
      .exact h
      .rw [AY h]at F;cases F
    have d:m.rows.getD j []=P:=by rw[AC,F];rfl
    obtain⟨_,g2,g3,g4⟩:=Hh E;generalize (q.outs.getD i []).getD b.toNat ByteArray.empty=f at *;refine .inr ⟨j,J,by rw[d];exact g2,c++bl ((m.outs.getD i []).getD b.toNat ByteArray.empty),fun x g o s k=>?_⟩;obtain⟨y,M,A,a,G,H,I,N,rfl⟩:=Way.snoc_iff.1 k;obtain⟨z,p,r,K⟩:=L x g _ _ A;have C:(⟨a.to,z.out++a.putB b.toNat⟩:Tp)∈Db t.arcs (m.rows.getD i []) b.toNat:=(E8 _).2 ⟨z,p,a,G,by rw[H,r],I,rfl⟩;rw[d];refine⟨_,(g3 _).2 ⟨_,C,rfl⟩,N,?_⟩;have e:=g4 _ C;simp only at e;rw[DW,Ar.putB_bl]at e;rw[<-Ac,K,Ac,e,Ac]
theorem U4 {t:Fs} {most:Nat} {q:SeqM} (n:FR t) (h:IC t most=.ok q) (p s:Int) (a b:List UInt8) (k:Ep t p s a b):a.length<=4096/\b.length<=4096:=by
 obtain⟨w,z,A,⟨⟨x,d,u1,g,rfl⟩,⟨y,o,u2,r,rfl⟩⟩,e⟩:=k;rcases Sk n h with⟨h0,_⟩|⟨m,u⟩
 .rw [h0]at d;cases d
 .rcases u.tips w.length w rfl with f|⟨i,hi,j,c,l⟩
  .exact absurd g (f x d _ _)
  .obtain ⟨v,g1,_,f1⟩:=l x d _ _ g;obtain⟨z2,g2,_,f2⟩:=l y o _ _ r;rw[f1,f2,Nq]at e;have:=Mm (bl v.out) (bl z2.out);rw[e,CK,CK]at this;have h1:=j _ g1;have h2:=j _ g2;exact⟨AK this.1 h1,AK this.2 h2⟩
theorem Yc {t:Fs} {most:Nat} {m:SeqM} (d:FR t) (h:IC t most=.ok m) {A S:Nat} (e:∀x∈t.arcs,∀c,(x.put c).length<=A) (f:∀x∈t.starts,x.out.size<=S) {p q:Int} {a b:List UInt8} (k:Ep t p q a b) :a.length<=t.n.toNat*t.n.toNat*A+S/\b.length<=t.n.toNat*t.n.toNat*A+S:=PU d e f (U4 d h) k
end
section
open Go.RowKit Go.Sort
open Go.Maps (Keyed)
structure Lg where
 p:Int
 q:Int
 a:ByteArray
 b:ByteArray
 deriving DecidableEq
def lg0:Lg:=⟨0,0,ByteArray.empty,ByteArray.empty⟩
def Fm (x:Lg):List Value:=[.int .i64 x.p,.int .i64 x.q,.string x.a,.string x.b]
theorem X0y (x:Lg):(Fm x).length=4:=rfl
abbrev NU (x:Lg):Value:=.agg (Fm x).toArray
def LgW (x:Lg):Prop:=-9223372036854775808<=x.p/\x.p<=9223372036854775807/\-9223372036854775808<=x.q/\x.q<=9223372036854775807/\x.a.size<=maxLen/\x.b.size<=maxLen
theorem X1E:(157:TypeId)<Tryz.prog.types.size:=of_decide_eq_true (by kernel_rfl)
theorem X0z:(match Tryz.prog.underlying 157 with|some (.array _ _)|some (.struct _)=>true|_=>false)=true:=by kernel_rfl
theorem X1F:Tryz.prog.keyTypeAt 3 157=true:=by kernel_rfl
theorem ON:Keyed Tryz.prog 157:=Keyed.of_law (deep_law_laid QP (m:=3) (by omega) X1E X1F X0z)
theorem Sb (x:Lg) (h:LgW x):∃l,keyOf Tryz.prog 157 (.agg (Fm x).toArray)=some l:=by
 unfold keyOf;rw[Tryz.underlying157];have h1:Tryz.prog.keyType 157=true:=by kernel_rfl
 have h3:Tryz.prog.cellsOf 157=4:=by kernel_rfl
 have h2:(Value.agg (Fm x).toArray).formed Tryz.prog 157=true:=by simp[Value.formed,Tryz.underlying157,h3,Fm]
 simp only[h1,h2,Bool.and_self,Dm];have f:Tryz.prog.cellsOf 3=1:=by kernel_rfl
 have g:Tryz.prog.cellsOf 9=1:=by kernel_rfl
 obtain⟨d,i⟩:∃d,Tryz.prog.types.size=d+1:=⟨Tryz.prog.types.size-1,(Nat.sub_add_cancel (Du (AN _) Sy)).symm⟩
 rw[i];have j:(Value.agg (Fm x).toArray).cells.toList=[.int .i64 x.p,.int .i64 x.q,.string x.a,.string x.b]:=by simp[Value.cells,Fm]
 rw[j];obtain⟨q1,k,m,n,o,r⟩:=h;have c:IntKind.i64.min=-9223372036854775808:=by decide
 have e:IntKind.i64.max=9223372036854775807:=by decide
 have s:(Lit.int .i64 x.p).wf=true:=by simp only[Lit.wf,c,e,AW,BB];exact⟨q1,k⟩
 have t:(Lit.int .i64 x.q).wf=true:=by simp only[Lit.wf,c,e,AW,BB];exact⟨m,n⟩
 simp[Program.keyLits,Tryz.underlying157,Tryz.underlying3,Tryz.underlying9,f,g,h3,s,t,o,r]
theorem X0A (x y:Lg) (h:(Fm x).toArray=(Fm y).toArray):x=y:=by obtain⟨a,b,c,d⟩:=x;obtain⟨e,f,g,i⟩:=y;simp[Fm]at h;obtain⟨h1,h2,h3,h4⟩:=h;rw[h1,h2,h3,h4]
end
section
open Go.RowKit Go.Sort
def Iw (Q:Exit->Act->World->Prop):Exit->Act->World->Prop
 | .normal,a,w=>Q .normal a w
 | _,_,_=>False
theorem Iw.normal {Q:Exit->Act->World->Prop} {a:Act} {w:World} (h:Q .normal a w):Iw Q .normal a w:=h
theorem Iw.imp {Q:Exit->Act->World->Prop}:∀(e:Exit) (a:Act) (w:World),Iw Q e a w->Q e a w:=fun e a w h=>by
 cases e with
 | normal=>exact h
 | _=>exact h.elim
section
variable {n:Nat} {P:Program} {r:Nat}
theorem WP (o:Oper) (h:∀c,o.op≠.defer c) (a:Act) (w:World) (K:Act->World->Prop) (Q:Exit->Act->World->Prop) (b:o.wp P a w K (Iw Q)):o.wpIn (Fence.wide.inRound r) n P a w K (Iw Q):=by
 rw[Lw o h];refine⟨fun _ _=>trivial,?_⟩;rw[Oper.semAt_plain Fence.wide _ _ h];unfold Oper.wp at b;generalize (execOp a.eval o).run P w=g at *;cases g with
 | ok nx w'=>
  cases nx with
  | value v=>exact b
  | skip=>exact b
  | defer d=>exact b
  | enter f args=>
   refine⟨fun e=>(by cases e),Ge.2 (Calls.mono b ?_)⟩;rintro e j i;cases e with
   | returned v=>exact i
   | panicked c=>exact i
   | outgrown=>exact i
  | row row args=>exact⟨fun e=>(by cases e),fun c k _=>let ⟨v,j,hr,hs⟩:=b c k;⟨v,j,hr,stepsIn_wide.2 hs⟩⟩
  | round l f tmps assign body=>exact b.elim
  | _=>exact b.elim
 | halt hl w'=>
  cases hl with
  | panic v=>exact b
  | _=>exact b.elim
theorem Yg {Q:Exit->Act->World->Prop}:¬LetsOut (Iw Q):=fun⟨_,_,h⟩=>h
theorem H8 {md:Region.Mode} {l:List Oper} (b:Lu l=true) {Q:Exit->Act->World->Prop}:∀fuel listed a w,wpAny P md l.toArray (Iw Q) fuel listed a w->wpAnyIn (Fence.wide.inRound r) n P md l.toArray (Iw Q) fuel listed a w
 | 0,_,_,_,h=>h
 | fuel+1,listed,a,w,h=>by
  refine⟨h.1,fun i hi=>?_⟩;have hi:=h.2 i hi;unfold wpOp at hi;unfold wpOpIn;cases k:l.toArray[i]? with
  | none=>rw[k]at hi;exact H8 b fuel _ _ _ hi
  | some o=>
   rw[k]at hi;simp only at hi ⊢;split
   .rename_i j
    rw[AU j]at hi;rcases hi with hi|hi
    .have:=WP (n:=n) (r:=r) o (Lv b k) a w _ Q hi
     rw[Lw o (Lv b k)]at this ⊢;refine⟨this.1,?_⟩;have h2:=this.2;rw[Oper.semAt_plain Fence.wide _ _ (Lv b k)]at h2 ⊢
     revert h2
     generalize (execOp a.eval o).run P w=m;intro h2;cases m with
     | ok nx w'=>
      cases nx with
      | value v=>exact H8 b fuel _ _ _ h2
      | skip=>exact H8 b fuel _ _ _ h2
      | defer d=>exact H8 b fuel _ _ _ h2
      | enter f args=>
       refine⟨h2.1,CallsIn.mono h2.2 ?_⟩;rintro e p g;cases e with
       | returned v=>exact H8 b fuel _ _ _ g
       | panicked c=>exact g
       | outgrown=>exact g
      | row row args=>exact⟨h2.1,RowsIn.mono h2.2 fun v p g=>H8 b fuel _ _ _ g⟩
      | round l f tmps assign body=>
       refine⟨h2.1,RoundIn.mono h2.2 ?_⟩;rintro e p g;cases e with
       | returned v=>exact H8 b fuel _ _ _ g
       | panicked c=>exact g
       | outgrown=>exact g
      | _=>exact h2.elim
     | halt hl w'=>
      cases hl with
      | panic v=>exact h2
      | _=>exact h2.elim
    .exact absurd hi.2 Yg
   .rename_i j;rw[AP j]at hi;exact⟨fun _ _=>trivial,H8 b fuel _ _ _ hi⟩
theorem OS {id:Nat} {Q:Exit->Act->World->Prop} {a:Act} {w:World} {l:List Oper} (b:P.follows .mixedOrders=true) (c:Lu l=true) (h:wpAny P .any l.toArray (Iw Q) l.toArray.size (Array.replicate l.toArray.size false) a w.drew):(Code.region id l.toArray true).wpIn (Fence.wide.inRound r) n P Q a w:=wpIn_mono (wpIn_region_any b (H8 c _ _ _ _ h)) Iw.imp
theorem MC {id:Nat} {Q:Exit->Act->World->Prop} {a:Act} {w:World} {l:List Oper} (b:Nat) (f c:List Nat) (D:P.follows .mixedOrders=true) (E:Lu l=true) (z:Rn .any l.toArray b f c=true) (k:f.length+c.length=b) (e:((f++c).all fun i=>decide (i<l.length))=true) (h:wpQuiet P l.toArray (fun w'=>∃p:Regrown,w'=grow (redrawn w p.d) p.os) (fun o=>IG P l.toArray (fun w'=>∃p:Regrown,w'=grow (redrawn w p.d) p.os) (Iw Q) (l.drop b) (CV l c) o w.drew) (CV l f) a) :(Code.region id l.toArray true).wpIn (Fence.wide.inRound r) n P Q a w:=by
 rw[Gj,AW]at e;refine OS D E ?_;have F:=FS l f e.1;have G:=FS l c e.2;have I:(fun w'=>∃p:Regrown,w'=grow (redrawn w p.d) p.os) w.drew:=⟨⟨w.drawn+1,#[]⟩,by rw[F_];rfl⟩;simp only[Rn,AW,BB]at z;obtain⟨⟨⟨⟨⟨q,A⟩,J⟩,K⟩,v⟩,x⟩:=z;have s:(l.drop b).length=l.toArray.size-b:=by simp
 have u:HeadInv .any l.toArray b (Array.replicate l.toArray.size false):=⟨by simp,fun j N _ B=>(by rw[C0]at B;cases B),fun t _ L=>_root_.Go.getD_in (by simpa using L) (C0 _ _)⟩;have H:=J5 (P:=P) (S:=fun w'=>∃p:Regrown,w'=grow (redrawn w p.d) p.os) (md:=.any) (g:=l.toArray.size-b) (tail:=l.drop b) (m:=c.length) q J K A (fun _ _ _ _ _ h=>h) I (fun o y=>KU rfl c _ _ o _ G x y) f _ _ a F u v rfl h;have:=Ih (P:=P) (S:=fun w'=>∃p:Regrown,w'=grow (redrawn w p.d) p.os) (g:=l.toArray.size-b) (fun listed o w' C=>by have:=wpAny_of_seq (md:=.any) (Q':=Iw Q) (l.drop b) b listed o w' (fun j=>by simp[Dt]) (by rw[s];exact C.1) C.2;rwa [s]at this) _ _ _ _ H;have M:b<l.toArray.size:=A;rw[k,show b+(l.toArray.size-b)=l.toArray.size by omega]at this;exact this
theorem MD {id:Nat} {Q:Exit->Act->World->Prop} {a:Act} {w:World} {l:List Oper} (b:Nat) (y:P.follows .mixedOrders=true) (z:Lu l=true) (q:Region.lexTailB .any l.toArray b=true) (h:wpQuiet P l.toArray (fun w'=>∃p:Regrown,w'=grow (redrawn w p.d) p.os) (fun m=>∀w',(∃p:Regrown,w'=grow (redrawn w p.d) p.os)->wpList P l.toArray (Iw Q) (l.drop b) m w') (l.take b) a):(Code.region id l.toArray true).wpIn (Fence.wide.inRound r) n P Q a w:=by
 refine OS y z ?_;have A:(fun w'=>∃p:Regrown,w'=grow (redrawn w p.d) p.os) { w with drawn:=w.drawn+1 }:=⟨⟨w.drawn+1,#[]⟩,by rw[F_];rfl⟩;simp only[Region.lexTailB,AW,BB]at q;obtain⟨⟨⟨⟨e,s⟩,B⟩,D⟩,f⟩:=q;have E:b<l.length:=by simpa using s
 have c:(l.take b).length=b:=by simp;omega
 have i:(l.drop b).length=l.toArray.size-b:=by simp
 have k:HeadInv .any l.toArray b (Array.replicate l.toArray.size false):=⟨by simp,fun j G _ u=>(by rw[C0]at u;cases u),fun t _ F=>_root_.Go.getD_in (by simpa using F) (C0 _ _)⟩;have H:=Oc (P:=P) (C:=fun w'=>∃p:Regrown,w'=grow (redrawn w p.d) p.os) (md:=.any) (g:=l.toArray.size-b) e B D s (l.take b) 0 _ a (fun j v=>by rw[c]at v;simp[v]) (by simpa using c) k (by rw[c];exact f) h;have:=Ld (Q':=Iw Q) (g:=l.toArray.size-b) (fun listed m w' o x=>by have:=wpAny_of_seq (md:=.any) (Q':=Iw Q) (l.drop b) b listed m w' (fun j=>by simp[Dt]) (by rw[i];exact x.1) (x.2 w' o);rwa [i]at this) _ _ _ _ A H;rw[c,show b+(l.toArray.size-b)=l.toArray.size by omega]at this;exact this
end
end
section
open Go.ChangeShapes Go.WideShapes Go.ChangeAt Go.RowKit Go.Joins Go.Deep
section
variable {H:Type} {enc:TypeId×Value->H} {P:Program} {W:World}
theorem Ox {α:Type} [Inhabited α] (en:α->List Value) (k:Nat) (ok:α->Prop) {t e:TypeId} {fuel:Nat} {v:Value} {y:DataW H×List MemPlace} (B:∀x,(en x).length=k) (o:0<k) (O:P.underlying t=some (.slice e)) (L:P.cellsOf e=k) (C:∀{fuel:Nat} {E:List Value} {y:DataW H×List MemPlace},E.length=k->DataW.trod enc P W 0 (fun _=>true) true fuel e E=some y->∃x:α,E=en x/\ok x) (Q:DataW.trod enc P W 0 (fun _=>true) true fuel t [v]=some y) (G:∀x∈y.2,x.block<W.heap.size) :∃(A:Option Addr) (c:Nat) (l:List α),v=.slice A l.length c/\Reads W W.heap.size k A l.length (B_ en l)/\l.length<=c/\c<=maxLen/\∀x∈l,ok x:=by
 rcases open_slice O Q with⟨b,g⟩|⟨a,len,cap,m,n,D,X,b,_,Y,R,p,g,hi⟩
 .simp at b;subst b;exact⟨none,0,[],rfl,⟨by simp[B_],fun h=>absurd h (C9 0)⟩,AD _,AN _,by simp⟩
 .simp at b
  subst b;simp only[Dm]at p;subst p;subst g
  have S:∀i:Nat,∃x:α,i<m->(∀j,j<k->W.cell? (a.add (i*k+j))=(en x)[j]?)/\ok x:=fun i=>by
   by_cases r:i<m
   .obtain ⟨T,d,I⟩:=hi i r;rw[L]at d;obtain⟨_,J,K⟩:=World.cells?_some d;obtain⟨x,rfl,g⟩:=C J I;exact⟨x,fun _=>⟨fun j U=>by rw[<-K j U,Go.Deep.add_add],g⟩⟩
   .exact ⟨default,fun h=>absurd h r⟩
  obtain⟨F,M⟩:=Classical.axiomOfChoice S;have f:((List.range len).map F).length=len:=by simp
  refine⟨some a,m,(List.range len).map F,by rw[f],⟨by rw[Fu B],fun h0=>⟨a,rfl,?_,fun q u N=>?_⟩⟩,by omega,R,fun x g=>?_⟩
  .refine JC (a:=a) (n:=m*P.cellsOf e) (fun x g=>G x (C5 _ g)) ?_;rw[L];exact Nat.mul_pos (by omega) o
  .have V:q<len*k:=by
     have:=(DD.1 N).1;rwa [Fu B,f]at this
   have s:q / k<len:=EP (by rw[D6];exact V);have w:q%k<k:=Cz _ o;have z:q / k*k+q%k=q:=by rw[D6];exact Ft q k
   have h1:=If B ((List.range len).map F) default (q / k) (q%k) (by rw[f];exact s) w;rw[z,N]at h1;have h2:=(M (q / k) (by omega)).1 (q%k) w;rw[z]at h2;rw[h2,h1];congr 2;rw[AC,Ag,CP s];rfl
  .obtain ⟨i,hi,rfl⟩:=Bd.1 g;exact(M i (by have:=BE.1 hi;omega)).2
end
section
variable {H:Type} {enc:TypeId×Value->H} {W:World}
theorem X0P:Tryz.prog.cellsOf 3=1:=by kernel_rfl
theorem X0Q:Tryz.prog.cellsOf 9=1:=by kernel_rfl
theorem X1I:Tryz.prog.cellsOf 4=1:=by kernel_rfl
theorem X2m:Tryz.prog.cellsOf 56=1:=by kernel_rfl
theorem X2n:Tryz.prog.cellsOf 58=4:=by kernel_rfl
theorem VB {fuel:Nat} {c:List Value} {y:DataW H×List MemPlace} (f:c.length=2) (h:DataW.trod enc Tryz.prog W 0 (fun _=>true) true fuel 54 c=some y):∃x:Tp,c=CL x/\MJ x:=by
 obtain⟨xs,n,_,i,_,b,d⟩:=DataW.trod_struct Tryz.underlying54 h
 match c,f with
 | [c0,c1],_=>
  have h0:DataW.trod enc Tryz.prog W 0 (fun _=>true) true n 3 ((List.drop 0 [c0,c1]).take (Tryz.prog.cellsOf 3))=xs[0]?:=d 0 _ rfl;have h1:DataW.trod enc Tryz.prog W 0 (fun _=>true) true n 9 ((List.drop 1 [c0,c1]).take (Tryz.prog.cellsOf 9))=xs[1]?:=d 1 _ rfl;rw[X0P]at h0;rw[X0Q]at h1
  match xs,b with
  | [y0,y1],_=>
   have h0:DataW.trod enc Tryz.prog W 0 (fun _=>true) true n 3 [c0]=some y0:=by simpa using h0
   have h1:DataW.trod enc Tryz.prog W 0 (fun _=>true) true n 9 [c1]=some y1:=by simpa using h1
   obtain⟨a,e0,_,w0⟩:=DataW.trod_int Tryz.underlying3 h0;obtain⟨s,e,_,g⟩:=DataW.trod_string Tryz.underlying9 h1;simp at e0 e;subst e0 e;exact⟨⟨a,s⟩,rfl,(bounds_i64 w0).1,(bounds_i64 w0).2,g⟩
theorem X0R {fuel:Nat} {f:List Value} {y:DataW H×List MemPlace} (l:f.length=8) (h:DataW.trod enc Tryz.prog W 0 (fun _=>true) true fuel 61 f=some y):∃x:Ar,f=Cx x/\Th x:=by
 obtain⟨xs,n,_,r,_,d,e⟩:=DataW.trod_struct Tryz.underlying61 h
 match f,l with
 | [c0,c1,c2,c3,c4,c5,c6,c7],_=>
  have h0:DataW.trod enc Tryz.prog W 0 (fun _=>true) true n 3 ((List.drop 0 [c0,c1,c2,c3,c4,c5,c6,c7]).take (Tryz.prog.cellsOf 3))=xs[0]?:=e 0 _ rfl;have h1:DataW.trod enc Tryz.prog W 0 (fun _=>true) true n 3 ((List.drop 1 [c0,c1,c2,c3,c4,c5,c6,c7]).take (Tryz.prog.cellsOf 3))=xs[1]?:=e 1 _ rfl;have h2:DataW.trod enc Tryz.prog W 0 (fun _=>true) true n 58 ((List.drop 2 [c0,c1,c2,c3,c4,c5,c6,c7]).take (Tryz.prog.cellsOf 58))=xs[2]?:=e 2 _ rfl;have h3:DataW.trod enc Tryz.prog W 0 (fun _=>true) true n 9 ((List.drop 6 [c0,c1,c2,c3,c4,c5,c6,c7]).take (Tryz.prog.cellsOf 9))=xs[3]?:=e 3 _ rfl;have h4:DataW.trod enc Tryz.prog W 0 (fun _=>true) true n 4 ((List.drop 7 [c0,c1,c2,c3,c4,c5,c6,c7]).take (Tryz.prog.cellsOf 4))=xs[4]?:=e 4 _ rfl;rw[X0P]at h0 h1;rw[X2n]at h2;rw[X0Q]at h3;rw[X1I]at h4
  match xs,d with
  | [y0,y1,y2,y3,y4],_=>
   have h0:DataW.trod enc Tryz.prog W 0 (fun _=>true) true n 3 [c0]=some y0:=by simpa using h0
   have h1:DataW.trod enc Tryz.prog W 0 (fun _=>true) true n 3 [c1]=some y1:=by simpa using h1
   have h2:DataW.trod enc Tryz.prog W 0 (fun _=>true) true n 58 [c2,c3,c4,c5]=some y2:=by simpa using h2
   have h3:DataW.trod enc Tryz.prog W 0 (fun _=>true) true n 9 [c6]=some y3:=by simpa using h3
   have h4:DataW.trod enc Tryz.prog W 0 (fun _=>true) true n 4 [c7]=some y4:=by simpa using h4
   obtain⟨a,e0,_,w0⟩:=DataW.trod_int Tryz.underlying3 h0;obtain⟨b,g,_,i⟩:=DataW.trod_int Tryz.underlying3 h1;obtain⟨z0,t,z2,z3,u,_,g0,g1,g2,g3⟩:=trod_array4 Tryz.underlying58 X2m h2;obtain⟨a0,rfl,m⟩:=Ia Tryz.underlying56 g0;obtain⟨o,rfl,l1⟩:=Ia Tryz.underlying56 g1;obtain⟨a2,rfl,l2⟩:=Ia Tryz.underlying56 g2;obtain⟨a3,rfl,p⟩:=Ia Tryz.underlying56 g3;obtain⟨s,j,_,q⟩:=DataW.trod_string Tryz.underlying9 h3;obtain⟨c,k,_⟩:=DataW.trod_bool Tryz.underlying4 h4;simp at e0 g j k;subst e0 g j k;exact⟨⟨a,b,⟨a0,o,a2,a3⟩,s,c⟩,rfl,(bounds_i64 w0).1,(bounds_i64 w0).2,(bounds_i64 i).1,(bounds_i64 i).2,⟨m,l1,l2,p⟩,q⟩
instance lawTp:Inhabited Tp:=⟨⟨0,ByteArray.empty⟩⟩
instance lawAr:Inhabited Ar:=⟨⟨0,0,⟨0,0,0,0⟩,ByteArray.empty,false⟩⟩
theorem X0S {r:Reach} {b:Nat} {v:Value} {d:DataW H} {g:List MemPlace} (c:Value.okWide Tryz.prog W r b 32 v) (j:DataW.Trod enc Tryz.prog W 0 (fun _=>true) true 32 v d g) (a:∀x∈g,x.block<W.heap.size) :∃t:Fs,EK W W.heap.size t v:=by obtain⟨v0,I,v2,v3,J,K,L,M,n,rfl,_,rfl,h0,h1,h2,h3⟩:=open_agg4 Tryz.underlying32 (by kernel_rfl) (by kernel_rfl) c j;obtain⟨s,e0,_,i⟩:=DataW.trod_int Tryz.underlying3 h0;simp at e0;subst e0;obtain⟨k,l,N,rfl,m,o,p,q⟩:=Ox CL 2 MJ (fun _=>rfl) (by decide) Tryz.underlying29 (by kernel_rfl) (fun e h=>VB e h) h1 (fun x f=>a x (by simp[f]));obtain⟨u,w,O,rfl,y,z,A,z2⟩:=Ox CL 2 MJ (fun _=>rfl) (by decide) Tryz.underlying29 (by kernel_rfl) (fun e h=>VB e h) h2 (fun x f=>a x (by simp[f]));obtain⟨B,C,E,rfl,D,F,G,z3⟩:=Ox Cx 8 Th (fun _=>rfl) (by decide) Tryz.underlying30 (by kernel_rfl) (fun e h=>X0R e h) h3 (fun x f=>a x (by simp[f]));exact⟨⟨s,N,O,E⟩,k,l,u,w,B,C,rfl,o,z,F,p,A,G,(bounds_i64 i).1,(bounds_i64 i).2,m,q,y,z2,D,z3⟩
end
end
section
open Go.RowKit Go.Sort
def FP (k:Int):Ending:=.panicked [{ v:=.iface 130 (.agg #[.int .i64 k]),recovered:=false }]
theorem QN (s:ByteArray) (w:World) (_hs:s.size<=maxLen) (h:¬s.size<=4096) :Calls Tryz.prog 95 #[.string s] w (fun e w'=>e=FP 2/\w'=w):=by
 have a:(s.size:Int)>4096:=by omega
 unfold maxLen at _hs;go_enter Tryz.func95,Tryz.ntmps95;go_wp2;exact⟨rfl,rfl,rfl⟩
theorem Of (s:ByteArray) (w:World) (h:s.size<=4096) :Calls Tryz.prog 95 #[.string s] w (fun e w'=>e=.returned (.tuple #[])/\w'=w):=by
 have b:¬(s.size:Int)>4096:=by omega
 have a:(s.size:Int)<=4096:=by omega
 go_enter Tryz.func95,Tryz.ntmps95;go_wp2;go_end0;exact⟨rfl,rfl⟩
end
section
open Go.RowKit Go.Sort
theorem GI:(Tryz.prog.info? 9).map (fun i=>(i.zero,i.size,i.bytes))=some (some (.string ByteArray.empty),1,16):=by kernel_rfl
theorem X1f:∀args w,(callFunc 93 args).run Tryz.prog w=.ok (.enter 93 args) w:=FY Tryz.func93 (by kernel_rfl) rfl
def Ly (r:List Tp) (m k:Nat):Array Value:=((List.range m).map fun j=>Value.string (if j<k then(r.getD j DI).out else ByteArray.empty)).toArray
theorem VU (r:List Tp) (m:Nat):Ly r m 0=(List.replicate m (Value.string ByteArray.empty)).toArray:=by
 unfold Ly;congr 1;apply Ct;intro j;rw[Ag,CC];by_cases a:j<m
 .rw [CP a];simp[a]
 .rw [AY (by simpa using a)];simp[a]
theorem XY (r:List Tp) (m k:Nat):(Ly r m k).setIfInBounds k (.string (r.getD k DI).out)=Ly r m (k+1):=by
 unfold Ly;rw[Bm];congr 1;apply Ct;intro j;rw[List.getElem?_set,Ag,Ag];by_cases b:j<m
 .rw [CP b]
  by_cases a:k=j
  .subst a;simp only[A6,EA,b,Dm,DA,Nat.lt_succ_self]
  .have:(j<k+1)↔(j<k):=by omega
   simp only[a,Ef,DA,this]
 .have e:(List.range m)[j]?=none:=AY (by simpa using b)
  rw[e];by_cases a:k=j
  .subst a;simp[b]
  .simp [a]
theorem XZ (r:List Tp):Ly r r.length r.length=((r.map Tp.out).map Value.string).toArray:=by
 unfold Ly;congr 1;rw[Gc];apply Ct;intro j;rw[Ag,Ag];by_cases a:j<r.length
 .rw [CP a,AG a];simp[a]
 .rw [AY (by simpa using a),AY (by omega)];rfl
theorem Og:∀r:List Tp,It r=true↔∃j,0<j/\j<r.length/\(r.getD (j-1) DI).st=(r.getD j DI).st
 | []=>Iff.intro (fun h=>Bool.noConfusion h) (fun⟨j,_,h,_⟩=>absurd h (B6 _))
 | [x]=>Iff.intro (fun h=>Bool.noConfusion h) (fun⟨j,h0,h,_⟩=>by simp at h;omega)
 | x::y::l=>by
  unfold It;rw[DJ,DF,Og (y::l)];constructor
  .rintro (h|⟨j,h0,b,a⟩)
   .exact ⟨1,by omega,by simp,h⟩
   .refine ⟨j+1,by omega,by simp at b ⊢;omega,?_⟩
    obtain⟨i,rfl⟩:∃i,j=i+1:=⟨j-1,by omega⟩
    simpa using a
  .rintro ⟨j,h0,b,a⟩
   obtain⟨i,rfl⟩:∃i,j=i+1:=⟨j-1,by omega⟩
   rcases B7 i with h|h
   .subst h;left;simpa using a
   .right
    obtain⟨c,rfl⟩:∃c,i=c+1:=⟨i-1,by omega⟩
    exact⟨c+1,by omega,by simp at b ⊢;omega,by simpa using a⟩
def PS (r:List Tp) (n k a:Nat):Tp:=if a<k then Ie n (r.getD a DI)else r.getD a DI
theorem ZD {w:World} {g m:Nat} {r:List Tp} {n k:Nat} (h:EV CL 2 w g m (PS r n k)) (p:k<m) :EV CL 2 (w.setCell ⟨g,k*2+1,none⟩ (.string (Ie n (r.getD k DI)).out)) g m (PS r n (k+1)):=by
 refine⟨fun a i u c b=>?_,fun x j=>by rw[World.frozen?_setCell];exact h.2 x j⟩
 have hi:i<2:=by
  rcases BF i 2 with h|h
  .exact h
  .rw [AY (by rw[Dg];exact h)]at b;cases b
 by_cases d:a=k
 .subst d
  have e:PS r n (a+1) a=Ie n (r.getD a DI):=AU (Nat.lt_succ_self a);rw[e]at b;have e0:PS r n a a=r.getD a DI:=AP (C9 a)
  match i,hi with
  | 0,_=>rw[Ev _ _ _ _ (fun e=>by injection e with _ e;omega)];refine h.1 a 0 u c ?_;rw[e0];exact b
  | 1,_=>
   have f:u=.string (Ie n (r.getD a DI)).out:=(AL b).symm;subst f;have l:∃v,w.cell? ⟨g,a*2+1,none⟩=some v:=⟨_,h.1 a 1 (.string (r.getD a DI).out) c (by rw[e0];rfl)⟩
   obtain⟨v,o⟩:=l;exact World.cell?_setCell_same _ _ _ o
 .have e:PS r n (k+1) a=PS r n k a:=by
    unfold PS;have:(a<k+1)↔(a<k):=by omega
    simp only[this]
  rw[e]at b;rw[Ev _ _ _ _ (fun e=>by injection e with _ e;omega)];exact h.1 a i u c b
end
section
open Go.RowKit Go.Sort
theorem Bg (w:World) (xs:List Value) (T:TypeId) (k m:Nat) (h:xs.length=m*k):Reads (w.alloc (.cells xs.toArray T)) (w.heap.size+1) k (some ⟨w.heap.size,0,none⟩) m xs:=by refine⟨h,fun _=>⟨_,rfl,by simp,fun j u a=>?_⟩⟩;rw[Gq,C8,(BL.new w T xs.toArray).cell];simpa using a
structure BackW (w wr:World) (cs:Array Value) (G:Nat) (n:Int) (vS vE vA:Value) (S E:List Tp) (A:List Ar):Prop where
 box:BL wr w.heap.size 27 cs
 res:BL wr (w.heap.size+1) 32 #[.int .i64 0,.slice none 0 0,.slice none 0 0,.slice none 0 0]
 t:BL wr G 32 #[.int .i64 n,vS,vE,vA]
 gG:w.heap.size+1<G
 oS:wr.ownsRow (G+1) 54 2 vS S.length (B_ CL S)
 oE:wr.ownsRow (G+1) 54 2 vE E.length (B_ CL E)
 oA:wr.ownsRow (G+1) 61 8 vA A.length (B_ Cx A)
 ap:Ij vS vE
 bel:Below w.heap.size w wr
section
variable {w wr w':World} {cs:Array Value} {G:Nat} {n:Int} {vS vE vA:Value} {S E:List Tp} {A:List Ar}
theorem BackW.size (h:BackW w wr cs G n vS vE vA S E A):G<wr.heap.size:=h.t.lt
theorem BackW.call (h:BackW w wr cs G n vS vE vA S E A) (a:Below wr.heap.size wr w'):BackW w w' cs G n vS vE vA S E A:=
 have b:=h.size;have c:=h.gG
 ⟨h.box.below a (by omega),h.res.below a (by omega),h.t.below a b,h.gG,BQ h.oS a,BQ h.oE a,BQ h.oA a,h.ap,h.bel.trans (a.mono (by omega))⟩
theorem AV {base:Nat} {e T:TypeId} {size m:Nat} {v:Value} {xs:List Value} (h:wr.ownsRow base e size v m xs) {g:Nat} {c:Array Value} (b:BL wr g T c) (a:e≠T):v.ownBlock≠some g:=FI h b a
theorem BM {g:Nat} {T:TypeId} {c:Array Value} {row:Option Nat} (b:BL wr g T c) (d:wr.grownBy w' row) (a:row≠some g):BL w' g T c:=b.grown d (fun e=>a e.symm)
theorem BackW.putA (h:BackW w wr cs G n vS vE vA S E A) {v':Value} {c:List Ar} (a:wr.grownBy w' vA.ownBlock) (e:w'.ownsRow (G+1) 61 8 v' c.length (B_ Cx c)) :BackW w (w'.setCell ⟨G,3,none⟩ v') cs G n vS vE v' S E c:=by
 have m:=h.size;have d:=h.gG;have g:=AV h.oA h.box (by decide);have i:=AV h.oA h.res (by decide);have j:=AV h.oA h.t (by decide);have b:=BM h.t a j;have kS:=h.oS.kept a (BG h.oS h.oA (by decide)).or_none;have f:=h.oE.kept a (BG h.oE h.oA (by decide)).or_none;refine⟨(BM h.box a g).far (p:=⟨G,3,none⟩) (by simp;omega) _,(BM h.res a i).far (p:=⟨G,3,none⟩) (by simp;omega) _,?_,d,AO kS (AV kS b (by decide)) _,AO f (AV f b (by decide)) _,AO e (AV e b (by decide)) _,h.ap,?_⟩
 .exact b.set_ 3 v'
 .exact ((h.bel).grown a (by omega) (fun k l=>by have:=(own_lt h.oA k l).1;omega)).setCell (p:=⟨G,3,none⟩) (by show w.heap.size<=G;omega) _
theorem BackW.putE (h:BackW w wr cs G n vS vE vA S E A) {v':Value} {f:List Tp} (b:wr.grownBy w' vE.ownBlock) (j:w'.ownsRow (G+1) 54 2 v' f.length (B_ CL f)) (m:v'.ownBlock=vE.ownBlock\/v'.ownBlock=some wr.heap.size) :BackW w (w'.setCell ⟨G,2,none⟩ v') cs G n vS v' vA S f A:=by
 have u:=h.size;have i:=h.gG;have o:=AV h.oE h.box (by decide);have q:=AV h.oE h.res (by decide);have r:=AV h.oE h.t (by decide);have d:=BM h.t b r;have kS:=h.oS.kept b h.ap.or_none;have l:=h.oA.kept b (BG h.oA h.oE (by decide)).or_none;refine⟨(BM h.box b o).far (p:=⟨G,2,none⟩) (by simp;omega) _,(BM h.res b q).far (p:=⟨G,2,none⟩) (by simp;omega) _,?_,i,AO kS (AV kS d (by decide)) _,AO j (AV j d (by decide)) _,AO l (AV l d (by decide)) _,?_,?_⟩
 .exact d.set_ 2 v'
 .intro g c a
  rcases m with e|e
  .exact h.ap g c (by rw[<-e];exact a)
  .rw [e]at a;have:=(own_lt h.oS g c).2;have:=AL a;omega
 .exact ((h.bel).grown b (by omega) (fun k s=>by have:=(own_lt h.oE k s).1;omega)).setCell (p:=⟨G,2,none⟩) (by show w.heap.size<=G;omega) _
theorem BackW.putS (h:BackW w wr cs G n vS (.slice none 0 0) vA S E A) {v':Value} {c:List Tp} (a:wr.grownBy w' vS.ownBlock) (f:w'.ownsRow (G+1) 54 2 v' c.length (B_ CL c)) :BackW w (w'.setCell ⟨G,1,none⟩ v') cs G n v' (.slice none 0 0) vA c E A:=by
 have r:=h.size;have d:=h.gG;have l:=AV h.oS h.box (by decide);have m:=AV h.oS h.res (by decide);have o:=AV h.oS h.t (by decide);have b:=BM h.t a o;have i:=h.oE.kept a (.inl rfl);have j:=h.oA.kept a (BG h.oA h.oS (by decide)).or_none;refine⟨(BM h.box a l).far (p:=⟨G,1,none⟩) (by simp;omega) _,(BM h.res a m).far (p:=⟨G,1,none⟩) (by simp;omega) _,?_,d,AO f (AV f b (by decide)) _,AO i (AV i b (by decide)) _,AO j (AV j b (by decide)) _,?_,?_⟩
 .exact b.set_ 1 v'
 .intro g _ e;cases e
 .exact ((h.bel).grown a (by omega) (fun k q=>by have:=(own_lt h.oS k q).1;omega)).setCell (p:=⟨G,1,none⟩) (by show w.heap.size<=G;omega) _
end
end
section
open Go.RowKit Go.Sort
def QO {α:Type} (enc:α->List Value) (k:Nat) (w:World) (B L n:Nat) (rows:Nat->List α):Prop:=L<B/\∀s,s<n->∃A c,w.cell? ⟨L,s,none⟩=some (.slice A (rows s).length c)/\(rows s).length<=c/\c<=maxLen/\Reads w B k A (rows s).length (B_ enc (rows s))
variable {α:Type} {enc:α->List Value} {k:Nat} {w w':World} {base B B' L n:Nat} {eL e:TypeId} {vs:List Value} {rows:Nat->List α}
theorem Grp.read (h:Grp enc k w base L n eL e vs rows) (f:L<w.heap.size):QO enc k w w.heap.size L n rows:=by refine⟨f,fun s b=>?_⟩;have a:=h.row s b;obtain⟨A,c,g,h1,h2,_⟩:=BH a;have d:=CM h.own s b Bf;rw[g]at d a;exact⟨A,c,d,h1,h2,Reads.of_own a⟩
theorem QO.below (h:QO enc k w B L n rows) (a:Below B w w'):QO enc k w' B L n rows:=⟨h.1,fun s b=>by obtain⟨A,c,h1,h2,h3,h4⟩:=h.2 s b;exact⟨A,c,(a.cell (p:=⟨L,s,none⟩) h.1).trans h1,h2,h3,h4.below a⟩⟩
theorem QO.more (h:QO enc k w B L n rows) (a:B<=B'):QO enc k w B' L n rows:=⟨Aj h.1 a,fun s b=>by obtain⟨A,c,h1,h2,h3,h4⟩:=h.2 s b;exact⟨A,c,h1,h2,h3,h4.more a⟩⟩
end
section
open Go.RowKit Go.Sort
def DP (p:Nat->Prop) (w:World) (size:Nat) (A:Option Addr) (n:Nat) (xs:List Value):Prop:=xs.length=n*size/\(0<n->∃ad,A=some ad/\p ad.block/\∀j u,xs[j]?=some u->w.cell? (ad.add j)=some u)
section
variable {p q:Nat->Prop} {w w':World} {B size n:Nat} {A:Option Addr} {xs:List Value}
theorem cell_kept {w w':World} {a:Addr} (h:w'.heap[a.block]?=w.heap[a.block]?):w'.cell? a=w.cell? a:=World.cell?_of_block h
theorem DP.reads (h:DP p w size A n xs) (a:∀k,p k->k<B):Reads w B size A n xs:=⟨h.1,fun b=>by obtain⟨c,e,d,f⟩:=h.2 b;exact⟨c,e,a _ d,f⟩⟩
theorem DP.kept (h:DP p w size A n xs) (b:∀k,p k->w'.heap[k]?=w.heap[k]?):DP p w' size A n xs:=⟨h.1,fun c=>by obtain⟨d,e,a,f⟩:=h.2 c;exact⟨d,e,a,fun j u g=>(cell_kept (by rw[Ic];exact b _ a)).trans (f j u g)⟩⟩
theorem DP.mono (h:DP p w size A n xs) (a:∀k,p k->q k):DP q w size A n xs:=⟨h.1,fun b=>by obtain⟨c,e,d,f⟩:=h.2 b;exact⟨c,e,a _ d,f⟩⟩
theorem DP.of_reads (h:Reads w B size A n xs) (a:∀k,k<B->p k):DP p w size A n xs:=⟨h.1,fun b=>by obtain⟨c,e,d,f⟩:=h.2 b;exact⟨c,e,a _ d,f⟩⟩
theorem DP.of_own {base:Nat} {e:TypeId} {c:Nat} (h:w.ownsRow base e size (.slice A n c) n xs) (d:∀g,(Value.slice A n c).ownBlock=some g->p g):DP p w size A n xs:=by
 refine⟨h.1,fun b=>?_⟩;obtain⟨j,rfl,k,f⟩:=(Reads.of_own h).2 b;obtain⟨g,cap,a,_,i⟩:=h.form b;injection a with a
 have a:=AL a;subst a;exact⟨_,rfl,d g rfl,f⟩
end
def GE {α:Type} (p:Nat->Prop) (enc:α->List Value) (k:Nat) (w:World) (L n:Nat) (rows:Nat->List α):Prop:=p L/\∀s,s<n->∃A c,w.cell? ⟨L,s,none⟩=some (.slice A (rows s).length c)/\(rows s).length<=c/\c<=maxLen/\DP p w k A (rows s).length (B_ enc (rows s))
section
variable {α:Type} {p:Nat->Prop} {enc:α->List Value} {k:Nat} {w w':World} {base B L n:Nat} {eL e:TypeId} {vs:List Value} {rows:Nat->List α}
theorem GE.kept (h:GE p enc k w L n rows) (b:∀k,p k->w'.heap[k]?=w.heap[k]?):GE p enc k w' L n rows:=⟨h.1,fun s d=>by obtain⟨A,c,h1,h2,h3,h4⟩:=h.2 s d;exact⟨A,c,(cell_kept (a:=⟨L,s,none⟩) (b _ h.1)).trans h1,h2,h3,h4.kept b⟩⟩
theorem GE.read (h:GE p enc k w L n rows) (a:∀k,p k->k<B):QO enc k w B L n rows:=⟨a _ h.1,fun s b=>by obtain⟨A,c,h1,h2,h3,h4⟩:=h.2 s b;exact⟨A,c,h1,h2,h3,h4.reads a⟩⟩
theorem GE.of_grp (h:Grp enc k w base L n eL e vs rows) (i:p L) (j:∀s g,s<n->(vs.getD s Bf).ownBlock=some g->p g):GE p enc k w L n rows:=by refine⟨i,fun s a=>?_⟩;have b:=h.row s a;obtain⟨A,c,l,h1,h2,_⟩:=BH b;have d:=CM h.own s a Bf;have f:=j s;rw[l]at d b f;exact⟨A,c,d,h1,h2,DP.of_own b fun g m=>f g a m⟩
end
theorem M7 {α:Type} {T mt c:TypeId} {enc:α->List Value} {ok:α->Prop} {w:World} {b:Nat} {l:List α} [DecidableEq α] (K:Maps.Keyed Tryz.prog T) (g:Tryz.prog.underlying mt=some (.map T c)) (i:∀W,(zeroValue c).run Tryz.prog W=.ok (.agg #[]) W) (h:Seen T enc ok w b l) (x:α) (j:ok x) {a:Lit} (d:keyOf Tryz.prog T (.agg (enc x).toArray)=some a) :(Instr.lookup mt (.map (some b)) (.agg (enc x).toArray) true).run Tryz.prog w=.ok (.tuple #[.agg #[],.bool (decide (x∈l))]) w:=by
 obtain⟨n,D,k,_,_,m⟩:=h;obtain⟨v,o,h1,h2⟩:=k.look_ok K g (i w) unitElem_mk d;obtain⟨rfl,_⟩:=unitElem_inv h2;rw[h1];have:=m x j a d;rcases f:Maps.has D a with _|_
 .rw [f]at this;rw[DB (fun e=>by have:=this.2 e;cases this)]
 .rw [f]at this;rw[DK (this.1 rfl)]
end
end Go.Proofs.YtcondkihpmmnnaaGreatDoor
