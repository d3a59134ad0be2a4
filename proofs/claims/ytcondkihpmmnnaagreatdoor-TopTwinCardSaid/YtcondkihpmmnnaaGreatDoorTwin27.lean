/- Lemmas, part 27 of 50. No condition. -/
import Derived.Test.YtcondkihpmmnnaaGreatDoorTwin26
import Derived.Lib.BufferWrite
set_option maxRecDepth 100000
set_option maxHeartbeats 16000000
namespace Go.Proofs.YtcondkihpmmnnaaGreatDoor
section
open Go.RowKit Go.Sort
theorem GC.cells {w:World} {B:Nat} {q:SeqM} {v:Value} (h:GC w B q v):∃e a b c d,v=.agg #[e,a,b,c,d]:=by obtain⟨f,a,g,b,i,c,j,d,rfl,_⟩:=h;exact⟨_,_,_,_,_,rfl⟩
def kL (k:Frt) (n:Nat):List Value:=GY (fun s=>.string (k.l s)) n
def kS (k:Frt) (n:Nat):List Value:=GY (fun s=>.bool (k.some s)) n
theorem Xj {q:SeqM} {k:Frt} {s b z:Nat} (a:q.nx s b=(z:Int)) (c:k.some z=true):KQ q k s b=[q.os s b++k.l z]:=by
 unfold KQ;rw[a,BO,c,AP];rintro(h|h)
 .omega
 .cases h
theorem Xk {q:SeqM} {k:Frt} {s b:Nat} (h:q.nx s b<0):KQ q k s b=[]:=by unfold KQ;rw[AU (.inl h)]
theorem Ve {q:SeqM} {k:Frt} {s b z:Nat} (a:q.nx s b=(z:Int)) (c:k.some z=false):KQ q k s b=[]:=by unfold KQ;rw[AU (.inr (by rw[a,BO];exact c))]
theorem Oi {l:List ByteArray} {m:Nat} (h:∀x∈l,x.size<=m):(EZ l).size<=m:=by
 cases l with
 | nil=>exact AN _
 | cons s l=>have:=(IT (l:=s::l) (List.cons_ne_nil _ _) _).1 (CW _) s BR;have:=this.length_le;rw[CK,CK]at this;exact AK this (h s BR)
theorem Qb {q:SeqM} {k:Frt} {s n m:Nat} (c:Gp q=true) (d:s<q.next.length) (i:n<=256) (g:∀z,(k.l z).size<=m):∀x∈IU q k s n,x.size<=4096+m:=by
 intro x a;unfold IU at a;rcases Bj.1 a with a|a
 .unfold QA at a
  split at a
  .rw [AM]at a;subst a;have:=(FQ c d (b:=0) (by decide)).2.2.2.2.1;omega
  .cases a
 .obtain ⟨b,f,a⟩:=Bz.1 a
  have f:=BE.1 f;unfold KQ at a;split at a
  .cases a
  .rw [AM]at a;subst a;have h1:=(FQ c d (b:=b) (by omega)).2.2.1;have h2:=g (q.nx s b).toNat;have e:=BY List.length (DW (q.os s b) (k.l (q.nx s b).toNat));rw[CK,AJ,CK,CK]at e;omega
theorem Vf (q:SeqM) (v:Value) (B s n m:Nat) (k:Frt) (Al As:Option Addr) (cl cs:Nat) (w:World) (HS:GC w B q v) (hB:B<=w.heap.size) (C:Gp q=true) (R:q.next.length=n) (H:s<n) (HL:Reads w B 1 Al n (kL k n)) (HM:Reads w B 1 As n (kS k n)) (hl:∀z,(k.l z).size<=m) (hm:m<=100000000) :Calls Tryz.prog 101 #[v,.int .i64 (s:Int),.slice Al n cl,.slice As n cs] w (C7 (.string (EZ (FZ q k s))) w):=by
 obtain⟨A1,c1,A2,c2,A3,c3,A4,c4,rfl,hf,l1,l2,l3,l4,m1,m2,m3,m4,R1,S,R2,ak,R3,R4,al⟩:=HS;obtain⟨p1,p2,p3,p4,p5,p6⟩:=Ea C;have am:=AB p6;have I:=AB (fun b (g:b<256)=>FQ C (by rw[R];exact H) g);have an:=AB (fun j (hj:j<=256)=>Qb (s:=s) (n:=j) C (by rw[R];exact H) hj hl);rw[p2]at l2 R2 ⊢;rw[p3]at l3 R3 ⊢;rw[p4]at l4 R4 ⊢;rw[R]at p1 l1 l2 l3 l4 R1 R2 R3 R4 ⊢;have K:=BL.new w 27 #[.string q.front,.slice A1 n c1,.slice A2 n c2,.slice A3 n c3,.slice A4 n c4];have LB:=(AH w.heap.size w).alloc (AD _) (.cells #[.string q.front,.slice A1 n c1,.slice A2 n c2,.slice A3 n c3,.slice A4 n c4] 27);have be:(0:Int)<=(s:Int):=by omega
 have bf:(s:Int)<(n:Int):=by omega
 have T:q.ends.getD s false=q.en s:=rfl;have U:q.tail.getD s ByteArray.empty=q.tl s:=rfl;obtain⟨g3,o3,rfl,bg,x3⟩:=C6 (d:=false) R3 s H;obtain⟨g4,o4,rfl,bh,x4⟩:=C6 (d:=ByteArray.empty) R4 s H;rw[T]at x3;rw[U]at x4;have e1:(q.next.map fun r=>r.map (Value.int .i64)).getD s []=(q.next.getD s []).map (Value.int .i64):=by rw[AC,AC,Ag];cases q.next[s]?<;>rfl
 have e2:(q.outs.map fun r=>r.map Value.string).getD s []=(q.outs.getD s []).map Value.string:=by rw[AC,AC,Ag];cases q.outs[s]?<;>rfl
 obtain⟨g1,o1,bi,d1,rfl,bj,V,X,y1,z1⟩:=R1.at_ s H;obtain⟨g2,o2,bk,d2,rfl,bl,Y,Z,y2,z2⟩:=R2.at_ s H;rw[e1]at V X y1;rw[e2]at Y Z y2;simp only[A6]at V Y X Z y1 y2;have t:=am.out s (by rw[R];exact H);have Hn:=AB R;clear p2 p3 p4;rw[t.1]at V X y1;rw[t.2]at Y Z y2;have ao:n≠q.next.length\/True:=.inr trivial;have ap:=AB hm;generalize q.front=fr at *;have HX:=AB (fun(W:World) (g:Below w.heap.size w W)=>AI ((g.cell (p:=⟨g3,o3+s,none⟩) (by show g3<_;omega)).trans x3) (AI ((g.cell (p:=⟨g4,o4+s,none⟩) (by show g4<_;omega)).trans x4) (AI ((g.cell (p:=⟨g1,o1+s,none⟩) (by show g1<_;omega)).trans V) (AI ((g.cell (p:=⟨g2,o2+s,none⟩) (by show g2<_;omega)).trans Y) (AI (X.below (g.mono hB)) (AI (Z.below (g.mono hB)) (AI (HL.below (g.mono hB)) (HM.below (g.mono hB)))))))));have k1:=AF (K.cell 1);have k2:=AF (K.cell 2);have k3:=AF (K.cell 3);have k4:=AF (K.cell 4);obtain⟨j3,j4,j1,j2,_⟩:=HX.out _ LB;have aq:=AF j3;have ar:=AF j4;clear R1 R2 R3 R4 S ak al V Y x3 x4 X Z HL HM e1 e2 T U t p6 C ao R;go_enter Tryz.func101,Tryz.ntmps101;go_wp2;refine Au (by kernel_rfl) (by kernel_rfl) ?_
 repeat (go_big_quiet_step (fail))
 refine Ah ?_;intro w5 J;have c:=LB.trans ((Bu J).mono (by simp));have u:=K.below (Bu J) K.lt;have k1:=u.cell 1;obtain⟨_,_,j1,_⟩:=HX.out _ c;have L:=AB (AI u c)
 have aa:Value.string (q.tl s)=.string (EZ (IU q k s 0))/\Value.bool (q.en s)=.bool (!(IU q k s 0).isEmpty):=by
  have he:=(I.out 0 (by decide)).2.2.2.2.2;unfold IU QA;rcases au:q.en s with _|_
  .rw [he au];exact⟨rfl,rfl⟩
  .exact ⟨rfl,rfl⟩
 have M:=AB aa;have ab:=u.lt;clear J K LB u c j3 j4 j2 aq ar k2 k3 k4 aa;go_wp2;clear k1 j1;go_loopw [9,10,30] (fun f kn i wr=>∃b:Nat,b<=256/\i=.int .i64 (b:Int)/\f=.string (EZ (IU q k s b))/\kn=.bool (!(IU q k s b).isEmpty)/\BL wr w.heap.size 27 #[.string fr,.slice (some ⟨g1,o1,none⟩) n c1,.slice (some ⟨g2,o2,none⟩) n c2,.slice (some ⟨g3,o3,none⟩) n c3,.slice (some ⟨g4,o4,none⟩) n c4]/\Below w.heap.size w wr) (fun _ _ i _=>256-(intOf i).toNat)
 case atStart=>exact⟨0,AN _,rfl,M.out.1,M.out.2,L.out.1,L.out.2⟩
 case round=>
  clear L M ab;obtain⟨b,g,rfl,rfl,rfl,u,c⟩:=hrel;have av:=AB (Oi (an.out b g));have y:=AB (VN q k s b);have ac:=AB (rfl:IU q k s b=IU q k s b);generalize ad:IU q k s b=o at *;have aw:=AB ad;clear ad ac;have ae:=c.size;by_cases D:b<256
  .have bm:(0:Int)<=(b:Int):=by omega
   have bn:(b:Int)<256:=by omega
   obtain⟨z0,ax,bo,_⟩:=I.out b D;rw[Hn.out]at ax;obtain⟨_,_,j1,j2,ay,az,a0,a1⟩:=HX.out wr c;obtain⟨h1,q1,rfl,bp,r1⟩:=C6 (d:=0) ay b D;have a2:(q.next.getD s []).getD b 0=q.nx s b:=rfl;rw[a2]at r1;by_cases G:q.nx s b<0
   .have A:=AB (show IU q k s (b+1)=o by rw[y.out,Xk G,BC])
    generalize q.nx s b=z at *;go_wp2;go_roundw
    case rel=>exact⟨b+1,by omega,by go_num,by rw[A.out],by rw[A.out],u,c⟩
    case measure=>simp[intOf];omega
   .obtain ⟨z,S⟩:∃z:Nat,q.nx s b=(z:Int):=⟨_,(AT (by omega)).symm⟩
    have af:z<n:=by omega
    have HZ:=AB S;rw[S]at r1 G;have bc:(0:Int)<=(z:Int):=by omega
    have bd:(z:Int)<(n:Int):=by omega
    obtain⟨gm,om,rfl,bq,u1⟩:=Ku a1 z af;rcases a:k.some z with _|_
    .rw [a]at u1
     have A:=AB (show IU q k s (b+1)=o by rw[y.out,Ve HZ.out a,BC]);clear S a;go_wp2;go_roundw
     case rel=>exact⟨b+1,by omega,by go_num,by rw[A.out],by rw[A.out],u,c⟩
     case measure=>simp[intOf];omega
    .rw [a]at u1
     have A:=AB (show IU q k s (b+1)=o++[q.os s b++k.l z]by rw[y.out,Xj HZ.out a]);obtain⟨gl,ol,rfl,br,u2⟩:=Ku a0 z af;obtain⟨h2,q2,rfl,bs,r2⟩:=C6 (d:=ByteArray.empty) az b D;have a3:(q.outs.getD s []).getD b ByteArray.empty=q.os s b:=rfl;rw[a3]at r2;have bt:=hl z;generalize k.l z=lz at *;generalize q.os s b=ot at *;have bu:ot.size+lz.size<=9223372036854775807:=by omega
     have k2:=AF (u.cell 2);have a4:=AF j2;have a5:=AF r2;have a6:=AF u2;clear S a;go_wp2;refine Au (by kernel_rfl) (by kernel_rfl) ?_
     repeat (go_big_quiet_step (fail))
     refine Ah ?_;intro w6 N;have K6:=u.below (Bu N) u.lt;have E:=c.trans ((Bu N).mono ae);clear N u c k2 j2 a4 r2 a5 u2 a6 u1 r1 j1;generalize a7:ot++lz=O at *;have bv:O.size<=100004096:=by have h1:=(I.out b D).2.2.1;have e:=BY List.length (DW ot lz);rw[CK,AJ,CK,CK,a7]at e;have:=ap.out;omega
     generalize F:(!o.isEmpty)=kn at *;rcases kn with _|_
     .have ag:o=[]:=by simpa using F
      subst ag;clear F;go_wp2;go_roundw
      case rel=>exact⟨b+1,by omega,by go_num,by rw[A.out];rfl,by rw[A.out];rfl,K6,E⟩
      case measure=>simp[intOf];omega
     .have ah:o≠[]:=by simpa using F
      clear F;have a8:(EZ o).size<=100004096:=by have:=av.out;omega
      have a9:=AB (show EZ (o++[O])=Jp (EZ o) [O]by rw[XL,AP ah];rfl);generalize EZ o=ff at *;have LA:=(AH w6.heap.size w6).alloc (AD _) (.cells #[.string ff,.string O] 9);have ai:=Bg w6 [.string ff,.string O] 9 1 2 rfl
      have aj:=Tk (some ⟨w6.heap.size,0,none⟩) 2 ff [O] (w6.alloc (.cells #[.string ff,.string O] 9)) (ai.more (by simp)) (fun x hx=>by
       unfold maxLen;rcases Bh.1 hx with rfl|hx
       .omega
       .rw [AM]at hx;subst hx;omega) (AD _) (by unfold maxLen;decide)
      have ba:=AB aj;have K7:=K6.below LA K6.lt;have P:=E.trans (LA.mono E.size);clear aj ai K6 E LA
      go_wp2_with fail
      refine ba.out.mono ?_;rintro e w8 ⟨rfl,Q⟩;have K8:=K7.below Q K7.lt;have bb:=P.trans (Q.mono P.size);clear K7 P Q;go_wp2;go_roundw
      case rel=>exact⟨b+1,by omega,by go_num,by rw[A.out,a9.out],by rw[A.out];simp,K8,bb⟩
      case measure=>simp[intOf];omega
  .obtain rfl:b=256:=by omega
   have HF:=AB (show C7 (.string (EZ (FZ q k s))) w (.returned (.string (EZ o))) wr from⟨by rw[show FZ q k s=o from aw.out],c⟩);go_wp2;exact AQ (v:=.string (EZ o)) (by simp[results,Tryz.results101,go_sem]) rfl HF.out
end
section
open Go.RowKit Go.Sort
def qV (xs:List Nat):List Value:=xs.map fun z:Nat=>Value.int .i64 (z:Int)
def bV (f:Nat->Bool) (n:Nat):Array Value:=(GY (fun s=>.bool (f s)) n).toArray
theorem Kb (f:Nat->Bool) {n k:Nat} (h:k<n):(bV f n)[k]?=some (.bool (f k)):=by unfold bV;rw[CQ,IH _ h]
theorem Qc (f:Nat->Bool) (n k:Nat) (v:Bool) (a:k<n):(bV f n).setIfInBounds k (.bool v)=bV (fun j=>if j=k then v else f j) n:=by unfold bV;rw[Bm,MX _ _ _ _ a];congr 1;unfold GY;apply Em;intro j _;show(if j=k then Value.bool v else .bool (f j))=.bool (if j=k then v else f j);split<;>rfl
theorem Pe (n:Nat):(List.replicate n (Value.bool false)).toArray=bV (fun _=>false) n:=by
 unfold bV GY;congr 1;apply Ct;intro j;rw[CC,Ag];by_cases a:j<n
 .rw [CP a];simp[a]
 .rw [AY (by simpa using a)];simp[a]
def ZT (w:World) (g n:Nat):Nat:=((List.range n).filter fun s=>match w.cell? ⟨g,s,none⟩with|some (.bool false)=>true|_=>false).length
def KJ (f:Nat->Bool) (n:Nat):Nat:=((List.range n).filter fun s=>!f s).length
theorem We {w:World} {g n:Nat} {f:Nat->Bool} {T:TypeId} (h:BL w g T (bV f n)):ZT w g n=KJ f n:=by unfold ZT KJ;congr 1;apply F5;intro s a;rw[h.cell,Kb f (BE.1 a)];cases f s<;>rfl
theorem filter_one {l:List Nat} (c:l.Nodup) {p:Nat->Bool} {s:Nat} (g:s∈l) (i:p s=true):(l.filter fun j=>if j=s then false else p j).length+1=(l.filter p).length:=by
 induction l with
 | nil=>cases g
 | cons x l ih=>
  rw[Dy]at c;rcases Bh.1 g with rfl|a
  .rw [CE (by simp),CD (by simpa using i),Bn]
   congr 2;apply F5;intro j k;have f:j≠s:=fun e=>c.1 (by rw[<-e];exact k)
   rw[AP f]
  .have b:x≠s:=fun e=>c.1 (e▸a)
   have:=ih c.2 a;by_cases d:p x=true
   .rw [CD (by simp[b,d]),CD d,Bn,Bn];omega
   .rw [CE (by simp[b,d]),CE d];exact this
theorem UH {f:Nat->Bool} {n s:Nat} (a:s<n) (h:f s=false):KJ (fun j=>if j=s then true else f j) n+1=KJ f n:=by
 unfold KJ;have:=filter_one (l:=List.range n) E5 (p:=fun j=>!f j) (BE.2 a) (by simp[h]);rw[<-this];congr 2;apply F5;intro j _;by_cases e:j=s
 .simp [e]
 .simp [e]
theorem X1i (f:Nat->Bool) (n:Nat):KJ f n<=n:=by unfold KJ;exact AK (CA _ _) (by simp)
theorem GK (xs:List Nat):(qV xs).length=xs.length:=by unfold qV;simp
def MY:Value->Nat
 | .slice _ n _=>n
 | _=>0
def MZ (q:SeqM) (n:Nat) (w:World) (e:Ending) (w':World):Prop:=∃g seen,e=.returned (.slice (some ⟨g,0,none⟩) n n)/\BL w' g 4 (bV seen n)/\w.heap.size<=g/\Below w.heap.size w w'/\(0<n->seen 0=true) /\∀s,s<n->seen s=true->∀b,b<256->0<=q.nx s b->seen (q.nx s b).toNat=true
structure ReaW (w wr:World) (gS n:Nat) (cs:Array Value) (seen:Nat->Bool) (xs:List Nat) (v:Value):Prop where
 box:BL wr w.heap.size 27 cs
 seen_:BL wr gS 4 (bV seen n)
 que:Gv wr w.heap.size 3 v (qV xs)
 gS:w.heap.size<=gS
 bel:Below w.heap.size w wr
 first:seen 0=true
 lt:∀z∈xs,z<n
section
variable {w wr w':World} {gS n:Nat} {cs:Array Value} {seen:Nat->Bool} {xs:List Nat} {v:Value}
theorem NZ {base:Nat} {T:TypeId} {xs:List Value} {g:Nat} {cs:Array Value} {e:TypeId} (h:Gv wr base e v xs) (b:BL wr g T cs) (a:e≠T):F8 v≠some g:=by obtain⟨c,off,cap,d,rfl,_,f,_⟩:=h;intro e;have e:c=g:=AL e;subst e;have:=f.symm.trans b;simp only[Dp,Obj.cells.injEq]at this;exact a this.2.1
theorem ReaW.call (h:ReaW w wr gS n cs seen xs v) (a:Below wr.heap.size wr w'):ReaW w w' gS n cs seen xs v:=⟨h.box.below a h.box.lt,h.seen_.below a h.seen_.lt,h.que.below a,h.gS,h.bel.trans (a.mono h.bel.size),h.first,h.lt⟩
theorem ReaW.mark (h:ReaW w wr gS n cs seen xs v) (z:Nat) (a:z<n):ReaW w (wr.setCell ⟨gS,z,none⟩ (.bool true)) gS n cs (fun j=>if j=z then true else seen j) xs v:=by
 refine⟨h.box.far (p:=⟨gS,z,none⟩) (fun e=>BL.ne_ h.box h.seen_ (by decide) e) _,?_,h.que.setCell (NZ h.que h.seen_ (by decide)) _,h.gS,h.bel.setCell (p:=⟨gS,z,none⟩) h.gS _,?_,h.lt⟩
 .have:=h.seen_.set_ z (.bool true);rwa [Qc _ _ _ _ a]at this
 .show (if 0=z then true else seen 0)=true
  split
  .rfl
  .exact h.first
theorem ReaW.push (h:ReaW w wr gS n cs seen xs v) {v':Value} {z:Nat} (c:z<n) (d:Gv w' w.heap.size 3 v' (qV xs++[.int .i64 (z:Int)])) (b:wr.grownBy w' (F8 v)):ReaW w w' gS n cs seen (xs++[z]) v':=by
 have f:=NZ h.que h.box (by decide);have g:=NZ h.que h.seen_ (by decide);refine⟨h.box.grown b (fun e=>f e.symm),h.seen_.grown b (fun e=>g e.symm),?_,h.gS,h.bel.grown b h.bel.size (fun k i=>(h.que.lt k i).1),h.first,fun y a=>?_⟩
 .have e:qV (xs++[z])=qV xs++[.int .i64 (z:Int)]:=by unfold qV;simp
  rw[e];exact d
 .rcases Bj.1 a with a|a
  .exact h.lt y a
  .rw [AM]at a;subst a;exact c
end
end
section
def TA (k:Frt) (n:Nat):Nat:=((List.range n).filter k.some).length
theorem TB (k:Frt) (n:Nat):TA k n<=n:=by unfold TA;exact AK (CA _ _) (by simp)
theorem UI {l:List Nat} (a:l.Nodup) {p:Nat->Bool} {s:Nat} (b:s∈l) (c:p s=false):(l.filter fun j=>if j=s then true else p j).length=(l.filter p).length+1:=by
 have h:=filter_one a (p:=fun j=>if j=s then true else p j) b (by simp);rw[<-h];congr 2;apply F5;intro j _;by_cases e:j=s
 .simp [e,c]
 .simp [e]
theorem ZU {k:Frt} {n s:Nat} (f:ByteArray) (a:s<n):TA (k.put s f) n=if k.some s=true then TA k n else TA k n+1:=by
 unfold TA Frt.put;split
 .rename_i h
  congr 1;apply F5;intro j _;by_cases e:j=s
  .simp [e,h]
  .simp [e]
 .rename_i h;exact UI E5 (BE.2 a) (by simpa using h)
def N_ (k:Frt) (n C:Nat):Nat:=((List.range n).map fun s=>if k.some s=true then(k.l s).size+1 else C).sum
theorem X1j {l:List Nat} (b:l.Nodup) {p c:Nat->Nat} {s:Nat} (f:s∈l) (g:∀j,j≠s->c j=p j) (k:c s+1<=p s):(l.map c).sum+1<=(l.map p).sum:=by
 induction l with
 | nil=>cases f
 | cons x l ih=>
  rw[Dy]at b;simp only[DO,List.sum_cons];rcases Bh.1 f with rfl|a
  .have:l.map c=l.map p:=Em fun j i=>g j fun e=>b.1 (by rw[<-e];exact i)
   rw[this];omega
  .have d:x≠s:=fun e=>b.1 (by rw[e];exact a)
   have:=ih b.2 a;rw[g x d];omega
theorem Xl {k:Frt} {n C s:Nat} {f:ByteArray} (a:s<n) (h:if k.some s=true then f.size<(k.l s).size else f.size+1<C):N_ (k.put s f) n C+1<=N_ k n C:=by
 unfold N_;refine X1j E5 (BE.2 a) (fun j e=>?_) ?_
 .unfold Frt.put;simp[e]
 .unfold Frt.put
  simp only[Dm];split at h<;>rename_i h2
  .rw [AU h2];omega
  .rw [AP h2];omega
def Told (q:SeqM) (k:Frt) (s:Nat):Prop:=(FZ q k s≠[]->k.some s=true)/\(k.some s=true->bl (k.l s)=bl (EZ (FZ q k s)))
structure FroI (q:SeqM) (n:Nat) (k:Frt) (wts:Nat->Bool) (xs:List Nat):Prop where
 ok:FrOk q n k
 bnd:∀s,(k.l s).size<=4096*TA k n
 wt:∀s,s<n->(wts s=true↔s∈xs)
 nd:xs.Nodup
 lt:∀s∈xs,s<n
 rest:∀s,s<n->s∉xs->Told q k s
 go:∀s∈xs,FZ q k s≠[]
theorem Je {α β:Type} {f g:α->List β}:∀{l:List α},(∀x∈l,f x=g x)->l.flatMap f=l.flatMap g
 | [],_=>rfl
 | x::l,h=>by rw[Ei,Ei,h x BR,Je fun y a=>h y (CB _ a)]
theorem Xm {q:SeqM} {k:Frt} {s t:Nat} {f:ByteArray} (h:∀b,b<256->0<=q.nx t b->(q.nx t b).toNat≠s):FZ q (k.put s f) t=FZ q k t:=by
 unfold FZ IU;congr 1;refine Je fun b a=>?_
 have a:=BE.1 a;unfold KQ;by_cases h0:q.nx t b<0
 .rw [AU (.inl h0),AU (.inl h0)]
 .have:=h b a (by omega);unfold Frt.put;simp only[this,Ef]
theorem FroI.skip {q:SeqM} {n:Nat} {k:Frt} {wts:Nat->Bool} {s:Nat} {xs:List Nat} (h:FroI q n k wts (s::xs)) (h1:k.some s=true) (h2:EZ (FZ q k s)=k.l s):FroI q n k (fun j=>if j=s then false else wts j) xs:=by
 have b:=Dy.1 h.nd;refine⟨h.ok,h.bnd,fun t a=>?_,b.2,fun t a=>h.lt t (CB _ a),fun t a d=>?_,fun t a=>h.go t (CB _ a)⟩
 .by_cases e:t=s
  .subst e;simp[b.1]
  .rw [AP e,h.wt t a,Bh];simp[e]
 .by_cases e:t=s
  .subst e;exact⟨fun _=>h1,fun _=>by rw[h2]⟩
  .exact h.rest t a (fun c=>(Bh.1 c).elim e d)
structure FroJ (q:SeqM) (n:Nat) (k:Frt) (wts:Nat->Bool) (xs:List Nat) (l:List Int):Prop where
 ok:FrOk q n k
 bnd:∀s,(k.l s).size<=4096*TA k n
 wt:∀s,s<n->(wts s=true↔s∈xs)
 nd:xs.Nodup
 lt:∀s∈xs,s<n
 rest:∀s,s<n->s∉xs->(s:Int)∈l\/Told q k s
 go:∀s∈xs,FZ q k s≠[]
theorem FroJ.done {q:SeqM} {n:Nat} {k:Frt} {wts:Nat->Bool} {xs:List Nat} (h:FroJ q n k wts xs []):FroI q n k wts xs:=⟨h.ok,h.bnd,h.wt,h.nd,h.lt,fun s a b=>(h.rest s a b).resolve_left (fun c=>by cases c),h.go⟩
theorem FroI.size {q:SeqM} {n:Nat} {k:Frt} {wts:Nat->Bool} {s:Nat} {xs:List Nat} (h:FroI q n k wts (s::xs)) (a:Gp q=true) (b:q.next.length=n):∀x∈FZ q k s,x.size<=4096+4096*TA k n:=Qb a (by rw[b];exact h.lt s BR) (AD _) h.bnd
theorem FroI.tell {q:SeqM} {n:Nat} {k:Frt} {wts:Nat->Bool} {s:Nat} {xs:List Nat} (h:FroI q n k wts (s::xs)) (i:Gp q=true) (z:q.next.length=n) {l:List Int} (A:∀t b,t<n->b<256->q.nx t b=(s:Int)->(t:Int)∈l) :FroJ q n (k.put s (EZ (FZ q k s))) (fun j=>if j=s then false else wts j) xs l:=by
 have d:=Dy.1 h.nd;have u:=h.lt s BR;have B:=h.go s BR;have m:=h.size i z;refine⟨h.ok.put u B,fun t=>?_,fun t a=>?_,d.2,fun t a=>h.lt t (CB _ a),fun t a o=>?_,fun t a e=>?_⟩
 .have v:=h.bnd t
  rw[ZU _ u];by_cases e:t=s
  .subst e
   have p:(k.put t (EZ (FZ q k t))).l t=EZ (FZ q k t):=by unfold Frt.put;simp
   rw[p];split
   .rename_i h2;have:=(h.ok.down t h2).2.length_le;rw[CK,CK]at this;omega
   .have:=Oi m;omega
  .have p:(k.put s (EZ (FZ q k s))).l t=k.l t:=by unfold Frt.put;simp[e]
   rw[p];split<;>omega
 .by_cases e:t=s
  .subst e;simp[d.1]
  .rw [AP e,h.wt t a,Bh];simp[e]
 .by_cases g:(t:Int)∈l
  .exact .inl g
  .right
   have r:=Xm (q:=q) (k:=k) (s:=s) (t:=t) (f:=EZ (FZ q k s)) fun b v h0 e=>g (A t b a v (by omega))
   unfold Told;rw[r];by_cases e:t=s
   .subst e;unfold Frt.put;simp
   .have h3:=h.rest t a (fun c=>(Bh.1 c).elim e o);unfold Frt.put;simp only[e,Ef];exact h3
 .have:=h.go t (CB _ a)
  obtain⟨x,C⟩:=De _ this;have D:k.some s=true->bl (EZ (FZ q k s)) <+: bl (k.l s):=fun e=>(h.ok.down s e).2
  obtain⟨y,w,_⟩:=Nz D t x C;rw[e]at w;cases w
theorem FroJ.pass {q:SeqM} {n:Nat} {k:Frt} {wts:Nat->Bool} {xs:List Nat} {z:Nat} {l:List Int} (h:FroJ q n k wts xs ((z:Int)::l)) (d:z<n) (c:wts z=true):FroJ q n k wts xs l:=
 ⟨h.ok,h.bnd,h.wt,h.nd,h.lt,fun s a b=>by
  rcases h.rest s a b with h2|h2
  .rcases Bh.1 h2 with e|e
   .have:s=z:=by omega
    subst this;exact absurd ((h.wt s a).1 c) b
   .exact .inl e
  .exact .inr h2,h.go⟩
theorem FroJ.push {q:SeqM} {n:Nat} {k:Frt} {wts:Nat->Bool} {xs:List Nat} {z:Nat} {l:List Int} (h:FroJ q n k wts xs ((z:Int)::l)) (g:z<n) (i:wts z=false) (o:FZ q k z≠[]):FroJ q n k (fun j=>if j=z then true else wts j) (xs++[z]) l:=by
 have d:z∉xs:=fun e=>by rw[(h.wt z g).2 e]at i;cases i
 refine⟨h.ok,h.bnd,fun t c=>?_,?_,fun t c=>?_,fun t c f=>?_,fun t c=>?_⟩
 .by_cases e:t=z
  .simp [e]
  .rw [AP e,h.wt t c,Bj,AM];simp[e]
 .rw [List.nodup_append];exact⟨h.nd,by simp,fun a p b m=>by rw[AM]at m;subst m;exact fun e=>d (e▸p)⟩
 .rcases Bj.1 c with c|c
  .exact h.lt t c
  .rw [AM]at c;subst c;exact g
 .rw [Bj,AM,not_or]at f
  rcases h.rest t c f.1 with h2|h2
  .rcases Bh.1 h2 with e|e
   .exact absurd (show t=z by omega) f.2
   .exact .inl e
  .exact .inr h2
 .rcases Bj.1 c with c|c
  .exact h.go t c
  .rw [AM]at c;subst c;exact o
theorem FroI.fronts {q:SeqM} {k:Frt} {wts:Nat->Bool} (h:FroI q q.next.length k wts []) (a:Gp q=true):Fronts q k:=h.ok.fronts (fun s b d e=>(FQ a d e).2.1) fun s d=>h.rest s d (fun c=>by cases c)
end
section
open Go.RowKit Go.Sort
def putT (t:ByteArray):List UInt8:=Lib.decDigits t.size++58::bl t
def G8 (q:SeqM) (s c:Nat):List UInt8:=if q.nx s c<0 then[]else 103::(Lib.decDigits c++58::putT (q.os s c))
def Il (q:SeqM) (s:Nat):List UInt8:=if q.en s=true then 101::putT (q.tl s)else[]
def G9 (q:SeqM) (s n:Nat):List UInt8:=Il q s++(List.range n).flatMap (G8 q s)
def I6 (q:SeqM) (s:Nat):List UInt8:=G9 q s 256
theorem O9 (q:SeqM) (s n:Nat):G9 q s (n+1)=G9 q s n++G8 q s n:=by unfold G9;rw[Dj,DE,Ac];simp
theorem Pf {u:Nat} (a:u<10000000000000):(Lib.decDigits u).length<=20:=by
 rw[Lib.decDigits_length];by_cases h:Lib.nDigits u<=20
 .exact h
 .exfalso
  have:=Lib.nDigits_pos u
  have h3:∀k u,u<10^(k+1)->Lib.nDigits u<=k+1:=by
   intro k
   induction k with
   | zero=>intro u a;rw[Lib.nDigits_small (by simpa using a)];exact AD _
   | succ k ih=>
    intro u a;by_cases h10:u<10
    .rw [Lib.nDigits_small h10];omega
    .rw [Lib.nDigits_big h10];have:=ih (u / 10) (EP (by rw[Nat.pow_succ,D6]at a;exact a));omega
  exact h (h3 19 u (Aj a (by decide)))
theorem UJ {t:ByteArray} (h:t.size<=4096):(putT t).length<=4200:=by unfold putT;have:=Pf (u:=t.size) (by omega);rw[AJ,Bn,CK];omega
theorem Vg {q:SeqM} {s c:Nat} (a:c<256) (h:(q.os s c).size<=4096):(G8 q s c).length<=4300:=by
 unfold G8;split
 .exact AN _
 .have h1:=UJ h;have h2:=Pf (u:=c) (by omega);rw[Bn,AJ,Bn];omega
theorem Nl {q:SeqM} {s:Nat} (a:(q.tl s).size<=4096) (h:∀c,c<256->(q.os s c).size<=4096):∀n,n<=256->(G9 q s n).length<=4300*(n+1)
 | 0,_=>by
  unfold G9 Il;have:=UJ a;simp only[List.range_zero,D8,BC];split
  .rw [Bn];omega
  .exact AN _
 | n+1,hn=>by have h1:=Nl a h n (by omega);have h2:=Vg (q:=q) (s:=s) (c:=n) (by omega) (h n (by omega));rw[O9,AJ];omega
theorem UK {t u:ByteArray} {x y:List UInt8} (h:putT t++x=putT u++y):t=u/\x=y:=by unfold putT at h;simp only[Ac,Cf]at h;obtain⟨a,h2⟩:=IV (Dw _).2 (Dw _).2 h;obtain⟨b,c⟩:=List.append_inj h2 (by rw[CK,CK];exact JE a);exact⟨D_ b,c⟩
def Fe (q:SeqM) (s:Nat) (l:List Nat):List UInt8:=l.flatMap (G8 q s)
theorem Ma (q:SeqM) (s:Nat):∀l:List Nat,Fe q s l=[]\/∃c∈l,∃r,Fe q s l=103::(Lib.decDigits c++58::r)
 | []=>.inl rfl
 | c::l=>by
  have e:Fe q s (c::l)=G8 q s c++Fe q s l:=rfl;rw[e];unfold G8;by_cases h:q.nx s c<0
  .rw [AU h,Cy]
   rcases Ma q s l with h2|⟨a,b,r,h2⟩
   .exact .inl h2
   .exact .inr ⟨a,CB _ b,r,h2⟩
  .rw [AP h];exact .inr ⟨c,BR,putT (q.os s c)++Fe q s l,by simp⟩
theorem Qd {q:SeqM} {s t:Nat}:∀{l:List Nat},l.Nodup->Fe q s l=Fe q t l->∀b∈l,(q.nx s b<0↔q.nx t b<0)/\(0<=q.nx s b->q.os s b=q.os t b)
 | [],_,_,b,d=>(by cases d)
 | c::l,hd,h,b,d=>by
  have f:=Dy.1 hd;have g:Fe q s (c::l)=G8 q s c++Fe q s l:=rfl;have i:Fe q t (c::l)=G8 q t c++Fe q t l:=rfl;rw[g,i]at h
  have one:∀s t,¬q.nx s c<0->q.nx t c<0->G8 q s c++Fe q s l=G8 q t c++Fe q t l->False:=fun s t h1 h2 h=>by
   unfold G8 at h;rw[AP h1,AU h2,Cy]at h;rcases Ma q t l with h3|⟨k,j,r,h3⟩
   .rw [h3]at h;cases h
   .rw [h3]at h;simp only[Cf,Ac]at h;obtain⟨e,_⟩:=IV (Dw _).2 (Dw _).2 (List.cons.inj h).2;exact f.1 (by rw[JE e];exact j)
  have a:((q.nx s c<0↔q.nx t c<0)/\(0<=q.nx s c->q.os s c=q.os t c))/\Fe q s l=Fe q t l:=by
   by_cases h1:q.nx s c<0
   .by_cases h2:q.nx t c<0
    .unfold G8 at h;rw[AU h1,AU h2]at h;exact⟨⟨by simp[h1,h2],fun h=>by omega⟩,by simpa using h⟩
    .exact (one t s h2 h1 h.symm).elim
   .by_cases h2:q.nx t c<0
    .exact (one s t h1 h2 h).elim
    .unfold G8 at h;rw[AP h1,AP h2]at h;simp only[Cf,Ac]at h;obtain⟨_,h3⟩:=IV (Dw _).2 (Dw _).2 (List.cons.inj h).2;obtain⟨h4,h5⟩:=UK h3;exact⟨⟨by simp[h1,h2],fun _=>h4⟩,h5⟩
  rcases Bh.1 d with rfl|d
  .exact a.1
  .exact Qd f.2 a.2 b d
def Pg (q:SeqM) (s t:Nat):Prop:=q.en s=q.en t/\(q.en s=true->q.tl s=q.tl t)/\∀b,b<256->(q.nx s b<0↔q.nx t b<0)/\(0<=q.nx s b->q.os s b=q.os t b)
theorem Rv (q:SeqM) (s t:Nat):I6 q s=I6 q t↔Pg q s t:=by
 have e:∀s,I6 q s=Il q s++Fe q s (List.range 256):=fun s=>rfl
 rw[e,e];constructor
 .intro h
  have a:∀s t,q.en s=true->q.en t=false->Il q s++Fe q s (List.range 256)=Il q t++Fe q t (List.range 256)->False:=fun s t h1 h2 h=>by
   unfold Il at h;rw[AU h1,h2,AP (by decide),Cy]at h;rcases Ma q t (List.range 256)with h3|⟨_,_,_,h3⟩<;>rw[h3]at h
   .cases h
   .exact absurd (List.cons.inj h).1 (by decide)
  have c:(q.en s=q.en t/\(q.en s=true->q.tl s=q.tl t))/\Fe q s (List.range 256)=Fe q t (List.range 256):=by
   rcases h1:q.en s with _|_<;>rcases h2:q.en t with _|_
   .unfold Il at h;rw[h1,h2,AP (by decide)]at h;exact⟨⟨rfl,fun h=>by cases h⟩,by simpa using h⟩
   .exact (a t s h2 h1 h.symm).elim
   .exact (a s t h1 h2 h).elim
   .unfold Il at h;rw[AU h1,AU h2]at h;obtain⟨h3,h4⟩:=UK (List.cons.inj h).2;exact⟨⟨rfl,fun _=>h3⟩,h4⟩
  exact⟨c.1.1,c.1.2,fun b d=>Qd E5 c.2 b (BE.2 d)⟩
 .rintro ⟨h1,h2,h3⟩
  have f:Il q s=Il q t:=by
   unfold Il;rw[h1]at h2 ⊢;split
   .rename_i h;rw[h2 h]
   .rfl
  have a2:Fe q s (List.range 256)=Fe q t (List.range 256):=by
   unfold Fe;refine Je fun b d=>?_
   obtain⟨h4,h5⟩:=h3 b (BE.1 d);unfold G8;by_cases h:q.nx s b<0
   .rw [AU h,AU (h4.1 h)]
   .rw [AP h,AP (fun e=>h (h4.2 e)),h5 (by omega)]
  rw[f,a2]
end
section
structure NumI (f:Nat->List UInt8) (n:Nat) (m:Nat->Nat) (ks:List (List UInt8)):Prop where
 at_:∀t,t<n->ks[m t]?=some (f t)
 onto:∀i,i<ks.length->∃t,t<n/\m t=i
theorem NumI.start (f:Nat->List UInt8) (m:Nat->Nat):NumI f 0 m []:=⟨fun _t h=>absurd h (B6 _),fun _i h=>absurd h (B6 _)⟩
theorem NumI.put {f:Nat->List UInt8} {n i:Nat} {m:Nat->Nat} {a:List (List UInt8)} (h:NumI f n m a) (hi:(Mb a (f n))[i]?=some (f n)):NumI f (n+1) (fun t=>if t=n then i else m t) (Mb a (f n)):=by
 have c:∀t,t<n->m t<a.length:=fun t k=>by
  rcases BF (m t) a.length with e|e
  .exact e
  .have:=h.at_ t k;rw[AY e]at this;cases this
 refine⟨fun t k=>?_,fun j b=>?_⟩
 .by_cases e:t=n
  .subst e;rw[AU rfl];exact hi
  .rw [AP e]
   have h1:=h.at_ t (by omega);unfold Mb;split
   .exact h1
   .rw [Bi (c t (by omega))];exact h1
 .by_cases d:f n∈a
  .unfold Mb at b;rw[AU d]at b;obtain⟨t,h1,h2⟩:=h.onto j b;exact⟨t,by omega,by rw[AP (by omega)];exact h2⟩
  .unfold Mb at b hi
   rw[AP d]at b hi;rcases BF j a.length with e|e
   .obtain ⟨t,h1,h2⟩:=h.onto j e;exact⟨t,by omega,by rw[AP (by omega)];exact h2⟩
   .refine ⟨n,by omega,?_⟩
    rw[AU rfl];have l:j=a.length:=by simp at b;omega
    rcases Fz i a.length with g|g|g
    .rw [Bi g]at hi;exact absurd (Cl hi) d
    .omega
    .rw [AY (by simp;omega)]at hi;cases hi
structure Numbered (f:Nat->List UInt8) (n:Nat) (m:Nat->Nat) (c:Nat):Prop where
 lt:∀s,s<n->m s<c
 eq:∀s t,s<n->t<n->(m s=m t↔f s=f t)
 onto:∀i,i<c->∃s,s<n/\m s=i
theorem NumI.done {f:Nat->List UInt8} {n:Nat} {m:Nat->Nat} {b:List (List UInt8)} (h:NumI f n m b) (g:b.Nodup):Numbered f n m b.length:=by
 have a:∀t,t<n->m t<b.length:=fun t c=>by
  rcases BF (m t) b.length with e|e
  .exact e
  .have:=h.at_ t c;rw[AY e]at this;cases this
 refine⟨a,fun s t d c=>?_,h.onto⟩;have h1:=h.at_ s d;have h2:=h.at_ t c;constructor
 .intro e;rw[e,h2]at h1;exact(AL h1).symm
 .intro e
  rw[AG (a s d)]at h1;rw[AG (a t c)]at h2;have:b[m s]'(a s d)=b[m t]'(a t c):=by rw[AL h1,AL h2,e]
  exact(List.getElem_inj g).1 this
def Nm (x:Nat):List UInt8:=[UInt8.ofNat (x / 256),UInt8.ofNat x]
theorem UM {x y:Nat} (a:x<65536) (b:y<65536) (h:Nm x=Nm y):x=y:=by unfold Nm at h;have h1:=BY UInt8.toNat (List.cons.inj h).1;have h2:=BY UInt8.toNat (List.cons.inj (List.cons.inj h).2).1;simp at h1 h2;omega
def NQ (q:SeqM) (l:Nat->Nat) (s b:Nat):List UInt8:=if q.nx s b<0 then[]else Nm (l (q.nx s b).toNat)
def Ki (q:SeqM) (l:Nat->Nat) (s n:Nat):List UInt8:=Nm (l s)++(List.range n).flatMap (NQ q l s)
def TD (q:SeqM) (l:Nat->Nat) (s:Nat):List UInt8:=Ki q l s 256
theorem Rw (q:SeqM) (l:Nat->Nat) (s n:Nat):Ki q l s (n+1)=Ki q l s n++NQ q l s n:=by unfold Ki;rw[Dj,DE,Ac];simp
theorem UN (q:SeqM) (l:Nat->Nat) (s:Nat):∀n,(Ki q l s n).length<=2*n+2
 | 0=>by unfold Ki;simp[Nm]
 | n+1=>by
  rw[Rw,AJ];have:=UN q l s n;have:(NQ q l s n).length<=2:=by unfold NQ;split<;>simp[Nm]
  omega
theorem UO {q:SeqM} {l:Nat->Nat} {s t:Nat} (g:∀z,l z<65536):∀(L:List Nat),(∀b∈L,(q.nx s b<0↔q.nx t b<0))->L.flatMap (NQ q l s)=L.flatMap (NQ q l t)->∀b∈L,0<=q.nx s b->l (q.nx s b).toNat=l (q.nx t b).toNat
 | [],_,_,b,a,_=>(by cases a)
 | c::L,hs,h,b,a,h0=>by
  rw[Ei,Ei]at h;have j:=hs c BR
  have d:(0<=q.nx s c->l (q.nx s c).toNat=l (q.nx t c).toNat)/\L.flatMap (NQ q l s)=L.flatMap (NQ q l t):=by
   by_cases e:q.nx s c<0
   .have i:NQ q l s c=[]:=AU e;have f:NQ q l t c=[]:=AU (j.1 e);rw[i,f]at h;exact⟨fun h0=>by omega,by simpa using h⟩
   .have i:NQ q l s c=Nm (l (q.nx s c).toNat):=AP e;have f:NQ q l t c=Nm (l (q.nx t c).toNat):=AP (fun f=>e (j.2 f));rw[i,f]at h;obtain⟨h1,h2⟩:=List.append_inj h rfl;exact⟨fun _=>UM (g _) (g _) h1,h2⟩
  rcases Bh.1 a with rfl|a
  .exact d.1 h0
  .exact UO g L (fun b a=>hs b (CB _ a)) d.2 b a h0
structure PartI (q:SeqM) (n:Nat) (m:Nat->Nat) (c:Nat):Prop where
 lt:∀s,s<n->m s<c
 onto:∀i,i<c->∃s,s<n/\m s=i
 fine:∀s t,s<n->t<n->m s=m t->Pg q s t
 full:∀s t,s<n->t<n->QD q s t->m s=m t
theorem NC {n c:Nat} {m:Nat->Nat} (h:∀i,i<c->∃s,s<n/\m s=i):c<=n:=by
 have a:List.range c ⊆ (List.range n).map m:=fun i hi=>by obtain⟨s,h1,h2⟩:=h i (BE.1 hi);exact Bd.2 ⟨s,BE.2 h1,h2⟩
 have:=E5.length_le_of_subset a;simpa using this
theorem UP {q:SeqM} (a:Tight q) {s t:Nat} (d:s<q.next.length) (e:t<q.next.length) (h:QD q s t):Pg q s t:=by obtain⟨h1,h2,h3⟩:=Js a a d e h;exact⟨h1,h2,fun b c=>⟨(h3 b c).1,fun h0=>((h3 b c).2 h0).1⟩⟩
theorem PartI.start {q:SeqM} {n c:Nat} {m:Nat->Nat} (d:Tight q) (f:q.next.length=n) (h:Numbered (I6 q) n m c):PartI q n m c:=⟨h.lt,h.onto,fun s t a b e=>(Rv q s t).1 ((h.eq s t a b).1 e),fun s t a b e=>(h.eq s t a b).2 ((Rv q s t).2 (UP d (by omega) (by omega) e))⟩
structure PartsOk (q:SeqM) (n:Nat) (m:Nat->Nat) (c:Nat):Prop where
 lt:∀s,s<n->m s<c
 onto:∀i,i<c->∃s,s<n/\m s=i
 eq:∀s t,s<n->t<n->(m s=m t↔QD q s t)
theorem Qe {q:SeqM} {n:Nat} {m:Nat->Nat} (g:∀s b,s<n->b<256->q.nx s b<(n:Int)) (i:∀s t,s<n->t<n->m s=m t->Pg q s t) (j:∀s t,s<n->t<n->m s=m t->∀b,b<256->0<=q.nx s b->m (q.nx s b).toNat=m (q.nx t b).toNat):∀(w:List UInt8) (s t:Nat),s<n->t<n->m s=m t->q.runL s w=q.runL t w:=by
 intro w
 induction w with
 | nil=>
  intro s t a d e;obtain⟨h1,h2,_⟩:=i s t a d e;unfold SeqM.runL;rw[<-h1];split
  .rename_i h;rw[h2 h]
  .rfl
 | cons c w ih=>
  intro s t a d e;obtain⟨_,_,h3⟩:=i s t a d e;obtain⟨h4,h5⟩:=h3 c.toNat c.toNat_lt;unfold SeqM.runL;by_cases h:q.nx s c.toNat<0
  .rw [AU h,AU (h4.1 h)]
  .have f:¬q.nx t c.toNat<0:=fun k=>h (h4.2 k)
   have l:=g s c.toNat a c.toNat_lt;have z2:=g t c.toNat d c.toNat_lt;rw[AP h,AP f,h5 (by omega),ih _ _ (by omega) (by omega) (j s t a d e c.toNat c.toNat_lt (by omega))]
theorem PartI.next {q:SeqM} {n c k:Nat} {l m:Nat->Nat} (h:PartI q n l c) (F:Tight q) (M:q.next.length=n) (G:∀z,l z<65536) (g:Numbered (TD q l) n m k) :PartI q n m k/\c<=k/\(k=c->PartsOk q n m k):=by
 have key:∀s t,s<n->t<n->m s=m t->l s=l t/\∀b,b<256->0<=q.nx s b->l (q.nx s b).toNat=l (q.nx t b).toNat:=fun s t a d e=>by have h1:=(g.eq s t a d).1 e;unfold TD Ki at h1;obtain⟨h2,h3⟩:=List.append_inj h1 rfl;have h4:=UM (G _) (G _) h2;obtain⟨_,_,h5⟩:=h.fine s t a d h4;exact⟨h4,fun b f h0=>UO G (List.range 256) (fun b f=>(h5 b (BE.1 f)).1) h3 b (BE.2 f) h0⟩
 have u:∀s b,s<n->b<256->q.nx s b<(n:Int):=fun s b a f=>by rw[<-M];exact F.nx s b (by omega) f
 have D:PartI q n m k:=by
  refine⟨g.lt,g.onto,fun s t a d e=>h.fine s t a d (key s t a d e).1,fun s t a d e=>(g.eq s t a d).2 ?_⟩;obtain⟨_,_,h3⟩:=Js F F (by omega) (by omega) e;unfold TD Ki;rw[h.full s t a d e];congr 1;refine Je fun b f=>?_
  have f:=BE.1 f;obtain⟨h4,h5⟩:=h3 b f;unfold NQ;by_cases h0:q.nx s b<0
  .rw [AU h0,AU (h4.1 h0)]
  .have H:¬q.nx t b<0:=fun E=>h0 (h4.2 E)
   have N:=u s b a f;have z2:=u t b d f;rw[AP h0,AP H,h.full _ _ (by omega) (by omega) (h5 (by omega)).2]
 have v:∃r:Nat->Nat,∀i,i<k->r i<n/\m (r i)=i:=by refine⟨fun i=>if h:i<k then Classical.choose (g.onto i h)else 0,fun i hi=>?_⟩;simp only[dif_pos hi];exact Classical.choose_spec (g.onto i hi)
 obtain⟨r,I⟩:=v;have o:∀j,j<c->∃i,i<k/\l (r i)=j:=fun j J=>by obtain⟨s,a,e⟩:=h.onto j J;have:=I (m s) (g.lt s a);exact⟨m s,g.lt s a,by rw[(key (r (m s)) s this.1 a this.2).1,e]⟩
 refine⟨D,NC o,fun K=>?_⟩;subst K
 have A:∀i j,i<k->j<k->l (r i)=l (r j)->i=j:=fun i j hi J e=>by
  apply DC;intro L
  have B:List.range k ⊆ ((List.range k).erase j).map fun i=>l (r i):=fun x O=>by
   obtain⟨y,P,C⟩:=o x (BE.1 O);by_cases E:y=j
   .subst E;exact Bd.2 ⟨i,(List.mem_erase_of_ne L).2 (BE.2 hi),by rw[e,C]⟩
   .exact Bd.2 ⟨y,(List.mem_erase_of_ne E).2 (BE.2 P),C⟩
  have:=E5.length_le_of_subset B;rw[A6,List.length_erase_of_mem (BE.2 J),EA]at this;omega
 have p:∀s t,s<n->t<n->l s=l t->m s=m t:=fun s t a d e=>by have h1:=I (m s) (g.lt s a);have h2:=I (m t) (g.lt t d);exact A (m s) (m t) (g.lt s a) (g.lt t d) (by rw[(key _ s h1.1 a h1.2).1,(key _ t h2.1 d h2.2).1,e])
 refine⟨g.lt,g.onto,fun s t a d=>⟨fun e w=>?_,D.full s t a d⟩⟩;refine Qe u D.fine (fun s t a d e b f h0=>?_) w s t a d e;have N:=u s b a f;have z2:=u t b d f;have h4:=((D.fine s t a d e).2.2 b f).1;exact p _ _ (by omega) (by omega) ((key s t a d e).2 b f h0)
end
section
open Go.RowKit Go.Sort
def iV (m:Nat->Nat) (n:Nat):Array Value:=(GY (fun s=>.int .i64 (m s:Int)) n).toArray
theorem Rz (m:Nat->Nat) {n k:Nat} (h:k<n):(iV m n)[k]?=some (.int .i64 (m k:Int)):=by unfold iV;rw[CQ,IH _ h]
theorem X1T (m:Nat->Nat) (n k i:Nat) (a:k<n):(iV m n).setIfInBounds k (.int .i64 (i:Int))=iV (fun j=>if j=k then i else m j) n:=by unfold iV;rw[Bm,MX _ _ _ _ a];congr 2;funext j;by_cases e:j=k<;>simp[e]
theorem Wg (n:Nat):(List.replicate n (Value.int .i64 0)).toArray=iV (fun _=>0) n:=by
 unfold iV GY;congr 1;apply Ct;intro j;rw[CC,Ag];by_cases a:j<n
 .rw [CP a];simp[a]
 .rw [AY (by simpa using a)];simp[a]
structure PrtW (W0 wr:World) (n gl gx bm:Nat) (m:Nat->Nat) (ks:List (List UInt8)):Prop where
 l:BL wr gl 3 (iV m n)
 x:BL wr gx 146 #[.map (some bm)]
 num:NP wr bm ks
 bl:W0.heap.size<=gl
 bx:W0.heap.size<=gx
 bm:W0.heap.size<=bm
 bel:Below W0.heap.size W0 wr
section
variable {W0 wr w':World} {n gl gx bm:Nat} {m:Nat->Nat} {ks ks':List (List UInt8)}
theorem PrtW.call (h:PrtW W0 wr n gl gx bm m ks) (a:Below wr.heap.size wr w'):PrtW W0 w' n gl gx bm m ks:=⟨h.l.below a h.l.lt,h.x.below a h.x.lt,h.num.below a (AD _),h.bl,h.bx,h.bm,h.bel.trans (a.mono h.bel.size)⟩
theorem PrtW.num_ (h:PrtW W0 wr n gl gx bm m ks) (a:wr.grownBy w' (some bm)) (b:NP w' bm ks'):PrtW W0 w' n gl gx bm m ks':=⟨h.l.grown a (fun e=>FV h.num h.l (AL e)),h.x.grown a (fun e=>FV h.num h.x (AL e)),b,h.bl,h.bx,h.bm,h.bel.grown a h.bel.size (fun k c=>by rw[<-AL c];exact h.bm)⟩
theorem PrtW.set (h:PrtW W0 wr n gl gx bm m ks) (s i:Nat) (a:s<n):PrtW W0 (wr.setCell ⟨gl,s,none⟩ (.int .i64 (i:Int))) n gl gx bm (fun t=>if t=s then i else m t) ks:=by have b:gx≠gl:=BL.ne_ h.x h.l (by decide);refine⟨?_,h.x.far (p:=⟨gl,s,none⟩) b _,h.num.kept (Lib.grownBy_setCell wr gl s _) (fun e=>FV h.num h.l (AL e).symm),h.bl,h.bx,h.bm,h.bel.setCell (p:=⟨gl,s,none⟩) h.bl _⟩;have:=h.l.set_ s (.int .i64 (i:Int));rwa [X1T _ _ _ _ a]at this
end
theorem ND {w:World} {base g:Nat} {e:TypeId} {xs:List Value} (a:base<=g) (h:BL w g e xs.toArray) (b:xs.length<=maxLen):w.ownsRow base e 1 (.slice (some ⟨g,0,none⟩) xs.length xs.length) xs.length xs:=⟨by simp,.inr ⟨g,xs.length,xs.toArray,rfl,a,h,AD _,b,by simp,by simp⟩⟩
theorem Qh {x:Nat} (a:x<=2000):Lib.byteCells (Nm x)=[.int .u8 ((x:Int) / 256),.int .u8 ((x:Int)%256)]:=by
 unfold Lib.byteCells Nm;have h1:(UInt8.ofNat (x / 256)).toNat=x / 256:=by simp;omega
 have h2:(UInt8.ofNat x).toNat=x%256:=by simp
 simp only[DO,EG,h1,h2];rfl
theorem PrtW.row {W0 wr w':World} {n gl gx bm size len:Nat} {m:Nat->Nat} {ks:List (List UInt8)} {v:Value} {xs:List Value} (h:PrtW W0 wr n gl gx bm m ks) (a:wr.ownsRow W0.heap.size 5 size v len xs) (b:wr.grownBy w' v.ownBlock):PrtW W0 w' n gl gx bm m ks:=⟨BM h.l b (AV a h.l (by decide)),BM h.x b (AV a h.x (by decide)),h.num.kept b (fun e=>JG h.num a e.symm),h.bl,h.bx,h.bm,h.bel.grown b h.bel.size (fun k c=>(own_lt a k c).1)⟩
theorem Vj {w:World} {base c:Nat} {a:Addr} {b:List UInt8} (h:w.ownsRow base 5 1 (.slice (some a) b.length c) b.length (Lib.byteCells b)) :(convert 81 9 (.slice (some a) b.length c)).run Tryz.prog w=.ok (.string ⟨b.toArray⟩) w:=by
 refine Eh w _ _ 5 a c b Tryz.underlying81 Tryz.underlying5 Tryz.underlying9 fun j d=>?_
 have f:=Reads.of_own h;obtain⟨i,e,_,g⟩:=f.2 (by omega);have:=AL e;subst this;refine g j _ ?_;unfold Lib.byteCells;rw[Ag,AG d];rfl
def R8 (q:SeqM) (n:Nat) (w:World) (e:Ending) (w':World):Prop:=∃g m c,e=.returned (.tuple #[.slice (some ⟨g,0,none⟩) n n,.int .i64 ((c:Nat):Int)])/\BL w' g 3 (iV m n)/\w.heap.size<=g/\Below w.heap.size w w'/\PartsOk q n m c
end
section
open Go.RowKit Go.Sort
def kept (q:SeqM) (pl:Nat->Int) (s b:Nat):Prop:=0<=q.nx s b/\0<=pl (q.nx s b).toNat
instance (q:SeqM) (pl:Nat->Int) (s b:Nat):Decidable (kept q pl s b):=by unfold kept;infer_instance
def JP (q:SeqM) (pl:Nat->Int) (s b:Nat):Int:=if kept q pl s b then pl (q.nx s b).toNat else -1
def JX (q:SeqM) (k:Frt) (pl:Nat->Int) (s b:Nat):ByteArray:=if kept q pl s b then(q.os s b++k.l (q.nx s b).toNat).extract (k.l s).size (q.os s b++k.l (q.nx s b).toNat).size else ByteArray.empty
def FF (f:Nat->Int) (n:Nat):Array Value:=(GY (fun j=>.int .i64 (f j)) n).toArray
def GU (f:Nat->ByteArray) (n:Nat):Array Value:=(GY (fun j=>.string (f j)) n).toArray
theorem IE (f:Nat->Int) {n k:Nat} (h:k<n):(FF f n)[k]?=some (.int .i64 (f k)):=by unfold FF;rw[CQ,IH _ h]
theorem UQ (f:Nat->ByteArray) {n k:Nat} (h:k<n):(GU f n)[k]?=some (.string (f k)):=by unfold GU;rw[CQ,IH _ h]
theorem NE (f:Nat->Int) (n k:Nat) (i:Int) (a:k<n):(FF f n).setIfInBounds k (.int .i64 i)=FF (fun j=>if j=k then i else f j) n:=by unfold FF;rw[Bm,MX _ _ _ _ a];congr 2;funext j;by_cases e:j=k<;>simp[e]
theorem R_ (f:Nat->ByteArray) (n k:Nat) (x:ByteArray) (a:k<n):(GU f n).setIfInBounds k (.string x)=GU (fun j=>if j=k then x else f j) n:=by unfold GU;rw[Bm,MX _ _ _ _ a];congr 2;funext j;by_cases e:j=k<;>simp[e]
theorem IM {f g:Nat->Value} {n:Nat} (h:∀j,j<n->f j=g j):GY f n=GY g n:=by unfold GY;exact Em fun j a=>h j (BE.1 a)
theorem IN (v:Value) (n:Nat):List.replicate n v=GY (fun _=>v) n:=by
 unfold GY;apply Ct;intro j;rw[CC,Ag];by_cases a:j<n
 .rw [CP a];simp[a]
 .rw [AY (by simpa using a)];simp[a]
structure TrnW (w wr:World) (gN gO:Nat) (fn:Nat->Int) (fo:Nat->ByteArray):Prop where
 n:BL wr gN 3 (FF fn 256)
 o:BL wr gO 9 (GU fo 256)
 bn:w.heap.size<=gN
 bo:w.heap.size<=gO
 bel:Below w.heap.size w wr
section
variable {w wr w':World} {gN gO:Nat} {fn:Nat->Int} {fo:Nat->ByteArray}
theorem TrnW.call (h:TrnW w wr gN gO fn fo) (a:Below wr.heap.size wr w'):TrnW w w' gN gO fn fo:=⟨h.n.below a h.n.lt,h.o.below a h.o.lt,h.bn,h.bo,h.bel.trans (a.mono h.bel.size)⟩
theorem TrnW.setN (h:TrnW w wr gN gO fn fo) (b:Nat) (a:b<256) (x:Int):TrnW w (wr.setCell ⟨gN,b,none⟩ (.int .i64 x)) gN gO (fun j=>if j=b then x else fn j) fo:=by refine⟨?_,h.o.far (p:=⟨gN,b,none⟩) (BL.ne_ h.n h.o (by decide)).symm _,h.bn,h.bo,h.bel.setCell (p:=⟨gN,b,none⟩) h.bn _⟩;have:=h.n.set_ b (.int .i64 x);rwa [NE _ _ _ _ a]at this
theorem TrnW.setO (h:TrnW w wr gN gO fn fo) (b:Nat) (a:b<256) (x:ByteArray):TrnW w (wr.setCell ⟨gO,b,none⟩ (.string x)) gN gO fn (fun j=>if j=b then x else fo j):=by refine⟨h.n.far (p:=⟨gO,b,none⟩) (BL.ne_ h.n h.o (by decide)) _,?_,h.bn,h.bo,h.bel.setCell (p:=⟨gO,b,none⟩) h.bo _⟩;have:=h.o.set_ b (.string x);rwa [R_ _ _ _ _ a]at this
end
def Vk (q:SeqM) (k:Frt) (pl:Nat->Int) (s:Nat):Prop:=∃b,b<256/\kept q pl s b/\4096<(q.os s b).size+(k.l (q.nx s b).toNat).size
def Qi (q:SeqM) (k:Frt) (pl:Nat->Int) (s:Nat) (w:World) (e:Ending) (w':World):Prop:=
 Below w.heap.size w w'/\((Vk q k pl s/\e=.returned (.tuple #[.slice none 0 0,.slice none 0 0,.bool false])) \/
  ∃gN gO,e=.returned (.tuple #[.slice (some ⟨gN,0,none⟩) 256 256,.slice (some ⟨gO,0,none⟩) 256 256,.bool true])/\BL w' gN 3 (FF (JP q pl s) 256)/\BL w' gO 9 (GU (JX q k pl s) 256) /\w.heap.size<=gN/\w.heap.size<=gO/\∀b,b<256->kept q pl s b->(q.os s b).size+(k.l (q.nx s b).toNat).size<=4096+(k.l s).size)
end
section
open Go.RowKit Go.Sort
theorem PC {q:SeqM} {k:Frt} {pl:Nat->Int} {s b:Nat} {fn:Nat->Int} {c:Nat->ByteArray} (h1:∀j,j<b->fn j=JP q pl s j/\c j=JX q k pl s j) (h2:∀j,b<=j->c j=ByteArray.empty) (h3:∀j,j<b->kept q pl s j->(q.os s j).size+(k.l (q.nx s j).toNat).size<=4096+(k.l s).size) (d:¬kept q pl s b) :(∀j,j<b+1->(if j=b then -1 else fn j)=JP q pl s j/\c j=JX q k pl s j)/\(∀j,b+1<=j->c j=ByteArray.empty)/\∀j,j<b+1->kept q pl s j->(q.os s j).size+(k.l (q.nx s j).toNat).size<=4096+(k.l s).size:=by
 refine⟨fun j f=>?_,fun j f=>h2 j (by omega),fun j f a=>?_⟩
 .by_cases e:j=b
  .subst e;unfold JP JX;rw[AU rfl,AP d,AP d];exact⟨rfl,h2 j (AD _)⟩
  .rw [AP e];exact h1 j (by omega)
 .by_cases e:j=b
  .subst e;exact absurd a d
  .exact h3 j (by omega) a
theorem Vq {q:SeqM} {k:Frt} {pl:Nat->Int} {s b z:Nat} {fn:Nat->Int} {a:Nat->ByteArray} {x:ByteArray} (h1:∀j,j<b->fn j=JP q pl s j/\a j=JX q k pl s j) (h2:∀j,b<=j->a j=ByteArray.empty) (h3:∀j,j<b->kept q pl s j->(q.os s j).size+(k.l (q.nx s j).toNat).size<=4096+(k.l s).size) (f:kept q pl s b) (g:q.nx s b=(z:Int)) (m:x=(q.os s b++k.l z).extract (k.l s).size (q.os s b++k.l z).size) (c:(q.os s b).size+(k.l z).size<=4096+(k.l s).size) :(∀j,j<b+1->(if j=b then pl z else if j=b then -1 else fn j)=JP q pl s j/\(if j=b then x else a j)=JX q k pl s j)/\(∀j,b+1<=j->(if j=b then x else a j)=ByteArray.empty)/\∀j,j<b+1->kept q pl s j->(q.os s j).size+(k.l (q.nx s j).toNat).size<=4096+(k.l s).size:=by
 refine⟨fun j i=>?_,fun j i=>?_,fun j i d=>?_⟩
 .by_cases e:j=b
  .subst e;unfold JP JX;rw[AU rfl,AU rfl,AU f,AU f,g,BO];exact⟨rfl,m⟩
  .rw [AP e,AP e,AP e];exact h1 j (by omega)
 .rw [AP (by omega)];exact h2 j (by omega)
 .by_cases e:j=b
  .subst e;rw[g,BO];exact c
  .exact h3 j (by omega) d
theorem Vr (q:SeqM) (v:Value) (B s n m:Nat) (k:Frt) (pl:Nat->Int) (Al Ap:Option Addr) (cl cp:Nat) (w:World) (HS:GC w B q v) (hB:B<=w.heap.size) (Y:Gp q=true) (hn:q.next.length=n) (hs:s<n) (HL:Reads w B 1 Al n (kL k n)) (HM:Reads w B 1 Ap n (GY (fun z=>.int .i64 (pl z)) n)) (hl:∀z,(k.l z).size<=m) (hm:m<=100000000) (ag:∀z,z<n->-1<=pl z/\pl z<=2000) (Q:∀b,b<256->kept q pl s b->(k.l s).size<=(q.os s b).size+(k.l (q.nx s b).toNat).size) :Calls Tryz.prog 71 #[v,.int .i64 (s:Int),.slice Al n cl,.slice Ap n cp] w (Qi q k pl s w):=by
 obtain⟨A1,c1,A2,c2,A3,c3,A4,c4,rfl,hf,l1,l2,l3,l4,m1,m2,m3,m4,R1,hz,R2,A,R3,R4,a1⟩:=HS;obtain⟨p1,p2,p3,p4,p5,p6⟩:=Ea Y;have a2:=AB p6;have a3:=AB (fun b (t:b<256)=>FQ Y (by rw[hn];exact hs) t);have ah:=AB Q;have a4:=AB ag;rw[p2]at l2 R2 ⊢;rw[p3,p4];rw[hn]at p1 l1 l2 R1 R2 ⊢;have K:=BL.new w 27 #[.string q.front,.slice A1 n c1,.slice A2 n c2,.slice A3 n c3,.slice A4 n c4];have LB:=(AH w.heap.size w).alloc (AD _) (.cells #[.string q.front,.slice A1 n c1,.slice A2 n c2,.slice A3 n c3,.slice A4 n c4] 27);have bl:(0:Int)<=(s:Int):=by omega
 have bm:(s:Int)<(n:Int):=by omega
 have e1:(q.next.map fun r=>r.map (Value.int .i64)).getD s []=(q.next.getD s []).map (Value.int .i64):=by rw[AC,AC,Ag];cases q.next[s]?<;>rfl
 have e2:(q.outs.map fun r=>r.map Value.string).getD s []=(q.outs.getD s []).map Value.string:=by rw[AC,AC,Ag];cases q.outs[s]?<;>rfl
 obtain⟨g1,o1,bp,d1,rfl,bq,x1,Q1,y1,z1⟩:=R1.at_ s hs;obtain⟨g2,o2,br,d2,rfl,bs,x2,Q2,R,z2⟩:=R2.at_ s hs;rw[e1]at x1 Q1 y1;rw[e2]at x2 Q2 R;simp only[A6]at x1 x2 Q1 Q2 y1 R;have D:=a2.out s (by rw[hn];exact hs);have Hn:=AB hn;rw[D.1]at x1 Q1 y1;rw[D.2]at x2 Q2 R;obtain⟨G,ol,rfl,bt,x5⟩:=Ku HL s hs;generalize q.front=fr at *;have HX:=AB (fun(W:World) (t:Below w.heap.size w W)=>AI ((t.cell (p:=⟨g1,o1+s,none⟩) (by show g1<_;omega)).trans x1) (AI ((t.cell (p:=⟨g2,o2+s,none⟩) (by show g2<_;omega)).trans x2) (AI (Q1.below (t.mono hB)) (AI (Q2.below (t.mono hB)) (AI (HL.below (t.mono hB)) (AI (HM.below (t.mono hB)) ((t.cell (p:=⟨G,ol+s,none⟩) (by show G<_;omega)).trans x5)))))));generalize a5:w.alloc (.cells #[.string fr,.slice (some ⟨g1,o1,none⟩) n c1,.slice (some ⟨g2,o2,none⟩) n c2,.slice A3 n c3,.slice A4 n c4] 27)=W0 at *;have bu:W0.heap.size=w.heap.size+1:=by rw[<-a5];simp
 have bv:=AB hm;have bw:=hl s;generalize S:k.l s=ls at *;have T:=AB S;obtain⟨iN,ai,aj,ak,al⟩:=BK Fq;obtain⟨iO,am,an,ao,ap⟩:=BK GI;clear R1 R2 R3 R4 hz A a1 x1 x2 x5 Q1 Q2 HL HM e1 e2 D p6 Y hn p2 p3 p4 Q ag S;go_enter Tryz.func71,Tryz.ntmps71;go_wp2
 refine Nk (d0:=15) (d1:=16) (e0:=11) (by kernel_rfl) (by kernel_rfl) (by decide) (by decide) (by decide) ⟨by show 15<94;decide,by show 16<94;decide⟩
  (Hu rfl rfl 256 55 rfl 3 iN _ 1 Tryz.underlying55 ai aj ak (by rw[al];decide) (by unfold maxLen;decide))
  (Hu rfl rfl 256 25 rfl 9 iO _ 1 Tryz.underlying25 am an ao (by rw[ap];decide) (by unfold maxLen;decide)) rfl rfl rfl ?_
 rintro vi vj w2 u ⟨U,rfl,aq,Z⟩ ⟨gO,rfl,ar,aa⟩;rw[show(Value.int .i64 0).cells=#[Value.int .i64 0]from rfl,CG,BZ,IN]at Z;rw[show(Value.string ByteArray.empty).cells=#[Value.string ByteArray.empty]from rfl,CG,BZ,IN]at aa;have au:TrnW W0 w2 U gO (fun _=>0) (fun _=>ByteArray.empty):=⟨DG Z,DG aa,aq,ar,u⟩;have HT:=AB au;have k1:=(K.below u (by omega)).cell 1;obtain⟨j1,_⟩:=HX.out _ (LB.trans (u.mono (by omega)));clear Z aa aq ar u au ai aj ak al am an ao ap;simp only[Act.put];go_wp2;refine Be ?_;go_wp2;clear k1 j1;go_loopw [23] (fun i wr=>∃(b:Nat) (fn:Nat->Int) (J:Nat->ByteArray),b<=256/\i=.int .i64 (b:Int)/\TrnW W0 wr U gO fn J/\(∀j,j<b->fn j=JP q pl s j/\J j=JX q k pl s j)/\(∀j,b<=j->J j=ByteArray.empty)/\∀j,j<b->kept q pl s j->(q.os s j).size+(k.l (q.nx s j).toNat).size<=4096+(k.l s).size) (fun i _=>256-(intOf i).toNat)
 case atStart=>exact⟨0,_,_,AN _,rfl,HT.out,fun j h=>absurd h (B6 _),fun _ _=>rfl,fun j h=>absurd h (B6 _)⟩
 case round=>
  clear HT;obtain⟨b,fn,J,t,rfl,y,h1,h2,h3⟩:=hrel;have H1:=AB h1;have H2:=AB h2;have H3:=AB h3;clear h1 h2 h3;have av:Below w.heap.size w wr:=LB.trans (y.bel.mono (by omega));have bx:=y.bel.size;have bz:=AB y;by_cases c:b<256
  .have b0:(0:Int)<=(b:Int):=by omega
   have b1:(b:Int)<256:=by omega
   obtain⟨z0,a6,b2,_⟩:=a3.out b c;rw[Hn.out]at a6;obtain⟨_,_,L,_⟩:=HX.out wr av;obtain⟨h1,q1,rfl,b3,r1⟩:=C6 (d:=0) L b c;have a7:(q.next.getD s []).getD b 0=q.nx s b:=rfl;rw[a7]at r1;have u1:=(y.n.cell b).trans (IE _ c);have u2:=y.n.frozen b;have f:=y.setN b c (-1);by_cases aw:q.nx s b<0
   .have ab:¬kept q pl s b:=fun e=>by have:=e.1;omega
    have HR:=AB (show(∀j,j<b+1->(if j=b then -1 else fn j)=JP q pl s j/\J j=JX q k pl s j)/\(∀j,b+1<=j->J j=ByteArray.empty)/\∀j,j<b+1->kept q pl s j->(q.os s j).size+(k.l (q.nx s j).toNat).size<=4096+(k.l s).size from
     PC H1.out H2.out H3.out ab)
    have E:=AB f;generalize q.nx s b=z at *;clear y f L;go_wp2;go_roundw
    case rel=>exact⟨b+1,_,_,by omega,by go_num,E.out,HR.out.1,HR.out.2.1,HR.out.2.2⟩
    case measure=>simp[intOf];omega
   .obtain ⟨z,hz⟩:∃z:Nat,q.nx s b=(z:Int):=⟨_,(AT (by omega)).symm⟩
    have ac:z<n:=by omega
    have HZ:=AB hz;rw[hz]at r1 aw;have bi:(0:Int)<=(z:Int):=by omega
    have bj:(z:Int)<(n:Int):=by omega
    have ax:Below w.heap.size w (wr.setCell ⟨U,b,none⟩ (.int .i64 (-1))):=LB.trans (f.bel.mono (by omega));obtain⟨_,H,_,M,N,ad,I⟩:=HX.out _ ax;obtain⟨gp,op,rfl,b4,v1⟩:=Ku ad z ac;obtain⟨b5,b6⟩:=a4.out z ac;by_cases b7:pl z<0
    .have ab:¬kept q pl s b:=fun e=>by have:=e.2;rw[HZ.out,BO]at this;omega
     have HR:=AB (show(∀j,j<b+1->(if j=b then -1 else fn j)=JP q pl s j/\J j=JX q k pl s j)/\(∀j,b+1<=j->J j=ByteArray.empty)/\∀j,j<b+1->kept q pl s j->(q.os s j).size+(k.l (q.nx s j).toNat).size<=4096+(k.l s).size from
      PC H1.out H2.out H3.out ab)
     have E:=AB f;generalize pl z=pz at *;clear y f L hz M N ad H I;go_wp2;go_roundw
     case rel=>exact⟨b+1,_,_,by omega,by go_num,E.out,HR.out.1,HR.out.2.1,HR.out.2.2⟩
     case measure=>simp[intOf];omega
    .have hk:kept q pl s b:=⟨by omega,by rw[HZ.out,BO];omega⟩
     have ay:=AB hk;have a8:=ah.out b c hk;rw[HZ.out,BO]at a8;have u3:=(f.n.cell b).trans (IE _ c);have u4:=f.n.frozen b;have ae:=AB (f.setN b c (pl z));have b8:=hl z;clear y f L hz hk H M I N;generalize V:pl z=pz at *;have a9:=AB V;clear V;go_upto_region 8 with(fail)
     clear u1 u2 u3 u4 v1 r1 ad ax;generalize ((wr.setCell ⟨U,b,none⟩ (.int .i64 (-1))).setCell ⟨U,b,none⟩ (.int .i64 pz))=W5 at *;have g:Below w.heap.size w W5:=LB.trans (ae.out.bel.mono (by omega));obtain⟨_,H,_,M,N,_,I⟩:=HX.out _ g;obtain⟨h2,q2,rfl,b9,X⟩:=C6 (d:=ByteArray.empty) M b c;have ba:(q.outs.getD s []).getD b ByteArray.empty=q.os s b:=rfl;rw[ba]at X;obtain⟨ca,cb,e5,bk,v2⟩:=Ku N z ac;injection e5 with e5
     injection e5 with e5 e6
     subst e5 e6;have k2:=(K.below ae.out.bel (by omega)).cell 2;have bb:=AB (fun(x:ByteArray) hx A=>Vq (x:=x) H1.out H2.out H3.out ay.out HZ.out hx A)
     have az:Vk q k pl s\/(q.os s b).size+(k.l z).size<=4096:=by
      by_cases e:(q.os s b).size+(k.l z).size<=4096
      .exact .inr e
      .exact .inl ⟨b,c,ay.out,by rw[HZ.out,BO];omega⟩
     have bc:=AB az;clear az;have HD:=AB (fun(W:World) (t:Below w.heap.size w W)=>AI ((t.cell (p:=⟨g2,o2+s,none⟩) (by show g2<_;omega)).trans ((g.cell (p:=⟨g2,o2+s,none⟩) (by show g2<_;omega)).symm.trans H)) (AI ((t.cell (p:=⟨h2,q2+b,none⟩) (by show h2<_;omega)).trans ((g.cell (p:=⟨h2,q2+b,none⟩) (by show h2<_;omega)).symm.trans X)) (AI ((t.cell (p:=⟨G,ol+z,none⟩) (by show G<_;omega)).trans ((g.cell (p:=⟨G,ol+z,none⟩) (by show G<_;omega)).symm.trans v2)) ((t.cell (p:=⟨G,ol+s,none⟩) (by show G<_;omega)).trans ((g.cell (p:=⟨G,ol+s,none⟩) (by show G<_;omega)).symm.trans I)))));generalize k.l z=lz at *;generalize q.os s b=ot at *;have R:=AF k2;have y3:=AF H;have y4:=AF X;have y5:=AF v2;have y6:=AF I;by_cases bd:(ot.size:Int)+lz.size-ls.size>4096
     .go_wp2
      refine Au (by kernel_rfl) (by kernel_rfl) ?_
      repeat (go_big_quiet_step (fail))
      refine Ah ?_;intro w6 C;have HP:=AB (show Qi q k pl s w (.returned (.tuple #[.slice none 0 0,.slice none 0 0,.bool false])) w6 from⟨g.trans ((Bu C).mono g.size),.inl ⟨bc.out.resolve_right (fun e=>by omega),rfl⟩⟩);clear C k2 H X v2 I R y3 y4 y5 y6;go_wp2;exact AQ (v:=.tuple #[.slice none 0 0,.slice none 0 0,.bool false]) (by simp[results,Tryz.results71,go_sem]) rfl HP.out
     .go_wp2
      refine Au (by kernel_rfl) (by kernel_rfl) ?_
      repeat (go_big_quiet_step (fail))
      refine Ah ?_;intro w6 C;have af:=ae.out.call (Bu C);have be:Below w.heap.size w w6:=g.trans ((Bu C).mono g.size);clear C k2 H X v2 I R y3 y4 y5 y6;obtain⟨H,X,v2,I⟩:=HD.out w6 be;have k2:=(K.below af.bel (by omega)).cell 2;have R:=AF k2;have y3:=AF H;have y4:=AF X;have y5:=AF v2;have y6:=AF I;have A:=Cg (a:=ot) (b:=lz);have bf:=AB A;have hcut:(ls.size:Int)<=(ot.size:Int)+(lz.size:Int):=by omega
      clear A;go_wp2;refine Cd 21 [0,1,2,3,4,5,6,7,8,9,10,11,12,13,14,15,16,17,18] [19,20] (by kernel_rfl) (by kernel_rfl) rfl (by kernel_rfl) ?_;simp only[CV,A_,BA,Az,BI]
      repeat (go_big_quiet_step (fail))
      refine Ah ?_;refine BU rfl (fun KK F=>?_);go_simp;refine F _ _ (A5 (AH _ _).drew) ?_;clear F KK;refine BU rfl (fun KK F=>?_);go_simp;refine F _ _ (A5 (AH _ _).drew) ?_;clear F KK;refine Cc ?_;clear k2 H X v2 I R y3 y4 y5 y6;have O:=af.call (AH _ _).drew;have u1:=(O.o.cell b).trans (UQ _ c);have u2:=O.o.frozen b;generalize a0:(ot++lz).extract ls.size (ot.size+lz.size)=xx at *;have P:=AB (bb.out xx (by rw[<-a0,bf.out,T.out]) (by rw[T.out];omega));rw[a9.out]at P;have bg:=AB (O.setO b c xx);generalize bh:w6.drew=w7 at *;clear a0 O af bh;go_wp2;refine Be ?_;go_wp2;go_roundw
      case rel=>exact⟨b+1,_,_,by omega,by go_num,bg.out,P.out.1,P.out.2.1,P.out.2.2⟩
      case measure=>simp[intOf];omega
  .obtain rfl:b=256:=by omega
   have HP:=AB (show Qi q k pl s w (.returned (.tuple #[.slice (some ⟨U,0,none⟩) 256 256,.slice (some ⟨gO,0,none⟩) 256 256,.bool true])) wr from⟨av,.inr ⟨U,gO,rfl,by
    have e:FF fn 256=FF (JP q pl s) 256:=by unfold FF;exact BY _ (IM fun j hj=>by rw[(H1.out j hj).1])
    rw[<-e];exact y.n,by
    have e:GU J 256=GU (JX q k pl s) 256:=by unfold GU;exact BY _ (IM fun j hj=>by rw[(H1.out j hj).2])
    rw[<-e];exact y.o,by have:=y.bn;omega,by have:=y.bo;omega,H3.out⟩⟩)
   clear y;go_wp2;exact AQ (v:=.tuple #[.slice (some ⟨U,0,none⟩) 256 256,.slice (some ⟨gO,0,none⟩) 256 256,.bool true]) (by simp[results,Tryz.results71,go_sem]) rfl HP.out
end
end Go.Proofs.YtcondkihpmmnnaaGreatDoor
