/- Lemmas, part 31 of 50. No condition. -/
import Derived.Test.YtcondkihpmmnnaaGreatDoorTwin29
import Derived.Test.YtcondkihpmmnnaaGreatDoorTwin28
import Derived.Lib.SliceRun
set_option maxRecDepth 100000
set_option maxHeartbeats 16000000
namespace Go.Proofs.YtcondkihpmmnnaaGreatDoor
section
open Go.RowKit Go.Sort
theorem Uh (q:SeqM) (v:Value) (B n:Nat) (w:World) (HS:GC w B q v) (hB:B<=w.heap.size) (Z:Gp q=true) (hn:q.next.length=n) :Calls Tryz.prog 70 #[v] w (MZ q n w):=by
 obtain⟨A1,I,J,L,M,N,O,P,rfl,hf,l1,l2,l3,l4,m1,m2,m3,m4,R1,D,R2,u,R3,R4,a6⟩:=HS;obtain⟨p1,p2,p3,p4,p5,p6⟩:=Ea Z;have a7:=AB p6;have a8:=AB (fun s b (C:s<n) (hb:b<256)=>FQ Z (s:=s) (by rw[hn];exact C) hb);rw[p2,p3,p4];rw[hn]at p1 l1 R1 ⊢;have Hn:=AB hn;generalize q.front=Q at *;have K:=BL.new w 27 #[.string Q,.slice A1 n I,.slice J n L,.slice M n N,.slice O n P];have LB:=(AH w.heap.size w).alloc (AD _) (.cells #[.string Q,.slice A1 n I,.slice J n L,.slice M n N,.slice O n P] 27);have bp:=K.lt;have k1:=K.cell 1;obtain⟨i0,hi,ah,ai,aj⟩:=BK IL;have ak:i0.bytes*n<=281474976710656:=by rw[aj];omega
 have a9:n<=maxLen:=by unfold maxLen;omega
 clear R2 R3 R4 D u a6 p2 p3 p4 p5 p6 Z hn l2 l3 l4;go_enter Tryz.func70,Tryz.ntmps70;go_upto_region 2 with(at_make;refine Cw _ rfl _ _ 24 rfl (w.alloc (.cells #[.string Q,.slice A1 n I,.slice J n L,.slice M n N,.slice O n P] 27)).heap.size 4 i0 _ 1 Tryz.underlying24 hi ah ai _ _ (n:Int) (n:Int) n rfl rfl rfl rfl ak a9 (AD _) ?_;intro R y al)
 have S:=(AH (w.alloc (.cells #[.string Q,.slice A1 n I,.slice J n L,.slice M n N,.slice O n P] 27)).heap.size _).grown al (AD _) (fun k e=>by cases e);rw[show(Value.bool false).cells=#[Value.bool false]from rfl,CG,BZ]at y;have hG:=DG y;rw[Pe]at hG;rw[Ad]at hG S;have K2:=K.below S (by simp);have T:=LB.trans (S.mono (by omega));have ba:=hG.lt;clear y al S K LB hi ah ai aj ak k1;rcases B7 n with rfl|am
 .have HP:=AB (show MZ q 0 w (.returned (.slice (some ⟨w.heap.size+1,0,none⟩) 0 0)) R from⟨_,_,rfl,hG,by omega,T,fun h=>absurd h (C9 0),fun s C=>absurd C (B6 _)⟩);go_wp2;exact AQ (v:=.slice (some ⟨w.heap.size+1,0,none⟩) 0 0) (by simp[results,Tryz.results70,go_sem]) rfl HP.out
 .have bx:((n:Int)==0)=false:=by simp;omega
  have LQ:=(AH R.heap.size R).alloc (AD _) (.cells #[.int .i64 0] 3);have HQ:=Gv.of_blk (w:=R.alloc (.cells #[.int .i64 0] 3)) (base:=w.heap.size) (e:=3) (xs:=[.int .i64 0]) (g:=R.heap.size) (by omega) (BL.new R 3 #[.int .i64 0]) (by unfold maxLen;decide);have E:=hG.below LQ hG.lt;have c0:(R.alloc (.cells #[.int .i64 0] 3)).cell? ⟨w.heap.size+1,0,none⟩=some (.bool false):=by rw[E.cell];exact Kb _ am
  have f0:=E.frozen 0
  have aa:ReaW w ((R.alloc (.cells #[.int .i64 0] 3)).setCell ⟨w.heap.size+1,0,none⟩ (.bool true)) (w.heap.size+1) n #[.string Q,.slice A1 n I,.slice J n L,.slice M n N,.slice O n P] (fun j=>if j=0 then true else false) [0] (.slice (some ⟨R.heap.size,0,none⟩) 1 1):={
   box:=(K2.below LQ K2.lt).far (p:=⟨w.heap.size+1,0,none⟩) (by show w.heap.size≠w.heap.size+1;omega) _
   seen_:=by have:=E.set_ 0 (.bool true);rwa [Qc _ _ _ _ am]at this
   que:=HQ.setCell (NZ HQ E (by decide)) _
   gS:=by omega
   bel:=(T.trans (LQ.mono T.size)).setCell (p:=⟨w.heap.size+1,0,none⟩) (by show w.heap.size<=w.heap.size+1;omega) _
   first:=rfl
   lt:=fun z D=>by rw[AM]at D;omega }
  rw[GB _ _ _ _ ba]at aa;have an:=AB aa;clear aa HQ E LQ hG K2 T;go_wp2;generalize w.heap.size+1=gS at *;generalize (R.setCell ⟨gS,0,none⟩ (.bool true)).alloc (.cells #[.int .i64 0] 3)=w3 at *;clear c0 f0;go_loopw [4] (fun wv wr=>∃(seen:Nat->Bool) (xs:List Nat),ReaW w wr gS n #[.string Q,.slice A1 n I,.slice J n L,.slice M n N,.slice O n P] seen xs wv/\xs.length+KJ seen n<=n+1/\∀s,s<n->seen s=true->s∈xs\/∀b,b<256->0<=q.nx s b->seen (q.nx s b).toNat=true) (fun wv wr=>MY wv+ZT wr gS n)
  case atStart=>
   exact⟨fun j=>if j=0 then true else false,[0],an.out,by have:=X1i (fun j=>if j=0 then true else false) n;simp only[BJ];omega,fun s _ C=>.inl (by
    by_cases e:s=0
    .rw [e];exact AM.2 rfl
    .simp [e]at C)⟩
  case round=>
   clear an;obtain⟨seen,xs,f,V,ao⟩:=hrel;have ap:=AB ao;clear ao;have bz:=f.bel.size;rcases xs with _|⟨s,xs⟩
   .obtain ⟨g,off,cap,rfl,_,_⟩:=f.que.form;have HP:=AB (show MZ q n w (.returned (.slice (some ⟨gS,0,none⟩) n n)) wr from⟨gS,seen,rfl,f.seen_,f.gS,f.bel,fun _=>f.first,fun s C h=>(ap.out s C h).resolve_left (fun e=>by cases e)⟩);have h00:(qV []).length=0:=rfl;clear f;go_wp2;exact AQ (v:=.slice (some ⟨gS,0,none⟩) n n) (by simp[results,Tryz.results70,go_sem]) rfl HP.out
   .have ab:=f.lt s BR
    have hq:=f.que;obtain⟨g,off,cap,hv,F⟩:=hq.cell;obtain⟨g',bq,br,aq,ar,ac,G⟩:=Gv.tail (x:=.int .i64 (s:Int)) (xs:=qV xs) hq;rw[hv]at aq;injection aq with hv1 hv2 hv3
    injection hv1 with hv1
    injection hv1 with hv1 hv1b
    subst hv1 hv1b hv3;have bb:wr.cell? ⟨g,off,none⟩=some (.int .i64 (s:Int)):=F 0 _ rfl;rw[show(qV (s::xs)).length=xs.length+1 from by rw[GK];rfl]at hv;rw[GK]at ac ar G;subst hv;have b0:(0:Int)<=(s:Int):=by omega
    have b1:(s:Int)<(n:Int):=by omega
    obtain⟨g1,o1,b3,d1,rfl,bc,x0,Q0,y1,z1⟩:=R1.at_ s ab;have x1:=((f.bel.mono hB).cell (p:=⟨g1,o1+s,none⟩) (by show g1<B;exact bc)).trans x0;have e1:(q.next.map fun r=>r.map (Value.int .i64)).getD s []=(q.next.getD s []).map (Value.int .i64):=by rw[AC,AC,Ag];cases q.next[s]?<;>rfl
    rw[e1]at x1 Q0 y1;simp only[A6]at x1 Q0 y1;rw[(a7.out s (by rw[Hn.out];exact ab)).1]at x1 Q0 y1;have bd:=AB (fun(W:World) (hb:Below w.heap.size w W)=>Q0.below (hb.mono hB));clear x0 Q0;have k1:=f.box.cell 1;have au:ReaW w wr gS n #[.string Q,.slice (some ⟨g1,o1,none⟩) n I,.slice J n L,.slice M n N,.slice O n P] seen xs (.slice (some ⟨g,off+1,none⟩) xs.length (cap-1)):={ f with que:=ac,lt:=fun z D=>f.lt z (CB _ D) };have av:=AB au;have aw:=AB (fun(e:cap=1)=>show ReaW w wr gS n #[.string Q,.slice (some ⟨g1,o1,none⟩) n I,.slice J n L,.slice M n N,.slice O n P] seen xs (.slice (some ⟨g,off,none⟩) xs.length 0)from { f with que:=G e,lt:=fun z D=>f.lt z (CB _ D) });clear e1 ac G F hq f au;have be:xs.length+1+KJ seen n<=n+1:=by simpa using V
    clear V;generalize b4:xs.length=xl at *;have bf:=AB (show MY (.slice (some ⟨g,off,none⟩) (xl+1) cap)+ZT wr gS n=xl+1+KJ seen n by rw[We av.out.seen_];rfl);go_wp2
    all_goals
     clear bb x1 k1;go_loopw [4,33] (fun wv i wq=>∃(b:Nat) (a:Nat->Bool) (m:List Nat) (vv:Value),vv=wv/\b<=256/\i=.int .i64 (b:Int)/\ReaW w wq gS n #[.string Q,.slice (some ⟨g1,o1,none⟩) n I,.slice J n L,.slice M n N,.slice O n P] a m vv/\m.length+KJ a n<=xl+KJ seen n /\(∀t,t<n->a t=true->t=s\/t∈m\/∀b,b<256->0<=q.nx t b->a (q.nx t b).toNat=true)/\(∀l,l<b->0<=q.nx s l->a (q.nx s l).toNat=true)) (fun _ i _=>256-(intOf i).toNat)
     case atStart=>
      have X:∀t,t<n->seen t=true->t=s\/t∈xs\/∀b,b<256->0<=q.nx t b->seen (q.nx t b).toNat=true:=fun t ht C=>by
       rcases ap.out t ht C with h|h
       .rcases Bh.1 h with h|h
        .exact .inl h
        .exact .inr (.inl h)
       .exact .inr (.inr h)
      first
       | exact⟨0,seen,xs,_,rfl,AN _,rfl,av.out,by omega,X,fun l h=>absurd h (B6 _)⟩
       | exact⟨0,seen,xs,_,rfl,AN _,rfl,aw.out (by omega),by omega,X,fun l h=>absurd h (B6 _)⟩
     case round=>
      obtain⟨b,a,m,vv,rfl,hb,rfl,f,ad,Y,H⟩:=hrel;have A:=AB Y;have o:=AB H;have c:=AB ad;clear Y H;have bs:=f.bel.size;by_cases ax:b<256
      .have b5:(0:Int)<=(b:Int):=by omega
       have ay:(b:Int)<256:=by omega
       obtain⟨z0,bg,_⟩:=a8.out s b ab ax;rw[Hn.out]at bg;obtain⟨h1,q1,rfl,b6,r1⟩:=C6 (d:=0) (bd.out wr f.bel) b ax;have bh:(q.next.getD s []).getD b 0=q.nx s b:=rfl;rw[bh]at r1;by_cases az:q.nx s b<0
       .have ae:=AB (fun l (h:l<b+1) (h0:0<=q.nx s l)=>show a (q.nx s l).toNat=true from by
          rcases BF l b with h|h
          .exact o.out l h h0
          .obtain rfl:l=b:=by omega
           omega)
        generalize q.nx s b=z at *;go_wp2;go_roundw
        case rel=>exact⟨b+1,a,m,vv,rfl,by omega,by go_num,f,c.out,A.out,ae.out⟩
        case measure=>simp[intOf];omega
       .obtain ⟨z,D⟩:∃z:Nat,q.nx s b=(z:Int):=⟨_,(AT (by omega)).symm⟩
        have U:z<n:=by omega
        have HZ:=AB D;rw[D]at r1 az;have bt:(0:Int)<=(z:Int):=by omega
        have bu:(z:Int)<(n:Int):=by omega
        have u1:wr.cell? ⟨gS,z,none⟩=some (.bool (a z)):=by rw[f.seen_.cell];exact Kb _ U
        have u2:=f.seen_.frozen z;clear D;rcases u:a z with _|_
        .rw [u]at u1
         have bv:=UH U u;have a0:=f.mark z U;have af:=a0.call ((AH (wr.setCell ⟨gS,z,none⟩ (.bool true)).heap.size _).alloc (AD _) (.cells #[.int .i64 (z:Int)] 3));have a1:=(BL.new (wr.setCell ⟨gS,z,none⟩ (.bool true)) 3 #[.int .i64 (z:Int)]).cell 0;simp only[Fg]at a1;have bi:=af.que;have a2:=af.bel.size;obtain⟨i1,t0,t1,t2,t3⟩:=BK Fq;have h63:(qV m).length+1<=maxLen:=by rw[GK];unfold maxLen;have:=c.out;omega
         have bj:((qV m).length+1)*8<=140737488355328:=by rw[GK];have:=c.out;omega
         have a3:=AB (fun t (ht:t<n) (C:(if t=z then true else a t)=true)=>show t=s\/t∈m++[z]\/∀b,b<256->0<=q.nx t b->(if(q.nx t b).toNat=z then true else a (q.nx t b).toNat)=true from by
          by_cases e:t=z
          .right;left;rw[e];simp
          .rw [AP e]at C
           rcases A.out t ht C with h|h|h
           .exact .inl h
           .exact .inr (.inl (C5 _ h))
           .right;right;intro b2 ay h0;rw[h b2 ay h0];simp)
         have bk:=AB (fun l (h:l<b+1) (h0:0<=q.nx s l)=>show(if(q.nx s l).toNat=z then true else a (q.nx s l).toNat)=true from by
          rcases BF l b with h|h
          .rw [o.out l h h0];simp
          .obtain rfl:l=b:=by omega
           rw[HZ.out,BO,AU rfl])
         clear u f a0
         go_wp2_with (at_builtin;refine II _ rfl _ _ 55 rfl w.heap.size 3 i1 _ 8 Tryz.underlying55 t0 t1 t2 t3 rfl _ _ rfl bi wr.heap.size (.int .i64 (z:Int)) rfl a1 rfl h63 bj a2 ?_;intro v' w5 y ag bw)
         go_roundw
         case rel=>have bl:=af.push U y ag;exact⟨b+1,_,m++[z],_,rfl,by omega,by go_num,bl,by rw[AJ,BJ];have:=c.out;omega,a3.out,bk.out⟩
         case measure=>simp[intOf];omega
        .rw [u]at u1
         have ae:=AB (fun l (h:l<b+1) (h0:0<=q.nx s l)=>show a (q.nx s l).toNat=true from by
          rcases BF l b with h|h
          .exact o.out l h h0
          .obtain rfl:l=b:=by omega
           rw[HZ.out,BO];exact u)
         clear u;go_wp2;go_roundw
         case rel=>exact⟨b+1,a,m,vv,rfl,by omega,by go_num,f,c.out,A.out,ae.out⟩
         case measure=>simp[intOf];omega
      .obtain rfl:b=256:=by omega
       have a4:=AB (show ∃(seen:Nat->Bool) (xs:List Nat),ReaW w wr gS n #[.string Q,.slice (some ⟨g1,o1,none⟩) n I,.slice J n L,.slice M n N,.slice O n P] seen xs vv/\xs.length+KJ seen n<=n+1/\∀s,s<n->seen s=true->s∈xs\/∀b,b<256->0<=q.nx s b->seen (q.nx s b).toNat=true from
        ⟨a,m,f,by have:=c.out;omega,fun t ht bm=>by
         rcases A.out t ht bm with h|h|h
         .subst h;exact .inr o.out
         .exact .inl h
         .exact .inr h⟩)
       have a5:MY vv+ZT wr gS n<xl+1+KJ seen n:=by rw[We f.seen_];obtain⟨ga,oa,ca,bn,_⟩:=f.que.form;rw[bn,GK];show m.length+_<_;have:=c.out;omega
       have bo:=AB a5;clear a5;go_wp2;exact⟨a4.out,by have h1:=bo.out;have h2:=bf.out;omega⟩
end
section
open Go.RowKit Go.Sort
def X1M (L:List Bool) (xs:List Nat) (np:Nat) (w:World) (e:Ending) (w':World):Prop:=∃g,e=.returned (.slice (some ⟨g,0,none⟩) np np)/\BL w' g 4 (bV (fun i=>L.getD (xs.getD i 0) false) np)/\w.heap.size<=g/\Below w.heap.size w w'
theorem X8 (L:List Bool) (xs:List Nat) (N D:Option Addr) (g O a P B:Nat) (w:World) (Q:Reads w B 1 N g (L.map Value.bool)) (E:Reads w B 1 D a (qV xs)) (hB:B<=w.heap.size) (R:∀x∈xs,x<g) (aa:a<=1024) (_hnl:g<=1024) (_hcl:g<=O) (_hcp:a<=P) :Calls Tryz.prog 36 #[.slice N g O,.slice D a P] w (X1M L xs a w):=by
 have F:xs.length=a:=by have:=E.1;unfold qV at this;rw[A6]at this;omega
 have n:Reads w B 1 D a (xs.map fun z:Nat=>Value.int .i64 (z:Int)):=E;have G:=AB (fun(k:Nat) (o:k<a)=>C6 (d:=0) n k o);have H:=AB (fun(k:Nat) (o:k<g)=>C6 (d:=false) Q k o);have Hx:=AB (fun(k:Nat) (o:k<a)=>R (xs.getD k 0) (by rw[AC,AG (by omega)];exact CI _));obtain⟨i0,hi,q,r,s⟩:=BK IL;have t:i0.bytes*a<=281474976710656:=by rw[s];omega
 have I:a<=maxLen:=by unfold maxLen;omega
 clear E n Q R F;go_enter Tryz.func36,Tryz.ntmps36;go_upto_region 2 with(at_make;refine Cw _ rfl _ _ 24 rfl w.heap.size 4 i0 _ 1 Tryz.underlying24 hi q r _ _ (a:Int) (a:Int) a rfl rfl rfl rfl t I (AD _) ?_;intro S b y)
 have A:=(AH w.heap.size w).grown y (AD _) (fun k e=>by cases e);rw[show(Value.bool false).cells=#[Value.bool false]from rfl,CG,BZ]at b;have c:=DG b;rw[Pe]at c;have J:=AB (show BL S w.heap.size 4 (bV (fun _=>false) a)/\Below w.heap.size w S from⟨c,A⟩);clear b y A c hi q r s t;go_wp2;go_loopw [13] (fun i wr=>∃(k:Nat) (fn:Nat->Bool),k<=a/\i=.int .i64 (k:Int)/\BL wr w.heap.size 4 (bV fn a)/\Below w.heap.size w wr/\∀j,j<k->fn j=L.getD (xs.getD j 0) false) (fun i _=>a-(intOf i).toNat)
 case atStart=>exact⟨0,_,AN _,rfl,J.out.1,J.out.2,fun j h=>absurd h (B6 _)⟩
 case round=>
  clear J;obtain⟨k,fn,o,rfl,c,m,T⟩:=hrel;have U:=AB T;clear T;by_cases f:k<a
  .have ab:(0:Int)<=(k:Int):=by omega
   have ac:(k:Int)<(a:Int):=by omega
   obtain⟨g1,o1,rfl,ad,V⟩:=G.out k f;have hz:=Hx.out k f;have HZ:=AB (Eq.refl (xs.getD k 0));generalize C:xs.getD k 0=z at *;obtain⟨g2,o2,rfl,ae,W⟩:=H.out z hz;have X:(0:Int)<=(z:Int):=by omega
   have Y:(z:Int)<(g:Int):=by omega
   have c1:=(m.cell (p:=⟨g1,o1+k,none⟩) (by show g1<_;omega)).trans V;have c2:=(m.cell (p:=⟨g2,o2+z,none⟩) (by show g2<_;omega)).trans W;have u1:=(c.cell k).trans (Kb _ f);have u2:=c.frozen k;have l:=c.set_ k (Value.bool (L.getD z false));rw[Qc _ _ _ _ f]at l;have K:=AB l;have M:=AB (m.setCell (p:=⟨w.heap.size,k,none⟩) (AD _) (Value.bool (L.getD z false)))
   have HN:=AB (show ∀j,j<k+1->(if j=k then L.getD z false else fn j)=L.getD (xs.getD j 0) false from fun j Z=>by
    by_cases e:j=k
    .rw [AU e,e,C]
    .rw [AP e];exact U.out j (by omega))
   clear c l m C HZ V W;generalize L.getD z false=u at *;go_wp2;go_roundw
   case rel=>exact⟨k+1,_,by omega,by go_num,K.out,M.out,HN.out⟩
   case measure=>simp[intOf];omega
  .obtain rfl:a=k:=by omega
   have e:bV fn a=bV (fun i=>L.getD (xs.getD i 0) false) a:=by unfold bV;rw[IM (fun j Z=>by rw[U.out j Z])]
   have HP:=AB (show X1M L xs a w (.returned (.slice (some ⟨w.heap.size,0,none⟩) a a)) wr from⟨_,rfl,e▸c,AD _,m⟩);clear c m e;go_wp2;exact AQ (v:=.slice (some ⟨w.heap.size,0,none⟩) a a) (by simp[results,Tryz.results36,go_sem]) rfl HP.out
def X1N (L:List ByteArray) (xs:List Nat) (np:Nat) (w:World) (e:Ending) (w':World):Prop:=∃g,e=.returned (.slice (some ⟨g,0,none⟩) np np)/\BL w' g 9 (GU (fun i=>L.getD (xs.getD i 0) ByteArray.empty) np)/\w.heap.size<=g/\Below w.heap.size w w'
theorem X9 (L:List ByteArray) (xs:List Nat) (N D:Option Addr) (g O a P B:Nat) (w:World) (Q:Reads w B 1 N g (L.map Value.string)) (E:Reads w B 1 D a (qV xs)) (hB:B<=w.heap.size) (R:∀x∈xs,x<g) (aa:a<=1024) (_hnl:g<=1024) (_hcl:g<=O) (_hcp:a<=P) :Calls Tryz.prog 37 #[.slice N g O,.slice D a P] w (X1N L xs a w):=by
 have F:xs.length=a:=by have:=E.1;unfold qV at this;rw[A6]at this;omega
 have n:Reads w B 1 D a (xs.map fun z:Nat=>Value.int .i64 (z:Int)):=E;have G:=AB (fun(k:Nat) (o:k<a)=>C6 (d:=0) n k o);have H:=AB (fun(k:Nat) (o:k<g)=>C6 (d:=ByteArray.empty) Q k o);have Hx:=AB (fun(k:Nat) (o:k<a)=>R (xs.getD k 0) (by rw[AC,AG (by omega)];exact CI _));obtain⟨i0,hi,q,r,s⟩:=BK GI;have t:i0.bytes*a<=281474976710656:=by rw[s];omega
 have I:a<=maxLen:=by unfold maxLen;omega
 clear E n Q R F;go_enter Tryz.func37,Tryz.ntmps37;go_upto_region 2 with(at_make;refine Cw _ rfl _ _ 25 rfl w.heap.size 9 i0 _ 1 Tryz.underlying25 hi q r _ _ (a:Int) (a:Int) a rfl rfl rfl rfl t I (AD _) ?_;intro S b y)
 have A:=(AH w.heap.size w).grown y (AD _) (fun k e=>by cases e);rw[show(Value.string ByteArray.empty).cells=#[Value.string ByteArray.empty]from rfl,CG,BZ]at b;have c:=DG b;rw[IN]at c;have J:=AB (show BL S w.heap.size 9 (GU (fun _=>ByteArray.empty) a)/\Below w.heap.size w S from⟨c,A⟩);clear b y A c hi q r s t;go_wp2;go_loopw [13] (fun i wr=>∃(k:Nat) (fn:Nat->ByteArray),k<=a/\i=.int .i64 (k:Int)/\BL wr w.heap.size 9 (GU fn a)/\Below w.heap.size w wr/\∀j,j<k->fn j=L.getD (xs.getD j 0) ByteArray.empty) (fun i _=>a-(intOf i).toNat)
 case atStart=>exact⟨0,_,AN _,rfl,J.out.1,J.out.2,fun j h=>absurd h (B6 _)⟩
 case round=>
  clear J;obtain⟨k,fn,o,rfl,c,m,T⟩:=hrel;have U:=AB T;clear T;by_cases f:k<a
  .have ab:(0:Int)<=(k:Int):=by omega
   have ac:(k:Int)<(a:Int):=by omega
   obtain⟨g1,o1,rfl,ad,V⟩:=G.out k f;have hz:=Hx.out k f;have HZ:=AB (Eq.refl (xs.getD k 0));generalize C:xs.getD k 0=z at *;obtain⟨g2,o2,rfl,ae,W⟩:=H.out z hz;have X:(0:Int)<=(z:Int):=by omega
   have Y:(z:Int)<(g:Int):=by omega
   have c1:=(m.cell (p:=⟨g1,o1+k,none⟩) (by show g1<_;omega)).trans V;have c2:=(m.cell (p:=⟨g2,o2+z,none⟩) (by show g2<_;omega)).trans W;have u1:=(c.cell k).trans (UQ _ f);have u2:=c.frozen k;have l:=c.set_ k (Value.string (L.getD z ByteArray.empty));rw[R_ _ _ _ _ f]at l;have K:=AB l;have M:=AB (m.setCell (p:=⟨w.heap.size,k,none⟩) (AD _) (Value.string (L.getD z ByteArray.empty)))
   have HN:=AB (show ∀j,j<k+1->(if j=k then L.getD z ByteArray.empty else fn j)=L.getD (xs.getD j 0) ByteArray.empty from fun j Z=>by
    by_cases e:j=k
    .rw [AU e,e,C]
    .rw [AP e];exact U.out j (by omega))
   clear c l m C HZ V W;generalize L.getD z ByteArray.empty=u at *;go_wp2;go_roundw
   case rel=>exact⟨k+1,_,by omega,by go_num,K.out,M.out,HN.out⟩
   case measure=>simp[intOf];omega
  .obtain rfl:a=k:=by omega
   have e:GU fn a=GU (fun i=>L.getD (xs.getD i 0) ByteArray.empty) a:=by unfold GU;rw[IM (fun j Z=>by rw[U.out j Z])]
   have HP:=AB (show X1N L xs a w (.returned (.slice (some ⟨w.heap.size,0,none⟩) a a)) wr from⟨_,rfl,e▸c,AD _,m⟩);clear c m e;go_wp2;exact AQ (v:=.slice (some ⟨w.heap.size,0,none⟩) a a) (by simp[results,Tryz.results37,go_sem]) rfl HP.out
end
section
open Go.RowKit Go.Sort
theorem Mr (g:Nat):∀(vs:List Value) (o:Nat) (w:World),w.grownBy (w.setCells g o vs) (some g)
 | [],_,w=>World.grownBy.refl w _
 | v::r,o,w=>World.grownBy.trans (⟨rfl,rfl,rfl,by simp,fun k _ a=>Am w _ v k (fun e=>a (by rw[e]))⟩:w.grownBy (w.setCell ⟨g,o,none⟩ v) (some g)) (Mr g r (o+1) _)
theorem OJ {g:Nat} {T:TypeId}:∀(vs:List Value) (o:Nat) (w:World) (l:List Value),BL w g T l.toArray->o+vs.length<=l.length->BL (w.setCells g o vs) g T (l.take o++vs++l.drop (o+vs.length)).toArray
 | [],o,w,l,h,_=>by show BL w g T _;rw[BC,Co,D0,Ey];exact h
 | v::r,o,w,l,h,hl=>by
  rw[Bn]at hl;have h1:BL (w.setCell ⟨g,o,none⟩ v) g T (l.set o v).toArray:=by have:=h.set_ o v;rwa [Bm]at this
  have h2:=OJ r (o+1) _ (l.set o v) h1 (by rw[DU];omega)
  have e:(l.set o v).take (o+1)++r++(l.set o v).drop (o+1+r.length)=l.take o++v::r++l.drop (o+(v::r).length):=by
   rw[List.drop_set_of_lt (by omega),List.take_set,List.set_eq_take_append_cons_drop,AU (by rw[Cv];omega),Bn];simp only[List.take_take,Ac];rw[show min o (o+1)=o by omega,show o+1+r.length=o+(r.length+1)by omega];have:(List.take (o+1) l).drop (o+1)=[]:=by rw[List.drop_eq_nil_iff,Cv];omega
   rw[this];simp
  rw[e]at h2;exact h2
structure BkW (w wr:World) (base LB LS NN:Nat) (vs:List Value) (rows:Nat->List Bk) (sn:List Bool):Prop where
 g:Grp RS 3 wr base LB NN 209 211 vs rows
 s:BL wr LS 4 (sn.map Value.bool).toArray
 bel:Below w.heap.size w wr
 lb:w.heap.size<=base
 lS:w.heap.size<=LS
section
variable {w wr w':World} {base LB LS NN:Nat} {vs:List Value} {rows:Nat->List Bk} {sn:List Bool}
theorem BkW.call (h:BkW w wr base LB LS NN vs rows sn) (a:Below wr.heap.size wr w'):BkW w w' base LB LS NN vs rows sn:=⟨h.g.call a,h.s.below a h.s.lt,h.bel.trans (a.mono h.bel.size),h.lb,h.lS⟩
theorem BkW.far (h:BkW w wr base LB LS NN vs rows sn) {T:TypeId} {b:Array Value} {p:Addr} (a:BL wr p.block T b) (h1:209≠T) (h2:211≠T) (h3:4≠T) (c:w.heap.size<=p.block) (v:Value):BkW w (wr.setCell p v) base LB LS NN vs rows sn:=⟨h.g.set (fun e=>AV h.g.own a h1 (by rw[e];rfl)) (fun s d=>AV (h.g.row s d) a h2) v,h.s.far (BL.ne_ h.s a h3) v,h.bel.setCell c v,h.lb,h.lS⟩
theorem BkW.mark (h:BkW w wr base LB LS NN vs rows sn) (j:Nat) (b:Bool):BkW w (wr.setCell ⟨LS,j,none⟩ (.bool b)) base LB LS NN vs rows (sn.set j b):=by refine⟨h.g.set (p:=⟨LS,j,none⟩) (fun e=>AV h.g.own h.s (by decide) (by rw[show LS=LB from e];rfl)) (fun s a=>AV (h.g.row s a) h.s (by decide)) _,?_,h.bel.setCell (p:=⟨LS,j,none⟩) h.lS _,h.lb,h.lS⟩;have:=h.s.set_ j (.bool b);rw[Bm,<-List.map_set]at this;exact this
theorem BkW.clear (h:BkW w wr base LB LS NN vs rows sn) (a:sn.length=NN):BkW w (wr.setCells LS 0 (List.replicate NN (.bool false))) base LB LS NN vs rows (List.replicate NN false):=by have b:=Mr LS (List.replicate NN (.bool false)) 0 wr;refine⟨h.g.kept b (fun e=>AV h.g.own h.s (by decide) (by rw[AL e];rfl)) (fun s c=>.inr (AV (h.g.row s c) h.s (by decide))),?_,h.bel.grown b h.bel.size (fun k d=>by have:=AL d;have:=h.lS;omega),h.lb,h.lS⟩;have:=OJ (List.replicate NN (.bool false)) 0 wr (sn.map Value.bool) h.s (by simp[a]);rw[CN,Cy,C8,List.length_replicate,Gb (by simp[a]),BC]at this;rw[List.map_replicate];exact this
theorem BkW.put (h:BkW w wr base LB LS NN vs rows sn) (j:Nat) (c:j<NN) {v':Value} (x:Bk) (a:wr.grownBy w' (vs.getD j Bf).ownBlock) (f:w'.ownsRow base 211 3 v' ((rows j).length+1) (B_ RS (rows j)++RS x)) (i:v'.ownBlock=(vs.getD j Bf).ownBlock\/v'.ownBlock=some wr.heap.size) :BkW w (w'.setCell ⟨LB,j,none⟩ v') base LB LS NN (vs.set j v') (fun t=>if t=j then rows j++[x]else rows t) sn:=by have d:=h.g.row j c;have b:=(own_lt h.g.own LB rfl).1;refine⟨h.g.put (by decide) j c x a f i,(BM h.s a (AV d h.s (by decide))).far (p:=⟨LB,j,none⟩) (fun e=>AV h.g.own h.s (by decide) (by rw[show LS=LB from e];rfl)) _,?_,h.lb,h.lS⟩;exact(h.bel.grown a h.bel.size (fun k l=>AK h.lb (own_lt d k l).1)).setCell (p:=⟨LB,j,none⟩) (AK h.lb b) _
end
theorem Uq:(Tryz.prog.info? 209).map (fun i=>(i.zero,i.size,i.bytes))=some (some (.slice none 0 0),1,24):=by kernel_rfl
theorem YT:(Tryz.prog.info? 211).map (fun i=>(i.zero,i.size,i.bytes))=some (some (.agg #[.int .i64 0,.int .i64 0,.int .i64 0]),3,24):=by kernel_rfl
def SW (u:Fs) (N NN:Nat) (w:World) (e:Ending) (w':World):Prop:=∃LB rows,e=.returned (.slice (some ⟨LB,0,none⟩) NN NN)/\GE (fun g=>w.heap.size<=g/\g<w'.heap.size) RS 3 w' LB NN rows/\BacksOk u N rows/\Below w.heap.size w w'
end
end Go.Proofs.YtcondkihpmmnnaaGreatDoor
