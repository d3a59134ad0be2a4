/- Lemmas, part 32 of 50. No condition. -/
import Derived.Test.YtcondkihpmmnnaaGreatDoorTwin29
set_option maxRecDepth 100000
set_option maxHeartbeats 16000000
namespace Go.Proofs.YtcondkihpmmnnaaGreatDoor
section
open Go.RowKit Go.Sort
def Qp (q:SeqM) (n:Nat) (w:World) (e:Ending) (w':World):Prop:=∃gL gM k,e=.returned (.tuple #[.slice (some ⟨gL,0,none⟩) n n,.slice (some ⟨gM,0,none⟩) n n])/\BL w' gL 9 (kL k n).toArray/\BL w' gM 4 (bV k.some n)/\w.heap.size<=gL/\w.heap.size<=gM/\Below w.heap.size w w' /\(∀s,(k.l s).size<=4096*n)/\Fronts q k
def Np (q:SeqM) (j t:Nat):Bool:=decide (t<j) && q.en t
theorem Zk {q:SeqM} {j:Nat} (h:q.en j=true):(fun t=>if t=j then true else Np q j t)=Np q (j+1):=by
 funext t;unfold Np;by_cases e:t=j
 .subst e;simp[h]
 .have:(t<j+1)↔(t<j):=by omega
  simp[e,this]
theorem X1m {q:SeqM} {j:Nat} (h:q.en j=false):Np q j=Np q (j+1):=by
 funext t;unfold Np;by_cases e:t=j
 .subst e;simp[h]
 .have:(t<j+1)↔(t<j):=by omega
  simp[this]
theorem Ky {w:World} {g n:Nat} {T:TypeId} {xs:List Value} (h:BL w g T xs.toArray) (a:xs.length=n):Reads w w.heap.size 1 (some ⟨g,0,none⟩) n xs:=⟨by rw[CG];exact a,fun _=>⟨_,rfl,h.lt,fun j u b=>by rw[Gq,C8,h.cell];simpa using b⟩⟩
theorem Mf {α β:Type} (f:α->β):∀l:List α,(l.flatMap fun x=>[f x])=l.map f
 | []=>rfl
 | x::l=>by rw[Ei,Mf f l];rfl
theorem X1n {q:SeqM} {k:Frt} {t c s:Nat} (a:c<256) (b:q.nx t c=(s:Int)) (d:k.some s=true):FZ q k t≠[]:=Cu (JL.2 (.inr ⟨c,a,by omega,by rw[b];exact d,rfl⟩))
theorem Xv {α:Type} {L:List α} {j:Nat} {d:α} (h:j<L.length):L.getD j d∈L:=by rw[AC,AG h];exact CI _
theorem Xw {α:Type} {L:List α} {j:Nat} {d:α} (h:j<L.length):L.drop j=L.getD j d::L.drop (j+1):=by rw[AC,AG h];exact Ew h
theorem Vp (q:SeqM) (v:Value) (B n:Nat) (w:World) (HS:GC w B q v) (hB:B<=w.heap.size) (a3:Gp q=true) (hn:q.next.length=n) :Calls Tryz.prog 69 #[v] w (Qp q n w):=by
 have bf:=AB HS;obtain⟨A1,c1,A2,c2,A3,c3,A4,c4,rfl,hf,l1,l2,l3,l4,m1,m2,m3,m4,R1,hz,R2,dd,R3,R4,de⟩:=HS;obtain⟨p1,p2,p3,p4,p5,p6⟩:=Ea a3;have df:=AB p6;have dg:=AB (fun s b (hs:s<n) (hb:b<256)=>FQ a3 (s:=s) (by rw[hn];exact hs) hb);rw[p2,p3,p4]at bf;rw[p2,p3,p4];rw[p3]at R3 l3;rw[hn]at p1 l1 R1 R3 l3 bf ⊢;have Hn:=AB (AI hn a3);generalize q.front=fr at *;have K:=BL.new w 27 #[.string fr,.slice A1 n c1,.slice A2 n c2,.slice A3 n c3,.slice A4 n c4];have LB:=(AH w.heap.size w).alloc (AD _) (.cells #[.string fr,.slice A1 n c1,.slice A2 n c2,.slice A3 n c3,.slice A4 n c4] 27);have k1:=K.cell 1;obtain⟨i0,hi,b8,b9,cc⟩:=BK MV;have cd:i0.bytes*n<=281474976710656:=by rw[cc];omega
 have a4:n<=maxLen:=by unfold maxLen;omega
 have dh:=AB R1;have di:=AB R3;clear R2 R4 hz dd de p2 p3 p4 p5 p6 a3 hn l2 l4 R3 R1;go_enter Tryz.func69,Tryz.ntmps69;go_upto_region 3 with(at_make;refine Cw _ rfl _ _ 22 rfl (w.alloc (.cells #[.string fr,.slice A1 n c1,.slice A2 n c2,.slice A3 n c3,.slice A4 n c4] 27)).heap.size 55 i0 _ 1 Tryz.underlying22 hi b8 b9 _ _ (n:Int) (n:Int) n rfl rfl rfl rfl cd a4 (AD _) ?_;intro w2 o ce)
 have aq:=(AH (w.alloc (.cells #[.string fr,.slice A1 n c1,.slice A2 n c2,.slice A3 n c3,.slice A4 n c4] 27)).heap.size _).grown ce (AD _) (fun k e=>by cases e);rw[show(Value.slice none 0 0).cells=#[Bf]from rfl,CG,BZ,Ad]at o;rw[Ad]at aq;have bg:BakW w w2 (w.heap.size+1) n #[.string fr,.slice A1 n c1,.slice A2 n c2,.slice A3 n c3,.slice A4 n c4] (List.replicate n Bf) (fun _=>[]):=⟨K.below aq (by simp),J8 (Md o (by omega)) (fun _=>rfl),LB.trans (aq.mono (by omega))⟩;have a9:=AB bg;have k1:=bg.box.cell 1;have cf:=AB (BackOk.start q n);clear o ce aq K LB hi b8 b9 cc cd bg;generalize w.heap.size+1=bh at *;go_wp2;clear k1;go_loopw [28] (fun i wr=>∃(s:Nat) (vs:List Value) (rows:Nat->List Int),s<=n/\i=.int .i64 (s:Int)/\BakW w wr bh n #[.string fr,.slice A1 n c1,.slice A2 n c2,.slice A3 n c3,.slice A4 n c4] vs rows/\BackOk q n rows s 0) (fun i _=>n-(intOf i).toNat)
 case atStart=>exact⟨0,_,_,AN _,rfl,a9.out,cf.out⟩
 case round=>
  clear a9 cf;obtain⟨s,vs,rows,hs,rfl,O,P⟩:=hrel;have dj:=O.bel.size;by_cases a5:s<n
  .have dk:(0:Int)<=(s:Int):=by omega
   have dl:(s:Int)<(n:Int):=by omega
   obtain⟨g1,o1,e2,d1,rfl,dm,x0,Q0,y1,z1⟩:=dh.out.at_ s a5;have x1:=((O.bel.mono hB).cell (p:=⟨g1,o1+s,none⟩) (by show g1<B;exact dm)).trans x0;have e1:(q.next.map fun r=>r.map (Value.int .i64)).getD s []=(q.next.getD s []).map (Value.int .i64):=by rw[AC,AC,Ag];cases q.next[s]?<;>rfl
   rw[e1]at x1 Q0 y1;simp only[A6]at x1 Q0 y1;rw[(df.out s (by rw[Hn.out.1];exact a5)).1]at x1 Q0 y1;have dn:=AB (fun(W:World) (hb:Below w.heap.size w W)=>Q0.below (hb.mono hB));have k1:=O.box.cell 1;have cg:=AB O;have D:=AB P;clear x0 Q0 e1 O P;go_wp2;clear x1 k1;go_loopw [35] (fun i wr=>∃(b:Nat) (vs:List Value) (rows:Nat->List Int),b<=256/\i=.int .i64 (b:Int)/\BakW w wr bh n #[.string fr,.slice (some ⟨g1,o1,none⟩) n c1,.slice A2 n c2,.slice A3 n c3,.slice A4 n c4] vs rows/\BackOk q n rows s b) (fun i _=>256-(intOf i).toNat)
   case atStart=>exact⟨0,vs,rows,AN _,rfl,cg.out,D.out⟩
   case round=>
    clear cg D vs rows;obtain⟨b,vs,rows,hb,rfl,O,P⟩:=hrel;have ch:=O.bel.size;have D:=AB P;by_cases ar:b<256
    .have e3:(0:Int)<=(b:Int):=by omega
     have ci:(b:Int)<256:=by omega
     obtain⟨z0,dp,_⟩:=dg.out s b a5 ar;rw[Hn.out.1]at dp;obtain⟨h1,q1,rfl,e4,r1⟩:=C6 (d:=0) (dn.out wr O.bel) b ar;have dq:(q.next.getD s []).getD b 0=q.nx s b:=rfl;rw[dq]at r1;clear P;by_cases cj:q.nx s b<0
     .have hp:=AB (D.out.pass (fun z hz e=>by omega))
      have ck:¬q.nx s b>=0:=by omega
      have dr:decide (0<=q.nx s b)=false:=DB ck;have au:=AB (fun(W:World) (h:Below wr.heap.size wr W)=>O.call h);generalize q.nx s b=z at *;go_wp2;refine Au (by kernel_rfl) (by kernel_rfl) ?_
      repeat (go_big_quiet_step (fail))
      refine Ah ?_;intro Q F;have G:=AB (au.out Q (Bu F));clear F r1 O;go_wp2;go_roundw
      case rel=>exact⟨b+1,vs,rows,by omega,by go_num,G.out,hp.out⟩
      case measure=>simp[intOf];omega
     .obtain ⟨z,hz⟩:∃z:Nat,q.nx s b=(z:Int):=⟨_,(AT (by omega)).symm⟩
      have A:z<n:=by omega
      have HZ:=AB hz;rw[hz]at r1 cj;have cl:(0:Int)<=(z:Int):=by omega
      have eo:(z:Int)<(n:Int):=by omega
      have ck:(z:Int)>=0:=by omega
      have dr:decide ((0:Int)<=(z:Int))=true:=DK cl;clear hz;have ba:=O.grp.row z A;obtain⟨Av,cv,T,aj,ds,bi⟩:=BH ba;have R:=CM O.grp.own z A Bf;rw[T]at R;have a6:=Reads.of_own (T▸ba);have ep:=D.out.len z;have ag:=AF R;have bb:=AB (D.out.put a5 ar HZ.out)
      have bj:=AB (fun(h:(s:Int)∈rows z)=>D.out.pass (fun z' e5 e=>by
       have:z'=z:=by have:=HZ.out;omega
       rw[this];exact h))
      have au:=AB (fun(W:World) (h:Below wr.heap.size wr W)=>O.call h);rcases ak:(rows z).length with _|m
      .rw [ak]at R ag T
       go_wp2;refine Au (by kernel_rfl) (by kernel_rfl) ?_
       repeat (go_big_quiet_step (fail))
       refine Ah ?_;intro Q F;have G:=au.out Q (Bu F);have av:=(AH Q.heap.size Q).alloc (AD _) (.cells #[.int .i64 (s:Int)] 3);have y:=G.call av;have aw:=CM G.grp.own z A Bf;rw[T]at aw;have H:=y.grp.row z A;rw[T,ak]at H;have bk:=Bg Q [.int .i64 (s:Int)] 3 1 1 rfl;obtain⟨i1,t0,t1,t2,t3⟩:=BK Fq;have ax:=Mc (s:Int);have h63:0+1<=maxLen:=by unfold maxLen;omega
       have Y:(0+1)*8<=140737488355328:=by omega
       have bl:=y.bel.size;have ay:=AB y;have I:=fun(w7:World) (a:(Q.alloc (.cells #[.int .i64 (s:Int)] 3)).grownBy w7 (Value.slice Av 0 cv).ownBlock)=>y.grp.own.kept (w':=w7) (row:=(vs.getD z Bf).ownBlock) (by rw[T];exact a) (BG y.grp.own (y.grp.row z A) (by decide)).or_none
       clear F r1 O R ag av G y a6
       go_wp2_with (at_builtin;refine Ba _ rfl _ _ 55 rfl w.heap.size 3 i1 _ 1 8 Tryz.underlying55 t0 t1 t2 t3 rfl (by decide) _ _ _ rfl H _ (some ⟨Q.heap.size,0,none⟩) 1 1 [.int .i64 (s:Int)] rfl bk ax h63 Y bl ?_;intro v' w7 o a V;obtain⟨A9,c9,rfl,_,_,_⟩:=BH o;have u3:=CM (I w7 a) z A Bf;have u4:=Df (I w7 a) z)
       go_roundw
       case rel=>have HP:=ay.out.put z A (s:Int) (by rw[T];exact a) (by rw[ak];exact o) (by rw[T];exact V);exact⟨b+1,_,_,by omega,by go_num,HP,bb.out⟩
       case measure=>simp[intOf];omega
      .have hm:m+1<=300000:=by omega
       rw[ak]at R ag a6 T;have bm:∃x∈rows z,(rows z)[m]?=some x:=⟨(rows z)[m]'(by omega),CI _,AG _⟩
       obtain⟨x,hx,dt⟩:=bm;obtain⟨t,rfl,al,c',e6,e7⟩:=D.out.sound z A x hx;obtain⟨ad,du,eq,J⟩:=a6.2 (by omega);obtain⟨gz,rfl,er,es⟩:=bi (by omega);obtain rfl:=AL du
       have bn:=J m (.int .i64 (t:Int)) (by
        have:B_ Ib (rows z)=(rows z).map fun v=>Value.int .i64 v:=by unfold B_ Ib;exact Mf _ _
        rw[this,Ag,dt];rfl)
       rw[Gq,C8]at bn;have cm:=AF bn;have et:(0:Int)<=(m:Int):=by omega
       have eu:(m:Int)<(m:Int)+1:=by omega
       have ev:(((m:Nat):Int)+1==0)=false:=by simp;omega
       by_cases cn:t=s
       .have co:(s:Int)∈rows z:=by rw[<-cn];exact hx
        have hq:=AB (bj.out co);have dv:((t:Int) != (s:Int))=false:=by simp[cn]
        go_wp2;refine Au (by kernel_rfl) (by kernel_rfl) ?_
        repeat (go_big_quiet_step (fail))
        refine Ah ?_;intro Q F;have G:=AB (au.out Q (Bu F));clear F r1 O;go_wp2;go_roundw
        case rel=>exact⟨b+1,vs,rows,by omega,by go_num,G.out,hq.out⟩
        case measure=>simp[intOf];omega
       .have dv:((t:Int) != (s:Int))=true:=by simp;omega
        go_wp2;refine Au (by kernel_rfl) (by kernel_rfl) ?_
        repeat (go_big_quiet_step (fail))
        refine Ah ?_;intro Q F;have G:=au.out Q (Bu F);have av:=(AH Q.heap.size Q).alloc (AD _) (.cells #[.int .i64 (s:Int)] 3);have y:=G.call av;have aw:=CM G.grp.own z A Bf;rw[T]at aw;have H:=y.grp.row z A;rw[T,ak]at H;have bk:=Bg Q [.int .i64 (s:Int)] 3 1 1 rfl;obtain⟨i1,t0,t1,t2,t3⟩:=BK Fq;have ax:=Mc (s:Int);have h63:m+1+1<=maxLen:=by unfold maxLen;omega
        have Y:(m+1+1)*8<=140737488355328:=by omega
        have bl:=y.bel.size;have ay:=AB y;have I:=fun(w7:World) (a:(Q.alloc (.cells #[.int .i64 (s:Int)] 3)).grownBy w7 (Value.slice (some ⟨gz,0,none⟩) (m+1) cv).ownBlock)=>y.grp.own.kept (w':=w7) (row:=(vs.getD z Bf).ownBlock) (by rw[T];exact a) (BG y.grp.own (y.grp.row z A) (by decide)).or_none
        clear F r1 O R ag av G y a6 bn cm J
        go_wp2_with (at_builtin;refine Ba _ rfl _ _ 55 rfl w.heap.size 3 i1 _ 1 8 Tryz.underlying55 t0 t1 t2 t3 rfl (by decide) _ _ _ rfl H _ (some ⟨Q.heap.size,0,none⟩) 1 1 [.int .i64 (s:Int)] rfl bk ax h63 Y bl ?_;intro v' w7 o a V;obtain⟨A9,c9,rfl,_,_,_⟩:=BH o;have u3:=CM (I w7 a) z A Bf;have u4:=Df (I w7 a) z)
        go_roundw
        case rel=>have HP:=ay.out.put z A (s:Int) (by rw[T];exact a) (by rw[ak];exact o) (by rw[T];exact V);exact⟨b+1,_,_,by omega,by go_num,HP,bb.out⟩
        case measure=>simp[intOf];omega
    .obtain rfl:b=256:=by omega
     have dw:=AB P.next;clear P;go_wp2;go_roundw
     case rel=>exact⟨s+1,vs,rows,by omega,by go_num,O,dw.out⟩
     case measure=>simp[intOf];omega
  .obtain rfl:n=s:=by omega
   obtain⟨iL,tL,cp,cq,cr⟩:=BK GI;obtain⟨iM,tM,bo,bp,bq⟩:=BK IL;have Z:=AB O;have D:=AB P;clear O P;go_wp2;refine UY (d0:=78) (d1:=80) (e0:=10) (F0:=fun v W=>∃g,v=.slice (some ⟨g,0,none⟩) n n/\wr.drew.heap.size<=g/\W.ownsRow wr.drew.heap.size 9 1 v n (madeCells (Value.string ByteArray.empty).cells (n*1)).toList) (F1:=fun v W=>∃g,v=.slice (some ⟨g,0,none⟩) n n/\wr.drew.heap.size<=g/\W.ownsRow wr.drew.heap.size 4 1 v n (madeCells (Value.bool false).cells (n*1)).toList) 5 [0,2] 1 3 4 (by kernel_rfl) (by kernel_rfl) rfl (by kernel_rfl) (by decide) rfl rfl rfl (by decide) (by decide) rfl rfl rfl ?_;simp only[CV,A_,BA]
   repeat (go_big_quiet_step (fail))
   refine Ah ?_
   refine Me.start _ ⟨by show 78<160;decide,by show 80<160;decide⟩
    (G7 rfl rfl 77 (by decide) 25 rfl 9 iL _ 1 Tryz.underlying25 tL cp cq n rfl (by rw[cr];omega) a4)
    (G7 rfl rfl 79 (by decide) 24 rfl 4 iM _ 1 Tryz.underlying24 tM bo bp n rfl (by rw[bq];omega) a4) ?_
   rintro vi vj W3 br ⟨N,rfl,dx,bs⟩ ⟨U,rfl,dy,bt⟩;rw[show(Value.string ByteArray.empty).cells=#[Value.string ByteArray.empty]from rfl,CG,BZ]at bs;rw[show(Value.bool false).cells=#[Value.bool false]from rfl,CG,BZ]at bt;have HL:=DG bs;have HM:=DG bt;rw[Pe]at HM;clear bs bt;simp only[Act.put];simp only[Az,BI];go_wp2;refine Be ?_;go_wp2;refine UY (d0:=81) (d1:=83) (e0:=12) (F0:=fun v W=>∃g,v=.slice (some ⟨g,0,none⟩) 0 0/\W3.drew.heap.size<=g/\BL W g 3 #[]) (F1:=fun v W=>∃g,v=.slice (some ⟨g,0,none⟩) n n/\W3.drew.heap.size<=g/\W.ownsRow W3.drew.heap.size 4 1 v n (madeCells (Value.bool false).cells (n*1)).toList) 4 [1] 0 2 3 (by kernel_rfl) (by kernel_rfl) rfl (by kernel_rfl) (by decide) rfl rfl rfl (by decide) (by decide) rfl rfl rfl ?_;simp only[CV,A_,BA]
   repeat (go_big_quiet_step (fail))
   refine Ah ?_
   refine Me.start _ ⟨by show 81<160;decide,by show 83<160;decide⟩ (Xt rfl rfl rfl)
    (G7 rfl rfl 82 (by decide) 24 rfl 4 iM _ 1 Tryz.underlying24 tM bo bp n rfl (by rw[bq];omega) a4) ?_
   rintro vi vj W4 a7 ⟨gq,rfl,dz,hQ⟩ ⟨gW,rfl,d2,bu⟩;rw[show(Value.bool false).cells=#[Value.bool false]from rfl,CG,BZ]at bu;have bv:=DG bu;rw[Pe]at bv;clear bu;have d3:wr.heap.size<=N:=dx;have d4:wr.heap.size<=U:=dy;have e8:W3.heap.size<=gW:=d2;have e9:W3.heap.size<=gq:=dz;have d5:=HL.lt;have d6:=HM.lt;have d7:=br.size
   have bw:FroW wr W4 N U gW n Zj (Np q 0) (JY q 0) (.slice (some ⟨gq,0,none⟩) 0 0):={
    l:=by
     have h0:(List.replicate n (Value.string ByteArray.empty)).toArray=(kL Zj n).toArray:=by
      congr 1;unfold kL GY Zj;apply Ct;intro j;rw[CC,Ag];by_cases hj:j<n
      .rw [CP hj];simp[hj]
      .rw [AY (by simpa using hj)];simp[hj]
     rw[<-h0];exact HL.below a7 d5
    m:=HM.below a7 d6
    w:=by
     have h0:Np q 0=fun _=>false:=by funext t;unfold Np;simp
     rw[h0];exact bv
    que:=Gv.of_blk (xs:=[]) (by omega) hQ (AN _)
    ne:=by omega
    bL:=d3
    bM:=d4
    bW:=by omega
    bel:=br.trans (a7.mono d7) }
   have bc:=Z.out.box.below (bw.bel) Z.out.box.lt;have k3:=bc.cell 3;have am:=Z.out.bel.size;have d8:=AB bw;have az:=AB Z.out.bel;clear bw hQ bv HL HM br a7 bc tL cp cq cr tM bo bp bq;simp only[Act.put,Az,BI];go_wp2;refine Be ?_;go_wp2;clear k3;obtain⟨W0,d9⟩:∃W,W=wr:=⟨_,rfl⟩
   subst d9;go_loopw [12,87] (fun wv i wr=>∃(j:Nat) (vv:Value),vv=wv/\j<=n/\i=.int .i64 (j:Int)/\FroW W0 wr N U gW n Zj (Np q j) (JY q j) vv) (fun _ i _=>n-(intOf i).toNat)
   case atStart=>exact⟨0,_,rfl,AN _,rfl,d8.out⟩
   case round=>
    obtain⟨j,vv,rfl,hj,rfl,u⟩:=hrel;have ew:=u.bel.size;by_cases a0:j<n
    .have ea:(0:Int)<=(j:Int):=by omega
     have eb:(j:Int)<(n:Int):=by omega
     obtain⟨ga,qa,rfl,fa,r1⟩:=C6 (d:=false) ((di.out.below (az.out.mono hB)).below ((u.bel).mono (AK hB am))) j a0;have ec:q.ends.getD j false=q.en j:=rfl;rw[ec]at r1;have cs:=AB u;rcases he:q.en j with _|_
     .rw [he]at r1
      have aa:=Qo q j;rw[he,AP (by decide),BC]at aa;have HN:=AB (show FroW W0 wr N U gW n Zj (Np q (j+1)) (JY q (j+1)) vv by rw[<-X1m he,aa];exact cs.out);clear aa u;go_wp2;go_roundw
      case rel=>exact⟨j+1,vv,rfl,by omega,by go_num,HN.out⟩
      case measure=>simp[intOf];omega
     .rw [he]at r1
      have aa:=Qo q j;rw[he,AU rfl]at aa
      have fb:(JY q j).length<=1024:=by
       have h1:(JY q j).length<=j:=by unfold JY;exact AK (CA _ _) (by simp)
       omega
      have bx:=(BL.new wr 3 #[.int .i64 (j:Int)]).cell 0;have ab:=u.call ((AH wr.heap.size wr).alloc (AD _) (.cells #[.int .i64 (j:Int)] 3));have bz:=ab.que;have a1:=ab.bel.size;obtain⟨i1,t0,t1,t2,t3⟩:=BK Fq;have h63:(qV (JY q j)).length+1<=maxLen:=by rw[GK];unfold maxLen;omega
      have Y:((qV (JY q j)).length+1)*8<=140737488355328:=by rw[GK];omega
      have HN:=AB (fun(W:World) (v':Value) (h:FroW W0 W N U gW n Zj (fun t=>if t=j then true else Np q j t) (JY q j++[j]) v')=>show FroW W0 W N U gW n Zj (Np q (j+1)) (JY q (j+1)) v' by rw[<-Zk he,aa];exact h);clear aa u he cs
      go_wp2_with (at_builtin;refine II _ rfl _ _ 55 rfl W0.heap.size 3 i1 _ 8 Tryz.underlying55 t0 t1 t2 t3 rfl _ _ rfl bz wr.heap.size (.int .i64 (j:Int)) rfl bx rfl h63 Y a1 ?_;intro v' Q o a V;have HP:=ab.push o a;have u3:=(HP.w.cell j).trans (Kb _ a0);have u4:=HP.w.frozen j)
      go_roundw
      case rel=>exact⟨j+1,_,rfl,by omega,by go_num,HN.out _ _ (HP.wait j a0 true)⟩
      case measure=>simp[intOf];omega
    .obtain rfl:n=j:=by omega
     have HI:=AB (Xu (q:=q) (n:=n) (wts:=Np q n) (fun s hs=>by unfold Np JY;rw[BV,BE];simp[hs]));have ct:=AB u;have ed:=AB (fun(W:World) (h:Below W0.heap.size W0 W)=>Z.out.call h);have bd:=AB (Z.out.grp.read (own_lt Z.out.grp.own _ rfl).2);clear u;go_wp2;go_loopw [12] (fun wv wr=>∃(k:Frt) (wts:Nat->Bool) (xs:List Nat),FroW W0 wr N U gW n k wts xs wv/\FroI q n k wts xs) (fun wv wr=>UZ wr N U n (4096*n+4098)*(n+1)+MY wv)
     case atStart=>exact⟨Zj,_,_,ct.out,HI.out⟩
     case round=>
      clear ct HI;obtain⟨k,wts,xs,u,HI⟩:=hrel;have dj:=u.bel.size;have hI:=AB HI;rcases xs with _|⟨s,xs⟩
      .obtain ⟨g,off,cap,rfl,_,_⟩:=u.que.form
       have HP:=AB (show Qp q n w (.returned (.tuple #[.slice (some ⟨N,0,none⟩) n n,.slice (some ⟨U,0,none⟩) n n])) wr from
        ⟨N,U,k,rfl,u.l,u.m,AK am u.bL,AK am u.bM,az.out.trans (u.bel.mono am),fun s=>AK (hI.out.bnd s) (DZ _ (TB _ _)),by have h1:=hI.out;have h2:=Hn.out;obtain⟨h3,h4⟩:=h2;subst h3;exact h1.fronts h4⟩)
       clear u HI;go_wp2;exact AQ (v:=.tuple #[.slice (some ⟨N,0,none⟩) n n,.slice (some ⟨U,0,none⟩) n n]) (by simp[results,Tryz.results69,go_sem]) rfl HP.out
      .have E:=HI.lt s BR
       have fc:(s::xs).length<=n:=by have:=(HI.nd).length_le_of_subset (fun z hz=>BE.2 (HI.lt z hz):(s::xs) ⊆ List.range n);simpa using this
       have hq:=u.que;obtain⟨g,off,cap,T,J⟩:=hq.cell;obtain⟨g',ex,ey,cu,cw,b0,a2⟩:=Gv.tail (x:=.int .i64 (s:Int)) (xs:=qV xs) hq;rw[T]at cu;injection cu with aj ds bi
       injection aj with aj
       injection aj with aj hv1b
       subst aj hv1b bi;have ee:wr.cell? ⟨g,off,none⟩=some (.int .i64 (s:Int)):=J 0 _ rfl;rw[show(qV (s::xs)).length=xs.length+1 from by rw[GK];rfl]at T;rw[GK]at b0 cw a2;subst T;have dk:(0:Int)<=(s:Int):=by omega
       have dl:(s:Int)<(n:Int):=by omega
       have u1:=(u.w.cell s).trans (Kb _ E);have u2:=u.w.frozen s;have cx:FroW W0 wr N U gW n k wts xs (.slice (some ⟨g,off+1,none⟩) xs.length (cap-1)):={ u with que:=b0 };have cy:=AB (cx.wait s E false);have cz:=AB (fun(e:cap=1)=>(show FroW W0 wr N U gW n k wts xs (.slice (some ⟨g,off,none⟩) xs.length 0)from { u with que:=a2 e }).wait s E false);have an:=ed.out _ cy.out.bel;have k0:=an.box.cell 0;have k1:=an.box.cell 1;have k2:=an.box.cell 2;have k3:=an.box.cell 3;have k4:=an.box.cell 4;have c0:=AB (show UZ wr N U n (4096*n+4098)*(n+1)+MY (.slice (some ⟨g,off,none⟩) (xs.length+1) cap)=N_ k n (4096*n+4098)*(n+1)+(xs.length+1)by rw[u.rank];rfl);clear b0 a2 J hq u cx an HI
       go_wp2_with fail
       all_goals
        first
         | have ao:=AB (cz.out (by omega))
         | have ao:=AB cy.out
        have c5:=ao.out.bel.size;refine(Vf q _ (wr.setCell ⟨gW,s,none⟩ (.bool false)).heap.size s n (4096*n) k (some ⟨N,0,none⟩) (some ⟨U,0,none⟩) n n _ ((bf.out.below ((az.out.trans (ao.out.bel.mono am)).mono hB)).more (AK hB (AK am c5))) (AD _) Hn.out.2 Hn.out.1 E (Ky ao.out.l (Gh _ _)) (Ky ao.out.m (Gh _ _)) (fun z=>AK (hI.out.bnd z) (DZ _ (TB _ _))) (by omega)).mono ?_;rintro e w2 ⟨rfl,ci⟩;have S:=ao.out.call ci;have u3:=(S.m.cell s).trans (Kb _ E);have u4:w2.cell? ⟨N,s,none⟩=some (.string (k.l s)):=by rw[S.l.cell];unfold kL;rw[CQ];exact IH _ E
        have x5:=S.l.frozen s;have x6:=S.m.frozen s;have b1:=fun(v:Value)=>S.m.far (p:=⟨N,s,none⟩) (BL.ne_ S.l S.m (by decide)).symm v
        have HT:=AB (fun(l:List Int) hl=>hI.out.tell Hn.out.2 Hn.out.1 (l:=l) hl);have c6:=AB (fun h1 h2=>hI.out.skip h1 h2);have fd:=Oi (hI.out.size Hn.out.2 Hn.out.1);have c7:=TB k n;have c8:=AB (fun h=>(hI.out.ok.down s h).2);have b2:=AB (Xl (k:=k) (C:=4096*n+4098) (f:=EZ (FZ q k s)) E);have ah:=AB S;have b3:=AB (Pc (EZ (FZ q k s)) (k.l s));generalize EZ (FZ q k s)=f at *;clear S k0 k1 k2 k3 k4 ee u1 u2
        have ac:(k.some s=true/\f=k.l s)\/(k.some s=false\/k.some s=true/\(f.toList==(k.l s).toList)=false)/\N_ (k.put s f) n (4096*n+4098)+1<=N_ k n (4096*n+4098):=by
         rcases M:k.some s with _|_
         .exact .inr ⟨.inl rfl,b2.out (by rw[M,AP (by decide)];omega)⟩
         .by_cases ae:f=k.l s
          .exact .inl ⟨rfl,ae⟩
          .refine .inr ⟨.inr ⟨rfl,?_⟩,b2.out ?_⟩
           .rcases e:(f.toList==(k.l s).toList)with _|_
            .rfl
            .exact absurd (b3.out.1 e) ae
           .rw [M,AU rfl]
            have h1:=c8.out M;have h2:=h1.length_le;rw[CK,CK]at h2;rcases BF f.size (k.l s).size with h3|h3
            .exact h3
            .exact absurd (D_ (h1.eq_of_length (by rw[CK,CK];omega))) ae
        rcases ac with⟨M,ae⟩|⟨ac,ef⟩
        .have hN:=AB (c6.out M ae);rw[M]at u3;have eg:(f.toList==(k.l s).toList)=true:=b3.out.2 ae;clear ae M;go_wp2;refine⟨⟨k,_,_,ah.out,hN.out⟩,?_⟩;have h1:=c0.out;rw[h1,ah.out.rank];show _+xs.length<_;omega
        .have R:∀t b,t<n->b<256->q.nx t b=(s:Int)->(t:Int)∈rows s:=fun t b ht hb e=>D.out.full t b hb (by omega) s E e
         have eh:=AB (HT.out (rows s) R);have a8:=AB (D.out.sound s E);have ei:=D.out.len s;have b4:=ah.out.tell s E f;obtain⟨Ab,cb,y1,y2,y3,y4⟩:=bd.out.2 s E;have be:B_ Ib (rows s)=(rows s).map (Value.int .i64):=Mf _ _;rw[be]at y4;have y1:=(b4.bel.cell (p:=⟨bh,s,none⟩) bd.out.1).trans y1;have ej:=AB (fun(W:World) (hb:Below W0.heap.size W0 W)=>y4.below hb);clear R y4 be;have da:=AB b4;have x7:=((b1 (.string f)).cell s).trans (Kb _ E);have x8:=(b1 (.string f)).frozen s;have b5:=AB (show(k.put s f).some s=true from by unfold Frt.put;simp);clear b4 HT c6 c8 b2 b3 ah;rcases ac with M|⟨M,eg⟩
         all_goals
          rw[M]at u3 x7;clear M b1;go_upto_region 27 with(fail)
          generalize (w2.setCell ⟨N,s,none⟩ (.string f)).setCell ⟨U,s,none⟩ (.bool true)=W5 at *;clear u3 u4 x5 x6 x7 x8;go_wp2;clear y1;generalize fe:rows s=L at *;go_loopw [12,141] (fun wv i wr=>∃(j:Nat) (ai:Nat->Bool) (X:List Nat) (vv:Value),vv=wv/\j<=L.length/\i=.int .i64 (j:Int)/\FroW W0 wr N U gW n (k.put s f) ai X vv/\FroJ q n (k.put s f) ai X (L.drop j)) (fun _ i _=>L.length-(intOf i).toNat)
          case atStart=>exact⟨0,_,_,_,rfl,AN _,rfl,da.out,eh.out⟩
          case round=>
           obtain⟨j,ai,X,vv,rfl,ff,rfl,u,HJ⟩:=hrel;have ch:=u.bel.size;have ez:X.length<=n:=by have:=(HJ.nd).length_le_of_subset (fun z hz=>BE.2 (HJ.lt z hz):X ⊆ List.range n);simpa using this
           by_cases af:j<L.length
           .have ea:(0:Int)<=(j:Int):=by omega
            have eb:(j:Int)<(L.length:Int):=by omega
            have ek:L.length<=maxLen:=by unfold maxLen;omega
            obtain⟨gb,ob,rfl,aq,r1⟩:=C6 (d:=0) (ej.out _ u.bel) j af;obtain⟨t,ht,al,c,hc,hx⟩:=a8.out _ (Xv af);have b6:=Xw (d:=0) af;rw[ht]at r1 b6;rw[b6]at HJ;have fg:(0:Int)<=(t:Int):=by omega
            have fh:(t:Int)<(n:Int):=by omega
            have c7:=X1n (k:=k.put s f) hc hx b5.out;have v1:=(u.w.cell t).trans (Kb _ al);have v2:=u.w.frozen t;clear ht b6;rcases ap:ai t with _|_
            .rw [ap]at v1
             have b7:=AB (HJ.push al ap c7);have bx:=(BL.new wr 3 #[.int .i64 (t:Int)]).cell 0;have ab:=u.call ((AH wr.heap.size wr).alloc (AD _) (.cells #[.int .i64 (t:Int)] 3));have bz:=ab.que;have a1:=ab.bel.size;obtain⟨i1,t0,t1,t2,t3⟩:=BK Fq;have h63:(qV X).length+1<=maxLen:=by rw[GK];unfold maxLen;omega
             have Y:((qV X).length+1)*8<=140737488355328:=by rw[GK];omega
             clear u HJ ap
             go_wp2_with (at_builtin;refine II _ rfl _ _ 55 rfl W0.heap.size 3 i1 _ 8 Tryz.underlying55 t0 t1 t2 t3 rfl _ _ rfl bz wr.heap.size (.int .i64 (t:Int)) rfl bx rfl h63 Y a1 ?_;intro v' Q o a V;have HP:=ab.push o a;have u3:=(HP.w.cell t).trans (Kb _ al);have u4:=HP.w.frozen t)
             go_roundw
             case rel=>exact⟨j+1,_,_,_,rfl,by omega,by go_num,HP.wait t al true,b7.out⟩
             case measure=>simp[intOf];omega
            .rw [ap]at v1
             have b7:=AB (HJ.pass al ap);clear HJ ap;go_wp2;go_roundw
             case rel=>exact⟨j+1,_,_,_,rfl,by omega,by go_num,u,b7.out⟩
             case measure=>simp[intOf];omega
           .obtain rfl:L.length=j:=by omega
            rw[List.drop_length]at HJ;have db:=AB (AI u HJ.done);have dc:UZ wr N U n (4096*n+4098)*(n+1)+MY vv<N_ k n (4096*n+4098)*(n+1)+(xs.length+1):=by rw[u.rank];obtain⟨ga,oa,ca,el,_⟩:=u.que.form;rw[el,GK];show _+X.length<_;have h1:=CY (n+1) ef;rw[EH]at h1;omega
            have em:=AB dc;clear u HJ dc;go_wp2;exact⟨⟨_,_,_,db.out.1,db.out.2⟩,by rw[c0.out];exact em.out⟩
end
end Go.Proofs.YtcondkihpmmnnaaGreatDoor
