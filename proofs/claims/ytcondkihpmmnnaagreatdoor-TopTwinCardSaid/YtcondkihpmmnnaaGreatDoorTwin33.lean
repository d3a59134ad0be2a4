/- Lemmas, part 33 of 50. No condition. -/
import Derived.Test.YtcondkihpmmnnaaGreatDoorTwin31
set_option maxRecDepth 100000
set_option maxHeartbeats 16000000
namespace Go.Proofs.YtcondkihpmmnnaaGreatDoor
section
open Go.RowKit Go.Sort
section
variable {L:SrL} {u:Fs} {w:World} {hops:List Hop} {vR:Value} {row:List Bx} {place:List Int} {tx:ByteArray} {fd:Bool}
theorem YU (h:SrV L u w hops vR row place tx fd) (F:Fit u L.n) :Calls Tryz.prog 123 #[.pointer (some ⟨L.G,0,none⟩)] w (SW u L.n (L.n*L.n) w):=by
 have HS:=AB (fun(W:World) (S:Below w.heap.size w W)=>h.call S);have HF:=AB F;have au:=F.le;have bh:L.n*L.n<=32*32:=Dl au au;have bi:=AB (fun(W:World) (S:Below w.heap.size w W) (p q:Int) (hp:0<=p/\p<L.n) (hq:0<=q/\q<L.n)=>Oo (h.call S) p q (by omega) (by omega) (by omega));have hw:wrap64 ((L.n:Int)*(L.n:Int))=((L.n*L.n:Nat):Int):=by rw[Dk];exact FH _ (by have:=bh;rw[<-Dk];omega)
 have c0:=h.box.cell 0;have HP:=AB (fun(W:World) (LB:Nat) (rows:Nat->List Bk) (h1:GE (fun g=>w.heap.size<=g/\g<W.heap.size) RS 3 W LB (L.n*L.n) rows) (h2:BacksOk u L.n rows) (S:Below w.heap.size w W)=>show SW u L.n (L.n*L.n) w (.returned (.slice (some ⟨LB,0,none⟩) (L.n*L.n) (L.n*L.n))) W from⟨LB,rows,rfl,h1,h2,S⟩);have dy:=AB (show L.n*L.n=L.n*L.n from rfl);clear h F;generalize bj:L.n*L.n=d at hw bh HP;have r:=AB bj;clear bj;obtain⟨i1,hi,bk,bl,bm⟩:=BK Uq;obtain⟨i2,hj,bn,bo,bp⟩:=BK IL;have bq:i1.bytes*d<=281474976710656:=by rw[bm];omega
 have br:i2.bytes*d<=281474976710656:=by rw[bp];omega
 have bs:d<=maxLen:=by unfold maxLen;omega
 go_enter Tryz.func123,Tryz.ntmps123;go_upto_region 3 with(at_make;refine Cw _ rfl _ _ 205 rfl w.heap.size 209 i1 _ 1 Tryz.underlying205 hi bk bl _ _ _ _ d rfl rfl hw hw bq bs (AD _) ?_;intro w2 f bu)
 have be:=(AH w.heap.size w).grown bu (AD _) (fun k e=>by cases e);rw[show(Value.slice none 0 0).cells=#[Value.slice none 0 0]from rfl,CG,BZ]at f;have av:=(own_lt f w.heap.size rfl).2;go_upto_region 4 with(at_make;refine Cw _ rfl _ _ 24 rfl w2.heap.size 4 i2 _ 1 Tryz.underlying24 hj bn bo _ _ _ _ d rfl rfl hw hw br bs (AD _) ?_;intro w3 O aw)
 have ab:=(AH w2.heap.size w2).grown aw (AD _) (fun k e=>by cases e);rw[show(Value.bool false).cells=#[Value.bool false]from rfl,CG,BZ]at O;have hG:=DG O;have bv:BkW w w3 w.heap.size w.heap.size w2.heap.size d (List.replicate d Bf) (fun _=>[]) (List.replicate d false):=⟨(J8 f (fun _=>rfl)).call ab,by rw[List.map_replicate];exact hG,be.trans (ab.mono (EI av)),AD _,EI av⟩;have HB:=AB bv;clear hG f O bu aw be ab bv hi bk bl bm hj bn bo bp bq br c0;generalize w2.heap.size=LS at *;go_wp2;go_loopw [30] (fun i wr=>∃(k:Nat) (vs:List Value) (rows:Nat->List Bk) (t:List Bool),k<=d/\i=.int .i64 (k:Int)/\BkW w wr w.heap.size w.heap.size LS d vs rows t/\t.length=d/\BkH u L.n k rows) (fun i _=>d-(intOf i).toNat)
 case atStart=>exact⟨0,_,_,_,AN _,rfl,HB.out,by simp,BkH.start⟩
 case round=>
  clear HB;obtain⟨k,vs,rows,t,b,rfl,c,C,HH⟩:=hrel;have ag:=AB HH;clear HH;by_cases cz:k<d
  .have dz:(0:Int)<=(k:Int):=by omega
   have d0:(k:Int)<(d:Int):=by omega
   have bw:∀ty,(Builtin.clear_ #[24] ty #[.slice (some ⟨LS,0,none⟩) d d]).run Tryz.prog wr=.ok (.tuple #[]) (wr.setCells LS 0 (List.replicate d (.bool false))):=fun ty=>
    Lib.run_clear_slice wr 24 4 ty (.bool false) Tryz.underlying24 (fun W=>by kernel_rfl) rfl rfl LS 0 d d (by omega)
     (fun j hj=>by rw[C8,c.s.cell,CQ,Ag,AG (by omega)];rfl) (fun j hj=>c.s.frozen _)
   have ah:=c.clear C;have bf:k<L.n*L.n:=by rw[r.out];exact cz
   have c8:=Um bf;have da:=Un bf;have d1:L.n≠0:=by omega
   have d2:(k:Int).tdiv (L.n:Int)=((k / L.n:Nat):Int):=by rw[Int.tdiv_eq_ediv_of_nonneg (by omega)];rfl
   have d3:(k:Int).tmod (L.n:Int)=((k%L.n:Nat):Int):=by rw[Int.tmod_eq_emod_of_nonneg (by omega)];rfl
   clear c C b;go_upto_region 8 with(fail)
   generalize wr.setCells LS 0 (List.replicate d (.bool false))=W1 at *;have ac:=HS.out w (AH _ _);have ax:=ac.sz;obtain⟨Ax,cx,g1,x1,x2,R1⟩:=ac.gA.2 (k / L.n) c8;obtain⟨Ay,cy,g2,y1,y2,R2⟩:=ac.gA.2 (k%L.n) da;have d4:L.LA<L.K:=ac.gA.1.1;have G1:=fun(W:World) (S:Below w.heap.size w W)=>(S.cell (p:=⟨L.LA,k / L.n,none⟩) (by show L.LA<_;omega)).trans g1
   have G2:=fun(W:World) (S:Below w.heap.size w W)=>(S.cell (p:=⟨L.LA,k%L.n,none⟩) (by show L.LA<_;omega)).trans g2
   have RX:=fun(W:World) (S:Below w.heap.size w W)=>(R1.reads (B:=L.K) fun k b=>b.1).below (S.mono ax)
   have RY:=fun(W:World) (S:Below w.heap.size w W)=>(R2.reads (B:=L.K) fun k b=>b.1).below (S.mono ax)
   clear R1 R2 g1 g2 ac;have dt:((k / L.n:Nat):Int)<(L.n:Int):=by omega
   have du:((k%L.n:Nat):Int)<(L.n:Int):=by omega
   have r0:=AF ((HS.out W1 ah.bel).box.cell 4);have r1:=AF (G1 W1 ah.bel);have dv:(L.n:Int)≠0:=by omega
   have bx:=AB (ag.out.enter);clear bw ag;generalize bz:k / L.n=kd at *;generalize b8:k%L.n=km at *;have z:=AB (AI bz b8);clear bz b8;have d5:(Pq u kd).length<=16384:=AK (Mp _ _ _) HF.out.many;generalize ay:(Pq u kd).length=nx at *;have b9:=AB ay;clear ay;have d6:(Pq u km).length<=16384:=AK (Mp _ _ _) HF.out.many;generalize az:(Pq u km).length=ny at *;have ca:=AB az;clear az;have HG:=AB (AI G2 (AI RX RY));clear G1 G2 RX RY;go_wp2;refine Au (by kernel_rfl) (by kernel_rfl) ?_
   repeat (go_big_quiet_step (fail))
   refine Ah ?_;intro w6 cb;have D:=AB (AI (ah.call (Bu cb)) bx.out);clear cb ah r0 r1 bx;go_wp2;go_loopw [44] (fun i wr=>∃(M:Nat) (vs:List Value) (rows:Nat->List Bk) (t:List Bool),M<=nx/\i=.int .i64 (M:Int)/\BkW w wr w.heap.size w.heap.size LS d vs rows t/\BkI u L.n k M 0 rows t) (fun i _=>nx-(intOf i).toNat)
   case atStart=>exact⟨0,_,_,_,AN _,rfl,D.out.1,by have:=D.out.2;rw[r.out]at this;exact this⟩
   case round=>
    clear D vs rows t;obtain⟨M,vs,rows,t,d7,rfl,c,HI⟩:=hrel;have l:=AB HI;clear HI;by_cases a8:M<nx
    .have d8:(0:Int)<=(M:Int):=by omega
     have d9:(M:Int)<(nx:Int):=by omega
     obtain⟨gi,oi,rfl,ea,ec⟩:=E9 (enc:=Ib) (fun _=>rfl) (by decide) (HG.out.2.1 wr c.bel) 0 M a8;have ex:=ec 0 _ rfl;rw[show oi+(M*1+0)=oi+M by omega]at ex;have ai:J_ u ((Pq u kd).getD M 0)/\(Ex u ((Pq u kd).getD M 0)).fr=(kd:Int):=JT.1 (FK _ _ _ (by rw[b9.out];exact a8));generalize ad:(Pq u kd).getD M 0=xi at *;have T:=AB (AI ad ai);clear ad ai ec;have r0:=AF ((HS.out wr c.bel).box.cell 4);have r2:=AF (HG.out.1 wr c.bel);go_wp2;clear ex;refine Au (by kernel_rfl) (by kernel_rfl) ?_
     repeat (go_big_quiet_step (fail))
     refine Ah ?_;intro w7 cc;have I:=AB (AI (c.call (Bu cc)) l.out);clear cc c r0 r2 l;go_wp2;go_loopw [58] (fun i wr=>∃(J:Nat) (vs:List Value) (rows:Nat->List Bk) (t:List Bool),J<=ny/\i=.int .i64 (J:Int)/\BkW w wr w.heap.size w.heap.size LS d vs rows t/\BkI u L.n k M J rows t) (fun i _=>ny-(intOf i).toNat)
     case atStart=>exact⟨0,_,_,_,AN _,rfl,I.out.1,I.out.2⟩
     case round=>
      clear I vs rows t;obtain⟨J,vs,rows,t,eb,rfl,c,HI⟩:=hrel;have l:=AB HI;clear HI;by_cases a9:J<ny
      .have dw:(0:Int)<=(J:Int):=by omega
       have dx:(J:Int)<(ny:Int):=by omega
       obtain⟨gj,oj,rfl,ed,ec⟩:=E9 (enc:=Ib) (fun _=>rfl) (by decide) (HG.out.2.2 wr c.bel) 0 J a9;have ey:=ec 0 _ rfl;rw[show oj+(J*1+0)=oj+J by omega]at ey;have cd:J_ u ((Pq u km).getD J 0)/\(Ex u ((Pq u km).getD J 0)).fr=(km:Int):=JT.1 (FK _ _ _ (by rw[ca.out];exact a9));generalize ce:(Pq u km).getD J 0=yi at *;have ae:=AB (AI ce cd);clear ce ec;have ai:=T.out.2;obtain⟨⟨x0,db⟩,aj⟩:=ai;obtain⟨⟨y0,dc⟩,ak⟩:=cd;have fx:=HF.out.arcs _ T.out.2.1.mem;have fy:=HF.out.arcs _ ae.out.2.1.mem;have al:=(HS.out wr c.bel).rdA.reads (B:=L.K) (fun k b=>b.1);have dd:u.arcs.length=L.n3:=FE Ds (by decide) al;rw[dd]at db dc;obtain⟨i,rfl⟩:∃i:Nat,xi=(i:Int):=⟨xi.toNat,(AT x0).symm⟩
       obtain⟨m,rfl⟩:∃m:Nat,yi=(m:Int):=⟨yi.toNat,(AT y0).symm⟩
       obtain⟨ga,oa,eA,ee,a0,a1,a2,a3,a4,a5,a6,a7⟩:=Di al i (by omega);obtain⟨gb,ob,eB,be,b0,b1,b2,b3,b4,b5,b6,b7⟩:=Di al m (by omega);rw[eA]at eB;injection eB with eB
       injection eB with eB1 eB2
       subst eB1 eB2;have e1:Ex u (i:Int)=u.arcs.getD i Cq:=by unfold Ex;rw[BO]
       have e2:Ex u (m:Int)=u.arcs.getD m Cq:=by unfold Ex;rw[BO]
       rw[e1]at fx aj;rw[e2]at fy ak;generalize u.arcs.getD i Cq=x at *;generalize u.arcs.getD m Cq=y at *;have U:=AB (AI e1 e2);clear e1 e2;obtain⟨xf,V,⟨m1,m2,m3,m4⟩,xo,xc⟩:=x;obtain⟨yf,P,⟨n1,n2,n3,n4⟩,yo,yc⟩:=y;simp only at a0 a1 a2 a3 a4 a5 a6 a7 b0 b1 b2 b3 b4 b5 b6 b7 fx fy aj ak;have cf:=AB (AI aj ak);have q3:wr.cell? ⟨L.G,3,none⟩=some (.slice L.A3 L.n3 L.c3):=(HS.out wr c.bel).box.cell 3;rw[eA]at q3;have r0:=AF a0;have r1:=AF a1;have r2:=AF a2;have r3:=AF a3;have r4:=AF a4;have r5:=AF a5;have r6:=AF a6;have r7:=AF a7;have s0:=AF b0;have s1:=AF b1;have s2:=AF b2;have s3:=AF b3;have s4:=AF b4;have s5:=AF b5;have s6:=AF b6;have s7:=AF b7;have p3:=AF q3;clear a0 a1 a2 a3 a4 a5 a6 a7 b0 b1 b2 b3 b4 b5 b6 b7 q3 aj ak al;go_wp2;clear ey;refine Lm 19 [0,1,2,3,4,5,6,7,8,9,10,11,12,13,14,15] 16 17 18 _ _ _ 11 12 61 _ #[.int .i64 xf,.int .i64 V,.int .u64 (m1:Int),.int .u64 (m2:Int),.int .u64 (m3:Int),.int .u64 (m4:Int),.string xo,.bool xc] (by kernel_rfl) (by kernel_rfl) rfl (by kernel_rfl) (by decide) (by decide) (by decide) (by decide) rfl rfl rfl ⟨rfl,rfl,rfl⟩ ⟨rfl,rfl,rfl⟩ rfl Qz ?_;simp only[CV,A_,BA]
       repeat (go_big_quiet_step (fail))
       refine Ah ?_;clear r0 r1 r2 r3 r4 r5 r6 r7 s0 s1 s2 s3 s4 s5 s6 s7 p3;refine Up.start ⟨by show(11:Nat)<119;decide,by show(12:Nat)<119;decide⟩ ?_ ?_
       .intro act W KK gx hs h11 b hK;have t33:act.tmps[69]?=some (.agg #[.int .i64 xf,.int .i64 V,.int .u64 (m1:Int),.int .u64 (m2:Int),.int .u64 (m3:Int),.int .u64 (m4:Int),.string xo,.bool xc]):=(hs 69 (by decide)).trans rfl;have c0:=b.cell 0;have c1:=b.cell 1;have c2:=b.cell 2;have c3:=b.cell 3;have c4:=b.cell 4;have c5:=b.cell 5;have c6:=b.cell 6;have c7:=b.cell 7;have f0:=b.frozen 0;have f1:=b.frozen 1;have f2:=b.frozen 2;have f3:=b.frozen 3;have f4:=b.frozen 4;have f5:=b.frozen 5;have f6:=b.frozen 6;have f7:=b.frozen 7;unfold Oper.wp;simp[execOp,go_sem,h11,t33,c0,c1,c2,c3,c4,c5,c6,c7,f0,f1,f2,f3,f4,f5,f6,f7];exact hK _ (by simp) (I9 (AH _ W) (AD _) _ _ _ _ _ _ _ _) (fun k b=>NK b _ _ _ _ _ _ _ _) (LW b _ _ _ _ _ _ _ _)
       intro W gx gy cg de ef df ch a dg;have HK:=AB (AI (c.call (I9 cg df (.int .i64 yf) (.int .i64 P) (.int .u64 (n1:Int)) (.int .u64 (n2:Int)) (.int .u64 (n3:Int)) (.int .u64 (n4:Int)) (.string yo) (.bool yc))) (AI (Mq ch de (.int .i64 yf) (.int .i64 P) (.int .u64 (n1:Int)) (.int .u64 (n2:Int)) (.int .u64 (n3:Int)) (.int .u64 (n4:Int)) (.string yo) (.bool yc)) (LW a (.int .i64 yf) (.int .i64 P) (.int .u64 (n1:Int)) (.int .u64 (n2:Int)) (.int .u64 (n3:Int)) (.int .u64 (n4:Int)) (.string yo) (.bool yc))));have c0:=a.cell 0;have c1:=a.cell 1;have c2:=a.cell 2;have c3:=a.cell 3;have c4:=a.cell 4;have c5:=a.cell 5;have c6:=a.cell 6;have c7:=a.cell 7;have f0:=a.frozen 0;have f1:=a.frozen 1;have f2:=a.frozen 2;have f3:=a.frozen 3;have f4:=a.frozen 4;have f5:=a.frozen 5;have f6:=a.frozen 6;have f7:=a.frozen 7;clear ch a cg dg c;simp only[Act.put,Az,BI];go_wp2;refine Be ?_;clear c0 c1 c2 c3 c4 c5 c6 c7 f0 f1 f2 f3 f4 f5 f6 f7;generalize ((((((((W.setCell ⟨gy,0,none⟩ (.int .i64 yf)).setCell ⟨gy,1,none⟩ (.int .i64 P)).setCell ⟨gy,2,none⟩ (.int .u64 (n1:Int))).setCell ⟨gy,3,none⟩ (.int .u64 (n2:Int))).setCell ⟨gy,4,none⟩ (.int .u64 (n3:Int))).setCell ⟨gy,5,none⟩ (.int .u64 (n4:Int))).setCell ⟨gy,6,none⟩ (.string yo)).setCell ⟨gy,7,none⟩ (.bool yc))=W2 at *;obtain⟨c,am,an⟩:=HK.out;clear HK;have ao:0<=V/\V<L.n:=⟨fx.2.2.1,fx.2.2.2.1⟩;have ap:0<=P/\P<L.n:=⟨fy.2.2.1,fy.2.2.2.1⟩;have o:=L8 ao.1 ao.2 ap.1 ap.2;have ad:=TU (N:=L.n) ao.1 ap.1;rw[r.out]at o;have eg:((ix L.n V P:Nat):Int)<(d:Int):=by omega
       have dh:=am.cell 1;have di:=an.cell 1
       go_wp2_with fail
       refine(bi.out W2 c.bel V P ao ap).mono ?_;rintro e w5 ⟨rfl,aq⟩;rw[<-ad];generalize ci:ix L.n V P=A at *;have HJ:=AB ci;clear ci ad dh di;have af:=c.call aq;have X:=am.below aq am.lt;have Y:=an.below aq an.lt;clear c am an aq;have C:=l.out.sl;rw[r.out]at C;have sc:w5.cell? ⟨LS,A,none⟩=some (.bool (t.getD A false)):=by rw[af.s.cell,CQ,Ag,AC,AG (by omega)];rfl
       have sf:=af.s.frozen A;rcases Z:t.getD A false with _|_
       case true=>
        have E:=AB (l.out.skip (x:=⟨xf,V,⟨m1,m2,m3,m4⟩,xo,xc⟩) (y:=⟨yf,P,⟨n1,n2,n3,n4⟩,yo,yc⟩) (by rw[z.out.1,T.out.1];exact U.out.1) (by rw[z.out.2,ae.out.1];exact U.out.2) (by show ix L.n V P<_;rw[HJ.out,r.out];exact o) (.inl (by show t.getD (ix L.n V P) false=true;rw[HJ.out];exact Z)));rw[Z]at sc;clear Z C X Y sf;go_wp2;clear sc;go_roundw
        case rel=>exact⟨J+1,vs,rows,t,by omega,by go_num,af,E.out⟩
        case measure=>simp[intOf];omega
       case false=>
        rw[Z]at sc;have dj:=AB Z;clear Z;have g2:=X.cell 2;have g3:=X.cell 3;have g4:=X.cell 4;have g5:=X.cell 5;have t2:=Y.cell 2;have t3:=Y.cell 3;have t4:=Y.cell 4;have t5:=Y.cell 5;have cj:=AB (fun W=>LN ⟨m1,m2,m3,m4⟩ ⟨n1,n2,n3,n4⟩ fx.2.2.2.2.2 fy.2.2.2.2.2 W)
        go_wp2_with fail
        refine(cj.out _).mono ?_;rintro e w6 ⟨rfl,ck⟩;have D:=af.call ck;have dk:=AB (show(⟨m1,m2,m3,m4⟩:St).both ⟨n1,n2,n3,n4⟩=(⟨m1,m2,m3,m4⟩:St).both ⟨n1,n2,n3,n4⟩from rfl);clear sc sf g2 g3 g4 g5 t2 t3 t4 t5 af X Y ck cj;generalize cl:(⟨m1,m2,m3,m4⟩:St).both ⟨n1,n2,n3,n4⟩=bt at *;have cm:=AB cl;clear cl dk;have bg:=fun W=>neqS bt W
        by_cases aa:bt=St.none
        .rw [show decide (bt≠St.none)=false by rw[aa];decide]at bg
         have E:=AB (l.out.skip (x:=⟨xf,V,⟨m1,m2,m3,m4⟩,xo,xc⟩) (y:=⟨yf,P,⟨n1,n2,n3,n4⟩,yo,yc⟩) (by rw[z.out.1,T.out.1];exact U.out.1) (by rw[z.out.2,ae.out.1];exact U.out.2) (by show ix L.n V P<_;rw[HJ.out,r.out];exact o) (.inr (by rw[cm.out];exact aa)));clear aa C;go_wp2;go_roundw
         case rel=>exact⟨J+1,vs,rows,t,by omega,by go_num,D,E.out⟩
         case measure=>simp[intOf];omega
        .rw [show decide (bt≠St.none)=true from DK aa]at bg
         have cn:ix L.n xf yf=k:=by rw[cf.out.1,cf.out.2];show(kd:Int).toNat*L.n+(km:Int).toNat=k;rw[BO,BO,<-z.out.1,<-z.out.2];exact YN k L.n
         have E:=AB (l.out.put (x:=⟨xf,V,⟨m1,m2,m3,m4⟩,xo,xc⟩) (y:=⟨yf,P,⟨n1,n2,n3,n4⟩,yo,yc⟩) T.out.2.1 ae.out.2.1 (by rw[z.out.1];exact T.out.1) (by rw[z.out.2];exact ae.out.1) U.out.1 U.out.2 bf cn HJ.out (by rw[r.out];exact o) dj.out (by rw[cm.out];exact aa));have eh:=(l.out.len A (by rw[r.out];exact o)).1;have I:=D.mark A true;have dl:w6.cell? ⟨LS,A,none⟩=some (.bool (t.getD A false)):=by rw[D.s.cell,CQ,Ag,AC,AG (by omega)];rfl
         have dm:=D.s.frozen A;clear aa C cn D;go_upto_region 18 with(fail)
         clear dl dm bg;generalize w6.setCell ⟨LS,A,none⟩ (.bool true)=W7 at *;have ba:=I.g.row A o;obtain⟨Av,cv,hv,_,_,_⟩:=BH ba;have co:=CM I.g.own A o Bf;rw[hv]at co;have LA:=(AH W7.heap.size W7).alloc (AD _) (.cells #[.int .i64 (k:Int),.int .i64 (i:Int),.int .i64 (m:Int)] 211);have Q:=I.call LA;have cp:=Bg W7 [.int .i64 (k:Int),.int .i64 (i:Int),.int .i64 (m:Int)] 211 3 1 rfl;have R:=Q.g.row A o;rw[hv]at R;have bb:=X0f ⟨(k:Int),(i:Int),(m:Int)⟩;have h63:(rows A).length+1<=maxLen:=by unfold maxLen;omega
         have cq:((rows A).length+1)*24<=140737488355328:=by omega
         have cr:w.heap.size<=(W7.alloc (.cells #[.int .i64 (k:Int),.int .i64 (i:Int),.int .i64 (m:Int)] 211)).heap.size:=Q.bel.size;obtain⟨ib,dn,cs,ct,cu⟩:=BK YT;have cw:=(BG Q.g.own (Q.g.row A o) (by decide)).or_none;have ar:=fun(w':World) (hg:(W7.alloc (.cells #[.int .i64 (k:Int),.int .i64 (i:Int),.int .i64 (m:Int)] 211)).grownBy w' (vs.getD A Bf).ownBlock)=>Q.g.own.kept hg cw
         rw[hv]at ar;generalize bc:(rows A).length=rl at *;have dp:=AB bc;clear bc cw
         go_wp2_with (at_builtin;refine Ba _ rfl _ _ 209 rfl w.heap.size 211 ib _ 3 24 Tryz.underlying209 dn cs ct cu rfl (by decide) _ _ _ rfl R _ (some ⟨W7.heap.size,0,none⟩) 1 1 [.int .i64 (k:Int),.int .i64 (i:Int),.int .i64 (m:Int)] rfl cp bb h63 cq cr ?_;intro v' w9 f H bd;obtain⟨A9,c9,rfl,_,_,_⟩:=BH f;have dq:=CM (ar w9 H) A o Bf;have dr:=Df (ar w9 H) A)
         have ds:=Q.put A o ⟨(k:Int),(i:Int),(m:Int)⟩ (by rw[hv];exact H) (by rw[dp.out];exact f) (by rw[hv];exact bd);clear f H bd dq dr cp ba R bb h63 cq cr ar Q I LA co;go_roundw
         case rel=>exact⟨J+1,_,_,_,by omega,by go_num,ds,E.out⟩
         case measure=>simp[intOf];omega
      .obtain rfl:ny=J:=by omega
       have E:=AB (l.out.row (by rw[z.out.2,ca.out];exact AD _));go_wp2;go_roundw
       case rel=>exact⟨M+1,vs,rows,t,by omega,by go_num,c,E.out⟩
       case measure=>simp[intOf];omega
    .obtain rfl:nx=M:=by omega
     have E:=AB (l.out.leave (by rw[z.out.1,b9.out];exact AD _));have C:=l.out.sl;go_wp2;go_roundw
     case rel=>exact⟨k+1,vs,rows,t,by omega,by go_num,c,by rw[C];exact r.out,E.out⟩
     case measure=>simp[intOf];omega
  .obtain rfl:d=k:=by omega
   have hR:=GE.of_grp (p:=fun g=>w.heap.size<=g/\g<wr.heap.size) c.g (own_lt c.g.own w.heap.size rfl) (fun s g hs e=>own_lt (c.g.row s hs) g e);have HB:=AB (HP.out wr w.heap.size rows hR ((by have:=ag.out;rw[<-r.out]at this;exact this.ok HF.out)) c.bel);clear c hR ag;go_wp2;exact AQ (v:=.slice (some ⟨w.heap.size,0,none⟩) d d) (by simp[results,Tryz.results123,go_sem]) rfl HB.out
end
end
section
open Go.RowKit Go.Sort
theorem Ur {α:Type} {enc:α->List Value} {k:Nat} (b:∀x,(enc x).length=k) (l:List α) (d:α) (j:Nat) (x:α) (f:j<l.length) (a i:Nat) (c:a<l.length) (hi:i<k) :(B_ enc (l.set j x))[a*k+i]?=if a=j then(enc x)[i]? else(B_ enc l)[a*k+i]?:=by
 rw[If b (l.set j x) d a i (by rw[DU];exact c) hi,If b l d a i c hi];by_cases e:a=j
 .subst e;rw[AU rfl,GW _ _ _ _ f]
 .rw [AP e,getD_set_ne _ _ _ _ _ (CF e)]
section
variable {w:World} {g:Nat} {T:TypeId}
theorem X1w {hops:List Hop} (h:BL w g T (B_ MA hops).toArray) (j:Nat) (m:j<hops.length) (x:Hop) :BL (((((w.setCell ⟨g,j*5,none⟩ (.bool x.live)).setCell ⟨g,j*5+1,none⟩ (.bool x.last)).setCell ⟨g,j*5+2,none⟩ (.int .i64 x.x)).setCell ⟨g,j*5+3,none⟩ (.int .i64 x.y)).setCell ⟨g,j*5+4,none⟩ (.int .u8 (x.c:Int))) g T (B_ MA (hops.set j x)).toArray:=by
 have h5:=((((h.set_ (j*5) (.bool x.live)).set_ (j*5+1) (.bool x.last)).set_ (j*5+2) (.int .i64 x.x)).set_ (j*5+3) (.int .i64 x.y)).set_ (j*5+4) (.int .u8 (x.c:Int));rw[Bm,Bm,Bm,Bm,Bm]at h5
 have e:((((((B_ MA hops).set (j*5) (.bool x.live)).set (j*5+1) (.bool x.last)).set (j*5+2) (.int .i64 x.x)).set (j*5+3) (.int .i64 x.y)).set (j*5+4) (.int .u8 (x.c:Int)))=B_ MA (hops.set j x):=by
  have k:(B_ MA hops).length=hops.length*5:=Fu Hd hops;apply Ct;intro q;rcases BF q (hops.length*5)with a|a
  .have d:q / 5<hops.length:=by omega
   have f:q / 5*5+q%5=q:=by omega
   have l:=Ur Hd hops ED j x m (q / 5) (q%5) d (by omega);rw[f]at l;rw[l];simp only[List.getElem?_set,DU,k];by_cases i:q / 5=j
   .rw [AU i]
    subst i;have:q%5<5:=Cz _ (by decide);generalize n:q%5=b at *
    match b,this with
    | 0,_=>rw[AP (by omega),AP (by omega),AP (by omega),AP (by omega),AU (by omega),AU (by omega)];rfl
    | 1,_=>rw[AP (by omega),AP (by omega),AP (by omega),AU (by omega),AU (by omega)];rfl
    | 2,_=>rw[AP (by omega),AP (by omega),AU (by omega),AU (by omega)];rfl
    | 3,_=>rw[AP (by omega),AU (by omega),AU (by omega)];rfl
    | 4,_=>rw[AU (by omega),AU (by omega)];rfl
   .rw [AP i,AP (by omega),AP (by omega),AP (by omega),AP (by omega),AP (by omega)]
  .rw [AY (by simp only[DU,k];exact a),AY (by rw[Fu Hd,DU];exact a)]
 rw[e]at h5;exact h5
end
section
variable {L:SrL} {u:Fs} {w w':World} {hops:List Hop} {vR:Value} {row:List Bx} {place:List Int} {tx:ByteArray} {fd:Bool}
theorem SrV.putHop (h:SrV L u w hops vR row place tx fd) (j:Nat) (g:j<hops.length) (x:Hop) :SrV L u (((((w.setCell ⟨L.H,j*5,none⟩ (.bool x.live)).setCell ⟨L.H,j*5+1,none⟩ (.bool x.last)).setCell ⟨L.H,j*5+2,none⟩ (.int .i64 x.x)).setCell ⟨L.H,j*5+3,none⟩ (.int .i64 x.y)).setCell ⟨L.H,j*5+4,none⟩ (.int .u8 (x.c:Int))) (hops.set j x) vR row place tx fd:=by
 have d:L.G≠L.H:=BL.ne_ h.box h.hb (by decide);have e:L.PL≠L.H:=BL.ne_ h.pb h.hb (by decide);have f:vR.ownBlock≠some L.H:=FI h.oR h.hb (by decide);have b:∀k,Fx L.K L.G L.H L.PL k->(((((w.setCell ⟨L.H,j*5,none⟩ (.bool x.live)).setCell ⟨L.H,j*5+1,none⟩ (.bool x.last)).setCell ⟨L.H,j*5+2,none⟩ (.int .i64 x.x)).setCell ⟨L.H,j*5+3,none⟩ (.int .i64 x.y)).setCell ⟨L.H,j*5+4,none⟩ (.int .u8 (x.c:Int))).heap[k]?=w.heap[k]?:=fun k b=>by have a:k≠L.H:=b.2.2.1;rw[Am _ _ _ _ (show k≠L.H from a),Am _ _ _ _ (show k≠L.H from a),Am _ _ _ _ (show k≠L.H from a),Am _ _ _ _ (show k≠L.H from a),Am _ _ _ _ (show k≠L.H from a)]
 exact { h with
  box:=((((h.box.far (p:=⟨L.H,j*5,none⟩) d _).far (p:=⟨L.H,j*5+1,none⟩) d _).far (p:=⟨L.H,j*5+2,none⟩) d _).far (p:=⟨L.H,j*5+3,none⟩) d _).far (p:=⟨L.H,j*5+4,none⟩) d _
  hb:=X1w h.hb j g x
  pb:=((((h.pb.far (p:=⟨L.H,j*5,none⟩) e _).far (p:=⟨L.H,j*5+1,none⟩) e _).far (p:=⟨L.H,j*5+2,none⟩) e _).far (p:=⟨L.H,j*5+3,none⟩) e _).far (p:=⟨L.H,j*5+4,none⟩) e _
  oR:=AO (AO (AO (AO (AO h.oR (p:=⟨L.H,j*5,none⟩) f _) (p:=⟨L.H,j*5+1,none⟩) f _) (p:=⟨L.H,j*5+2,none⟩) f _) (p:=⟨L.H,j*5+3,none⟩) f _) (p:=⟨L.H,j*5+4,none⟩) f _
  rdS:=h.rdS.kept b
  rdA:=h.rdA.kept b
  gA:=h.gA.kept b
  gE:=h.gE.kept b
  sz:=by simpa using h.sz }
end
def QW (w:World) (base:Nat) (v:Value) (xs:List Nat):Prop:=(xs=[]/\v=.slice none 0 0)\/Gv w base 3 v (qV xs)
section
variable {w w':World} {base:Nat} {v:Value} {xs:List Nat}
theorem QW.form (h:QW w base v xs):∃A cap,v=.slice A xs.length cap/\xs.length<=cap:=by
 rcases h with⟨rfl,rfl⟩|h
 .exact ⟨none,0,rfl,AD _⟩
 .obtain ⟨g,off,cap,rfl,h1,_⟩:=h.form;rw[GK]at h1 ⊢;exact⟨_,_,rfl,h1⟩
theorem QW.lt (h:QW w base v xs):∀g,F8 v=some g->base<=g/\g<w.heap.size:=by
 rcases h with⟨_,rfl⟩|h
 .intro g a;cases a
 .exact h.lt
theorem QW.below (h:QW w base v xs) (a:Below w.heap.size w w'):QW w' base v xs:=h.imp_right fun h=>h.below a
theorem QW.setCell (h:QW w base v xs) {p:Addr} (a:F8 v≠some p.block) (z:Value):QW (w.setCell p z) base v xs:=h.imp_right fun h=>h.setCell a z
theorem X0i (h:QW w base v xs) {g:Nat} {T:TypeId} {b:Array Value} (c:BL w g T b) (a:3≠T):F8 v≠some g:=by
 rcases h with⟨_,rfl⟩|⟨d,off,cap,f,rfl,_,i,_⟩
 .intro e;cases e
 .intro e;have e:d=g:=AL e;subst e;exact BL.ne_ (t:=3) i c a rfl
theorem La {ops:Array Oper} {rest:List Oper} {o:Oper} {a:Act} {Q:Exit->Act->World->Prop} (e:o.guard=none) (s y:Operand) (r:o.op=.call { callee:=.builtin .append,args:=#[s,y],argTypes:=#[55,55] }) (base:Nat) (t:a.eval s=v) (n:QW w base v xs) (b:Nat) (x:Nat) (u:a.eval y=.slice (some ⟨b,0,none⟩) 1 1) (d:w.cell? ⟨b,0,none⟩=some (.int .i64 (x:Int))) (h63:xs.length+1<=1000000) (c:base<=w.heap.size) (h:∀v' w',QW w' base v' (xs++[x])->w.grownBy w' (F8 v)->wpList Tryz.prog ops Q rest (a.put o.dst v') w'):wpList Tryz.prog ops Q (o::rest) a w:=by
 obtain⟨i,hi,f,k,l⟩:=BK OA;have eq:qV (xs++[x])=qV xs++[.int .i64 (x:Int)]:=by unfold qV;rw[CH];rfl
 rcases n with⟨rfl,rfl⟩|n
 .have p:b<w.heap.size:=by
    unfold World.cell? at d;simp at d;rcases BF b w.heap.size with h|h
    .exact h
    .rw [Cn h]at d;cases d
  have B:Reads w w.heap.size 1 (some ⟨b,0,none⟩) 1 [.int .i64 (x:Int)]:=⟨rfl,fun _=>⟨_,rfl,p,fun j z m=>by
   match j,m with
   | 0,m=>simp at m;subst m;rw[Gq];exact d⟩⟩
  refine Ba w e s y 55 r base 3 i _ 1 8 Tryz.underlying55 hi f k l rfl (by decide) _ 0 [] t (Bc _ _ _ _) _ (some ⟨b,0,none⟩) 1 1 [.int .i64 (x:Int)] u B (fun z A=>by simp at A;subst A;rfl) (by unfold maxLen;omega) (by omega) c ?_;intro v' w' h1 h2 h3;refine h v' w' (.inr ?_) h2;rcases h1.2 with⟨_,h0⟩|⟨g,cap,q,rfl,C,D,E,H,F,G⟩
  .cases h0
  .refine ⟨g,0,cap,q,by rw[GK];rfl,C,D,by rw[GK];exact E,by omega,by omega,?_⟩;rw[BI,GK];simpa[qV]using G
 .refine II w e s y 55 r base 3 i _ 8 Tryz.underlying55 hi f k l rfl v (qV xs) t n b (.int .i64 (x:Int)) u d rfl (by rw[GK];unfold maxLen;omega) (by rw[GK];omega) c ?_;intro v' w' h1 h2 _;exact h v' w' (.inr (by rw[eq];exact h1)) h2
end
structure LkW (L:SrL) (u:Fs) (w w1 wr:World) (hops:List Hop) (vR:Value) (row:List Bx) (place:List Int) (tx:ByteArray) (fd:Bool) (v:Value) (xs:List Nat):Prop where
 sr:SrV L u wr hops vR row place tx fd
 kp:∀g,w.heap.size<=g->g<w1.heap.size->wr.heap[g]?=w1.heap[g]?
 q:QW wr w1.heap.size v xs
 keep:∀g,g<w.heap.size->g≠L.H->wr.heap[g]?=w.heap[g]?
 bel:Below L.B w wr
 z:w1.heap.size<=wr.heap.size
 z0:w.heap.size<=w1.heap.size
 Kw:L.K<=w.heap.size
section
variable {L:SrL} {u:Fs} {w w1 wr w':World} {hops:List Hop} {vR:Value} {row:List Bx} {place:List Int} {tx:ByteArray} {fd:Bool} {v v':Value} {xs xs':List Nat}
theorem LkW.call (h:LkW L u w w1 wr hops vR row place tx fd v xs) (a:Below wr.heap.size wr w'):LkW L u w w1 w' hops vR row place tx fd v xs:=by have h1:=h.z;have h2:=h.z0;have h3:=h.sr.hl;exact⟨h.sr.call a,fun g b c=>(a.block g (by omega)).trans (h.kp g b c),h.q.below a,fun g b d=>(a.block g (by omega)).trans (h.keep g b d),h.bel.trans (a.mono h3),AK h1 a.size,h2,h.Kw⟩
theorem LkW.hop (h:LkW L u w w1 wr hops vR row place tx fd v xs) (j:Nat) (m:j<hops.length) (x:Hop) :LkW L u w w1 (((((wr.setCell ⟨L.H,j*5,none⟩ (.bool x.live)).setCell ⟨L.H,j*5+1,none⟩ (.bool x.last)).setCell ⟨L.H,j*5+2,none⟩ (.int .i64 x.x)).setCell ⟨L.H,j*5+3,none⟩ (.int .i64 x.y)).setCell ⟨L.H,j*5+4,none⟩ (.int .u8 (x.c:Int))) (hops.set j x) vR row place tx fd v xs:=by
 have h1:=h.z;have h2:=h.z0;have h3:=h.Kw;have b:=h.sr.gH;have i:∀k,k≠L.H->(((((wr.setCell ⟨L.H,j*5,none⟩ (.bool x.live)).setCell ⟨L.H,j*5+1,none⟩ (.bool x.last)).setCell ⟨L.H,j*5+2,none⟩ (.int .i64 x.x)).setCell ⟨L.H,j*5+3,none⟩ (.int .i64 x.y)).setCell ⟨L.H,j*5+4,none⟩ (.int .u8 (x.c:Int))).heap[k]?=wr.heap[k]?:=fun k a=>by rw[Am _ _ _ _ (show k≠L.H from a),Am _ _ _ _ (show k≠L.H from a),Am _ _ _ _ (show k≠L.H from a),Am _ _ _ _ (show k≠L.H from a),Am _ _ _ _ (show k≠L.H from a)]
 have d:=X0i h.q h.sr.hb (by decide);exact⟨h.sr.putHop j m x,fun g e f=>(i g (by omega)).trans (h.kp g e f),((((h.q.setCell (p:=⟨L.H,j*5,none⟩) d _).setCell (p:=⟨L.H,j*5+1,none⟩) d _).setCell (p:=⟨L.H,j*5+2,none⟩) d _).setCell (p:=⟨L.H,j*5+3,none⟩) d _).setCell (p:=⟨L.H,j*5+4,none⟩) d _,fun g e l=>(i g l).trans (h.keep g e l),((((h.bel.setCell (p:=⟨L.H,j*5,none⟩) b.1 _).setCell (p:=⟨L.H,j*5+1,none⟩) b.1 _).setCell (p:=⟨L.H,j*5+2,none⟩) b.1 _).setCell (p:=⟨L.H,j*5+3,none⟩) b.1 _).setCell (p:=⟨L.H,j*5+4,none⟩) b.1 _,by simpa using h1,h2,h3⟩
theorem LkW.push (h:LkW L u w w1 wr hops vR row place tx fd v xs) (o:QW w' w1.heap.size v' xs') (i:wr.grownBy w' (F8 v)):LkW L u w w1 w' hops vR row place tx fd v' xs':=by
 have h1:=h.z;have h2:=h.z0;have h3:=h.Kw;have p:=h.sr.hl;have g1:=h.sr.gG;have g2:=h.sr.gH;have g3:=h.sr.gP;have d:=h.q.lt;have r:=i.size;have b:∀k,k<w1.heap.size->w'.heap[k]?=wr.heap[k]?:=fun k b=>i.block k (by omega) (fun e=>by have:=(d k e.symm).1;omega)
 have l:vR.ownBlock=none\/vR.ownBlock≠F8 v:=by
  rcases e:vR.ownBlock with _|g
  .exact .inl rfl
  .right
   intro j;rcases h.q with⟨_,rfl⟩|⟨s,off,cap,m,rfl,_,t,_⟩
   .cases j
   .have j:g=s:=AL j;subst j;exact FI h.sr.oR (show BL wr g 3 m from t) (by decide) e
 have a:∀k,Fx L.K L.G L.H L.PL k->w'.heap[k]?=wr.heap[k]?:=fun k n=>b k (by have:=n.1;omega)
 refine⟨{ h.sr with
  box:=(b _ (by omega)).trans h.sr.box
  hb:=(b _ (by omega)).trans h.sr.hb
  pb:=(b _ (by omega)).trans h.sr.pb
  oR:=h.sr.oR.kept i l
  rdS:=h.sr.rdS.kept a
  rdA:=h.sr.rdA.kept a
  gA:=h.sr.gA.kept a
  gE:=h.sr.gE.kept a
  sz:=AK h.sr.sz r },fun g c f=>(b g f).trans (h.kp g c f),o,fun g c x=>(b g (by omega)).trans (h.keep g c x),h.bel.grown i p (fun k e=>by have:=(d k e).1;omega),by omega,h2,h3⟩
end
def offH (w:World) (g n:Nat):Nat:=((List.range n).filter fun s=>match w.cell? ⟨g,s*5,none⟩with|some (.bool false)=>true|_=>false).length
theorem XD {w:World} {g n:Nat} {hops:List Hop} (h:BL w g 208 (B_ MA hops).toArray) (a:hops.length=n):offH w g n=KJ (fun j=>(hops.getD j ED).live) n:=by
 unfold offH KJ;congr 1;apply F5;intro s b;rw[(IZ h s (by rw[a];exact BE.1 b)).1];show _=!(hops.getD s ED).live;rcases(hops.getD s ED).live with _|_
 .rfl
 .rfl
theorem X0j {hops:List Hop} {n j:Nat} (c:hops.length=n) (a:j<n) (h:(hops.getD j ED).live=false) (x:Hop) (b:x.live=true):KJ (fun t=>((hops.set j x).getD t ED).live) n+1=KJ (fun t=>(hops.getD t ED).live) n:=by
 rw[<-UH (f:=fun t=>(hops.getD t ED).live) a h];congr 2;funext t;by_cases e:t=j
 .subst e;rw[AU rfl,GW _ _ _ _ (by omega),b]
 .rw [AP e,getD_set_ne _ _ _ _ _ (CF e)]
def Us (L:SrL) (u:Fs) (vR:Value) (row:List Bx) (place:List Int) (tx:ByteArray) (fd:Bool) (w:World) (e:Ending) (w':World):Prop:=e=.returned (.tuple #[])/\∃hops,SrV L u w' hops vR row place tx fd/\Looked u L.n hops/\Below L.B w w'/\∀g,g<w.heap.size->g≠L.H->w'.heap[g]?=w.heap[g]?
end
end Go.Proofs.YtcondkihpmmnnaaGreatDoor
