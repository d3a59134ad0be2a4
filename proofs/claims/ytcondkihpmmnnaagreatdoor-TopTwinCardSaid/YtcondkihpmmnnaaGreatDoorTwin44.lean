/- Lemmas, part 44 of 50. No condition. -/
import Derived.Test.YtcondkihpmmnnaaGreatDoorTwin42
set_option maxRecDepth 100000
set_option maxHeartbeats 16000000
namespace Go.Proofs.YtcondkihpmmnnaaGreatDoor
section
open Go.RowKit Go.Sort
section
variable {L:SrL} {u:Fs} {w:World} {hops:List Hop} {vR:Value} {row:List Bx} {place:List Int} {tx:ByteArray} {fd:Bool}
theorem X2e (h:SrV L u w hops vR row place tx fd) (F:Fit u L.n) (K:Looked u L.n hops) (S:Srch u L.n row place fd) (hT:∀W,Below L.B w W->NT W) (k:Nat) (hk:k<row.length) :Calls Tryz.prog 107 #[.pointer (some ⟨L.G,0,none⟩),.int .i64 (k:Int)] w (Ov L u hops vR row fd k w):=by
 obtain⟨A0,c0,rfl,_,_,_⟩:=BH h.oR;have d2:=S.short;have bx:=F.le;have d3:L.n*L.n<=32*32:=Dl bx bx;have HT:=AB hT;have HF:=AB F;have d4:=AB K;obtain⟨⟨cq,dl,cr,dm⟩,_⟩:=S.good k hk;obtain⟨gr,og,eA,d5,d0,d1,_,_,_,_⟩:=NJ (Reads.of_own h.oR) k hk;subst eA;have dn:=AB (fun(wr:World) (O:Value) (g:List Bx) (f:List Int) (Z:ByteArray) (t:Bool) (H:OnW L u hops (.slice (some ⟨gr,og,none⟩) row.length c0) row fd w wr O g f Z t)=>H.box_at hk);have cb:=AB (fun(wr:World) (O:Value) (g:List Bx) (f:List Int) (Z:ByteArray) (t:Bool) (H:OnW L u hops (.slice (some ⟨gr,og,none⟩) row.length c0) row fd w wr O g f Z t) (x y:Ar) (hx:x∈u.arcs) (hy:y∈u.arcs) (ex:x.fr=(row.getD k JZ).p) (ey:y.fr=(row.getD k JZ).q) (c:UInt8) (h1:x.set.m c.toNat=true) (h2:y.set.m c.toNat=true)=>by obtain⟨b1,b2⟩:=H.box_at hk;have:=X0t H.sv F K H.sr k b1 x y hx hy (by rw[b2];exact ex) (by rw[b2];exact ey) c h1 h2;rw[b2]at this;exact this);generalize hz:row.getD k JZ=z at *;obtain⟨p,hp⟩:∃p:Nat,z.p=(p:Int):=⟨z.p.toNat,(AT cq).symm⟩
 obtain⟨q,hq⟩:∃q:Nat,z.q=(q:Int):=⟨z.q.toNat,(AT cr).symm⟩
 rw[hp]at d0 cq dl;rw[hq]at d1 cr dm;obtain⟨Ax,cx,g1,x1,x2,R1⟩:=h.gA.2 p (by omega);obtain⟨Ay,cy,g2,y1,y2,R2⟩:=h.gA.2 q (by omega);have d6:=AB (fun(wr:World) (O:Value) (g:List Bx) (f:List Int) (Z:ByteArray) (t:Bool) (H:OnW L u hops (.slice (some ⟨gr,og,none⟩) row.length c0) row fd w wr O g f Z t)=>H.heap h)
 have HG:=AB (fun(wr:World) (O:Value) (g:List Bx) (f:List Int) (Z:ByteArray) (t:Bool) (H:OnW L u hops (.slice (some ⟨gr,og,none⟩) row.length c0) row fd w wr O g f Z t)=>
  show wr.cell? ⟨L.LA,p,none⟩=_/\wr.cell? ⟨L.LA,q,none⟩=_/\Reads wr L.K 1 Ax (IA u.arcs u.arcs.length p).length (B_ Ib (IA u.arcs u.arcs.length p))/\Reads wr L.K 1 Ay (IA u.arcs u.arcs.length q).length (B_ Ib (IA u.arcs u.arcs.length q))/\Reads wr L.K 8 L.A3 L.n3 (B_ Cx u.arcs)from
   ⟨(cell_kept (H.heap h L.LA h.gA.1)).trans g1,(cell_kept (H.heap h L.LA h.gA.1)).trans g2,(R1.kept (H.heap h)).reads (fun k hk=>hk.1),(R2.kept (H.heap h)).reads (fun k hk=>hk.1),(h.rdA.kept (H.heap h)).reads (fun k hk=>hk.1)⟩)
 have HEq:=AB (AI hz (AI hp hq));have bn:=h.sz;have d7:=h.hl;have h0:=h.box.cell 7;have LA:=(AH w.heap.size w).alloc (AD _) (.cells #[.int .i64 (p:Int),.int .i64 (q:Int)] 192);have bo:=AB ((OnW.start h S).call LA);have D:=BL.new w 192 #[.int .i64 (p:Int),.int .i64 (q:Int)];have d8:(k:Int)<(row.length:Int):=by omega
 have d9:(0:Int)<=(k:Int):=by omega
 have ea:row.length<=maxLen:=by unfold maxLen;omega
 have HZ:=AB hz;clear F K S h hT hz hp hq g1 g2 R1 R2 LA hk;have eb:(IA u.arcs u.arcs.length p).length<=16384:=AK (Mp _ _ _) HF.out.many;have ed:(IA u.arcs u.arcs.length q).length<=16384:=AK (Mp _ _ _) HF.out.many;generalize cs:IA u.arcs u.arcs.length p=X at *;generalize ct:IA u.arcs u.arcs.length q=Y at *;have bf:=AB (AI cs ct);clear cs ct;generalize bz:X.length=nx at *;generalize b8:Y.length=ny at *;have bp:=AB (AI bz b8);clear bz b8;go_enter Tryz.func107,Tryz.ntmps107;go_upto_region 1 with(fail)
 generalize w.alloc (.cells #[.int .i64 (p:Int),.int .i64 (q:Int)] 192)=W1 at *;clear h0 d0 d1;have G1:=HG.out _ _ _ _ _ _ bo.out;have r0:=AF (bo.out.sv.box.cell 4);have r1:=AF G1.1;have q0:=AF (D.cell 0);clear G1;go_wp2;refine Au (by kernel_rfl) (by kernel_rfl) ?_
 repeat (go_big_quiet_step (fail))
 refine Ah ?_;intro w2 cc;have cd:=AB (AI (bo.out.call (Bu cc)) (D.below (Bu cc) D.lt));clear cc bo D r0 r1 q0;go_wp2;go_loopw [33] (fun i wr=>∃(kx:Nat) (O:Value) (g:List Bx) (f:List Int) (Z:ByteArray) (t:Bool),kx<=nx/\i=.int .i64 (kx:Int)/\OnW L u hops (.slice (some ⟨gr,og,none⟩) row.length c0) row fd w wr O g f Z t/\BL wr w.heap.size 192 #[.int .i64 (p:Int),.int .i64 (q:Int)]/\(t=false->FB u z g X Y kx 0)) (fun i _=>nx-(intOf i).toNat)
 case atStart=>exact⟨0,_,_,_,_,_,AN _,rfl,cd.out.1,cd.out.2,fun _=>FB.start⟩
 case round=>
  clear cd;obtain⟨kx,O,g,f,Z,t,ee,rfl,s,D,HI⟩:=hrel;have al:=AB HI;clear HI;by_cases b9:kx<nx
  .have ef:(0:Int)<=(kx:Int):=by omega
   have eg:(kx:Int)<(nx:Int):=by omega
   have G1:=HG.out _ _ _ _ _ _ s;obtain⟨gi,oi,ce,eh,ec⟩:=E9 (enc:=Ib) (fun _=>rfl) (by decide) G1.2.2.1 0 kx b9;have ex:=ec 0 _ rfl;rw[show oi+(kx*1+0)=oi+kx by omega]at ex;have bq:J_ u (X.getD kx 0)/\(Ex u (X.getD kx 0)).fr=(p:Int):=JT.1 (by rw[bf.out.1];exact FK _ _ _ (by rw[bp.out.1];exact b9));generalize cu:X.getD kx 0=xi at *;have br:=AB (AI cu bq);have P:=AB s;clear cu bq ec;have r0:=AF (s.sv.box.cell 4);have r1:=AF G1.2.1;have q1:=AF (D.cell 1);clear G1 s;rw[ce]at HG;rw[ce];clear ce;go_wp2;clear ex;refine Au (by kernel_rfl) (by kernel_rfl) ?_
   repeat (go_big_quiet_step (fail))
   refine Ah ?_;intro w3 cf;have cg:=AB (AI (P.out.call (Bu cf)) (D.below (Bu cf) D.lt));have cv:=AB al.out;clear cf P D r0 r1 q1 al;go_wp2;go_loopw [46] (fun i wr=>∃(ky:Nat) (O:Value) (g:List Bx) (f:List Int) (Z:ByteArray) (t:Bool),ky<=ny/\i=.int .i64 (ky:Int)/\OnW L u hops (.slice (some ⟨gr,og,none⟩) row.length c0) row fd w wr O g f Z t/\BL wr w.heap.size 192 #[.int .i64 (p:Int),.int .i64 (q:Int)]/\(t=false->FB u z g X Y kx ky)) (fun i _=>ny-(intOf i).toNat)
   case atStart=>exact⟨0,_,_,_,_,_,AN _,rfl,cg.out.1,cg.out.2,cv.out⟩
   case round=>
    clear cg cv O g f Z t;obtain⟨ky,O,g,f,Z,t,ei,rfl,s,D,HI⟩:=hrel;have al:=AB HI;clear HI;by_cases ca:ky<ny
    .have dy:(0:Int)<=(ky:Int):=by omega
     have dz:(ky:Int)<(ny:Int):=by omega
     have G1:=HG.out _ _ _ _ _ _ s;obtain⟨gj,oj,dp,ej,ec⟩:=E9 (enc:=Ib) (fun _=>rfl) (by decide) G1.2.2.2.1 0 ky ca;have ey:=ec 0 _ rfl;rw[show oj+(ky*1+0)=oj+ky by omega]at ey;have cw:J_ u (Y.getD ky 0)/\(Ex u (Y.getD ky 0)).fr=(q:Int):=JT.1 (by rw[bf.out.2];exact FK _ _ _ (by rw[bp.out.2];exact ca));generalize cz:Y.getD ky 0=yi at *;have ch:=AB (AI cz cw);clear cz ec;have bq:=br.out.2;obtain⟨⟨x0,dq⟩,bs⟩:=bq;obtain⟨⟨y0,dr⟩,bu⟩:=cw;have fx:=HF.out.arcs _ br.out.2.1.mem;have fy:=HF.out.arcs _ ch.out.2.1.mem;have mx:=br.out.2.1.mem;have my:=ch.out.2.1.mem;have bv:=G1.2.2.2.2;have ds:u.arcs.length=L.n3:=FE Ds (by decide) bv;rw[ds]at dq dr;obtain⟨i,rfl⟩:∃i:Nat,xi=(i:Int):=⟨xi.toNat,(AT x0).symm⟩
     obtain⟨m,rfl⟩:∃m:Nat,yi=(m:Int):=⟨yi.toNat,(AT y0).symm⟩
     obtain⟨ga,oa,eA,ek,a0,a1,a2,a3,a4,a5,a6,a7⟩:=Di bv i (by omega);obtain⟨gb,ob,eB,el,b0,b1,b2,b3,b4,b5,b6,b7⟩:=Di bv m (by omega);rw[eA]at eB;injection eB with eB
     injection eB with eB1 eB2
     subst eB1 eB2;have e1:Ex u (i:Int)=u.arcs.getD i Cq:=by unfold Ex;rw[BO]
     have e2:Ex u (m:Int)=u.arcs.getD m Cq:=by unfold Ex;rw[BO]
     rw[e1]at fx bs mx;rw[e2]at fy bu my;generalize u.arcs.getD i Cq=x at *;generalize u.arcs.getD m Cq=y at *;have c8:=AB (AI e1 e2);have ci:=AB (fun(W:World) (O:Value) (g:List Bx) (f:List Int) (Z:ByteArray) (t:Bool) (H:OnW L u hops (.slice (some ⟨gr,og,none⟩) row.length c0) row fd w W O g f Z t) (c:UInt8) (h1:x.set.m c.toNat=true) (h2:y.set.m c.toNat=true)=>cb.out W O g f Z t H x y mx my (by rw[HEq.out.2.1];exact bs) (by rw[HEq.out.2.2];exact bu) c h1 h2);clear e1 e2;have ba:=AB (fun(o:List Bx) (hI:FB u z o X Y kx ky) (hs:Ff u z o x y 256)=>show FB u z o X Y kx (ky+1)from hI.next (by rw[br.out.1,ch.out.1,c8.out.1,c8.out.2];exact hs));obtain⟨xf,xt,⟨m1,m2,m3,m4⟩,xo,xc⟩:=x;obtain⟨yf,yt,⟨n1,n2,n3,n4⟩,yo,yc⟩:=y;simp only at a0 a1 a2 a3 a4 a5 a6 a7 b0 b1 b2 b3 b4 b5 b6 b7 fx fy bs bu;have q3:wr.cell? ⟨L.G,3,none⟩=some (.slice L.A3 L.n3 L.c3):=s.sv.box.cell 3;rw[eA]at q3;have r0:=AF a0;have r1:=AF a1;have r2:=AF a2;have r3:=AF a3;have r4:=AF a4;have r5:=AF a5;have r6:=AF a6;have r7:=AF a7;have s0:=AF b0;have s1:=AF b1;have s2:=AF b2;have s3:=AF b3;have s4:=AF b4;have s5:=AF b5;have s6:=AF b6;have s7:=AF b7;have p3:=AF q3;have c9:=AB fx.2.2.2.2.2;have da:=AB fy.2.2.2.2.2;clear a0 a1 a2 a3 a4 a5 a6 a7 b0 b1 b2 b3 b4 b5 b6 b7 q3 bs bu bv G1 mx my fx fy;have P:=AB (AI s D);clear s D;rw[dp];go_wp2;clear ey;refine Lm 19 [0,1,2,3,4,5,6,7,8,9,10,11,12,13,14,15] 16 17 18 _ _ _ 9 10 61 _ #[.int .i64 xf,.int .i64 xt,.int .u64 (m1:Int),.int .u64 (m2:Int),.int .u64 (m3:Int),.int .u64 (m4:Int),.string xo,.bool xc] (by kernel_rfl) (by kernel_rfl) rfl (by kernel_rfl) (by decide) (by decide) (by decide) (by decide) rfl rfl rfl ⟨rfl,rfl,rfl⟩ ⟨rfl,rfl,rfl⟩ rfl Qz ?_;simp only[CV,A_,BA]
     repeat (go_big_quiet_step (fail))
     refine Ah ?_;clear r0 r1 r2 r3 r4 r5 r6 r7 s0 s1 s2 s3 s4 s5 s6 s7 p3;refine Up.start ⟨by show(9:Nat)<112;decide,by show(10:Nat)<112;decide⟩ ?_ ?_
     .intro act W KK gx hs h11 hk hK;have t33:act.tmps[57]?=some (.agg #[.int .i64 xf,.int .i64 xt,.int .u64 (m1:Int),.int .u64 (m2:Int),.int .u64 (m3:Int),.int .u64 (m4:Int),.string xo,.bool xc]):=(hs 57 (by decide)).trans rfl;have c0:=hk.cell 0;have c1:=hk.cell 1;have c2:=hk.cell 2;have c3:=hk.cell 3;have c4:=hk.cell 4;have c5:=hk.cell 5;have c6:=hk.cell 6;have c7:=hk.cell 7;have f0:=hk.frozen 0;have f1:=hk.frozen 1;have f2:=hk.frozen 2;have f3:=hk.frozen 3;have f4:=hk.frozen 4;have f5:=hk.frozen 5;have f6:=hk.frozen 6;have f7:=hk.frozen 7;unfold Oper.wp;simp[execOp,go_sem,h11,t33,c0,c1,c2,c3,c4,c5,c6,c7,f0,f1,f2,f3,f4,f5,f6,f7];exact hK _ (by simp) (I9 (AH _ W) (AD _) _ _ _ _ _ _ _ _) (fun k hk=>NK hk _ _ _ _ _ _ _ _) (LW hk _ _ _ _ _ _ _ _)
     intro W gx gy db dt em du dc Q dv;have cj:=I9 db du (.int .i64 yf) (.int .i64 yt) (.int .u64 (n1:Int)) (.int .u64 (n2:Int)) (.int .u64 (n3:Int)) (.int .u64 (n4:Int)) (.string yo) (.bool yc);have HK:=AB (AI (P.out.1.call cj) (AI (P.out.2.below cj P.out.2.lt) (AI (Mq dc dt (.int .i64 yf) (.int .i64 yt) (.int .u64 (n1:Int)) (.int .u64 (n2:Int)) (.int .u64 (n3:Int)) (.int .u64 (n4:Int)) (.string yo) (.bool yc)) (LW Q (.int .i64 yf) (.int .i64 yt) (.int .u64 (n1:Int)) (.int .u64 (n2:Int)) (.int .u64 (n3:Int)) (.int .u64 (n4:Int)) (.string yo) (.bool yc)))));have bw:L.K<=gx/\L.K<=gy:=by have:=P.out.1.size;omega
     have c0:=Q.cell 0;have c1:=Q.cell 1;have c2:=Q.cell 2;have c3:=Q.cell 3;have c4:=Q.cell 4;have c5:=Q.cell 5;have c6:=Q.cell 6;have c7:=Q.cell 7;have f0:=Q.frozen 0;have f1:=Q.frozen 1;have f2:=Q.frozen 2;have f3:=Q.frozen 3;have f4:=Q.frozen 4;have f5:=Q.frozen 5;have f6:=Q.frozen 6;have f7:=Q.frozen 7;clear dc Q db dv P cj;simp only[Act.put,Az,BI];go_wp2;refine Be ?_;clear c0 c1 c2 c3 c4 c5 c6 c7 f0 f1 f2 f3 f4 f5 f6 f7;generalize ((((((((W.setCell ⟨gy,0,none⟩ (.int .i64 yf)).setCell ⟨gy,1,none⟩ (.int .i64 yt)).setCell ⟨gy,2,none⟩ (.int .u64 (n1:Int))).setCell ⟨gy,3,none⟩ (.int .u64 (n2:Int))).setCell ⟨gy,4,none⟩ (.int .u64 (n3:Int))).setCell ⟨gy,5,none⟩ (.int .u64 (n4:Int))).setCell ⟨gy,6,none⟩ (.string yo)).setCell ⟨gy,7,none⟩ (.bool yc))=W2 at *;have dd:=AB (fun W=>LN ⟨m1,m2,m3,m4⟩ ⟨n1,n2,n3,n4⟩ c9.out da.out W);obtain⟨s,D,au,av⟩:=HK.out;clear HK;have g2:=au.cell 2;have g3:=au.cell 3;have g4:=au.cell 4;have g5:=au.cell 5;have t2:=av.cell 2;have t3:=av.cell 3;have t4:=av.cell 4;have t5:=av.cell 5
     go_wp2_with fail
     refine(dd.out _).mono ?_;rintro e w6 ⟨rfl,bg⟩;have P:=AB (AI (s.call bg) (AI (D.below bg D.lt) (AI (au.below bg au.lt) (av.below bg av.lt))));clear g2 g3 g4 g5 t2 t3 t4 t5 s D au av bg dd;have ck:=AB (St.both_w _ _ c9.out da.out);have bh:=AB (fun b=>St.both_m (⟨m1,m2,m3,m4⟩:St) ⟨n1,n2,n3,n4⟩ b);generalize (⟨m1,m2,m3,m4⟩:St).both ⟨n1,n2,n3,n4⟩=bt at *;obtain⟨R,T,U,V⟩:=bt;simp only;have LZ:=(AH w6.heap.size w6).alloc (AD _) (.cells #[.int .u64 (R:Int),.int .u64 (T:Int),.int .u64 (U:Int),.int .u64 (V:Int)] 58);have de:=AB (AI (P.out.1.call LZ) (AI (P.out.2.1.below LZ P.out.2.1.lt) (AI (P.out.2.2.1.below LZ P.out.2.2.1.lt) (AI (P.out.2.2.2.below LZ P.out.2.2.2.lt) (AI (BL.new w6 58 #[.int .u64 (R:Int),.int .u64 (T:Int),.int .u64 (U:Int),.int .u64 (V:Int)]) (show L.K<=w6.heap.size from AK bn P.out.1.size))))));clear LZ P;go_upto_region 9 with(fail)
     generalize w6.alloc (.cells #[.int .u64 (R:Int),.int .u64 (T:Int),.int .u64 (U:Int),.int .u64 (V:Int)] 58)=W7 at *;generalize w6.heap.size=gz at *;obtain⟨s,D,ab,ac,v,df⟩:=de.out;clear de;have x7:=ab.cell 7;have y7:=ac.cell 7;rcases xc with _|_
     .rcases yc with _|_
      .have an:∀W,Below w.heap.size w W\/W=W7->True:=fun _ _=>trivial
       have cl:∀W,Below W7.heap.size W7 W->NT W:=fun W hb=>HT.out W (s.st.bel.trans (hb.mono s.sv.hl))
       have an:=Q9 (⟨R,T,U,V⟩:St) ck.out W7 cl;unfold Ou at an;have bb:=v.cell 0;have bc:=v.cell 1;have bd:=v.cell 2;have be:=v.cell 3;by_cases aw:JV (⟨R,T,U,V⟩:St).m<256
       .rw [AU aw]at an
        have cm:(⟨R,T,U,V⟩:St).m (JV (⟨R,T,U,V⟩:St).m)=true:=(Ip (⟨R,T,U,V⟩:St).m 256).2.2 aw;obtain⟨c,hc⟩:∃c:UInt8,c.toNat=JV (⟨R,T,U,V⟩:St).m:=⟨UInt8.ofNat (JV (⟨R,T,U,V⟩:St).m),by rw[UInt8.toNat_ofNat'];exact Ez aw⟩
        rw[<-hc]at an cm;have ao:=AB an;have dg:=AB cm;have a:=AB (AI s (AI D (AI ab ac)));clear aw hc cm an s D cl ab ac;generalize ag:c.toNat=cn at *;have ax:=AB ag;clear ag
        go_wp2_with fail
        refine ao.out.mono ?_;rintro e w8 ⟨rfl,A⟩;have a:=AB (AI (a.out.1.call A) (AI (a.out.2.1.below A a.out.2.1.lt) (AI (a.out.2.2.1.below A a.out.2.2.1.lt) (a.out.2.2.2.below A a.out.2.2.2.lt))));obtain⟨s,D,j,l⟩:=a.out;have hC:Calls Tryz.prog 129 #[.pointer (some ⟨L.G,0,none⟩),.int .i64 (k:Int),.agg #[.int .i64 xf,.int .i64 xt,.int .u64 (m1:Int),.int .u64 (m2:Int),.int .u64 (m3:Int),.int .u64 (m4:Int),.string xo,.bool false],.agg #[.int .i64 yf,.int .i64 yt,.int .u64 (n1:Int),.int .u64 (n2:Int),.int .u64 (n3:Int),.int .u64 (n4:Int),.string yo,.bool false],.int .u8 (cn:Int)] w8 (IF L u hops O g t (KD k z (⟨xf,xt,⟨m1,m2,m3,m4⟩,xo,false⟩:Ar) (⟨yf,yt,⟨n1,n2,n3,n4⟩,yo,false⟩:Ar) c) w8):=by have:=ci.out w8 _ _ _ _ _ s c (by have:=bh.out cn;rw[dg.out,eq_comm,AW]at this;rw[ax.out];exact this.1) (by have:=bh.out cn;rw[dg.out,eq_comm,AW]at this;rw[ax.out];exact this.2);rw[ax.out]at this;exact this
        have ap:=AB hC;clear hC A bb bc bd be ao a;have u0:=j.cell 0;have u0:=j.cell 0;have u1:=j.cell 1;have u2:=j.cell 2;have u3:=j.cell 3;have u4:=j.cell 4;have u5:=j.cell 5;have u6:=j.cell 6;have u7:=j.cell 7;have v0:=l.cell 0;have v1:=l.cell 1;have v2:=l.cell 2;have v3:=l.cell 3;have v4:=l.cell 4;have v5:=l.cell 5;have v6:=l.cell 6;have v7:=l.cell 7;have a:=AB (AI s D);clear s D j l
        go_wp2_with fail
        refine ap.out.mono ?_;intro e w9 aq;obtain⟨rfl,dh,aj,a9,di,ay,ad,E,ak,r,aa⟩:=a.out.1.step aq;have bi:=r _ _ _ a.out.2 bn (by decide)
        have ae:Hid (ay=false->FB u z aj X Y kx (ky+1)):=AB (fun e=>by
         have az:t=false:=by
          rcases bj:t with _|_
          .rfl
          .rw [ak bj]at e;cases e
         refine ba.out aj ((al.out az).mono E) (Ff.same rfl rfl (d:=c) fun hl=>?_);have:=aa e hl;obtain⟨l1,l2⟩:=Lr k z (⟨xf,xt,⟨m1,m2,m3,m4⟩,xo,false⟩:Ar) (⟨yf,yt,⟨n1,n2,n3,n4⟩,yo,false⟩:Ar) c;rw[l1,l2]at this;exact this)
        clear u0 u1 u2 u3 u4 u5 u6 u7 v0 v1 v2 v3 v4 v5 v6 v7 aq E ak r aa a ap;have af:=ad.sv.box.cell 10;have I:=AB (fun e:ay=true=>show Ov L u hops (.slice (some ⟨gr,og,none⟩) row.length c0) row fd k w (.returned (.tuple #[])) w9 from⟨rfl,_,_,_,_,_,ad,fun e'=>by rw[e]at e';cases e'⟩);have J:=AB (AI ad (AI bi ae.out));clear ad bi ae;rcases M:ay with _|_
        .rw [M]at af
         go_wp2;clear af;go_roundw
         case rel=>exact⟨ky+1,_,_,_,_,_,by omega,by go_num,J.out.1,J.out.2.1,J.out.2.2⟩
         case measure=>simp[intOf];omega
        .rw [M]at af;have I:=AB (I.out M);clear M J;go_wp2;go_end0;exact I.out
       .rw [AP aw]at an
        have ao:=AB an;have a:=AB (AI s D)
        have dj:∀b,b<256->(⟨R,T,U,V⟩:St).m b=false:=fun b hb=>by
         rcases h':(⟨R,T,U,V⟩:St).m b with _|_
         .rfl
         .exact absurd (Q_ hb h').1 aw
        have dk:=AB dj;clear aw an s D cl ab ac dj
        go_wp2_with fail
        refine ao.out.mono ?_;rintro e w9 ⟨rfl,A⟩;have ad:=a.out.1.call A;have bi:=a.out.2.below A a.out.2.lt;have ae:Hid (t=false->FB u z g X Y kx (ky+1)):=AB (fun e=>ba.out g (al.out e) (Ff.none_ fun c h1 h2=>by have:=bh.out c.toNat;rw[dk.out _ (u8_lt c),show((⟨xf,xt,⟨m1,m2,m3,m4⟩,xo,false⟩:Ar).set.m c.toNat && (⟨yf,yt,⟨n1,n2,n3,n4⟩,yo,false⟩:Ar).set.m c.toNat)=true from by rw[h1,h2];rfl]at this;cases this));clear A ao a bb bc bd be dk;have af:=ad.sv.box.cell 10;have I:=AB (fun e:t=true=>show Ov L u hops (.slice (some ⟨gr,og,none⟩) row.length c0) row fd k w (.returned (.tuple #[])) w9 from⟨rfl,_,_,_,_,_,ad,fun e'=>by rw[e]at e';cases e'⟩);have J:=AB (AI ad (AI bi ae.out));clear ad bi ae;rcases M:t with _|_
        .rw [M]at af
         go_wp2;clear af;go_roundw
         case rel=>exact⟨ky+1,_,_,_,_,_,by omega,by go_num,J.out.1,J.out.2.1,J.out.2.2⟩
         case measure=>simp[intOf];omega
        .rw [M]at af;have I:=AB (I.out M);clear M J;go_wp2;go_end0;exact I.out
      .have a:=AB (AI s (AI D (AI ab (AI ac v))))
       clear s D ab ac v;go_wp2;clear x7 y7;go_loopw [91] (fun i wr=>∃(b:Nat) (a8:Value) (o:List Bx) (ah:List Int) (bk:ByteArray) (N:Bool),b<=256/\i=.int .i64 (b:Int)/\OnW L u hops (.slice (some ⟨gr,og,none⟩) row.length c0) row fd w wr a8 o ah bk N/\BL wr w.heap.size 192 #[.int .i64 (p:Int),.int .i64 (q:Int)]/\BL wr gx 61 #[.int .i64 xf,.int .i64 xt,.int .u64 (m1:Int),.int .u64 (m2:Int),.int .u64 (m3:Int),.int .u64 (m4:Int),.string xo,.bool false]/\BL wr gy 61 #[.int .i64 yf,.int .i64 yt,.int .u64 (n1:Int),.int .u64 (n2:Int),.int .u64 (n3:Int),.int .u64 (n4:Int),.string yo,.bool true]/\BL wr gz 58 #[.int .u64 (R:Int),.int .u64 (T:Int),.int .u64 (U:Int),.int .u64 (V:Int)]/\(N=false->FB u z o X Y kx ky/\Ff u z o (⟨xf,xt,⟨m1,m2,m3,m4⟩,xo,false⟩:Ar) (⟨yf,yt,⟨n1,n2,n3,n4⟩,yo,true⟩:Ar) b)) (fun i _=>256-(intOf i).toNat)
       case atStart=>exact⟨0,_,_,_,_,_,by omega,rfl,a.out.1,a.out.2.1,a.out.2.2.1,a.out.2.2.2.1,a.out.2.2.2.2,fun e=>⟨al.out e,Ff.zero⟩⟩
       case round=>
        clear a al;obtain⟨b,a8,o,ah,bk,N,hb,rfl,s,D,ab,ac,v,bl⟩:=hrel;have C:=AB bl;clear bl;by_cases ar:b<256
        .have dw:(0:Int)<=(b:Int):=by omega
         have dx:(b:Int)<256:=by omega
         have hH:=AB (fun W=>MQ (⟨R,T,U,V⟩:St) ck.out b W ar);have bb:=v.cell 0;have bc:=v.cell 1;have bd:=v.cell 2;have be:=v.cell 3;have a:=AB (AI s (AI D (AI ab (AI ac v))));clear s D ab ac v
         go_wp2_with fail
         refine(hH.out _).mono ?_;rintro e w8 ⟨rfl,A⟩;have a:=AB (AI (a.out.1.call A) (AI (a.out.2.1.below A a.out.2.1.lt) (AI (a.out.2.2.1.below A a.out.2.2.1.lt) (AI (a.out.2.2.2.1.below A a.out.2.2.2.1.lt) (a.out.2.2.2.2.below A a.out.2.2.2.2.lt)))));have ai:=AB (bh.out b);clear bb bc bd be hH A;generalize co:(⟨R,T,U,V⟩:St).m b=mb at *;rcases mb with _|_
         .go_wp2
          go_roundw
          case rel=>exact⟨b+1,_,_,_,_,_,by omega,by go_num,a.out.1,a.out.2.1,a.out.2.2.1,a.out.2.2.2.1,a.out.2.2.2.2,fun e=>⟨(C.out e).1,(C.out e).2.next fun c hc h1 h2 _=>by have:=ai.out;rw[<-hc,show((⟨xf,xt,⟨m1,m2,m3,m4⟩,xo,false⟩:Ar).set.m c.toNat && (⟨yf,yt,⟨n1,n2,n3,n4⟩,yo,true⟩:Ar).set.m c.toNat)=true from by rw[h1,h2];rfl]at this;cases this⟩⟩
          case measure=>simp[intOf];omega
         .obtain ⟨c,ag⟩:∃c:UInt8,c.toNat=b:=⟨UInt8.ofNat b,by rw[UInt8.toNat_ofNat'];exact Ez ar⟩
          obtain⟨s,D,j,l,bm⟩:=a.out;have hC:Calls Tryz.prog 129 #[.pointer (some ⟨L.G,0,none⟩),.int .i64 (k:Int),.agg #[.int .i64 xf,.int .i64 xt,.int .u64 (m1:Int),.int .u64 (m2:Int),.int .u64 (m3:Int),.int .u64 (m4:Int),.string xo,.bool false],.agg #[.int .i64 yf,.int .i64 yt,.int .u64 (n1:Int),.int .u64 (n2:Int),.int .u64 (n3:Int),.int .u64 (n4:Int),.string yo,.bool true],.int .u8 (b:Int)] w8 (IF L u hops a8 o N (KD k z (⟨xf,xt,⟨m1,m2,m3,m4⟩,xo,false⟩:Ar) (⟨yf,yt,⟨n1,n2,n3,n4⟩,yo,true⟩:Ar) c) w8):=by have:=ci.out w8 _ _ _ _ _ s c (by have:=ai.out;rw[eq_comm,AW]at this;rw[ag];exact this.1) (by have:=ai.out;rw[eq_comm,AW]at this;rw[ag];exact this.2);rw[ag]at this;exact this
          have ap:=AB hC;have ax:=AB ag;clear hC a ag co ai;have u0:=j.cell 0;have u1:=j.cell 1;have u2:=j.cell 2;have u3:=j.cell 3;have u4:=j.cell 4;have u5:=j.cell 5;have u6:=j.cell 6;have u7:=j.cell 7;have v0:=l.cell 0;have v1:=l.cell 1;have v2:=l.cell 2;have v3:=l.cell 3;have v4:=l.cell 4;have v5:=l.cell 5;have v6:=l.cell 6;have v7:=l.cell 7;have a:=AB (AI s (AI D (AI j (AI l bm))));clear s D j l bm
          go_wp2_with fail
          refine ap.out.mono ?_;intro e w9 aq;obtain⟨rfl,dh,aj,a9,di,ay,ad,E,ak,r,aa⟩:=a.out.1.step aq;have am:=AB (AI ad (AI (r _ _ _ a.out.2.1 bn (by decide)) (AI (r _ _ _ a.out.2.2.1 bw.1 (by decide)) (AI (r _ _ _ a.out.2.2.2.1 bw.2 (by decide)) (r _ _ _ a.out.2.2.2.2 df (by decide))))))
          have ae:Hid (ay=false->FB u z aj X Y kx ky/\Ff u z aj (⟨xf,xt,⟨m1,m2,m3,m4⟩,xo,false⟩:Ar) (⟨yf,yt,⟨n1,n2,n3,n4⟩,yo,true⟩:Ar) (b+1)):=AB (fun e=>by
           have az:N=false:=by
            rcases bj:N with _|_
            .rfl
            .rw [ak bj]at e;cases e
           refine⟨(C.out az).1.mono E,((C.out az).2.mono E).next fun c' cp _ _ hl=>?_⟩;have:=aa e hl;obtain⟨l1,l2⟩:=Lr k z (⟨xf,xt,⟨m1,m2,m3,m4⟩,xo,false⟩:Ar) (⟨yf,yt,⟨n1,n2,n3,n4⟩,yo,true⟩:Ar) c;rw[l1,l2]at this;rw[show c'=c from UInt8.toNat.inj (cp.trans ax.out.symm)];exact this)
          clear u0 u1 u2 u3 u4 u5 u6 u7 v0 v1 v2 v3 v4 v5 v6 v7 aq ad E ak r aa a ap;go_wp2;go_roundw
          case rel=>exact⟨b+1,_,_,_,_,_,by omega,by go_num,am.out.1,am.out.2.1,am.out.2.2.1,am.out.2.2.2.1,am.out.2.2.2.2,ae.out⟩
          case measure=>simp[intOf];omega
        .obtain rfl:b=256:=by omega
         have ae:Hid (N=false->FB u z o X Y kx (ky+1)):=AB (fun e=>ba.out o (C.out e).1 (C.out e).2);clear ab ac v C;have af:=s.sv.box.cell 10;have I:=AB (fun e:N=true=>show Ov L u hops (.slice (some ⟨gr,og,none⟩) row.length c0) row fd k w (.returned (.tuple #[])) wr from⟨rfl,_,_,_,_,_,s,fun e'=>by rw[e]at e';cases e'⟩);have J:=AB (AI s (AI D ae.out));clear s D ae;rcases M:N with _|_
         .rw [M]at af
          go_wp2;clear af;go_roundw
          case rel=>exact⟨ky+1,_,_,_,_,_,by omega,by go_num,J.out.1,J.out.2.1,J.out.2.2⟩
          case measure=>simp[intOf];omega
         .rw [M]at af;have I:=AB (I.out M);clear M J;go_wp2;go_end0;exact I.out
     .have a:=AB (AI s (AI D (AI ab (AI ac v))))
      clear s D ab ac v;go_wp2;clear x7 y7;go_loopw [91] (fun i wr=>∃(b:Nat) (a8:Value) (o:List Bx) (ah:List Int) (bk:ByteArray) (N:Bool),b<=256/\i=.int .i64 (b:Int)/\OnW L u hops (.slice (some ⟨gr,og,none⟩) row.length c0) row fd w wr a8 o ah bk N/\BL wr w.heap.size 192 #[.int .i64 (p:Int),.int .i64 (q:Int)]/\BL wr gx 61 #[.int .i64 xf,.int .i64 xt,.int .u64 (m1:Int),.int .u64 (m2:Int),.int .u64 (m3:Int),.int .u64 (m4:Int),.string xo,.bool true]/\BL wr gy 61 #[.int .i64 yf,.int .i64 yt,.int .u64 (n1:Int),.int .u64 (n2:Int),.int .u64 (n3:Int),.int .u64 (n4:Int),.string yo,.bool yc]/\BL wr gz 58 #[.int .u64 (R:Int),.int .u64 (T:Int),.int .u64 (U:Int),.int .u64 (V:Int)]/\(N=false->FB u z o X Y kx ky/\Ff u z o (⟨xf,xt,⟨m1,m2,m3,m4⟩,xo,true⟩:Ar) (⟨yf,yt,⟨n1,n2,n3,n4⟩,yo,yc⟩:Ar) b)) (fun i _=>256-(intOf i).toNat)
      case atStart=>exact⟨0,_,_,_,_,_,by omega,rfl,a.out.1,a.out.2.1,a.out.2.2.1,a.out.2.2.2.1,a.out.2.2.2.2,fun e=>⟨al.out e,Ff.zero⟩⟩
      case round=>
       clear a al;obtain⟨b,a8,o,ah,bk,N,hb,rfl,s,D,ab,ac,v,bl⟩:=hrel;have C:=AB bl;clear bl;by_cases ar:b<256
       .have dw:(0:Int)<=(b:Int):=by omega
        have dx:(b:Int)<256:=by omega
        have hH:=AB (fun W=>MQ (⟨R,T,U,V⟩:St) ck.out b W ar);have bb:=v.cell 0;have bc:=v.cell 1;have bd:=v.cell 2;have be:=v.cell 3;have a:=AB (AI s (AI D (AI ab (AI ac v))));clear s D ab ac v
        go_wp2_with fail
        refine(hH.out _).mono ?_;rintro e w8 ⟨rfl,A⟩;have a:=AB (AI (a.out.1.call A) (AI (a.out.2.1.below A a.out.2.1.lt) (AI (a.out.2.2.1.below A a.out.2.2.1.lt) (AI (a.out.2.2.2.1.below A a.out.2.2.2.1.lt) (a.out.2.2.2.2.below A a.out.2.2.2.2.lt)))));have ai:=AB (bh.out b);clear bb bc bd be hH A;generalize co:(⟨R,T,U,V⟩:St).m b=mb at *;rcases mb with _|_
        .go_wp2
         go_roundw
         case rel=>exact⟨b+1,_,_,_,_,_,by omega,by go_num,a.out.1,a.out.2.1,a.out.2.2.1,a.out.2.2.2.1,a.out.2.2.2.2,fun e=>⟨(C.out e).1,(C.out e).2.next fun c hc h1 h2 _=>by have:=ai.out;rw[<-hc,show((⟨xf,xt,⟨m1,m2,m3,m4⟩,xo,true⟩:Ar).set.m c.toNat && (⟨yf,yt,⟨n1,n2,n3,n4⟩,yo,yc⟩:Ar).set.m c.toNat)=true from by rw[h1,h2];rfl]at this;cases this⟩⟩
         case measure=>simp[intOf];omega
        .obtain ⟨c,ag⟩:∃c:UInt8,c.toNat=b:=⟨UInt8.ofNat b,by rw[UInt8.toNat_ofNat'];exact Ez ar⟩
         obtain⟨s,D,j,l,bm⟩:=a.out;have hC:Calls Tryz.prog 129 #[.pointer (some ⟨L.G,0,none⟩),.int .i64 (k:Int),.agg #[.int .i64 xf,.int .i64 xt,.int .u64 (m1:Int),.int .u64 (m2:Int),.int .u64 (m3:Int),.int .u64 (m4:Int),.string xo,.bool true],.agg #[.int .i64 yf,.int .i64 yt,.int .u64 (n1:Int),.int .u64 (n2:Int),.int .u64 (n3:Int),.int .u64 (n4:Int),.string yo,.bool yc],.int .u8 (b:Int)] w8 (IF L u hops a8 o N (KD k z (⟨xf,xt,⟨m1,m2,m3,m4⟩,xo,true⟩:Ar) (⟨yf,yt,⟨n1,n2,n3,n4⟩,yo,yc⟩:Ar) c) w8):=by have:=ci.out w8 _ _ _ _ _ s c (by have:=ai.out;rw[eq_comm,AW]at this;rw[ag];exact this.1) (by have:=ai.out;rw[eq_comm,AW]at this;rw[ag];exact this.2);rw[ag]at this;exact this
         have ap:=AB hC;have ax:=AB ag;clear hC a ag co ai;have u0:=j.cell 0;have u1:=j.cell 1;have u2:=j.cell 2;have u3:=j.cell 3;have u4:=j.cell 4;have u5:=j.cell 5;have u6:=j.cell 6;have u7:=j.cell 7;have v0:=l.cell 0;have v1:=l.cell 1;have v2:=l.cell 2;have v3:=l.cell 3;have v4:=l.cell 4;have v5:=l.cell 5;have v6:=l.cell 6;have v7:=l.cell 7;have a:=AB (AI s (AI D (AI j (AI l bm))));clear s D j l bm
         go_wp2_with fail
         refine ap.out.mono ?_;intro e w9 aq;obtain⟨rfl,dh,aj,a9,di,ay,ad,E,ak,r,aa⟩:=a.out.1.step aq;have am:=AB (AI ad (AI (r _ _ _ a.out.2.1 bn (by decide)) (AI (r _ _ _ a.out.2.2.1 bw.1 (by decide)) (AI (r _ _ _ a.out.2.2.2.1 bw.2 (by decide)) (r _ _ _ a.out.2.2.2.2 df (by decide))))))
         have ae:Hid (ay=false->FB u z aj X Y kx ky/\Ff u z aj (⟨xf,xt,⟨m1,m2,m3,m4⟩,xo,true⟩:Ar) (⟨yf,yt,⟨n1,n2,n3,n4⟩,yo,yc⟩:Ar) (b+1)):=AB (fun e=>by
          have az:N=false:=by
           rcases bj:N with _|_
           .rfl
           .rw [ak bj]at e;cases e
          refine⟨(C.out az).1.mono E,((C.out az).2.mono E).next fun c' cp _ _ hl=>?_⟩;have:=aa e hl;obtain⟨l1,l2⟩:=Lr k z (⟨xf,xt,⟨m1,m2,m3,m4⟩,xo,true⟩:Ar) (⟨yf,yt,⟨n1,n2,n3,n4⟩,yo,yc⟩:Ar) c;rw[l1,l2]at this;rw[show c'=c from UInt8.toNat.inj (cp.trans ax.out.symm)];exact this)
         clear u0 u1 u2 u3 u4 u5 u6 u7 v0 v1 v2 v3 v4 v5 v6 v7 aq ad E ak r aa a ap;go_wp2;go_roundw
         case rel=>exact⟨b+1,_,_,_,_,_,by omega,by go_num,am.out.1,am.out.2.1,am.out.2.2.1,am.out.2.2.2.1,am.out.2.2.2.2,ae.out⟩
         case measure=>simp[intOf];omega
       .obtain rfl:b=256:=by omega
        have ae:Hid (N=false->FB u z o X Y kx (ky+1)):=AB (fun e=>ba.out o (C.out e).1 (C.out e).2);clear ab ac v C;have af:=s.sv.box.cell 10;have I:=AB (fun e:N=true=>show Ov L u hops (.slice (some ⟨gr,og,none⟩) row.length c0) row fd k w (.returned (.tuple #[])) wr from⟨rfl,_,_,_,_,_,s,fun e'=>by rw[e]at e';cases e'⟩);have J:=AB (AI s (AI D ae.out));clear s D ae;rcases M:N with _|_
        .rw [M]at af
         go_wp2;clear af;go_roundw
         case rel=>exact⟨ky+1,_,_,_,_,_,by omega,by go_num,J.out.1,J.out.2.1,J.out.2.2⟩
         case measure=>simp[intOf];omega
        .rw [M]at af;have I:=AB (I.out M);clear M J;go_wp2;go_end0;exact I.out
    .obtain rfl:ny=ky:=by omega
     have ba:=AB (fun e=>(al.out e).row_ (by rw[bp.out.2];exact AD _));go_wp2;go_roundw
     case rel=>exact⟨kx+1,_,_,_,_,_,by omega,by go_num,s,D,ba.out⟩
     case measure=>simp[intOf];omega
  .obtain rfl:nx=kx:=by omega
   have I:Ov L u hops (.slice (some ⟨gr,og,none⟩) row.length c0) row fd k w (.returned (.tuple #[])) wr:=⟨rfl,_,_,_,_,_,s,fun e=>by have hI:=al.out e;rw[<-bf.out.1,<-bf.out.2]at hI;exact hI.done (by rw[bf.out.1,bp.out.1];exact AD _) (dn.out _ _ _ _ _ _ s).2 HEq.out.2.1 HEq.out.2.2⟩;have I:=AB I;clear s D al;go_wp2;go_end0;exact I.out
end
end
end Go.Proofs.YtcondkihpmmnnaaGreatDoor
