/- Lemmas, part 38 of 50. No condition. -/
import Derived.Test.YtcondkihpmmnnaaGreatDoorTwin35
set_option maxRecDepth 100000
set_option maxHeartbeats 16000000
namespace Go.Proofs.YtcondkihpmmnnaaGreatDoor
section
open Go.RowKit Go.Sort
theorem X7 (q:SeqM) (v:Value) (B n:Nat) (w:World) (HS:GC w B q v) (hB:B<=w.heap.size) (hn:q.next.length=n) (ap:Gp q=true) :Calls Tryz.prog 33 #[v] w (K_ q w):=by
 have az:=AB (fun W (hb:Below w.heap.size w W)=>(HS.below (hb.mono hB)).more (AK hB hb.size));obtain⟨A1,c1,A2,c2,A3,c3,A4,c4,rfl,hf,l1,l2,l3,l4,m1,m2,m3,m4,R1,hz,R2,dl,R3,R4,eq⟩:=HS;have er:=AB R3;have es:=AB (AI R4 eq);clear R1 R2 R3 R4 hz dl eq;obtain⟨p1,p2,p3,p4,p5,p6⟩:=Ea ap;have V:=AB (AI ap hn)
 have cc:=AB (fun(W:World) (hb:Below w.heap.size w W) (k:Frt) (cg:Fronts q k) (c:Int) (h:(c=0/\(n=0\/k.some 0=false))\/(c=2/\Qs q k))=>show K_ q w (.returned (.tuple #[.agg #[.string ⟨#[]⟩,.slice none 0 0,.slice none 0 0,.slice none 0 0,.slice none 0 0],.int .i64 c])) W from
  ⟨hb,_,MI,c,rfl,I5 _ _,.inr ⟨ap,k,cg,by
   rcases h with⟨rfl,h⟩|⟨rfl,h⟩
   .exact .inl ⟨rfl,rfl,by rw[hn];exact h⟩
   .exact .inr (.inl ⟨rfl,rfl,h⟩)⟩⟩)
 have d2:=AB (fun(W:World) (hb:Below w.heap.size w W) (k:Frt) (cg:Fronts q k) (v:Value) (r:SeqM) (us:List Nat) (hq:Eb w.heap.size W r v) (Z:Gp r=true) (hp:Pushes q k r us)=>show K_ q w (.returned (.tuple #[v,.int .i64 0])) W from
  ⟨hb,v,r,0,rfl,hq,.inr ⟨ap,k,cg,.inr (.inr ⟨rfl,Z,us,hp⟩)⟩⟩)
 rw[p2,p3,p4,hn]at az ⊢;rw[p3,hn]at er;rw[p4,hn]at es;have dx:=AB (fun W hb=>Ii q _ W.heap.size W (az.out W hb) (AD _));rw[ap]at dx;have et:=AB (fun W hb=>Vp q _ W.heap.size n W (az.out W hb) (AD _) ap hn);have eu:=AB (fun W hb=>Uh q _ W.heap.size n W (az.out W hb) (AD _) ap hn)
 have ev:=AB (fun W hb (s:Nat) (hs:s<n) (k:Frt) (pl:Nat->Int) (gL gP:Nat) (HL:BL W gL 9 (kL k n).toArray) (HP:BL W gP 3 (FF pl n)) (hl:∀z,(k.l z).size<=4096*n) (fo:∀z,z<n->-1<=pl z/\pl z<=2000)
  (ew:∀b,b<256->kept q pl s b->(k.l s).size<=(q.os s b).size+(k.l (q.nx s b).toNat).size)=>Vr q _ W.heap.size s n (4096*n) k pl (some ⟨gL,0,none⟩) (some ⟨gP,0,none⟩) n n W (az.out W hb) (AD _) ap hn hs
   (Ky HL (by unfold kL;rw[Gh])) (Ky (show BL W gP 3 (GY (fun z=>.int .i64 (pl z)) n).toArray from HP) (by rw[Gh])) hl (by rw[hn]at p1;omega) fo ew)
 have ch:q.front.size<=4096:=p5;rw[hn]at p1;clear p2 p3 p4 p5 l1 l2 l3 l4;generalize dy:q.front=fr at *;have dm:=AB dy;clear dy ap hn;have B0:Below w.heap.size w ((w.alloc (.cells #[.string fr,.slice A1 n c1,.slice A2 n c2,.slice A3 n c3,.slice A4 n c4] 27)).alloc (.cells #[.string ⟨#[]⟩,.slice none 0 0,.slice none 0 0,.slice none 0 0,.slice none 0 0] 27)):=((AH _ w).alloc (AD _) _).alloc (by simp) _;have Ja:=(BL.new w 27 #[.string fr,.slice A1 n c1,.slice A2 n c2,.slice A3 n c3,.slice A4 n c4]).alloc (.cells #[.string ⟨#[]⟩,.slice none 0 0,.slice none 0 0,.slice none 0 0,.slice none 0 0] 27);have Jr:=BL.new (w.alloc (.cells #[.string fr,.slice A1 n c1,.slice A2 n c2,.slice A3 n c3,.slice A4 n c4] 27)) 27 #[.string ⟨#[]⟩,.slice none 0 0,.slice none 0 0,.slice none 0 0,.slice none 0 0];simp only[Ad]at Jr;have j0:=Ja.cell 0;have j1:=Ja.cell 1;have j2:=Ja.cell 2;have j3:=Ja.cell 3;have j4:=Ja.cell 4;have go:O1 true=0:=rfl;go_enter Tryz.func33,Tryz.ntmps33
 go_wp2_with fail
 refine(dx.out _ B0).mono ?_;rintro e w1 ⟨rfl,dn⟩;have a0:=Ja.below dn Ja.lt;have dp:=Jr.below dn Jr.lt;have B1:=B0.trans (dn.mono (by simp;omega));clear B0 Ja Jr dn;have j0:=a0.cell 0;have j1:=a0.cell 1;have j2:=a0.cell 2;have j3:=a0.cell 3;have j4:=a0.cell 4
 go_wp2_with fail
 refine(et.out w1 B1).mono ?_;rintro e w2 ⟨gL,gM,k,rfl,HL,HM,fp,fq,cj,dl,cg⟩;have fs:=dp.lt;have d3:=a0.below cj a0.lt;have j:=dp.below cj dp.lt;have B2:=B1.trans (cj.mono B1.size);have a3:=AB cg;have ex:=AB dl;have ft:=cj.size;have ey:=HL.lt;have ez:=HM.lt;clear B1 a0 dp cj cg dl j0 j1 j2 j3 j4;rcases B7 n with a4|a4
 .have HH:=AB (show n=0\/k.some 0=false from .inl a4)
  have fu:((n:Int)==0)=true:=by simp[a4]
  have r0:=j.cell 0;have r1:=j.cell 1;have r2:=j.cell 2;have r3:=j.cell 3;have r4:=j.cell 4;have g0:=j.frozen 0;have g1:=j.frozen 1;have g2:=j.frozen 2;have g3:=j.frozen 3;have g4:=j.frozen 4;clear a4
  go_wp2_with fail
  exact LC rfl rfl (Ec j _ _ _ _ _) (cc.out _ (DR B2 (by omega) _ _ _ _ _) k a3.out 0 (.inl ⟨rfl,HH.out⟩))
 have fu:((n:Int)==0)=false:=by simp;omega
 have gj:(0:Int)<(n:Int):=by omega
 have m0:=(HM.cell 0).trans (Kb _ a4);rcases X:k.some 0 with _|_
 .have HH:=AB (show n=0\/k.some 0=false from .inr X)
  rw[X]at m0;have r0:=j.cell 0;have r1:=j.cell 1;have r2:=j.cell 2;have r3:=j.cell 3;have r4:=j.cell 4;have g0:=j.frozen 0;have g1:=j.frozen 1;have g2:=j.frozen 2;have g3:=j.frozen 3;have g4:=j.frozen 4;clear X
  go_wp2_with fail
  exact LC rfl rfl (Ec j _ _ _ _ _) (cc.out _ (DR B2 (by omega) _ _ _ _ _) k a3.out 0 (.inl ⟨rfl,HH.out⟩))
 rw[X]at m0;have e1:=AB X;clear X;obtain⟨i0,hi,e6,e7,e8⟩:=BK Fq;have fa:i0.bytes*n<=281474976710656:=by rw[e8];omega
 have fv:n<=maxLen:=by unfold maxLen;omega
 go_upto_region 7 with(at_make;refine Cw _ rfl _ _ 55 rfl w2.heap.size 3 i0 _ 1 Tryz.underlying55 hi e6 e7 _ _ (n:Int) (n:Int) n rfl rfl rfl rfl fa fv (AD _) ?_;intro w3 ck fb)
 have bs:=(AH w2.heap.size w2).grown fb (AD _) (fun k e=>by cases e);rw[show(Value.int .i64 0).cells=#[Value.int .i64 0]from rfl,CG,BZ,IN]at ck;have d4:BL w3 w2.heap.size 3 (FF (fun _=>0) n):=DG ck;have a5:=d3.below bs d3.lt;have B3:=B2.trans (bs.mono B2.size);have fc:=d4.lt;have j0:=a5.cell 0;have j1:=a5.cell 1;have j2:=a5.cell 2;have j3:=a5.cell 3;have j4:=a5.cell 4;clear ck fb m0 hi e6 e7 e8 fa
 go_wp2_with fail
 refine(eu.out w3 B3).mono ?_;rintro e w4 ⟨gS,seen,rfl,fd,fw,bt,fe,ff⟩;have fy:=bs.size
 have fg:PsA w w4 #[.string fr,.slice A1 n c1,.slice A2 n c2,.slice A3 n c3,.slice A4 n c4] n gL gM w2.heap.size gS k (Zo (keepF k seen) n 0) seen:=by
  have h0:PsA w w4 #[.string fr,.slice A1 n c1,.slice A2 n c2,.slice A3 n c3,.slice A4 n c4] n gL gM w2.heap.size gS k (fun _=>0) seen:={
   box:=a5.below bt a5.lt
   res:=(j.below bs j.lt).below bt (by omega)
   l:=(HL.below bs ey).below bt (by omega)
   m:=(HM.below bs ez).below bt (by omega)
   p:=d4.below bt fc
   s:=fd
   bL:=by omega
   bM:=by omega
   bP:=by omega
   bS:=by omega
   bel:=B3.trans (bt.mono B3.size) }
  exact h0
 have cl:=AB (show Kept q k n seen from⟨fe a4,e1.out,a4,ff⟩);have HA:=AB fg;clear fg d3 a5 j B2 B3 bs bt HL HM d4 fd fe ff j0 j1 j2 j3 j4 fc ey ez fs fp fq fw ft fy;generalize w2.heap.size=gP at *;generalize fh:keepF k seen=f at *;have aa:=AB fh;go_wp2;go_loopw [7,41] (fun nv i wr=>∃s:Nat,s<=n/\i=.int .i64 (s:Int)/\nv=.int .i64 ((GS f s).length:Int)/\PsA w wr #[.string fr,.slice A1 n c1,.slice A2 n c2,.slice A3 n c3,.slice A4 n c4] n gL gM gP gS k (Zo f n s) seen) (fun _ i _=>n-(intOf i).toNat)
 case atStart=>exact⟨0,AN _,rfl,rfl,HA.out⟩
 case round=>
  clear HA;obtain⟨s,hs,rfl,rfl,HW⟩:=hrel;have d5:=Ok f s;by_cases x:s<n
  .have fz:(0:Int)<=(s:Int):=by omega
   have f5:(s:Int)<(n:Int):=by omega
   have a1:=(HW.s.cell s).trans (Kb _ x);have u1:=(HW.p.cell s).trans (IE _ x);have u2:=HW.p.frozen s;have aq:=HW.set s x (-1);have a2:=(aq.m.cell s).trans (Kb _ x);have u3:=(aq.p.cell s).trans (IE _ x);have u4:=aq.p.frozen s;obtain⟨un,ab⟩:∃un,un=(GS f s).length:=⟨_,rfl⟩
   rw[<-ab]at d5 ⊢;have gl:un<=1024:=by omega
   rcases a6:seen s with _|_
   .have bu:f s=false:=by rw[<-aa.out];unfold keepF;rw[a6];rfl
    have HF:=AB (aq.congr (pl':=Zo f n (s+1)) (fun t ht=>by rw[<-TL x t ht,Vu bu]));have HU:=AB (show(GS f (s+1)).length=un by rw[Vw bu,ab]);rw[a6]at a1;clear HW aq bu a6 ab;generalize k.some s=b1 at *;go_wp2;go_roundw
    case rel=>exact⟨s+1,by omega,by go_num,by rw[HU.out],HF.out⟩
    case measure=>simp[intOf];omega
   .rw [a6]at a1
    rcases X:k.some s with _|_
    .have bu:f s=false:=by rw[<-aa.out];unfold keepF;rw[a6,X];rfl
     have HF:=AB (aq.congr (pl':=Zo f n (s+1)) (fun t ht=>by rw[<-TL x t ht,Vu bu]));have HU:=AB (show(GS f (s+1)).length=un by rw[Vw bu,ab]);rw[X]at a2;clear HW aq bu a6 ab X;go_wp2;go_roundw
     case rel=>exact⟨s+1,by omega,by go_num,by rw[HU.out],HF.out⟩
     case measure=>simp[intOf];omega
    .have cm:f s=true:=by rw[<-aa.out];unfold keepF;rw[a6,X];rfl
     have HF:=AB ((aq.set s x (un:Int)).congr (pl':=Zo f n (s+1)) (fun t ht=>by rw[<-Zp (i0:=-1) x t ht,Wt x cm,ab]));have HU:=AB (show(GS f (s+1)).length=un+1 by rw[Wu cm,AJ,ab];rfl);rw[X]at a2;clear HW aq cm a6 ab X;go_wp2;go_roundw
     case rel=>exact⟨s+1,by omega,by go_num,by rw[HU.out];go_num,HF.out⟩
     case measure=>simp[intOf];omega
  .obtain rfl:n=s:=by omega
   have HA:=HW.congr (pl':=H7 f n) (fun t ht=>by unfold Zo;rw[AU ht]);clear HW;obtain⟨un,ab⟩:∃un,un=(GS f n).length:=⟨_,rfl⟩
   rw[<-ab]at d5 ⊢;clear ab;have gp:=ex.out 0;have b0:=HA.box.cell 0;have e0:wr.cell? ⟨gL,0,none⟩=some (.string (k.l 0)):=(HA.l.cell 0).trans (by unfold kL;rw[CQ,IH _ a4]);have y0:=AF b0;have y1:=AF e0;have d6:=Cg (a:=fr) (b:=k.l 0);have dz:=AB (fun(s:Nat) (hs:s<n) (ch:f s=true)=>Zq (s:=s) V.out.1 V.out.2 a3.out cl.out hs (by rw[aa.out];exact ch));have fi:=AB (fun(s:Nat) (hs:s<n) (ch:f s=true) (he:q.en s=true)=>Zr (seen:=seen) V.out.2 a3.out hs (by rw[aa.out];exact ch) he);have fj:=AB (fun(s:Nat) (hs:s<n) (ch:f s=true)=>X5 (s:=s) V.out.1 V.out.2 cl.out hs (by rw[aa.out];exact ch));rw[aa.out]at dz fj;generalize fk:k.l 0=l0 at *;have dq:=AB fk;clear fk fh;have HX:=AB (fun(W:World) (hb:Below wr.heap.size wr W)=>HA.call hb);obtain⟨W0,f6⟩:∃W0,W0=wr:=⟨_,rfl⟩
   subst f6;have LA:Below W0.heap.size W0 (W0.drew.alloc (.cells #[.string ⟨#[]⟩,.slice none 0 0,.slice none 0 0,.slice none 0 0,.slice none 0 0] 27)):=((AH W0.heap.size W0).drew).alloc (AD _) _;have HG:=BL.new W0.drew 27 #[.string ⟨#[]⟩,.slice none 0 0,.slice none 0 0,.slice none 0 0,.slice none 0 0];rw[show W0.drew.heap.size=W0.heap.size from rfl]at HG;have q0:=HG.cell 0;have q1:=HG.cell 1;have q2:=HG.cell 2;have q3:=HG.cell 3;have q4:=HG.cell 4;have f0:=HG.frozen 0;have f1:=HG.frozen 1;have f2:=HG.frozen 2;have f3:=HG.frozen 3;have f4:=HG.frozen 4;have hA0:=HA.bel.size;have cp:=HA.res.lt;clear HA HG;go_wp2;refine Cd 8 [0,1,2,3,4,5,6] [7] (by kernel_rfl) (by kernel_rfl) rfl (by kernel_rfl) ?_;simp only[CV,A_,BA,Az,BI]
   repeat (go_big_quiet_step (fail))
   refine Ah ?_;refine BU rfl (fun KK a7=>?_);go_simp;refine a7 _ _ (A5 LA) ?_;clear a7 KK;refine Cc ?_;clear b0 e0 y0 y1;go_wp2;refine Be ?_;go_wp2;clear q0 q1 q2 q3 q4 f0 f1 f2 f3 f4;go_loopw [72] (fun i wq=>∃(s:Nat) (vN vO vE vT:Value) (nv ov:List Value) (N:List (List Int)) (O:List (List ByteArray)) (E:List Bool) (T:List ByteArray),s<=n/\i=.int .i64 (s:Int)/\SqB W0 wq W0.heap.size (fr++l0) vN vO vE vT nv ov N O E T/\Gr q k f n s N O E T/\Im q k f n s) (fun i _=>n-(intOf i).toNat)
   case atStart=>exact⟨0,Bf,Bf,Bf,Bf,[],[],[],[],[],[],AN _,rfl,X6 (BL.new W0 27 #[.string (fr++l0),Bf,Bf,Bf,Bf]) (AD _) (((AH W0.heap.size W0).alloc (AD _) (.cells #[.string (fr++l0),Bf,Bf,Bf,Bf] 27)).drew),Gr.start,Im.start⟩
   case round=>
    clear LA;obtain⟨s,vN,vO,vE,vT,nv,ov,N,O,E,T,hs,rfl,HB,hR,hS⟩:=hrel;obtain⟨An,cn,rfl,gq,gr,_⟩:=BH HB.oN;obtain⟨Ao,co,rfl,gs,gt,_⟩:=BH HB.oO;obtain⟨Ae,ce,rfl,gu,gv,_⟩:=BH HB.oE;obtain⟨At,ct,rfl,gw,gx,_⟩:=BH HB.oT;have d5:=Ok f s;have G:=AB (show N.length<=1024/\O.length<=1024/\E.length<=1024/\T.length<=1024 from by obtain⟨gy,gz,g5,g6⟩:=hR.len;omega);have C:=HX.out wr HB.bel;have g7:=C.bel.size;by_cases x:s<n
    .have fz:(0:Int)<=(s:Int):=by omega
     have f5:(s:Int)<(n:Int):=by omega
     have u1:=(C.p.cell s).trans (IE _ x);rcases a8:f s with _|_
     .rw [Vu a8]at u1
      have cq:=AB (hR.skip a8);have dr:=AB (hS.skip a8);have f7:=AB HB;clear hR hS HB C a8;go_wp2;go_roundw
      case rel=>exact⟨s+1,_,_,_,_,_,_,_,_,_,_,by omega,by go_num,f7.out,cq.out,dr.out⟩
      case measure=>simp[intOf];omega
     .rw [Wt x a8]at u1
      have g8:¬(((GS f s).length:Nat):Int)<0:=by omega
      have ht:=AB (ev.out wr C.bel s x k (H7 f n) gL gP C.l C.p ex.out (fun z _=>Vv f n z p1) (dz.out s x a8));obtain⟨g3,o3,rfl,g9,x3⟩:=C6 (d:=false) er.out s x;obtain⟨g4,o4,rfl,ha,x4⟩:=C6 (d:=ByteArray.empty) es.out.1 s x;rw[show q.ends.getD s false=q.en s from rfl]at x3;rw[show q.tail.getD s ByteArray.empty=q.tl s from rfl]at x4;have b0:=C.box.cell 0;have b1:=C.box.cell 1;have b2:=C.box.cell 2;have b3:=C.box.cell 3;have b4:=C.box.cell 4;have fl:=AB hR;have f8:=AB hS;have ds:=AB a8;have f9:=AB (own_lt HB.oT);clear hR hS a8;generalize (GS f s).length=un at *
      go_wp2_with fail
      refine ht.out.mono ?_;clear ht b0 b1 b2 b3 b4 u1;rintro e w5 ⟨d7,h5⟩;have cr:=HB.call d7;have y:=C.call d7;rcases h5 with⟨cs,rfl⟩|⟨gN,gO,rfl,fm,fn,hc,hd,d0⟩
      .have ga:=AB (fj.out s x ds.out cs)
       have r0:=y.res.cell 0;have r1:=y.res.cell 1;have r2:=y.res.cell 2;have r3:=y.res.cell 3;have r4:=y.res.cell 4;have g0:=y.res.frozen 0;have g1:=y.res.frozen 1;have g2:=y.res.frozen 2;have hg:=y.res.frozen 3;have hh:=y.res.frozen 4;have d1:=AB (AI y.res y.bel);clear y cr HB C cs
       go_wp2_with fail
       exact LC rfl rfl (Ec d1.out.1 _ _ _ _ _) (cc.out _ (DR d1.out.2 (by omega) _ _ _ _ _) k a3.out 2 (.inr ⟨rfl,ga.out⟩))
      .have dr:=AB (f8.out.put d0)
       have gm:=HB.bel.size;have cd:Jf W0.heap.size w5 3 (.slice (some ⟨gN,0,none⟩) 256 256) ((Ua q (H7 f n) s).map (Value.int .i64)):=SG fm (by omega);have cf:Jf W0.heap.size w5 9 (.slice (some ⟨gO,0,none⟩) 256 256) ((Ub q k (H7 f n) s).map Value.string):=X4 fn (by omega);have dt:∀g,(Value.slice At T.length ct).ownBlock=some g->(Value.slice (some ⟨gO,0,none⟩) 256 256).ownBlock≠some g:=fun g e e2=>by have:=(f9.out g e).2;have e9:gO=g:=AL e2;omega
       have b3:=y.box.cell 3;have e3:=(y.bel.cell (p:=⟨g3,o3+s,none⟩) (by show g3<_;omega)).trans x3;clear HB C d7 fm fn d0;rcases ar:q.en s with _|_
       .have cq:=AB (show Gr q k f n (s+1) (N++[Ua q (H7 f n) s]) (O++[Ub q k (H7 f n) s]) (E++[false]) (T++[ByteArray.mk #[]])by
          have:=fl.out.put ds.out;rw[ar,show L7 q k s=ByteArray.mk #[]by unfold L7;rw[ar];rfl]at this;exact this)
        rw[ar]at e3 x3;clear ar;go_upto_region 26 with(fail)
        clear b3 e3 y;obtain⟨w6,du⟩:∃w6,w6=w5:=⟨_,rfl⟩
        subst du;have au:=cr;have cu:=cd;have cv:=cf;clear cr cd cf;obtain⟨iN,cw,cx,cy,cz⟩:=BK MV;have qN:=au.box.cell 1;have fN:=au.box.frozen 1;have av:=(AH w6.heap.size w6).alloc (AD _) (.cells #[.slice (some ⟨gN,0,none⟩) 256 256] 55);have ac:=au.call av;have aw:=ac.oN;have D:=ac.box;have M:=AV aw D (by decide);have a9:=Bg w6 [.slice (some ⟨gN,0,none⟩) 256 256] 55 1 1 rfl;have ba:N.length+1<=maxLen:=by have:=G.out;unfold maxLen;omega
        have bb:(N.length+1)*24<=140737488355328:=by have:=G.out;omega
        have ad:∀u∈[Value.slice (some ⟨gN,0,none⟩) 256 256],u.oneCell'=true:=fun u hu=>by rw[AM]at hu;subst hu;rfl
        have bc:=ac.bel.size;have bd:=cu.call av;have ae:=cv.call av;clear au cu cv;go_upto_region 27 with(at_builtin;refine Ba _ rfl _ _ 22 rfl W0.heap.size 55 iN _ 1 24 Tryz.underlying22 cw cx cy cz rfl (by decide) _ _ _ rfl aw _ (some ⟨w6.heap.size,0,none⟩) 1 1 [.slice (some ⟨gN,0,none⟩) 256 256] rfl a9 ad ba bb bc ?_;intro gb wN H A bv;obtain⟨c0,c5,rfl,_,_,_⟩:=BH H;have d8:=(BM D A M).cell 1;have d9:=(BM D A M).frozen 1)
        have ax:=ac.putN A H bd;have be:=(ae.kept A (ae.ne_own aw (by decide))).set (BM D A M) (by decide) 1 (.slice c0 (N.length+1) c5);clear qN fN d8 d9 av D M a9 ad ba bb bc aw H A bv ac bd ae cw cx cy cz;generalize wN.setCell ⟨W0.heap.size,1,none⟩ (.slice c0 (N.length+1) c5)=w7 at *;obtain⟨iO,c6,c7,c8,c9⟩:=BK Kt;have qO:=ax.box.cell 2;have fO:=ax.box.frozen 2;have bw:=(AH w7.heap.size w7).alloc (AD _) (.cells #[.slice (some ⟨gO,0,none⟩) 256 256] 25);have af:=ax.call bw;have bx:=af.oO;have P:=af.box;have ag:=AV bx P (by decide);have bf:=Bg w7 [.slice (some ⟨gO,0,none⟩) 256 256] 25 1 1 rfl;have bg:O.length+1<=maxLen:=by have:=G.out;unfold maxLen;omega
        have bh:(O.length+1)*24<=140737488355328:=by have:=G.out;omega
        have ah:∀u∈[Value.slice (some ⟨gO,0,none⟩) 256 256],u.oneCell'=true:=fun u hu=>by rw[AM]at hu;subst hu;rfl
        have bi:=af.bel.size;have bj:=be.call bw;clear ax be;go_upto_region 28 with(at_builtin;refine Ba _ rfl _ _ 23 rfl W0.heap.size 25 iO _ 1 24 Tryz.underlying23 c6 c7 c8 c9 rfl (by decide) _ _ _ rfl bx _ (some ⟨w7.heap.size,0,none⟩) 1 1 [.slice (some ⟨gO,0,none⟩) 256 256] rfl bf ah bg bh bi ?_;intro gc wO I Q bz;obtain⟨ea,eb,rfl,_,_,_⟩:=BH I;have ec:=(BM P Q ag).cell 2;have ed:=(BM P Q ag).frozen 2)
        have ay:=af.putO Q I bj dt;clear qO fO ec ed bw P ag bf ah bg bh bi bx I Q bz af bj dt c6 c7 c8 c9;generalize wO.setCell ⟨W0.heap.size,2,none⟩ (.slice ea (O.length+1) eb)=w8 at *;obtain⟨iE,da,db,dc,dd⟩:=BK IL;have b5:=HX.out w8 ay.bel;have b3:=b5.box.cell 3;have e3:=(b5.bel.cell (p:=⟨g3,o3+s,none⟩) (by show g3<_;omega)).trans x3;have qE:=ay.box.cell 3;have z1:=AF b3;have z2:=AF e3;have z3:=AF qE;have b6:Below w8.heap.size w8 (w8.drew.alloc (.cells #[.bool false] 4)):=((AH w8.heap.size w8).drew).alloc (AD _) _;have ai:=ay.call b6;have b7:=ai.oE;have F:=ai.box;have fE:=F.frozen 3;have aj:=AV b7 F (by decide);have bk:=Bg w8.drew [.bool false] 4 1 1 rfl;have bl:E.length+1<=maxLen:=by have:=G.out;unfold maxLen;omega
        have bm:(E.length+1)*1<=140737488355328:=by have:=G.out;omega
        have ak:∀u∈[Value.bool false],u.oneCell'=true:=fun u hu=>by rw[AM]at hu;subst hu;rfl
        have bn:=ai.bel.size;clear ay b5;go_wp2;refine Cd 8 [0,1,2,3,4,5,6] [7] (by kernel_rfl) (by kernel_rfl) rfl (by kernel_rfl) ?_;simp only[CV,A_,BA,Az,BI]
        repeat (go_big_quiet_step (fail))
        refine Ah ?_;refine BU rfl (fun KK a7=>?_);go_simp;refine a7 _ _ (A5 b6) ?_;clear a7 KK;refine Cc ?_;clear z1 z2 z3 b3 e3 qE
        go_wp2_with (at_builtin;refine Ba _ rfl _ _ 24 rfl W0.heap.size 4 iE _ 1 1 Tryz.underlying24 da db dc dd rfl (by decide) _ _ _ rfl b7 _ (some ⟨w8.heap.size,0,none⟩) 1 1 [.bool false] rfl bk ak bl bm bn ?_;intro gd wE J R b8;obtain⟨ee,ef,rfl,_,_,_⟩:=BH J;have eg:=(BM F R aj).cell 3;have eh:=(BM F R aj).frozen 3)
        refine Be ?_;go_upto_region 29 with(fail)
        have K:=ai.putE R J;clear fE eg eh b6 F aj bk ak bl bm bn b7 J R b8 ai da db dc dd;generalize wE.setCell ⟨W0.heap.size,3,none⟩ (.slice ee (E.length+1) ef)=w9 at *;obtain⟨iT,de,df,dg,dh⟩:=BK GI;have qT:=K.box.cell 4;have fT:=K.box.frozen 4;have di:=(AH w9.heap.size w9).alloc (AD _) (.cells #[.string (ByteArray.mk #[])] 9);have al:=K.call di;have b9:=al.oT;have S:=al.box;have am:=AV b9 S (by decide);have bo:=Bg w9 [.string (ByteArray.mk #[])] 9 1 1 rfl;have bp:T.length+1<=maxLen:=by have:=G.out;unfold maxLen;omega
        have bq:(T.length+1)*16<=140737488355328:=by have:=G.out;omega
        have an:∀u∈[Value.string (ByteArray.mk #[])],u.oneCell'=true:=fun u hu=>by rw[AM]at hu;subst hu;rfl
        have br:=al.bel.size;clear K
        go_wp2_with (at_builtin;refine Ba _ rfl _ _ 25 rfl W0.heap.size 9 iT _ 1 16 Tryz.underlying25 de df dg dh rfl (by decide) _ _ _ rfl b9 _ (some ⟨w9.heap.size,0,none⟩) 1 1 [.string (ByteArray.mk #[])] rfl bo an bp bq br ?_;intro ge wT L U ao;obtain⟨gf,gg,rfl,_,_,_⟩:=BH L;have ei:=(BM S U am).cell 4;have ej:=(BM S U am).frozen 4)
        have dj:=AB (al.putT U L ao);clear qT fT ei ej di S am bo an bp bq br b9 L U ao al de df dg dh;go_roundw
        case rel=>exact⟨s+1,_,_,_,_,_,_,_,_,_,_,by omega,by go_num,dj.out,cq.out,dr.out⟩
        case measure=>simp[intOf];omega
       .have hcut:=fi.out s x ds.out ar
        have cq:=AB (show Gr q k f n (s+1) (N++[Ua q (H7 f n) s]) (O++[Ub q k (H7 f n) s]) (E++[true]) (T++[(q.tl s).extract (k.l s).size (q.tl s).size])by have:=fl.out.put ds.out;rw[ar,show L7 q k s=(q.tl s).extract (k.l s).size (q.tl s).size by unfold L7;rw[AU ar]]at this;exact this);rw[ar]at e3 x3;have b4:=y.box.cell 4;have e4:=(y.bel.cell (p:=⟨g4,o4+s,none⟩) (by show g4<_;omega)).trans x4;have e5:w5.cell? ⟨gL,s,none⟩=some (.string (k.l s)):=(y.l.cell s).trans (by unfold kL;rw[CQ,IH _ x]);have hj:(q.tl s).size<=maxLen:=by have:=(FQ V.out.1 (s:=s) (b:=0) (by rw[V.out.2];exact x) (by decide)).2.2.2.2.1;unfold maxLen;omega
        have z1:=AF b4;have z2:=AF e4;have z3:=AF e5;have hk:(((k.l s).size:Nat):Int)<=(((q.tl s).size:Nat):Int):=by omega
        clear ar y;generalize k.l s=ls at *;generalize q.tl s=tl at *;go_wp2;refine Au (by kernel_rfl) (by kernel_rfl) ?_
        repeat (go_big_quiet_step (fail))
        refine Ah ?_;intro w6 du;have dv:=Bu du;have au:=cr.call dv;have cu:=cd.call dv;have cv:=cf.call dv;clear cr cd cf du dv z1 z2 z3 b3 b4 e3 e4 e5;go_upto_region 26 with(fail)
        generalize tl.extract ls.size tl.size=xx at *;obtain⟨iN,cw,cx,cy,cz⟩:=BK MV;have qN:=au.box.cell 1;have fN:=au.box.frozen 1;have av:=(AH w6.heap.size w6).alloc (AD _) (.cells #[.slice (some ⟨gN,0,none⟩) 256 256] 55);have ac:=au.call av;have aw:=ac.oN;have D:=ac.box;have M:=AV aw D (by decide);have a9:=Bg w6 [.slice (some ⟨gN,0,none⟩) 256 256] 55 1 1 rfl;have ba:N.length+1<=maxLen:=by have:=G.out;unfold maxLen;omega
        have bb:(N.length+1)*24<=140737488355328:=by have:=G.out;omega
        have ad:∀u∈[Value.slice (some ⟨gN,0,none⟩) 256 256],u.oneCell'=true:=fun u hu=>by rw[AM]at hu;subst hu;rfl
        have bc:=ac.bel.size;have bd:=cu.call av;have ae:=cv.call av;clear au cu cv;go_upto_region 27 with(at_builtin;refine Ba _ rfl _ _ 22 rfl W0.heap.size 55 iN _ 1 24 Tryz.underlying22 cw cx cy cz rfl (by decide) _ _ _ rfl aw _ (some ⟨w6.heap.size,0,none⟩) 1 1 [.slice (some ⟨gN,0,none⟩) 256 256] rfl a9 ad ba bb bc ?_;intro gb wN H A bv;obtain⟨c0,c5,rfl,_,_,_⟩:=BH H;have d8:=(BM D A M).cell 1;have d9:=(BM D A M).frozen 1)
        have ax:=ac.putN A H bd;have be:=(ae.kept A (ae.ne_own aw (by decide))).set (BM D A M) (by decide) 1 (.slice c0 (N.length+1) c5);clear qN fN d8 d9 av D M a9 ad ba bb bc aw H A bv ac bd ae cw cx cy cz;generalize wN.setCell ⟨W0.heap.size,1,none⟩ (.slice c0 (N.length+1) c5)=w7 at *;obtain⟨iO,c6,c7,c8,c9⟩:=BK Kt;have qO:=ax.box.cell 2;have fO:=ax.box.frozen 2;have bw:=(AH w7.heap.size w7).alloc (AD _) (.cells #[.slice (some ⟨gO,0,none⟩) 256 256] 25);have af:=ax.call bw;have bx:=af.oO;have P:=af.box;have ag:=AV bx P (by decide);have bf:=Bg w7 [.slice (some ⟨gO,0,none⟩) 256 256] 25 1 1 rfl;have bg:O.length+1<=maxLen:=by have:=G.out;unfold maxLen;omega
        have bh:(O.length+1)*24<=140737488355328:=by have:=G.out;omega
        have ah:∀u∈[Value.slice (some ⟨gO,0,none⟩) 256 256],u.oneCell'=true:=fun u hu=>by rw[AM]at hu;subst hu;rfl
        have bi:=af.bel.size;have bj:=be.call bw;clear ax be;go_upto_region 28 with(at_builtin;refine Ba _ rfl _ _ 23 rfl W0.heap.size 25 iO _ 1 24 Tryz.underlying23 c6 c7 c8 c9 rfl (by decide) _ _ _ rfl bx _ (some ⟨w7.heap.size,0,none⟩) 1 1 [.slice (some ⟨gO,0,none⟩) 256 256] rfl bf ah bg bh bi ?_;intro gc wO I Q bz;obtain⟨ea,eb,rfl,_,_,_⟩:=BH I;have ec:=(BM P Q ag).cell 2;have ed:=(BM P Q ag).frozen 2)
        have ay:=af.putO Q I bj dt;clear qO fO ec ed bw P ag bf ah bg bh bi bx I Q bz af bj dt c6 c7 c8 c9;generalize wO.setCell ⟨W0.heap.size,2,none⟩ (.slice ea (O.length+1) eb)=w8 at *;obtain⟨iE,da,db,dc,dd⟩:=BK IL;have b5:=HX.out w8 ay.bel;have b3:=b5.box.cell 3;have e3:=(b5.bel.cell (p:=⟨g3,o3+s,none⟩) (by show g3<_;omega)).trans x3;have qE:=ay.box.cell 3;have z1:=AF b3;have z2:=AF e3;have z3:=AF qE;have b6:Below w8.heap.size w8 (w8.drew.alloc (.cells #[.bool true] 4)):=((AH w8.heap.size w8).drew).alloc (AD _) _;have ai:=ay.call b6;have b7:=ai.oE;have F:=ai.box;have fE:=F.frozen 3;have aj:=AV b7 F (by decide);have bk:=Bg w8.drew [.bool true] 4 1 1 rfl;have bl:E.length+1<=maxLen:=by have:=G.out;unfold maxLen;omega
        have bm:(E.length+1)*1<=140737488355328:=by have:=G.out;omega
        have ak:∀u∈[Value.bool true],u.oneCell'=true:=fun u hu=>by rw[AM]at hu;subst hu;rfl
        have bn:=ai.bel.size;clear ay b5;go_wp2;refine Cd 8 [0,1,2,3,4,5,6] [7] (by kernel_rfl) (by kernel_rfl) rfl (by kernel_rfl) ?_;simp only[CV,A_,BA,Az,BI]
        repeat (go_big_quiet_step (fail))
        refine Ah ?_;refine BU rfl (fun KK a7=>?_);go_simp;refine a7 _ _ (A5 b6) ?_;clear a7 KK;refine Cc ?_;clear z1 z2 z3 b3 e3 qE
        go_wp2_with (at_builtin;refine Ba _ rfl _ _ 24 rfl W0.heap.size 4 iE _ 1 1 Tryz.underlying24 da db dc dd rfl (by decide) _ _ _ rfl b7 _ (some ⟨w8.heap.size,0,none⟩) 1 1 [.bool true] rfl bk ak bl bm bn ?_;intro gd wE J R b8;obtain⟨ee,ef,rfl,_,_,_⟩:=BH J;have eg:=(BM F R aj).cell 3;have eh:=(BM F R aj).frozen 3)
        refine Be ?_;go_upto_region 29 with(fail)
        have K:=ai.putE R J;clear fE eg eh b6 F aj bk ak bl bm bn b7 J R b8 ai da db dc dd;generalize wE.setCell ⟨W0.heap.size,3,none⟩ (.slice ee (E.length+1) ef)=w9 at *;obtain⟨iT,de,df,dg,dh⟩:=BK GI;have qT:=K.box.cell 4;have fT:=K.box.frozen 4;have di:=(AH w9.heap.size w9).alloc (AD _) (.cells #[.string xx] 9);have al:=K.call di;have b9:=al.oT;have S:=al.box;have am:=AV b9 S (by decide);have bo:=Bg w9 [.string xx] 9 1 1 rfl;have bp:T.length+1<=maxLen:=by have:=G.out;unfold maxLen;omega
        have bq:(T.length+1)*16<=140737488355328:=by have:=G.out;omega
        have an:∀u∈[Value.string xx],u.oneCell'=true:=fun u hu=>by rw[AM]at hu;subst hu;rfl
        have br:=al.bel.size;clear K
        go_wp2_with (at_builtin;refine Ba _ rfl _ _ 25 rfl W0.heap.size 9 iT _ 1 16 Tryz.underlying25 de df dg dh rfl (by decide) _ _ _ rfl b9 _ (some ⟨w9.heap.size,0,none⟩) 1 1 [.string xx] rfl bo an bp bq br ?_;intro ge wT L U ao;obtain⟨gf,gg,rfl,_,_,_⟩:=BH L;have ei:=(BM S U am).cell 4;have ej:=(BM S U am).frozen 4)
        have dj:=AB (al.putT U L ao);clear qT fT ei ej di S am bo an bp bq br b9 L U ao al de df dg dh;go_roundw
        case rel=>exact⟨s+1,_,_,_,_,_,_,_,_,_,_,by omega,by go_num,dj.out,cq.out,dr.out⟩
        case measure=>simp[intOf];omega
    .obtain rfl:n=s:=by omega
     have ci:=C.res;have ek:=Vx V.out.1 V.out.2 cl.out (by rw[dm.out,dq.out];omega) (by rw[aa.out];exact hS);rw[aa.out,hR.seq,dm.out,dq.out]at ek;have hq:=HB.seqNew (m:=1024) (AD _) ek;have el:=Xx V.out.1 V.out.2 a3.out cl.out;rw[aa.out,hR.seq,dm.out,dq.out]at el;have Y:=Ii ⟨fr++l0,N,O,E,T⟩ _ wr.heap.size wr hq.at_ (AD _);have em:Gp ⟨fr++l0,N,O,E,T⟩=false->Qs q k:=fun Z=>.inr ⟨e1.out,by apply DC;intro h9;have:=X1o V.out.1 V.out.2 cl.out (by rw[Cg];omega) (by rw[aa.out];exact hS);rw[aa.out,hR.seq,dm.out,dq.out,Z]at this;cases this⟩
     have q0:=HB.box.cell 0;have q1:=HB.box.cell 1;have q2:=HB.box.cell 2;have q3:=HB.box.cell 3;have q4:=HB.box.cell 4;have ca:=AB (fun(W:World) (hb:Below w.heap.size w W) (v:Value) (hq:Eb w.heap.size W ⟨fr++l0,N,O,E,T⟩ v) (Z:Gp ⟨fr++l0,N,O,E,T⟩=true)=>d2.out W hb k a3.out v _ _ hq Z el);have dw:=C.bel;have HQ:=AB hq;have eo:=AB HB.box;clear ek hq el C HB hS hR d6;rcases Z:Gp ⟨fr++l0,N,O,E,T⟩with _|_
     .rw [Z]at Y
      have gh:=AB (em Z);have HC:=AB Y;have gn:O1 false=1:=rfl;clear em Z Y ca HQ eo;generalize fr++l0=fx at *;generalize N.length=n1 at *;generalize O.length=n2 at *;generalize E.length=n3 at *;generalize T.length=n4 at *
      go_wp2_with fail
      refine HC.out.mono ?_;clear q0 q1 q2 q3 q4;rintro e w9 ⟨rfl,cb⟩;have o:=ci.below cb ci.lt;have dk:=dw.trans (cb.mono dw.size);have r0:=o.cell 0;have r1:=o.cell 1;have r2:=o.cell 2;have r3:=o.cell 3;have r4:=o.cell 4;have g0:=o.frozen 0;have g1:=o.frozen 1;have g2:=o.frozen 2;have g3:=o.frozen 3;have g4:=o.frozen 4;clear ci
      go_wp2_with fail
      exact LC rfl rfl (Ec o _ _ _ _ _) (cc.out _ (DR dk (by omega) _ _ _ _ _) k a3.out 2 (.inr ⟨rfl,gh.out⟩))
     .rw [Z]at Y
      have HC:=AB Y;have ep:=AB (fun(W:World) (hb:Below w.heap.size w W) (v:Value) (hq:Eb w.heap.size W ⟨fr++l0,N,O,E,T⟩ v)=>ca.out W hb v hq Z);clear em Z Y ca;generalize d6:fr++l0=fx at *;generalize N.length=n1 at *;generalize O.length=n2 at *;generalize E.length=n3 at *;generalize T.length=n4 at *;clear d6
      go_wp2_with fail
      refine HC.out.mono ?_;clear q0 q1 q2 q3 q4;rintro e w9 ⟨rfl,cb⟩;have o:=ci.below cb ci.lt;have dk:=dw.trans (cb.mono dw.size);have K:=eo.out.below cb eo.out.lt;have gi:=AB (HQ.out.below cb);have q0:=K.cell 0;have q1:=K.cell 1;have q2:=K.cell 2;have q3:=K.cell 3;have q4:=K.cell 4;have r0:=o.cell 0;have r1:=o.cell 1;have r2:=o.cell 2;have r3:=o.cell 3;have r4:=o.cell 4;have g0:=o.frozen 0;have g1:=o.frozen 1;have g2:=o.frozen 2;have g3:=o.frozen 3;have g4:=o.frozen 4;clear ci
      go_wp2_with fail
      exact LC rfl rfl (Ec o _ _ _ _ _) (ep.out _ (DR dk (by omega) _ _ _ _ _) _ ((((((gi.out.setCell (p:=⟨w.heap.size+1,0,none⟩) cp _).setCell (p:=⟨w.heap.size+1,1,none⟩) cp _).setCell (p:=⟨w.heap.size+1,2,none⟩) cp _).setCell (p:=⟨w.heap.size+1,3,none⟩) cp _).setCell (p:=⟨w.heap.size+1,4,none⟩) cp _).mono (by omega)))
end
end Go.Proofs.YtcondkihpmmnnaaGreatDoor
