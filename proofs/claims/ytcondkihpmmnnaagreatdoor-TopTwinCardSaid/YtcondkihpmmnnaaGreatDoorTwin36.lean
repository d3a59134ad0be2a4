/- Lemmas, part 36 of 50. No condition. -/
import Derived.Test.YtcondkihpmmnnaaGreatDoorTwin33
set_option maxRecDepth 100000
set_option maxHeartbeats 16000000
namespace Go.Proofs.YtcondkihpmmnnaaGreatDoor
section
open Go.RowKit Go.Sort
theorem Q9 (s:St) (h:OU s) (w:World) (e:∀W,Below w.heap.size w W->NT W) :Calls Tryz.prog 124 #[.agg #[.int .u64 (s.a:Int),.int .u64 (s.b:Int),.int .u64 (s.c:Int),.int .u64 (s.d:Int)]] w (C7 (Ou s.m) w):=by obtain⟨f,g,i,j⟩:=St.word_m s h;have:=YX s.m w e;rw[<-f,<-g,<-i,<-j]at this;exact this
theorem Q_ {m:Nat->Bool} {c:Nat} (d:c<256) (h:m c=true):JV m<256/\m (JV m)=true:=by
 obtain⟨h1,h2,h3⟩:=Ip m 256
 have a:Fv m 256<256:=by
  rcases BF (Fv m 256) 256 with b|b
  .exact b
  .rw [h2 c (by omega)]at h;cases h
 exact⟨a,h3 a⟩
theorem Uv {u:Fs} {s:Nat}:0<(EX u.ends s).length↔hasEnd u s:=by
 constructor
 .intro h;have h0:=FK (EX u.ends s) 0 ByteArray.empty h;unfold EX at h0;obtain⟨z,a,_⟩:=Bd.1 h0;exact⟨z,(BV.1 a).1,by simpa using (BV.1 a).2⟩
 .intro h;exact(Ot h).1
theorem X1B {p:Nat->Prop} {w:World} {n:Nat} {A:Option Addr} {l:List Bk} (f:DP p w 3 A n (B_ RS l)) (j:Nat) (k:j<n) :∃g o,A=some ⟨g,o,none⟩/\w.cell? ⟨g,o+j*3,none⟩=some (.int .i64 (l.getD j bk0).fr)/\w.cell? ⟨g,o+j*3+1,none⟩=some (.int .i64 (l.getD j bk0).x)/\w.cell? ⟨g,o+j*3+2,none⟩=some (.int .i64 (l.getD j bk0).y):=by
 obtain⟨B,m⟩:∃B,∀a,A=some a->a.block<B:=by
  rcases A with _|a
  .exact ⟨0,fun a h=>by cases h⟩
  .exact ⟨a.block+1,fun b h=>by injection h with h;rw[h];exact Nat.lt_succ_self _⟩
 have d:Reads w B 3 A n (B_ RS l):=⟨f.1,fun q=>by obtain⟨i,e,_,c⟩:=f.2 q;exact⟨i,e,m i e,c⟩⟩;obtain⟨g,o,e,_,c⟩:=E9 X0e (by decide) d bk0 j k;exact⟨g,o,e,c 0 _ rfl,c 1 _ rfl,c 2 _ rfl⟩
section
variable {L:SrL} {u:Fs} {w:World} {hops0:List Hop} {vR:Value} {row:List Bx} {place:List Int} {tx:ByteArray} {fd:Bool}
theorem X0r (h:SrV L u w hops0 vR row place tx fd) (F:Fit u L.n) (h0:hops0=List.replicate (L.n*L.n) ED) (hT:∀W,Below L.B w W->NT W) :Calls Tryz.prog 105 #[.pointer (some ⟨L.G,0,none⟩)] w (Us L u vR row place tx fd w):=by
 have ba:=F.le;have ee:L.n*L.n<=32*32:=Dl ba ba;have HF:=AB F;have HT:=AB hT;have HB:=AB (YU h F);have bh:=AB (fun(W:World) (l:List Hop) (h1:SrV L u W l vR row place tx fd) (h2:Looked u L.n l) (h3:Below L.B w W) (h4:∀g,g<w.heap.size->g≠L.H->W.heap[g]?=w.heap[g]?)=>show Us L u vR row place tx fd w (.returned (.tuple #[])) W from⟨rfl,l,h1,h2,h3,h4⟩);go_enter Tryz.func105,Tryz.ntmps105
 go_wp2_with fail
 refine HB.out.mono ?_;rintro e X ⟨LB,rows,rfl,b5,b6,ae⟩;have au:LkW L u w X X hops0 vR row place tx fd (.slice none 0 0) []:=⟨h.call ae,fun _ _ _=>rfl,.inl ⟨rfl,rfl⟩,fun g hg _=>ae.block g hg,ae.mono h.hl,AD _,ae.size,h.sz⟩;have b7:Seeds u L.n hops0 [] 0:=by rw[h0];exact Seeds.start
 have HW:=AB (AI au b7);have bi:=AB b6;have bj:=AB b5;have c0:=au.sr.box.cell 0;have c6:=au.sr.box.cell 6;clear h b5 b6 ae au b7 h0 hT HB F;have ef:=AB (show ∀N,N=L.n*L.n->N=L.n*L.n from fun _ e=>e);go_wp2;clear c0 c6;go_loopw [4,23] (fun wv i wr=>∃(k:Nat) (l:List Hop) (vs:List Nat) (vv:Value),vv=wv/\k<=L.n*L.n/\i=.int .i64 (k:Int)/\LkW L u w X wr l vR row place tx fd vv vs/\Seeds u L.n l vs k) (fun _ i _=>L.n*L.n-(intOf i).toNat)
 case atStart=>exact⟨0,_,_,_,rfl,AN _,rfl,HW.out.1,HW.out.2⟩
 case round=>
  clear HW;obtain⟨k,l,vs,vv,rfl,hk,rfl,C,hS⟩:=hrel;have P:=AB hS;clear hS;by_cases af:k<L.n*L.n
  .have db:(0:Int)<=(k:Int):=by omega
   have bk:(k:Int)<((L.n*L.n:Nat):Int):=by omega
   have dc:(k:Int)<(L.n:Int)*(L.n:Int):=by have:=bk;rwa [Dk]at this
   have dd:=Um af;have de:=Un af;have dw:((k / L.n:Nat):Int)<(L.n:Int):=by omega
   have dx:((k%L.n:Nat):Int)<(L.n:Int):=by omega
   have eg:L.n≠0:=by omega
   have dy:(L.n:Int)≠0:=by omega
   have eh:(k:Int).tdiv (L.n:Int)=((k / L.n:Nat):Int):=by rw[Int.tdiv_eq_ediv_of_nonneg (by omega)];rfl
   have ei:(k:Int).tmod (L.n:Int)=((k%L.n:Nat):Int):=by rw[Int.tmod_eq_emod_of_nonneg (by omega)];rfl
   obtain⟨Ax,cx,g1,_,_,_⟩:=C.sr.gE.2 (k / L.n) dd;obtain⟨Ay,cy,g2,_,_,_⟩:=C.sr.gE.2 (k%L.n) de;have b8:=AB (Uv (u:=u) (s:=k / L.n));have b9:=AB (Uv (u:=u) (s:=k%L.n));have r0:=AF (C.sr.box.cell 5);have r1:=AF g1;have r2:=AF g2;clear g1 g2;generalize (EX u.ends (k / L.n)).length=en at *;generalize (EX u.ends (k%L.n)).length=fn at *;generalize ca:k / L.n=kd at *;generalize cc:k%L.n=km at *;have av:=AB (AI ca cc);clear ca cc;rcases B7 en with rfl|df
   .have ag:=AB (P.out.no (fun hh=>by have:=b8.out.2 (by rw[<-av.out.1];exact hh.1);omega))
    go_wp2;refine Au (by kernel_rfl) (by kernel_rfl) ?_
    repeat (go_big_quiet_step (fail))
    refine Ah ?_;intro Y E;have t:=AB (C.call (Bu E));clear E C r0 r1 r2;go_wp2;go_roundw
    case rel=>exact⟨k+1,l,vs,_,rfl,by omega,by go_num,t.out,ag.out⟩
    case measure=>simp[intOf];omega
   .have dz:(0:Int)<(en:Int):=by omega
    rcases B7 fn with rfl|dg
    .have ag:=AB (P.out.no (fun hh=>by have:=b9.out.2 (by rw[<-av.out.2];exact hh.2);omega))
     go_wp2;refine Au (by kernel_rfl) (by kernel_rfl) ?_
     repeat (go_big_quiet_step (fail))
     refine Ah ?_;intro Y E;have t:=AB (C.call (Bu E));clear E C r0 r1 r2;go_wp2;go_roundw
     case rel=>exact⟨k+1,l,vs,_,rfl,by omega,by go_num,t.out,ag.out⟩
     case measure=>simp[intOf];omega
    .have d8:(0:Int)<(fn:Int):=by omega
     have ag:=AB (P.out.yes af (by rw[av.out.1];exact b8.out.1 df) (by rw[av.out.2];exact b9.out.1 dg));have dh:=JS P.out.nd (fun i hi=>Nat.lt_trans ((P.out.mem i).1 hi).1 af);have cd:k<l.length:=by rw[P.out.len];exact af
     go_wp2;refine Au (by kernel_rfl) (by kernel_rfl) ?_
     repeat (go_big_quiet_step (fail))
     refine Ah ?_;intro Y E;have t:=C.call (Bu E);clear E C r0 r1 r2;have c6:=t.sr.box.cell 6;obtain⟨a0,a1,a2,a3,a4⟩:=IZ t.sr.hb k cd;have f0:=t.sr.hb.frozen (k*5);have f1:=t.sr.hb.frozen (k*5+1);have f2:=t.sr.hb.frozen (k*5+2);have f3:=t.sr.hb.frozen (k*5+3);have f4:=t.sr.hb.frozen (k*5+4);have Z:LkW L u w X (((((Y.setCell ⟨L.H,k*5,none⟩ (.bool true)).setCell ⟨L.H,k*5+1,none⟩ (.bool true)).setCell ⟨L.H,k*5+2,none⟩ (.int .i64 0)).setCell ⟨L.H,k*5+3,none⟩ (.int .i64 0)).setCell ⟨L.H,k*5+4,none⟩ (.int .u8 0)) (l.set k hopE) vR row place tx fd _ vs:=t.hop k cd hopE;have bb:=AB Z;clear Z t;generalize l.getD k ED=oh at *;go_upto_region 8 with(fail)
     clear c6 a0 a1 a2 a3 a4 f0 f1 f2 f3 f4;generalize (((((Y.setCell ⟨L.H,k*5,none⟩ (.bool true)).setCell ⟨L.H,k*5+1,none⟩ (.bool true)).setCell ⟨L.H,k*5+2,none⟩ (.int .i64 0)).setCell ⟨L.H,k*5+3,none⟩ (.int .i64 0)).setCell ⟨L.H,k*5+4,none⟩ (.int .u8 0))=W2 at *;have LA:=(AH W2.heap.size W2).alloc (AD _) (.cells #[.int .i64 (k:Int)] 3);have D:=bb.out.call LA;have ah:(W2.alloc (.cells #[.int .i64 (k:Int)] 3)).cell? ⟨W2.heap.size,0,none⟩=some (.int .i64 (k:Int)):=(BL.new W2 3 #[.int .i64 (k:Int)]).cell 0;have ai:=D.q;have aj:=D.z;have h63:vs.length+1<=1000000:=by omega
     clear bb LA
     go_wp2_with (at_builtin;refine La rfl _ _ rfl X.heap.size rfl ai W2.heap.size k rfl ah h63 aj ?_;intro v' w9 ak al)
     have S:=AB (D.push ak al);clear D ak al ai aj ah;go_roundw
     case rel=>exact⟨k+1,_,_,_,rfl,by omega,by go_num,S.out,ag.out⟩
     case measure=>simp[intOf];omega
  .have ce:k=L.n*L.n:=by omega
   have Q:=AB (show Bfs u L.n rows l vs 0 from by have:=P.out;rw[ce]at this;exact this.bfs);have cf:=AB C;obtain⟨A0,d9,ej,ea⟩:=C.q.form;clear P C ce;go_wp2;go_loopw [4] (fun wv wr=>∃(k:Nat) (l:List Hop) (vs:List Nat) (vv:Value),vv=wv/\LkW L u w X wr l vR row place tx fd vv (vs.drop k)/\Bfs u L.n rows l vs k) (fun wv wr=>MY wv+offH wr L.H (L.n*L.n))
   case atStart=>exact⟨0,l,vs,_,rfl,by rw[BI];exact cf.out,Q.out⟩
   case round=>
    clear cf Q;obtain⟨O,l,vs,vv,rfl,C,hB⟩:=hrel;have Q:=AB hB;clear hB;rcases R:vs.drop O with _|⟨i,xs⟩
    .rw [R]at C
     have cg:O=vs.length:=by have h1:=List.drop_eq_nil_iff.1 R;have:=Q.out.le;omega
     have di:=AB (bh.out wr l C.sr ((by have:=Q.out;rw[cg]at this;exact this:Bfs u L.n rows l vs vs.length).looked HF.out bi.out) C.bel C.keep);obtain⟨A,cap,rfl,_⟩:=C.q.form;rw[Co];clear C R cg;go_wp2;go_end0;exact di.out
    .rw [R]at C
     have aw:O<vs.length:=by
      rcases BF O vs.length with h|h
      .exact h
      .rw [Gb h]at R;cases R
     have am:=Ew aw;rw[R]at am;injection am with hi0 hxs1
     have bl:vs.getD O 0=i:=by rw[LP _ _ aw];exact hi0.symm
     have bm:i<L.n*L.n:=Q.out.lt i (by rw[<-bl];exact FK _ _ _ aw);have ch:=AB (Q.out.begin_ aw);have aa:=AB (AI bl hxs1);have hq:=C.q;rcases hq with⟨hq,_⟩|hq
     .cases hq
     obtain⟨g,off,cap,hv,an⟩:=hq.cell;obtain⟨g',eb,ec,cj,ck,bn,ao⟩:=Gv.tail (x:=.int .i64 (i:Int)) (xs:=qV xs) hq;rw[hv]at cj;injection cj with hv1 bo az
     injection hv1 with hv1
     injection hv1 with hv1 hv1b
     subst hv1 hv1b az;have dj:wr.cell? ⟨g,off,none⟩=some (.int .i64 (i:Int)):=an 0 _ rfl;rw[show(qV (i::xs)).length=xs.length+1 from by rw[GK];rfl]at hv;rw[GK]at bn ck ao;subst hv;obtain⟨Ai,ci,cl,_,_,cm⟩:=bj.out.2 i bm;have gI:=(cell_kept (a:=⟨LB,i,none⟩) (C.kp LB bj.out.1.1 bj.out.1.2)).trans cl;have db:(0:Int)<=(i:Int):=by omega
     have bk:(i:Int)<((L.n*L.n:Nat):Int):=by omega
     have dc:(i:Int)<(L.n:Int)*(L.n:Int):=by have:=bk;rwa [Dk]at this
     have dk:=AB (show LkW L u w X wr l vR row place tx fd (.slice (some ⟨g,off+1,none⟩) xs.length (cap-1)) xs from { C with q:=.inr bn });have cn:=AB (fun(e:cap=1)=>show LkW L u w X wr l vR row place tx fd (.slice (some ⟨g,off,none⟩) xs.length 0) xs from { C with q:=.inr (ao e) });have dl:=AB (XD C.sr.hb Q.out.len);have dm:=AB (bi.out.good i bm);have ek:=bi.out.len i bm;have dn:=AB (fun(W:World) (hk:∀g,w.heap.size<=g->g<X.heap.size->W.heap[g]?=X.heap[g]?)=>cm.kept fun k h=>hk k h.1 h.2);clear bn ao an hq C R hi0 hxs1 bl cl cm;generalize co:xs.length=xl at *;have cp:=AB co;clear co;generalize bc:(rows i).length=rl at *;have cq:=AB bc;clear bc;go_wp2
     all_goals
      clear dj gI;go_loopw [4,75] (fun wv r wq=>∃(m:Nat) (o:List Hop) (v:List Nat) (vv:Value),vv=wv/\m<=rl/\r=.int .i64 (m:Int)/\LkW L u w X wq o vR row place tx fd vv (v.drop (O+1))/\Qx u L.n rows o v O m/\v.getD O 0=i /\(v.drop (O+1)).length+KJ (fun j=>(o.getD j ED).live) (L.n*L.n)<=xl+KJ (fun j=>(l.getD j ED).live) (L.n*L.n)) (fun _ r _=>rl-(intOf r).toNat)
      case atStart=>
       first
        | exact⟨0,l,vs,_,rfl,AN _,rfl,by rw[<-aa.out.2];exact dk.out,ch.out,aa.out.1,by rw[<-aa.out.2,cp.out];exact AD _⟩
        | exact⟨0,l,vs,_,rfl,AN _,rfl,by rw[<-aa.out.2];exact cn.out (by omega),ch.out,aa.out.1,by rw[<-aa.out.2,cp.out];exact AD _⟩
      case round=>
       obtain⟨m,o,v,vv,rfl,hm,rfl,C,hB,cr,be⟩:=hrel;have J:=AB hB;have I:=AB (AI cr be);clear hB cr be;by_cases cs:m<rl
       .have el:(0:Int)<=(m:Int):=by omega
        have em:(m:Int)<(rl:Int):=by omega
        have ap:=dm.out _ (FK (rows i) m bk0 (by rw[cq.out];exact cs));obtain⟨gk,ok,rfl,a0,a1,a2⟩:=X1B (dn.out wr C.kp) m cs;generalize ct:(rows i).getD m bk0=bd at *;have cu:=AB ct;clear ct;obtain⟨bf,bx,bz⟩:=bd;have bp:=AB ap;obtain⟨ax,ay,cv,cw,cz,c1,ab⟩:=ap;simp only at ax ay cv cw cz c1 ab a0 a1 a2;obtain⟨f,rfl⟩:∃f:Nat,bf=(f:Int):=⟨bf.toNat,(AT cv).symm⟩
        have a8:f<L.n*L.n:=by omega
        have eo:(f:Int)<(L.n:Int)*(L.n:Int):=by have:=cw;rwa [Dk]at this
        have LA:=(AH wr.heap.size wr).alloc (AD _) (.cells #[.int .i64 (f:Int),.int .i64 bx,.int .i64 bz] 211);have D:=C.call LA;have kb:=BL.new wr 211 #[.int .i64 (f:Int),.int .i64 bx,.int .i64 bz];clear C LA cz c1;go_wp2;clear a0 a1 a2;generalize wr.heap.size=gb at *;generalize (wr.alloc (.cells #[.int .i64 (f:Int),.int .i64 bx,.int .i64 bz] 211))=wa at *;have bq:f<o.length:=by rw[J.out.1.len];exact a8
        obtain⟨z0,z1,z2,z3,z4⟩:=IZ D.sr.hb f bq;have r0:=AF z0;have r6:=AF (D.sr.box.cell 6);have b0:=AF (kb.cell 0);rcases ac:(o.getD f ED).live with _|_
        case true=>
         have dp:=AB (J.out.old (by rw[I.out.1,cu.out];show(f:Int).toNat∈v;rw[BO];exact(J.out.1.live f a8).1 ac));rw[ac]at r0;clear ac z0 z1 z2 z3 z4;refine Au (by kernel_rfl) (by kernel_rfl) ?_
         repeat (go_big_quiet_step (fail))
         refine Ah ?_;intro Y E;have t:=AB (D.call (Bu E));clear E D kb r0 r6 b0;go_wp2;go_roundw
         case rel=>exact⟨m+1,o,v,_,rfl,by omega,by go_num,t.out,dp.out,I.out.1,I.out.2⟩
         case measure=>simp[intOf];omega
        case false=>
         have c2:=AB ac;rw[ac]at r0;clear ac z0 z1 z2 z3 z4;refine Au (by kernel_rfl) (by kernel_rfl) ?_
         repeat (go_big_quiet_step (fail))
         refine Ah ?_;intro Y E;have br:=Bu E;have t:=D.call br;have aq:=kb.below br kb.lt;clear E br D kb r0 r6 b0;have fx:=(HF.out.arcs _ ax.mem).2.2.2.2.2;have fy:=(HF.out.arcs _ ay.mem).2.2.2.2.2;have a9:=t.sr.rdA.reads (B:=L.K) (fun k hk=>hk.1);have dq:u.arcs.length=L.n3:=FE Ds (by decide) a9;obtain⟨x0,x1⟩:=ax;obtain⟨y0,y1⟩:=ay;rw[dq]at x1 y1;obtain⟨xi,rfl⟩:∃i:Nat,bx=(i:Int):=⟨bx.toNat,(AT x0).symm⟩
         obtain⟨yi,rfl⟩:∃k:Nat,bz=(k:Int):=⟨bz.toNat,(AT y0).symm⟩
         obtain⟨ga,oa,eA,ep,a0,a1,a2,a3,a4,a5,a6,a7⟩:=Di a9 xi (by omega);obtain⟨gc,oc,eB,eq,d0,d1,d2,d3,d4,d5,d6,d7⟩:=Di a9 yi (by omega);rw[eA]at eB;injection eB with eB
         injection eB with eB1 eB2
         subst eB1 eB2;have e1:Ex u (xi:Int)=u.arcs.getD xi Cq:=by unfold Ex;rw[BO]
         have e2:Ex u (yi:Int)=u.arcs.getD yi Cq:=by unfold Ex;rw[BO]
         rw[e1]at fx ab;rw[e2]at fy ab;generalize u.arcs.getD xi Cq=x at *;generalize u.arcs.getD yi Cq=y at *;obtain⟨xf,xt,⟨m1,m2,m3,m4⟩,xo,xc⟩:=x;obtain⟨yf,yt,⟨n1,n2,n3,n4⟩,yo,yc⟩:=y;simp only at a0 a1 a2 a3 a4 a5 a6 a7 d0 d1 d2 d3 d4 d5 d6 d7 fx fy ab;obtain⟨cb,c4⟩:=NF _ (St.both_w _ _ fx fy) ab;obtain⟨s1,s2⟩:=Q_ (u8_lt cb) c4;have bs:Y.cell? ⟨L.G,3,none⟩=some (.slice L.A3 L.n3 L.c3):=t.sr.box.cell 3;rw[eA]at bs;have q3:=AF bs;have r2:=AF a2;have r3:=AF a3;have r4:=AF a4;have r5:=AF a5;have t2:=AF d2;have t3:=AF d3;have t4:=AF d4;have t5:=AF d5;have b1:=AF (aq.cell 1);have b2:=AF (aq.cell 2);have bu:=fun d os=>LN ⟨m1,m2,m3,m4⟩ ⟨n1,n2,n3,n4⟩ fx fy (grow (redrawn Y d) os)
         have c5:=t.bel
         have bv:∀d os,Calls Tryz.prog 124 #[.agg #[.int .u64 ((((⟨m1,m2,m3,m4⟩:St).both ⟨n1,n2,n3,n4⟩).a:Nat):Int),.int .u64 ((((⟨m1,m2,m3,m4⟩:St).both ⟨n1,n2,n3,n4⟩).b:Nat):Int),.int .u64 ((((⟨m1,m2,m3,m4⟩:St).both ⟨n1,n2,n3,n4⟩).c:Nat):Int),.int .u64 ((((⟨m1,m2,m3,m4⟩:St).both ⟨n1,n2,n3,n4⟩).d:Nat):Int)]] (grow (redrawn Y d) os)
             (C7 (.tuple #[.int .u8 ((JV ((⟨m1,m2,m3,m4⟩:St).both ⟨n1,n2,n3,n4⟩).m:Nat):Int),.bool true]) (grow (redrawn Y d) os)):=fun d os=>by
          have:=Q9 ((⟨m1,m2,m3,m4⟩:St).both ⟨n1,n2,n3,n4⟩) (St.both_w _ _ fx fy) (grow (redrawn Y d) os) (fun W hb=>HT.out W ((c5.trans ((DN Y d os).mono t.sr.hl)).trans (hb.mono (AK t.sr.hl (DN Y d os).size))));unfold Ou at this;rw[AU s1]at this;exact this
         generalize JV ((⟨m1,m2,m3,m4⟩:St).both ⟨n1,n2,n3,n4⟩).m=sl at *;have dr:=AB s1;generalize (⟨m1,m2,m3,m4⟩:St).both ⟨n1,n2,n3,n4⟩=bt at *;obtain⟨er,es,et,eu⟩:=bt;simp only at bu bv;clear a0 a1 a2 a3 a4 a5 a6 a7 d0 d1 d2 d3 d4 d5 d6 d7 e1 e2 a9 bs c4 s2 ab fx fy c5 s1;go_wp2;refine Au (by kernel_rfl) (by kernel_rfl) ?_
         repeat (go_big_quiet_step ((first|(go_at_call 58;with_reducible exact DY (bu _ _))|(go_at_call 124;with_reducible exact DY (bv _ _)))))
         refine Ah ?_;intro w7 c7;have bw:=Bu c7;have Z:=t.call bw;have ad:=aq.below bw aq.lt;clear c7 bw t aq q3 r2 r3 r4 r5 t2 t3 t4 t5 b1 b2 bu bv;have c6:=AF (Z.sr.box.cell 6);have b0:=AF (ad.cell 0);have b1:=AF (ad.cell 1);have b2:=AF (ad.cell 2);go_wp2;refine Cb 13 (by kernel_rfl) (by kernel_rfl) ?_;simp only[CO,CN,Az,BI]
         repeat (go_big_quiet_step (fail))
         refine Ah ?_;intro w8 c8;have b3:=Bu c8;have M:=Z.call b3;have b4:=ad.below b3 ad.lt;clear c8 b3 Z ad c6 b0 b1 b2;obtain⟨z0,z1,z2,z3,z4⟩:=IZ M.sr.hb f bq;have f0:=M.sr.hb.frozen (f*5);have f1:=M.sr.hb.frozen (f*5+1);have f2:=M.sr.hb.frozen (f*5+2);have f3:=M.sr.hb.frozen (f*5+3);have f4:=M.sr.hb.frozen (f*5+4);have nb:gb≠L.H:=BL.ne_ b4 M.sr.hb (by decide);have S:LkW L u w X (((((w8.setCell ⟨L.H,f*5,none⟩ (.bool true)).setCell ⟨L.H,f*5+1,none⟩ (.bool false)).setCell ⟨L.H,f*5+2,none⟩ (.int .i64 (xi:Int))).setCell ⟨L.H,f*5+3,none⟩ (.int .i64 (yi:Int))).setCell ⟨L.H,f*5+4,none⟩ (.int .u8 (sl:Int))) (o.set f ⟨true,false,(xi:Int),(yi:Int),sl⟩) vR row place tx fd _ (v.drop (O+1)):=M.hop f bq ⟨true,false,(xi:Int),(yi:Int),sl⟩;have ar:=((((b4.far (p:=⟨L.H,f*5,none⟩) nb (.bool true)).far (p:=⟨L.H,f*5+1,none⟩) nb (.bool false)).far (p:=⟨L.H,f*5+2,none⟩) nb (.int .i64 (xi:Int))).far (p:=⟨L.H,f*5+3,none⟩) nb (.int .i64 (yi:Int))).far (p:=⟨L.H,f*5+4,none⟩) nb (.int .u8 (sl:Int));have bg:=AB (AI S ar);clear S ar M b4;generalize o.getD f ED=oh at z0 z1 z2 z3 z4;go_upto_region 19 with(fail)
         clear z0 z1 z2 z3 z4 f0 f1 f2 f3 f4;generalize (((((w8.setCell ⟨L.H,f*5,none⟩ (.bool true)).setCell ⟨L.H,f*5+1,none⟩ (.bool false)).setCell ⟨L.H,f*5+2,none⟩ (.int .i64 (xi:Int))).setCell ⟨L.H,f*5+3,none⟩ (.int .i64 (yi:Int))).setCell ⟨L.H,f*5+4,none⟩ (.int .u8 (sl:Int)))=W2 at *;obtain⟨S,ar⟩:=bg.out;clear bg;have b0:=ar.cell 0;have LA:=(AH W2.heap.size W2).alloc (AD _) (.cells #[.int .i64 (f:Int)] 3);have D:=S.call LA;have ah:(W2.alloc (.cells #[.int .i64 (f:Int)] 3)).cell? ⟨W2.heap.size,0,none⟩=some (.int .i64 (f:Int)):=(BL.new W2 3 #[.int .i64 (f:Int)]).cell 0;have ai:=D.q;have aj:=D.z;have dh:=JS J.out.1.nd J.out.1.lt;have h63:(v.drop (O+1)).length+1<=1000000:=by rw[List.length_drop];omega
         have ds:=J.out.2.1;have T:(v++[f]).drop (O+1)=v.drop (O+1)++[f]:=List.drop_append_of_le_length (by omega);have U:=J.out.new (b:=⟨(f:Int),(xi:Int),(yi:Int)⟩) (by rw[I.out.1];exact cu.out) (by rw[I.out.1];exact bp.out) (show(f:Int).toNat∉v from fun hm=>by rw[BO]at hm;have:=(J.out.1.live f a8).2 hm;rw[c2.out]at this;cases this) dr.out;have U:Qx u L.n rows (o.set f ⟨true,false,(xi:Int),(yi:Int),sl⟩) (v++[f]) O (m+1):=U;have c9:((v++[f]).drop (O+1)).length+KJ (fun j=>((o.set f ⟨true,false,(xi:Int),(yi:Int),sl⟩).getD j ED).live) (L.n*L.n)<=xl+KJ (fun j=>(l.getD j ED).live) (L.n*L.n):=by have h1:=X0j J.out.1.len a8 c2.out ⟨true,false,(xi:Int),(yi:Int),sl⟩ rfl;have h2:=I.out.2;rw[T,AJ,BJ];omega
         have bo:(v++[f]).getD O 0=i:=by rw[FT _ _ _ _ ds];exact I.out.1
         have V:=AB (AI T (AI U (AI bo c9)));clear S LA T U c9 bo ar;generalize v.drop (O+1)=ev at *
         go_wp2_with (at_builtin;refine La rfl _ _ rfl X.heap.size rfl ai W2.heap.size f rfl ah h63 aj ?_;intro v' w9 ak al)
         have da:=AB (D.push ak al);clear D ak al ai aj ah b0;go_roundw
         case rel=>exact⟨m+1,_,_,_,rfl,by omega,by go_num,by rw[V.out.1];exact da.out,V.out.2.1,V.out.2.2.1,V.out.2.2.2⟩
         case measure=>simp[intOf];omega
       .obtain rfl:rl=m:=by omega
        have hD:=AB (J.out.done (by rw[I.out.1,cq.out];exact AD _));have dt:=AB (XD C.sr.hb hD.out.len);obtain⟨A,ed,az,_⟩:=C.q.form;have du:=AB C;have dv:=AB az;clear C az;go_wp2;go_roundw
        case rel=>exact⟨O+1,o,v,_,rfl,du.out,hD.out⟩
        case measure=>rw[dt.out,dl.out,dv.out];have:=I.out.2;simp only[MY];omega
end
end
end Go.Proofs.YtcondkihpmmnnaaGreatDoor
