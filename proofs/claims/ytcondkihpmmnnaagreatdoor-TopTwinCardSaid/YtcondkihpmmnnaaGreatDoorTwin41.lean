/- Lemmas, part 41 of 50. No condition. -/
import Derived.Test.YtcondkihpmmnnaaGreatDoorTwin39
set_option maxRecDepth 100000
set_option maxHeartbeats 16000000
namespace Go.Proofs.YtcondkihpmmnnaaGreatDoor
section
open Go.RowKit Go.Sort
section
variable {L:SrL} {u:Fs} {w:World} {hops:List Hop} {vR:Value} {row:List Bx} {place:List Int} {tx:ByteArray} {fd:Bool}
theorem Uw (h:SrV L u w hops vR row place tx fd) (F:Fit u L.n) (K:Looked u L.n hops) (S:Srch u L.n row place fd) (x:Bx) (X:FitBx u L.n row x) :Calls Tryz.prog 106 #[.pointer (some ⟨L.G,0,none⟩),.agg (RR x).toArray] w (IF L u hops vR row fd x w):=by
 obtain⟨A0,c0,rfl,_,_,_⟩:=BH h.oR;have cz:=F.le;have e9:L.n*L.n<=32*32:=Dl cz cz;have fe:=S.short;have c4:=L8 X.p.1 X.p.2 X.q.1 X.q.2;have HF:=AB F;have HK:=AB K;have ab:=AB S;have f:=AB X;have HS:=AB (fun(W:World) (hb:Below w.heap.size w W)=>h.call hb);have v:=AB (fun(W:World) (hb:Below w.heap.size w W)=>SrStay.of_below (L:=L) (vR:=.slice A0 row.length c0) h.hl hb);have A:=AB (fun(W:World) (c5:Value) (a1:List Bx) (av:List Int) (dy:ByteArray) (bs:Bool) (h1:SrV L u W hops c5 a1 av dy bs) (h2:Srch u L.n a1 av bs) (h3:SrStay L (.slice A0 row.length c0) c5 w W) (h4:row <+: a1) (h5:fd=true->bs=true) (h6:bs=false->KM u x.p x.q->Has a1 x.p x.q (bl x.a) (bl x.b))=>show IF L u hops (.slice A0 row.length c0) row fd x w (.returned (.tuple #[])) W from⟨rfl,c5,a1,av,dy,bs,h1,h2,h3,h4,h5,h6⟩);have c1:=AB (fun(W:World) (hb:Below w.heap.size w W)=>Oo (h.call hb) x.p x.q ⟨X.p.1,by have:=X.p.2;omega⟩ ⟨X.q.1,by have:=X.q.2;omega⟩ (by omega));have be:=AB (fun(W:World) (hb:Below w.heap.size w W) (hl:(hops.getD (ix L.n x.p x.q) ED).live=true)=>X0q (h.call hb) F K x.p x.q X.p X.q hl);have a2:=AB (fun(W:World) (hb:Below w.heap.size w W) (y:Bx) (hy:-1<=y.fr/\y.fr<row.length/\y.c<256)=>X1x (h.call hb) y hy S.down (by omega));have ae:=AB (fun(W:World) (hb:Below w.heap.size w W) (t:ByteArray)=>X0h (h.call hb) t);obtain⟨p,q,a,b,M,O⟩:=x;simp only at c4 c1 be;have cs:=TU (N:=L.n) X.p.1 X.q.1;simp only at cs;show Calls Tryz.prog 106 #[.pointer (some ⟨L.G,0,none⟩),.agg #[.int .i64 p,.int .i64 q,.string a,.string b,.int .i64 M,.int .u8 (O:Int)]] w _;have K0:=BL.new w 197 #[.int .i64 p,.int .i64 q,.string a,.string b,.int .i64 M,.int .u8 (O:Int)];have L0:=(AH w.heap.size w).alloc (AD _) (.cells #[.int .i64 p,.int .i64 q,.string a,.string b,.int .i64 M,.int .u8 (O:Int)] 197);have KV:=BL.new (w.alloc (.cells #[.int .i64 p,.int .i64 q,.string a,.string b,.int .i64 M,.int .u8 (O:Int)] 197)) 195 #[.int .i64 p,.int .i64 q,.string a,.string b];have LV:=L0.alloc L0.size (.cells #[.int .i64 p,.int .i64 q,.string a,.string b] 195);have da:=K0.alloc (.cells #[.int .i64 p,.int .i64 q,.string a,.string b] 195);have c2:(w.alloc (.cells #[.int .i64 p,.int .i64 q,.string a,.string b,.int .i64 M,.int .u8 (O:Int)] 197)).heap.size=w.heap.size+1:=by simp
 rw[c2]at KV;have k0:=K0.cell 0;have k1:=K0.cell 1;have k2:=K0.cell 2;have k3:=K0.cell 3;have v0:=KV.cell 0;have v1:=KV.cell 1;clear h F K S X;go_enter Tryz.func106,Tryz.ntmps106
 go_wp2_with fail
 clear k0 k1 k2 k3 v0 v1;refine(c1.out _ LV).mono ?_;rintro e w1 ⟨rfl,af⟩;rw[<-cs];have o:=LV.trans (af.mono LV.size);have l:=da.below af da.lt;have J:=KV.below af KV.lt;clear K0 da KV L0 LV af c2;generalize hj:ix L.n p q=j at *;have HJ:=AB hj;have fg:=AB cs;clear hj cs;have ef:(j:Int)<((L.n*L.n:Nat):Int):=by omega
 have e8:(j:Int)<(L.n:Int)*(L.n:Int):=by have:=ef;rwa [Dk]at this
 have fh:(0:Int)<=(j:Int):=by omega
 have eg:j<hops.length:=by rw[HK.out.len];exact c4
 have db:j<place.length:=by rw[ab.out.plen];exact c4
 have ct:w1.cell? ⟨L.G,10,none⟩=some (.bool fd):=(HS.out w1 o).box.cell 10;rcases fd with _|_
 case true=>have D:=AB (A.out w1 _ row place tx true (HS.out w1 o) ab.out (v.out w1 o) (CW _) (fun h=>h) (fun h=>by cases h));go_wp2;go_end0;exact D.out
 case false=>
  have c6:=(HS.out w1 o).box.cell 6;have z0:=(IZ (HS.out w1 o).hb j eg).1;have aw:=AB (HK.out.live p q f.out.p.1 f.out.p.2 f.out.q.1 f.out.q.2);rw[HJ.out]at aw;rcases bf:(hops.getD j ED).live with _|_
  case false=>have D:=AB (A.out w1 _ row place tx false (HS.out w1 o) ab.out (v.out w1 o) (CW _) (fun h=>h) (fun _ hl=>by have:=aw.out.2 hl;rw[bf]at this;cases this));rw[bf]at z0;clear bf;go_wp2;go_end0;exact D.out
  case true=>
   have bo:=AB (AI bf (aw.out.1 bf));rw[bf]at z0;clear bf aw;have c8:=(HS.out w1 o).box.cell 8;have zp:=Nr (HS.out w1 o).pb j db;have bt:=AB (ab.out.at_ f.out.p.1 f.out.p.2 f.out.q.1 f.out.q.2);rw[HJ.out]at bt;have eh:=f.out.sa;have ei:=f.out.sb;simp only at eh ei;by_cases cu:place.getD j 0=0
   case neg=>
    obtain⟨k,hk,ej,dc,dd⟩:=bt.out cu;have ek:=ab.out.good k hk;rw[ej]at zp;obtain⟨gr,og,eA,dz,d0,d1,d2,d3,d4,d5⟩:=NJ (Reads.of_own (HS.out w1 o).oR) k hk;subst eA;generalize d6:row.getD k JZ=y at *;have el:=AB d6;clear d6;obtain⟨fp,fq,fa,fb,ff,fc⟩:=y;simp only at d0 d1 d2 d3 d4 d5 dc dd;have cv:=AB (AI dc dd);clear dc dd;obtain⟨_,de,df,_,⟨d7,d8⟩,d9,⟨em,ea⟩,_,_⟩:=ek;simp only at de df d7 d8 d9 em ea;have fi:(k:Int)<(row.length:Int):=by omega
    have fj:(0:Int)<=(k:Int):=by omega
    have c7:=(HS.out w1 o).box.cell 7;have KF:=BL.new w1 197 #[.int .i64 fp,.int .i64 fq,.string fa,.string fb,.int .i64 ff,.int .u8 (fc:Int)];have LF:=o.alloc o.size (.cells #[.int .i64 fp,.int .i64 fq,.string fa,.string fb,.int .i64 ff,.int .u8 (fc:Int)] 197);have cw:=l.alloc (.cells #[.int .i64 fp,.int .i64 fq,.string fa,.string fb,.int .i64 ff,.int .u8 (fc:Int)] 197);have bp:=J.alloc (.cells #[.int .i64 fp,.int .i64 fq,.string fa,.string fb,.int .i64 ff,.int .u8 (fc:Int)] 197);have e2:=KF.cell 2;have e3:=KF.cell 3;have v2:=bp.cell 2;have v3:=bp.cell 3;have cx:=fun W=>X0s W fa fb a b
    have dg:wrap64 ((k:Int)+1-1)=(k:Int):=by rw[show(k:Int)+1-1=(k:Int)by omega];exact FH _ (by omega)
    by_cases hl:fa=a/\fb=b
    .obtain ⟨rfl,rfl⟩:=hl
     have hq:∀W,(binOp .eql 193 (.agg #[.string fa,.string fb]) (.agg #[.string fa,.string fb])).run Tryz.prog W=.ok (.bool true) W:=fun W=>by have:=cx W;simpa using this
     clear cx;have D:=AB (A.out _ _ row place tx false (HS.out _ LF) ab.out (v.out _ LF) (CW _) (fun h=>h) (fun _ _=>⟨⟨fp,fq,fa,fb,ff,fc⟩,by rw[<-el.out];exact FK row k JZ hk,cv.out.1,cv.out.2,rfl,rfl⟩));clear dz KF LF cw bp l J;go_wp2;go_end0;exact D.out
    .have hq:∀W,(binOp .eql 193 (.agg #[.string fa,.string fb]) (.agg #[.string a,.string b])).run Tryz.prog W=.ok (.bool false) W:=fun W=>by
       have:=cx W;rw[show(decide (fa=a) && decide (fb=b))=false by rw[<-D5,AW,BB,BB];exact hl]at this;exact this
     clear cx
     have bu:KH u:=by
      have eb:Ep u p q (bl fa) (bl fb):=by rw[<-cv.out.1,<-cv.out.2];exact de
      exact Ul eb f.out.lag bo.out.2 df (fun e=>hl (by injection e with e1 e2;exact⟨D_ e1,D_ e2⟩))
     have a3:=AB bu;have a4:=AB (be.out _ LF bo.out.1);have v0:=bp.cell 0;have v1:=bp.cell 1;clear bu dz l J hl de df
     go_wp2_with fail
     refine a4.out.mono ?_;rintro e w2 ⟨s1,s2,s3,rfl,eo,ep,eq,bv⟩;have au:=LF.trans (bv.mono LF.size);have a5:=KF.below bv KF.lt;have ac:=cw.below bv cw.lt;clear KF cw bp LF bv e2 e3 v0 v1 v2 v3 a4 c6 c7 c8 ct z0 zp d0 d1 d2 d3 d4 d5 dg;have e2:=a5.cell 2;have e3:=a5.cell 3;have m1:fa.size+s2.size<=9223372036854775807:=by omega
     have m2:fb.size+s3.size<=9223372036854775807:=by omega
     have a6:=KC (fa++s2) (fb++s3);by_cases P:fa++s2=fb++s3
     .rw [DK P]at a6
      clear P;have b0:=ac.cell 0;have b1:=ac.cell 1;have b2:=ac.cell 2;have b3:=ac.cell 3;have b4:=ac.cell 4;have b5:=ac.cell 5;have r:Calls Tryz.prog 128 #[.pointer (some ⟨L.G,0,none⟩),.agg #[.int .i64 p,.int .i64 q,.string a,.string b,.int .i64 M,.int .u8 (O:Int)]] _ (Lo 1025 _):=a2.out _ au ⟨p,q,a,b,M,O⟩ ⟨f.out.fr.1,f.out.fr.2,f.out.c⟩;have s:=AB r;have E:=AB a3.out;clear r
      go_wp2_with fail
      refine s.out.mono ?_;rintro e w5 ⟨sw,rfl,cy,ax⟩;have Y:=au.trans (ax.mono au.size);clear b0 b1 b2 b3 b4 b5 s;have m3:sw.size+s1.size<=9223372036854775807:=by omega
      go_wp2_with fail
      refine(ae.out w5 Y _).mono ?_;rintro e w6 ⟨rfl,Z,aa⟩;have D:=AB (A.out w6 _ row place _ true Z (ab.out.tell E.out true) ((v.out w5 Y).trans aa) (CW _) (fun _=>rfl) (fun h=>by cases h));clear Z aa;go_wp2;go_end0;exact D.out
     .rw [DB P]at a6
      clear P;have b0:=a5.cell 0;have b1:=a5.cell 1;have b2:=a5.cell 2;have b3:=a5.cell 3;have b4:=a5.cell 4;have b5:=a5.cell 5;have r:Calls Tryz.prog 128 #[.pointer (some ⟨L.G,0,none⟩),.agg #[.int .i64 fp,.int .i64 fq,.string fa,.string fb,.int .i64 ff,.int .u8 (fc:Int)]] _ (Lo 1025 _):=a2.out _ au ⟨fp,fq,fa,fb,ff,fc⟩ ⟨d7,(show ff<(row.length:Int)by omega),d9⟩;have s:=AB r;have E:=AB a3.out;clear r
      go_wp2_with fail
      refine s.out.mono ?_;rintro e w5 ⟨sw,rfl,cy,ax⟩;have Y:=au.trans (ax.mono au.size);clear b0 b1 b2 b3 b4 b5 s;have m3:sw.size+s1.size<=9223372036854775807:=by omega
      go_wp2_with fail
      refine(ae.out w5 Y _).mono ?_;rintro e w6 ⟨rfl,Z,aa⟩;have D:=AB (A.out w6 _ row place _ true Z (ab.out.tell E.out true) ((v.out w5 Y).trans aa) (CW _) (fun _=>rfl) (fun h=>by cases h));clear Z aa;go_wp2;go_end0;exact D.out
   case pos=>
    rw[cu]at zp;have ed:=AB cu;clear cu bt;have v2:=J.cell 2;have v3:=J.cell 3;by_cases dh:a≠ByteArray.empty/\b≠ByteArray.empty
    .obtain ⟨ay,bq⟩:=dh
     have br:=KC a ByteArray.empty;have af:=KC b ByteArray.empty;rw[DB ay]at br;rw[DB bq]at af;have fk:(a.toList==([]:List UInt8))=false:=by rw[<-Lp];exact br
     have bv:(b.toList==([]:List UInt8))=false:=by rw[<-Lp];exact af
     have a3:=AB (RQ f.out.lag bo.out.2 (fun e=>ay (D_ e)) (fun e=>bq (D_ e)));have a4:=AB (be.out _ o bo.out.1);have v0:=J.cell 0;have v1:=J.cell 1;clear ay bq
     go_wp2_with fail
     refine a4.out.mono ?_;rintro e w2 ⟨s1,s2,s3,rfl,eo,ep,eq,bw⟩;have au:=o.trans (bw.mono o.size);have ac:=l.below bw l.lt;clear l J bw v0 v1 v2 v3 a4 c6 c8 ct z0 zp;have b0:=ac.cell 0;have b1:=ac.cell 1;have b2:=ac.cell 2;have b3:=ac.cell 3;have b4:=ac.cell 4;have b5:=ac.cell 5;have r:Calls Tryz.prog 128 #[.pointer (some ⟨L.G,0,none⟩),.agg #[.int .i64 p,.int .i64 q,.string a,.string b,.int .i64 M,.int .u8 (O:Int)]] _ (Lo 1025 _):=a2.out _ au ⟨p,q,a,b,M,O⟩ ⟨f.out.fr.1,f.out.fr.2,f.out.c⟩;have s:=AB r;have E:=AB a3.out;clear r
     go_wp2_with fail
     refine s.out.mono ?_;rintro e w5 ⟨sw,rfl,cy,ax⟩;have Y:=au.trans (ax.mono au.size);clear b0 b1 b2 b3 b4 b5 s;have m3:sw.size+s1.size<=9223372036854775807:=by omega
     go_wp2_with fail
     refine(ae.out w5 Y _).mono ?_;rintro e w6 ⟨rfl,Z,aa⟩;have D:=AB (A.out w6 _ row place _ true Z (ab.out.tell E.out true) ((v.out w5 Y).trans aa) (CW _) (fun _=>rfl) (fun h=>by cases h));clear Z aa;go_wp2;go_end0;exact D.out
    .have bx:a=ByteArray.empty\/(a≠ByteArray.empty/\b=ByteArray.empty):=by
       by_cases h1:a=ByteArray.empty
       .exact .inl h1
       .exact .inr ⟨h1,DC fun h2=>dh ⟨h1,h2⟩⟩
     have c3:=AB (show bl a=[]\/bl b=[]from bx.imp (fun h=>by rw[h];rfl) (fun h=>by rw[h.2];rfl));have br:=KC a ByteArray.empty;have af:=KC b ByteArray.empty;rw[Lp]at br af;clear dh;rcases bx with ay|⟨ay,bq⟩
     .rw [DK ay]at br
      clear ay af;have bz:0<=p:=f.out.p.1;have er:p<(L.n:Int):=f.out.p.2;have b6:0<=q:=f.out.q.1;have es:q<(L.n:Int):=f.out.q.2;have ag:=HS.out w (AH _ _);have b7:=ag.sz;have et:L.LE<L.K:=ag.gE.1.1;obtain⟨Ae,ce,g1,eu,di,R1⟩:=ag.gE.2 p.toNat (by omega);obtain⟨Af,cf,g2,ev,dj,R2⟩:=ag.gE.2 q.toNat (by omega);unfold maxLen at di dj;have G2:=fun(W:World) (hb:Below w.heap.size w W)=>(hb.cell (p:=⟨L.LE,q.toNat,none⟩) (by show L.LE<_;omega)).trans g2
      have RX:=fun(W:World) (hb:Below w.heap.size w W)=>(R1.reads (B:=L.K) fun k hk=>hk.1).below (hb.mono b7)
      have RY:=fun(W:World) (hb:Below w.heap.size w W)=>(R2.reads (B:=L.K) fun k hk=>hk.1).below (hb.mono b7)
      have G1:=(o.cell (p:=⟨L.LE,p.toNat,none⟩) (by show L.LE<_;omega)).trans g1;have b8:=AB (fun i (h:i<(EX u.ends p.toNat).length)=>Pr h);have b9:=AB (fun i (h:i<(EX u.ends q.toNat).length)=>Pr h);generalize ca:(EX u.ends p.toNat).length=en at *;generalize cb:(EX u.ends q.toNat).length=fn at *;have cd:=AB (AI ca cb);have HG:=AB (AI G2 (AI RX RY));have r1:=AF G1;have r5:=AF ((HS.out w1 o).box.cell 5);have r0:=AF (J.cell 0);have d:=AB (AI l (AI J o));clear G1 G2 RX RY g1 g2 R1 R2 ag ca cb l J;go_wp2;refine Au (by kernel_rfl) (by kernel_rfl) ?_
      repeat (go_big_quiet_step (fail))
      refine Ah ?_;intro w6 ah;have H:=Bu ah;have I:=AB (AI (d.out.1.below H d.out.1.lt) (AI (d.out.2.1.below H d.out.2.1.lt) (d.out.2.2.trans (H.mono d.out.2.2.size))));clear ah H d r1 r5 r0 v2 v3 c6 c8 ct z0 zp;go_wp2;go_loopw [132] (fun i wr=>∃m:Nat,m<=en/\i=.int .i64 (m:Int)/\BL wr w.heap.size 197 #[.int .i64 p,.int .i64 q,.string a,.string b,.int .i64 M,.int .u8 (O:Int)]/\BL wr (w.heap.size+1) 195 #[.int .i64 p,.int .i64 q,.string a,.string b]/\Below w.heap.size w wr/\IB u p.toNat q.toNat a b m 0) (fun i _=>en-(intOf i).toNat)
      case atStart=>exact⟨0,AN _,rfl,I.out.1,I.out.2.1,I.out.2.2,IB.start⟩
      case round=>
       clear I;obtain⟨m,hm,rfl,l,J,Q,ai⟩:=hrel;have ad:=AB ai;clear ai;by_cases aj:m<en
       .have ew:(0:Int)<=(m:Int):=by omega
        have ez:(m:Int)<(en:Int):=by omega
        obtain⟨gi,oi,rfl,e0,ec⟩:=E9 (enc:=Kr) (fun _=>rfl) (by decide) (HG.out.2.1 wr Q) ByteArray.empty m aj;have ex:=ec 0 _ rfl;rw[show oi+(m*1+0)=oi+m by omega]at ex;obtain⟨te,bg,ak,U⟩:=b8.out m aj;have dk:=(HF.out.ends te bg).2.2;rw[<-U]at dk;have bh:=AB (AI bg (AI ak U));clear bg ak U;generalize cg:(EX u.ends p.toNat).getD m ByteArray.empty=ee at *;have dl:=AB cg;clear cg ec;have r2:=AF (HG.out.1 wr Q);have r5:=AF ((HS.out wr Q).box.cell 5);have r0:=AF (J.cell 1);have d:=AB (AI l (AI J Q));clear l J Q;go_wp2;clear ex;refine Au (by kernel_rfl) (by kernel_rfl) ?_
        repeat (go_big_quiet_step (fail))
        refine Ah ?_;intro w6 ah;have H:=Bu ah;have I:=AB (AI (d.out.1.below H d.out.1.lt) (AI (d.out.2.1.below H d.out.2.1.lt) (d.out.2.2.trans (H.mono d.out.2.2.size))));clear ah H d r2 r5 r0;go_wp2;go_loopw [146] (fun i wr=>∃k:Nat,k<=fn/\i=.int .i64 (k:Int)/\BL wr w.heap.size 197 #[.int .i64 p,.int .i64 q,.string a,.string b,.int .i64 M,.int .u8 (O:Int)]/\BL wr (w.heap.size+1) 195 #[.int .i64 p,.int .i64 q,.string a,.string b]/\Below w.heap.size w wr/\IB u p.toNat q.toNat a b m k) (fun i _=>fn-(intOf i).toNat)
        case atStart=>exact⟨0,AN _,rfl,I.out.1,I.out.2.1,I.out.2.2,ad.out⟩
        case round=>
         clear I ad;obtain⟨k,hk,rfl,l,J,Q,ai⟩:=hrel;have ad:=AB ai;clear ai;by_cases al:k<fn
         .have dg:(0:Int)<=(k:Int):=by omega
          have e4:(k:Int)<(fn:Int):=by omega
          obtain⟨gj,oj,rfl,e5,ec⟩:=E9 (enc:=Kr) (fun _=>rfl) (by decide) (HG.out.2.2 wr Q) ByteArray.empty k al;have ey:=ec 0 _ rfl;rw[show oj+(k*1+0)=oj+k by omega]at ey;obtain⟨tf,bi,ak,U⟩:=b9.out k al;have dm:=(HF.out.ends tf bi).2.2;rw[<-U]at dm;have bj:=AB (AI bi (AI ak U));clear bi ak U;generalize ch:(EX u.ends q.toNat).getD k ByteArray.empty=ff at *;have dn:=AB ch;clear ch ec;have v2:=J.cell 2;have v3:=J.cell 3;have m1:a.size+ee.size<=9223372036854775807:=by omega
          have m2:b.size+ff.size<=9223372036854775807:=by omega
          have a6:=KC (a++ee) (b++ff);by_cases P:a++ee=b++ff
          .rw [DK P]at a6
           have ci:=AB (ad.out.next (by rw[dl.out,dn.out];exact P));have d:=AB (AI l (AI J Q));clear P l J Q;go_wp2;go_roundw
           case rel=>exact⟨k+1,al,by go_num,d.out.1,d.out.2.1,d.out.2.2,ci.out⟩
           case measure=>simp[intOf];omega
          .rw [DB P]at a6
           have cj:KH u:=OH f.out.lag bh.out.1 bj.out.1 (by rw[bh.out.2.1];exact AT bz) (by rw[bj.out.2.1];exact AT b6) (fun e=>P (D_ (by rw[DW,DW,bh.out.2.2,bj.out.2.2];exact e)));have a3:=AB cj;clear P cj;have b0:=l.cell 0;have b1:=l.cell 1;have b2:=l.cell 2;have b3:=l.cell 3;have b4:=l.cell 4;have b5:=l.cell 5;have r:Calls Tryz.prog 128 #[.pointer (some ⟨L.G,0,none⟩),.agg #[.int .i64 p,.int .i64 q,.string a,.string b,.int .i64 M,.int .u8 (O:Int)]] _ (Lo 1025 _):=a2.out _ Q ⟨p,q,a,b,M,O⟩ ⟨f.out.fr.1,f.out.fr.2,f.out.c⟩;have s:=AB r;have E:=AB a3.out;clear r
           go_wp2_with fail
           refine s.out.mono ?_;rintro e w5 ⟨sw,rfl,cy,ax⟩;have Y:=Q.trans (ax.mono Q.size);clear b0 b1 b2 b3 b4 b5 s
           go_wp2_with fail
           refine(ae.out w5 Y _).mono ?_;rintro e w6 ⟨rfl,Z,aa⟩;have D:=AB (A.out w6 _ row place _ true Z (ab.out.tell E.out true) ((v.out w5 Y).trans aa) (CW _) (fun _=>rfl) (fun h=>by cases h));clear Z aa;go_wp2;go_end0;exact D.out
         .obtain rfl:fn=k:=by omega
          have dp:=AB (ad.out.row (by rw[cd.out.2];exact AD _));have d:=AB (AI l (AI J Q));clear l J Q;go_wp2;go_roundw
          case rel=>exact⟨m+1,aj,by go_num,d.out.1,d.out.2.1,d.out.2.2,dp.out⟩
          case measure=>simp[intOf];omega
       .obtain rfl:en=m:=by omega
        have bk:=AB (ad.out.all (by rw[cd.out.1];exact AD _));have hS:=HS.out wr Q;have ck:=(HS.out w (AH _ _)).own_lt;have cl:(Value.slice A0 row.length c0).ownBlock≠some w.heap.size:=fun e=>by have:=(ck _ e).2;omega
        have LA:=(AH wr.heap.size wr).drew.alloc (AD _) (.cells #[.int .i64 p,.int .i64 q,.string a,.string b,.int .i64 M,.int .u8 (O:Int)] 197);have C:=hS.call LA;have bm:=l.below LA l.lt;have dq:=Q.trans (LA.mono Q.size);obtain⟨Sx,V⟩:∃Sx:World->Prop,Sx=fun W=>W.cell? ⟨L.G,7,none⟩=some (.slice A0 row.length c0)/\BL W w.heap.size 197 #[.int .i64 p,.int .i64 q,.string a,.string b,.int .i64 M,.int .u8 (O:Int)]:=⟨_,rfl⟩
        have az:=fun W x1 x2=>show Sx W by rw[V];exact⟨x1,x2⟩
        have R:=fun W (h:Sx W)=>show W.cell? ⟨L.G,7,none⟩=some (.slice A0 row.length c0)/\BL W w.heap.size 197 #[.int .i64 p,.int .i64 q,.string a,.string b,.int .i64 M,.int .u8 (O:Int)]by rw[V]at h;exact h
        have y7:=fun p:Cr Sx=>(R p.w p.2).1
        have y0:=fun p:Cr Sx=>(R p.w p.2).2.cell 0
        have y1:=fun p:Cr Sx=>(R p.w p.2).2.cell 1
        have y2:=fun p:Cr Sx=>(R p.w p.2).2.cell 2
        have y3:=fun p:Cr Sx=>(R p.w p.2).2.cell 3
        have y4:=fun p:Cr Sx=>(R p.w p.2).2.cell 4
        have y5:=fun p:Cr Sx=>(R p.w p.2).2.cell 5
        have bn:Sx wr.drew:=az _ (hS.box.cell 7) l;clear V;have dr:Nonempty (Cr Sx):=⟨⟨_,bn⟩⟩;have cm:=Bg wr.drew [.int .i64 p,.int .i64 q,.string a,.string b,.int .i64 M,.int .u8 (O:Int)] 197 6 1 rfl;have a7:=C.oR;have a8:=Uo ⟨p,q,a,b,M,O⟩;have h63:row.length+1<=maxLen:=by unfold maxLen;omega
        have cn:(row.length+1)*64<=140737488355328:=by omega
        have co:L.K<=(wr.drew.alloc (.cells #[.int .i64 p,.int .i64 q,.string a,.string b,.int .i64 M,.int .u8 (O:Int)] 197)).heap.size:=C.sz;obtain⟨ib,ds,dt,du,dv⟩:=BK SY;have cp:=FI C.oR C.box (by decide);have dw:=C.box.frozen 7;go_wp2;refine Cs Sx 8 [0,1,2,3,4,5] [6,7] (by kernel_rfl) (by kernel_rfl) rfl (by kernel_rfl) bn ?_;simp only[CV,A_,BA,Az,BI]
        repeat (go_big_quiet_step (fail))
        refine Ah ?_;clear y0 y1 y2 y3 y4 y5 y7;refine BU rfl (fun KK am=>?_);go_simp;refine am _ _ (EW.of (az _ (C.box.cell 7) bm)) ?_;clear am KK;refine BU rfl (fun KK am=>?_);refine DL _ _ _ 153 rfl L.K 197 ib _ 6 64 Tryz.underlying153 ds dt du dv rfl (by decide) _ _ _ rfl a7 _ (some ⟨wr.drew.heap.size,0,none⟩) 1 1 [.int .i64 p,.int .i64 q,.string a,.string b,.int .i64 M,.int .u8 (O:Int)] rfl cm a8 h63 cn co ?_;intro v' w9 an g a9;have a0:=BM C.box g cp;have cq:=bm.grown g (fun e=>cl e.symm);refine am _ _ (EW.of (az _ (a0.cell 7) cq)) ?_;clear am KK;have ao:w9.ownsRow L.K 197 6 v' (row++[(⟨p,q,a,b,M,O⟩:Bx)]).length (B_ RR (row++[(⟨p,q,a,b,M,O⟩:Bx)])):=by rw[AJ,Ej];exact an
        have ap:=C.putRow g ao;have cr:=(v.out _ dq).trans (C.stay_row g a9 v');obtain⟨A9,c9,rfl,_,_,_⟩:=BH an;have e7:=a0.cell 7;have f7:=a0.frozen 7;clear an ao g a9 cm a7 a8 h63 cn co az R bn dr C bm LA a0 cq cp dw l J Q hS;refine Cc ?_;go_wp2;refine Be ?_;clear e7 f7;generalize w9.setCell ⟨L.G,7,none⟩ (.slice A9 (row.length+1) c9)=W9 at *;have r7:=AF (ap.box.cell 7);have r8:=AF (ap.box.cell 8);go_wp2;refine Cb 11 (by kernel_rfl) (by kernel_rfl) ?_;simp only[CO,CN,Az,BI]
        repeat (go_big_quiet_step (fail))
        refine Ah ?_;intro e6 ba;have aq:=Bu ba;have T:=ap.call aq;have bb:=cr.trans (SrStay.of_below (L:=L) (vR:=.slice A9 (row.length+1) c9) ap.hl aq);have zc:=Nr T.pb j db;have zf:=T.pb.frozen j;have bc:=T.putPlace j ((row.length:Int)+1);have bd:=bb.trans (T.stay_place j (.int .i64 ((row.length:Int)+1)));have ar:=ab.out.put (e:=⟨p,q,a,b,M,O⟩) ⟨f.out.p.1,f.out.p.2,f.out.q.1,f.out.q.2⟩ f.out.lag c3.out bo.out.2 f.out.fr f.out.c ⟨f.out.sa,f.out.sb⟩ (fun z hz z' dx e1 e2=>bk.out z hz z' dx (e1.trans (AT bz).symm) (e2.trans (AT b6).symm)) (by rw[HJ.out];exact ed.out);rw[HJ.out]at ar;have D:=AB (A.out _ _ _ _ tx false bc ar bd (Cj _ _) (fun h=>h) (fun _ _=>⟨_,Fl _ (AM.2 rfl),rfl,rfl,rfl,rfl⟩));clear ba aq ap cr T bb bc bd ar r7 r8;go_wp2;go_end0;exact D.out
     .rw [DB ay]at br
      rw[DK bq]at af;clear ay bq;have bz:0<=p:=f.out.p.1;have er:p<(L.n:Int):=f.out.p.2;have b6:0<=q:=f.out.q.1;have es:q<(L.n:Int):=f.out.q.2;have ag:=HS.out w (AH _ _);have b7:=ag.sz;have et:L.LE<L.K:=ag.gE.1.1;obtain⟨Ae,ce,g1,eu,di,R1⟩:=ag.gE.2 p.toNat (by omega);obtain⟨Af,cf,g2,ev,dj,R2⟩:=ag.gE.2 q.toNat (by omega);unfold maxLen at di dj;have G2:=fun(W:World) (hb:Below w.heap.size w W)=>(hb.cell (p:=⟨L.LE,q.toNat,none⟩) (by show L.LE<_;omega)).trans g2
      have RX:=fun(W:World) (hb:Below w.heap.size w W)=>(R1.reads (B:=L.K) fun k hk=>hk.1).below (hb.mono b7)
      have RY:=fun(W:World) (hb:Below w.heap.size w W)=>(R2.reads (B:=L.K) fun k hk=>hk.1).below (hb.mono b7)
      have G1:=(o.cell (p:=⟨L.LE,p.toNat,none⟩) (by show L.LE<_;omega)).trans g1;have b8:=AB (fun i (h:i<(EX u.ends p.toNat).length)=>Pr h);have b9:=AB (fun i (h:i<(EX u.ends q.toNat).length)=>Pr h);generalize ca:(EX u.ends p.toNat).length=en at *;generalize cb:(EX u.ends q.toNat).length=fn at *;have cd:=AB (AI ca cb);have HG:=AB (AI G2 (AI RX RY));have r1:=AF G1;have r5:=AF ((HS.out w1 o).box.cell 5);have r0:=AF (J.cell 0);have d:=AB (AI l (AI J o));clear G1 G2 RX RY g1 g2 R1 R2 ag ca cb l J;go_wp2;refine Au (by kernel_rfl) (by kernel_rfl) ?_
      repeat (go_big_quiet_step (fail))
      refine Ah ?_;intro w6 ah;have H:=Bu ah;have I:=AB (AI (d.out.1.below H d.out.1.lt) (AI (d.out.2.1.below H d.out.2.1.lt) (d.out.2.2.trans (H.mono d.out.2.2.size))));clear ah H d r1 r5 r0 v2 v3 c6 c8 ct z0 zp;go_wp2;go_loopw [132] (fun i wr=>∃m:Nat,m<=en/\i=.int .i64 (m:Int)/\BL wr w.heap.size 197 #[.int .i64 p,.int .i64 q,.string a,.string b,.int .i64 M,.int .u8 (O:Int)]/\BL wr (w.heap.size+1) 195 #[.int .i64 p,.int .i64 q,.string a,.string b]/\Below w.heap.size w wr/\IB u p.toNat q.toNat a b m 0) (fun i _=>en-(intOf i).toNat)
      case atStart=>exact⟨0,AN _,rfl,I.out.1,I.out.2.1,I.out.2.2,IB.start⟩
      case round=>
       clear I;obtain⟨m,hm,rfl,l,J,Q,ai⟩:=hrel;have ad:=AB ai;clear ai;by_cases aj:m<en
       .have ew:(0:Int)<=(m:Int):=by omega
        have ez:(m:Int)<(en:Int):=by omega
        obtain⟨gi,oi,rfl,e0,ec⟩:=E9 (enc:=Kr) (fun _=>rfl) (by decide) (HG.out.2.1 wr Q) ByteArray.empty m aj;have ex:=ec 0 _ rfl;rw[show oi+(m*1+0)=oi+m by omega]at ex;obtain⟨te,bg,ak,U⟩:=b8.out m aj;have dk:=(HF.out.ends te bg).2.2;rw[<-U]at dk;have bh:=AB (AI bg (AI ak U));clear bg ak U;generalize cg:(EX u.ends p.toNat).getD m ByteArray.empty=ee at *;have dl:=AB cg;clear cg ec;have r2:=AF (HG.out.1 wr Q);have r5:=AF ((HS.out wr Q).box.cell 5);have r0:=AF (J.cell 1);have d:=AB (AI l (AI J Q));clear l J Q;go_wp2;clear ex;refine Au (by kernel_rfl) (by kernel_rfl) ?_
        repeat (go_big_quiet_step (fail))
        refine Ah ?_;intro w6 ah;have H:=Bu ah;have I:=AB (AI (d.out.1.below H d.out.1.lt) (AI (d.out.2.1.below H d.out.2.1.lt) (d.out.2.2.trans (H.mono d.out.2.2.size))));clear ah H d r2 r5 r0;go_wp2;go_loopw [146] (fun i wr=>∃k:Nat,k<=fn/\i=.int .i64 (k:Int)/\BL wr w.heap.size 197 #[.int .i64 p,.int .i64 q,.string a,.string b,.int .i64 M,.int .u8 (O:Int)]/\BL wr (w.heap.size+1) 195 #[.int .i64 p,.int .i64 q,.string a,.string b]/\Below w.heap.size w wr/\IB u p.toNat q.toNat a b m k) (fun i _=>fn-(intOf i).toNat)
        case atStart=>exact⟨0,AN _,rfl,I.out.1,I.out.2.1,I.out.2.2,ad.out⟩
        case round=>
         clear I ad;obtain⟨k,hk,rfl,l,J,Q,ai⟩:=hrel;have ad:=AB ai;clear ai;by_cases al:k<fn
         .have dg:(0:Int)<=(k:Int):=by omega
          have e4:(k:Int)<(fn:Int):=by omega
          obtain⟨gj,oj,rfl,e5,ec⟩:=E9 (enc:=Kr) (fun _=>rfl) (by decide) (HG.out.2.2 wr Q) ByteArray.empty k al;have ey:=ec 0 _ rfl;rw[show oj+(k*1+0)=oj+k by omega]at ey;obtain⟨tf,bi,ak,U⟩:=b9.out k al;have dm:=(HF.out.ends tf bi).2.2;rw[<-U]at dm;have bj:=AB (AI bi (AI ak U));clear bi ak U;generalize ch:(EX u.ends q.toNat).getD k ByteArray.empty=ff at *;have dn:=AB ch;clear ch ec;have v2:=J.cell 2;have v3:=J.cell 3;have m1:a.size+ee.size<=9223372036854775807:=by omega
          have m2:b.size+ff.size<=9223372036854775807:=by omega
          have a6:=KC (a++ee) (b++ff);by_cases P:a++ee=b++ff
          .rw [DK P]at a6
           have ci:=AB (ad.out.next (by rw[dl.out,dn.out];exact P));have d:=AB (AI l (AI J Q));clear P l J Q;go_wp2;go_roundw
           case rel=>exact⟨k+1,al,by go_num,d.out.1,d.out.2.1,d.out.2.2,ci.out⟩
           case measure=>simp[intOf];omega
          .rw [DB P]at a6
           have cj:KH u:=OH f.out.lag bh.out.1 bj.out.1 (by rw[bh.out.2.1];exact AT bz) (by rw[bj.out.2.1];exact AT b6) (fun e=>P (D_ (by rw[DW,DW,bh.out.2.2,bj.out.2.2];exact e)));have a3:=AB cj;clear P cj;have b0:=l.cell 0;have b1:=l.cell 1;have b2:=l.cell 2;have b3:=l.cell 3;have b4:=l.cell 4;have b5:=l.cell 5;have r:Calls Tryz.prog 128 #[.pointer (some ⟨L.G,0,none⟩),.agg #[.int .i64 p,.int .i64 q,.string a,.string b,.int .i64 M,.int .u8 (O:Int)]] _ (Lo 1025 _):=a2.out _ Q ⟨p,q,a,b,M,O⟩ ⟨f.out.fr.1,f.out.fr.2,f.out.c⟩;have s:=AB r;have E:=AB a3.out;clear r
           go_wp2_with fail
           refine s.out.mono ?_;rintro e w5 ⟨sw,rfl,cy,ax⟩;have Y:=Q.trans (ax.mono Q.size);clear b0 b1 b2 b3 b4 b5 s
           go_wp2_with fail
           refine(ae.out w5 Y _).mono ?_;rintro e w6 ⟨rfl,Z,aa⟩;have D:=AB (A.out w6 _ row place _ true Z (ab.out.tell E.out true) ((v.out w5 Y).trans aa) (CW _) (fun _=>rfl) (fun h=>by cases h));clear Z aa;go_wp2;go_end0;exact D.out
         .obtain rfl:fn=k:=by omega
          have dp:=AB (ad.out.row (by rw[cd.out.2];exact AD _));have d:=AB (AI l (AI J Q));clear l J Q;go_wp2;go_roundw
          case rel=>exact⟨m+1,aj,by go_num,d.out.1,d.out.2.1,d.out.2.2,dp.out⟩
          case measure=>simp[intOf];omega
       .obtain rfl:en=m:=by omega
        have bk:=AB (ad.out.all (by rw[cd.out.1];exact AD _));have hS:=HS.out wr Q;have ck:=(HS.out w (AH _ _)).own_lt;have cl:(Value.slice A0 row.length c0).ownBlock≠some w.heap.size:=fun e=>by have:=(ck _ e).2;omega
        have LA:=(AH wr.heap.size wr).drew.alloc (AD _) (.cells #[.int .i64 p,.int .i64 q,.string a,.string b,.int .i64 M,.int .u8 (O:Int)] 197);have C:=hS.call LA;have bm:=l.below LA l.lt;have dq:=Q.trans (LA.mono Q.size);obtain⟨Sx,V⟩:∃Sx:World->Prop,Sx=fun W=>W.cell? ⟨L.G,7,none⟩=some (.slice A0 row.length c0)/\BL W w.heap.size 197 #[.int .i64 p,.int .i64 q,.string a,.string b,.int .i64 M,.int .u8 (O:Int)]:=⟨_,rfl⟩
        have az:=fun W x1 x2=>show Sx W by rw[V];exact⟨x1,x2⟩
        have R:=fun W (h:Sx W)=>show W.cell? ⟨L.G,7,none⟩=some (.slice A0 row.length c0)/\BL W w.heap.size 197 #[.int .i64 p,.int .i64 q,.string a,.string b,.int .i64 M,.int .u8 (O:Int)]by rw[V]at h;exact h
        have y7:=fun p:Cr Sx=>(R p.w p.2).1
        have y0:=fun p:Cr Sx=>(R p.w p.2).2.cell 0
        have y1:=fun p:Cr Sx=>(R p.w p.2).2.cell 1
        have y2:=fun p:Cr Sx=>(R p.w p.2).2.cell 2
        have y3:=fun p:Cr Sx=>(R p.w p.2).2.cell 3
        have y4:=fun p:Cr Sx=>(R p.w p.2).2.cell 4
        have y5:=fun p:Cr Sx=>(R p.w p.2).2.cell 5
        have bn:Sx wr.drew:=az _ (hS.box.cell 7) l;clear V;have dr:Nonempty (Cr Sx):=⟨⟨_,bn⟩⟩;have cm:=Bg wr.drew [.int .i64 p,.int .i64 q,.string a,.string b,.int .i64 M,.int .u8 (O:Int)] 197 6 1 rfl;have a7:=C.oR;have a8:=Uo ⟨p,q,a,b,M,O⟩;have h63:row.length+1<=maxLen:=by unfold maxLen;omega
        have cn:(row.length+1)*64<=140737488355328:=by omega
        have co:L.K<=(wr.drew.alloc (.cells #[.int .i64 p,.int .i64 q,.string a,.string b,.int .i64 M,.int .u8 (O:Int)] 197)).heap.size:=C.sz;obtain⟨ib,ds,dt,du,dv⟩:=BK SY;have cp:=FI C.oR C.box (by decide);have dw:=C.box.frozen 7;go_wp2;refine Cs Sx 8 [0,1,2,3,4,5] [6,7] (by kernel_rfl) (by kernel_rfl) rfl (by kernel_rfl) bn ?_;simp only[CV,A_,BA,Az,BI]
        repeat (go_big_quiet_step (fail))
        refine Ah ?_;clear y0 y1 y2 y3 y4 y5 y7;refine BU rfl (fun KK am=>?_);go_simp;refine am _ _ (EW.of (az _ (C.box.cell 7) bm)) ?_;clear am KK;refine BU rfl (fun KK am=>?_);refine DL _ _ _ 153 rfl L.K 197 ib _ 6 64 Tryz.underlying153 ds dt du dv rfl (by decide) _ _ _ rfl a7 _ (some ⟨wr.drew.heap.size,0,none⟩) 1 1 [.int .i64 p,.int .i64 q,.string a,.string b,.int .i64 M,.int .u8 (O:Int)] rfl cm a8 h63 cn co ?_;intro v' w9 an g a9;have a0:=BM C.box g cp;have cq:=bm.grown g (fun e=>cl e.symm);refine am _ _ (EW.of (az _ (a0.cell 7) cq)) ?_;clear am KK;have ao:w9.ownsRow L.K 197 6 v' (row++[(⟨p,q,a,b,M,O⟩:Bx)]).length (B_ RR (row++[(⟨p,q,a,b,M,O⟩:Bx)])):=by rw[AJ,Ej];exact an
        have ap:=C.putRow g ao;have cr:=(v.out _ dq).trans (C.stay_row g a9 v');obtain⟨A9,c9,rfl,_,_,_⟩:=BH an;have e7:=a0.cell 7;have f7:=a0.frozen 7;clear an ao g a9 cm a7 a8 h63 cn co az R bn dr C bm LA a0 cq cp dw l J Q hS;refine Cc ?_;go_wp2;refine Be ?_;clear e7 f7;generalize w9.setCell ⟨L.G,7,none⟩ (.slice A9 (row.length+1) c9)=W9 at *;have r7:=AF (ap.box.cell 7);have r8:=AF (ap.box.cell 8);go_wp2;refine Cb 11 (by kernel_rfl) (by kernel_rfl) ?_;simp only[CO,CN,Az,BI]
        repeat (go_big_quiet_step (fail))
        refine Ah ?_;intro e6 ba;have aq:=Bu ba;have T:=ap.call aq;have bb:=cr.trans (SrStay.of_below (L:=L) (vR:=.slice A9 (row.length+1) c9) ap.hl aq);have zc:=Nr T.pb j db;have zf:=T.pb.frozen j;have bc:=T.putPlace j ((row.length:Int)+1);have bd:=bb.trans (T.stay_place j (.int .i64 ((row.length:Int)+1)));have ar:=ab.out.put (e:=⟨p,q,a,b,M,O⟩) ⟨f.out.p.1,f.out.p.2,f.out.q.1,f.out.q.2⟩ f.out.lag c3.out bo.out.2 f.out.fr f.out.c ⟨f.out.sa,f.out.sb⟩ (fun z hz z' dx e1 e2=>bk.out z hz z' dx (e1.trans (AT bz).symm) (e2.trans (AT b6).symm)) (by rw[HJ.out];exact ed.out);rw[HJ.out]at ar;have D:=AB (A.out _ _ _ _ tx false bc ar bd (Cj _ _) (fun h=>h) (fun _ _=>⟨_,Fl _ (AM.2 rfl),rfl,rfl,rfl,rfl⟩));clear ba aq ap cr T bb bc bd ar r7 r8;go_wp2;go_end0;exact D.out
end
end
end Go.Proofs.YtcondkihpmmnnaaGreatDoor
