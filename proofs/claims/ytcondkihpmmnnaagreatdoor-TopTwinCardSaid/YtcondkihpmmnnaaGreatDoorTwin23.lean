/- Lemmas, part 23 of 50. No condition. -/
import Derived.Test.YtcondkihpmmnnaaGreatDoorTwin21
set_option maxRecDepth 100000
set_option maxHeartbeats 16000000
namespace Go.Proofs.YtcondkihpmmnnaaGreatDoor
section
open Go.RowKit Go.Sort Go.Shelf
attribute [local go_sem] Gl
theorem Ql (t:Fs) (vt:Value) (B:Nat) (w:World) (bu:EK w B t vt) (hB:B<=w.heap.size) :Calls Tryz.prog 27 #[vt] w (Qk t w):=by
 have bb:=bu;obtain⟨A1,c1,A2,c2,A3,c3,rfl,h1,h2,h3,h4,h5,h6,h7,h8,R1,W1,R2,W2,R3,W3⟩:=bu;have B0:Below w.heap.size w ((w.alloc (.cells #[.int .i64 t.n,.slice A1 t.starts.length c1,.slice A2 t.ends.length c2,.slice A3 t.arcs.length c3] 32)).alloc (.cells #[.int .i64 0,.slice none 0 0,.slice none 0 0,.slice none 0 0] 32)):=((AH _ w).alloc (AD _) _).alloc (by simp) _;have Ja:=(BL.new w 32 #[.int .i64 t.n,.slice A1 t.starts.length c1,.slice A2 t.ends.length c2,.slice A3 t.arcs.length c3]).alloc (.cells #[.int .i64 0,.slice none 0 0,.slice none 0 0,.slice none 0 0] 32);have Jr:=BL.new (w.alloc (.cells #[.int .i64 t.n,.slice A1 t.starts.length c1,.slice A2 t.ends.length c2,.slice A3 t.arcs.length c3] 32)) 32 #[.int .i64 0,.slice none 0 0,.slice none 0 0,.slice none 0 0];simp only[Ad]at Jr;have ao:=fun W (hb:Below w.heap.size w W)=>GX t _ B W (bb.below (hb.mono hB)) (AK hB hb.size)
 have bv:=AB (fun w' (hf:Dq t=false) (hb:Below w.heap.size w w')=>show Qk t w (.returned (.tuple #[.agg #[.int .i64 0,.slice none 0 0,.slice none 0 0,.slice none 0 0],.int .i64 1])) w' from⟨fs0,1,⟨_,rfl,Mz _ _,Kn _,hb⟩,fun h=>absurd h (by decide),.inr rfl,fun h=>by rw[hf]at h;cases h⟩);have y:=ao _ B0;have j0:=Ja.cell 0;have j1:=Ja.cell 1;have j2:=Ja.cell 2;have j3:=Ja.cell 3;rcases ag:Dq t with _|_
 .rw [ag]at y
  replace y:Calls Tryz.prog 20 _ _ (C7 (.int .i64 1) _):=y;have bi:=AB ag;clear ag ao R1 W1 R2 W2 R3 W3;generalize t.starts.length=n1 at *;generalize t.ends.length=n2 at *;generalize t.arcs.length=n3 at *;refine(Ge (n:=3)).1 (callsIn_of_wp_marks Tryz.func27 rfl trivial (wpIn_wide.2 ?_) rfl);simp only[Tryz.ntmps27,CJ,Bn,Co,Nat.reduceAdd,Nat.reduceSub,ES,ET,FG,En,Cy,Cf]
  go_wp2_with fail
  refine y.mono ?_;rintro e w1 ⟨rfl,ab⟩;have G:=Jr.below ab Jr.lt;have al:=B0.trans (ab.mono (by simp;omega));have q0:=G.cell 0;have q1:=G.cell 1;have q2:=G.cell 2;have q3:=G.cell 3;have f0:=G.frozen 0;have f1:=G.frozen 1;have f2:=G.frozen 2;have f3:=G.frozen 3;clear Ja Jr j0 j1 j2 j3 ab B0 y;go_wp2;exact⟨.tuple #[.agg #[.int .i64 0,.slice none 0 0,.slice none 0 0,.slice none 0 0],.int .i64 1],by simp[results,Tryz.results27,go_sem,q0,q1,q2,q3],bv.out _ bi.out (Dn al (by omega) _ _ _ _)⟩
 .rw [ag]at y
  replace y:Calls Tryz.prog 20 _ _ (C7 (.int .i64 0) _):=y;have bi:=AB ag;obtain⟨p1,p2,p3,p4,p5⟩:=Oj ag;obtain⟨n,hn⟩:∃n:Nat,t.n=(n:Int):=⟨_,(AT p1).symm⟩
  have HN:=AB hn;have ai:n<=1024:=by omega
  rw[hn]at y j0 Ja Jr B0;have P3:=AB p3.2;have P4:=AB p4.2;have P5:=AB p5.2;have d6:=p3.1;have d7:=p4.1;have c4:=p5.1;have d8:=AB W1;have d9:=AB W2;have c5:=AB W3;clear ag ao W1 W2 W3 p1 p2 p3 p4 p5 bb bv;show Calls Tryz.prog 27 #[.agg #[.int .i64 t.n,.slice A1 t.starts.length c1,.slice A2 t.ends.length c2,.slice A3 t.arcs.length c3]] w _;rw[hn];clear hn;generalize bw:t.starts.length=n1 at *;generalize bx:t.ends.length=n2 at *;generalize bz:t.arcs.length=n3 at *;have HL:=AB (show t.starts.length=n1/\t.ends.length=n2/\t.arcs.length=n3 from⟨bw,bx,bz⟩);clear bw bx bz;obtain⟨i0,hi,P,Q,R⟩:=BK Qj;have b0:i0.bytes*n<=281474976710656:=by rw[R];omega
  have c7:n<=maxLen:=by unfold maxLen;omega
  refine(Ge (n:=3)).1 (callsIn_of_wp_marks Tryz.func27 rfl trivial (wpIn_wide.2 ?_) rfl);simp only[Tryz.ntmps27,CJ,Bn,Co,Nat.reduceAdd,Nat.reduceSub,ES,ET,FG,En,Cy,Cf]
  go_wp2_with fail
  refine y.mono ?_;rintro e w1 ⟨rfl,ab⟩;have G:=Jr.below ab Jr.lt;have ap:=Ja.below ab Ja.lt;have al:=B0.trans (ab.mono (by simp;omega));have k0:=ap.cell 0;have ea:w.heap.size+1<w1.heap.size:=G.lt;clear Ja Jr j0 j1 j2 j3 ab B0 y
  go_wp2_with (at_make;refine Cw _ rfl _ _ 55 rfl w1.heap.size 3 i0 _ 1 Tryz.underlying55 hi P Q _ _ (n:Int) (n:Int) n rfl rfl rfl rfl b0 c7 (AD _) ?_;intro w2 a b4)
  have ah:=(AH w1.heap.size w1).grown b4 (AD _) (fun k e=>by cases e);rw[show(Value.int .i64 0).cells=#[Value.int .i64 0]from rfl,CG,BZ]at a;have hG:=DG a;rw[<-Xo]at hG;have N:=(AH w2.heap.size w2).alloc (AD _) (.cells #[.slice (some ⟨w1.heap.size,0,none⟩) n n] 55);have aa:=BL.new w2 55 #[.slice (some ⟨w1.heap.size,0,none⟩) n n];have b5:=hG.below N hG.lt;have b7:=(G.below ah G.lt).below N (by have:=ah.size;have:=G.lt;omega);have b8:=(ap.below ah ap.lt).below N (by have:=ah.size;have:=ap.lt;omega);have b9:=(al.trans (ah.mono al.size)).trans (N.mono (by have:=al.size;have:=ah.size;omega));have bj:w1.heap.size<w2.heap.size:=hG.lt;clear a b4 ah hG N G ap al k0 hi P Q R b0;generalize (w2.alloc (.cells #[.slice (some ⟨w1.heap.size,0,none⟩) n n] 55))=w3 at *;generalize w2.heap.size=BN at *;generalize w1.heap.size=L at *;go_loopw [27] (fun i wr=>∃(k:Nat),k<=n/\i=.int .i64 ((k:Nat):Int)/\BL wr L 3 (TH n k)/\BL wr BN 55 #[.slice (some ⟨L,0,none⟩) n n]/\BL wr w.heap.size 32 #[.int .i64 (n:Int),.slice A1 n1 c1,.slice A2 n2 c2,.slice A3 n3 c3]/\BL wr (w.heap.size+1) 32 #[.int .i64 0,.slice none 0 0,.slice none 0 0,.slice none 0 0]/\Below w.heap.size w wr) (fun i _=>n-(intOf i).toNat)
  case atStart=>exact⟨0,AN _,rfl,b5,aa,b8,b7,b9⟩
  case round=>
   clear b5 aa b8 b7 b9;obtain⟨k,hk,rfl,HG,aa,Ja,Jr,hb⟩:=hrel;by_cases ac:k<n
   .have bk:(0:Int)<=(k:Int):=by omega
    have bl:(k:Int)<(n:Int):=by omega
    have c0:=aa.cell 0;have cg:wr.cell? ⟨L,k,none⟩=some (.int .i64 0):=by rw[HG.cell];unfold TH;simp[ac]
    have fg:=HG.frozen k;have ca:=HG.set_ k (.int .i64 (-1));rw[Ze]at ca;have cb:=aa.far (p:=⟨L,k,none⟩) (by show BN≠L;omega) (.int .i64 (-1));have c8:=Ja.far (p:=⟨L,k,none⟩) (by show w.heap.size≠L;omega) (.int .i64 (-1));have da:=Jr.far (p:=⟨L,k,none⟩) (by show w.heap.size+1≠L;omega) (.int .i64 (-1));have db:=hb.setCell (p:=⟨L,k,none⟩) (by show w.heap.size<=L;omega) (.int .i64 (-1));clear HG aa Ja Jr hb;go_wp2;go_roundw
    case rel=>exact⟨k+1,by omega,by go_num,ca,cb,c8,da,db⟩
    case measure=>simp[intOf];omega
   .obtain rfl:n=k:=by omega
    rw[Zf]at HG;have k0:=Ja.cell 0;have k1:=Ja.cell 1;have k2:=Ja.cell 2;have k3:=Ja.cell 3;have N:=(AH wr.heap.size wr).alloc (AD _) (.cells #[.int .i64 0,.slice none 0 0,.slice none 0 0,.slice none 0 0] 32);have H6:=BL.new wr 32 #[.int .i64 0,.slice none 0 0,.slice none 0 0,.slice none 0 0];have HT:TrW w (wr.alloc (.cells #[.int .i64 0,.slice none 0 0,.slice none 0 0,.slice none 0 0] 32)) L BN wr.heap.size n #[.int .i64 (n:Int),.slice A1 n1 c1,.slice A2 n2 c2,.slice A3 n3 c3] []:=⟨Ja.below N Ja.lt,Jr.below N Jr.lt,aa.below N aa.lt,HG.below N HG.lt,H6,hb.trans (N.mono hb.size),by have:=Jr.lt;have:=HG.lt;omega,by omega⟩;have j0:=HT.bt.cell 0;have j1:=HT.bt.cell 1;have j2:=HT.bt.cell 2;have j3:=HT.bt.cell 3;have hU:=Vi t A1 A2 A3 n1 c1 n2 c2 n3 c3 B n _ (R3.below (HT.bel.mono hB)) (AK hB HT.bel.size) ai c4 (fun x H=>by have:=P5.out x H;have e:=HN.out;exact⟨this.1,by omega,this.2.2.1,by omega⟩);clear Ja Jr aa HG H6 N hb k0 k1 k2 k3
    go_wp2_with fail
    refine hU.mono ?_;rintro e Y ⟨Bo,Bb,L1,L2,ba,v1,v2,rfl,bm⟩;have ad:=HT.call bm.bel;clear hU HT j0 j1 j2 j3;go_wp2;have dc:(wr.alloc (.cells #[.int .i64 0,.slice none 0 0,.slice none 0 0,.slice none 0 0] 32)).heap.size=wr.heap.size+1:=by simp
    rw[dc]at bm;generalize wr.heap.size=O at *;have aq:=ad.bel;have dw:O<Y.heap.size:=ad.b6.lt;have dx:L<Y.heap.size:=ad.nN.lt;have dy:BN<Y.heap.size:=ad.bN.lt;have dd:=ad.l6;have de:=ad.lN
    have cc:=TI 2 (by decide) t _ Y (O+1) Bo Bb L1 L2 n ba A1 A2 A3 n1 c1 n2 c2 n3 c3 v1 v2 bm
     ((R1.below (aq.mono hB)).more (AK hB aq.size)) ((R2.below (aq.mono hB)).more (AK hB aq.size)) ai
     ⟨by omega,fun x H=>by have:=P3.out x H;have e:=HN.out;exact⟨this.1,by omega⟩⟩ ⟨by omega,fun x H=>by have:=P4.out x H;have e:=HN.out;exact⟨this.1,by omega⟩⟩ (by have:=HL.out;omega)
     (fun x H=>by have:=P5.out x H;have e:=HN.out;exact⟨this.1,by omega,this.2.2.1,by omega⟩)
    refine(wpIn_wide (n:=3)).1 ?_
    refine wpIn_rangeFunc_ownH rfl (by decide) (gf:=91) (lb:=#[.pointer (some ⟨O+1,0,none⟩),.pointer (some ⟨Bo,0,none⟩),.pointer (some ⟨Bb,0,none⟩)]) rfl trivial (FY Tryz.func91 (by kernel_rfl) rfl)
     cc O_.trans (fun W l o o' hl df hc _=>⟨by simp,fun k cs T fr _ hk=>CX (fun e=>by subst e;rw[df]at hk;cases hk;cases hc)⟩) (AH _ _) (fun _=>rfl)
     (fun pre W=>TrW w W L BN O n #[.int .i64 (n:Int),.slice A1 n1 c1,.slice A2 n2 c2,.slice A3 n3 c3] (pre.map Fin.val)) (fun _ _ _=>False) (Vm TrW.own aq.size) (fun _ _ _ _ _ hs _ _=>hs) ad
     (fun x a' W=>a'={ tmps:=#[.agg #[.int .i64 (n:Int),.slice A1 n1 c1,.slice A2 n2 c2,.slice A3 n3 c3],.pointer (some ⟨w.heap.size,0,none⟩),.pointer (some ⟨w.heap.size+1,0,none⟩),.int .i64 0,.pointer (some ⟨BN,0,none⟩),u5,.pointer (some ⟨O,0,none⟩),.int .i64 ((x.val:Nat):Int),undef,undef,undef,undef,undef,undef,undef,undef,undef,undef,.agg #[.int .i64 (n:Int),.slice A1 n1 c1,.slice A2 n2 c2,.slice A3 n3 c3],.int .i64 0,.bool false,undef,.pointer (some ⟨w.heap.size,0,none⟩),.int .i64 (n:Int),.slice (some ⟨L,0,none⟩) n n,.slice (some ⟨L,0,none⟩) n n,.int .i64 (n:Int),.int .i64 (n:Int),.bool false,u29,u30,u31,u32,u33,.agg #[.int .i64 (n:Int),.slice A1 n1 c1,.slice A2 n2 c2,.slice A3 n3 c3],.func (.func 91) #[] #[.pointer (some ⟨O+1,0,none⟩),.pointer (some ⟨Bo,0,none⟩),.pointer (some ⟨Bb,0,none⟩)],.int .i64 ((x.val:Nat):Int),undef,undef,undef,undef,undef,undef,undef,undef,undef,undef,undef,undef,undef,undef,undef,undef,undef,undef,undef,undef,undef,undef,undef,undef,undef,undef,undef,undef,undef,undef,undef,undef,undef,undef,undef,undef,undef,undef,undef,undef,undef,undef,undef,undef,undef,undef,undef,undef,undef,undef,undef,undef,undef,undef,undef,undef,undef,undef,undef,undef,undef,undef,undef,undef,undef,undef,undef,undef,undef,undef,undef,undef,undef,undef,undef,undef,undef,undef,undef,undef,undef,undef,undef,undef,undef,undef,undef,undef,undef,undef,undef,undef,undef,undef,undef,undef,undef,undef,undef],defers:=[] }) (fun _ _ _ _ _ _ hs _ _=>hs) ?assign ?body ?done ?stop
    case assign=>intro l pre x W K J hK;gi_wp2;exact hK _ _ (KeepsFrom.refl _ _) ⟨AD _,fun _ _ _ _ _ _=>rfl⟩ J rfl
    case body=>
     rintro l pre x a' W hl ⟨r,hr⟩ J rfl ac;have dg:=x.isLt;have eb:(0:Int)<=(x.val:Int):=by omega
     have ec:(x.val:Int)<(n:Int):=by omega
     have U:L≠O:=fun e=>by have h1:=J.nN;have h2:=J.b6;unfold BL at h1 h2;rw[e,h2]at h1;injection h1 with h1;injection h1 with _ h1;exact absurd h1 (by decide)
     have cd:BN≠L:=fun e=>by omega
     have c0:=J.bN.cell 0;have c6:=J.b6.cell 0;have cg:=Kv J.nN x.val dg;have fg:=J.nN.frozen x.val;have bn:=J.nN.set_ x.val (.int .i64 ((pre.map Fin.val).length:Int));rw[Zd]at bn;have a5:=J.b6.far (p:=⟨L,x.val,none⟩) (fun e=>U e.symm) (.int .i64 ((pre.map Fin.val).length:Int));have ce:=J.bN.far (p:=⟨L,x.val,none⟩) cd (.int .i64 ((pre.map Fin.val).length:Int));have cf:=J.bt.far (p:=⟨L,x.val,none⟩) (by show w.heap.size≠L;omega) (.int .i64 ((pre.map Fin.val).length:Int));have ch:=J.br.far (p:=⟨L,x.val,none⟩) (by show w.heap.size+1≠L;omega) (.int .i64 ((pre.map Fin.val).length:Int));have bc:=J.bel.setCell (p:=⟨L,x.val,none⟩) (by show w.heap.size<=L;omega) (.int .i64 ((pre.map Fin.val).length:Int));rw[A6]at c6 bn a5 ce cf ch bc;have ed:=a5.cell 0;have f61:=a5.frozen 0;have ee:pre.length+1<9223372036854775808:=by omega
     gi_wp2;refine⟨((FM _ _ _).trans (FM _ _ _)).from _,⟨by simp,fun k cs T fr hk _=>?_⟩,?_⟩
     .rw [Am _ _ _ _ (show k≠O by omega),Am _ _ _ _ (show k≠L by omega)]
     .have dh:=a5.set_ 0 (.int .i64 ((pre.length:Int)+1))
      have e1:(pre++[x]).map Fin.val=pre.map Fin.val++[x.val]:=by rw[CH];rfl
      have e2:(((pre++[x]).map Fin.val).length:Int)=(pre.length:Int)+1:=by simp
      refine⟨cf.far (p:=⟨O,0,none⟩) (by show w.heap.size≠O;omega) _,ch.far (p:=⟨O,0,none⟩) (by show w.heap.size+1≠O;omega) _,ce.far (p:=⟨O,0,none⟩) (J.bN.ne_ J.b6 (by decide)) _,?_,?_,bc.setCell (p:=⟨O,0,none⟩) (by show w.heap.size<=O;omega) _,dd,de⟩
      .rw [e1];exact bn.far (p:=⟨O,0,none⟩) U _
      .rw [e2];exact dh
    case done=>
     rintro D ys W hD hU J hK;clear ad cc;have HU:=AB hU;obtain⟨zs,ci⟩:∃zs:List Nat,zs=ys.map Fin.val:=⟨_,rfl⟩
     rw[<-ci]at J HU;clear hU ci;have ef:zs.length<=n:=by obtain⟨p,_,e⟩:=HU.out;rw[e];exact AK (CA _ _) (by rw[EA];exact AD _)
     have cj:D<W.heap.size:=by rcases BF D W.heap.size with h|h;exact h;rw[Cn h]at hK;cases hK
     have ck:O≠D:=fun e=>by have:=J.b6;unfold BL at this;rw[e,hK]at this;cases this
     have m:=PutW.new J.b6 (show w.heap.size<=O by omega);have ar:=J.bel;have bo:=J.bt;have di:=J.br;have aj:=J.bN;have au:=J.nN;have ak:=au.ne_ J.b6 (by decide);have av:=aj.ne_ J.b6 (by decide);have dj:=R1.below (ar.mono hB);have dk:=R2.below (ar.mono hB);have dl:=R3.below (ar.mono hB);have dz:B<=O:=by omega
     have b1:=bo.cell 1;clear J;go_wp2;clear b1;go_loopw [49] (fun i wr=>∃(k:Nat) (v:Value),k<=n1/\i=.int .i64 ((k:Nat):Int)/\PutW w.heap.size W wr O (zs.length:Int) v (.slice none 0 0) (.slice none 0 0) (Na zs (t.starts.take k)) [] []) (fun i _=>n1-(intOf i).toNat)
     case atStart=>exact⟨0,_,AN _,rfl,m⟩
     case round=>
      clear m;obtain⟨k,v,hk,rfl,m⟩:=hrel;by_cases ac:k<n1
      .have bk:(0:Int)<=(k:Int):=by omega
       have bl:(k:Int)<(n1:Int):=by omega
       obtain⟨g,o,rfl,cl,d0,d1⟩:=Dh (dj.below (m.bel.mono (AK hB (AD _)))) k ac;have hq:=P3.out _ (getD_in t.starts DI k (by have:=HL.out;omega));have f:=UU zs t.starts k (by have:=HL.out;omega);have bd:=AK (TF zs (t.starts.take k)) (List.length_take_le _ _);generalize t.starts.getD k DI=q at *;obtain⟨qs,V⟩:=q;simp only at d0 d1 hq f;obtain⟨s,rfl⟩:∃s:Nat,qs=(s:Int):=⟨_,(AT hq.1).symm⟩
       rw[BO]at f;have hs:s<n:=by have:=HN.out;omega
       have cm:(0:Int)<=(s:Int):=by omega
       have cn:(s:Int)<(n:Int):=by omega
       have N:=(AH wr.heap.size wr).alloc (AD _) (.cells #[.int .i64 (s:Int),.string V] 54);have j:=m.call N;have HX:=BL.new wr 54 #[.int .i64 (s:Int),.string V];have x0:=HX.cell 0;have x1:=HX.cell 1;have y0:=(j.blk aj av).cell 0;have y1:=Kv (j.blk au ak) s hs;have I:=AB f;have dm:=AB (Lk zs s);clear f m N;generalize H4 zs s=z at *;by_cases hz:0<=z
       .obtain ⟨A0,c0,rfl,u1,u2,u3⟩:=BH j.oS
        have t1:=j.t.cell 1;obtain⟨i0,hi,P,Q,R⟩:=BK G0;have b:=j.call ((AH _ _).alloc (AD _) (.cells #[.int .i64 z,.string V] 54));have Z:=Bg (wr.alloc (.cells #[.int .i64 (s:Int),.string V] 54)) [.int .i64 z,.string V] 54 2 1 rfl;rw[Ad]at Z;have co:=b.oS;have M:=GH ⟨z,V⟩;have ae:Na zs (t.starts.take (k+1))=Na zs (t.starts.take k)++[⟨z,V⟩]:=by rw[I.out,AU hz]
        have aw:=AB ae;have h63:(Na zs (t.starts.take k)).length+1<=maxLen:=by unfold maxLen;omega
        have af:((Na zs (t.starts.take k)).length+1)*24<=140737488355328:=by omega
        have A:=b.size;clear ae j;generalize Na zs (t.starts.take k)=S at *;have C:∀Y v',World.ownsRow Y W.heap.size 54 2 v' (S.length+1) (B_ CL S++CL ⟨z,V⟩)->Y.ownsRow W.heap.size 54 2 v' (S++[(⟨z,V⟩:Tp)]).length (B_ CL (S++[(⟨z,V⟩:Tp)])):=fun Y v' h=>by rw[Ej,AJ];exact h
        have U:(54:TypeId)≠32:=by decide
        go_wp2_with (at_builtin;refine Ba _ rfl _ _ 29 rfl W.heap.size 54 i0 _ 2 24 Tryz.underlying29 hi P Q R rfl (by decide) _ _ _ rfl co _ (some ⟨wr.heap.size+1,0,none⟩) 1 1 [.int .i64 z,.string V] rfl Z M h63 af A ?_;intro v' Y a d X;obtain⟨A9,c9,hv,ax,ay,az⟩:=BH a;subst hv;have E:=C _ _ a;have a0:=b.putS d E X;have kt:=BM b.t d (AV b.oS b.t U);have q1:=kt.cell 1;have q2:=kt.frozen 1;clear kt a E d X ax ay az)
        clear b Z co M C U h63 af A i0 hi P Q R;go_roundw
        case rel=>exact⟨k+1,_,by omega,by go_num,by rw[aw.out];exact a0⟩
        case measure=>simp[intOf];omega
       .have cq:z<0:=by omega
        go_wp2;go_roundw
        case rel=>exact⟨k+1,v,by omega,by go_num,by rw[I.out,AP hz,BC];exact j⟩
        case measure=>simp[intOf];omega
      .obtain rfl:n1=k:=by omega
       rw[BX (by have:=HL.out;omega)]at m;obtain⟨V1,d1,rfl,_,_,_⟩:=BH m.oS;have b2:=(m.blk bo (show w.heap.size≠O by omega)).cell 2;generalize eg:(Na zs t.starts).length=m1 at *;go_wp2;clear b2;go_loopw [73] (fun i wr=>∃(k:Nat) (v:Value),k<=n2/\i=.int .i64 ((k:Nat):Int)/\PutW w.heap.size W wr O (zs.length:Int) (.slice V1 m1 d1) v (.slice none 0 0) (Na zs t.starts) (Na zs (t.ends.take k)) []) (fun i _=>n2-(intOf i).toNat)
       case atStart=>exact⟨0,_,AN _,rfl,m⟩
       case round=>
        clear m;obtain⟨k,v,hk,rfl,m⟩:=hrel;by_cases ac:k<n2
        .have bk:(0:Int)<=(k:Int):=by omega
         have bl:(k:Int)<(n2:Int):=by omega
         obtain⟨g,o,rfl,cl,dn,dp⟩:=Dh (dk.below (m.bel.mono (AK hB (AD _)))) k ac;have hq:=P4.out _ (getD_in t.ends DI k (by have:=HL.out;omega));have f:=UU zs t.ends k (by have:=HL.out;omega);have bd:=AK (TF zs (t.ends.take k)) (List.length_take_le _ _);generalize t.ends.getD k DI=q at *;obtain⟨qs,V⟩:=q;simp only at dn dp hq f;obtain⟨s,rfl⟩:∃s:Nat,qs=(s:Int):=⟨_,(AT hq.1).symm⟩
         rw[BO]at f;have hs:s<n:=by have:=HN.out;omega
         have cm:(0:Int)<=(s:Int):=by omega
         have cn:(s:Int)<(n:Int):=by omega
         have N:=(AH wr.heap.size wr).alloc (AD _) (.cells #[.int .i64 (s:Int),.string V] 54);have j:=m.call N;have HX:=BL.new wr 54 #[.int .i64 (s:Int),.string V];have x0:=HX.cell 0;have x1:=HX.cell 1;have y0:=(j.blk aj av).cell 0;have y1:=Kv (j.blk au ak) s hs;have I:=AB f;have dm:=AB (Lk zs s);clear f m N;generalize H4 zs s=z at *;by_cases hz:0<=z
         .obtain ⟨A0,c0,rfl,u1,u2,u3⟩:=BH j.oE
          have t1:=j.t.cell 2;obtain⟨i0,hi,P,Q,R⟩:=BK G0;have b:=j.call ((AH _ _).alloc (AD _) (.cells #[.int .i64 z,.string V] 54));have Z:=Bg (wr.alloc (.cells #[.int .i64 (s:Int),.string V] 54)) [.int .i64 z,.string V] 54 2 1 rfl;rw[Ad]at Z;have cr:=b.oE;have M:=GH ⟨z,V⟩;have ae:Na zs (t.ends.take (k+1))=Na zs (t.ends.take k)++[⟨z,V⟩]:=by rw[I.out,AU hz]
          have aw:=AB ae;have h63:(Na zs (t.ends.take k)).length+1<=maxLen:=by unfold maxLen;omega
          have af:((Na zs (t.ends.take k)).length+1)*24<=140737488355328:=by omega
          have A:=b.size;clear ae j;generalize Na zs (t.ends.take k)=S at *;have C:∀Y v',World.ownsRow Y W.heap.size 54 2 v' (S.length+1) (B_ CL S++CL ⟨z,V⟩)->Y.ownsRow W.heap.size 54 2 v' (S++[(⟨z,V⟩:Tp)]).length (B_ CL (S++[(⟨z,V⟩:Tp)])):=fun Y v' h=>by rw[Ej,AJ];exact h
          have U:(54:TypeId)≠32:=by decide
          go_wp2_with (at_builtin;refine Ba _ rfl _ _ 29 rfl W.heap.size 54 i0 _ 2 24 Tryz.underlying29 hi P Q R rfl (by decide) _ _ _ rfl cr _ (some ⟨wr.heap.size+1,0,none⟩) 1 1 [.int .i64 z,.string V] rfl Z M h63 af A ?_;intro v' Y a d X;obtain⟨A9,c9,hv,ax,ay,az⟩:=BH a;subst hv;have E:=C _ _ a;have a0:=b.putE d E X;have kt:=BM b.t d (AV b.oE b.t U);have q1:=kt.cell 2;have q2:=kt.frozen 2;clear kt a E d X ax ay az)
          clear b Z cr M C U h63 af A i0 hi P Q R;go_roundw
          case rel=>exact⟨k+1,_,by omega,by go_num,by rw[aw.out];exact a0⟩
          case measure=>simp[intOf];omega
         .have cq:z<0:=by omega
          go_wp2;go_roundw
          case rel=>exact⟨k+1,v,by omega,by go_num,by rw[I.out,AP hz,BC];exact j⟩
          case measure=>simp[intOf];omega
        .obtain rfl:n2=k:=by omega
         rw[BX (by have:=HL.out;omega)]at m;obtain⟨V2,d2,rfl,_,_,_⟩:=BH m.oE;have b3:=(m.blk bo (show w.heap.size≠O by omega)).cell 3;generalize eh:(Na zs t.ends).length=m2 at *;go_wp2;clear b3;go_loopw [97] (fun i wr=>∃(k:Nat) (v:Value),k<=n3/\i=.int .i64 ((k:Nat):Int)/\PutW w.heap.size W wr O (zs.length:Int) (.slice V1 m1 d1) (.slice V2 m2 d2) v (Na zs t.starts) (Na zs t.ends) (Ti zs (t.arcs.take k))) (fun i _=>n3-(intOf i).toNat)
         case atStart=>exact⟨0,_,AN _,rfl,m⟩
         case round=>
          clear m;obtain⟨k,v,hk,rfl,m⟩:=hrel;by_cases ac:k<n3
          .have bk:(0:Int)<=(k:Int):=by omega
           have bl:(k:Int)<(n3:Int):=by omega
           obtain⟨g,o,rfl,cl,e0,e1,e2,e3,e4,e5,e6,e7⟩:=Di (dl.below (m.bel.mono hB)) k ac;have hq:=P5.out _ (getD_in t.arcs Cq k (by have:=HL.out;omega));have f:=Zc zs t.arcs k (by have:=HL.out;omega);have bd:=AK (Wm zs (t.arcs.take k)) (List.length_take_le _ _);generalize t.arcs.getD k Cq=q at *;obtain⟨fr,tt,⟨s1,s2,s3,s4⟩,xo,cp⟩:=q;simp only at e0 e1 e2 e3 e4 e5 e6 e7 hq f;obtain⟨s,rfl⟩:∃s:Nat,fr=(s:Int):=⟨_,(AT hq.1).symm⟩
           obtain⟨u,rfl⟩:∃u:Nat,tt=(u:Int):=⟨_,(AT hq.2.2.1).symm⟩
           rw[BO,BO]at f;have hs:s<n:=by have:=HN.out;omega
           have hu:u<n:=by have:=HN.out;omega
           have cm:(0:Int)<=(s:Int):=by omega
           have cn:(s:Int)<(n:Int):=by omega
           have ei:(0:Int)<=(u:Int):=by omega
           have ej:(u:Int)<(n:Int):=by omega
           have N:=(AH wr.heap.size wr).alloc (AD _) (.cells #[.int .i64 (s:Int),.int .i64 (u:Int),.int .u64 (s1:Int),.int .u64 (s2:Int),.int .u64 (s3:Int),.int .u64 (s4:Int),.string xo,.bool cp] 61);have j:=m.call N;have HX:=BL.new wr 61 #[.int .i64 (s:Int),.int .i64 (u:Int),.int .u64 (s1:Int),.int .u64 (s2:Int),.int .u64 (s3:Int),.int .u64 (s4:Int),.string xo,.bool cp];have x0:=AF (HX.cell 0);have x1:=AF (HX.cell 1);have y0:=AF ((j.blk aj av).cell 0);have y1:=AF (Kv (j.blk au ak) s hs);have y2:=AF (Kv (j.blk au ak) u hu);have I:=AB f;clear f m N hq;generalize H4 zs s=z at *;generalize H4 zs u=z2 at *;go_wp2;clear e0 e1 e2 e3 e4 e5 e6 e7;refine Au (by kernel_rfl) (by kernel_rfl) ?_
           repeat (go_big_quiet_step (fail))
           refine Ah ?_;intro Y ct;have N:=Bu ct;have am:=j.call N;have an:=HX.below N HX.lt;clear ct x0 x1 y0 y1 y2 j HX N;have x2:=an.cell 2;have x3:=an.cell 3;have x4:=an.cell 4;have x5:=an.cell 5;have x6:=an.cell 6;have x7:=an.cell 7;by_cases hz:0<=z
           .by_cases bj:0<=z2
            .obtain ⟨A0,c0,rfl,u1,u2,u3⟩:=BH am.oA
             have t1:=am.t.cell 3;obtain⟨i0,hi,P,Q,R⟩:=BK Ig;have b:=am.call ((AH _ _).alloc (AD _) (.cells #[.int .i64 z,.int .i64 z2,.int .u64 (s1:Int),.int .u64 (s2:Int),.int .u64 (s3:Int),.int .u64 (s4:Int),.string xo,.bool cp] 61));have Z:=Bg Y [.int .i64 z,.int .i64 z2,.int .u64 (s1:Int),.int .u64 (s2:Int),.int .u64 (s3:Int),.int .u64 (s4:Int),.string xo,.bool cp] 61 8 1 rfl;have cu:=b.oA;have M:=ID ⟨z,z2,⟨s1,s2,s3,s4⟩,xo,cp⟩;have ae:Ti zs (t.arcs.take (k+1))=Ti zs (t.arcs.take k)++[⟨z,z2,⟨s1,s2,s3,s4⟩,xo,cp⟩]:=by rw[I.out,AU ⟨hz,bj⟩]
             have aw:=AB ae;have h63:(Ti zs (t.arcs.take k)).length+1<=maxLen:=by unfold maxLen;omega
             have af:((Ti zs (t.arcs.take k)).length+1)*72<=140737488355328:=by omega
             have A:=b.size;clear ae am;generalize Ti zs (t.arcs.take k)=S at *;have C:∀Y v',World.ownsRow Y W.heap.size 61 8 v' (S.length+1) (B_ Cx S++Cx ⟨z,z2,⟨s1,s2,s3,s4⟩,xo,cp⟩)->Y.ownsRow W.heap.size 61 8 v' (S++[(⟨z,z2,⟨s1,s2,s3,s4⟩,xo,cp⟩:Ar)]).length (B_ Cx (S++[(⟨z,z2,⟨s1,s2,s3,s4⟩,xo,cp⟩:Ar)])):=fun Y v' h=>by rw[Ej,AJ];exact h
             have U:(61:TypeId)≠32:=by decide
             go_wp2_with (at_builtin;refine Ba _ rfl _ _ 30 rfl W.heap.size 61 i0 _ 8 72 Tryz.underlying30 hi P Q R rfl (by decide) _ _ _ rfl cu _ (some ⟨Y.heap.size,0,none⟩) 1 1 [.int .i64 z,.int .i64 z2,.int .u64 (s1:Int),.int .u64 (s2:Int),.int .u64 (s3:Int),.int .u64 (s4:Int),.string xo,.bool cp] rfl Z M h63 af A ?_;intro v' w6 a d X;obtain⟨A9,c9,hv,ax,ay,az⟩:=BH a;subst hv;have E:=C _ _ a;have a0:=b.putA d E;have kt:=BM b.t d (AV b.oA b.t U);have q1:=kt.cell 3;have q2:=kt.frozen 3;clear kt a E d X ax ay az)
             clear b Z cu M C U h63 af A i0 hi P Q R;go_roundw
             case rel=>exact⟨k+1,_,by omega,by go_num,by rw[aw.out];exact a0⟩
             case measure=>simp[intOf];omega
            .have d4:z2<0:=by omega
             go_wp2;go_roundw
             case rel=>exact⟨k+1,v,by omega,by go_num,by rw[I.out,AP (fun h=>bj h.2),BC];exact am⟩
             case measure=>simp[intOf];omega
           .have cq:z<0:=by omega
            go_wp2;go_roundw
            case rel=>exact⟨k+1,v,by omega,by go_num,by rw[I.out,AP (fun h=>hz h.1),BC];exact am⟩
            case measure=>simp[intOf];omega
          .obtain rfl:n3=k:=by omega
           rw[BX (by have:=HL.out;omega)]at m;obtain⟨V3,d3,rfl,_,_,_⟩:=BH m.oA;have hA8:∀x∈t.arcs,0<=x.fr/\x.fr<t.n/\0<=x.to/\x.to<t.n/\OU x.set/\x.set≠St.none:=fun x H=>by obtain⟨y1,y2,y3,y4,_,y6⟩:=P5.out x H;obtain⟨_,_,_,_,y5,_⟩:=c5.out x H;exact⟨y1,y2,y3,y4,y5,y6⟩
           have a6:=X1K (zs:=zs) (l:=t.starts) (by have:=HL.out;omega) (fun x H=>(P3.out x H).2.2);have a7:=X1K (zs:=zs) (l:=t.ends) (by have:=HL.out;omega) (fun x H=>(P4.out x H).2.2);have a8:=trA_B (zs:=zs) (l:=t.arcs) (by have:=HL.out;omega) (fun x H=>⟨(P5.out x H).2.2.2.2.1,(hA8 x H).2.2.2.2⟩);have bp:(0:Int)<=(zs.length:Int)/\(zs.length:Int)<=1024:=⟨Int.natCast_nonneg _,by omega⟩;have be:∀e W9,GF (G4 (trF t zs)) 0 w e W9->Qk t w e W9:=fun e W9 h=>⟨_,0,h,fun _=>⟨bi.out,Xq bp a6 a7 a8,_,Zh HN.out (fun x H=>⟨(P3.out x H).1,(P3.out x H).2.1⟩) (fun x H=>⟨(P4.out x H).1,(P4.out x H).2.1⟩) hA8 HU.out⟩,.inl rfl,fun _=>rfl⟩
           have cv:=AB be
           have bf:=m.fst (by omega) (fun x H=>by obtain⟨y1,y2,y3⟩:=a6.2 x H;exact⟨by omega,by omega,by unfold maxLen;omega⟩) (fun x H=>by obtain⟨y1,y2,y3⟩:=a7.2 x H;exact⟨by omega,by omega,by unfold maxLen;omega⟩)
            (fun x H=>by obtain⟨y1,y2,y3,y4,y5,y6,_⟩:=a8.2 x H;exact⟨by omega,by omega,by omega,by omega,y6,by unfold maxLen;omega⟩)
           have a1:=KZ ⟨(zs.length:Int),Na zs t.starts,Na zs t.ends,Ti zs t.arcs⟩ _ _ wr bf (AD _);rw[TG bp a6 a7 a8,AU rfl]at a1;replace a1:Calls Tryz.prog 21 _ wr (GF (G4 (trF t zs)) 0 wr):=a1;clear bf a6 a7 a8 hA8 be bp;generalize ek:(Ti zs t.arcs).length=m3 at *;have t0:=m.t.cell 0;have t1:=m.t.cell 1;have t2:=m.t.cell 2;have t3:=m.t.cell 3
           go_wp2_with fail
           refine a1.mono ?_;rintro e w7 ⟨v7,rfl,cw,a2,bq⟩;obtain⟨N7,X1,y1,z1,X2,y2,z2,X3,y3,z3,dq,_,_,_⟩:=id a2;subst dq;have d5:=m.size;have bs:=m.blk di (show w.heap.size+1≠O by omega);have F:=bs.below bq bs.lt;have cx:w7.heap[D]?=some (.deferred (some [])):=(bq.block D (by omega)).trans ((m.keep D cj (fun e=>ck e.symm)).trans hK);have cy:=(ar.trans m.bel).trans (bq.mono (by have:=ar.size;omega));have a3:D≠w.heap.size+1:=by omega
           have k0:=F.cell 0;have k1:=F.cell 1;have k2:=F.cell 2;have k3:=F.cell 3;have f0:=F.frozen 0;have f1:=F.frozen 1;have f2:=F.frozen 2;have f3:=F.frozen 3;clear a1 t0 t1 t2 t3 m;have dr:=AB (cw.freshSet4 a2 (g:=w.heap.size+1) (by omega) (.int .i64 N7) (.slice X1 y1 z1) (.slice X2 y2 z2) (.slice X3 y3 z3));have ds:=AB (a2.less (B':=w.heap.size) (by omega));have dt:=AB a2;have bg:=((((F.set_ 0 (.int .i64 N7)).set_ 1 (.slice X1 y1 z1)).set_ 2 (.slice X2 y2 z2)).set_ 3 (.slice X3 y3 z3));have bh:=Dn cy (g:=w.heap.size+1) (by omega) (.int .i64 N7) (.slice X1 y1 z1) (.slice X2 y2 z2) (.slice X3 y3 z3);have cz:((((w7.setCell ⟨w.heap.size+1,0,none⟩ (.int .i64 N7)).setCell ⟨w.heap.size+1,1,none⟩ (.slice X1 y1 z1)).setCell ⟨w.heap.size+1,2,none⟩ (.slice X2 y2 z2)).setCell ⟨w.heap.size+1,3,none⟩ (.slice X3 y3 z3)).heap[D]?=some (.deferred (some [])):=by rw[Am _ _ _ _ a3,Am _ _ _ _ a3,Am _ _ _ _ a3,Am _ _ _ _ a3];exact cx
           have du:=AB bg;have a4:=AB bh;have dv:=AB cz;have el:D<wr.heap.size:=by omega
           clear cw a2 bs F cx cy bg bh cz;go_wp2;generalize ((((w7.setCell ⟨w.heap.size+1,0,none⟩ (.int .i64 N7)).setCell ⟨w.heap.size+1,1,none⟩ (.slice X1 y1 z1)).setCell ⟨w.heap.size+1,2,none⟩ (.slice X2 y2 z2)).setCell ⟨w.heap.size+1,3,none⟩ (.slice X3 y3 z3))=WF at *;refine⟨by simp,.inl ⟨_,_,rfl,run_takeDeferred dv.out,?_⟩⟩;have a9:BL (WF.putObj D (.deferred none)) (w.heap.size+1) 32 #[.int .i64 N7,.slice X1 y1 z1,.slice X2 y2 z2,.slice X3 y3 z3]:=(CX (CF a3)).trans du.out;have g0:=a9.cell 0;have g1:=a9.cell 1;have g2:=a9.cell 2;have g3:=a9.cell 3;refine⟨.tuple #[.agg #[.int .i64 N7,.slice X1 y1 z1,.slice X2 y2 z2,.slice X3 y3 z3],.int .i64 0],by simp[results,Tryz.results27,go_sem,g0,g1,g2,g3],cv.out _ _ ⟨_,rfl,?_,ds.out,?_⟩⟩
           .rw [World.putObj_size]
            have em:WF.heap.size=WF.heap.size:=rfl;refine dr.out.fresh dt.out fun p hp _=>?_
            unfold World.cell?;rw[CX (show p.block≠D by omega)]
           .exact ⟨a4.out.os,a4.out.tape,a4.out.output,by rw[World.putObj_size];exact a4.out.size,fun k hk=>(CX (show k≠D by omega)).trans (a4.out.block k hk)⟩
    case stop=>rintro D c pre W _ _ h _;exact h.elim
end
end Go.Proofs.YtcondkihpmmnnaaGreatDoor
