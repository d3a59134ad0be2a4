/- Lemmas, part 30 of 50. No condition. -/
import Derived.Test.YtcondkihpmmnnaaGreatDoorTwin27
set_option maxRecDepth 100000
set_option maxHeartbeats 16000000
namespace Go.Proofs.YtcondkihpmmnnaaGreatDoor
section
open Go.RowKit Go.Sort
theorem X1r (w wr:World) (a:List UInt8) (t:ByteArray) (m:KeyW w wr a) (o:Pow w w.heap.size) (v:t.size<=4096) (x:a.length<=100000000) :Calls Tryz.prog 102 #[.string t,.pointer (some ⟨w.heap.size,0,none⟩)] wr fun e w'=>e=.returned (.tuple #[])/\KeyW w w' (a++putT t):=by
 have n:=o;go_enter Tryz.func102,Tryz.ntmps102
 go_wp2_with fail
 refine(N6 t.size (by omega) _ (n.below m.bel)).mono ?_;rintro e w8 ⟨rfl,k⟩;have f:=m.call k;have p:(ByteArray.mk (Lib.decDigits t.size).toArray).size<=5000:=by have:=Pf (u:=t.size) (by omega);show(Lib.decDigits t.size).toArray.size<=_;rw[CJ];omega
 have l:=AB (show a++putT t=a++bl (ByteArray.mk (Lib.decDigits t.size).toArray)++[58]++bl t by rw[Sz];unfold putT;simp);clear m k;generalize q:(ByteArray.mk (Lib.decDigits t.size).toArray)=s2 at *
 go_wp2_with fail
 refine(EF w.heap.size w.heap.size (Lib.byteCells a) s2 _ f.bld (by rw[C4];omega) f.bel.size).mono ?_;rintro e y ⟨rfl,b,c,j⟩;have g:=f.write s2 b c;clear f b c j
 go_wp2_with fail
 refine(JD w.heap.size w.heap.size (Lib.byteCells (a++bl s2)) 58 _ g.bld (by rw[C4];simp only[AJ,CK];omega) g.bel.size).mono ?_;rintro e r ⟨rfl,b,c,j⟩;have d:=g.byte 58 b c;clear g b c j
 go_wp2_with fail
 refine(EF w.heap.size w.heap.size (Lib.byteCells (a++bl s2++[58])) t _ d.bld (by rw[C4];simp only[AJ,CK,BJ];omega) d.bel.size).mono ?_;rintro e s ⟨rfl,b,c,_⟩;have i:=d.write t b c;clear d b c;rw[<-l.out]at i;go_wp2;go_end0;exact⟨rfl,i⟩
theorem putW (b:Nat) (w wr:World) (a:List UInt8) (t:ByteArray) (c:w.heap.size=b) (d:KeyW w wr a) (f:Pow w w.heap.size) (g:t.size<=4096) (i:a.length<=100000000) :Calls Tryz.prog 102 #[.string t,.pointer (some ⟨b,0,none⟩)] wr fun e w'=>e=.returned (.tuple #[])/\KeyW w w' (a++putT t):=by subst c;exact X1r w wr a t d f g i
theorem Zt (b:Nat) (w wr:World) (a:List UInt8) (c:UInt8) (i:Int) (j:i=(c.toNat:Int)) (k:w.heap.size=b) (d:KeyW w wr a) (l:a.length<=100000000) :Calls Tryz.prog 104 #[.pointer (some ⟨b,0,none⟩),.int .u8 i] wr fun e w'=>e=.returned .nilIface/\KeyW w w' (a++[c]):=by subst k j;refine(JD w.heap.size w.heap.size (Lib.byteCells a) (c.toNat:Int) _ d.bld (by rw[C4];omega) d.bel.size).mono ?_;rintro e w' ⟨rfl,f,g,_⟩;exact⟨rfl,d.byte c f g⟩
theorem textW (b:Nat) (w wr:World) (a:List UInt8) (t:ByteArray) (g:w.heap.size=b) (c:KeyW w wr a) (i:t.size<=100000000) (j:a.length<=100000000) :Calls Tryz.prog 29 #[.pointer (some ⟨b,0,none⟩),.string t] wr fun e w'=>e=.returned (.tuple #[.int .i64 t.size,.nilIface])/\KeyW w w' (a++bl t):=by subst g;refine(EF w.heap.size w.heap.size (Lib.byteCells a) t _ c.bld (by rw[C4];omega) c.bel.size).mono ?_;rintro e w' ⟨rfl,d,f,_⟩;exact⟨rfl,c.write t d f⟩
theorem allW (b:Nat) (w wr:World) (a:List UInt8) (f:w.heap.size=b) (c:KeyW w wr a) :Calls Tryz.prog 30 #[.pointer (some ⟨b,0,none⟩)] wr fun e w'=>e=.returned (.string ⟨a.toArray⟩)/\Below w.heap.size w w':=by subst f;refine(Tryz.Builder_String_any_k w.heap.size w.heap.size a _ c.bld c.bel.size).mono ?_;rintro e w8 ⟨rfl,_,d,_⟩;exact⟨rfl,c.bel.trans d⟩
end
section
open Go.RowKit Go.Sort
theorem YB (q:SeqM) (v:Value) (B s n:Nat) (w:World) (HS:GC w B q v) (hB:B<=w.heap.size) (E:Gp q=true) (N:q.next.length=n) (L:s<n) (hP:Pow w w.heap.size) :Calls Tryz.prog 73 #[v,.int .i64 (s:Int)] w (C7 (.string ⟨(I6 q s).toArray⟩) w):=by
 obtain⟨A1,c1,A2,c2,A3,c3,A4,c4,rfl,hf,l1,l2,l3,l4,m1,m2,m3,m4,R1,hz,R2,af,R3,R4,F⟩:=HS;obtain⟨p1,p2,p3,p4,p5,p6⟩:=Ea E;have t:=AB (fun b (o:b<256)=>FQ E (by rw[N];exact L) o);have O:=AB (fun j (hj:j<=256)=>Nl (q:=q) (s:=s) ((t.out 0 (by decide)).2.2.2.2.1) (fun c P=>(t.out c P).2.2.1) j hj);rw[p2]at l2 R2 ⊢;rw[p3]at l3 R3 ⊢;rw[p4]at l4 R4 ⊢;rw[N]at p1 l1 l2 l3 l4 R1 R2 R3 R4 ⊢;have K:=BL.new w 27 #[.string q.front,.slice A1 n c1,.slice A2 n c2,.slice A3 n c3,.slice A4 n c4];have G:=(AH w.heap.size w).alloc (AD _) (.cells #[.string q.front,.slice A1 n c1,.slice A2 n c2,.slice A3 n c3,.slice A4 n c4] 27);have ao:(0:Int)<=(s:Int):=by omega
 have ap:(s:Int)<(n:Int):=by omega
 have Q:q.ends.getD s false=q.en s:=rfl;have R:q.tail.getD s ByteArray.empty=q.tl s:=rfl;obtain⟨g3,o3,rfl,aq,x3⟩:=C6 (d:=false) R3 s L;obtain⟨g4,o4,rfl,ar,x4⟩:=C6 (d:=ByteArray.empty) R4 s L;rw[Q]at x3;rw[R]at x4;have e1:(q.next.map fun r=>r.map (Value.int .i64)).getD s []=(q.next.getD s []).map (Value.int .i64):=by rw[AC,AC,Ag];cases q.next[s]?<;>rfl
 have e2:(q.outs.map fun r=>r.map Value.string).getD s []=(q.outs.getD s []).map Value.string:=by rw[AC,AC,Ag];cases q.outs[s]?<;>rfl
 obtain⟨g1,o1,au,d1,rfl,av,S,y,y1,z1⟩:=R1.at_ s L;obtain⟨g2,o2,aw,d2,rfl,ax,T,A,y2,z2⟩:=R2.at_ s L;rw[e1]at S y y1;rw[e2]at T A y2;simp only[A6]at S T y A y1 y2;have a:=p6 s (by rw[N];exact L);have Hn:=AB N;rw[a.1]at S y y1;rw[a.2]at T A y2;generalize q.front=fr at *;have U:=AB (fun(W:World) (o:Below w.heap.size w W)=>AI ((o.cell (p:=⟨g3,o3+s,none⟩) (by show g3<_;omega)).trans x3) (AI ((o.cell (p:=⟨g4,o4+s,none⟩) (by show g4<_;omega)).trans x4) (AI ((o.cell (p:=⟨g1,o1+s,none⟩) (by show g1<_;omega)).trans S) (AI ((o.cell (p:=⟨g2,o2+s,none⟩) (by show g2<_;omega)).trans T) (AI (y.below (o.mono hB)) (A.below (o.mono hB)))))));clear R1 R2 R3 R4 hz af F S T x3 x4 y A e1 e2 Q R a p6 E N p2 p3 p4;generalize V:w.alloc (.cells #[.string fr,.slice (some ⟨g1,o1,none⟩) n c1,.slice (some ⟨g2,o2,none⟩) n c2,.slice (some ⟨g3,o3,none⟩) n c3,.slice (some ⟨g4,o4,none⟩) n c4] 27)=W0 at *;have f:W0.heap.size=w.heap.size+1:=by rw[<-V];simp
 have ay:=AB V;have X:=(hP.below G).mono (show w.heap.size<=W0.heap.size by omega);have H:KeyW W0 (W0.alloc (.cells #[.pointer none,.slice none 0 0] 83)) []:=⟨.inl ⟨AD _,.slice none 0 0,heap_alloc_new W0 _,World.ownsRowF_of (Bc _ _ _ _),by simp[Value.ownBlock]⟩,(AH _ W0).alloc (AD _) _⟩;have l:=AB H;have Y:=AB X;have ag:=AB (show KeyW W0 (W0.alloc (.cells #[.pointer none,.slice none 0 0] 83)) []from H);obtain⟨j3,j4,j1,j2,_⟩:=U.out _ (G.trans (l.out.bel.mono (show w.heap.size<=W0.heap.size by omega)));have KB:=K.below l.out.bel (by omega);have k1:=KB.cell 1;have k2:=KB.cell 2;have k3:=KB.cell 3;have k4:=KB.cell 4;have I:=AB (show G9 q s 0=Il q s by unfold G9;simp);have F:=(t.out 0 (by decide)).2.2.2.2.1;clear H X;go_enter Tryz.func73,Tryz.ntmps73;rcases M:q.en s with _|_
 focus
  rw[M]at j3;clear j4 k4;have hE:=AB (show KeyW W0 (W0.alloc (.cells #[.pointer none,.slice none 0 0] 83)) (G9 q s 0)by rw[I.out];unfold Il;rw[M,AP (by decide)];exact l.out);clear M;go_upto_region 6 with(fail)
  clear j1 j2 j3 k1 k2 k3;generalize W0.alloc (.cells #[.pointer none,.slice none 0 0] 83)=wE at *;have Z:=hE
 rotate_left
 focus
  rw[M]at j3;have hE:=AB (show G9 q s 0=[]++[101]++putT (q.tl s)by rw[I.out];unfold Il;rw[M,AU rfl];rfl);clear M
  go_wp2_with fail
  generalize W0.alloc (.cells #[.pointer none,.slice none 0 0] 83)=W1 at *;refine(Zt _ W0 W1 [] 101 101 rfl f l.out (by simp)).mono ?_;rintro e w2 ⟨rfl,g⟩;obtain⟨_,u4,_⟩:=U.out _ (G.trans (g.bel.mono (show w.heap.size<=W0.heap.size by omega)));have v4:=(K.below g.bel (by omega)).cell 4;clear j1 j2 j3 j4 k1 k2 k3 k4;generalize q.tl s=qt at *
  go_wp2_with fail
  refine(putW _ W0 w2 ([]++[101]) qt f g Y.out F (by simp)).mono ?_;rintro e wE ⟨rfl,m⟩;rw[<-hE.out]at m;have Z:=AB m;clear u4 v4;go_upto_region 6 with(fail)
 all_goals
  clear hE I ag l;obtain⟨_,_,j1,_⟩:=U.out _ (G.trans (Z.out.bel.mono (show w.heap.size<=W0.heap.size by omega)));have k1:=(K.below Z.out.bel (by omega)).cell 1;go_wp2;clear j1 k1;go_loopw [29] (fun i wr=>∃b:Nat,b<=256/\i=.int .i64 (b:Int)/\KeyW W0 wr (G9 q s b)) (fun i _=>256-(intOf i).toNat)
  case atStart=>exact⟨0,AN _,rfl,Z.out⟩
  case round=>
   clear Z;obtain⟨b,o,rfl,HK⟩:=hrel;have hW:Below w.heap.size w wr:=G.trans (HK.bel.mono (show w.heap.size<=W0.heap.size by omega));have a:=O.out b o;by_cases J:b<256
   .have az:(0:Int)<=(b:Int):=by omega
    have a0:(b:Int)<256:=by omega
    obtain⟨_,_,_,_,y,_⟩:=U.out wr hW;obtain⟨h1,q1,rfl,a1,r1⟩:=C6 (d:=0) y b J;have ah:(q.next.getD s []).getD b 0=q.nx s b:=rfl;have ai:(q.outs.getD s []).getD b ByteArray.empty=q.os s b:=rfl;have C:=AB (O9 q s b);rw[ah]at r1;by_cases D:q.nx s b<0
    .have P:=AB (show G9 q s (b+1)=G9 q s b by rw[C.out];unfold G8;rw[AU D,BC])
     generalize q.nx s b=z at *;go_wp2;go_roundw
     case rel=>exact⟨b+1,by omega,by go_num,by rw[P.out];exact HK⟩
     case measure=>simp[intOf];omega
    .have a2:q.nx s b>=0:=by omega
     have P:=AB (show G9 q s (b+1)=G9 q s b++[103]++Lib.decDigits b++[58]++putT (q.os s b)by rw[C.out];unfold G8;rw[AP D];simp);have aj:=(t.out b J).2.2.1;have a3:=Pf (u:=b) (by omega);have a4:(ByteArray.mk (Lib.decDigits b).toArray).size<=20:=by show(Lib.decDigits b).toArray.size<=_;rw[CJ];omega
     have aa:=Y.out;generalize G9 q s b=k at *;generalize q.nx s b=z at *
     go_wp2_with fail
     refine(Zt _ W0 _ k 103 103 rfl f HK (by omega)).mono ?_;rintro e w2 ⟨rfl,g⟩;clear HK r1 y
     go_wp2_with fail
     refine(N6 b (by omega) _ (aa.below g.bel)).mono ?_;rintro e w3 ⟨rfl,ab⟩;have m:=g.call ab;clear g ab;have ak:=Sz (Lib.decDigits b);generalize a5:(ByteArray.mk (Lib.decDigits b).toArray)=s1 at *
     go_wp2_with fail
     refine(textW _ W0 _ (k++[103]) s1 f m (by omega) (by simp only[AJ,BJ];omega)).mono ?_;rintro e w4 ⟨rfl,ac⟩;clear m;have ad:(k++[103]++bl s1).length<=100000000:=by simp only[AJ,BJ,CK];omega
     go_wp2_with fail
     refine(Zt _ W0 _ (k++[103]++bl s1) 58 58 rfl f ac ad).mono ?_;rintro e w5 ⟨rfl,x⟩;clear ac;have al:Below w.heap.size w w5:=G.trans (x.bel.mono (show w.heap.size<=W0.heap.size by omega));obtain⟨_,_,_,j2,_,A⟩:=U.out w5 al;obtain⟨h2,q2,rfl,a6,r2⟩:=C6 (d:=ByteArray.empty) A b J;rw[ai]at r2;have k2:=(K.below x.bel (by omega)).cell 2;have am:(k++[103]++bl s1++[58]).length<=100000000:=by simp only[AJ,BJ,CK]at ad ⊢;omega
     generalize q.os s b=qo at *
     go_wp2_with fail
     refine(putW _ W0 _ (k++[103]++bl s1++[58]) qo f x aa aj am).mono ?_;rintro e w6 ⟨rfl,ae⟩;rw[ak,<-P.out]at ae;clear x r2 j2 k2 A;go_wp2;go_roundw
     case rel=>exact⟨b+1,by omega,by go_num,ae⟩
     case measure=>simp[intOf];omega
   .obtain rfl:b=256:=by omega
    go_wp2_with fail
    refine(allW _ W0 _ _ f HK).mono ?_;rintro e w8 ⟨rfl,an⟩;have HF:=AB (show C7 (.string ⟨(I6 q s).toArray⟩) w (.returned (.string ⟨(I6 q s).toArray⟩)) w8 from⟨rfl,G.trans (an.mono (by omega))⟩);clear a;rw[show G9 q s 256=I6 q s from rfl]at *;generalize I6 q s=kk at *;go_wp2;exact AQ (v:=.string ⟨kk.toArray⟩) (by simp[results,Tryz.results73,go_sem]) rfl HF.out
end
section
open Go.RowKit Go.Sort
theorem YC (q:SeqM) (v:Value) (B n:Nat) (w:World) (HS:GC w B q v) (hB:B<=w.heap.size) (aa:Gp q=true) (hn:q.next.length=n) (hP:Pow w w.heap.size) (hq:Tight q) :Calls Tryz.prog 34 #[v] w (R8 q n w):=by
 have al:=AB HS;obtain⟨A1,c1,A2,c2,A3,c3,A4,c4,rfl,hf,l1,l2,l3,l4,m1,m2,m3,m4,R1,hz,R2,C,R3,R4,bn⟩:=HS;obtain⟨p1,p2,p3,p4,p5,p6⟩:=Ea aa;have bo:=AB p6;have am:=AB (fun s b (hs:s<n) (hb:b<256)=>FQ aa (s:=s) (by rw[hn];exact hs) hb);rw[p2,p3,p4]at al;rw[p2,p3,p4];rw[hn]at p1 l1 R1 al ⊢;have Hn:=AB (AI hn (AI aa hq));generalize q.front=fr at *;generalize an:w.alloc (.cells #[.string fr,.slice A1 n c1,.slice A2 n c2,.slice A3 n c3,.slice A4 n c4] 27)=W0 at *;have K:BL W0 w.heap.size 27 #[.string fr,.slice A1 n c1,.slice A2 n c2,.slice A3 n c3,.slice A4 n c4]:=by rw[<-an];exact BL.new w _ _
 have LB:Below w.heap.size w W0:=by rw[<-an];exact(AH w.heap.size w).alloc (AD _) _
 have bp:W0.heap.size=w.heap.size+1:=by rw[<-an];simp
 have bq:=AB ((hP.below LB).mono (show w.heap.size<=W0.heap.size by omega));have k1:=K.cell 1;obtain⟨i0,hi,a0,a1,br⟩:=BK Fq;have a2:i0.bytes*n<=281474976710656:=by rw[br];omega
 have a3:n<=maxLen:=by unfold maxLen;omega
 have bs:=AB R1;have cw:=@run_makeMap Tryz.prog;clear R2 R3 R4 hz C bn p2 p3 p4 p5 p6 aa hn l2 l3 l4 R1 hP;go_enter Tryz.func34,Tryz.ntmps34;go_upto_region 2 with(at_make;refine Cw _ rfl _ _ 55 rfl W0.heap.size 3 i0 _ 1 Tryz.underlying55 hi a0 a1 _ _ (n:Int) (n:Int) n rfl rfl rfl rfl a2 a3 (AD _) ?_;intro o a L)
 have j:=(AH W0.heap.size W0).grown L (AD _) (fun k e=>by cases e);rw[show(Value.int .i64 0).cells=#[Value.int .i64 0]from rfl,CG,BZ]at a;have hL:=DG a;rw[Wg,bp]at hL
 have h1:PrtW W0 ((o.alloc (.map #[] 0)).alloc (.cells #[.map (some o.heap.size)] 146)) n (w.heap.size+1) (o.heap.size+1) o.heap.size (fun _=>0) []:={
  l:=(hL.alloc _).alloc _
  x:=by have:=BL.new (o.alloc (.map #[] 0)) 146 #[.map (some o.heap.size)];rwa [Ad]at this
  num:=(NP.made o).below ((AH _ (o.alloc (.map #[] 0))).alloc (AD _) _) (AD _)
  bl:=by omega
  bx:=by have:=j.size;omega
  bm:=j.size
  bel:=(j.alloc j.size _).alloc (by have:=j.size;simp;omega) _ }
 have M:=AB h1;clear a L j hL h1 k1;generalize (o.alloc (.map #[] 0)).alloc (.cells #[.map (some o.heap.size)] 146)=w3 at *;generalize bt:o.heap.size+1=gx at *;generalize o.heap.size=bm at *;generalize cx:w.heap.size+1=gl at *;go_wp2;go_loopw [22] (fun i wr=>∃(s:Nat) (m:Nat->Nat) (A:List (List UInt8)),s<=n/\i=.int .i64 (s:Int)/\PrtW W0 wr n gl gx bm m A/\NumI (I6 q) s m A/\A.length<=s/\∀z,m z<=2000) (fun i _=>n-(intOf i).toNat)
 case atStart=>exact⟨0,_,_,AN _,rfl,M.out,NumI.start _ _,AD _,fun z=>AN _⟩
 case round=>
  clear M;obtain⟨s,m,A,hs,rfl,f,hI,a4,N⟩:=hrel;have HI:=AB hI;have Hm:=AB N;clear hI N;have bu:Below w.heap.size w wr:=LB.trans (f.bel.mono (by omega));have ao:=f.bel.size;by_cases t:s<n
  .have bv:(0:Int)<=(s:Int):=by omega
   have bw:(s:Int)<(n:Int):=by omega
   have G:=K.below f.bel (by omega);have k0:=G.cell 0;have k1:=G.cell 1;have k2:=G.cell 2;have k3:=G.cell 3;have k4:=G.cell 4;have a5:=YB q _ B s n wr (al.out.below (bu.mono hB)) (by omega) Hn.out.2.1 Hn.out.1 t ((bq.out.below f.bel).mono ao);have O:=Nl (q:=q) (s:=s) ((am.out s 0 t (by decide)).2.2.2.2.1) (fun c hc=>(am.out s c t hc).2.2.1) 256 (AD _);have P:(I6 q s).length<=maxLen:=by unfold I6 maxLen;omega
   have bz:=AB a5;have Q:=AB (fun(i:Nat) hi=>HI.out.put (i:=i) hi);clear a5 O G;generalize I6 q s=kk at *
   go_wp2_with fail
   refine bz.out.mono ?_;rintro e w5 ⟨rfl,b0⟩;have ab:=f.call b0;have c5:=ab.x.cell 0;clear f k0 k1 k2 k3 k4
   go_wp2_with fail
   refine(ZV gx bm A kk w5 c5 ab.num P (by omega)).mono ?_;rintro e w6 ⟨i,rfl,R,S,E⟩;have F:=ab.num_ R S;have ap:=AB (Q.out i E);have a6:=UL A kk
   have b1:i<(Mb A kk).length:=by
    rcases BF i (Mb A kk).length with e|e
    .exact e
    .rw [AY e]at E;cases E
   have J:=(F.l.cell s).trans (Rz _ t);have x2:=F.l.frozen s;have aq:=AB (F.set s i t);clear ab F c5 R S E;go_wp2;go_roundw
   case rel=>exact⟨s+1,_,_,by omega,by go_num,aq.out,ap.out,by omega,fun z=>by
    by_cases e:z=s
    .simp only[e,Dm];omega
    .simp only[e,Ef];exact Hm.out z⟩
   case measure=>simp[intOf];omega
  .obtain rfl:n=s:=by omega
   have H:=AB (AI f.l f.bel);have c0:=f.x.cell 0;obtain⟨nn,D,a,b2,ar,T,C,U,au⟩:=f.num;have ac:=AB (PartI.start Hn.out.2.2 Hn.out.1 (HI.out.done U));have b3:A.length<=n:=a4;have b4:=f.bl;clear f au U T ar HI;go_upto_region 8 with(at_len;refine wpList_len_own _ rfl _ 76 rfl 9 3 Tryz.underlying76 _ bm nn D rfl a ?_;rw[C])
   go_loopw [4,7] (fun lv cv wr=>∃(l:Nat->Nat) (c g:Nat),lv=.slice (some ⟨g,0,none⟩) n n/\cv=.int .i64 (c:Int)/\BL wr g 3 (iV l n)/\Below W0.heap.size W0 wr/\W0.heap.size<=g/\PartI q n l c/\∀z,l z<=2000) (fun _ cv _=>n+1-(intOf cv).toNat)
   case atStart=>exact⟨m,A.length,gl,rfl,rfl,H.out.1,H.out.2,b4,ac.out,Hm.out⟩
   case round=>
    clear H ac Hm c0 C a;obtain⟨l,c,g,rfl,rfl,HL,ad,cy,av,a7⟩:=hrel;obtain⟨y,b5⟩:∃W,W=wr:=⟨_,rfl⟩
    subst b5;have ac:=AB av;have aw:=AB a7;have a8:=ad.size;have b3:=NC av.onto;have b6:=HL.lt;have a9:Below w.heap.size w y:=LB.trans (ad.mono (by omega));clear av a7;go_upto_region 9 with(at_make;refine Cw _ rfl _ _ 55 rfl y.heap.size 3 i0 _ 1 Tryz.underlying55 hi a0 a1 _ _ (n:Int) (n:Int) n rfl rfl rfl rfl a2 a3 (AD _) ?_;intro o a L)
    have j:=(AH y.heap.size y).grown L (AD _) (fun k e=>by cases e);rw[show(Value.int .i64 0).cells=#[Value.int .i64 0]from rfl,CG,BZ]at a;have hL:=DG a;rw[Wg]at hL
    have h1:PrtW y ((o.alloc (.map #[] 0)).alloc (.cells #[.map (some o.heap.size)] 146)) n y.heap.size (o.heap.size+1) o.heap.size (fun _=>0) []:={
     l:=(hL.alloc _).alloc _
     x:=by have:=BL.new (o.alloc (.map #[] 0)) 146 #[.map (some o.heap.size)];rwa [Ad]at this
     num:=(NP.made o).below ((AH _ (o.alloc (.map #[] 0))).alloc (AD _) _) (AD _)
     bl:=AD _
     bx:=by have:=j.size;omega
     bm:=j.size
     bel:=(j.alloc j.size _).alloc (by have:=j.size;simp;omega) _ }
    have M:=AB h1;have ba:=AB (fun(W:World) (hb:Below y.heap.size y W)=>HL.below hb b6);have b7:=AB (fun(W:World) (hb:Below y.heap.size y W)=>(K.below (ad.trans (hb.mono a8)) (by omega)));have b8:=AB (fun(W:World) (hb:Below y.heap.size y W)=>ad.trans (hb.mono a8));clear a L j hL h1;generalize (o.alloc (.map #[] 0)).alloc (.cells #[.map (some o.heap.size)] 146)=w3 at *;generalize bt:o.heap.size+1=gx at *;generalize o.heap.size=bm at *;go_wp2;go_loopw [43] (fun i wr=>∃(s:Nat) (m:Nat->Nat) (A:List (List UInt8)),s<=n/\i=.int .i64 (s:Int)/\PrtW y wr n y.heap.size gx bm m A/\NumI (TD q l) s m A/\A.length<=s/\∀z,m z<=2000) (fun i _=>n-(intOf i).toNat)
    case atStart=>exact⟨0,_,_,AN _,rfl,M.out,NumI.start _ _,AD _,fun z=>AN _⟩
    case round=>
     clear M;obtain⟨s,m,A,hs,rfl,f,hI,a4,N⟩:=hrel;have HI:=AB hI;have Hm:=AB N;clear hI N;have ao:=f.bel.size;by_cases t:s<n
     .have bv:(0:Int)<=(s:Int):=by omega
      have bw:(s:Int)<(n:Int):=by omega
      have bb:=ba.out _ (f.bel);have J:=(bb.cell s).trans (Rz _ t);have ax:=AF J;have b9:=aw.out s;have ae:=Qh b9;have bc:=AB (show Ki q l s 0=Nm (l s)by unfold Ki;simp);generalize ai:l s=ls at *;have cn:=AB ai;clear ai;go_wp2;refine Cd 12 [0,1,2,3,4,5,6,7,8,9,10] [11] (by kernel_rfl) (by kernel_rfl) rfl (by kernel_rfl) ?_;simp only[CV,A_,BA,Az,BI]
      repeat (go_big_quiet_step (fail))
      refine Ah ?_;refine BU rfl (fun KK V=>?_);go_simp;have LA:Below wr.heap.size wr (wr.alloc (.cells #[.int .u8 ((ls:Int) / 256),.int .u8 ((ls:Int)%256)] 5)).drew:=((AH _ wr).alloc (AD _) _).drew;refine V _ _ (A5 LA) ?_;clear V KK;refine Cc ?_;have X:(wr.alloc (.cells #[.int .u8 ((ls:Int) / 256),.int .u8 ((ls:Int)%256)] 5)).drew.ownsRow y.heap.size 5 1 (.slice (some ⟨wr.heap.size,0,none⟩) 2 2) 2 [.int .u8 ((ls:Int) / 256),.int .u8 ((ls:Int)%256)]:=ND ao (BL.new wr 5 #[.int .u8 ((ls:Int) / 256),.int .u8 ((ls:Int)%256)]) (by unfold maxLen;simp);have bd:=f.call LA;have af:=AB bd;clear bd f LA J ax bb;generalize (wr.alloc (.cells #[.int .u8 ((ls:Int) / 256),.int .u8 ((ls:Int)%256)] 5)).drew=w4 at *;generalize wr.heap.size=gk at *;rw[<-ae,<-bc.out]at X;have HO:=AB X;clear X;go_wp2;refine Be ?_;have k1:=(b7.out _ (af.out.bel)).cell 1;obtain⟨g1,o1,cz,d1,rfl,ca,x0,Q0,y1,z1⟩:=bs.out.at_ s t;have aj:Below B w w4:=(a9.trans ((af.out.bel).mono (by omega))).mono hB;have J:=(aj.cell (p:=⟨g1,o1+s,none⟩) (by show g1<B;exact ca)).trans x0;have e1:(q.next.map fun r=>r.map (Value.int .i64)).getD s []=(q.next.getD s []).map (Value.int .i64):=by rw[AC,AC,Ag];cases q.next[s]?<;>rfl
      rw[e1]at J Q0 y1;simp only[A6]at J Q0 y1;rw[(bo.out s (by rw[Hn.out.1];exact t)).1]at J Q0 y1;have cb:=AB (fun(W:World) (hb:Below w.heap.size w W)=>Q0.below (hb.mono hB));clear x0 Q0 e1 aj;go_wp2;clear k1 J;go_loopw [11,64] (fun kv i wr=>∃(b:Nat) (kw:Value),kw=kv/\b<=256/\i=.int .i64 (b:Int)/\PrtW y wr n y.heap.size gx bm m A/\wr.ownsRow y.heap.size 5 1 kw (Ki q l s b).length (Lib.byteCells (Ki q l s b))) (fun _ i _=>256-(intOf i).toNat)
      case atStart=>
       refine⟨0,_,rfl,AN _,rfl,af.out,?_⟩;have h2:(Ki q l s 0).length=2:=by rw[bc.out];rfl
       rw[h2];exact HO.out
      case round=>
       clear HO af;obtain⟨b,kw,rfl,hb,rfl,f,X⟩:=hrel;have co:=f.bel.size;have hW:Below w.heap.size w wr:=a9.trans (f.bel.mono (by omega));have O:=UN q l s b;have Y:=AB (Rw q l s b);by_cases ak:b<256
       .have c6:(0:Int)<=(b:Int):=by omega
        have c7:(b:Int)<256:=by omega
        obtain⟨z0,cc,_⟩:=am.out s b t ak;rw[Hn.out.1]at cc;obtain⟨h1,q1,rfl,c8,r1⟩:=C6 (d:=0) (cb.out wr hW) b ak;have I:(q.next.getD s []).getD b 0=q.nx s b:=rfl;rw[I]at r1;by_cases Z:q.nx s b<0
        .have hc:=AB (show Ki q l s (b+1)=Ki q l s b by rw[Y.out];unfold NQ;rw[AU Z,BC])
         have cd:¬q.nx s b>=0:=by omega
         generalize q.nx s b=z at *;go_wp2;go_roundw
         case rel=>exact⟨b+1,_,rfl,by omega,by go_num,f,by rw[hc.out];exact X⟩
         case measure=>simp[intOf];omega
        .obtain ⟨z,hz⟩:∃z:Nat,q.nx s b=(z:Int):=⟨_,(AT (by omega)).symm⟩
         have ce:z<n:=by omega
         have hc:=AB (show Ki q l s (b+1)=Ki q l s b++Nm (l z)by rw[Y.out];unfold NQ;rw[AP Z,hz,BO]);rw[hz]at r1 Z;have cp:(0:Int)<=(z:Int):=by omega
         have cq:(z:Int)<(n:Int):=by omega
         have cd:(z:Int)>=0:=by omega
         have J:=((ba.out _ f.bel).cell z).trans (Rz _ ce);have ax:=AF J;have cf:=aw.out z;have ae:=Qh cf;generalize l z=lz at *;have cg:=AB ae;clear hz ae;generalize Ki q l s b=ag at *;go_wp2;refine Cd 13 [0,1,2,3,4,5,6,7,8,9,10,11] [12] (by kernel_rfl) (by kernel_rfl) rfl (by kernel_rfl) ?_;simp only[CV,A_,BA,Az,BI]
         repeat (go_big_quiet_step (fail))
         refine Ah ?_;refine BU rfl (fun KK V=>?_);go_simp;have LA:Below wr.heap.size wr (wr.alloc (.cells #[.int .u8 ((lz:Int) / 256),.int .u8 ((lz:Int)%256)] 5)).drew:=((AH _ wr).alloc (AD _) _).drew;refine V _ _ (A5 LA) ?_;clear V KK;refine Cc ?_;have be:=f.call LA;have bf:=BQ X LA;have ch:=(Bg wr [.int .u8 ((lz:Int) / 256),.int .u8 ((lz:Int)%256)] 5 1 2 rfl).drew;obtain⟨i1,t0,t1,t2,t3⟩:=BK M5;have bg:∀u∈[Value.int .u8 ((lz:Int) / 256),Value.int .u8 ((lz:Int)%256)],u.oneCell'=true:=fun u hu=>by simp at hu;rcases hu with rfl|rfl<;>rfl
         have h63:ag.length+2<=maxLen:=by unfold maxLen;omega
         have ci:(ag.length+2)*1<=140737488355328:=by omega
         have cj:=be.bel.size;have ay:=AB (fun(W:World) (v':Value) (h:W.ownsRow y.heap.size 5 1 v' (ag.length+2) (Lib.byteCells ag++[.int .u8 ((lz:Int) / 256),.int .u8 ((lz:Int)%256)]))=>show W.ownsRow y.heap.size 5 1 v' (Ki q l s (b+1)).length (Lib.byteCells (Ki q l s (b+1)))by rw[hc.out,Lib.byteCells_append,cg.out,AJ];exact h);clear f X LA r1 J ax
         go_wp2_with (at_builtin;refine Ba _ rfl _ _ 81 rfl y.heap.size 5 i1 _ 1 1 Tryz.underlying81 t0 t1 t2 t3 rfl (by decide) _ _ _ rfl bf _ (some ⟨wr.heap.size,0,none⟩) 2 2 [.int .u8 ((lz:Int) / 256),.int .u8 ((lz:Int)%256)] rfl ch bg h63 ci cj ?_;intro v' w7 a az cr)
         refine Be ?_;go_wp2;go_roundw
         case rel=>exact⟨b+1,_,rfl,by omega,by go_num,be.row bf az,ay.out _ _ a⟩
         case measure=>simp[intOf];omega
       .obtain rfl:b=256:=by omega
        have bh:Ki q l s 256=TD q l s:=rfl;rw[bh]at X O;obtain⟨Ak,ck,rfl,c9,da,cl⟩:=BH X;have Q:=AB (fun(i:Nat) hi=>HI.out.put (i:=i) hi);have bi:0<(TD q l s).length:=by have h1:TD q l s=Nm (l s)++(List.range 256).flatMap (NQ q l s):=rfl;rw[h1,AJ,show(Nm (l s)).length=2 from rfl];omega
        obtain⟨gz,rfl,cs,ct⟩:=cl bi;have cm:=Vj X;have P:(TD q l s).length<=maxLen:=by unfold maxLen;omega
        have c5:=f.x.cell 0;clear Y bh X;generalize TD q l s=kk at *
        go_wp2_with fail
        refine(ZV gx bm A kk wr c5 f.num P (by omega)).mono ?_;rintro e w6 ⟨i,rfl,R,S,E⟩;have F:=f.num_ R S;have ap:=AB (Q.out i E);have a6:=UL A kk
        have b1:i<(Mb A kk).length:=by
         rcases BF i (Mb A kk).length with e|e
         .exact e
         .rw [AY e]at E;cases E
        have J:=(F.l.cell s).trans (Rz _ t);have x2:=F.l.frozen s;have aq:=AB (F.set s i t);clear f F c5 R S E cm;go_wp2;go_roundw
        case rel=>exact⟨s+1,_,_,by omega,by go_num,aq.out,ap.out,by omega,fun z=>by
         by_cases e:z=s
         .simp only[e,Dm];omega
         .simp only[e,Ef];exact Hm.out z⟩
        case measure=>simp[intOf];omega
     .obtain rfl:n=s:=by omega
      have H:=AB (AI f.l f.bel);have c0:=f.x.cell 0;obtain⟨nn,D,a,b2,ar,T,C,U,au⟩:=f.num;have I:=ac.out.next Hn.out.2.2 Hn.out.1 (fun z=>by have:=aw.out z;omega) (HI.out.done U);have bj:=AB I;have db:=I.2.1;have cu:=NC I.1.onto;have bk:=b8.out _ f.bel;clear f au U T ar HI I;by_cases ah:A.length=c
      .have HP:=AB (show R8 q n w (.returned (.tuple #[.slice (some ⟨y.heap.size,0,none⟩) n n,.int .i64 (c:Int)])) wr from⟨_,m,c,rfl,H.out.1,by omega,LB.trans (bk.mono (by omega)),by rw[<-ah];exact bj.out.2.2 ah⟩)
       have C:Maps.size D=c:=by rw[C,ah]
       clear ah
       go_wp2_with (at_len;refine wpList_len_own _ rfl _ 76 rfl 9 3 Tryz.underlying76 _ bm nn D rfl a ?_;rw[C])
       exact AQ (v:=.tuple #[.slice (some ⟨y.heap.size,0,none⟩) n n,.int .i64 (c:Int)]) (by simp[results,Tryz.results34,go_sem]) rfl HP.out
      .have dc:((A.length:Int)==(c:Int))=false:=by simp;omega
       go_wp2_with (at_len;refine wpList_len_own _ rfl _ 76 rfl 9 3 Tryz.underlying76 _ bm nn D rfl a ?_;rw[C])
       exact⟨⟨m,A.length,y.heap.size,rfl,rfl,H.out.1,bk,by omega,bj.out.1,Hm.out⟩,by simp[intOf];omega⟩
end
end Go.Proofs.YtcondkihpmmnnaaGreatDoor
