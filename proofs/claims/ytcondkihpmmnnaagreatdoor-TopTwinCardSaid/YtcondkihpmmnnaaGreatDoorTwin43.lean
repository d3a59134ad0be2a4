/- Lemmas, part 43 of 50. No condition. -/
import Derived.Test.YtcondkihpmmnnaaGreatDoorTwin42
set_option maxRecDepth 100000
set_option maxHeartbeats 16000000
namespace Go.Proofs.YtcondkihpmmnnaaGreatDoor
section
open Go.RowKit Go.Sort
open Go.Maps (Keyed)
theorem Yf {w:World} {B n:Nat} {A:Option Addr} {l:List Lg} (d:Reads w B 4 A n (B_ Fm l)) (j:Nat) (f:j<n) :∃g o,A=some ⟨g,o,none⟩/\g<B/\w.cell? ⟨g,o+j*4,none⟩=some (.int .i64 (l.getD j lg0).p)/\w.cell? ⟨g,o+j*4+1,none⟩=some (.int .i64 (l.getD j lg0).q) /\w.cell? ⟨g,o+j*4+2,none⟩=some (.string (l.getD j lg0).a)/\w.cell? ⟨g,o+j*4+3,none⟩=some (.string (l.getD j lg0).b):=by obtain⟨g,o,e,i,c⟩:=E9 X0y (by decide) d lg0 j f;exact⟨g,o,e,i,c 0 _ rfl,c 1 _ rfl,c 2 _ rfl,c 3 _ rfl⟩
def GM (u:Fs) (n:Nat) (K:Nat) (x:Lg):Prop:=Ep u x.p x.q (bl x.a) (bl x.b)/\(0<=x.p/\x.p<(n:Int))/\(0<=x.q/\x.q<(n:Int))/\x.a.size<=K/\x.b.size<=K
theorem GM.w {u:Fs} {n K:Nat} {x:Lg} (h:GM u n K x) (a:n<=32) (b:K<=100000000):LgW x:=by obtain⟨_,h1,h2,h3,h4⟩:=h;unfold LgW maxLen;omega
def XH (x y:Tp):Lg:=⟨x.st,y.st,Ms x.out y.out,Mt x.out y.out⟩
def X0E (l:Lg) (x y:Ar) (c:UInt8):Lg:=⟨x.to,y.to,Ms (l.a++x.putB c.toNat) (l.b++y.putB c.toNat),Mt (l.a++x.putB c.toNat) (l.b++y.putB c.toNat)⟩
theorem Tc {u:Fs} {n:Nat} (F:Fit u n) {x y:Tp} (a:x∈u.starts) (b:y∈u.starts):GM u n 1024 (XH x y):=by obtain⟨c,a2,a3⟩:=F.starts x a;obtain⟨d,e,f⟩:=F.starts y b;have s1:=NL x.out y.out;have s2:=NM x.out y.out;refine⟨?_,⟨c,a2⟩,⟨d,e⟩,AK s1 a3,AK s2 f⟩;show Ep u x.st y.st (bl (Ms _ _)) (bl (Mt _ _));rw[OK,OL];exact .start a b
theorem U5 {u:Fs} {n K:Nat} (F:Fit u n) {l:Lg} (f:GM u n K l) {x y:Ar} (d:x∈u.arcs) (e:y∈u.arcs) (g:x.fr=l.p) (i:y.fr=l.q) {c:UInt8} (h1:x.set.m c.toNat=true) (h2:y.set.m c.toNat=true) :GM u n (K+1025) (X0E l x y c):=by
 obtain⟨o,a2,a3,a4,a5,_⟩:=F.arcs x d;obtain⟨r,s,j,k,t,_⟩:=F.arcs y e;obtain⟨g1,_,_,g2,g3⟩:=f;have s1:=NL (l.a++x.putB c.toNat) (l.b++y.putB c.toNat);have s2:=NM (l.a++x.putB c.toNat) (l.b++y.putB c.toNat);rw[Cg]at s1 s2;have v:=GJ x c.toNat;have w:=GJ y c.toNat;refine⟨?_,⟨a3,a4⟩,⟨j,k⟩,?_,?_⟩
 .show Ep u x.to y.to (bl (Ms _ _)) (bl (Mt _ _));rw[OK,OL,DW,DW,Ar.putB_bl,Ar.putB_bl];exact g1.step d e g i h1 h2
 .show (Ms _ _).size<=_;omega
 .show (Mt _ _).size<=_;omega
end
section
open Go.RowKit Go.Sort
def Iv (bR:Nat) (W:World) (k:Nat):Prop:=∃o n c,W.cell? ⟨bR,0,none⟩=some (.slice (some ⟨k,o,none⟩) n c)
structure KpT (lo hi bR bs:Nat) (A B:World):Prop where
 size:A.heap.size<=B.heap.size
 old:∀k,k<A.heap.size->k<lo->k≠bs->B.heap[k]?=A.heap[k]?
 cells:∀k cs T fr,hi<=k->A.heap[k]?=some (.cells cs T fr)->bR<A.heap.size->¬Iv bR A k->B.heap[k]?=A.heap[k]?
 free:∀k,hi<=k->k<A.heap.size->bR<A.heap.size->¬Iv bR A k->¬Iv bR B k
 wp:bR<A.heap.size->(∀k,Iv bR A k->k<A.heap.size)->∀k,Iv bR B k->k<B.heap.size
section
variable {lo hi bR bs:Nat} {A B C:World}
theorem IQ (h:B.heap[bR]?=A.heap[bR]?) {k:Nat}:Iv bR B k↔Iv bR A k:=by unfold Iv;have e:B.cell? ⟨bR,0,none⟩=A.cell? ⟨bR,0,none⟩:=cell_kept (a:=⟨bR,0,none⟩) h;rw[e]
theorem KpT.trans (h:KpT lo hi bR bs A B) (k:KpT lo hi bR bs B C):KpT lo hi bR bs A C:=by
 have c:=h.size;have z2:=k.size;refine⟨AK c z2,fun i h1 h2 h3=>(k.old i (by omega) h2 h3).trans (h.old i h1 h2 h3),fun i cs T b h1 h2 h3 h4=>?_,fun i h1 h2 h3 h4=>?_,fun h1 h2=>?_⟩
 .have e:=h.cells i cs T b h1 h2 h3 h4;have a:=(BS.1 h2).1;exact(k.cells i cs T b h1 (e.trans h2) (by omega) (h.free i h1 a h3 h4)).trans e
 .exact k.free i h1 (by omega) (by omega) (h.free i h1 h2 h3 h4)
 .exact k.wp (by omega) (h.wp h1 h2)
theorem KpT.of_same (c:A.heap.size<=B.heap.size) (b:bR<A.heap.size->B.heap[bR]?=A.heap[bR]?) (d:∀k,k<A.heap.size->k<lo->k≠bs->B.heap[k]?=A.heap[k]?) (e:∀(k:Nat) (cs:Array Value) (T:TypeId) (a:Nat×Nat),A.heap[k]?=some (Obj.cells cs T a)->B.heap[k]?=A.heap[k]?):KpT lo hi bR bs A B:=⟨c,d,fun k cs T a _ h _ _=>e k cs T a h,fun k _ _ h3 h4 h=>h4 ((IQ (b h3)).1 h),fun h1 h2 k h=>by have:=h2 k ((IQ (b h1)).1 h);omega⟩
theorem KpT.alloc (A:World) (o:Obj):KpT lo hi bR bs A (A.alloc o):=
 .of_same (by rw[Ad];omega) (fun h=>FW _ _ _ h) (fun k h _ _=>FW _ _ _ h) (fun k cs T a h=>FW _ _ _ (BS.1 h).1)
theorem KpT.putObj (A:World) (l:Nat) (o a:Obj) (b:A.heap[l]?=some o) (c:o.isCells=false) (d:lo<=l) (f:bR<l):KpT lo hi bR bs A (A.putObj l a):=
 .of_same (by rw[World.putObj_size];exact AD _) (fun h=>CX (by omega)) (fun k h1 h2 h3=>CX (by omega)) (fun k cs T g h=>CX (fun e=>by subst e;rw[b]at h;cases h;cases c))
theorem KpT.below (h:Below A.heap.size A B):KpT lo hi bR bs A B:=
 .of_same h.size (fun k=>h.block _ k) (fun k h1 _ _=>h.block _ h1) (fun k cs T b a=>h.block _ (BS.1 a).1)
end
structure KpX (lo hi bR bs:Nat) (A B:World):Prop where
 t:KpT lo hi bR bs A B
 f:KeepsFrom (hi+2) A B
section
variable {lo hi bR bs:Nat} {A B C:World}
theorem KpX.trans (h:KpX lo hi bR bs A B) (k:KpX lo hi bR bs B C):KpX lo hi bR bs A C:=⟨h.t.trans k.t,h.f.trans k.f⟩
theorem KpX.alloc (A:World) (o:Obj):KpX lo hi bR bs A (A.alloc o):=⟨.alloc A o,(KeepsOthers.alloc A o).from _⟩
theorem KpX.putObj (A:World) (o a:Obj) (b:A.heap[hi+1]?=some o) (c:o.isCells=false) (d:lo<=hi) (e:bR<hi):KpX lo hi bR bs A (A.putObj (hi+1) a):=⟨.putObj A _ o a b c (by omega) (by omega),⟨by rw[World.putObj_size];exact AD _,fun k f g h2 _=>(CX (by omega)).trans h2⟩⟩
end
def RU (bR:Nat) (W:World):Prop:=bR<W.heap.size/\∀k,Iv bR W k->k<W.heap.size
structure Sure (hi bR:Nat) (W:World) (g:Nat) (T:TypeId) (cs:Array Value):Prop where
 b:BL W g T cs
 hi:hi<=g
 no:¬Iv bR W g
section
variable {lo hi bR bs:Nat} {A B:World} {g:Nat} {T:TypeId} {cs:Array Value}
theorem RU.kp (h:RU bR A) (k:KpT lo hi bR bs A B):RU bR B:=⟨by have:=k.size;have:=h.1;omega,k.wp h.1 h.2⟩
theorem Sure.kp (h:Sure hi bR A g T cs) (w:RU bR A) (k:KpT lo hi bR bs A B):Sure hi bR B g T cs:=⟨(k.cells g _ _ _ h.hi h.b w.1 h.no).trans h.b,h.hi,k.free g h.hi h.b.lt w.1 h.no⟩
theorem Sure.new (w:RU bR A) (h:hi<=A.heap.size):Sure hi bR (A.alloc (.cells cs T)) A.heap.size T cs:=⟨BL.new A T cs,h,fun k=>by have:=w.2 _ ((IQ (FW A _ _ w.1)).1 k);omega⟩
theorem Sure.of_new {g:Nat} (w:RU bR A) (a:Below A.heap.size A B) (b:BL B g T cs) (c:A.heap.size<=g) (h:hi<=g):Sure hi bR B g T cs:=⟨b,h,fun k=>by have:=w.2 _ ((IQ (a.block _ w.1)).1 k);omega⟩
theorem Sure.below (h:Sure hi bR A g T cs) (w:RU bR A) (a:Below A.heap.size A B):Sure hi bR B g T cs:=h.kp (lo:=0) (bs:=0) w (KpT.below a)
theorem RU.below (h:RU bR A) (a:Below A.heap.size A B):RU bR B:=h.kp (lo:=0) (hi:=0) (bs:=0) (KpT.below a)
end
theorem Td {m m':Nat} {P:Program} {l:Nat} {args:Array Value} {W:World} {R:Ending->World->Prop} (h:YieldAt Fence.wide m P l args W R):YieldAt Fence.wide m' P l args W R:=by obtain⟨fn,tmps,assign,body,b,a⟩:=h;exact⟨fn,tmps,assign,body,b,a.1,fun c cs d=>a.2 c cs (room_wide _)⟩
theorem PV {m:Nat} {P:Program} {l l':Nat} {args:Array Value} {W:World} {R:Ending->World->Prop} (h:YieldAt Fence.wide m P l args W R):YieldAt (Fence.wide.inRound l') m P l args W R:=h
end
section
open Go.RowKit Go.Sort Go.Shelf
attribute [local go_sem] Gl
theorem Nt {β:Type} {B:Nat} {J:β->World->Prop} (b:OwnFrom B J) {s:β} {w w':World} (h:J s w) (a:Below w.heap.size w w'):J s w':=b s w w' none h ⟨a.os,a.tape,a.output,a.size,fun k c _=>a.block k c⟩ (fun r e=>by cases e)
abbrev Te (u:Fs) (n K:Nat):Type:={z:Lg // GM u n K z}
structure ByW {α:Type} (J:List α->World->Prop) (hi bR bx by_ bl bc:Nat) (cx cy cl cc:Array Value) (W0:World) (pre:List α) (wr:World):Prop where
 j:J pre wr
 wp:RU bR wr
 sx:Sure hi bR wr bx 61 cx
 sy:Sure hi bR wr by_ 61 cy
 sl:Sure hi bR wr bl 157 cl
 sc:Sure hi bR wr bc 58 cc
 sz:W0.heap.size<=wr.heap.size
section
variable {α:Type} {J:List α->World->Prop} {lo hi bR bs bx by_ bl bc:Nat} {cx cy cl cc:Array Value} {W0 wr w':World} {pre:List α}
theorem ByW.below (h:ByW J hi bR bx by_ bl bc cx cy cl cc W0 pre wr) (b:OwnFrom W0.heap.size J) (a:Below wr.heap.size wr w'):ByW J hi bR bx by_ bl bc cx cy cl cc W0 pre w':=⟨Nt b h.j a,h.wp.below a,h.sx.below h.wp a,h.sy.below h.wp a,h.sl.below h.wp a,h.sc.below h.wp a,AK h.sz a.size⟩
theorem ByW.kp (h:ByW J hi bR bx by_ bl bc cx cy cl cc W0 pre wr) (k:KpT lo hi bR bs wr w') {a:List α} (b:J a w'):ByW J hi bR bx by_ bl bc cx cy cl cc W0 a w':=⟨b,h.wp.kp k,h.sx.kp h.wp k,h.sy.kp h.wp k,h.sl.kp h.wp k,h.sc.kp h.wp k,AK h.sz k.size⟩
end
theorem X2g (d:Nat) (hd:1<=d) (l bx by_ bl lo hi bR bs n K:Nat) (u:Fs) (F:Fit u n) (hK:K<=90000000) (g:Lg) (hg:GM u n K g) (x y:Ar) (hx:x∈u.arcs) (U:y∈u.arcs) (ex:x.fr=g.p) (ey:y.fr=g.q) (J Jx:List (Te u n (K+1025))->World->Prop) (W:World) (hJ:OwnFrom W.heap.size J) (hY:∀pre (z:Te u n (K+1025)) W1,J pre W1->pre.length<256->YieldAt Fence.wide (d-1) Tryz.prog l #[NU z.1] W1 fun e W'=>(e=.returned (.bool true)/\J (pre++[z]) W'/\KpT lo hi bR bs W1 W')\/(e=.returned (.bool false)/\Jx (pre++[z]) W'/\KpT lo hi bR bs W1 W')) (Z:RU bR W) (ax:hi<=W.heap.size) (V:Sure hi bR W bx 61 (Cx x).toArray) (X:Sure hi bR W by_ 61 (Cx y).toArray) (sl:Sure hi bR W bl 157 (Fm g).toArray) (h0:J [] W) :CallsIn Fence.wide d Tryz.prog 109 #[.func (.yield l) #[] #[],.pointer (some ⟨bx,0,none⟩),.pointer (some ⟨by_,0,none⟩),.pointer (some ⟨bl,0,none⟩)] W fun e W'=>(∃v,e=.returned v)/\((∃xs,J xs W')\/(∃xs,Jx xs W')):=by
 obtain⟨bd,be,bf,bg,bh,aa⟩:=F.arcs x hx;obtain⟨bi,bj,bk,bm,bn,ab⟩:=F.arcs y U;have f:=fun c h1 h2=>U5 F hg hx U ex ey (c:=c) h1 h2
 simp only[X0E]at f;obtain⟨_,_,_,bo,bp⟩:=hg;have ac:=fun w=>LN x.set y.set aa ab w
 have ad:=fun k w (Y:k<256)=>MQ (x.set.both y.set) (St.both_w x.set y.set aa ab) k w Y
 have ae:=fun(k:Nat) w (Y:k<256)=>Q7 x k w Y (by omega)
 have af:=fun(k:Nat) w (Y:k<256)=>Q7 y k w Y (by omega)
 have ay:=fun k=>GJ x k
 have az:=fun k=>GJ y k
 have ag:=fun k=>St.both_m x.set y.set k
 clear hx U ex ey F;obtain⟨gp,gq,t,A⟩:=g;generalize bq:x.putB=pX at *;generalize br:y.putB=pY at *;obtain⟨xf,xt,xs,xo,xc⟩:=x;obtain⟨yf,yt,ys,yo,yc⟩:=y;generalize bt:xs.both ys=sb at *;obtain⟨m1,m2,m3,m4⟩:=xs;obtain⟨n1,n2,n3,n4⟩:=ys;obtain⟨B,C,D,E⟩:=sb;simp only[Cx,Fm,WH]at *;have x2:=V.b.cell 2;have x3:=V.b.cell 3;have x4:=V.b.cell 4;have x5:=V.b.cell 5;have y2:=X.b.cell 2;have y3:=X.b.cell 3;have y4:=X.b.cell 4;have y5:=X.b.cell 5;refine callsIn_of_wp Tryz.func109 rfl trivial ?_ rfl;simp only[Tryz.ntmps109,CJ,Bn,Co,Nat.reduceAdd,Nat.reduceSub,ES,ET,FG,En,Cy,Cf];have a0:=AB V;have a1:=AB X;have a2:=AB sl;have a3:=AB h0;have a4:=AB ad;have a5:=AB ag;have Q:=AB f;have HY:=AB hY;have a6:=AB ae;have a7:=AB af;clear V X sl h0 ad ag f hY ae af;gi_wp2;refine⟨trivial,(Ge.2 (ac W)).mono ?_⟩;rintro e L ⟨rfl,r⟩;have M:=r.alloc r.size (.cells #[.int .u64 (B:Int),.int .u64 (C:Int),.int .u64 (D:Int),.int .u64 (E:Int)] 58);have hC:=BL.new L 58 #[.int .u64 (B:Int),.int .u64 (C:Int),.int .u64 (D:Int),.int .u64 (E:Int)];have sc:Sure hi bR (L.alloc (.cells #[.int .u64 (B:Int),.int .u64 (C:Int),.int .u64 (D:Int),.int .u64 (E:Int)] 58)) L.heap.size 58 #[.int .u64 (B:Int),.int .u64 (C:Int),.int .u64 (D:Int),.int .u64 (E:Int)]:=Sure.of_new Z M hC r.size (AK ax r.size);have ah:=Z.below M;have ai:=a0.out.below Z M;have aj:=a1.out.below Z M;have ak:=a2.out.below Z M;have al:=Nt hJ a3.out M;have am:=M.size
 have an:=AB (show ByW J hi bR bx by_ bl L.heap.size #[.int .i64 xf,.int .i64 xt,.int .u64 (m1:Int),.int .u64 (m2:Int),.int .u64 (m3:Int),.int .u64 (m4:Int),.string xo,.bool xc] #[.int .i64 yf,.int .i64 yt,.int .u64 (n1:Int),.int .u64 (n2:Int),.int .u64 (n3:Int),.int .u64 (n4:Int),.string yo,.bool yc]
  #[.int .i64 gp,.int .i64 gq,.string t,.string A] #[.int .u64 (B:Int),.int .u64 (C:Int),.int .u64 (D:Int),.int .u64 (E:Int)] W [] (L.alloc (.cells #[.int .u64 (B:Int),.int .u64 (C:Int),.int .u64 (D:Int),.int .u64 (E:Int)] 58))from⟨al,ah,ai,aj,ak,sc,am⟩)
 clear al ah ai aj ak hC x2 x3 x4 x5 y2 y3 y4 y5 ac sc am M r;gi_wp2;generalize (L.alloc (.cells #[.int .u64 (B:Int),.int .u64 (C:Int),.int .u64 (D:Int),.int .u64 (E:Int)] 58))=w2 at *;generalize L.heap.size=bc at *
 gi_loopw [15] (fun i wr=>∃(k:Nat) (pre:List (Te u n (K+1025))),k<=256/\i=.int .i64 (k:Int)/\pre.length<=k/\ByW J hi bR bx by_ bl bc #[.int .i64 xf,.int .i64 xt,.int .u64 (m1:Int),.int .u64 (m2:Int),.int .u64 (m3:Int),.int .u64 (m4:Int),.string xo,.bool xc] #[.int .i64 yf,.int .i64 yt,.int .u64 (n1:Int),.int .u64 (n2:Int),.int .u64 (n3:Int),.int .u64 (n4:Int),.string yo,.bool yc]
  #[.int .i64 gp,.int .i64 gq,.string t,.string A] #[.int .u64 (B:Int),.int .u64 (C:Int),.int .u64 (D:Int),.int .u64 (E:Int)] W pre wr) (fun i _=>256-(intOf i).toNat)
 case atStart=>exact⟨0,[],AN _,rfl,AD _,an.out⟩
 case round=>
  clear an w2 L;obtain⟨k,pre,Y,rfl,ao,R⟩:=hrel;by_cases G:k<256
  .have bu:(k:Int)<256:=by omega
   have c0:=R.sc.b.cell 0;have c1:=R.sc.b.cell 1;have c2:=R.sc.b.cell 2;have c3:=R.sc.b.cell 3;gi_wp2;refine⟨trivial,(Ge.2 (a4.out k wr G)).mono ?_⟩;rintro e w5 ⟨rfl,ap⟩;have a:=R.below hJ ap;have N:=a5.out k;clear R c0 c1 c2 c3 ap;have hc:(UInt8.ofNat k).toNat=k:=by simp[Ez G]
   have o:=Q.out (UInt8.ofNat k);rw[hc]at o;generalize St.m ⟨B,C,D,E⟩ k=mb at *;have aq:=AB N;have ar:=AB o;clear N o hc;rcases mb with _|_
   .gi_wp2
    go_roundw
    case rel=>exact⟨k+1,pre,by omega,by go_num,by omega,a⟩
    case measure=>simp[intOf];omega
   .have hm:St.m ⟨m1,m2,m3,m4⟩ k=true/\St.m ⟨n1,n2,n3,n4⟩ k=true:=by rw[<-AW];exact aq.out.symm
    have a8:=AB (ar.out hm.1 hm.2);clear hm aq ar;have ba:=ay k;have bb:=az k;have kx:=fun d os=>a6.out k (grow (redrawn w5 d) os) G
    have ky:=fun d os=>a7.out k (grow (redrawn w5 d) os) G
    generalize pX k=O at *;generalize pY k=P at *;have bv:t.size+O.size<=9223372036854775807:=by omega
    have bw:A.size+P.size<=9223372036854775807:=by omega
    have kl:=fun d os=>PX (t++O) (A++P) (grow (redrawn w5 d) os) (by rw[Cg];unfold maxLen;omega) (by rw[Cg];unfold maxLen;omega)
    have au:(t++O).extract (E6 (t++O).data.toList (A++P).data.toList) (t++O).size=Ms (t++O) (A++P):=rfl;have av:(A++P).extract (E6 (t++O).data.toList (A++P).data.toList) (A++P).size=Mt (t++O) (A++P):=rfl;rw[au,av]at kl;clear au av;have l2:=AF (a.sl.b.cell 2);have l3:=AF (a.sl.b.cell 3);have x0:=AF (a.sx.b.cell 0);have x1:=AF (a.sx.b.cell 1);have x2:=AF (a.sx.b.cell 2);have x3:=AF (a.sx.b.cell 3);have x4:=AF (a.sx.b.cell 4);have x5:=AF (a.sx.b.cell 5);have x6:=AF (a.sx.b.cell 6);have x7:=AF (a.sx.b.cell 7);have y0:=AF (a.sy.b.cell 0);have y1:=AF (a.sy.b.cell 1);have y2:=AF (a.sy.b.cell 2);have y3:=AF (a.sy.b.cell 3);have y4:=AF (a.sy.b.cell 4);have y5:=AF (a.sy.b.cell 5);have y6:=AF (a.sy.b.cell 6);have y7:=AF (a.sy.b.cell 7);gi_wp2;refine wpIn_wide.2 ?_;refine Au (by kernel_rfl) (by kernel_rfl) ?_
    repeat (go_big_quiet_step ((first|(go_at_call 111;first|(with_reducible exact DY (kx _ _))|(with_reducible exact DY (ky _ _)))|(go_at_call 77;with_reducible exact DY (kl _ _)))))
    refine Ah ?_;intro w6 aw;have s:=a.below hJ (Bu aw);clear a aw kx ky kl l2 l3 x0 x1 x2 x3 x4 x5 x6 x7 y0 y1 y2 y3 y4 y5 y6 y7;have x1:=s.sx.b.cell 1;have y1:=s.sy.b.cell 1;obtain⟨fn,tmps,assign,body,U,hR⟩:=HY.out pre ⟨_,a8.out⟩ w6 s.j (by omega);simp only[NU,Fm]at U;have a9:=AB s;clear s;gi_wp2;refine hR.mono ?_;clear U hR x1 y1;rintro e w7 (⟨rfl,H,S⟩|⟨rfl,H,S⟩)
    .have I:=a9.out.kp S H
     have x7:=I.sx.b.cell 7;have y7:=I.sy.b.cell 7;have T:=AB I;clear I H S;rcases xc with _|_
     .rcases yc with _|_
      .gi_wp2;refine AQ (results_none rfl _ _ _) rfl ?_;exact⟨⟨_,rfl⟩,.inl ⟨_,T.out.j⟩⟩
      .gi_wp2
       go_roundw
       case rel=>exact⟨k+1,_,by omega,by go_num,by rw[AJ];exact Nat.add_le_add ao (AD 1),T.out⟩
       case measure=>simp[intOf];omega
     .gi_wp2
      go_roundw
      case rel=>exact⟨k+1,_,by omega,by go_num,by rw[AJ];exact Nat.add_le_add ao (AD 1),T.out⟩
      case measure=>simp[intOf];omega
    .gi_wp2;refine AQ (results_none rfl _ _ _) rfl ?_;exact⟨⟨_,rfl⟩,.inr ⟨_,H⟩⟩
  .obtain rfl:k=256:=by omega
   gi_wp2;go_end0;exact⟨⟨_,rfl⟩,.inl ⟨_,R.j⟩⟩
end
end Go.Proofs.YtcondkihpmmnnaaGreatDoor
