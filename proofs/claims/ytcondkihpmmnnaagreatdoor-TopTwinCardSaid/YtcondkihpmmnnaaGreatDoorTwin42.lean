/- Lemmas, part 42 of 50. No condition. -/
import Derived.Test.YtcondkihpmmnnaaGreatDoorTwin41
set_option maxRecDepth 100000
set_option maxHeartbeats 16000000
namespace Go.Proofs.YtcondkihpmmnnaaGreatDoor
section
open Go.RowKit Go.Sort
theorem RA:∀a b:List UInt8,Dc a b=(a.drop (E6 a b),b.drop (E6 a b))
 | x::a,y::b=>by
  unfold Dc E6;by_cases h:x=y
  .rw [AU h,AU h,RA a b];rfl
  .rw [AP h,AP h];rfl
 | [],b=>by rw[JR];simp[E6]
 | x::a,[]=>by rw[Jm];simp[E6]
def Ms (a b:ByteArray):ByteArray:=a.extract (E6 a.data.toList b.data.toList) a.size
def Mt (a b:ByteArray):ByteArray:=b.extract (E6 a.data.toList b.data.toList) b.size
theorem OK (a b:ByteArray):bl (Ms a b)=(Dc (bl a) (bl b)).1:=by unfold Ms;rw[Nf,RA]
theorem OL (a b:ByteArray):bl (Mt a b)=(Dc (bl a) (bl b)).2:=by unfold Mt;rw[Nf,RA]
theorem NL (a b:ByteArray):(Ms a b).size<=a.size:=by have:=(Mm (bl a) (bl b)).1;rw[<-OK,CK,CK]at this;exact this
theorem NM (a b:ByteArray):(Mt a b).size<=b.size:=by have:=(Mm (bl a) (bl b)).2;rw[<-OL,CK,CK]at this;exact this
def KD (k:Nat) (e:Bx) (x y:Ar) (c:UInt8):Bx:=⟨x.to,y.to,Ms (e.a++x.putB c.toNat) (e.b++y.putB c.toNat),Mt (e.a++x.putB c.toNat) (e.b++y.putB c.toNat),(k:Int),c.toNat⟩
theorem Lr (k:Nat) (e:Bx) (x y:Ar) (c:UInt8):bl (KD k e x y c).a=(Dc (bl e.a++x.put c) (bl e.b++y.put c)).1/\bl (KD k e x y c).b=(Dc (bl e.a++x.put c) (bl e.b++y.put c)).2:=by unfold KD;simp only;rw[OK,OL,DW,DW,Ar.putB_bl,Ar.putB_bl];exact⟨rfl,rfl⟩
theorem WM {u:Fs} {N:Nat} {row:List Bx} {place:List Int} {fd:Bool} (F:Fit u N) (S:Srch u N row place fd) {k:Nat} (f:k<row.length) {x y:Ar} (d:x∈u.arcs) (e:y∈u.arcs) (g:x.fr=(row.getD k JZ).p) (i:y.fr=(row.getD k JZ).q) {c:UInt8} (h1:x.set.m c.toNat=true) (h2:y.set.m c.toNat=true):FitBx u N row (KD k (row.getD k JZ) x y c):=by
 obtain⟨_,g2,_,_,_,_,⟨g7,g8⟩,_⟩:=S.good k f;obtain⟨n,a2,a3,a4,a5,_⟩:=F.arcs x d;obtain⟨o,r,j,l,s,_⟩:=F.arcs y e;obtain⟨l1,l2⟩:=Lr k (row.getD k JZ) x y c;have s1:=NL ((row.getD k JZ).a++x.putB c.toNat) ((row.getD k JZ).b++y.putB c.toNat);have s2:=NM ((row.getD k JZ).a++x.putB c.toNat) ((row.getD k JZ).b++y.putB c.toNat);rw[Cg]at s1 s2;have t:=GJ x c.toNat;have v:=GJ y c.toNat;refine⟨⟨a3,a4⟩,⟨j,l⟩,?_,⟨by show(-1:Int)<=(k:Int);omega,by show(k:Int)<row.length;omega⟩,u8_lt c,?_,?_⟩
 .rw [l1,l2];exact g2.step d e g i h1 h2
 .show (Ms _ _).size<=_;omega
 .show (Mt _ _).size<=_;omega
section
variable {L:SrL} {u:Fs} {w:World} {hops:List Hop} {vR:Value} {row:List Bx} {place:List Int} {tx:ByteArray} {fd:Bool}
theorem X0t (h:SrV L u w hops vR row place tx fd) (F:Fit u L.n) (K:Looked u L.n hops) (S:Srch u L.n row place fd) (k:Nat) (hk:k<row.length) (x y:Ar) (hx:x∈u.arcs) (hy:y∈u.arcs) (ex:x.fr=(row.getD k JZ).p) (ey:y.fr=(row.getD k JZ).q) (c:UInt8) (h1:x.set.m c.toNat=true) (h2:y.set.m c.toNat=true) :Calls Tryz.prog 129 #[.pointer (some ⟨L.G,0,none⟩),.int .i64 (k:Int),.agg (Cx x).toArray,.agg (Cx y).toArray,.int .u8 ((c.toNat:Nat):Int)] w (IF L u hops vR row fd (KD k (row.getD k JZ) x y c) w):=by
 obtain⟨A0,c0,rfl,_,_,_⟩:=BH h.oR;have v:=F.le;have a8:L.n*L.n<=32*32:=Dl v v;have a9:=S.short;have A:=WM F S hk hx hy ex ey h1 h2;have ar:=S.good k hk;have HS:=AB (fun(W:World) (hb:Below w.heap.size w W)=>h.call hb);have HM:=AB (fun(W:World) (hb:Below w.heap.size w W)=>Uw (h.call hb) F K S _ A);have au:=h.hl;have f:=AB (fun(W W':World) (e:Ending) (hb:Below w.heap.size w W) (hp:IF L u hops (.slice A0 row.length c0) row fd (KD k (row.getD k JZ) x y c) W e W')=>show IF L u hops (.slice A0 row.length c0) row fd (KD k (row.getD k JZ) x y c) w e W' from by obtain⟨e1,av,aa,l,aw,ax,q1,q2,q3,q4,q5,q6⟩:=hp;exact⟨e1,av,aa,l,aw,ax,q1,q2,(SrStay.of_below (L:=L) (vR:=.slice A0 row.length c0) au hb).trans q3,q4,q5,q6⟩);obtain⟨ba,bb,ay,az,a0,bc⟩:=F.arcs x hx;obtain⟨bd,be,a1,a2,a3,bf⟩:=F.arcs y hy;have j:=u8_lt c;have ab:=AB (fun W=>Ln x c.toNat W j (by omega));have ac:=AB (fun W=>Ln y c.toNat W j (by omega));have a4:=GJ x c.toNat;have a5:=GJ y c.toNat;obtain⟨gr,og,eA,ad,d0,d1,d2,d3,d4,d5⟩:=NJ (Reads.of_own h.oR) k hk;subst eA;have c7:=h.box.cell 7;unfold KD at HM f ⊢;clear F K S h A hx hy ex ey h1 h2;obtain⟨_,_,_,_,_,_,⟨a6,a7⟩,_⟩:=ar;generalize row.getD k JZ=z at *;obtain⟨zp,zq,g,i,zf,zc⟩:=z;simp only at HM f d0 d1 d2 d3 d4 d5 a6 a7 ⊢;generalize ae:x.putB c.toNat=o at *;generalize af:y.putB c.toNat=r at *;clear ae af;obtain⟨Q,R,⟨T,U,V,X⟩,Y,Z⟩:=x;obtain⟨D,E,⟨H,I,J,M⟩,N,O⟩:=y;simp only at HM f ay az a0 a1 a2 a3 a4 a5 ⊢;generalize c.toNat=cc at *;have bg:g.size+o.size<=9223372036854775807:=by omega
 have bh:i.size+r.size<=9223372036854775807:=by omega
 have B:=AB (fun W=>PX (g++o) (i++r) W (by rw[Cg];unfold maxLen;omega) (by rw[Cg];unfold maxLen;omega));show Calls Tryz.prog 129 #[.pointer (some ⟨L.G,0,none⟩),.int .i64 (k:Int),.agg #[.int .i64 Q,.int .i64 R,.int .u64 (T:Int),.int .u64 (U:Int),.int .u64 (V:Int),.int .u64 (X:Int),.string Y,.bool Z],.agg #[.int .i64 D,.int .i64 E,.int .u64 (H:Int),.int .u64 (I:Int),.int .u64 (J:Int),.int .u64 (M:Int),.string N,.bool O],.int .u8 (cc:Int)] w _;have KX:=BL.new w 61 #[.int .i64 Q,.int .i64 R,.int .u64 (T:Int),.int .u64 (U:Int),.int .u64 (V:Int),.int .u64 (X:Int),.string Y,.bool Z];have LX:=(AH w.heap.size w).alloc (AD _) (.cells #[.int .i64 Q,.int .i64 R,.int .u64 (T:Int),.int .u64 (U:Int),.int .u64 (V:Int),.int .u64 (X:Int),.string Y,.bool Z] 61);have ag:(w.alloc (.cells #[.int .i64 Q,.int .i64 R,.int .u64 (T:Int),.int .u64 (U:Int),.int .u64 (V:Int),.int .u64 (X:Int),.string Y,.bool Z] 61)).heap.size=w.heap.size+1:=by simp
 generalize ah:(w.alloc (.cells #[.int .i64 Q,.int .i64 R,.int .u64 (T:Int),.int .u64 (U:Int),.int .u64 (V:Int),.int .u64 (X:Int),.string Y,.bool Z] 61))=Wx at *;have KY:=BL.new Wx 61 #[.int .i64 D,.int .i64 E,.int .u64 (H:Int),.int .u64 (I:Int),.int .u64 (J:Int),.int .u64 (M:Int),.string N,.bool O];have LY:=LX.alloc LX.size (.cells #[.int .i64 D,.int .i64 E,.int .u64 (H:Int),.int .u64 (I:Int),.int .u64 (J:Int),.int .u64 (M:Int),.string N,.bool O] 61);have ai:=KX.alloc (.cells #[.int .i64 D,.int .i64 E,.int .u64 (H:Int),.int .u64 (I:Int),.int .u64 (J:Int),.int .u64 (M:Int),.string N,.bool O] 61);have aj:(Wx.alloc (.cells #[.int .i64 D,.int .i64 E,.int .u64 (H:Int),.int .u64 (I:Int),.int .u64 (J:Int),.int .u64 (M:Int),.string N,.bool O] 61)).heap.size=w.heap.size+2:=by rw[Ad,ag]
 rw[ag]at KY;generalize ak:(Wx.alloc (.cells #[.int .i64 D,.int .i64 E,.int .u64 (H:Int),.int .u64 (I:Int),.int .u64 (J:Int),.int .u64 (M:Int),.string N,.bool O] 61))=Wy at *;have KL:=BL.new Wy 193 #[.string g,.string i];have LL:=LY.alloc LY.size (.cells #[.string g,.string i] 193);have a:=ai.alloc (.cells #[.string g,.string i] 193);have b:=KY.alloc (.cells #[.string g,.string i] 193);rw[aj]at KL;have bi:(k:Int)<(row.length:Int):=by omega
 have bj:(0:Int)<=(k:Int):=by omega
 have e2:=(LY.cell (p:=⟨gr,og+k*6+2,none⟩) ad).trans d2;have e3:=(LY.cell (p:=⟨gr,og+k*6+3,none⟩) ad).trans d3;have e7:=(HS.out Wy LY).box.cell 7;clear d0 d1 d2 d3 d4 d5 c7 KX ai KY LX;have HW:=AB (AI ah ak);go_enter Tryz.func129,Tryz.ntmps129;go_upto_region 1 with(fail)
 go_upto_region 2 with(fail)
 clear e2 e3 e7;generalize al:(Wy.alloc (.cells #[.string g,.string i] 193))=C at *;have s:C.heap.size=w.heap.size+3:=by rw[<-al,Ad,aj]
 clear al HW ah ak LY;have r0:=AF (KL.cell 0);have r1:=AF (KL.cell 1);have x0:=AF (a.cell 0);have x1:=AF (a.cell 1);have x2:=AF (a.cell 2);have x3:=AF (a.cell 3);have x4:=AF (a.cell 4);have x5:=AF (a.cell 5);have x6:=AF (a.cell 6);have x7:=AF (a.cell 7);have y0:=AF (b.cell 0);have y1:=AF (b.cell 1);have y2:=AF (b.cell 2);have y3:=AF (b.cell 3);have y4:=AF (b.cell 4);have y5:=AF (b.cell 5);have y6:=AF (b.cell 6);have y7:=AF (b.cell 7);have kx:∀d os,Calls Tryz.prog 153 #[.agg #[.int .i64 Q,.int .i64 R,.int .u64 (T:Int),.int .u64 (U:Int),.int .u64 (V:Int),.int .u64 (X:Int),.string Y,.bool Z],.int .u8 (cc:Int)] (grow (redrawn C d) os) (C7 (.string o) (grow (redrawn C d) os)):=fun d os=>ab.out (grow (redrawn C d) os)
 have ky:∀d os,Calls Tryz.prog 153 #[.agg #[.int .i64 D,.int .i64 E,.int .u64 (H:Int),.int .u64 (I:Int),.int .u64 (J:Int),.int .u64 (M:Int),.string N,.bool O],.int .u8 (cc:Int)] (grow (redrawn C d) os) (C7 (.string r) (grow (redrawn C d) os)):=fun d os=>ac.out (grow (redrawn C d) os)
 have kl:=fun d os=>B.out (grow (redrawn C d) os)
 have am:(g++o).extract (E6 (g++o).data.toList (i++r).data.toList) (g++o).size=Ms (g++o) (i++r):=rfl;have an:(i++r).extract (E6 (g++o).data.toList (i++r).data.toList) (i++r).size=Mt (g++o) (i++r):=rfl;rw[am,an]at kl;clear am an;go_wp2;refine Au (by kernel_rfl) (by kernel_rfl) ?_
 repeat (go_big_quiet_step ((first|(go_at_call 153;first|(with_reducible exact DY (kx _ _))|(with_reducible exact DY (ky _ _)))|(go_at_call 77;with_reducible exact DY (kl _ _)))))
 refine Ah ?_;intro w6 ao;have t:=Bu ao;have ap:Below w.heap.size w w6:=LL.trans (t.mono (by rw[s];omega));have s0:=(t.cell (p:=⟨w.heap.size,1,none⟩) (by rw[s];show w.heap.size<w.heap.size+3;omega)).trans (a.cell 1);have s1:=(t.cell (p:=⟨w.heap.size+1,1,none⟩) (by rw[s];show w.heap.size+1<w.heap.size+3;omega)).trans (b.cell 1);clear kx ky kl r0 r1 x0 x1 x2 x3 x4 x5 x6 x7 y0 y1 y2 y3 y4 y5 y6 y7 a b KL LL ab ac B ao t s
 go_wp2_with fail
 refine(HM.out _ ap).mono ?_;intro e7 w7 aq;obtain⟨rfl,P⟩:=f.out _ _ _ ap aq;have P:=AB P;clear aq;go_wp2;go_end0;exact⟨rfl,P.out⟩
end
end
section
open Go.RowKit Go.Sort
def Ff (u:Fs) (z:Bx) (row:List Bx) (x y:Ar) (b:Nat):Prop:=∀c:UInt8,c.toNat<b->x.set.m c.toNat=true->y.set.m c.toNat=true->KM u x.to y.to->Has row x.to y.to (Dc (bl z.a++x.put c) (bl z.b++y.put c)).1 (Dc (bl z.a++x.put c) (bl z.b++y.put c)).2
def FB (u:Fs) (z:Bx) (row:List Bx) (X Y:List Int) (i j:Nat):Prop:=∀a,a<X.length->∀b,b<Y.length->(a<i\/(a=i/\b<j))->Ff u z row (Ex u (X.getD a 0)) (Ex u (Y.getD b 0)) 256
section
variable {u:Fs} {z:Bx} {row row':List Bx} {x y:Ar} {b i j:Nat} {X Y:List Int}
theorem Ff.mono (h:Ff u z row x y b) (a:row <+: row'):Ff u z row' x y b:=fun c h1 h2 h3 h4=>(h c h1 h2 h3 h4).mono a
theorem Ff.zero:Ff u z row x y 0:=fun c h=>absurd h (by omega)
theorem Ff.next (h:Ff u z row x y b) (d:∀c:UInt8,c.toNat=b->x.set.m c.toNat=true->y.set.m c.toNat=true->KM u x.to y.to->Has row x.to y.to (Dc (bl z.a++x.put c) (bl z.b++y.put c)).1 (Dc (bl z.a++x.put c) (bl z.b++y.put c)).2):Ff u z row x y (b+1):=by
 intro c h1 h2 h3 h4;rcases BF c.toNat b with e|f
 .exact h c e h2 h3 h4
 .exact d c (by omega) h2 h3 h4
theorem Ff.none_ (h:∀c:UInt8,x.set.m c.toNat=true->y.set.m c.toNat=true->False):Ff u z row x y b:=fun c _ h1 h2 _=>(h c h1 h2).elim
theorem SZ (a:x.cp=false) (c d:UInt8):x.put c=x.put d:=by unfold Ar.put;rw[a];rfl
theorem Ff.same (e:x.cp=false) (f:y.cp=false) {d:UInt8} (h:KM u x.to y.to->Has row x.to y.to (Dc (bl z.a++x.put d) (bl z.b++y.put d)).1 (Dc (bl z.a++x.put d) (bl z.b++y.put d)).2):Ff u z row x y b:=by intro c _ _ _ g;rw[SZ e c d,SZ f c d];exact h g
theorem FB.mono (h:FB u z row X Y i j) (c:row <+: row'):FB u z row' X Y i j:=fun a d b e f=>(h a d b e f).mono c
theorem FB.start:FB u z row X Y 0 0:=fun a c b d e=>by omega
theorem FB.row_ (h:FB u z row X Y i j) (e:Y.length<=j):FB u z row X Y (i+1) 0:=fun a c b d f=>h a c b d (by omega)
theorem FB.next (h:FB u z row X Y i j) (c:Ff u z row (Ex u (X.getD i 0)) (Ex u (Y.getD j 0)) 256):FB u z row X Y i (j+1):=fun a d b f g=>by
 by_cases e:a=i/\b=j
 .obtain ⟨rfl,rfl⟩:=e;exact c
 .exact h a d b f (by omega)
theorem FB.done {p q:Nat} {k:Nat} (h:FB u z row (IA u.arcs u.arcs.length p) (IA u.arcs u.arcs.length q) i 0) (hi:(IA u.arcs u.arcs.length p).length<=i) (m:row.getD k JZ=z) (n:z.p=(p:Int)) (o:z.q=(q:Int)):Mo u row k:=by intro x r y s h1 h2 c h3 h4 t;rw[m]at h1 h2 ⊢;obtain⟨a,v,j⟩:=TV r;obtain⟨b,w,l⟩:=TV s;have A:(a:Int)∈IA u.arcs u.arcs.length p:=JT.2 ⟨v,by rw[j,h1,n]⟩;have B:(b:Int)∈IA u.arcs u.arcs.length q:=JT.2 ⟨w,by rw[l,h2,o]⟩;obtain⟨C,d,f⟩:=Bp.1 A;obtain⟨D,e,g⟩:=Bp.1 B;have:=h C d D e (.inl (by omega));rw[AC,AG d,DV,f,j,AC,AG e,DV,g,l]at this;exact this c (u8_lt c) h3 h4 t
end
structure OnW (L:SrL) (u:Fs) (hops:List Hop) (vR:Value) (row:List Bx) (fd:Bool) (w wr:World) (vR':Value) (row':List Bx) (place':List Int) (tx':ByteArray) (fd':Bool):Prop where
 sv:SrV L u wr hops vR' row' place' tx' fd'
 sr:Srch u L.n row' place' fd'
 st:SrStay L vR vR' w wr
 pre:row <+: row'
 fnd:fd=true->fd'=true
def Ov (L:SrL) (u:Fs) (hops:List Hop) (vR:Value) (row:List Bx) (fd:Bool) (k:Nat) (w:World) (e:Ending) (w':World):Prop:=e=.returned (.tuple #[])/\∃vR' row' place' tx' fd',OnW L u hops vR row fd w w' vR' row' place' tx' fd'/\(fd'=false->Mo u row' k)
section
variable {L:SrL} {u:Fs} {w wr W:World} {hops:List Hop} {vR vR':Value} {row row':List Bx} {place place':List Int} {tx tx':ByteArray} {fd fd':Bool}
theorem OnW.start (h:SrV L u w hops vR row place tx fd) (S:Srch u L.n row place fd):OnW L u hops vR row fd w w vR row place tx fd:=⟨h,S,SrStay.refl L vR w,CW _,fun h=>h⟩
theorem OnW.call (h:OnW L u hops vR row fd w wr vR' row' place' tx' fd') (a:Below wr.heap.size wr W):OnW L u hops vR row fd w W vR' row' place' tx' fd':=⟨h.sv.call a,h.sr,h.st.trans (SrStay.of_below h.sv.hl a),h.pre,h.fnd⟩
theorem OnW.step {x:Bx} {e:Ending} (h:OnW L u hops vR row fd w wr vR' row' place' tx' fd') (o:IF L u hops vR' row' fd' x wr e W) :e=.returned (.tuple #[])/\∃i c d j f,OnW L u hops vR row fd w W i c d j f/\row' <+: c/\(fd'=true->f=true)/\(∀g T l,BL wr g T l->L.K<=g->197≠T->BL W g T l) /\(f=false->KM u x.p x.q->Has c x.p x.q (bl x.a) (bl x.b)):=by obtain⟨r,i,c,d,j,f,h1,h2,h3,h4,h5,h6⟩:=o;exact⟨r,i,c,d,j,f,⟨h1,h2,h.st.trans h3,h.pre.trans h4,fun k=>h5 (h.fnd k)⟩,h4,h5,fun g T l n s m=>h3.blk h.sv n s (h.sv.own_ne n m),h6⟩
theorem OnW.heap (h:OnW L u hops vR row fd w wr vR' row' place' tx' fd') (h0:SrV L u w hops vR row place tx fd):∀g,Fx L.K L.G L.H L.PL g->wr.heap[g]?=w.heap[g]?:=by
 intro g a;refine h.st.keep g (Aj a.1 h0.sz) a.2.1 a.2.2.2 fun e=>?_
 have:=(h0.own_lt g e).1;have:=a.1;omega
theorem OnW.size (h:OnW L u hops vR row fd w wr vR' row' place' tx' fd'):w.heap.size<=wr.heap.size:=h.st.bel.size
theorem OnW.box_at (h:OnW L u hops vR row fd w wr vR' row' place' tx' fd') {k:Nat} (a:k<row.length):k<row'.length/\row'.getD k JZ=row.getD k JZ:=by obtain⟨r,rfl⟩:=h.pre;exact⟨by rw[AJ];omega,FT _ _ _ _ a⟩
end
end
end Go.Proofs.YtcondkihpmmnnaaGreatDoor
