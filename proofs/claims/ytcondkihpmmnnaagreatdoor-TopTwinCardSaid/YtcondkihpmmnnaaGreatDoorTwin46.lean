/- Lemmas, part 46 of 50. No condition. -/
import Derived.Test.YtcondkihpmmnnaaGreatDoorTwin40
import Derived.Test.YtcondkihpmmnnaaGreatDoorTwin45
import Derived.Test.YtcondkihpmmnnaaGreatDoorTwin44
set_option maxRecDepth 100000
set_option maxHeartbeats 16000000
namespace Go.Proofs.YtcondkihpmmnnaaGreatDoor
section
open Go.RowKit Go.Sort
def Ww (w:World) (e:Ending) (w':World):Prop:=∃vt,e=.returned vt/\EK w' w'.heap.size TK vt/\Below w.heap.size w w'
theorem X1t {R:Ending->World->Prop} {tmps:Array Value} {f:Nat} {b c d e:Value} {W:World} (h4:tmps[4]?=some (.pointer (some ⟨f,0,none⟩))) (a:BL W f 32 #[b,c,d,e]) (h:R (.returned (.agg #[b,c,d,e])) W):bodyPost Tryz.prog Tryz.f22 R Exit.ret ⟨tmps,[]⟩ W:=by have g:=a.cell 0;have q1:=a.cell 1;have i:=a.cell 2;have j:=a.cell 3;exact AQ (v:=.agg #[b,c,d,e]) (by simp[results,Tryz.results22,go_sem,g,q1,i,j,h4]) rfl h
theorem Ke {w:World} {g k n:Nat} {T:TypeId} {xs:List Value} (h:BL w g T xs.toArray) (a:xs.length=n*k):Reads w w.heap.size k (some ⟨g,0,none⟩) n xs:=⟨a,fun _=>⟨_,rfl,h.lt,fun j u b=>by rw[Gq,C8,h.cell];simpa using b⟩⟩
theorem Zy {a:Nat} {W:World} {T:TypeId} {c d e f:Value} (h:BL W a T #[c,d,e,f]) (v0 b v2 v3:Value):BL ((((W.setCell ⟨a,0,none⟩ v0).setCell ⟨a,1,none⟩ b).setCell ⟨a,2,none⟩ v2).setCell ⟨a,3,none⟩ v3) a T #[v0,b,v2,v3]:=(((h.set_ 0 v0).set_ 1 b).set_ 2 v2).set_ 3 v3
theorem Uj {a g:Nat} {W:World} {T:TypeId} {c:Array Value} (h:BL W g T c) (b:g≠a) (v0 d v2 v3:Value):BL ((((W.setCell ⟨a,0,none⟩ v0).setCell ⟨a,1,none⟩ d).setCell ⟨a,2,none⟩ v2).setCell ⟨a,3,none⟩ v3) g T c:=(((h.far (p:=⟨a,0,none⟩) b v0).far (p:=⟨a,1,none⟩) b d).far (p:=⟨a,2,none⟩) b v2).far (p:=⟨a,3,none⟩) b v3
theorem X1u (w:World):Calls Tryz.prog 22 #[.int .u8 97,.string Tj] w (Ww w):=by
 have m:=fun(W:World) (g:Nat) (B:Reads W W.heap.size 1 (some ⟨g,0,none⟩) 1 (GL [97]))=>V4 (some ⟨g,0,none⟩) 1 1 _ [97] W B (AD _) (by decide) (AD _) (by decide)
 have S:=AB (Eq.refl Tj);generalize C:Tj=T at *;have N:=(AH w.heap.size w).alloc (AD _) (.cells #[.int .i64 0,.slice none 0 0,.slice none 0 0,.slice none 0 0] 32);go_enter Tryz.func22,Tryz.ntmps22
 go_wp2_with fail
 have D:=BL.new w 32 #[.int .i64 0,.slice none 0 0,.slice none 0 0,.slice none 0 0];generalize o:w.alloc (.cells #[.int .i64 0,.slice none 0 0,.slice none 0 0,.slice none 0 0] 32)=f at *;have E:f.heap.size=w.heap.size+1:=by rw[<-o,Ad]
 have F:=(AH f.heap.size f).alloc (AD _) (.cells #[.int .i64 0,.string ⟨#[]⟩] 54);have G:=BL.new f 54 #[.int .i64 0,.string ⟨#[]⟩];generalize q:f.alloc (.cells #[.int .i64 0,.string ⟨#[]⟩] 54)=i at *;have z2:i.heap.size=w.heap.size+1+1:=by rw[<-q,Ad,E]
 have r:=(AH i.heap.size i).alloc (AD _) (.cells #[.int .i64 1,.string ⟨#[]⟩] 54);have H:=BL.new i 54 #[.int .i64 1,.string ⟨#[]⟩];generalize s:i.alloc (.cells #[.int .i64 1,.string ⟨#[]⟩] 54)=j at *;have z3:j.heap.size=w.heap.size+1+1+1:=by rw[<-s,Ad,z2]
 have d:=(AH j.heap.size j).alloc (AD _) (.cells #[.int .u8 97] 5);have I:=Ke (k:=1) (n:=1) (xs:=GL [97]) (BL.new j 5 #[.int .u8 97]) rfl;rw[z3]at I;have O:=m _ _ I;generalize J:j.alloc (.cells #[.int .u8 97] 5)=w4 at *;refine O.mono ?_;rintro e b ⟨rfl,c⟩;have z4:=c.size;have K:=d.size;have L:Below f.heap.size f b:=F.trans ((r.trans ((d.trans (c.mono d.size)).mono r.size)).mono F.size);have t:Below i.heap.size i b:=r.trans ((d.trans (c.mono d.size)).mono r.size);have u:Below j.heap.size j b:=d.trans (c.mono d.size);have a:=D.below L D.lt;have v:=G.below t G.lt;have y:=H.below u H.lt;rw[E]at v;rw[z2]at y;have k0:=a.cell 0;have k1:=a.cell 1;have k2:=a.cell 2;have k3:=a.cell 3;have f0:=a.frozen 0;have f1:=a.frozen 1;have f2:=a.frozen 2;have f3:=a.frozen 3;have P:=N.trans (L.mono (by omega));have U:w.heap.size+1+1+1<=b.heap.size:=by omega
 clear O m N F r d D G H I c L t u z4 K o q s J E z2 z3;have hl:=a.lt;have V:w.heap.size+1≠w.heap.size:=by omega
 have X:w.heap.size+1+1≠w.heap.size:=by omega
 have z:∀v0 l v2 v3:Value,Below w.heap.size w ((((b.setCell ⟨w.heap.size,0,none⟩ v0).setCell ⟨w.heap.size,1,none⟩ l).setCell ⟨w.heap.size,2,none⟩ v2).setCell ⟨w.heap.size,3,none⟩ v3):=fun v0 l v2 v3=>(((P.setCell (p:=⟨w.heap.size,0,none⟩) (AD _) v0).setCell (p:=⟨w.heap.size,1,none⟩) (AD _) l).setCell (p:=⟨w.heap.size,2,none⟩) (AD _) v2).setCell (p:=⟨w.heap.size,3,none⟩) (AD _) v3
 have Y:=AB (fun v0 l v2 v3:Value=>AI (Zy a v0 l v2 v3) (AI (Uj v V v0 l v2 v3) (Uj y X v0 l v2 v3)));have Z:=AB z;clear a v y P z
 go_wp2_with fail
 have M:((((b.setCell ⟨w.heap.size,0,none⟩ (.int .i64 2)).setCell ⟨w.heap.size,1,none⟩ (.slice (some ⟨w.heap.size+1,0,none⟩) 1 1)).setCell ⟨w.heap.size,2,none⟩ (.slice (some ⟨w.heap.size+1+1,0,none⟩) 1 1)).setCell ⟨w.heap.size,3,none⟩ (.slice (some ⟨b.heap.size,0,none⟩) 1 1)).heap.size=b.heap.size:=by simp
 obtain⟨a,v,y⟩:=Y.out (.int .i64 2) (.slice (some ⟨w.heap.size+1,0,none⟩) 1 1) (.slice (some ⟨w.heap.size+1+1,0,none⟩) 1 1) (.slice (some ⟨b.heap.size,0,none⟩) 1 1);have Q:=Z.out (.int .i64 2) (.slice (some ⟨w.heap.size+1,0,none⟩) 1 1) (.slice (some ⟨w.heap.size+1+1,0,none⟩) 1 1) (.slice (some ⟨b.heap.size,0,none⟩) 1 1);generalize ((((b.setCell ⟨w.heap.size,0,none⟩ (.int .i64 2)).setCell ⟨w.heap.size,1,none⟩ (.slice (some ⟨w.heap.size+1,0,none⟩) 1 1)).setCell ⟨w.heap.size,2,none⟩ (.slice (some ⟨w.heap.size+1+1,0,none⟩) 1 1)).setCell ⟨w.heap.size,3,none⟩ (.slice (some ⟨b.heap.size,0,none⟩) 1 1))=w6 at *;have R:=BL.new w6 61 #[.int .i64 0,.int .i64 1,.int .u64 ((word (Gy [97]) 0:Nat):Int),.int .u64 ((word (Gy [97]) 1:Nat):Int),.int .u64 ((word (Gy [97]) 2:Nat):Int),.int .u64 ((word (Gy [97]) 3:Nat):Int),.string T,.bool false];rw[M]at R;subst C;refine X1t rfl (a.alloc _) ⟨_,rfl,⟨_,1,_,1,_,1,rfl,?_⟩,Q.alloc Q.size _⟩;refine⟨AD _,AD _,AD _,by unfold maxLen;decide,by unfold maxLen;decide,by unfold maxLen;decide,by decide,by decide,Ke (v.alloc _) rfl,fun x A=>?_,Ke (y.alloc _) rfl,fun x A=>?_,Ke R rfl,fun x A=>?_⟩
 .obtain rfl:=AM.1 A;exact⟨by decide,by decide,by unfold maxLen;decide⟩
 .obtain rfl:=AM.1 A;exact⟨by decide,by decide,by unfold maxLen;decide⟩
 .obtain rfl:=AM.1 A;refine⟨by decide,by decide,by decide,by decide,?_,by unfold maxLen;decide⟩;unfold OU aS;decide +kernel
end
section
open Go.RowKit Go.Sort
theorem X1v:Dq TK=true:=by decide +kernel
theorem xy_of {o:ByteArray} (h:bl o=[120,121]):o=⟨#[120,121]⟩:=D_ h
theorem Zz (w:World) (U:Pow w w.heap.size):Calls Tryz.prog 8 #[] w (C7 (.bool true) w):=by
 have h1:Calls Tryz.prog 22 #[.int .u8 97,.string ⟨#[120,121]⟩] w (Ww w):=X1u w;have V:=AB h1;clear h1;go_enter Tryz.func8,Tryz.ntmps8
 go_wp2_with fail
 refine V.out.mono ?_;clear V;rintro e W ⟨vt,rfl,X,c⟩;have s:=AB (SM TK vt W.heap.size 5 W X (AD _) ((U.below c).mono c.size) (by decide));clear X
 go_wp2_with fail
 refine s.out.mono ?_;clear s;rintro e G ⟨j,v2,q,k,rfl,H,_,_,h5⟩;obtain⟨u,f,t,_,h6⟩:=h5 X1v (by decide) (by decide);rw[show(5:Int).toNat=5 from rfl,(X1W t).all]at h6;obtain⟨rfl,rfl⟩:=h6;obtain⟨Y,Z,A2,c2,A3,c3,A4,c4,rfl,_⟩:=H.at_;have I:=c.trans (j.mono c.size);have aa:=c.size;have ab:=j.size;clear h5 t c j;generalize J:q1.front=fr at *;generalize K:q1.next.length=n1 at *;generalize L:q1.outs.length=n2 at *;generalize M:q1.ends.length=n3 at *;generalize N:q1.tail.length=n4 at *;clear J K L M N;have K2:=(BL.new G 27 #[.string fr,.slice Y n1 Z,.slice A2 n2 c2,.slice A3 n3 c3,.slice A4 n4 c4]);have O:=(AH G.heap.size G).alloc (AD _) (.cells #[.string fr,.slice Y n1 Z,.slice A2 n2 c2,.slice A3 n3 c3,.slice A4 n4 c4] 27);have y:=H.below O;have z:=I.trans (O.mono I.size);have A:=AB (X1s q1 _ _ _ y.at_ (AD _) ((U.below z).mono z.size));clear H y
 go_wp2_with fail
 refine A.out.mono ?_;clear A;rintro e P ⟨B,v4,r,k,rfl,F,d⟩
 have l:k=0/\Canon r/\Gp r=true/\∀x,r.run x=q1.run x:=by
  rcases d with⟨h,_⟩|⟨_,⟨_,_,k',hf,hl⟩|⟨h1,⟨_,h2⟩|⟨h2,h3,h4⟩⟩⟩
  .rw [q1_ck]at h;cases h
  .exact absurd hl (Zn hf)
  .have:=h2 [97];rw[Vs]at this;cases this
  .exact ⟨h1,h2,h3,h4⟩
 obtain⟨rfl,hcn,C,m⟩:=l;have a:=Vt hcn m;obtain⟨D1,d1,D2,d2,D3,d3,D4,d4,rfl,_⟩:=F.at_;have g:=m [97];rw[Vs]at g;rw[a]at F ⊢;have Q:=z.trans (B.mono z.size);clear d hcn m a K2 O z I B;have R:=(BL.new P 27 #[.string ⟨#[120,121]⟩,.slice D1 r.next.length d1,.slice D2 r.outs.length d2,.slice D3 r.ends.length d3,.slice D4 r.tail.length d4]);have S:=(AH P.heap.size P).alloc (AD _) (.cells #[.string ⟨#[120,121]⟩,.slice D1 r.next.length d1,.slice D2 r.outs.length d2,.slice D3 r.ends.length d3,.slice D4 r.tail.length d4] 27);have D:=F.below S;have T:=Q.trans (S.mono Q.size);have n:=AB (YE r _ _ ⟨#[97]⟩ _ D.at_ (AD _) (by decide));have i:=AB (AI C g);have E:Value.string Tj=Value.string ⟨#[120,121]⟩:=rfl;rw[E]at n ⊢;clear F D C g E;generalize r.next.length=m1 at *;generalize r.outs.length=m2 at *;generalize r.ends.length=m3 at *;generalize r.tail.length=m4 at *
 go_wp2_with fail
 refine n.out.mono ?_;clear n;rintro e w6 ⟨o,k',b,rr,rfl,p,_,_,h2,_⟩;obtain⟨rfl,h3⟩:=h2 i.out.1;rw[show bl ⟨#[97]⟩=[97]from rfl,i.out.2]at h3
 have hb:b=true:=by
  rcases b with _|_
  .cases h3
  .rfl
 subst hb;have h3:some [120,121]=some (bl o):=h3;obtain rfl:=xy_of (AL h3).symm;have q0:=(R.below p R.lt).cell 0;have HB:=AB (show C7 (.bool true) w (.returned (.bool true)) w6 from⟨rfl,T.trans (p.mono T.size)⟩);clear h2 h3 i S R Q T p
 go_wp2_with fail
 exact AQ (v:=.bool true) (by simp[results,Tryz.results8,go_sem]) rfl HB.out
end
section
open Go.RowKit Go.Sort Go.Shelf
theorem Ir {B B':Nat} {A C:World} (h:KeepsFrom B A C) (a:B<=B'):KeepsFrom B' A C:=⟨h.size,fun k o b=>h.same k o (AK a b)⟩
def VC (i j k:Nat):Nat:=i*68719476736+j*4194304+k*256
theorem nxN_k {i j k a z:Nat} (h:a<=VC i j k) (b:z<=256):a+z<=VC i j (k+1):=by unfold VC at *;omega
theorem X2h {i j k a:Nat} (h:a<=VC i j k) (b:k<=16384):a<=VC i (j+1) 0:=by have h1:k*256<=4194304:=AK (CY 256 b) (by decide);unfold VC at *;rw[EH,Nat.zero_mul,D0];exact AK h (by rw[<-Dx];exact Nat.add_le_add_left h1 _)
theorem X2i {i j a:Nat} (h:a<=VC i j 0) (b:j<=16384):a<=VC (i+1) 0 0:=by have h1:j*4194304<=68719476736:=AK (CY 4194304 b) (by decide);unfold VC at *;rw[EH,Nat.zero_mul,D0,D0];rw[Nat.zero_mul,D0]at h;exact AK h (Nat.add_le_add_left h1 _)
theorem X2j {i j k a z:Nat} (h:a<=VC i j k) (hi:i<2048) (b:j<16384) (c:k<16384) (d:z<256):a+z<140737488355328:=by unfold VC at *;omega
section
variable {α:Type} {J:List α->World->Prop} {lo hi bR bs l By:Nat} {W0 A C:World} {pre:List α} {ds:List Deferred}
theorem NxW.grown (h:NxW J lo hi bR bs l By W0 pre ds A) (t:OwnFrom W0.heap.size J) {B:Nat} {r:Option Nat} (a:A.grownBy C r) (f:∀k,r=some k->B<=k/\∃o:Obj,A.heap[k]?=some o/\o.isCells=false) (h0:W0.heap.size<=B) (u:lo<=W0.heap.size) (v:bR<B) (w:∀d∈ds,∀D,d.target=.collected D->D<B) :NxW J lo hi bR bs l By W0 pre ds C:=by
 have m:∀{g:Nat} {T:TypeId} {n:Array Value},BL A g T n->some g≠r:=fun {g T n} p e=>by obtain⟨_,o,q,x⟩:=f g e.symm;unfold BL at p;rw[p]at q;cases q;cases x
 have i:C.heap[bR]?=A.heap[bR]?:=a.block _ h.wp.1 (fun e=>by have:=(f _ e.symm).1;omega);refine⟨t _ _ _ r h.j a (fun k e=>⟨by have:=(f k e).1;omega,(f k e).2⟩),fun k c=>(a.block k (by have:=c.1;have:=h.sz;omega) (fun e=>by have:=(f _ e.symm).1;have:=c.1;omega)).trans (h.old k c),⟨by have:=h.wp.1;have:=a.size;omega,fun k c=>?_⟩,⟨h.yb.b.grown a (m h.yb.b),h.yb.hi,fun c=>h.yb.no ((IQ i).1 c)⟩,h.mks.kept fun D F y s=>?_,AK h.sz a.size⟩
 .have:=h.wp.2 k ((IQ i).1 c);have:=a.size;omega
 .obtain ⟨d,z,e⟩:=y;exact(a.block D (BS.1 s).1 (fun E=>by have:=(f _ E.symm).1;have:=w d z D e;omega)).trans s
theorem Sure.grown {g:Nat} {T:TypeId} {c:Array Value} (h:Sure hi bR A g T c) {B:Nat} {r:Option Nat} (d:A.grownBy C r) (f:∀k,r=some k->B<=k/\∃o:Obj,A.heap[k]?=some o/\o.isCells=false) (l:bR<A.heap.size) (m:bR<B):Sure hi bR C g T c:=by have a:C.heap[bR]?=A.heap[bR]?:=d.block _ l (fun e=>by have:=(f _ e.symm).1;omega);refine⟨h.b.grown d (fun e=>?_),h.hi,fun n=>h.no ((IQ a).1 n)⟩;obtain⟨_,o,i,p⟩:=f g e.symm;have j:=h.b;unfold BL at j;rw[j]at i;cases i;cases p
theorem NxW.kp (h:NxW J lo hi bR bs l By W0 pre ds A) (k:KpX lo hi bR bs A C) (c:hi+2<=W0.heap.size) (d:lo<=W0.heap.size) {b:List α} (e:J b C):NxW J lo hi bR bs l By W0 b ds C:=⟨e,fun i a=>(k.t.old i (by have:=a.1;have:=h.sz;omega) a.1 a.2).trans (h.old i a),h.wp.kp k.t,h.yb.kp h.wp k.t,h.mks.keeps (Ir k.f c),AK h.sz k.t.size⟩
end
theorem Marks.ownF {β:Type} {B B':Nat} {ds:List Deferred} (b:∀d∈ds,∀D,d.target=.collected D->D<B'):OwnFrom B' (fun(_:β) W=>Marks B W ds):=fun _ A C row h c f=>h.kept fun D _ g a=>by obtain⟨d,i,e⟩:=g;exact(c.block D (BS.1 a).1 (fun j=>by have:=(f _ j.symm).1;have:=b d i D e;omega)).trans a
theorem X2k (g:Lg) (x y:Ar) (w:World) :Calls Tryz.prog 79 #[NU g,WH x,WH y] w fun e w'=>e=.returned (.func (.func 109) #[] #[.pointer (some ⟨w.heap.size+1,0,none⟩),.pointer (some ⟨w.heap.size+1+1,0,none⟩),.pointer (some ⟨w.heap.size,0,none⟩)]) /\Below w.heap.size w w'/\BL w' w.heap.size 157 (Fm g).toArray/\BL w' (w.heap.size+1) 61 (Cx x).toArray/\BL w' (w.heap.size+1+1) 61 (Cx y).toArray:=by obtain⟨a,b,c,d⟩:=g;obtain⟨f,i,⟨j,k,l,m⟩,n,o⟩:=x;obtain⟨p,q,⟨r,s,t,u⟩,z,A⟩:=y;simp only[Cx,Fm,WH];have B:=(AH w.heap.size w).alloc (AD _) (.cells #[.int .i64 a,.int .i64 b,.string c,.string d] 157);have F:=BL.new w 157 #[.int .i64 a,.int .i64 b,.string c,.string d];have C:=B.alloc B.size (.cells #[.int .i64 f,.int .i64 i,.int .u64 (j:Int),.int .u64 (k:Int),.int .u64 (l:Int),.int .u64 (m:Int),.string n,.bool o] 61);have D:=BL.new (w.alloc (.cells #[.int .i64 a,.int .i64 b,.string c,.string d] 157)) 61 #[.int .i64 f,.int .i64 i,.int .u64 (j:Int),.int .u64 (k:Int),.int .u64 (l:Int),.int .u64 (m:Int),.string n,.bool o];have G:=C.alloc C.size (.cells #[.int .i64 p,.int .i64 q,.int .u64 (r:Int),.int .u64 (s:Int),.int .u64 (t:Int),.int .u64 (u:Int),.string z,.bool A] 61);have E:=BL.new ((w.alloc (.cells #[.int .i64 a,.int .i64 b,.string c,.string d] 157)).alloc (.cells #[.int .i64 f,.int .i64 i,.int .u64 (j:Int),.int .u64 (k:Int),.int .u64 (l:Int),.int .u64 (m:Int),.string n,.bool o] 61)) 61 #[.int .i64 p,.int .i64 q,.int .u64 (r:Int),.int .u64 (s:Int),.int .u64 (t:Int),.int .u64 (u:Int),.string z,.bool A];simp only[Ad]at D E;have H:=AB (AI G (AI ((F.alloc (.cells #[.int .i64 f,.int .i64 i,.int .u64 (j:Int),.int .u64 (k:Int),.int .u64 (l:Int),.int .u64 (m:Int),.string n,.bool o] 61)).alloc (.cells #[.int .i64 p,.int .i64 q,.int .u64 (r:Int),.int .u64 (s:Int),.int .u64 (t:Int),.int .u64 (u:Int),.string z,.bool A] 61)) (AI (D.alloc (.cells #[.int .i64 p,.int .i64 q,.int .u64 (r:Int),.int .u64 (s:Int),.int .u64 (t:Int),.int .u64 (u:Int),.string z,.bool A] 61)) E)));clear B C G F D E;go_enter Tryz.func79,Tryz.ntmps79;go_wp2;exact AQ (v:=.func (.func 109) #[] #[.pointer (some ⟨w.heap.size+1,0,none⟩),.pointer (some ⟨w.heap.size+1+1,0,none⟩),.pointer (some ⟨w.heap.size,0,none⟩)]) (by simp[results,Tryz.results79,go_sem]) rfl ⟨rfl,H.out⟩
theorem X2l (d:Nat) (f:1<=d) (e a bl lo hi bR bs n K:Nat) (u:Fs) (F:Fit u n) (i:K<=90000000) (g:Lg) (j:GM u n K g) (x y:Ar) (k:x∈u.arcs) (m:y∈u.arcs) (ex:x.fr=g.p) (o:y.fr=g.q) (w:World) (b:RU bR w) (r:hi<=w.heap.size) (s:Sure hi bR w e 61 (Cx x).toArray) (t:Sure hi bR w a 61 (Cx y).toArray) (v:Sure hi bR w bl 157 (Fm g).toArray) :X0x Fence.wide d Tryz.prog 109 #[.pointer (some ⟨e,0,none⟩),.pointer (some ⟨a,0,none⟩),.pointer (some ⟨bl,0,none⟩)] (fun z:Te u n (K+1025)=>#[NU z.1]) (KpT lo hi bR bs) 256 w:=by intro l J A W c E B C D h0;exact X2g d f l e a bl lo hi bR bs n K u F i g j x y k m ex o J A W B D (b.below c) (by omega) (s.below b c) (t.below b c) (v.below b c) h0
end
section
open Go.RowKit Go.Sort Go.Shelf
attribute [local go_sem] Gl
theorem X0I (l Bw Br lo hi bR bs G n LR most K:Nat) (A1:Option Addr) (nS cS:Nat) (v2 v3:Value) (u:Fs) (F:Fit u n) (hK:K<=80000000) (row:List Lg) (ar:∀x∈row,GM u n K x) (di:row.length<=2048) (AR:Option Addr) (cR:Nat) (J Jx:List (Te u n (K+1025))->World->Prop) (W:World) (dj:lo<=hi) (hW:hi+2<=W.heap.size) (hJ:OwnFrom W.heap.size J) (bf:OwnFrom W.heap.size Jx) (hY:∀pre (z:Te u n (K+1025)) W1,J pre W1->pre.length<140737488355328->YieldAt Fence.wide 3 Tryz.prog l #[NU z.1] W1 fun e W'=>(e=.returned (.bool true)/\J (pre++[z]) W'/\KpX lo hi bR bs W1 W')\/(e=.returned (.bool false)/\Jx (pre++[z]) W'/\KpX lo hi bR bs W1 W')) (hw:RU bR W) (dk:bR<hi) (dl:lo<=bR) (wk:WkAt lo bs G n LR most A1 nS cS v2 v3 u W) (bw:BL W Bw 102 #[.pointer (some ⟨G,0,none⟩)]) (bg:OW lo bs Bw) (br:BL W Br 106 #[.slice AR row.length cR]) (b5:OW lo bs Br) (rd:DP (OW lo bs) W 4 AR row.length (B_ Fm row)) (h0:J [] W) :CallsIn Fence.wide 4 Tryz.prog 78 #[.func (.yield l) #[] #[],.pointer (some ⟨Br,0,none⟩),.pointer (some ⟨Bw,0,none⟩)] W fun e W'=>(∃v,e=.returned v)/\((∃xs,J xs W')\/(∃xs,Jx xs W')):=by
 refine callsIn_of_wp_marks Tryz.func78 rfl trivial ?_ rfl;simp only[Tryz.ntmps78,CJ,Bn,Co,Nat.reduceAdd,Nat.reduceSub,ES,ET,FG,En,Cy,Cf];have w:lo<=W.heap.size:=by omega
 have ay:NxW J lo hi bR bs l W.heap.size W [] [] (W.alloc (.cells #[.func (.yield l) #[] #[]] 160)):=by have M:=(AH W.heap.size W).alloc (AD _) (.cells #[.func (.yield l) #[] #[]] 160);exact⟨Nt hJ h0 M,fun k V=>M.block k (by have:=V.1;omega),hw.below M,Sure.new hw (by omega),trivial,M.size⟩
 have au:∀(tmps:Array Value) ds W' (pre:List (Te u n (K+1025))),NxW J lo hi bR bs l W.heap.size W pre ds W'->LeavesInM Fence.wide 4 Tryz.prog Tryz.f78 tmps (fun e W'=>(∃v,e=.returned v)/\((∃xs,J xs W')\/(∃xs,Jx xs W'))) ds .returning W':=fun tmps ds W' pre h=>Lt hJ (fun W9 h9=>⟨_,results_none rfl _ _ _,⟨_,rfl⟩,.inl ⟨_,h9⟩⟩) ds W' h.mks h.j
 have Z:∀(tmps:Array Value) ds W' (xs:List (Te u n (K+1025))),Marks W.heap.size W' ds->Jx xs W'->LeavesInM Fence.wide 4 Tryz.prog Tryz.f78 tmps (fun e W'=>(∃v,e=.returned v)/\((∃xs,J xs W')\/(∃xs,Jx xs W'))) ds .returning W':=fun tmps ds W' xs hm h=>Lt bf (fun W9 h9=>⟨_,results_none rfl _ _ _,⟨_,rfl⟩,.inr ⟨_,h9⟩⟩) ds W' hm h
 have b6:=(cell_kept (a:=⟨Br,0,none⟩) (ay.old _ b5)).trans (br.cell 0);have b7:=AB ay;have HE:=AB au;have b8:=AB Z;have HY:=AB hY;have HF:=AB F;have bh:=AB ar;have X:=AB wk;have b9:=AB rd;have ao:=AB (AI bw bg);generalize bi:row.length=nr at *;have ca:=AB bi;clear ay au Z hY F ar wk rd bw bg br bi h0;gi_wp2;clear b6;have dm:W.heap.size=W.heap.size:=rfl;refine wpIn_loop (fun T wr=>∃u4 u5 u6 u7 u8 u9 u10 u13 u14 u15 u16 u17 u18 u19 u20 u21 u22 u23 u24 u25 u26 u27 u28 u29 u30 u31 u32 u33 u34 u35 u36 u37 u38 u39 u40 u41 u42 u43 u44 u45 u46 u47 u48 u49 u50 u51 u52 u53 u54 ds,(∃(i:Nat) (pre:List (Te u n (K+1025))),i<=nr/\u13=.int .i64 (i:Int)/\pre.length<=VC i 0 0/\NxW J lo hi bR bs l W.heap.size W pre ds wr)/\T={ tmps:=#[.func (.yield l) #[] #[],.pointer (some ⟨Br,0,none⟩),.pointer (some ⟨Bw,0,none⟩),.pointer (some ⟨W.heap.size,0,none⟩),u4,u5,u6,u7,u8,u9,u10,.slice AR nr cR,.int .i64 (nr:Int),u13,u14,u15,u16,u17,u18,u19,u20,u21,u22,u23,u24,u25,u26,u27,u28,u29,u30,u31,u32,u33,u34,u35,u36,u37,u38,u39,u40,u41,u42,u43,u44,u45,u46,u47,u48,u49,u50,u51,u52,u53,u54],defers:=ds }) (fun T _=>nr-(intOf (T.tmps.getD 13 undef)).toNat) ?start ?round
 case start=>
  (repeat apply Exists.intro)
  refine⟨⟨0,[],AN _,rfl,AN _,b7.out⟩,rfl⟩
 case round=>
  intro T wr c;obtain⟨u4,c⟩:=c;obtain⟨u5,c⟩:=c;obtain⟨u6,c⟩:=c;obtain⟨u7,c⟩:=c;obtain⟨u8,c⟩:=c;obtain⟨u9,c⟩:=c;obtain⟨u10,c⟩:=c;obtain⟨u13,c⟩:=c;obtain⟨u14,c⟩:=c;obtain⟨u15,c⟩:=c;obtain⟨u16,c⟩:=c;obtain⟨u17,c⟩:=c;obtain⟨u18,c⟩:=c;obtain⟨u19,c⟩:=c;obtain⟨u20,c⟩:=c;obtain⟨u21,c⟩:=c;obtain⟨u22,c⟩:=c;obtain⟨u23,c⟩:=c;obtain⟨u24,c⟩:=c;obtain⟨u25,c⟩:=c;obtain⟨u26,c⟩:=c;obtain⟨u27,c⟩:=c;obtain⟨u28,c⟩:=c;obtain⟨u29,c⟩:=c;obtain⟨u30,c⟩:=c;obtain⟨u31,c⟩:=c;obtain⟨u32,c⟩:=c;obtain⟨u33,c⟩:=c;obtain⟨u34,c⟩:=c;obtain⟨u35,c⟩:=c;obtain⟨u36,c⟩:=c;obtain⟨u37,c⟩:=c;obtain⟨u38,c⟩:=c;obtain⟨u39,c⟩:=c;obtain⟨u40,c⟩:=c;obtain⟨u41,c⟩:=c;obtain⟨u42,c⟩:=c;obtain⟨u43,c⟩:=c;obtain⟨u44,c⟩:=c;obtain⟨u45,c⟩:=c;obtain⟨u46,c⟩:=c;obtain⟨u47,c⟩:=c;obtain⟨u48,c⟩:=c;obtain⟨u49,c⟩:=c;obtain⟨u50,c⟩:=c;obtain⟨u51,c⟩:=c;obtain⟨u52,c⟩:=c;obtain⟨u53,c⟩:=c;obtain⟨u54,c⟩:=c;obtain⟨ds,hrel,ha⟩:=c;subst ha
  try dsimp only
  obtain⟨i,pre,dn,rfl,H,s⟩:=hrel
  try dsimp only
  by_cases cb:i<nr
  .have dp:(0:Int)<=(i:Int):=by omega
   have dq:(i:Int)<(nr:Int):=by omega
   have bj:i<row.length:=by have:=ca.out;omega
   obtain⟨gr,go,rfl,dr,e0,e1,e2,e3⟩:=Yf ((b9.out.kept s.old).reads (fun k V=>V.1)) i cb;have az:=bh.out _ (CI bj);have bk:row.getD i lg0=row[i]:=by rw[AC,AG bj];rfl
   rw[<-bk]at az;clear bk;generalize hg:row.getD i lg0=g at *;clear hg;have HG:=AB az;obtain⟨_,⟨p0,p1⟩,⟨q0,q1⟩,_,_⟩:=az;obtain⟨p,hp⟩:=Dr p0;obtain⟨q,hq⟩:=Dr q0;obtain⟨gp,gq,ga,gb⟩:=g;simp only at hp hq p0 p1 q0 q1 e0 e1 e2 e3;subst hp hq;have M:=(AH wr.heap.size wr).alloc (AD _) (.cells #[.int .i64 (p:Int),.int .i64 (q:Int),.string ga,.string gb] 157);have a8:Sure hi bR (wr.alloc (.cells #[.int .i64 (p:Int),.int .i64 (q:Int),.string ga,.string gb] 157)) wr.heap.size 157 #[.int .i64 (p:Int),.int .i64 (q:Int),.string ga,.string gb]:=Sure.new s.wp (by have:=s.sz;omega);have m:=s.below hJ w M;have cc:p<n:=by omega
   have cd:q<n:=by omega
   obtain⟨Ap,cp,f1,f2,f3,f4⟩:=(X.out.rows.kept m.old).2 p cc;have kw:=(cell_kept (a:=⟨Bw,0,none⟩) (m.old _ ao.out.2)).trans (ao.out.1.cell 0);have kg:=(cell_kept (a:=⟨G,4,none⟩) (m.old _ X.out.lG)).trans (X.out.box.cell 4);have y0:=AF (a8.b.cell 0);have y1:=AF kw;have y2:=AF kg;have y3:=AF f1;have HA:=AB (AI f4 (fun x (hx:x∈I_ u p)=>RB hx));have ce:(I_ u p).length<=16384:=AK (Ns _ _ _) HF.out.many;have cf:=AB (show(I_ u p).length=(I_ u p).length from rfl);have cg:=AB m.old;clear s f1 f4 kw kg;generalize bl:I_ u p=rp at *;generalize av:rp.length=np at *;have ch:=AB (AI bl av);clear bl av cf;gi_wp2;clear e0 e1 e2 e3;generalize wr.alloc (.cells #[.int .i64 (p:Int),.int .i64 (q:Int),.string ga,.string gb] 157)=w5 at *;generalize ci:wr.heap.size=Bl at *;clear ci;refine wpIn_wide.2 ?_;refine Au (by kernel_rfl) (by kernel_rfl) ?_
   repeat (go_big_quiet_step (fail))
   refine Ah ?_;intro w6 aa;have N:=Bu aa;have ab:=AB (m.below hJ w N);have ac:=AB (a8.below m.wp N);clear m a8 y0 y1 y2 y3 aa N M;gi_wp2;refine wpIn_loop (fun T wr=>∃u4 u6 u7 u8 u9 u10 u14 u15 u16 u17 u18 u19 u20 u21 u22 u23 u26 u27 u28 u29 u30 u31 u32 u33 u34 u35 u36 u37 u38 u39 u40 u41 u42 u43 u44 u45 u46 u47 u48 u49 u50 u51 u52 u53 u54 ds,(∃(j:Nat) (pre:List (Te u n (K+1025))),j<=np/\u26=.int .i64 (j:Int)/\pre.length<=VC i j 0/\NxW J lo hi bR bs l W.heap.size W pre ds wr/\Sure hi bR wr Bl 157 #[.int .i64 (p:Int),.int .i64 (q:Int),.string ga,.string gb])/\T={ tmps:=#[.func (.yield l) #[] #[],.pointer (some ⟨Br,0,none⟩),.pointer (some ⟨Bw,0,none⟩),.pointer (some ⟨W.heap.size,0,none⟩),u4,.pointer (some ⟨Bl,0,none⟩),u6,u7,u8,u9,u10,.slice (some ⟨gr,go,none⟩) nr cR,.int .i64 (nr:Int),.int .i64 (i:Int),u14,u15,u16,u17,u18,u19,u20,u21,u22,u23,.slice Ap np cp,.int .i64 (np:Int),u26,u27,u28,u29,u30,u31,u32,u33,u34,u35,u36,u37,u38,u39,u40,u41,u42,u43,u44,u45,u46,u47,u48,u49,u50,u51,u52,u53,u54],defers:=ds }) (fun T _=>np-(intOf (T.tmps.getD 26 undef)).toNat) ?start2 ?round2
   case start2=>
    (repeat apply Exists.intro)
    refine⟨⟨0,pre,AN _,rfl,H,ab.out,ac.out⟩,rfl⟩
   case round2=>
    clear ab ac H pre wr ds;intro T wr c;obtain⟨u4,c⟩:=c;obtain⟨u6,c⟩:=c;obtain⟨u7,c⟩:=c;obtain⟨u8,c⟩:=c;obtain⟨u9,c⟩:=c;obtain⟨u10,c⟩:=c;obtain⟨u14,c⟩:=c;obtain⟨u15,c⟩:=c;obtain⟨u16,c⟩:=c;obtain⟨u17,c⟩:=c;obtain⟨u18,c⟩:=c;obtain⟨u19,c⟩:=c;obtain⟨u20,c⟩:=c;obtain⟨u21,c⟩:=c;obtain⟨u22,c⟩:=c;obtain⟨u23,c⟩:=c;obtain⟨u26,c⟩:=c;obtain⟨u27,c⟩:=c;obtain⟨u28,c⟩:=c;obtain⟨u29,c⟩:=c;obtain⟨u30,c⟩:=c;obtain⟨u31,c⟩:=c;obtain⟨u32,c⟩:=c;obtain⟨u33,c⟩:=c;obtain⟨u34,c⟩:=c;obtain⟨u35,c⟩:=c;obtain⟨u36,c⟩:=c;obtain⟨u37,c⟩:=c;obtain⟨u38,c⟩:=c;obtain⟨u39,c⟩:=c;obtain⟨u40,c⟩:=c;obtain⟨u41,c⟩:=c;obtain⟨u42,c⟩:=c;obtain⟨u43,c⟩:=c;obtain⟨u44,c⟩:=c;obtain⟨u45,c⟩:=c;obtain⟨u46,c⟩:=c;obtain⟨u47,c⟩:=c;obtain⟨u48,c⟩:=c;obtain⟨u49,c⟩:=c;obtain⟨u50,c⟩:=c;obtain⟨u51,c⟩:=c;obtain⟨u52,c⟩:=c;obtain⟨u53,c⟩:=c;obtain⟨u54,c⟩:=c;obtain⟨ds,hrel,ha⟩:=c;subst ha
    try dsimp only
    obtain⟨j,pre,dt,rfl,H,s,U⟩:=hrel
    try dsimp only
    by_cases cj:j<np
    .have du:(0:Int)<=(j:Int):=by omega
     have dv:(j:Int)<(np:Int):=by omega
     have ck:j<rp.length:=by have:=ch.out.2;omega
     obtain⟨gx,ox,rfl,dw,a0,a1,a2,a3,a4,a5,a6,a7⟩:=Di ((HA.out.1.kept fun k V=>(s.old k V).trans (cg.out k V).symm).reads (fun k V=>V.1)) j cj;have Q:=HA.out.2 _ (getD_in rp Cq j ck);generalize hx:rp.getD j Cq=x at *;clear hx;have HX:=AB Q;have cl:=AB (HF.out.arcs x Q.1);clear Q;have cm:=AB (show x=x from rfl);obtain⟨x0,a9⟩:∃x0:Ar,x0=x:=⟨_,rfl⟩
     have cn:=AB a9;rw[<-a9]at HX cl;clear cm a9;obtain⟨xf,xt,⟨m1,m2,m3,m4⟩,xo,xc⟩:=x;simp only at a0 a1 a2 a3 a4 a5 a6 a7;have M:=(AH wr.heap.size wr).alloc (AD _) (.cells #[.int .i64 xf,.int .i64 xt,.int .u64 (m1:Int),.int .u64 (m2:Int),.int .u64 (m3:Int),.int .u64 (m4:Int),.string xo,.bool xc] 61);have bm:Sure hi bR (wr.alloc (.cells #[.int .i64 xf,.int .i64 xt,.int .u64 (m1:Int),.int .u64 (m2:Int),.int .u64 (m3:Int),.int .u64 (m4:Int),.string xo,.bool xc] 61)) wr.heap.size 61 #[.int .i64 xf,.int .i64 xt,.int .u64 (m1:Int),.int .u64 (m2:Int),.int .u64 (m3:Int),.int .u64 (m4:Int),.string xo,.bool xc]:=Sure.new s.wp (by have:=s.sz;omega);have m:=s.below hJ w M;have E:=U.below s.wp M;obtain⟨Aq,cq,f1,f2,f3,f4⟩:=(X.out.rows.kept m.old).2 q cd;have kw:=(cell_kept (a:=⟨Bw,0,none⟩) (m.old _ ao.out.2)).trans (ao.out.1.cell 0);have kg:=(cell_kept (a:=⟨G,4,none⟩) (m.old _ X.out.lG)).trans (X.out.box.cell 4);have y0:=AF (E.b.cell 0);have y1:=AF (E.b.cell 1);have y2:=AF kw;have y3:=AF kg;have y4:=AF f1;have bn:=AB (AI f4 (fun x (hx:x∈I_ u q)=>RB hx));have bo:=AB m.old;have co:(I_ u q).length<=16384:=AK (Ns _ _ _) HF.out.many;clear s U f1 f4 kw kg;generalize bp:I_ u q=rq at *;generalize aw:rq.length=nq at *;have cr:=AB (AI bp aw);clear bp aw;gi_wp2;clear a0 a1 a2 a3 a4 a5 a6 a7;generalize wr.alloc (.cells #[.int .i64 xf,.int .i64 xt,.int .u64 (m1:Int),.int .u64 (m2:Int),.int .u64 (m3:Int),.int .u64 (m4:Int),.string xo,.bool xc] 61)=dx at *;generalize cs:wr.heap.size=Bx at *;clear cs;refine wpIn_wide.2 ?_;refine Au (by kernel_rfl) (by kernel_rfl) ?_
     repeat (go_big_quiet_step (fail))
     refine Ah ?_;intro w6 aa;have N:=Bu aa;have ab:=AB (m.below hJ w N);have ac:=AB (E.below m.wp N);have bq:=AB (bm.below m.wp N);clear m E bm y0 y1 y2 y3 y4 aa N M;gi_wp2;refine wpIn_loop (fun T wr=>∃u4 u6 u8 u9 u10 u14 u15 u16 u17 u18 u19 u20 u21 u22 u23 u27 u28 u29 u30 u31 u32 u33 u34 u35 u36 u39 u40 u41 u42 u43 u44 u45 u46 u47 u48 u49 u50 u51 u52 u53 u54 ds,(∃(k:Nat) (pre:List (Te u n (K+1025))),k<=nq/\u39=.int .i64 (k:Int)/\pre.length<=VC i j k/\NxW J lo hi bR bs l W.heap.size W pre ds wr/\Sure hi bR wr Bl 157 #[.int .i64 (p:Int),.int .i64 (q:Int),.string ga,.string gb]/\Sure hi bR wr Bx 61 #[.int .i64 xf,.int .i64 xt,.int .u64 (m1:Int),.int .u64 (m2:Int),.int .u64 (m3:Int),.int .u64 (m4:Int),.string xo,.bool xc])/\T={ tmps:=#[.func (.yield l) #[] #[],.pointer (some ⟨Br,0,none⟩),.pointer (some ⟨Bw,0,none⟩),.pointer (some ⟨W.heap.size,0,none⟩),u4,.pointer (some ⟨Bl,0,none⟩),u6,.pointer (some ⟨Bx,0,none⟩),u8,u9,u10,.slice (some ⟨gr,go,none⟩) nr cR,.int .i64 (nr:Int),.int .i64 (i:Int),u14,u15,u16,u17,u18,u19,u20,u21,u22,u23,.slice (some ⟨gx,ox,none⟩) np cp,.int .i64 (np:Int),.int .i64 (j:Int),u27,u28,u29,u30,u31,u32,u33,u34,u35,u36,.slice Aq nq cq,.int .i64 (nq:Int),u39,u40,u41,u42,u43,u44,u45,u46,u47,u48,u49,u50,u51,u52,u53,u54],defers:=ds }) (fun T _=>nq-(intOf (T.tmps.getD 39 undef)).toNat) ?start3 ?round3
     case start3=>
      (repeat apply Exists.intro)
      refine⟨⟨0,pre,AN _,rfl,H,ab.out,ac.out,bq.out⟩,rfl⟩
     case round3=>
      clear ab ac bq H pre wr ds;intro T wr c;obtain⟨u4,c⟩:=c;obtain⟨u6,c⟩:=c;obtain⟨u8,c⟩:=c;obtain⟨u9,c⟩:=c;obtain⟨u10,c⟩:=c;obtain⟨u14,c⟩:=c;obtain⟨u15,c⟩:=c;obtain⟨u16,c⟩:=c;obtain⟨u17,c⟩:=c;obtain⟨u18,c⟩:=c;obtain⟨u19,c⟩:=c;obtain⟨u20,c⟩:=c;obtain⟨u21,c⟩:=c;obtain⟨u22,c⟩:=c;obtain⟨u23,c⟩:=c;obtain⟨u27,c⟩:=c;obtain⟨u28,c⟩:=c;obtain⟨u29,c⟩:=c;obtain⟨u30,c⟩:=c;obtain⟨u31,c⟩:=c;obtain⟨u32,c⟩:=c;obtain⟨u33,c⟩:=c;obtain⟨u34,c⟩:=c;obtain⟨u35,c⟩:=c;obtain⟨u36,c⟩:=c;obtain⟨u39,c⟩:=c;obtain⟨u40,c⟩:=c;obtain⟨u41,c⟩:=c;obtain⟨u42,c⟩:=c;obtain⟨u43,c⟩:=c;obtain⟨u44,c⟩:=c;obtain⟨u45,c⟩:=c;obtain⟨u46,c⟩:=c;obtain⟨u47,c⟩:=c;obtain⟨u48,c⟩:=c;obtain⟨u49,c⟩:=c;obtain⟨u50,c⟩:=c;obtain⟨u51,c⟩:=c;obtain⟨u52,c⟩:=c;obtain⟨u53,c⟩:=c;obtain⟨u54,c⟩:=c;obtain⟨ds,hrel,ha⟩:=c;subst ha
      try dsimp only
      obtain⟨k,pre,dy,rfl,H,s,U,hX⟩:=hrel
      try dsimp only
      by_cases ct:k<nq
      .have dz:(0:Int)<=(k:Int):=by omega
       have d0:(k:Int)<(nq:Int):=by omega
       have cu:k<rq.length:=by have:=cr.out.2;omega
       obtain⟨gy,oy,rfl,d1,c0,c1,c2,c3,c4,c5,c6,c7⟩:=Di ((bn.out.1.kept fun k V=>(s.old k V).trans (bo.out k V).symm).reads (fun k V=>V.1)) k ct;have Y:=bn.out.2 _ (getD_in rq Cq k cu);generalize hy:rq.getD k Cq=y at *;clear hy;obtain⟨y0,ad⟩:∃y0:Ar,y0=y:=⟨_,rfl⟩
       have cv:=AB ad;have bt:=AB Y;rw[<-ad]at bt;clear Y ad;obtain⟨yf,yt,⟨ae,af,ag,ah⟩,yo,yc⟩:=y;simp only at c0 c1 c2 c3 c4 c5 c6 c7;have M:=(AH wr.heap.size wr).alloc (AD _) (.cells #[.int .i64 yf,.int .i64 yt,.int .u64 (ae:Int),.int .u64 (af:Int),.int .u64 (ag:Int),.int .u64 (ah:Int),.string yo,.bool yc] 61);have cw:=BL.new wr 61 #[.int .i64 yf,.int .i64 yt,.int .u64 (ae:Int),.int .u64 (af:Int),.int .u64 (ag:Int),.int .u64 (ah:Int),.string yo,.bool yc];have m:=s.below hJ w M;have E:=U.below s.wp M;have I:=hX.below s.wp M;have dh:=AK s.sz M.size;clear s U hX;have s0:=E.b.cell 0;have s1:=E.b.cell 1;have s2:=E.b.cell 2;have s3:=E.b.cell 3;have cx:=I.b.cell 0;have cy:=I.b.cell 1;have cz:=I.b.cell 2;have c8:=I.b.cell 3;have c9:=I.b.cell 4;have da:=I.b.cell 5;have db:=I.b.cell 6;have dc:=I.b.cell 7;have bu:=X2k ⟨(p:Int),(q:Int),ga,gb⟩ ⟨xf,xt,⟨m1,m2,m3,m4⟩,xo,xc⟩ ⟨yf,yt,⟨ae,af,ag,ah⟩,yo,yc⟩ (wr.alloc (.cells #[.int .i64 yf,.int .i64 yt,.int .u64 (ae:Int),.int .u64 (af:Int),.int .u64 (ag:Int),.int .u64 (ah:Int),.string yo,.bool yc] 61));have ai:=(Ge (n:=3)).2 bu;simp only[NU,WH,Cx,Fm]at ai;clear bu;have Q:=HX.out;rw[cn.out]at Q;have Y:=bt.out;rw[cv.out]at Y;have HM:=AB (AI Q Y);clear Q Y;have R:=AB m;have bv:=AB E;have bx:=AB I;clear m E I cw;gi_wp2;refine⟨trivial,ai.mono ?_⟩;rintro e w7 ⟨rfl,S,k1,k2,k3⟩;clear c0 c1 c2 c3 c4 c5 c6 c7 s0 s1 s2 s3 cx cy cz c8 c9 da db dc ai;generalize wr.alloc (.cells #[.int .i64 yf,.int .i64 yt,.int .u64 (ae:Int),.int .u64 (af:Int),.int .u64 (ag:Int),.int .u64 (ah:Int),.string yo,.bool yc] 61)=w6 at *;have O:=R.out.below hJ w S;have aj:=bv.out.below R.out.wp S;have ak:=bx.out.below R.out.wp S;have ba:hi<=w6.heap.size:=by omega
       have bz:=Sure.of_new R.out.wp S k1 (AD _) ba;have b1:=Sure.of_new R.out.wp S k2 (EQ _) (AK ba (EQ _));have b2:=Sure.of_new R.out.wp S k3 (AK (EQ _) (EQ _)) (AK ba (AK (EQ _) (EQ _)));have ap:=O.sz;have P:=X2l 3 (by decide) (w6.heap.size+1) (w6.heap.size+1+1) w6.heap.size lo hi bR bs n K u HF.out (by omega) ⟨(p:Int),(q:Int),ga,gb⟩ HG.out _ _ HM.out.1.1 HM.out.2.1 HM.out.1.2 HM.out.2.2 w7 O.wp (by omega) b1 b2 bz;have aq:=O.mks.lt;clear R bv bx k1 k2 k3 bz b1 b2 S M;gi_wp2
       refine PI (n:=4) rfl (by decide) (gf:=109) (lb:=#[.pointer (some ⟨w6.heap.size+1,0,none⟩),.pointer (some ⟨w6.heap.size+1+1,0,none⟩),.pointer (some ⟨w6.heap.size,0,none⟩)]) rfl trivial (FY Tryz.func109 (by kernel_rfl) rfl)
        P KpT.trans (fun W9 o o' hl ho _=>KpT.putObj W9 _ o o' hl ho (by omega) (by omega)) (fun W9 o=>KpT.alloc W9 o) (fun _=>rfl)
        (fun zs W'=>∃B:List (Te u n (K+1025)),B.length=pre.length+zs.length/\zs.length<=256/\NxW J lo hi bR bs l W.heap.size W B ds W'/\Sure hi bR W' Bl 157 #[.int .i64 (p:Int),.int .i64 (q:Int),.string ga,.string gb]/\Sure hi bR W' Bx 61 #[.int .i64 xf,.int .i64 xt,.int .u64 (m1:Int),.int .u64 (m2:Int),.int .u64 (m3:Int),.int .u64 (m4:Int),.string xo,.bool xc])
        (fun _ W'=>∃xs,Jx xs W'/\Marks W.heap.size W' ds)
        (fun zs A C row ⟨B,e1,e2,s,U,hX⟩ hg hr=>⟨B,e1,e2,s.grown hJ hg hr ap w (by omega) aq,U.grown hg hr s.wp.1 (by omega),hX.grown hg hr s.wp.1 (by omega)⟩)
        (fun zs A C row ⟨xs,hx,hm⟩ hg hr=>⟨xs,bf xs A C row hx hg (fun r e=>⟨AK ap (hr r e).1,(hr r e).2⟩),Marks.ownF aq () A C row hm hg hr⟩)
        ⟨pre,rfl,AN _,O,aj,ak⟩ (fun z=>.cells (Fm z.1).toArray 157) 10 ?assign ?body ?done ?stop
       case assign=>clear O aj ak P;rintro l2 zs ⟨⟨zp,zq,za,zb⟩,b3⟩ W' KK dd b4;have de:=AB b4;clear dd b4;simp only[NU,Fm];gi_wp2;refine de.out _ ?_;simp[NU,Fm]
       case body=>
        clear O aj ak P;rintro l2 zs z kz W' ⟨B,e1,e2,s,U,hX⟩ ax d2 hz;obtain⟨⟨zp,zq,za,zb⟩,b3⟩:=z;have al:BL W' kz 157 #[.int .i64 zp,.int .i64 zq,.string za,.string zb]:=hz;have ad:=PV (l':=l2) (Td (m':=1) (HY.out B ⟨⟨zp,zq,za,zb⟩,b3⟩ W' s.j (by rw[e1];exact X2j H (by omega) (by omega) (by omega) ax)));obtain⟨fn,tmps,assign,body,hy,hR⟩:=ad;simp only[NU,Fm]at hy;have b0:=s.yb.b.cell 0;have z0:=al.cell 0;have z1:=al.cell 1;have z2:=al.cell 2;have z3:=al.cell 3;have HI:=AB (AI s (AI U hX));clear s U hX hz al;gi_wp2;refine hR.mono ?_;clear hy hR b0 z0 z1 z2 z3;rintro e w8 (⟨rfl,am,L⟩|⟨rfl,am,L⟩)
        .have bb:=AB (HI.out.1.kp L hW w am);have bc:=AB (HI.out.2.1.kp HI.out.1.wp L.t);have bd:=AB (HI.out.2.2.kp HI.out.1.wp L.t);have an:=AB L;clear am L HI;gi_wp2;exact⟨Ir an.out.f (by omega),an.out.t,_,by rw[AJ,AJ,e1];rfl,by rw[AJ];exact ax,bb.out,bc.out,bd.out⟩
        .have df:=AB (HI.out.1.mks.keeps (Ir L.f hW));have an:=AB L;have dg:=AB am;clear am L HI;gi_wp2;exact⟨Ir an.out.f (by omega),an.out.t,_,dg.out,df.out⟩
       case done=>
        clear O aj ak P;rintro D zs W' hD ⟨B,e1,e2,s,U,hX⟩ hd;have bb:=AB (s.mark hd (AK ap hD) (fun d be D' e=>Aj (aq d be D' e) hD));have bc:=AB U;have bd:=AB hX;clear s U hX hd;gi_wp2;refine⟨?_,by simp[intOf];omega⟩
        (repeat apply Exists.intro)
        exact⟨⟨k+1,B,by omega,by go_num,by rw[e1];exact nxN_k H e2,bb.out,bc.out,bd.out⟩,rfl⟩
       case stop=>clear O aj ak P;rintro D zs W' hD ⟨xs,hx,hm⟩ hd;gi_wp2;exact b8.out _ _ _ xs ⟨⟨D,rfl,AK ap hD,hd,fun d be D' e=>Aj (aq d be D' e) hD⟩,hm⟩ hx
      .obtain rfl:nq=k:=by omega
       gi_wp2;refine⟨?_,by simp[intOf];omega⟩
       (repeat apply Exists.intro)
       exact⟨⟨j+1,pre,by omega,by go_num,X2h H co,s,U⟩,rfl⟩
    .obtain rfl:np=j:=by omega
     gi_wp2;refine⟨?_,by simp[intOf];omega⟩
     (repeat apply Exists.intro)
     exact⟨⟨i+1,pre,by omega,by go_num,X2i H ce,s⟩,rfl⟩
  .obtain rfl:nr=i:=by omega
   gi_wp2;exact HE.out _ _ _ _ s
end
section
open Go.RowKit Go.Sort
def Ux (u:Fs) (row:List Bx) (x y:Tp):Prop:=KM u x.st y.st->Has row x.st y.st (Dc (bl x.out) (bl y.out)).1 (Dc (bl x.out) (bl y.out)).2
def EM (u:Fs) (row:List Bx) (i j:Nat):Prop:=∀a,a<u.starts.length->∀b,b<u.starts.length->(a<i\/(a=i/\b<j))->Ux u row (u.starts.getD a DI) (u.starts.getD b DI)
section
variable {u:Fs} {row row':List Bx} {i j:Nat}
theorem EM.mono (h:EM u row i j) (c:row <+: row'):EM u row' i j:=fun a d b e f g=>(h a d b e f g).mono c
theorem EM.start:EM u row 0 0:=fun a c b d e=>by omega
theorem EM.row_ (h:EM u row i j) (e:u.starts.length<=j):EM u row (i+1) 0:=fun a c b d f=>h a c b d (by omega)
theorem EM.next (h:EM u row i j) (c:Ux u row (u.starts.getD i DI) (u.starts.getD j DI)):EM u row i (j+1):=fun a d b f g=>by
 by_cases e:a=i/\b=j
 .obtain ⟨rfl,rfl⟩:=e;exact c
 .exact h a d b f (by omega)
theorem EM.done (h:EM u row i 0) (hi:u.starts.length<=i):I8 u row:=by intro x e y f g;obtain⟨a,c,rfl⟩:=Bp.1 e;obtain⟨b,d,rfl⟩:=Bp.1 f;have:=h a c b d (.inl (by omega));rw[AC,AC,AG c,AG d]at this;exact this g
def OM (x y:Tp):Bx:=⟨x.st,y.st,Ms x.out y.out,Mt x.out y.out,-1,0⟩
theorem PH (x y:Tp):bl (OM x y).a=(Dc (bl x.out) (bl y.out)).1/\bl (OM x y).b=(Dc (bl x.out) (bl y.out)).2:=⟨OK _ _,OL _ _⟩
theorem Uy {N:Nat} (F:Fit u N) {x y:Tp} (a:x∈u.starts) (b:y∈u.starts):FitBx u N row (OM x y):=by
 obtain⟨c,a2,a3⟩:=F.starts x a;obtain⟨d,e,f⟩:=F.starts y b;have s1:=NL x.out y.out;have s2:=NM x.out y.out;obtain⟨l1,l2⟩:=PH x y;refine⟨⟨c,a2⟩,⟨d,e⟩,?_,⟨by show(-1:Int)<=-1;omega,by show(-1:Int)<(row.length:Int);omega⟩,by show 0<256;omega,?_,?_⟩
 .rw [l1,l2];exact Ep.start a b
 .show (Ms _ _).size<=_;omega
 .show (Mt _ _).size<=_;omega
end
def TZ (L:SrL) (u:Fs) (w:World) (e:Ending) (w':World):Prop:=e=.returned (.tuple #[])/\∃hops' vR' row' place' tx' fd',SrV L u w' hops' vR' row' place' tx' fd'/\Below L.B w w'/\(fd'=true->KH u)/\(fd'=false->Qw u)
section
variable {L:SrL} {u:Fs} {w wr W:World} {hops:List Hop} {vR vR' vR'':Value} {row row' row'':List Bx} {place place' place'':List Int} {tx tx' tx'':ByteArray} {fd fd' fd'':Bool}
theorem OnW.trans (h:OnW L u hops vR row fd w wr vR' row' place' tx' fd') (k:OnW L u hops vR' row' fd' wr W vR'' row'' place'' tx'' fd''):OnW L u hops vR row fd w W vR'' row'' place'' tx'' fd'':=⟨k.sv,k.sr,h.st.trans k.st,h.pre.trans k.pre,fun e=>k.fnd (h.fnd e)⟩
theorem X1C (h:SrV L u w (List.replicate (L.n*L.n) ED) vR [] (List.replicate (L.n*L.n) 0) tx false) (F:Fit u L.n) (hT:∀W,Below L.B w W->NT W) (ap:L.n1<=maxLen) :Calls Tryz.prog 75 #[.pointer (some ⟨L.G,0,none⟩)] w (TZ L u w):=by
 have a6:L.n1<=9223372036854775807:=by unfold maxLen at ap;omega
 have Z:=AB (X0r h F rfl hT);have HT:=AB hT;have HF:=AB F;have D:=F.le;have a7:L.n*L.n<=32*32:=Dl D D;clear h hT F;go_enter Tryz.func75,Tryz.ntmps75
 go_wp2_with fail
 refine Z.out.mono ?_;rintro e w1 ⟨rfl,hops,h1,h2,h3,h4⟩;have HK:=AB h2;have aa:=AB h3;have aq:=AB (fun(W:World) (hb:Below L.B w1 W)=>HT.out W (h3.trans hb));have N:=AB (fun(wr:World) (vR':Value) (row':List Bx) (place':List Int) (tx':ByteArray) (fd':Bool) (H:OnW L u hops vR [] false w1 wr vR' row' place' tx' fd')=>(h1.rdS.kept (H.heap h1)).reads (B:=L.K) (fun k hk=>hk.1));have E:u.starts.length=L.n1:=FE Dg (by decide) (h1.rdS.reads (B:=L.K) (fun k hk=>hk.1));have ab:=AB (OnW.start h1 Srch.start);have ar:=h1.sz;have c1:=h1.box.cell 1;clear h1 h2 h3 h4 Z HT;go_wp2;clear c1;go_loopw [17] (fun i wr=>∃(p:Nat) (vR':Value) (row':List Bx) (place':List Int) (tx':ByteArray) (fd':Bool),p<=L.n1/\i=.int .i64 (p:Int)/\OnW L u hops vR [] false w1 wr vR' row' place' tx' fd'/\(fd'=false->EM u row' p 0)) (fun i _=>L.n1-(intOf i).toNat)
 case atStart=>exact⟨0,_,_,_,_,_,AN _,rfl,ab.out,fun _=>EM.start⟩
 case round=>
  clear ab;obtain⟨p,vR',row',place',tx',fd',a8,rfl,f,I⟩:=hrel;have b:=AB I;clear I;by_cases ac:p<L.n1
  .have a9:(0:Int)<=(p:Int):=by omega
   have ba:(p:Int)<(L.n1:Int):=by omega
   obtain⟨gt,ot,O,bb,a0,a1⟩:=Dh (N.out _ _ _ _ _ _ f) p ac;have P:u.starts.getD p DI∈u.starts:=FK _ _ _ (by omega);generalize ad:u.starts.getD p DI=x at *;have ae:=AB (AI ad P);have Q:=HF.out.starts x P;obtain⟨xs,g⟩:=x;simp only at a0 a1 Q;have bc:g.size<=1024:=Q.2.2;have R:=(AH wr.heap.size wr).alloc (AD _) (.cells #[.int .i64 xs,.string g] 54);have a:=AB (AI (f.call R) (AI (BL.new wr 54 #[.int .i64 xs,.string g]) (AK ar f.size)));have c1:(wr.alloc (.cells #[.int .i64 xs,.string g] 54)).cell? ⟨L.G,1,none⟩=some (.slice L.A1 L.n1 L.c1):=(f.call R).sv.box.cell 1;rw[O]at N c1;rw[O];clear ad P R f O Q;go_wp2;clear a0 a1 c1;generalize wr.alloc (.cells #[.int .i64 xs,.string g] 54)=W2 at *;generalize wr.heap.size=gx at *;go_loopw [27] (fun i wr=>∃(q:Nat) (vR':Value) (row':List Bx) (place':List Int) (tx':ByteArray) (fd':Bool),q<=L.n1/\i=.int .i64 (q:Int)/\OnW L u hops vR [] false w1 wr vR' row' place' tx' fd'/\BL wr gx 54 #[.int .i64 xs,.string g]/\(fd'=false->EM u row' p q)) (fun i _=>L.n1-(intOf i).toNat)
   case atStart=>exact⟨0,_,_,_,_,_,AN _,rfl,a.out.1,a.out.2.1,b.out⟩
   case round=>
    have au:=a.out.2.2;clear a b vR' row' place' tx' fd';obtain⟨q,vR',row',place',tx',fd',bd,rfl,f,KX,I⟩:=hrel;have b:=AB I;clear I;by_cases af:q<L.n1
    .have be:(0:Int)<=(q:Int):=by omega
     have bf:(q:Int)<(L.n1:Int):=by omega
     obtain⟨gu,ou,O,bg,b0,b1⟩:=Dh (N.out _ _ _ _ _ _ f) q af;injection O with O
     injection O with eB1 eB2
     subst eB1 eB2;have S:u.starts.getD q DI∈u.starts:=FK _ _ _ (by omega);generalize ag:u.starts.getD q DI=y at *;have ah:=AB (AI ag S);have T:=HF.out.starts y S;obtain⟨Y,l⟩:=y;simp only at b0 b1 T;have bh:l.size<=1024:=T.2.2;have R:=(AH wr.heap.size wr).alloc (AD _) (.cells #[.int .i64 Y,.string l] 54);have a:=AB (AI (f.call R) (AI (KX.below R KX.lt) (BL.new wr 54 #[.int .i64 Y,.string l])));have u0:=a.out.2.1.cell 0;have u1:=a.out.2.1.cell 1;have v0:=a.out.2.2.cell 0;have v1:=a.out.2.2.cell 1;clear ag S R f KX T;have J:=AB (fun W=>PX g l W (by unfold maxLen;omega) (by unfold maxLen;omega))
     go_wp2_with fail
     refine(J.out _).mono ?_;rintro e w5 ⟨rfl,A⟩;have a:=AB (AI (a.out.1.call A) (AI (a.out.2.1.below A a.out.2.1.lt) (a.out.2.2.below A a.out.2.2.lt)));have ai:g.extract (E6 g.data.toList l.data.toList) g.size=Ms g l:=rfl;have aj:l.extract (E6 g.data.toList l.data.toList) l.size=Mt g l:=rfl;rw[ai,aj];clear ai aj u0 u1 v0 v1 b0 b1 J A;generalize wr.heap.size=gy at *;have u0:=a.out.2.1.cell 0;have v0:=a.out.2.2.cell 0
     have hM:=AB (show Calls Tryz.prog 106 #[.pointer (some ⟨L.G,0,none⟩),.agg #[.int .i64 xs,.int .i64 Y,.string (Ms g l),.string (Mt g l),.int .i64 (-1),.int .u8 ((0:Nat):Int)]] w5 (IF L u hops vR' row' fd' (OM ⟨xs,g⟩ ⟨Y,l⟩) w5)from
      Uw a.out.1.sv HF.out HK.out a.out.1.sr (OM ⟨xs,g⟩ ⟨Y,l⟩) (Uy HF.out ae.out.2 ah.out.2))
     go_wp2_with fail
     refine hM.out.mono ?_;intro e w9 ak;obtain⟨rfl,av,d,C,aw,U,s,t,M,v,z⟩:=a.out.1.step ak;have ax:=v _ _ _ a.out.2.1 au (by decide)
     have ay:Hid (U=false->EM u d p (q+1)):=AB (fun e=>by
      have az:fd'=false:=by
       rcases a2:fd' with _|_
       .rfl
       .rw [M a2]at e;cases e
      refine((b.out az).mono t).next ?_;rw[ae.out.1,ah.out.1];intro hl;have:=z e hl;obtain⟨l1,l2⟩:=PH ⟨xs,g⟩ ⟨Y,l⟩;rw[l1,l2]at this;exact this)
     clear u0 v0 hM a ak t M v z;go_wp2;go_roundw
     case rel=>exact⟨q+1,_,_,_,_,_,by omega,by go_num,s,ax,ay.out⟩
     case measure=>simp[intOf];omega
    .obtain rfl:L.n1=q:=by omega
     have a3:=AB (fun e=>(b.out e).row_ (by rw[E];exact AD _));clear b KX;go_wp2;go_roundw
     case rel=>exact⟨p+1,_,_,_,_,_,by omega,by go_num,f,a3.out⟩
     case measure=>simp[intOf];omega
  .have al:p=L.n1:=by omega
   have am:=AB (fun e=>(b.out e).done (by rw[E];omega));have V:=AB f;clear b f al;go_wp2;have c4:=V.out.sv.box.cell 4;go_loopw [8] (fun i wr=>∃(k:Nat) (vR':Value) (row':List Bx) (place':List Int) (tx':ByteArray) (fd':Bool),k<=row'.length/\i=.int .i64 (k:Int)/\OnW L u hops vR [] false w1 wr vR' row' place' tx' fd'/\(fd'=false->I8 u row'/\∀j,j<k->Mo u row' j)) (fun i _=>L.n*L.n-(intOf i).toNat)
   case atStart=>exact⟨0,_,_,_,_,_,AN _,rfl,V.out,fun e=>⟨am.out e,fun j hj=>absurd hj (by omega)⟩⟩
   case round=>
    clear V am c4 vR' row' place' tx' fd';obtain⟨k,vR',row',place',tx',fd',hk,rfl,f,I⟩:=hrel;have b:=AB I;have bi:=f.sr.short;have c7:=f.sv.box.cell 7;have X:=f.sv.box.cell 10;obtain⟨A9,c9,rfl,bj,_,_⟩:=BH f.sv.oR;have c:=AB f;have bk:(0:Int)<=(k:Int):=by omega
    clear I f;by_cases a4:k<row'.length
    .have bl:(k:Int)<(row'.length:Int):=by omega
     rcases m:fd' with _|_
     .rw [m]at X
      have HC:=AB (X2e c.out.sv HF.out HK.out c.out.sr (fun W hb=>aq.out W (c.out.st.bel.trans hb)) k a4);have a5:=AB m;clear m
      go_wp2_with fail
      refine HC.out.mono ?_;rintro e w9 ⟨rfl,av,d,C,aw,U,s,an⟩
      have ao:=AB (show k+1<=d.length/\(U=false->I8 u d/\∀j,j<k+1->Mo u d j)from by
       have hp:=s.pre;have hl:row'.length<=d.length:=by obtain⟨r,rfl⟩:=hp;rw[AJ];omega
       refine⟨by omega,fun e=>?_⟩;obtain⟨i1,i2⟩:=b.out a5.out;refine⟨i1.mono hp,fun j hj=>?_⟩;rcases BF j k with h1|h1
       .exact (i2 j h1).mono (by omega) hp
       .obtain rfl:j=k:=by omega
        exact an e)
      have s:=AB (c.out.trans s);clear c7 X an HC;go_wp2;go_roundw
      case rel=>exact⟨k+1,_,_,_,_,_,ao.out.1,by go_num,s.out,ao.out.2⟩
      case measure=>simp[intOf];omega
     .rw [m]at X;have o:TZ L u w (.returned (.tuple #[])) wr:=⟨rfl,_,_,_,_,_,_,c.out.sv,aa.out.trans c.out.st.bel,fun _=>c.out.sr.fnd m,fun e=>by rw[m]at e;cases e⟩;have o:=AB o;clear b c m;go_wp2;go_end0;exact o.out
    .obtain bm:k=row'.length:=by omega
     have o:TZ L u w (.returned (.tuple #[])) wr:=⟨rfl,_,_,_,_,_,_,c.out.sv,aa.out.trans c.out.st.bel,fun e=>c.out.sr.fnd e,fun e=>c.out.sr.one (b.out e).1 (fun j hj=>(b.out e).2 j (by omega))⟩;have o:=AB o;have al:¬(k:Int)<(row'.length:Int):=by omega
     clear b c;go_wp2;go_end0;exact o.out
end
end
end Go.Proofs.YtcondkihpmmnnaaGreatDoor
