/- Lemmas, part 40 of 50. No condition. -/
import Derived.Test.YtcondkihpmmnnaaGreatDoorTwin39
import Derived.Test.YtcondkihpmmnnaaGreatDoorTwin38
import Derived.Test.YtcondkihpmmnnaaGreatDoorTwin34
import Derived.Test.YtcondkihpmmnnaaGreatDoorTwin30
import Derived.Laws.CopyOwn
set_option maxRecDepth 100000
set_option maxHeartbeats 16000000
namespace Go.Proofs.YtcondkihpmmnnaaGreatDoor
section
open Go.RowKit Go.Sort
def Z_ (n:Nat) (w:World) (e:Ending) (w':World):Prop:=∃b,e=.returned (.bool b)/\Below w.heap.size w w'/\(b=true->n<=8)
theorem YM (t:Fs) (v:Value) (B:Nat) (w:World) (N:EK w B t v) (A:B<=w.heap.size) :Calls Tryz.prog 12 #[v] w (Z_ t.arcs.length w):=by
 have q:=AB (fun W (c:Below w.heap.size w W)=>YL t v B W (N.below (c.mono A)) (AK A c.size));obtain⟨C,D,E,F,G,H,rfl,l1,l2,l3,m1,m2,m3,V,X,Y,Z,R2,W2,O,P⟩:=N;have I:=AB O;have J:=AB (fun(k:Nat) (Q:k<t.arcs.length)=>P (t.arcs.getD k Cq) (by rw[AC,AG Q];exact CI _));have r:=AB (fun(b:Bool) (W:World) (h:Below w.heap.size w W) (hn:b=true->t.arcs.length<=8)=>show Z_ t.arcs.length w (.returned (.bool b)) W from⟨b,rfl,h,hn⟩);clear Y R2 O Z W2 P;have K:=BL.new w 32 #[.int .i64 t.n,.slice C t.starts.length D,.slice E t.ends.length F,.slice G t.arcs.length H];have L:=(AH w.heap.size w).alloc (AD _) (.cells #[.int .i64 t.n,.slice C t.starts.length D,.slice E t.ends.length F,.slice G t.arcs.length H] 32);unfold maxLen at *;generalize t.n=p at *;generalize t.starts.length=n1 at *;generalize t.ends.length=n2 at *;generalize t.arcs.length=f at *;have f0:=K.cell 0;have f1:=K.cell 1;have f2:=K.cell 2;have f3:=K.cell 3;have R:=AB (q.out _ L);have aa:=AB (fun(W:World) (c:Below w.heap.size w W)=>c);have g:=K;have j:=L;clear K L;go_enter Tryz.func12,Tryz.ntmps12
 go_wp2_with fail
 refine R.out.mono ?_;clear f0 f1 f2 f3 R q;rintro e w1 ⟨b1,rfl,l⟩;have d:=g.below (l.mono (by simp)) g.lt;have s:=j.trans (l.mono j.size);clear l g j;have f0:=d.cell 0;have f3:=d.cell 3;have a:=AB (AI d s);clear d s;rcases b1 with _|_
 .go_wp2;exact AQ (v:=.bool false) (by simp[results,Tryz.results12,go_sem]) rfl (r.out _ _ a.out.2 (fun h=>by cases h))
 by_cases d1:(4:Int)<p/\p<=1024
 .obtain ⟨d1,d2⟩:=d1;go_wp2;exact AQ (v:=.bool false) (by simp[results,Tryz.results12,go_sem]) rfl (r.out _ _ a.out.2 (fun h=>by cases h))
 have hex:(¬(4:Int)<p)\/((4:Int)<p/\¬p<=1024):=by omega
 clear d1;by_cases d8:(8:Int)<(f:Int)
 .rcases hex with d1|⟨d1,d2⟩
  all_goals
   go_wp2;exact AQ (v:=.bool false) (by simp[results,Tryz.results12,go_sem]) rfl (r.out _ _ a.out.2 (fun h=>by cases h))
 rcases hex with d1|⟨d1,d2⟩
 all_goals
  go_wp2;clear f0 f3;go_loopw [3] (fun i wr=>∃(k:Nat),k<=f/\i=.int .i64 (k:Int)/\BL wr w.heap.size 32 #[.int .i64 p,.slice C n1 D,.slice E n2 F,.slice G f H]/\Below w.heap.size w wr) (fun i _=>f-(intOf i).toNat)
  case atStart=>exact⟨0,AN _,rfl,a.out.1,a.out.2⟩
  case round=>
   clear a;obtain⟨k,Q,rfl,z,c⟩:=hrel;have f3:=z.cell 3;have a:=AB (AI z c);by_cases u:k<f
   .have ab:(0:Int)<=(k:Int):=by omega
    have ac:(k:Int)<(f:Int):=by omega
    obtain⟨g3,o3,rfl,ad,a0,S,a2,a3,a4,a5,T,U⟩:=Di (I.out.below (c.mono A)) k u;have M:=AB (J.out k u).2.2.2.2.1;generalize (t.arcs.getD k Cq)=x at *;obtain⟨x1,x2,⟨s1,s2,s3,s4⟩,x3,x4⟩:=x;have y:=AB (fun W=>YK ⟨s1,s2,s3,s4⟩ M.out W);simp only at y a0 S a2 a3 a4 a5 T U;generalize Z7 _=sz at *;clear z c
    go_wp2_with fail
    refine(y.out _).mono ?_;rintro e w2 ⟨rfl,m⟩;have o:=AB (AI (a.out.1.below m a.out.1.lt) (a.out.2.trans (m.mono a.out.2.size)));clear a0 S a2 a3 a4 a5 T U f3 m;by_cases d3:(3:Int)<(sz:Int)
    .go_wp2;exact AQ (v:=.bool false) (by simp[results,Tryz.results12,go_sem]) rfl (r.out _ _ o.out.2 (fun h=>by cases h))
    .go_wp2
     go_roundw
     case rel=>exact⟨k+1,by omega,by go_num,o.out.1,o.out.2⟩
     case measure=>simp[intOf];omega
   .obtain rfl:f=k:=by omega
    clear z c;go_wp2;exact AQ (v:=.bool true) (by simp[results,Tryz.results12,go_sem]) rfl (r.out _ _ a.out.2 (fun _=>by omega))
end
section
open Go.RowKit Go.Sort
theorem Zu (q:SeqM) (v:Value) (B:Nat) (w:World) (b:GC w B q v) (c:B<=w.heap.size):Calls Tryz.prog 33 #[v] w (K_ q w):=by
 rcases a:Gp q with _|_
 .exact Zs q v B w b c a
 .exact X7 q v B _ w b c rfl a
def TO (q:SeqM) (w:World) (e:Ending) (w':World):Prop:=Below w.heap.size w w'/\∃(v:Value) (r:SeqM) (c:Int),e=.returned (.tuple #[v,.int .i64 c])/\Eb w.heap.size w' r v /\((Gp q=false/\c=1/\r=MI)\/(Gp q=true/\((c=2/\r=MI/\∃k,Fronts q k/\Qs q k)\/(c=0/\((r=MI/\∀x,q.run x=none)\/(Canon r/\Gp r=true/\∀x,r.run x=q.run x))))))
theorem Pm {R:Ending->World->Prop} {tmps:Array Value} {g:Nat} {b c d e f k:Value} {W:World} (h4:tmps[2]?=some (.pointer (some ⟨g,0,none⟩))) (h5:tmps[3]?=some k) (a:BL W g 27 #[b,c,d,e,f]) (h:R (.returned (.tuple #[.agg #[b,c,d,e,f],k])) W):bodyPost Tryz.prog Tryz.f13 R Exit.ret ⟨tmps,[]⟩ W:=by have i:=a.cell 0;have q1:=a.cell 1;have j:=a.cell 2;have l:=a.cell 3;have m:=a.cell 4;exact AQ (v:=.tuple #[.agg #[b,c,d,e,f],k]) (by simp[results,Tryz.results13,go_sem,i,q1,j,l,m,h4,h5]) rfl h
theorem Zv {q:SeqM} {k:Frt} (a:Fronts q k) (h:q.next.length=0\/k.some 0=false) (x:List UInt8):q.run x=none:=by
 unfold SeqM.run;by_cases h0:q.next.length=0
 .rw [AU h0]
 .rw [AP h0]
  rcases b:q.runL 0 x with _|o
  .rfl
  .have:=(a.live 0 (by omega)).2 ⟨o,x,b⟩;rw[h.resolve_left h0]at this;cases this
section
variable {q:SeqM} {n c:Nat} {m:Nat->Nat} {xs:List Nat} {pl:Nat->Int}
theorem X1Z (a:Gp q=true) (g:q.next.length=n) (j:PartsOk q n m c) (k:OrdI q n c m xs pl xs.length 0) (p:Tight q):Gp (GZ q m pl xs)=true:=by
 obtain⟨s1,s2⟩:=SI a g j k;have d:=SH a g j k p;obtain⟨t,u,v,w,r,x⟩:=Ea a;obtain⟨l1,l2,s⟩:=d.lens;have l:=d.pos;unfold Gp;simp only[AW,DJ,BB,CS];refine⟨⟨⟨⟨⟨⟨by rw[JQ];omega,l1⟩,l2⟩,s⟩,r⟩,.inl (by omega)⟩,fun i hi=>?_⟩;have hi:=BE.1 hi;obtain⟨t1,t2,t3,t4⟩:=s2 i (by rwa [JQ]at hi);unfold VT L9 Nd;simp only[AW,DJ,BB,CS];refine⟨⟨t1,?_⟩,⟨t2,t3⟩,fun b f=>?_⟩
 .rcases o:(GZ q m pl xs).en i with _|_
  .right;have:=d.open_ i hi o;show((GZ q m pl xs).tl i).size=0;rw[this];rfl
  .left;exact o
 .have f:=BE.1 f
  obtain⟨u1,u2,u3⟩:=t4 b f;refine⟨⟨⟨u1,by rw[JQ];exact u2⟩,u3⟩,?_⟩;by_cases h0:(GZ q m pl xs).nx i b<0
  .right;have:=(d.no i b hi f h0).2;show((GZ q m pl xs).os i b).size=0;rw[this];rfl
  .left;intro e;have:(GZ q m pl xs).nx i b=-1:=e;omega
end
theorem Zw:∀args w,(callFunc 36 args).run Tryz.prog w=.ok (.enter 36 args) w:=FY Tryz.func36 (by kernel_rfl) rfl
theorem Zx:∀args w,(callFunc 37 args).run Tryz.prog w=.ok (.enter 37 args) w:=FY Tryz.func37 (by kernel_rfl) rfl
theorem TP {Q:Exit->Act->World->Prop} {base:Act} {w:World} {ds:List Tmp} {o:Oper} {d:Tmp} (i:o.dst=some d) (k:o.guard=none) (T:TypeId) (b:Array Value) (c:o.op=Op.alloc T) (a:∀W,(Instr.alloc T true (.tuple #[])).run Tryz.prog W=.ok (.pointer (some ⟨W.heap.size,0,none⟩)) (W.alloc (.cells b T))) :Maker Tryz.prog Q base w ds o d (fun v W=>∃g,v=.pointer (some ⟨g,0,none⟩)/\w.heap.size<=g/\BL W g T b):=by
 refine⟨i,k,?_,?_⟩
 .rintro v W W' ⟨g,rfl,e,j⟩ f;exact⟨g,rfl,e,j.below f j.lt⟩
 .intro act W K l f m;unfold Oper.wp;simp[execOp,c,a,Result.andThen];show K (act.put o.dst _) _;rw[i];exact m _ _ ((AH _ W).alloc (AD _) _) ⟨W.heap.size,rfl,f.size,BL.new W T b⟩
theorem LK {P:Program} {w:World} {ops:Array Oper} {rest:List Oper} {o:Oper} {a:Act} {Q:Exit->Act->World->Prop} (m:o.guard=none) (d s:Operand) (p u:TypeId) (A:o.op=.call { callee:=.builtin .copy,args:=#[d,s],argTypes:=#[p,u] }) (elem:TypeId) (B:P.underlying p=some (.slice elem)) (q:(P.info? elem).map (·.size)=some 1) (g n f i:Nat) (r:Addr) (C:a.eval d=.slice (some ⟨g,0,none⟩) n f) (D:a.eval s=.slice (some r) n i) (b:Array Value) (t:TypeId) (x:BL w g t b) (y:b.size=n) (c:List Value) (z:c.length=n) (l:∀j v,c[j]?=some v->w.cell? (r.add j)=some v) (h1:∀v∈c,v.oneCell'=true) (h:∀w',Hid (BL w' g t c.toArray)->w.grownBy w' (some g)->wpList P ops Q rest (a.put o.dst (goInt n)) w'):wpList P ops Q (o::rest) a w:=by
 refine wpList_copy_own m d s p u A elem B q g 0 n f r n i C D b t x c (by simp[z]) l (by omega) h1 ?_;have e:(b.toList.take 0++(c++b.toList.drop (0+c.length))).toArray=c.toArray:=by rw[CN,Cy,Gb (by simp;omega),BC]
 rw[e,z];exact h _ (show BL _ g t c.toArray from setRow_heap w g _ _ t _ x) ⟨rfl,rfl,rfl,by simp[World.setRow],fun k _ E=>setRow_other w g k _ (fun e=>E (by rw[e]))⟩
def IJ (q:SeqM) (m:Nat->Nat) (pl:Nat->Int) (xs:List Nat) (i:Nat) (N:List (List Int)) (O:List (List ByteArray)):Prop:=N=(xs.take i).map (fun s=>(List.range 256).map (F9 q m pl s))/\O=(xs.take i).map (fun s=>q.outs.getD s [])
theorem IJ.start {q:SeqM} {m:Nat->Nat} {pl:Nat->Int} {xs:List Nat}:IJ q m pl xs 0 [] []:=⟨rfl,rfl⟩
theorem IJ.len {q:SeqM} {m:Nat->Nat} {pl:Nat->Int} {xs:List Nat} {i:Nat} {N:List (List Int)} {O:List (List ByteArray)} (h:IJ q m pl xs i N O):N.length<=xs.length/\O.length<=xs.length:=by obtain⟨rfl,rfl⟩:=h;simp;omega
theorem IJ.put {q:SeqM} {m:Nat->Nat} {pl:Nat->Int} {xs:List Nat} {i s:Nat} {N:List (List Int)} {O:List (List ByteArray)} (h:IJ q m pl xs i N O) (a:xs[i]?=some s) :IJ q m pl xs (i+1) (N++[(List.range 256).map (F9 q m pl s)]) (O++[q.outs.getD s []]):=by obtain⟨rfl,rfl⟩:=h;unfold IJ;rw[List.take_add_one,a];simp
theorem IJ.seq {q:SeqM} {m:Nat->Nat} {pl:Nat->Int} {xs:List Nat} {N:List (List Int)} {O:List (List ByteArray)} (h:IJ q m pl xs xs.length N O):GZ q m pl xs=⟨q.front,N,O,xs.map q.en,xs.map q.tl⟩:=by obtain⟨rfl,rfl⟩:=h;unfold GZ;rw[CR]
theorem TQ {α:Type} (f:α->Value) (d:α) {L:List α} (h:L.length=256):L.map f=GY (fun b=>f (L.getD b d)) 256:=by
 unfold GY;apply Ct;intro j;rw[Ag,Ag];by_cases a:j<256
 .rw [CP a,AG (show j<L.length by omega)];show some (f L[j])=some (f (L.getD j d));rw[AC,AG (show j<L.length by omega)];rfl
 .rw [AY (by omega),AY (by simp;omega)];rfl
theorem SK {α:Type} (f:α->Value) (g:Nat->α) (xs:List Nat):(xs.map g).map f=GY (fun i=>f (g (xs.getD i 0))) xs.length:=by
 unfold GY;apply Ct;intro j;rw[Ag,Ag,Ag];by_cases a:j<xs.length
 .rw [CP a,AG a];show some (f (g xs[j]))=some (f (g (xs.getD j 0)));rw[AC,AG a];rfl
 .rw [AY (by omega),AY (by simp;omega)];rfl
theorem TrnW.putN {W0 wr w':World} {a b:Nat} {fn:Nat->Int} {c:Nat->ByteArray} (h:TrnW W0 wr a b fn c) {fn':Nat->Int} (f:BL w' a 3 (FF fn' 256)) (d:wr.grownBy w' (some a)):TrnW W0 w' a b fn' c:=⟨f,BM h.o d (fun e=>BL.ne_ h.n h.o (by decide) (AL e)),h.bn,h.bo,h.bel.grown d h.bel.size (fun k g=>by rw[<-AL g];exact h.bn)⟩
theorem TrnW.putO {W0 wr w':World} {b a:Nat} {fn:Nat->Int} {d:Nat->ByteArray} (h:TrnW W0 wr b a fn d) {fo':Nat->ByteArray} (f:BL w' a 9 (GU fo' 256)) (c:wr.grownBy w' (some a)):TrnW W0 w' b a fn fo':=⟨BM h.n c (fun e=>BL.ne_ h.o h.n (by decide) (AL e)),f,h.bn,h.bo,h.bel.grown c h.bel.size (fun k g=>by rw[<-AL g];exact h.bo)⟩
theorem SqB.ofE {W0 W:World} {b:Nat} {e:ByteArray} {c d:Value} {E:List Bool} {T:List ByteArray} (f:BL W b 27 #[.string e,Bf,Bf,c,d]) (g:W0.heap.size<=b) (a:Below W0.heap.size W0 W) (i:W.ownsRow W0.heap.size 4 1 c E.length (E.map Value.bool)) (j:W.ownsRow W0.heap.size 9 1 d T.length (T.map Value.string)):SqB W0 W b e Bf Bf c d [] [] [] [] E T:=⟨f,Bc _ _ _ _,Bc _ _ _ _,i,j,fun _i h=>absurd h (B6 _),fun _i h=>absurd h (B6 _),fun _i h=>absurd h (B6 _),g,a⟩
end
section
open Go.RowKit Go.Sort
theorem OC {a g:Nat} {W:World} {T:TypeId} {c:Array Value} (h:BL W g T c) (b:g≠a) (v0 d v2 v3 v4:Value):BL (((((W.setCell ⟨a,0,none⟩ v0).setCell ⟨a,1,none⟩ d).setCell ⟨a,2,none⟩ v2).setCell ⟨a,3,none⟩ v3).setCell ⟨a,4,none⟩ v4) g T c:=((((h.far (p:=⟨a,0,none⟩) b v0).far (p:=⟨a,1,none⟩) b d).far (p:=⟨a,2,none⟩) b v2).far (p:=⟨a,3,none⟩) b v3).far (p:=⟨a,4,none⟩) b v4
theorem SL {a base n size:Nat} {W:World} {e:TypeId} {v:Value} {xs:List Value} (h:W.ownsRow base e size v n xs) (b:v.ownBlock≠some a) (v0 c v2 v3 v4:Value):(((((W.setCell ⟨a,0,none⟩ v0).setCell ⟨a,1,none⟩ c).setCell ⟨a,2,none⟩ v2).setCell ⟨a,3,none⟩ v3).setCell ⟨a,4,none⟩ v4).ownsRow base e size v n xs:=AO (AO (AO (AO (AO h b v0) b c) b v2) b v3) b v4
theorem PG {B a:Nat} {W:World} {q:SeqM} {v:Value} (h:Eb B W q v) (b:a<B) (v0 c v2 v3 v4:Value):Eb B (((((W.setCell ⟨a,0,none⟩ v0).setCell ⟨a,1,none⟩ c).setCell ⟨a,2,none⟩ v2).setCell ⟨a,3,none⟩ v3).setCell ⟨a,4,none⟩ v4) q v:=((((h.setCell (p:=⟨a,0,none⟩) b v0).setCell (p:=⟨a,1,none⟩) b c).setCell (p:=⟨a,2,none⟩) b v2).setCell (p:=⟨a,3,none⟩) b v3).setCell (p:=⟨a,4,none⟩) b v4
theorem X1s (q:SeqM) (v:Value) (B:Nat) (w:World) (HS:GC w B q v) (hB:B<=w.heap.size) (hP:Pow w w.heap.size) :Calls Tryz.prog 13 #[v] w (TO q w):=by
 have br:=AB (fun W (f:Below w.heap.size w W)=>(HS.below (f.mono hB)).more (AK hB f.size));obtain⟨A1,c1,A2,c2,A3,c3,A4,c4,rfl,hf,l1,l2,l3,l4,m1,m2,m3,m4,R1,hz,R2,ey,R3,R4,ez⟩:=HS;have cf:=AB (fun W f=>Zu q _ W.heap.size W (br.out W f) (AD _))
 have ab:=AB (fun(W:World) (f:Below w.heap.size w W) (c:Int) (h:(Gp q=false/\c=1)\/(Gp q=true/\((c=2/\∃k,Fronts q k/\Qs q k)\/(c=0/\∀x,q.run x=none))))=>show TO q w (.returned (.tuple #[.agg #[.string ⟨#[]⟩,.slice none 0 0,.slice none 0 0,.slice none 0 0,.slice none 0 0],.int .i64 c])) W from
  ⟨f,_,MI,c,rfl,I5 _ _,by
   rcases h with⟨h1,h2⟩|⟨h1,⟨h2,h3⟩|⟨h2,h3⟩⟩
   .exact .inl ⟨h1,h2,rfl⟩
   .exact .inr ⟨h1,.inl ⟨h2,rfl,h3⟩⟩
   .exact .inr ⟨h1,.inr ⟨h2,.inl ⟨rfl,h3⟩⟩⟩⟩)
 clear R1 R2 R3 R4 hz ey ez br l1 l2 l3 l4 m1 m2 m3 m4;generalize q.front=fr at *;generalize q.next.length=n1 at *;generalize q.outs.length=n2 at *;generalize q.ends.length=n3 at *;generalize q.tail.length=n4 at *;have B0:Below w.heap.size w ((w.alloc (.cells #[.string fr,.slice A1 n1 c1,.slice A2 n2 c2,.slice A3 n3 c3,.slice A4 n4 c4] 27)).alloc (.cells #[.string ⟨#[]⟩,.slice none 0 0,.slice none 0 0,.slice none 0 0,.slice none 0 0] 27)):=((AH _ w).alloc (AD _) _).alloc (by simp) _;have Ja:=(BL.new w 27 #[.string fr,.slice A1 n1 c1,.slice A2 n2 c2,.slice A3 n3 c3,.slice A4 n4 c4]).alloc (.cells #[.string ⟨#[]⟩,.slice none 0 0,.slice none 0 0,.slice none 0 0,.slice none 0 0] 27);have Jr:=BL.new (w.alloc (.cells #[.string fr,.slice A1 n1 c1,.slice A2 n2 c2,.slice A3 n3 c3,.slice A4 n4 c4] 27)) 27 #[.string ⟨#[]⟩,.slice none 0 0,.slice none 0 0,.slice none 0 0,.slice none 0 0];simp only[Ad]at Jr;have j0:=Ja.cell 0;have j1:=Ja.cell 1;have j2:=Ja.cell 2;have j3:=Ja.cell 3;have j4:=Ja.cell 4;go_enter Tryz.func13,Tryz.ntmps13
 go_wp2_with fail
 refine(cf.out _ B0).mono ?_;rintro e w1 ⟨ag,v1,r,c,rfl,F,cg⟩;simp only[Ad]at F ag;have a7:w.heap.size+1≠w.heap.size:=by omega
 have E:=Ja.below (ag.mono (by simp)) Ja.lt;have t:=Jr.below (ag.mono (by simp)) Jr.lt;have B1:=B0.trans (ag.mono (by omega));have gc:=t.lt;clear B0 Ja Jr ag;have j0:=E.cell 0;have j1:=E.cell 1;have j2:=E.cell 2;have j3:=E.cell 3;have j4:=E.cell 4;have l0:=E.frozen 0;have l1:=E.frozen 1;have l2:=E.frozen 2;have l3:=E.frozen 3;have l4:=E.frozen 4;have r0:=t.cell 0;have r1:=t.cell 1;have r2:=t.cell 2;have r3:=t.cell 3;have r4:=t.cell 4;have g0:=t.frozen 0;have g1:=t.frozen 1;have g2:=t.frozen 2;have g3:=t.frozen 3;have g4:=t.frozen 4;rcases cg with⟨I,rfl,rfl⟩|⟨I,k,U,⟨rfl,rfl,dd⟩|⟨rfl,rfl,de⟩|⟨rfl,al,us,am⟩⟩
 .have HF:=AB (fun W f=>ab.out W f 1 (.inl ⟨I,rfl⟩))
  clear I;obtain⟨D1,d1,D2,d2,D3,d3,D4,d4,M,_⟩:=F.at_;have M:v1=.agg #[.string ⟨#[]⟩,.slice D1 0 d1,.slice D2 0 d2,.slice D3 0 d3,.slice D4 0 d4]:=M;subst M;clear F
  go_wp2_with fail
  exact Pm rfl rfl (Ec (OC t a7 _ _ _ _ _) _ _ _ _ _) (HF.out _ (DR (DR B1 (AD _) _ _ _ _ _) (by omega) _ _ _ _ _))
 .have HF:=AB (fun W f=>ab.out W f 0 (.inr ⟨I,.inr ⟨rfl,Zv U dd⟩⟩))
  clear I dd U;obtain⟨D1,d1,D2,d2,D3,d3,D4,d4,M,_⟩:=F.at_;have M:v1=.agg #[.string ⟨#[]⟩,.slice D1 0 d1,.slice D2 0 d2,.slice D3 0 d3,.slice D4 0 d4]:=M;subst M;clear F
  go_wp2_with fail
  exact Pm rfl rfl (Ec (OC t a7 _ _ _ _ _) _ _ _ _ _) (HF.out _ (DR (DR B1 (AD _) _ _ _ _ _) (by omega) _ _ _ _ _))
 .have HF:=AB (fun W f=>ab.out W f 2 (.inr ⟨I,.inl ⟨rfl,k,U,de⟩⟩))
  clear I de U;obtain⟨D1,d1,D2,d2,D3,d3,D4,d4,M,_⟩:=F.at_;have M:v1=.agg #[.string ⟨#[]⟩,.slice D1 0 d1,.slice D2 0 d2,.slice D3 0 d3,.slice D4 0 d4]:=M;subst M;clear F
  go_wp2_with fail
  exact Pm rfl rfl (Ec (OC t a7 _ _ _ _ _) _ _ _ _ _) (HF.out _ (DR (DR B1 (AD _) _ _ _ _ _) (by omega) _ _ _ _ _))
 .obtain ⟨p1,p2,p3,p4,p5,p6⟩:=Ea al
  have ch:∀s b,s<q.next.length->b<256->q.nx s b<(q.next.length:Int):=fun s b hs f=>(FQ I hs f).2.1
  have hT:=am.tight U ch;have bs:=AB (am.run U ch)
  have df:0<r.next.length:=by
   have:=GG am.first
   have:=am.n;omega
  obtain⟨n,hn⟩:∃n,r.next.length=n:=⟨_,rfl⟩
  have ci:=AB (fun(W:World) (f:Below w.heap.size w W) (v:Value) (m':SeqM) (hq:Eb w.heap.size W m' v) (hc:Canon m') (hk:Gp m'=true) (hr:∀x,m'.run x=r.run x)=>show TO q w (.returned (.tuple #[v,.int .i64 0])) W from
   ⟨f,v,m',0,rfl,hq,.inr ⟨I,.inr ⟨rfl,.inr ⟨hc,hk,fun x=>(hr x).trans (bs.out x)⟩⟩⟩⟩)
  obtain⟨D1,d1,D2,d2,D3,d3,D4,d4,rfl,gl,o1,o2,o3,o4,M1,M2,M3,M4,_⟩:=F.at_;rw[p2,p3,p4,hn]at F ⊢;rw[hn]at p1 df o1 p6;rw[p2,hn]at o2;rw[p3,hn]at o3;rw[p4,hn]at o4;have C:=AB (AI al (AI hn (AI p2 (AI p3 (AI p4 (AI hT p6))))));generalize bt:r.front=rf at *;have dg:=AB bt;clear I am U ch bs al hT hn p2 p3 p4 p5 p6 ab bt us k;go_upto_region 2 with(fail)
  have P:=Ec E (.string rf) (.slice D1 n d1) (.slice D2 n d2) (.slice D3 n d3) (.slice D4 n d4);have cj:=OC t a7 (.string rf) (.slice D1 n d1) (.slice D2 n d2) (.slice D3 n d3) (.slice D4 n d4);have B2:=DR B1 (AD _) (.string rf) (.slice D1 n d1) (.slice D2 n d2) (.slice D3 n d3) (.slice D4 n d4);have ck:=PG F (show w.heap.size<w.heap.size+1+1 by omega) (.string rf) (.slice D1 n d1) (.slice D2 n d2) (.slice D3 n d3) (.slice D4 n d4);clear j0 j1 j2 j3 j4 l0 l1 l2 l3 l4 r0 r1 r2 r3 r4 g0 g1 g2 g3 g4 E t B1 F;generalize ((((((w1.setCell ⟨w.heap.size,0,none⟩ (.string rf)).setCell ⟨w.heap.size,1,none⟩ (.slice D1 n d1)).setCell ⟨w.heap.size,2,none⟩ (.slice D2 n d2)).setCell ⟨w.heap.size,3,none⟩ (.slice D3 n d3)).setCell ⟨w.heap.size,4,none⟩ (.slice D4 n d4)))=W1 at *;have dh:=AB (YC r _ W1.heap.size n W1 ck.at_ (AD _) C.out.1 C.out.2.1 ((hP.below B2).mono B2.size) C.out.2.2.2.2.2.1);have gn:((n:Int)==0)=false:=by simp;omega
  have k0:=P.cell 0;have k1:=P.cell 1;have k2:=P.cell 2;have k3:=P.cell 3;have k4:=P.cell 4
  go_wp2_with fail
  refine dh.out.mono ?_;rintro e w2 ⟨gm,m,cc,rfl,HM,e3,ah,cl⟩;have Q:=P.below ah P.lt;have cm:=cj.below ah cj.lt;have B3:=B2.trans (ah.mono B2.size);have cp:=ck.below ah;have di:=AB (YA r _ w2.heap.size n cc gm m w2 cp.at_ (AD _) C.out.1 C.out.2.1 df HM cl);have V:=AB cl;clear dh cl P cj B2 ck k0 k1 k2 k3 k4 e3;have k0:=Q.cell 0;have k1:=Q.cell 1;have k2:=Q.cell 2;have k3:=Q.cell 3;have k4:=Q.cell 4
  go_wp2_with fail
  refine di.out.mono ?_;rintro e A ⟨vS,xs,gP,pl,rfl,HO,dj,e5,ai,an⟩;obtain⟨As,cs,rfl,dk,e6,e7⟩:=BH HO;have ao:=Q.below ai Q.lt;have cq:=cm.below ai cm.lt;have B4:=B3.trans (ai.mono B3.size);have dl:=HM.below ai HM.lt;have dm:=cp.below ai;obtain⟨E1,t1,E2,t2,E3,t3,E4,t4,G,_,_,_,_,_,_,_,_,_,R1,_,R2,_,R3,R4,_⟩:=dm.at_;have G:(D1=E1/\d1=t1)/\(D2=E2/\d2=t2)/\(D3=E3/\d3=t3)/\(D4=E4/\d4=t4):=by simp only[Value.agg.injEq,Array.mk.injEq,List.cons.injEq,Value.slice.injEq,and_true]at G;exact⟨⟨G.2.1.1,G.2.1.2.2⟩,⟨G.2.2.1.1,G.2.2.1.2.2⟩,⟨G.2.2.2.1.1,G.2.2.2.1.2.2⟩,⟨G.2.2.2.2.1,G.2.2.2.2.2.2⟩⟩
  obtain⟨⟨rfl,rfl⟩,⟨rfl,rfl⟩,⟨rfl,rfl⟩,⟨rfl,rfl⟩⟩:=G;rw[C.out.2.1]at R1;rw[C.out.2.2.1,C.out.2.1]at R2;rw[C.out.2.2.2.1,C.out.2.1]at R3;rw[C.out.2.2.2.2.1,C.out.2.1]at R4;have go:=an.len V.out.lt;have gd:cc<=n:=NC V.out.onto;have a8:=Reads.of_own HO;have ge:0<xs.length:=GG an.first
  have a9:∀x∈xs,x<n:=fun x hx=>by obtain⟨j,hj⟩:=List.getElem?_of_mem hx;exact(an.lt j x hj).1
  have e8:=AB (fun(W:World) (f:Below A.heap.size A W)=>X8 r.ends xs D3 As n d3 xs.length cs A.heap.size W (R3.below f) (a8.below f) f.size a9 (by omega) p1 (by omega) dk);have e9:=AB (fun(W:World) (f:Below A.heap.size A W)=>X9 r.tail xs D4 As n d4 xs.length cs A.heap.size W (R4.below f) (a8.below f) f.size a9 (by omega) p1 (by omega) dk);have fa:∀W,(Instr.alloc 27 true (.tuple #[])).run Tryz.prog W=.ok (.pointer (some ⟨W.heap.size,0,none⟩)) (W.alloc (.cells #[.string ⟨#[]⟩,.slice none 0 0,.slice none 0 0,.slice none 0 0,.slice none 0 0] 27)):=fun W=>by simp[go_sem]
  have X:=AB (AI R1 (AI R2 (AI a8 (AI dl dj))));have HOr:=AB (AI an a9);have HJ:=AB (AI ao (AI cq B4));have x0:=AF (ao.cell 0);have x3:=AF (ao.cell 3);have x4:=AF (ao.cell 4);have fb:=B4.size;have dn:=cq.lt;clear R1 R2 R3 R4 a8 HO HM dl dj cp ah ai Q cm B3 k0 k1 k2 k3 k4 e6 e7 ao cq B4 e5 di dm a9 an;generalize ap:xs.length=l at *;have fc:=AB ap;go_wp2
  refine Vz (mk:=fun x y=>.agg #[.string rf,.slice none 0 0,.slice none 0 0,x,y]) (d0:=48) (d1:=52) (d2:=53) (d3:=9)
   (F0:=fun v W=>∃g,v=.slice (some ⟨g,0,none⟩) l l/\A.heap.size<=g/\BL W g 4 (bV (fun i=>r.ends.getD (xs.getD i 0) false) l))
   (F1:=fun v W=>∃g,v=.slice (some ⟨g,0,none⟩) l l/\A.heap.size<=g/\BL W g 9 (GU (fun i=>r.tail.getD (xs.getD i 0) ByteArray.empty) l))
   (F3:=fun v W=>∃g,v=.pointer (some ⟨g,0,none⟩)/\A.drew.heap.size<=g/\BL W g 27 #[.string ⟨#[]⟩,.slice none 0 0,.slice none 0 0,.slice none 0 0,.slice none 0 0])
   12 [0,1,2,3,4,6,7,8] 5 9 10 11 (by kernel_rfl) (by kernel_rfl) rfl (by kernel_rfl) (by decide) rfl rfl rfl rfl (by decide) ?_
  simp only[CV,A_,BA]
  repeat (go_big_quiet_step (fail))
  refine Ah ?_;refine Vy (by decide) ⟨⟨by show 48<110;decide,by show 52<110;decide⟩,?_,?_,TP rfl rfl 27 _ rfl fa,rfl,?_,?_⟩
  .refine PA rfl rfl 46 47 (by decide) (by decide) 36 _ rfl Zw ?_ ?_
   .rintro v W W' ⟨g,rfl,h1,h2⟩ f;exact⟨g,rfl,h1,h2.below f h2.lt⟩
   .intro W f;refine Calls.mono (e8.out W ((AH _ A).drew.trans f)) ?_;rintro e W' ⟨g,rfl,h1,h2,h3⟩;exact⟨_,rfl,h3,g,rfl,AK f.size h2,h1⟩
  .refine PA rfl rfl 50 51 (by decide) (by decide) 37 _ rfl Zx ?_ ?_
   .rintro v W W' ⟨g,rfl,h1,h2⟩ f;exact⟨g,rfl,h1,h2.below f h2.lt⟩
   .intro W f;refine Calls.mono (e9.out W ((AH _ A).drew.trans f)) ?_;rintro e W' ⟨g,rfl,h1,h2,h3⟩;exact⟨_,rfl,h3,g,rfl,AK f.size h2,h1⟩
  .rintro a W v0 v1 K ⟨gE,rfl,_,_⟩ ⟨gT,rfl,_,_⟩ e0 e1 fd hK
   have e4:a.eval (.tmp 44)=.string rf:=(fd 44 (by decide)).trans rfl
   change Oper.wp Tryz.prog (⟨some 53,Op.build 27 #[(0,.tmp 44),(3,.tmp 48),(4,.tmp 52)],_,_,_,none⟩:Oper) a W K _
   unfold Oper.wp;simp only[execOp,FX,DO,EG,e0,e1,e4];simp[go_sem];exact hK
  .rintro v0 v1 v3 W5 fe ⟨gE,rfl,ff,hE⟩ ⟨gT,rfl,fg,hT⟩ ⟨gr,rfl,fh,hR⟩
   simp only[Act.put,Az,BI];have bu:A.heap.size<=gr:=fh;have q0:=hR.cell 0;have q1:=hR.cell 1;have q2:=hR.cell 2;have q3:=hR.cell 3;have q4:=hR.cell 4;have f0:=hR.frozen 0;have f1:=hR.frozen 1;have f2:=hR.frozen 2;have f3:=hR.frozen 3;have f4:=hR.frozen 4;have ba:(xs.map r.en).length=l:=by rw[A6];exact ap
   have bb:(xs.map r.tl).length=l:=by rw[A6];exact ap
   have oE:W5.ownsRow A.heap.size 4 1 (.slice (some ⟨gE,0,none⟩) l l) l ((xs.map r.en).map Value.bool):=by
    have e:bV (fun i=>r.ends.getD (xs.getD i 0) false) l=((xs.map r.en).map Value.bool).toArray:=by unfold bV;rw[SK,ap];rfl
    rw[e]at hE;have:=ND (base:=A.heap.size) ff hE (by rw[A6,ba];unfold maxLen;omega);rwa [A6,ba]at this
   have oT:W5.ownsRow A.heap.size 9 1 (.slice (some ⟨gT,0,none⟩) l l) l ((xs.map r.tl).map Value.string):=by
    have e:GU (fun i=>r.tail.getD (xs.getD i 0) ByteArray.empty) l=((xs.map r.tl).map Value.string).toArray:=by unfold GU;rw[SK,ap];rfl
    rw[e]at hT;have:=ND (base:=A.heap.size) fg hT (by rw[A6,bb];unfold maxLen;omega);rwa [A6,bb]at this
   have cr:W5.ownsRow A.heap.size 4 1 (.slice (some ⟨gE,0,none⟩) l l) (xs.map r.en).length ((xs.map r.en).map Value.bool):=by rw[ba];exact oE
   have ct:W5.ownsRow A.heap.size 9 1 (.slice (some ⟨gT,0,none⟩) l l) (xs.map r.tl).length ((xs.map r.tl).map Value.string):=by rw[bb];exact oT
   have T:=SqB.ofE (W0:=A) (Ec hR (.string rf) Bf Bf (.slice (some ⟨gE,0,none⟩) l l) (.slice (some ⟨gT,0,none⟩) l l)) bu (DR fe bu _ _ _ _ _)
    (SL cr (AV cr hR (by decide)) _ _ _ _ _) (SL ct (AV ct hR (by decide)) _ _ _ _ _)
   have D:=AB T;clear hR hE hT oE oT cr ct T;go_wp2;refine Be ?_;go_wp2;clear q0 q1 q2 q3 q4 f0 f1 f2 f3 f4;go_loopw [56] (fun i wq=>∃(k:Nat) (vN vO:Value) (nv ov:List Value) (N:List (List Int)) (O:List (List ByteArray)),k<=l/\i=.int .i64 (k:Int)/\SqB A wq gr rf vN vO (.slice (some ⟨gE,0,none⟩) l l) (.slice (some ⟨gT,0,none⟩) l l) nv ov N O (xs.map r.en) (xs.map r.tl)/\IJ r m pl xs k N O) (fun i _=>l-(intOf i).toNat)
   case atStart=>exact⟨0,Bf,Bf,[],[],[],[],AN _,rfl,D.out,IJ.start⟩
   case round=>
    clear D ba bb;obtain⟨k,vN,vO,nv,ov,N,O,hk,rfl,T,hM⟩:=hrel;obtain⟨An,cn,rfl,gp,gq,_⟩:=BH T.oN;obtain⟨Ao,co,rfl,gs,gt,_⟩:=BH T.oO;have bc:=AB (show N.length<=1024/\O.length<=1024 by have:=hM.len;omega);have gu:=T.bel.size;by_cases fi:k<l
    .obtain ⟨s,hs⟩:∃s,xs[k]?=some s:=⟨_,AG (by omega)⟩
     have bd:=(HOr.out.1.lt k s hs).1;have bv:xs.getD k 0=s:=by rw[AC,hs];rfl
     obtain⟨ga,oa,rfl,fj,a1⟩:=C6 (d:=0) (enc:=fun z:Nat=>Value.int .i64 (z:Int)) (show Reads A A.heap.size 1 As l (xs.map fun z:Nat=>Value.int .i64 (z:Int))from X.out.2.2.1) k fi;rw[bv]at a1;obtain⟨g1,fk,gv,fl,rfl,fm,x1,Q1,y1,z1⟩:=X.out.1.at_ s bd;obtain⟨g2,fo,gw,fp,rfl,fq,x2,Q2,y2,z2⟩:=X.out.2.1.at_ s bd;have dp:(r.next.map fun r=>r.map (Value.int .i64)).getD s []=(r.next.getD s []).map (Value.int .i64):=by rw[AC,AC,Ag];cases r.next[s]?<;>rfl
     have dq:(r.outs.map fun r=>r.map Value.string).getD s []=(r.outs.getD s []).map Value.string:=by rw[AC,AC,Ag];cases r.outs[s]?<;>rfl
     rw[dp]at x1 Q1 y1;rw[dq]at x2 Q2 y2;simp only[A6]at x1 Q1 y1 x2 Q2 y2;obtain⟨cu,be⟩:=C.out.2.2.2.2.2.2 s bd;rw[cu]at x1 Q1 y1;rw[be]at x2 Q2 y2;obtain⟨bf,rfl,dr,cv⟩:=Q1.2 (by decide);obtain⟨bg,rfl,ds,cw⟩:=Q2.2 (by decide);rw[TQ (Value.int .i64) 0 cu]at cv;rw[TQ Value.string ByteArray.empty be]at cw;have bw:=AB (fun(W:World) (f:Below A.heap.size A W)=>AI (fun(j:Nat) (u:Value) (h:(GY (fun b=>Value.int .i64 (r.nx s b)) 256)[j]?=some u)=>(f.cell (p:=bf.add j) (by rw[show(bf.add j).block=bf.block from by unfold Addr.add;split<;>rfl];exact dr)).trans (cv j u h)) (fun(j:Nat) (u:Value) (h:(GY (fun b=>Value.string (r.os s b)) 256)[j]?=some u)=>(f.cell (p:=bg.add j) (by rw[show(bg.add j).block=bg.block from by unfold Addr.add;split<;>rfl];exact ds)).trans (cw j u h)));have bx:=AB (AI x1 x2);have fs:=AB (TQ Value.string ByteArray.empty be);have Hs:=AB hs;have gx:(0:Int)<=(k:Int):=by omega
     have gy:(k:Int)<(l:Int):=by omega
     have gz:(0:Int)<=(s:Int):=by omega
     have g5:(s:Int)<(n:Int):=by omega
     have a2:=(T.bel.cell (p:=⟨ga,oa+k,none⟩) (by show ga<_;exact fj)).trans a1;obtain⟨iN,aj,dt,cx,du⟩:=BK Fq;obtain⟨iO,ak,dv,J,dw⟩:=BK GI;have D:=AB T;have dx:=AB hM;clear cv cw Q1 Q2 x1 x2 dp dq bv hs a1 hM cu be y1 y2 z1 z2;obtain⟨Wk,ft⟩:∃Wk,Wk=wr:=⟨_,rfl⟩
     subst ft;go_wp2;clear a2
     refine Nk (d0:=60) (d1:=61) (e0:=12) (by kernel_rfl) (by kernel_rfl) (by decide) (by decide) (by decide) ⟨by show 60<110;decide,by show 61<110;decide⟩
      (Hu rfl rfl 256 55 rfl 3 iN _ 1 Tryz.underlying55 aj dt cx (by rw[du];decide) (by unfold maxLen;decide))
      (Hu rfl rfl 256 25 rfl 9 iO _ 1 Tryz.underlying25 ak dv J (by rw[dw];decide) (by unfold maxLen;decide)) rfl rfl rfl ?_
     rintro vi vj w6 aq ⟨gN,rfl,dy,R⟩ ⟨gO,rfl,dz,Y⟩;rw[show(Value.int .i64 0).cells=#[Value.int .i64 0]from rfl,CG,BZ,IN]at R;rw[show(Value.string ByteArray.empty).cells=#[Value.string ByteArray.empty]from rfl,CG,BZ,IN]at Y;have cy:TrnW Wk w6 gN gO (fun _=>0) (fun _=>ByteArray.empty):=⟨DG R,DG Y,dy,dz,aq⟩;have ar:=D.out.bel.trans (aq.mono D.out.bel.size);have c1:=(HJ.out.1.below ar HJ.out.1.lt).cell 1;have c2:=(ar.cell (p:=⟨g1,fk+s,none⟩) (by show g1<_;exact fm)).trans bx.out.1;have d5:(Tryz.prog.info? 3).map (·.size)=some 1:=by rw[aj];simp[cx]
     have d6:(Tryz.prog.info? 9).map (·.size)=some 1:=by rw[ak];simp[J]
     have bz:=(bw.out w6 ar).1;have HT:=cy.n;have d7:=AB cy;have au:∀v∈GY (fun b=>Value.int .i64 (r.nx s b)) 256,v.oneCell'=true:=fun v M=>by unfold GY at M;obtain⟨b,_,rfl⟩:=Bd.1 M;rfl
     have av:∀v∈GY (fun b=>Value.string (r.os s b)) 256,v.oneCell'=true:=fun v M=>by unfold GY at M;obtain⟨b,_,rfl⟩:=Bd.1 M;rfl
     have d8:(FF (fun _=>0) 256).size=256:=by unfold FF;rw[CJ,Gh]
     clear R Y dy dz aq cy aj dt cx du ak dv J dw;simp only[Act.put];go_wp2;refine Be ?_;go_upto_region 12 with(with_reducible refine LK (o:=⟨some 68,_,_,_,_,_⟩) rfl (.tmp 62) (.tmp 67) 55 55 rfl 3 Tryz.underlying55 d5 gN 256 256 fl bf rfl rfl _ _ HT d8 (GY (fun b=>Value.int .i64 (r.nx s b)) 256) (Gh _ _) bz au ?_;intro w7 d9 ea)
     have bh:=d7.out.putN (fn':=fun b=>r.nx s b) (show BL w7 gN 3 (FF (fun b=>r.nx s b) 256)from d9.out) ea;have aw:=D.out.bel.trans (bh.bel.mono D.out.bel.size);have c3:=(HJ.out.1.below aw HJ.out.1.lt).cell 2;have c4:=(aw.cell (p:=⟨g2,fo+s,none⟩) (by show g2<_;exact fq)).trans bx.out.2;have b0:=(bw.out w7 aw).2;have eb:=bh.o;have ec:=AB bh;have b1:(GU (fun _=>ByteArray.empty) 256).size=256:=by unfold GU;rw[CJ,Gh]
     clear c1 c2 bz HT au d8 d9 ea bh d7;go_upto_region 13 with(with_reducible refine LK (o:=⟨some 75,_,_,_,_,_⟩) rfl (.tmp 69) (.tmp 74) 25 25 rfl 9 Tryz.underlying25 d6 gO 256 256 fp bg rfl rfl _ _ eb b1 (GY (fun b=>Value.string (r.os s b)) 256) (Gh _ _) b0 av ?_;intro w8 ed ee)
     have ef:=AB (ec.out.putO (fo':=fun b=>r.os s b) (show BL w8 gO 9 (GU (fun b=>r.os s b) 256)from ed.out) ee);clear c3 c4 b0 eb av b1 ed ee ec;go_wp2;go_loopw [78] (fun i wq=>∃(b:Nat) (fn:Nat->Int),b<=256/\i=.int .i64 (b:Int)/\TrnW Wk wq gN gO fn (fun b=>r.os s b)/\∀j,j<256->fn j=if j<b then F9 r m pl s j else r.nx s j) (fun i _=>256-(intOf i).toNat)
     case atStart=>exact⟨0,_,AN _,rfl,ef.out,fun j _=>by rw[AP (B6 _)]⟩
     case round=>
      clear ef;obtain⟨b,fn,f,rfl,HW,eg⟩:=hrel;have bi:=AB eg;clear eg;by_cases ac:b<256
      .have ag:(0:Int)<=(b:Int):=by omega
       have ah:(b:Int)<256:=by omega
       have cz:fn b=r.nx s b:=by rw[bi.out b ac,AP (C9 _)]
       have u1:=(HW.n.cell b).trans (IE _ ac);have u2:=HW.n.frozen b;rw[cz]at u1;have bj:=FQ C.out.1 (s:=s) (by rw[C.out.2.1];exact bd) ac;rw[C.out.2.1]at bj;have fu:=bj.1;have fv:=bj.2.1;clear bj;by_cases ax:r.nx s b<0
       .have HN:=AB (show ∀j,j<256->fn j=if j<b+1 then F9 r m pl s j else r.nx s j from fun j hj=>by
          rw[bi.out j hj];by_cases e:j=b
          .subst e;rw[AP (C9 _),AU (by omega)];unfold F9;rw[AU ax]
          .by_cases e2:j<b
           .rw [AU e2,AU (by omega)]
           .rw [AP e2,AP (by omega)])
        have c0:=AB HW;have fw:¬r.nx s b>=0:=by omega
        clear HW cz;generalize r.nx s b=z at *;go_wp2;go_roundw
        case rel=>exact⟨b+1,fn,by omega,by go_num,c0.out,HN.out⟩
        case measure=>simp[intOf];omega
       .obtain ⟨z,hz⟩:∃z:Nat,r.nx s b=(z:Int):=⟨_,(AT (by omega)).symm⟩
        have eh:z<n:=by omega
        have fx:=V.out.lt z eh;have b2:=D.out.bel.trans (HW.bel.mono D.out.bel.size);have a1:=((X.out.2.2.2.1.below b2 X.out.2.2.2.1.lt).cell z).trans (Rz m eh);have a2:=((X.out.2.2.2.2.below b2 X.out.2.2.2.2.lt).cell (m z)).trans (IE pl fx)
        have HN:=AB (show ∀j,j<256->(if j=b then pl (m z)else fn j)=if j<b+1 then F9 r m pl s j else r.nx s j from fun j hj=>by
         by_cases e:j=b
         .subst e;rw[AU rfl,AU (by omega)];unfold F9;rw[AP ax,hz,BO]
         .rw [AP e,bi.out j hj]
          by_cases e2:j<b
          .rw [AU e2,AU (by omega)]
          .rw [AP e2,AP (by omega)])
        have c0:=AB (HW.setN b ac (pl (m z)));have gf:(0:Int)<=(z:Int):=by omega
        have gg:(z:Int)<(n:Int):=by omega
        have fw:(z:Int)>=0:=by omega
        have gh:(0:Int)<=(m z:Int):=by omega
        have gi:(m z:Int)<(cc:Int):=by omega
        rw[hz]at u1 ax;clear HW cz hz fu fv;generalize m z=mz at *;generalize pl mz=pz at *;go_wp2;go_roundw
        case rel=>exact⟨b+1,_,by omega,by go_num,c0.out,HN.out⟩
        case measure=>simp[intOf];omega
      .obtain rfl:b=256:=by omega
       have ei:BL wr gN 3 (FF (F9 r m pl s) 256):=by
        have:FF fn 256=FF (F9 r m pl s) 256:=by unfold FF;rw[IM (fun j hj=>by rw[bi.out j hj,AU hj])]
        rw[<-this];exact HW.n
       have gj:=D.out.bel.size;have ej:Jf A.heap.size wr 3 (.slice (some ⟨gN,0,none⟩) 256 256) (((List.range 256).map (F9 r m pl s)).map (Value.int .i64)):=SG ei (by have:=HW.bn;omega);have ek:Jf A.heap.size wr 9 (.slice (some ⟨gO,0,none⟩) 256 256) ((r.outs.getD s []).map Value.string):=by rw[fs.out];exact⟨gO,rfl,by have:=HW.bo;omega,HW.o,Gh _ _⟩
       have el:∀g,(Value.slice (some ⟨gT,0,none⟩) l l).ownBlock=some g->(Value.slice (some ⟨gO,0,none⟩) 256 256).ownBlock≠some g:=fun g e e2=>by have h1:=(own_lt D.out.oT g e).2;have h2:gO=g:=AL e2;have:=HW.bo;omega
       have fy:=AB (dx.out.put Hs.out);have bk:=D.out.call HW.bel;clear HW ei D dx;obtain⟨w6,fz⟩:∃w6,w6=wr:=⟨_,rfl⟩
       subst fz;go_upto_region 19 with(fail)
       obtain⟨iN,aj,em,eo,ep⟩:=BK MV;have qN:=bk.box.cell 1;have fN:=bk.box.frozen 1;have bl:=(AH w6.heap.size w6).alloc (AD _) (.cells #[.slice (some ⟨gN,0,none⟩) 256 256] 55);have ay:=bk.call bl;have R:=ay.oN;have S:=ay.box;have ad:=AV R S (by decide);have b3:=Bg w6 [.slice (some ⟨gN,0,none⟩) 256 256] 55 1 1 rfl;have b4:N.length+1<=maxLen:=by have:=bc.out;unfold maxLen;omega
       have b5:(N.length+1)*24<=140737488355328:=by have:=bc.out;omega
       have az:∀u∈[Value.slice (some ⟨gN,0,none⟩) 256 256],u.oneCell'=true:=fun u hu=>by rw[AM]at hu;subst hu;rfl
       have b6:=ay.bel.size;have b7:=ej.call bl;have a0:=ek.call bl;clear bk ej ek;go_upto_region 20 with(at_builtin;refine Ba _ rfl _ _ 22 rfl A.heap.size 55 iN _ 1 24 Tryz.underlying22 aj em eo ep rfl (by decide) _ _ _ rfl R _ (some ⟨w6.heap.size,0,none⟩) 1 1 [.slice (some ⟨gN,0,none⟩) 256 256] rfl b3 az b4 b5 b6 ?_;intro g6 wN Z L c5;obtain⟨eq,er,rfl,_,_,_⟩:=BH Z;have f5:=(BM S L ad).cell 1;have f6:=(BM S L ad).frozen 1)
       have bm:=ay.putN L Z b7;have b8:=(a0.kept L (a0.ne_own R (by decide))).set (BM S L ad) (by decide) 1 (.slice eq (N.length+1) er);clear qN fN f5 f6 bl S ad b3 az b4 b5 b6 R Z L c5 ay b7 a0 aj em eo ep;generalize wN.setCell ⟨gr,1,none⟩ (.slice eq (N.length+1) er)=w7 at *;obtain⟨iO,ak,es,et,eu⟩:=BK Kt;have qO:=bm.box.cell 2;have fO:=bm.box.frozen 2;have c6:=(AH w7.heap.size w7).alloc (AD _) (.cells #[.slice (some ⟨gO,0,none⟩) 256 256] 25);have a3:=bm.call c6;have Y:=a3.oO;have ae:=a3.box;have a4:=AV Y ae (by decide);have b9:=Bg w7 [.slice (some ⟨gO,0,none⟩) 256 256] 25 1 1 rfl;have ca:O.length+1<=maxLen:=by have:=bc.out;unfold maxLen;omega
       have cb:(O.length+1)*24<=140737488355328:=by have:=bc.out;omega
       have a5:∀u∈[Value.slice (some ⟨gO,0,none⟩) 256 256],u.oneCell'=true:=fun u hu=>by rw[AM]at hu;subst hu;rfl
       have cd:=a3.bel.size;have ce:=b8.call c6;clear bm b8
       go_wp2_with (at_builtin;refine Ba _ rfl _ _ 23 rfl A.heap.size 25 iO _ 1 24 Tryz.underlying23 ak es et eu rfl (by decide) _ _ _ rfl Y _ (some ⟨w7.heap.size,0,none⟩) 1 1 [.slice (some ⟨gO,0,none⟩) 256 256] rfl b9 a5 ca cb cd ?_;intro g7 wO aa af c7;obtain⟨g8,g9,rfl,_,_,_⟩:=BH aa;have f7:=(BM ae af a4).cell 2;have f8:=(BM ae af a4).frozen 2)
       have f9:=AB (a3.putO af aa ce el);clear qO fO f7 f8 c6 ae a4 b9 a5 ca cb cd Y aa af c7 a3 ce el ak es et eu;go_roundw
       case rel=>exact⟨k+1,_,_,_,_,_,_,by omega,by go_num,f9.out,fy.out⟩
       case measure=>simp[intOf];omega
    .obtain rfl:l=k:=by omega
     have J:=HOr.out.1;rw[<-fc.out]at J hM;have c8:=hM.seq;rw[dg.out]at c8;have c9:=SI C.out.1 C.out.2.1 V.out J;have bp:=SH C.out.1 C.out.2.1 V.out J C.out.2.2.2.2.2.1;have da:=X1Z C.out.1 C.out.2.1 V.out J C.out.2.2.2.2.2.1;have db:=X1q C.out.1 C.out.2.1 V.out J;have a6:=JQ (q:=r) (m:=m) (xs:=xs) (pl:=pl);rw[c8]at c9 bp da db a6;have dc:N.length=xs.length:=a6;have ev:=(Ea C.out.1).2.2.2.2.1;rw[dg.out]at ev;have bq:=bp.lens;have hq:=T.seqNew (m:=1024) (AD _) ⟨by rw[dc];omega,bq.1,bq.2.1,bq.2.2,by omega,fun i hi=>by rw[dc]at hi ⊢;exact c9.2 i hi⟩;have ew:=T.bel;have H:=HJ.out.2.1.below ew HJ.out.2.1.lt;have ex:=HJ.out.2.2.trans (ew.mono fb);have gb:=AB (fun(W:World) (f:Below w.heap.size w W) (v:Value) (hq:Eb w.heap.size W ⟨rf,N,O,xs.map r.en,xs.map r.tl⟩ v)=>ci.out W f v _ hq bp da db);have HQ:=AB hq;have k0:=T.box.cell 0;have k1:=T.box.cell 1;have k2:=T.box.cell 2;have k3:=T.box.cell 3;have k4:=T.box.cell 4;have r0:=H.cell 0;have r1:=H.cell 1;have r2:=H.cell 2;have r3:=H.cell 3;have r4:=H.cell 4;have g0:=H.frozen 0;have g1:=H.frozen 1;have g2:=H.frozen 2;have g3:=H.frozen 3;have g4:=H.frozen 4;clear T hM J c8 c9 bp da db dc a6 ev bq hq;generalize N.length=nl at *;generalize O.length=ol at *
     go_wp2_with fail
     exact Pm rfl rfl (Ec H _ _ _ _ _) (gb.out _ (DR ex (by omega) _ _ _ _ _) _ ((PG HQ.out (show w.heap.size+1<A.heap.size from dn) _ _ _ _ _).mono (by omega)))
end
end Go.Proofs.YtcondkihpmmnnaaGreatDoor
