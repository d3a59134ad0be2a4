/- TopTwin returns true for any transducer and any number, and the input reads as it did. Conditions: the row's own (three laid tables; the card ties them). -/
import Derived.Test.YtcondkihpmmnnaaGreatDoorTwin49
import Derived.Test.YtcondkihpmmnnaaGreatDoorTwin47
import Derived.Test.YtcondkihpmmnnaaGreatDoorTwin48
set_option maxRecDepth 100000
set_option maxHeartbeats 16000000
namespace Go.Proofs.YtcondkihpmmnnaaGreatDoor
section
open Go.RowKit Go.Sort
theorem U8 {a b c:Nat} (d:c=a*b) (h:c<=1000000000):wrap64 ((a:Int)*(b:Int))=((c:Nat):Int):=by
 have e:(a:Int)*(b:Int)=((c:Nat):Int):=by rw[d,Dk]
 rw[e];exact FH _ (by omega)
theorem X0J {a b c:Nat} (d:c=a+b) (h:c<=1000000000):wrap64 ((a:Int)+(b:Int))=((c:Nat):Int):=by
 have e:(a:Int)+(b:Int)=((c:Nat):Int):=by rw[d,Int.natCast_add]
 rw[e];exact FH _ (by omega)
theorem Se (u:Fs) (n:Nat) (vt:Value) (B:Nat) (w:World) (aa:EK w B u vt) (hB:B<=w.heap.size) (F:Fit u n) :Calls Tryz.prog 42 #[vt] w (fun e w'=>e=.returned (.int .i64 (Ga u n:Int))/\Below w.heap.size w w'):=by
 obtain⟨I,J,K,L,M,N,rfl,h1,h2,h3,h4,h5,h6,h7,h8,R1,W1,R2,W2,R3,W3⟩:=aa;have O:=F.n;have z:=F.le;have P:=AB F;rw[O];have d:=BL.new w 32 #[.int .i64 (n:Int),.slice I u.starts.length J,.slice K u.ends.length L,.slice M u.arcs.length N];have f:=(AH w.heap.size w).alloc (AD _) (.cells #[.int .i64 (n:Int),.slice I u.starts.length J,.slice K u.ends.length L,.slice M u.arcs.length N] 32);have k3:=d.cell 3;have ab:u.starts.length<=9223372036854775807:=AK (AK h1 h4) (by unfold maxLen;decide);have ac:=F.many;clear R2 W2 W1 W3 F O h1 h2 h3 h4 h5 h6 h7 h8;go_enter Tryz.func42,Tryz.ntmps42;go_wp2;generalize w.alloc (.cells #[.int .i64 (n:Int),.slice I u.starts.length J,.slice K u.ends.length L,.slice M u.arcs.length N] 32)=W1 at *;clear k3;have ad:=AB (show u.arcs.length=u.arcs.length from rfl);have Q:=AB (XG P.out);have R:=AB (Sc P.out);generalize S:u.arcs.length=A at *;have g:=AB S;generalize T:u.starts.length=ns at *;have j:=AB T;clear S T ad;go_loopw [3,13] (fun a i wr=>∃k:Nat,k<=A/\i=.int .i64 (k:Int)/\a=.int .i64 ((Jh ((u.arcs.map KG).take k):Nat):Int)/\Below w.heap.size w wr/\BL wr w.heap.size 32 #[.int .i64 (n:Int),.slice I ns J,.slice K u.ends.length L,.slice M A N]) (fun _ i _=>A-(intOf i).toNat)
 case atStart=>exact⟨0,AN _,rfl,rfl,f,d⟩
 case round=>
  clear f d;obtain⟨k,hk,rfl,rfl,f,d⟩:=hrel;have D:=OQ (u.arcs.map KG) k Q.out;by_cases b:k<A
  .have ae:(0:Int)<=(k:Int):=by omega
   have af:(k:Int)<(A:Int):=by omega
   obtain⟨g3,o3,rfl,ag,a0,a1,a2,a3,a4,a5,a6,a7⟩:=Di (R3.below (f.mono hB)) k b;have o:=AB (Mu (u.arcs.map KG) k (by rw[A6,g.out];exact b));have C:(u.arcs.map KG)[k]'(by rw[A6,g.out];exact b)=KG (u.arcs.getD k Cq):=by rw[ER,AC,AG (by rw[g.out];exact b)];rfl
   have E:=(P.out.arcs _ (getD_in u.arcs Cq k (by rw[g.out];exact b))).2.2.2.2.1;have p:=AB C;clear C;generalize u.arcs.getD k Cq=x at *;obtain⟨fr,tt,⟨ah,ai,aj,ak⟩,q,cp⟩:=x;simp only at a0 a1 a2 a3 a4 a5 a6 a7 E;generalize Jh ((u.arcs.map KG).take k)=mk at *;have G:=(AH wr.heap.size wr).alloc (AD _) (.cells #[.int .i64 fr,.int .i64 tt,.int .u64 ah,.int .u64 ai,.int .u64 aj,.int .u64 ak,.string q,.bool cp] 61);have l:=AB (AI (f.trans (G.mono f.size)) (d.below G d.lt));clear f d G;have U:max (mk:Int) (q.size:Int)=((max mk q.size:Nat):Int):=by omega
   have an:max (mk:Int) ((q.size:Int)+1)=((max mk (q.size+1):Nat):Int):=by omega
   rcases cp with _|_
   .go_wp2
    go_roundw
    case rel=>exact⟨k+1,by omega,by go_num,by rw[o.out,p.out];first|rfl|(simp[KG];omega),l.out.1,l.out.2⟩
    case measure=>simp[intOf];omega
   .go_wp2
    go_roundw
    case rel=>exact⟨k+1,by omega,by go_num,by rw[o.out,p.out];first|rfl|(simp[KG];omega),l.out.1,l.out.2⟩
    case measure=>simp[intOf];omega
  .obtain rfl:A=k:=by omega
   have c:(u.arcs.map KG).take A=u.arcs.map KG:=by rw[BX (by rw[A6,g.out];exact AD _)]
   rw[c]at D ⊢;have al:=AB (show Jh (u.arcs.map KG)=Jh (u.arcs.map KG)from rfl);generalize V:Jh (u.arcs.map KG)=ma at *;have W:=AB V;have k1:=d.cell 1;have l:=AB (AI f d);clear c al V f d;go_wp2;clear k1;go_loopw [4,31] (fun a i wr=>∃k:Nat,k<=ns/\i=.int .i64 (k:Int)/\a=.int .i64 ((Jh ((u.starts.map fun x=>x.out.size).take k):Nat):Int)/\Below w.heap.size w wr/\BL wr w.heap.size 32 #[.int .i64 (n:Int),.slice I ns J,.slice K u.ends.length L,.slice M A N]) (fun _ i _=>ns-(intOf i).toNat)
   case atStart=>exact⟨0,AN _,rfl,rfl,l.out.1,l.out.2⟩
   case round=>
    clear l;obtain⟨k,hk,rfl,rfl,f,d⟩:=hrel;have H:=OQ (u.starts.map fun x=>x.out.size) k R.out;by_cases b:k<ns
    .have ae:(0:Int)<=(k:Int):=by omega
     have af:(k:Int)<(ns:Int):=by omega
     obtain⟨g3,o3,rfl,ag,a0,a1⟩:=Dh (R1.below (f.mono hB)) k b;have o:=AB (Mu (u.starts.map fun x=>x.out.size) k (by rw[A6,j.out];exact b));have p:=AB (show(u.starts.map fun x=>x.out.size)[k]'(by rw[A6,j.out];exact b)=(u.starts.getD k DI).out.size from by rw[ER,AC,AG (by rw[j.out];exact b)];rfl);have E:=(P.out.starts _ (getD_in u.starts DI k (by rw[j.out];exact b))).2.2;generalize u.starts.getD k DI=x at *;obtain⟨fr,q⟩:=x;simp only at a0 a1 E;generalize Jh ((u.starts.map fun x=>x.out.size).take k)=mk at *;have G:=(AH wr.heap.size wr).alloc (AD _) (.cells #[.int .i64 fr,.string q] 54);have l:=AB (AI (f.trans (G.mono f.size)) (d.below G d.lt));clear f d G;have U:max (mk:Int) (q.size:Int)=((max mk q.size:Nat):Int):=by omega
     go_wp2;go_roundw
     case rel=>exact⟨k+1,by omega,by go_num,by rw[o.out,p.out],l.out.1,l.out.2⟩
     case measure=>simp[intOf];omega
    .obtain rfl:ns=k:=by omega
     have c:(u.starts.map fun x=>x.out.size).take ns=u.starts.map fun x=>x.out.size:=by rw[BX (by rw[A6,j.out];exact AD _)]
     rw[c]at H ⊢;generalize X:Jh (u.starts.map fun x=>x.out.size)=mb at *;have Y:=AB (show Ga u n=n*n*ma+mb from by unfold Ga;rw[W.out,X]);have k0:=d.cell 0;clear X c;have r:n*n<=1024:=AK (Dl z z) (by decide);have m:n*n*ma<=1049600:=AK (Dl r D) (by decide);obtain⟨NN,s⟩:∃NN,NN=n*n:=⟨_,rfl⟩
     rw[<-s]at r m;obtain⟨PM,t⟩:∃PM,PM=NN*ma:=⟨_,rfl⟩
     rw[<-t]at m;obtain⟨Z,y⟩:∃Z,Z=PM+mb:=⟨_,rfl⟩
     have ao:=U8 s (AK r (by decide));have ap:=U8 t (AK m (by decide));have aq:=X0J y (by rw[y];exact AK (Nat.add_le_add m H) (by decide));have am:=AB (show(fun e w'=>e=Ending.returned (.int .i64 (Ga u n:Int))/\Below w.heap.size w w') (.returned (.int .i64 (Z:Int))) wr from⟨by rw[Y.out,y,t,s],f⟩);clear f d Y s t y r m D H Q R g j P W R1 R3 ac ab hk b;go_wp2;exact AQ (v:=.int .i64 (Z:Int)) (by simp[results,Tryz.results42,go_sem]) rfl am.out
end
section
open Go.RowKit Go.Sort
def WQ (t:Fs) (w:World) (e:Ending) (w':World):Prop:=∃u k,GF u k w e w'/\(k=0\/k=2\/Dq t=false)/\(k=0->Dq t=true/\∃f,Trims t u f/\Dq u=true/\∃n:Nat,u.n=(n:Int)/\n<=32)
theorem Sf (t:Fs) (vt:Value) (B:Nat) (w:World) (E:EK w B t vt) (hB:B<=w.heap.size) :Calls Tryz.prog 41 #[vt] w (WQ t w):=by
 have y:=E;obtain⟨O,P,Q,R,S,T,rfl,h1,h2,h3,h4,h5,h6,h7,h8,R1,W1,R2,W2,R3,W3⟩:=E;have Ja:=BL.new w 32 #[.int .i64 t.n,.slice O t.starts.length P,.slice Q t.ends.length R,.slice S t.arcs.length T];have V:=(AH w.heap.size w).alloc (AD _) (.cells #[.int .i64 t.n,.slice O t.starts.length P,.slice Q t.ends.length R,.slice S t.arcs.length T] 32);have U:=BL.new (w.alloc (.cells #[.int .i64 t.n,.slice O t.starts.length P,.slice Q t.ends.length R,.slice S t.arcs.length T] 32)) 32 #[.int .i64 0,.slice none 0 0,.slice none 0 0,.slice none 0 0];have o:=V.alloc V.size (.cells #[.int .i64 0,.slice none 0 0,.slice none 0 0,.slice none 0 0] 32);have d:=Ja.alloc (.cells #[.int .i64 0,.slice none 0 0,.slice none 0 0,.slice none 0 0] 32);rw[Ad]at U;have F:=AB (Ql t _ B _ (y.below (o.mono hB)) (AK hB o.size));have G:((w.alloc (.cells #[.int .i64 t.n,.slice O t.starts.length P,.slice Q t.ends.length R,.slice S t.arcs.length T] 32)).alloc (.cells #[.int .i64 0,.slice none 0 0,.slice none 0 0,.slice none 0 0] 32)).heap.size=w.heap.size+2:=by simp
 have j0:=d.cell 0;have j1:=d.cell 1;have j2:=d.cell 2;have j3:=d.cell 3;clear R1 R2 R3 W1 W2 W3 y Ja V;go_enter Tryz.func41,Tryz.ntmps41
 go_wp2_with fail
 refine F.out.mono ?_;rintro e D ⟨u,r,⟨vu,rfl,W,i,q⟩,H,X,I⟩;have a:=d.below q d.lt;have J:=U.below q U.lt;have z:=o.trans (q.mono o.size);rw[G]at i;have ae:w.heap.size+2<=D.heap.size:=by have:=q.size;rw[G]at this;exact this
 obtain⟨j,d1,l,d2,m,d3,rfl,e1,e2,e3,e4,e5,e6,e7,e8,U1,V1,U2,V2,U3,V3⟩:=id W;have k0:=a.cell 0;have k1:=a.cell 1;have k2:=a.cell 2;have k3:=a.cell 3;have l0:=a.frozen 0;have l1:=a.frozen 1;have l2:=a.frozen 2;have l3:=a.frozen 3;have Y:=AB (W.freshSet4 i (g:=w.heap.size) (by omega) (.int .i64 u.n) (.slice j u.starts.length d1) (.slice l u.ends.length d2) (.slice m u.arcs.length d3));have s:BL ((((D.setCell ⟨w.heap.size,0,none⟩ (.int .i64 u.n)).setCell ⟨w.heap.size,1,none⟩ (.slice j u.starts.length d1)).setCell ⟨w.heap.size,2,none⟩ (.slice l u.ends.length d2)).setCell ⟨w.heap.size,3,none⟩ (.slice m u.arcs.length d3)) w.heap.size 32 #[.int .i64 u.n,.slice j u.starts.length d1,.slice l u.ends.length d2,.slice m u.arcs.length d3]:=(((a.set_ 0 _).set_ 1 _).set_ 2 _).set_ 3 _;have b:BL ((((D.setCell ⟨w.heap.size,0,none⟩ (.int .i64 u.n)).setCell ⟨w.heap.size,1,none⟩ (.slice j u.starts.length d1)).setCell ⟨w.heap.size,2,none⟩ (.slice l u.ends.length d2)).setCell ⟨w.heap.size,3,none⟩ (.slice m u.arcs.length d3)) (w.heap.size+1) 32 #[.int .i64 0,.slice none 0 0,.slice none 0 0,.slice none 0 0]:=(((J.far (p:=⟨w.heap.size,0,none⟩) (show w.heap.size+1≠w.heap.size by omega) _).far (p:=⟨w.heap.size,1,none⟩) (show w.heap.size+1≠w.heap.size by omega) _).far (p:=⟨w.heap.size,2,none⟩) (show w.heap.size+1≠w.heap.size by omega) _).far (p:=⟨w.heap.size,3,none⟩) (show w.heap.size+1≠w.heap.size by omega) _;have A:=Dn z (g:=w.heap.size) (AD _) (.int .i64 u.n) (.slice j u.starts.length d1) (.slice l u.ends.length d2) (.slice m u.arcs.length d3);have af:((((D.setCell ⟨w.heap.size,0,none⟩ (.int .i64 u.n)).setCell ⟨w.heap.size,1,none⟩ (.slice j u.starts.length d1)).setCell ⟨w.heap.size,2,none⟩ (.slice l u.ends.length d2)).setCell ⟨w.heap.size,3,none⟩ (.slice m u.arcs.length d3)).heap.size=D.heap.size:=by simp
 have HR:=AB H;have K:=AB i;have L:=AB A;clear W U1 U2 U3 V1 V2 V3 i H F d a U J q o z A;go_upto_region 2 with(fail)
 generalize ((((D.setCell ⟨w.heap.size,0,none⟩ (.int .i64 u.n)).setCell ⟨w.heap.size,1,none⟩ (.slice j u.starts.length d1)).setCell ⟨w.heap.size,2,none⟩ (.slice l u.ends.length d2)).setCell ⟨w.heap.size,3,none⟩ (.slice m u.arcs.length d3))=W4 at *;clear k0 k1 k2 k3 l0 l1 l2 l3
 have hZ:∀k:Int,k≠0->(k=2\/r=1)->∀C,Below w.heap.size w C->WQ t w (.returned (.tuple #[.agg #[.int .i64 0,.slice none 0 0,.slice none 0 0,.slice none 0 0],.int .i64 k])) C:=fun k hk Z C hb=>⟨fs0,k,⟨_,rfl,Mz _ _,Kn _,hb⟩,.inr (Z.imp id fun h1=>by
  cases hf:Dq t with
  | false=>rfl
  | true=>have:=I hf;omega),fun h=>absurd h hk⟩
 have HZ:=AB hZ;clear hZ I;have r0:=b.cell 0;have r1:=b.cell 1;have r2:=b.cell 2;have r3:=b.cell 3;have s0:=b.frozen 0;have s1:=b.frozen 1;have s2:=b.frozen 2;have s3:=b.frozen 3;have m0:=s.cell 0;have m1:=s.cell 1;have m2:=s.cell 2;have m3:=s.cell 3;have c:=((((b.set_ 0 (.int .i64 0)).set_ 1 (.slice none 0 0)).set_ 2 (.slice none 0 0)).set_ 3 (.slice none 0 0));have M:=AB (Dn L.out (g:=w.heap.size+1) (by omega) (.int .i64 0) (.slice none 0 0) (.slice none 0 0) (.slice none 0 0));rcases X with rfl|rfl
 .obtain ⟨q1,q2,f,q3⟩:=HR.out rfl
  have aa:=(Kx q2).1;have HQ:=AB (AI q1 (AI q2 q3));clear HR q1 q2 q3;by_cases h32:u.n>32
  .go_wp2;have z0:=c.cell 0;have N:=c.cell 1;have z2:=c.cell 2;have z3:=c.cell 3;exact AQ (v:=.tuple #[.agg #[.int .i64 0,.slice none 0 0,.slice none 0 0,.slice none 0 0],.int .i64 2]) (by simp[results,Tryz.results41,go_sem,z0,N,z2,z3]) rfl (HZ.out 2 (by decide) (.inl rfl) _ M.out)
  .have x:=((((b.set_ 0 (.int .i64 u.n)).set_ 1 (.slice j u.starts.length d1)).set_ 2 (.slice l u.ends.length d2)).set_ 3 (.slice m u.arcs.length d3))
   have ab:=AB (Dn L.out (g:=w.heap.size+1) (by omega) (.int .i64 u.n) (.slice j u.starts.length d1) (.slice l u.ends.length d2) (.slice m u.arcs.length d3));have ac:=AB (Y.out.freshSet4 K.out (g:=w.heap.size+1) (by omega) (.int .i64 u.n) (.slice j u.starts.length d1) (.slice l u.ends.length d2) (.slice m u.arcs.length d3));obtain⟨n,hn⟩:=Dr aa
   have ad:=AB (fun C (hf:EK C C.heap.size u (.agg #[.int .i64 u.n,.slice j u.starts.length d1,.slice l u.ends.length d2,.slice m u.arcs.length d3])) (hb:Below w.heap.size w C)=>show WQ t w (.returned (.tuple #[.agg #[.int .i64 u.n,.slice j u.starts.length d1,.slice l u.ends.length d2,.slice m u.arcs.length d3],.int .i64 0])) C from
    ⟨u,0,⟨_,rfl,hf,K.out.less (by omega),hb⟩,.inl rfl,fun _=>⟨HQ.out.1,f,HQ.out.2.2,HQ.out.2.1,n,hn,by omega⟩⟩)
   clear hn;go_wp2;have z0:=x.cell 0;have N:=x.cell 1;have z2:=x.cell 2;have z3:=x.cell 3;exact AQ (v:=.tuple #[.agg #[.int .i64 u.n,.slice j u.starts.length d1,.slice l u.ends.length d2,.slice m u.arcs.length d3],.int .i64 0]) (by simp[results,Tryz.results41,go_sem,z0,N,z2,z3]) rfl (ad.out _ ac.out ab.out)
 .go_wp2;have z0:=c.cell 0;have N:=c.cell 1;have z2:=c.cell 2;have z3:=c.cell 3;exact AQ (v:=.tuple #[.agg #[.int .i64 0,.slice none 0 0,.slice none 0 0,.slice none 0 0],.int .i64 1]) (by simp[results,Tryz.results41,go_sem,z0,N,z2,z3]) rfl (HZ.out 1 (by decide) (.inr (by trivial)) _ M.out)
def WR (w:World) (e:Ending) (w':World):Prop:=Below w.heap.size w w'/\∃b k:Int,e=.returned (.tuple #[.int .i64 b,.int .i64 k])
theorem WS (t:Fs) (M:Value) (B:Nat) (w:World) (o:EK w B t M) (N:B<=w.heap.size) :Calls Tryz.prog 15 #[M] w (WR w):=by
 have d:=o;obtain⟨A,C,D,E,F,G,rfl,h1,h2,h3,h4,h5,h6,h7,h8,T,U,V,W,X,Y⟩:=o;have j:=BL.new w 32 #[.int .i64 t.n,.slice A t.starts.length C,.slice D t.ends.length E,.slice F t.arcs.length G];have p:=(AH w.heap.size w).alloc (AD _) (.cells #[.int .i64 t.n,.slice A t.starts.length C,.slice D t.ends.length E,.slice F t.arcs.length G] 32);have q:=AB (Sf t _ B _ (d.below (p.mono N)) (AK N p.size));have H:(w.alloc (.cells #[.int .i64 t.n,.slice A t.starts.length C,.slice D t.ends.length E,.slice F t.arcs.length G] 32)).heap.size=w.heap.size+1:=by simp
 have j0:=j.cell 0;have j1:=j.cell 1;have j2:=j.cell 2;have j3:=j.cell 3;clear T V X U W Y d;go_enter Tryz.func15,Tryz.ntmps15
 go_wp2_with fail
 refine q.out.mono ?_;rintro e O ⟨u,r,⟨vu,rfl,I,b,k⟩,_,s⟩;have a:=j.below k j.lt;have i:=p.trans (k.mono p.size);rw[H]at b;obtain⟨x,d1,y,d2,z,d3,rfl,e1,e2,e3,e4,e5,e6,e7,e8,Z,V1,U2,V2,U3,P⟩:=id I;have k0:=a.cell 0;have k1:=a.cell 1;have k2:=a.cell 2;have k3:=a.cell 3;have l0:=a.frozen 0;have l1:=a.frozen 1;have l2:=a.frozen 2;have l3:=a.frozen 3;have J:=AB (I.freshSet4 b (g:=w.heap.size) (by omega) (.int .i64 u.n) (.slice x u.starts.length d1) (.slice y u.ends.length d2) (.slice z u.arcs.length d3));have c:BL ((((O.setCell ⟨w.heap.size,0,none⟩ (.int .i64 u.n)).setCell ⟨w.heap.size,1,none⟩ (.slice x u.starts.length d1)).setCell ⟨w.heap.size,2,none⟩ (.slice y u.ends.length d2)).setCell ⟨w.heap.size,3,none⟩ (.slice z u.arcs.length d3)) w.heap.size 32 #[.int .i64 u.n,.slice x u.starts.length d1,.slice y u.ends.length d2,.slice z u.arcs.length d3]:=(((a.set_ 0 _).set_ 1 _).set_ 2 _).set_ 3 _;have l:=AB (Dn i (g:=w.heap.size) (AD _) (.int .i64 u.n) (.slice x u.starts.length d1) (.slice y u.ends.length d2) (.slice z u.arcs.length d3));have Q:=AB s;have HV:=AB P;clear I Z U2 U3 V1 V2 P b s q j a k p i;go_upto_region 2 with(fail)
 generalize ((((O.setCell ⟨w.heap.size,0,none⟩ (.int .i64 u.n)).setCell ⟨w.heap.size,1,none⟩ (.slice x u.starts.length d1)).setCell ⟨w.heap.size,2,none⟩ (.slice y u.ends.length d2)).setCell ⟨w.heap.size,3,none⟩ (.slice z u.arcs.length d3))=R at *;clear k0 k1 k2 k3 l0 l1 l2 l3;by_cases hr:r=0
 .subst hr
  obtain⟨q1,f,q2,q3,n,S,h32⟩:=Q.out rfl;have K:=AB (Se u n _ _ R J.out (AD _) (WN q3 S h32 HV.out));have m0:=c.cell 0;have m1:=c.cell 1;have m2:=c.cell 2;have m3:=c.cell 3;clear S Q
  go_wp2_with fail
  refine K.out.mono ?_;rintro e w5 ⟨rfl,L⟩;have m:=AB (show WR w (.returned (.tuple #[.int .i64 (Ga u n:Int),.int .i64 0])) w5 from⟨l.out.trans (L.mono l.out.size),_,_,rfl⟩);clear m0 m1 m2 m3 c;generalize (Ga u n:Int)=bb at *;go_wp2;exact AQ (v:=.tuple #[.int .i64 bb,.int .i64 0]) (by simp[results,Tryz.results15,go_sem]) rfl m.out
 .have m:=AB (show WR w (.returned (.tuple #[.int .i64 0,.int .i64 r])) R from⟨l.out,_,_,rfl⟩);go_wp2;exact AQ (v:=.tuple #[.int .i64 0,.int .i64 r]) (by simp[results,Tryz.results15,go_sem]) rfl m.out
end
section
open Go.RowKit Go.Sort
theorem WT (G:Nat) (w:World) :Calls Tryz.prog 45 #[.pointer (some ⟨G,0,none⟩)] w fun e w'=>e=.returned (.func (.func 76) #[] #[.pointer (some ⟨w.heap.size,0,none⟩)])/\Below w.heap.size w w'/\BL w' w.heap.size 102 #[.pointer (some ⟨G,0,none⟩)]:=by have a:=(AH w.heap.size w).alloc (AD _) (.cells #[.pointer (some ⟨G,0,none⟩)] 102);have b:=BL.new w 102 #[.pointer (some ⟨G,0,none⟩)];have c:=AB (AI a b);clear a b;go_enter Tryz.func45,Tryz.ntmps45;go_wp2;exact AQ (v:=.func (.func 76) #[] #[.pointer (some ⟨w.heap.size,0,none⟩)]) (by simp[results,Tryz.results45,go_sem]) rfl ⟨rfl,c.out⟩
theorem Yi (G:Nat) (A:Option Addr) (n c:Nat) (w:World) :Calls Tryz.prog 46 #[.pointer (some ⟨G,0,none⟩),.slice A n c] w fun e w'=>e=.returned (.func (.func 78) #[] #[.pointer (some ⟨w.heap.size+1,0,none⟩),.pointer (some ⟨w.heap.size,0,none⟩)])/\Below w.heap.size w w' /\BL w' w.heap.size 102 #[.pointer (some ⟨G,0,none⟩)]/\BL w' (w.heap.size+1) 106 #[.slice A n c]:=by have b:=((AH w.heap.size w).alloc (AD _) (.cells #[.pointer (some ⟨G,0,none⟩)] 102)).alloc (by simp) (.cells #[.slice A n c] 106);have d:=(BL.new w 102 #[.pointer (some ⟨G,0,none⟩)]).alloc (.cells #[.slice A n c] 106);have a:=BL.new (w.alloc (.cells #[.pointer (some ⟨G,0,none⟩)] 102)) 106 #[.slice A n c];rw[Ad]at a;have f:=AB (AI b (AI d a));clear b d a;go_enter Tryz.func46,Tryz.ntmps46;go_wp2;exact AQ (v:=.func (.func 78) #[] #[.pointer (some ⟨w.heap.size+1,0,none⟩),.pointer (some ⟨w.heap.size,0,none⟩)]) (by simp[results,Tryz.results46,go_sem]) rfl ⟨rfl,f.out⟩
theorem Yj (lo bs G n g most e i c:Nat) (j:Option Addr) (v2 v3:Value) (u:Fs) (F:Fit u n) (f:e<=1024) (a:World) (o:a.heap.size=lo+4) (p:RU (lo+1) a) (q:WkAt lo bs G n g most j e i v2 v3 u a) (r:BL a c 102 #[.pointer (some ⟨G,0,none⟩)]) (b:OW lo bs c) :X0x Fence.wide 4 Tryz.prog 76 #[.pointer (some ⟨c,0,none⟩)] (fun z:Te u n 1024=>#[NU z.1]) (KpX lo (lo+4) (lo+1) bs) 1048576 a:=by
 intro l J s W m x t v w h0;have d:∀k,OW lo bs k->W.heap[k]?=a.heap[k]?:=fun k d=>m.block k (by have:=d.1;omega)
 exact Yh l c lo (lo+4) (lo+1) bs G n g most j e i v2 v3 u F f J s W (by omega) (by omega) t w (p.below m) (q.kept d) ((d _ b).trans r) b h0
theorem X0K (lo bs G n o most p q f g K:Nat) (r:Option Addr) (v2 v3:Value) (u:Fs) (F:Fit u n) (v:K<=80000000) (row:List Lg) (c:∀x∈row,GM u n K x) (i:row.length<=2048) (j:Option Addr) (s:Nat) (a:World) (w:a.heap.size=lo+4) (y:RU (lo+1) a) (A:WkAt lo bs G n o most r p q v2 v3 u a) (B:BL a f 102 #[.pointer (some ⟨G,0,none⟩)]) (d:OW lo bs f) (C:BL a g 106 #[.slice j row.length s]) (e:OW lo bs g) (rd:DP (OW lo bs) a 4 j row.length (B_ Fm row)) :X0x Fence.wide 4 Tryz.prog 78 #[.pointer (some ⟨g,0,none⟩),.pointer (some ⟨f,0,none⟩)] (fun z:Te u n (K+1025)=>#[NU z.1]) (KpX lo (lo+4) (lo+1) bs) 140737488355328 a:=by
 intro l J D W t I E m H h0;have b:∀k,OW lo bs k->W.heap[k]?=a.heap[k]?:=fun k b=>t.block k (by have:=b.1;omega)
 exact X0I l f g lo (lo+4) (lo+1) bs G n o most K r p q v2 v3 u F v row c i j s J D W (by omega) (by omega) E m H (y.below t) (by omega) (by omega) (A.kept b) ((b _ d).trans B) d ((b _ e).trans C) e (rd.kept b) h0
theorem Ed.ne {w:World} {b:Nat} {l:List Lg} (h:Ed w b l) {base:Nat} {e:TypeId} {size n:Nat} {v:Value} {xs:List Value} (c:w.ownsRow base e size v n xs):v.ownBlock≠some b:=fun e=>by obtain⟨_,D,d,_⟩:=h;obtain⟨es,clock,a,_⟩:=d;obtain⟨g,T,i,f⟩:=NO c b e;rw[f]at a;cases a
structure TgW (W4 wr:World) (G bs LA n most:Nat) (v1 v2 v3:Value) (vA:List Value) (rA:Nat->List Ar):Prop where
 box:BL wr G 105 (Ls n v1 v2 v3 LA most bs)
 seen:Ed wr bs []
 gA:Grp Cx 8 wr W4.heap.size LA n 30 61 vA rA
 lG:W4.heap.size<=G
 lM:W4.heap.size<=bs
 bel:Below W4.heap.size W4 wr
section
variable {W4 wr w':World} {G bs LA n most:Nat} {v1 v2 v3:Value} {vA:List Value} {rA:Nat->List Ar}
theorem TgW.call (h:TgW W4 wr G bs LA n most v1 v2 v3 vA rA) (a:Below wr.heap.size wr w'):TgW W4 w' G bs LA n most v1 v2 v3 vA rA:=⟨h.box.below a h.box.lt,h.seen.same ⟨a.os,a.tape,a.output,a.size,fun k b _=>a.block k b⟩,h.gA.call a,h.lG,h.lM,h.bel.trans (a.mono h.bel.size)⟩
theorem TgW.lA (h:TgW W4 wr G bs LA n most v1 v2 v3 vA rA):W4.heap.size<=LA/\LA<wr.heap.size:=own_lt h.gA.own LA rfl
theorem TgW.putA (h:TgW W4 wr G bs LA n most v1 v2 v3 vA rA) (s:Nat) (d:s<n) {v':Value} (x:Ar) (a:wr.grownBy w' (vA.getD s Bf).ownBlock) (f:w'.ownsRow W4.heap.size 61 8 v' ((rA s).length+1) (B_ Cx (rA s)++Cx x)) (g:v'.ownBlock=(vA.getD s Bf).ownBlock\/v'.ownBlock=some wr.heap.size) :TgW W4 (w'.setCell ⟨LA,s,none⟩ v') G bs LA n most v1 v2 v3 (vA.set s v') (fun t=>if t=s then rA s++[x]else rA t):=by have b:=h.gA.row s d;have c:=h.bel.size;exact⟨(BM h.box a (AV b h.box (by decide))).far (p:=⟨LA,s,none⟩) (fun e=>AV h.gA.own h.box (by decide) (by rw[e];rfl)) _,(h.seen.kept a (fun e=>h.seen.ne b e.symm)).setCell (fun e=>h.seen.ne h.gA.own (by rw[e];rfl)) _,h.gA.put (by decide) s d x a f g,h.lG,h.lM,(h.bel.grown a c (fun k i=>(own_lt b k i).1)).setCell (p:=⟨LA,s,none⟩) h.lA.1 _⟩
theorem TgW.wk {u:Fs} {c:Option Addr} {b j l:Nat} (h:TgW W4 wr G bs LA n most (.slice c b j) v2 v3 vA (I_ u)) (d:u.starts.length=b) (p:Reads W4 l 2 c b (B_ CL u.starts)) (q:l<=W4.heap.size):WkAt wr.heap.size bs G n LA most c b j v2 v3 u wr:=by
 have v:=h.bel.size;have w:=h.lM;have r:=h.box.lt;obtain⟨_,D,t,_⟩:=h.seen;obtain⟨es,clock,f,_⟩:=id t;have a:G≠bs:=fun e=>by have i:=h.box;unfold BL at i;rw[e,f]at i;cases i
 refine⟨h.box,⟨r,a⟩,DP.of_reads (p.below (h.bel.mono q)) fun k x=>⟨by omega,by omega⟩,GE.of_grp h.gA ⟨h.lA.2,fun e=>h.seen.ne h.gA.own (by rw[<-e];rfl)⟩ fun s g m o=>⟨(own_lt (h.gA.row s m) g o).2,fun e=>h.seen.ne (h.gA.row s m) (by rw[<-e];exact o)⟩,d⟩
end
end
section
open Go.RowKit Go.Sort
def RD (t:Fs) (w:World) (e:Ending) (w':World):Prop:=Below w.heap.size w w'/\∃(b:Bool) (k:Int),e=.returned (.tuple #[.bool b,.int .i64 k]) /\(b=true\/k=2\/Dq t=false\/∃u f n,Trims t u f/\u.n=((n:Nat):Int)/\∃p q a b',Ep u p q a b'/\(Ga u n<a.length\/Ga u n<b'.length))
theorem WU {Q:Exit->Act->World->Prop} {base:Act} {w:World} {ds:List Tmp} {o:Oper} {d:Tmp} (f:o.dst=some d) (i:o.guard=none) (t:TypeId) (c:o.op=Op.makeMap t none) :Maker Tryz.prog Q base w ds o d (fun v W=>∃g,v=.map (some g)/\w.heap.size<=g/\Ed W g []):=by
 refine⟨f,i,?_,?_⟩
 .rintro v W W' ⟨g,rfl,e,j⟩ a;exact⟨g,rfl,e,j.same ⟨a.os,a.tape,a.output,a.size,fun k l _=>a.block k l⟩⟩
 .intro act W K m a n;have b:=@run_makeMap Tryz.prog;unfold Oper.wp;simp[execOp,c,b,Result.andThen];show K (act.put o.dst _) _;rw[f];exact n _ _ ((AH _ W).alloc (AD _) _) ⟨W.heap.size,rfl,a.size,Ed.made W⟩
theorem Yk {w A C:World} {bs:Nat} (h:Below w.heap.size w A) (b:A.heap.size<=C.heap.size) (c:∀k,OW A.heap.size bs k->C.heap[k]?=A.heap[k]?) (a:C.os=A.os/\C.tape=A.tape/\C.output=A.output) (e:w.heap.size<=bs):Below w.heap.size w C:=⟨a.1.trans h.os,a.2.1.trans h.tape,a.2.2.trans h.output,AK h.size b,fun k d=>(c k ⟨by have:=h.size;omega,by omega⟩).trans (h.block k d)⟩
def RE:Value->Nat
 | .slice _ 0 _=>0
 | _=>1
def WV (v f:Value) (k:Nat):Nat:=
 match f with
 | .bool true=>0
 | _=>1+2*(2048-k)+RE v
theorem Sg (A:Option Addr) (n c:Nat):RE (.slice A n c)=if n=0 then 0 else 1:=by cases n<;>rfl
theorem X0L (v v':Value) (k a:Nat):WV v' (.bool true) a<WV v (.bool false) k:=by show 0<1+2*(2048-k)+RE v;omega
theorem X1G (A b:Option Addr) (c d S R a:Nat) (e:R≠0) (h:S+a<=2048):WV (.slice b a d) (.bool false) (S+a)<WV (.slice A R c) (.bool false) S:=by show 1+2*(2048-(S+a))+RE (.slice b a d)<1+2*(2048-S)+RE (.slice A R c);rw[Sg,Sg,AP e];split<;>omega
structure TnW (u:Fs) (n G bs LA most:Nat) (A1:Option Addr) (nS cS:Nat) (v2 v3:Value) (w:World) (B0:Nat) (S R:List Lg) (far:Bool) (v:Value) (wr:World):Prop where
 bel:Below w.heap.size w wr
 hb:w.heap.size<=bs/\bs<wr.heap.size
 wk:WkAt wr.heap.size bs G n LA most A1 nS cS v2 v3 u wr
 fr:far=true->∃x:Lg,Ep u x.p x.q (bl x.a) (bl x.b)/\(most<x.a.size\/most<x.b.size)
 own:far=false->wr.ownsRow B0 157 4 v R.length (B_ Fm R)/\Ed wr bs S/\(∀x∈R,GM u n most x)/\S.length<=2048/\R.length<=S.length
theorem TnW.took {u:Fs} {n G bs j most K:Nat} {l:Option Addr} {m o:Nat} {v2 v3:Value} {w A C:World} {S R:List Lg} {c:Bool} {v:Value} (d:Below w.heap.size w A) (p:w.heap.size<=bs/\bs<A.heap.size) (s:WkAt A.heap.size bs G n j most l m o v2 v3 u A) (q:A.heap.size<=C.heap.size) (r:∀k,OW A.heap.size bs k->C.heap[k]?=A.heap[k]?) (g:C.os=A.os/\C.tape=A.tape/\C.output=A.output) (f:c=true->∃x,GM u n K x/\(most<x.a.size\/most<x.b.size)) (i:c=false->C.ownsRow A.heap.size 157 4 v R.length (B_ Fm R)/\Ed C bs (S++R)/\(∀x∈R,GM u n most x)/\(S++R).length<=2048) :TnW u n G bs j most l m o v2 v3 w A.heap.size (S++R) R c v C:=⟨Yk d q r g p.1,⟨p.1,by omega⟩,(s.kept r).more q,fun e=>by obtain⟨x,t,h⟩:=f e;exact⟨x,t.1,h⟩,fun e=>by obtain⟨h1,h2,h3,h4⟩:=i e;exact⟨h1,h2,h3,h4,by rw[AJ];omega⟩⟩
theorem X0M (t:Fs) (vt:Value) (B:Nat) (w:World) (b0:EK w B t vt) (hB:B<=w.heap.size) :Calls Tryz.prog 17 #[vt] w (RD t w):=by
 have a8:=b0;obtain⟨A1,c1,A2,c2,A3,c3,rfl,h1,h2,h3,h4,h5,h6,h7,h8,R1,W1,R2,W2,R3,W3⟩:=b0;have Ja:=BL.new w 32 #[.int .i64 t.n,.slice A1 t.starts.length c1,.slice A2 t.ends.length c2,.slice A3 t.arcs.length c3];have LB:=(AH w.heap.size w).alloc (AD _) (.cells #[.int .i64 t.n,.slice A1 t.starts.length c1,.slice A2 t.ends.length c2,.slice A3 t.arcs.length c3] 32);have b1:=AB (Sf t _ B _ (a8.below (LB.mono hB)) (AK hB LB.size));have c0:(w.alloc (.cells #[.int .i64 t.n,.slice A1 t.starts.length c1,.slice A2 t.ends.length c2,.slice A3 t.arcs.length c3] 32)).heap.size=w.heap.size+1:=by simp
 have j0:=Ja.cell 0;have j1:=Ja.cell 1;have j2:=Ja.cell 2;have j3:=Ja.cell 3;clear R1 R2 R3 W1 W2 W3 a8;go_enter Tryz.func17,Tryz.ntmps17
 go_wp2_with fail
 refine b1.out.mono ?_;rintro e w2 ⟨u,r,⟨vu,rfl,hU,ag,bi⟩,b2,b3⟩;have J:=Ja.below bi Ja.lt;have a9:=LB.trans (bi.mono LB.size);rw[c0]at ag;obtain⟨M,d1,N,d2,O,d3,rfl,e1,e2,e3,e4,e5,e6,e7,e8,U1,V1,U2,V2,U3,V3⟩:=id hU;have k0:=J.cell 0;have k1:=J.cell 1;have k2:=J.cell 2;have k3:=J.cell 3;have l0:=J.frozen 0;have l1:=J.frozen 1;have l2:=J.frozen 2;have l3:=J.frozen 3;have b4:=AB (hU.freshSet4 ag (g:=w.heap.size) (by omega) (.int .i64 u.n) (.slice M u.starts.length d1) (.slice N u.ends.length d2) (.slice O u.arcs.length d3));have P:BL ((((w2.setCell ⟨w.heap.size,0,none⟩ (.int .i64 u.n)).setCell ⟨w.heap.size,1,none⟩ (.slice M u.starts.length d1)).setCell ⟨w.heap.size,2,none⟩ (.slice N u.ends.length d2)).setCell ⟨w.heap.size,3,none⟩ (.slice O u.arcs.length d3)) w.heap.size 32 #[.int .i64 u.n,.slice M u.starts.length d1,.slice N u.ends.length d2,.slice O u.arcs.length d3]:=(((J.set_ 0 _).set_ 1 _).set_ 2 _).set_ 3 _;have ax:=AB (Dn a9 (g:=w.heap.size) (AD _) (.int .i64 u.n) (.slice M u.starts.length d1) (.slice N u.ends.length d2) (.slice O u.arcs.length d3));have HR:=AB b3;have b6:=AB b2;have HV:=AB V3;clear hU U1 U2 U3 V1 V2 V3 ag b3 b2 b1 Ja J bi LB a9 e1 e2 e3 e4 e5 e6 e7 e8 h1 h2 h3 h4 h5 h6 h7 h8;go_upto_region 2 with(fail)
 generalize ((((w2.setCell ⟨w.heap.size,0,none⟩ (.int .i64 u.n)).setCell ⟨w.heap.size,1,none⟩ (.slice M u.starts.length d1)).setCell ⟨w.heap.size,2,none⟩ (.slice N u.ends.length d2)).setCell ⟨w.heap.size,3,none⟩ (.slice O u.arcs.length d3))=E at *;clear k0 k1 k2 k3 l0 l1 l2 l3;by_cases hr:r=0
 .subst hr
  obtain⟨q1,f,q2,q3,n,hn,h32⟩:=HR.out rfl;have F:=WN q3 hn h32 HV.out;have HF:=AB F;have c4:=(Kx q3).2.2.2.1;have b7:=AB (AI q2 hn);have ay:=b4.out;rw[hn]at ay P;have hU:Reads E E.heap.size 2 M u.starts.length (B_ CL u.starts)/\Reads E E.heap.size 8 O u.arcs.length (B_ Cx u.arcs):=by obtain⟨_,_,_,_,_,_,b8,_,_,_,_,_,_,_,_,U1,_,_,_,U3,_⟩:=ay;simp only[Value.agg.injEq,Array.mk.injEq,List.cons.injEq,Value.slice.injEq,and_true]at b8;obtain⟨_,⟨rfl,_⟩,_,rfl,_⟩:=b8;exact⟨U1,U3⟩
  obtain⟨U1,U3⟩:=hU;have b9:∀W,Below E.heap.size E.drew W->Calls Tryz.prog 42 #[.agg #[.int .i64 (n:Int),.slice M u.starts.length d1,.slice N u.ends.length d2,.slice O u.arcs.length d3]] W fun e W'=>∃v,e=.returned v/\Below W.heap.size W W'/\v=.int .i64 (Ga u n:Int):=fun W hb=>by have ca:Below E.heap.size E W:=(AH _ E).drew.trans hb;refine(Se u n _ E.heap.size W (ay.below ca) ca.size F).mono ?_;rintro e W' ⟨rfl,c5⟩;exact⟨_,rfl,c5,rfl⟩
  have cb:=AB b9;clear b9;have y0:=AF (P.cell 0);have y1:=AF (P.cell 1);have y2:=AF (P.cell 2);have y3:=AF (P.cell 3);obtain⟨iA,a1,a2,a3,a4⟩:=BK Ni;have cc:iA.bytes*n<=281474976710656:=by rw[a4];omega
  have c6:n<=maxLen:=by unfold maxLen;omega
  have eg:∀args W,(callFunc 42 args).run Tryz.prog W=.ok (.enter 42 args) W:=FY Tryz.func42 (by kernel_rfl) rfl
  clear F HR q1 q2 q3 hn ay b4 HV b6;go_wp2;refine H_ 7 [0,1,2,4] [3,5,6] (by kernel_rfl) (by kernel_rfl) rfl (by kernel_rfl) ?_;simp only[CV,A_,BA,Az,BI,Bn,Co]
  repeat (go_big_quiet_step (fail))
  refine Ah ?_;clear y0 y1 y2 y3;have cd:Below E.heap.size E E.drew:=(AH _ E).drew
  refine fan3 (i:=3) (j:=5) (k:=6) (di:=22) (dj:=24) (dk:=25) (by decide) (by decide) (by decide) (by decide) (by decide) (by decide) rfl rfl rfl
   (G7 rfl rfl 21 (by decide) 66 rfl 30 iA _ 1 Tryz.underlying66 a1 a2 a3 n rfl cc c6)
   (QS rfl rfl 23 (by decide) 42 _ rfl eg ?_ cb.out)
   (WU rfl rfl _ rfl) ?_
  .exact fun _ _ _ h _=>h
  rintro vi vj vk W bj ⟨LA,rfl,du,bk⟩ rfl ⟨bs,rfl,gM,b⟩;rw[show(Value.slice none 0 0).cells=#[Value.slice none 0 0]from rfl,CG,BZ]at bk;have ba:E.heap.size<=W.heap.size:=bj.size;have bb:Below E.heap.size E W:=cd.trans bj;have bl:Ga u n<=80000000:=by have m1:=Tb (XG HF.out);have m2:=Tb (Sc HF.out);have c7:n*n<=1024:=AK (Dl h32 h32) (by decide);have c8:=Dl c7 m1;unfold Ga;exact AK (Nat.add_le_add c8 m2) (by decide)
  have c9:=AB (show Ga u n=Ga u n from rfl);generalize ce:Ga u n=most at *;have da:=AB ce;clear ce c9 cb;have LG:=(AH W.heap.size W).alloc (AD _) (.cells (Ls n (.slice M u.starts.length d1) (.slice N u.ends.length d2) (.slice O u.arcs.length d3) LA most bs) 105)
  have bm:TgW E (W.alloc (.cells (Ls n (.slice M u.starts.length d1) (.slice N u.ends.length d2) (.slice O u.arcs.length d3) LA most bs) 105)) W.heap.size bs LA n most (.slice M u.starts.length d1) (.slice N u.ends.length d2) (.slice O u.arcs.length d3) (List.replicate n Bf) (Iq u.arcs 0):={
   box:=BL.new W _ _
   seen:=b.same ⟨LG.os,LG.tape,LG.output,LG.size,fun k L _=>LG.block k L⟩
   gA:=J8 (BQ bk LG) (fun _=>rfl)
   lG:=ba
   lM:=gM
   bel:=bb.trans (LG.mono ba) }
  have k3:=(P.below bm.bel P.lt).cell 3;have bc:=AB bm;clear bk LG bj bb bm a1 a2 a3 a4 cc b cd;simp only[Act.put];go_wp2;refine Be ?_;generalize W.alloc (.cells (Ls n (.slice M u.starts.length d1) (.slice N u.ends.length d2) (.slice O u.arcs.length d3) LA most bs) 105)=W5 at *;generalize W.heap.size=G at *;generalize cf:u.arcs.length=na at *;have bn:=AB cf;clear cf;have dv:na<=16384:=by have:=HF.out.many;rw[bn.out]at this;exact this
  go_wp2;clear k3;go_loopw [31] (fun i wr=>∃(k:Nat) (vA:List Value),k<=na/\i=.int .i64 ((k:Nat):Int)/\TgW E wr G bs LA n most (.slice M u.starts.length d1) (.slice N u.ends.length d2) (.slice O na d3) vA (Iq u.arcs k)) (fun i _=>na-(intOf i).toNat)
  case atStart=>exact⟨0,_,AN _,rfl,bc.out⟩
  case round=>
   clear bc;obtain⟨k,vA,L,rfl,HO⟩:=hrel;by_cases db:k<na
   .have dw:(0:Int)<=(k:Int):=by omega
    have dx:(k:Int)<(na:Int):=by omega
    obtain⟨g3,o3,rfl,dy,a0,a1,a2,a3,a4,a5,a6,a7⟩:=Di (U3.below (HO.bel.mono (by omega))) k db;have cg:k<u.arcs.length:=by have:=bn.out;omega
    have hx:=HF.out.arcs _ (getD_in u.arcs Cq k cg);obtain⟨s,hs⟩:∃s:Nat,(u.arcs.getD k Cq).fr=(s:Int):=⟨_,(AT hx.1).symm⟩
    have b:s<n:=by omega
    have bo:=AB (fun z=>U6 u.arcs k z cg);have bp:(Iq u.arcs k s).length<=16384:=AK (Ns u.arcs k s) (by omega);clear hx;generalize Iq u.arcs k=rows at *;generalize u.arcs.getD k Cq=x at *;obtain⟨fr,tt,⟨l,o,y,A⟩,q,cp⟩:=x;simp only at hs a0 a1 a2 a3 a4 a5 a6 a7;subst hs;have dz:(0:Int)<=(s:Int):=by omega
    have d0:(s:Int)<(n:Int):=by omega
    have ah:=HO.call ((AH wr.heap.size wr).alloc (AD _) (.cells #[.int .i64 (s:Int),.int .i64 tt,.int .u64 l,.int .u64 o,.int .u64 y,.int .u64 A,.string q,.bool cp] 61));have HG:=BL.new wr 61 #[.int .i64 (s:Int),.int .i64 tt,.int .u64 l,.int .u64 o,.int .u64 y,.int .u64 A,.string q,.bool cp];have dt:=HO.bel.size;have bd:=fun g (e:(vA.getD s Bf).ownBlock=some g)=>(own_lt (HO.gA.row s b) g e).2
    clear HO;go_wp2;clear a0 a1 a2 a3 a4 a5 a6 a7;generalize dc:wr.heap.size=gx at *;have dd:(wr.alloc (.cells #[.int .i64 (s:Int),.int .i64 tt,.int .u64 l,.int .u64 o,.int .u64 y,.int .u64 A,.string q,.bool cp] 61)).heap.size=gx+1:=by rw[Ad,dc]
    generalize (wr.alloc (.cells #[.int .i64 (s:Int),.int .i64 tt,.int .u64 l,.int .u64 o,.int .u64 y,.int .u64 A,.string q,.bool cp] 61))=wa at *;have ch:=ah.gA.row s b;obtain⟨Av,cv,hv,d4,d5,d6⟩:=BH ch;have bq:=CM ah.gA.own s b Bf;rw[hv]at bq;obtain⟨S,aa⟩:∃S:World->Prop,S=fun W=>BL W gx 61 #[.int .i64 (s:Int),.int .i64 tt,.int .u64 l,.int .u64 o,.int .u64 y,.int .u64 A,.string q,.bool cp]/\BL W G 105 (Ls n (.slice M u.starts.length d1) (.slice N u.ends.length d2) (.slice (some ⟨g3,o3,none⟩) na d3) LA most bs)/\W.cell? ⟨LA,s,none⟩=some (.slice Av (rows s).length cv):=⟨_,rfl⟩
    have az:=fun W h1 h2 h3=>show S W by rw[aa];exact⟨h1,h2,h3⟩
    have H:=fun W (h:S W)=>show BL W gx 61 #[.int .i64 (s:Int),.int .i64 tt,.int .u64 l,.int .u64 o,.int .u64 y,.int .u64 A,.string q,.bool cp]/\BL W G 105 (Ls n (.slice M u.starts.length d1) (.slice N u.ends.length d2) (.slice (some ⟨g3,o3,none⟩) na d3) LA most bs)/\W.cell? ⟨LA,s,none⟩=some (.slice Av (rows s).length cv)by rw[aa]at h;exact h
    have z0:=fun p:Cr S=>(H p.w p.2).1.cell 0
    have z1:=fun p:Cr S=>(H p.w p.2).1.cell 1
    have z2:=fun p:Cr S=>(H p.w p.2).1.cell 2
    have z3:=fun p:Cr S=>(H p.w p.2).1.cell 3
    have z4:=fun p:Cr S=>(H p.w p.2).1.cell 4
    have z5:=fun p:Cr S=>(H p.w p.2).1.cell 5
    have z6:=fun p:Cr S=>(H p.w p.2).1.cell 6
    have z7:=fun p:Cr S=>(H p.w p.2).1.cell 7
    have zG:=fun p:Cr S=>(H p.w p.2).2.1.cell 4
    have zL:=fun p:Cr S=>(H p.w p.2).2.2
    have br:S wa.drew:=az _ HG ah.box bq;clear aa;have d7:Nonempty (Cr S):=⟨⟨_,br⟩⟩;go_wp2;refine Cs S 17 [0,1,2,3,4,5,6,7,8,9,10,11,12,13,14] [15,16] (by kernel_rfl) (by kernel_rfl) rfl (by kernel_rfl) br ?_;simp only[CV,A_,BA,Az,BI]
    repeat (go_big_quiet_step (fail))
    refine Ah ?_;clear z0 z1 z2 z3 z4 z5 z6 z7 zL zG;refine BU rfl (fun KK ai=>?_);go_simp;have bt:Below wa.heap.size wa (wa.drew.alloc (.cells #[.int .i64 (s:Int),.int .i64 tt,.int .u64 l,.int .u64 o,.int .u64 y,.int .u64 A,.string q,.bool cp] 61)):=(AH _ wa).drew.alloc (AD _) _;have bu:=HG.below bt (by omega);have C:=ah.call bt;have aj:=CM C.gA.own s b Bf;rw[hv]at aj;refine ai _ _ (EW.of (az _ bu C.box aj)) ?_;clear ai KK;have ae:=Bg wa.drew [.int .i64 (s:Int),.int .i64 tt,.int .u64 l,.int .u64 o,.int .u64 y,.int .u64 A,.string q,.bool cp] 61 8 1 rfl;rw[show wa.drew.heap.size=gx+1 from dd]at ae;have ab:=C.gA.row s b;rw[hv]at ab;have ci:=ID ⟨(s:Int),tt,⟨l,o,y,A⟩,q,cp⟩;have h63:(rows s).length+1<=maxLen:=by unfold maxLen;omega
    have de:((rows s).length+1)*72<=140737488355328:=by omega
    have df:E.heap.size<=(wa.drew.alloc (.cells #[.int .i64 (s:Int),.int .i64 tt,.int .u64 l,.int .u64 o,.int .u64 y,.int .u64 A,.string q,.bool cp] 61)).heap.size:=C.bel.size;obtain⟨ia,dg,cj,ck,cl⟩:=BK Ig;refine BU rfl (fun KK ai=>?_);refine DL _ _ _ 30 rfl E.heap.size 61 ia _ 8 72 Tryz.underlying30 dg cj ck cl rfl (by decide) _ _ _ rfl ab _ (some ⟨gx+1,0,none⟩) 1 1 [.int .i64 (s:Int),.int .i64 tt,.int .u64 l,.int .u64 o,.int .u64 y,.int .u64 A,.string q,.bool cp] rfl ae ci h63 de df ?_;intro v' w5 ak ac be;have c:=ac;rw[<-hv]at c;have HW:=C.putA s b ⟨(s:Int),tt,⟨l,o,y,A⟩,q,cp⟩ c ak (by rw[hv];exact be);have k5:=C.gA.own.kept c (BG C.gA.own (C.gA.row s b) (by decide)).or_none;have al:=CM k5 s b Bf;have cm:=Df k5 s;rw[hv]at al;have cn:=BM bu ac (fun e=>by have:=bd gx (by rw[hv];exact e);omega);have co:=BM C.box c (AV (C.gA.row s b) C.box (by decide));refine ai _ _ (EW.of (az _ cn co al)) ?_;clear ai KK;obtain⟨dh,dl,rfl,_,_,_⟩:=BH ak;clear ak ac c be ae ab bu cn HG C ah az H br k5 bt bq aj co bd;refine Cc ?_;go_wp2;refine Be ?_;clear al cm;go_wp2;go_roundw
    case rel=>
     refine⟨k+1,vA.set s (.slice dh ((rows s).length+1) dl),by omega,by go_num,?_⟩
     have e:Iq u.arcs (k+1)=fun z=>if z=s then rows s++[(⟨(s:Int),tt,⟨l,o,y,A⟩,q,cp⟩:Ar)]else rows z:=by
      funext z;rw[bo.out z];by_cases hu:z=s
      .subst hu;rw[AU rfl,AU rfl]
      .rw [AP (show ¬((z:Int)=(s:Int))by omega),AP hu]
     rw[e];exact HW
    case measure=>simp[intOf];omega
   .obtain rfl:na=k:=by omega
    have am:TgW E wr G bs LA n most (.slice M u.starts.length d1) (.slice N u.ends.length d2) (.slice O na d3) vA (I_ u):=by have:=HO;rw[show Iq u.arcs na=I_ u by unfold I_;rw[bn.out]]at this;exact this
    have cq:=am.wk rfl U1 (AD _);have cr:=ax.out.trans (am.bel.mono ax.out.size);have b:=am.seen;have bf:w.heap.size<=bs:=AK ax.out.size am.lM;have cs:=b.lt;have Q:=AB (AI cq (AI cr (AI b (AI bf cs))));clear HO am cq cr b P;have hf:=WT G wr
    go_wp2_with fail
    refine hf.mono ?_;rintro e w5 ⟨rfl,a,b5⟩;have an:=a.size;have d:=(Q.out.1.kept (fun k L=>a.block k L.1)).more an;have T:Ed w5 bs []:=Q.out.2.2.1.same ⟨a.os,a.tape,a.output,a.size,fun k L _=>a.block k L⟩;have U:=Q.out.2.1.trans (a.mono Q.out.2.1.size);have V:bs<w5.heap.size:=by omega
    have ao:OW w5.heap.size bs wr.heap.size:=⟨b5.lt,by omega⟩
    have ap:=U7 u n most 1024 bs G LA u.starts.length d1 76 1048576 #[.pointer (some ⟨wr.heap.size,0,none⟩)] M (.slice N u.ends.length d2) (.slice O na d3) [] w5 h32 (by decide) (by omega) d V T (AN _) (FY Tryz.func76 (by kernel_rfl) rfl)
     (fun W hW hz bv=>Yj w5.heap.size bs G n LA most u.starts.length d1 wr.heap.size M (.slice N u.ends.length d2) (.slice O na d3) u HF.out c4 W hz bv (d.kept (fun k L=>hW.block k L.1)) (b5.below hW b5.lt) ao)
    have aq:=AB ap;have H5:=AB (AI d (AI U (AI bf V)));clear ap d U T a b5 hf Q ao an
    go_wp2_with fail
    refine aq.out.mono ?_;rintro e w6 ⟨v,R,af,X,rfl,ar,au,Y,I,Z⟩;have D:=AB (TnW.took (K:=1024) H5.out.2.1 H5.out.2.2 H5.out.1 ar au Y I Z);clear aq ar au Y I Z H5;go_wp2;go_loopw [8,9,10] (fun v f m wr=>∃(S R:List Lg) (af X:Bool) (B0:Nat),f=.bool af/\m=.bool X/\TnW u n G bs LA most M u.starts.length d1 (.slice N u.ends.length d2) (.slice O na d3) w B0 S R af v wr) (fun v f _ wr=>WV v f (seenLen wr bs))
    case atStart=>exact⟨_,R,af,X,_,rfl,rfl,D.out⟩
    case round=>
     clear D;obtain⟨S,R,af,X,B0,rfl,rfl,ct⟩:=hrel;have D:=AB ct;clear ct;rcases af with _|_
     .rcases X with _|_
      .obtain ⟨ho,hs,hg,hS,dm⟩:=D.out.own rfl
       obtain⟨AR,cR,rfl,_,_,_⟩:=BH ho;by_cases h0:R.length=0
       .have hR:=BD h0;subst hR;have ad:=AB (show RD t w (.returned (.tuple #[.bool true,.int .i64 0])) wr from⟨D.out.bel,true,0,rfl,.inl rfl⟩);clear ho hs hg dm h0;go_wp2;exact AQ (v:=.tuple #[.bool true,.int .i64 0]) (by simp[results,Tryz.results17,go_sem]) rfl ad.out
       .have cu:=Yi G AR R.length cR wr
        have ae:DP (OW wr.heap.size bs) wr 4 AR R.length (B_ Fm R):=DP.of_own ho fun g hg=>⟨(own_lt ho g hg).2,fun e=>hs.ne ho (by rw[<-e];exact hg)⟩
        have dn:=D.out.hb;have d8:¬((R.length:Int)=0):=by omega
        have HG:=AB hg;have dp:=AB (RC hs);have HS:=AB hs;have cw:R.length<=2048:=by omega
        clear ho hg hs;generalize bp:R.length=rl at *;have bw:=AB bp;clear bp
        go_wp2_with fail
        refine cu.mono ?_;rintro e w5 ⟨rfl,a,b5,bx⟩;have an:=a.size;have d:=(D.out.wk.kept (fun k L=>a.block k L.1)).more an;have T:Ed w5 bs S:=HS.out.same ⟨a.os,a.tape,a.output,a.size,fun k L _=>a.block k L⟩;have U:=D.out.bel.trans (a.mono D.out.bel.size);have V:bs<w5.heap.size:=by omega
        have ao:OW w5.heap.size bs wr.heap.size:=⟨b5.lt,by omega⟩;have bg:OW w5.heap.size bs (wr.heap.size+1):=⟨bx.lt,by omega⟩;have bh:DP (OW w5.heap.size bs) w5 4 AR R.length (B_ Fm R):=by rw[bw.out];exact(ae.kept (fun k L=>a.block k L.1)).mono fun k L=>⟨by have:=L.1;omega,L.2⟩
        have av:BL w5 (wr.heap.size+1) 106 #[.slice AR R.length cR]:=by rw[bw.out];exact bx
        have ap:=U7 u n most (most+1025) bs G LA u.starts.length d1 78 140737488355328 #[.pointer (some ⟨wr.heap.size+1,0,none⟩),.pointer (some ⟨wr.heap.size,0,none⟩)] M (.slice N u.ends.length d2) (.slice O na d3) S w5 h32 (by omega) (by omega) d V T hS (FY Tryz.func78 (by kernel_rfl) rfl)
         (fun W hW hz bv=>X0K w5.heap.size bs G n LA most u.starts.length d1 wr.heap.size (wr.heap.size+1) most M (.slice N u.ends.length d2) (.slice O na d3) u HF.out bl R HG.out (by rw[bw.out];exact cw) AR cR W hz bv (d.kept (fun k L=>hW.block k L.1)) (b5.below hW b5.lt) ao (av.below hW av.lt) bg (bh.kept (fun k L=>hW.block k L.1)))
        have aq:=AB ap;have H5:=AB (AI d (AI U (AI dn.1 V)));clear ap d U T a b5 bx av ae bh cu ao bg an
        go_wp2_with fail
        refine aq.out.mono ?_;rintro e w6 ⟨v',R',aw,bz,rfl,ar,au,Y,I,Z⟩;have cx:=AB (TnW.took (K:=most+1025) H5.out.2.1 H5.out.2.2 H5.out.1 ar au Y I Z)
        have cy:WV v' (.bool aw) (seenLen w6 bs)<WV (.slice AR rl cR) (.bool false) (seenLen wr bs):=by
         rcases aw with _|_
         .obtain ⟨dq,dr,_,cz,_⟩:=cx.out.own rfl;obtain⟨A',c',rfl,_,_,_⟩:=BH dq;rw[RC dr,dp.out,AJ];rw[AJ]at cz;exact X1G _ _ _ _ _ _ _ (by omega) cz
         .exact X0L _ _ _ _
        have ds:=AB cy;clear aq ar au Y I Z H5 cy;go_wp2;go_roundw
        case rel=>exact⟨_,R',aw,bz,_,rfl,rfl,cx.out⟩
        case measure=>exact ds.out
      .have ad:=AB (show RD t w (.returned (.tuple #[.bool false,.int .i64 2])) wr from⟨D.out.bel,false,2,rfl,.inr (.inl rfl)⟩);go_wp2;exact AQ (v:=.tuple #[.bool false,.int .i64 2]) (by simp[results,Tryz.results17,go_sem]) rfl ad.out
     .have ad:=AB (show RD t w (.returned (.tuple #[.bool false,.int .i64 0])) wr from⟨D.out.bel,false,0,rfl,by
        obtain⟨x,hx,hl⟩:=D.out.fr rfl;exact .inr (.inr (.inr ⟨u,f,n,b7.out.1,b7.out.2,x.p,x.q,_,_,hx,by rw[CK,CK,da.out];exact hl⟩))⟩)
      go_wp2;exact AQ (v:=.tuple #[.bool false,.int .i64 0]) (by simp[results,Tryz.results17,go_sem]) rfl ad.out
 .have ad:=AB (show RD t w (.returned (.tuple #[.bool false,.int .i64 r])) E from⟨ax.out,false,r,rfl,.inr (by
    rcases b6.out with h|h|h
    .exact absurd h hr
    .exact .inl h
    .exact .inr (.inl h))⟩)
  go_wp2;exact AQ (v:=.tuple #[.bool false,.int .i64 r]) (by simp[results,Tryz.results17,go_sem]) rfl ad.out
end
section
open Go.RowKit Go.Sort
theorem Sh {t u v:Fs} {f g:Int->Int} (a:FR t) (h:Trims t u f) (k:Trims t v g) (e:KH u):KH v:=by obtain⟨w,b,c,d,h1,h2⟩:=e;exact⟨w,b,c,d,(k.rel a w b).2 ((h.rel a w b).1 h1),(k.rel a w c).2 ((h.rel a w c).1 h2)⟩
def Tf (t:Fs) (most k:Int):Prop:=(¬(Dq t=true/\1<=most/\most<=1024)->k=1)/\(Dq t=true->1<=most->most<=1024->∃u f,Trims t u f/\Dq u=true/\((∃m,IC u most.toNat=.ok m/\k=0)\/IC u most.toNat=.error k))
def XI (t:Fs) (b:Bool):Prop:=Dq t=true/\∃u f,Trims t u f/\Dq u=true/\(b=false->KH u)/\(b=true->Qw u)
def U9 (t:Fs) (b:Bool) (k:Int):Prop:=b=true\/k=2\/Dq t=false\/∃u f n,Trims t u f/\u.n=((n:Nat):Int)/\∃p q a b',Ep u p q a b'/\(Ga u n<a.length\/Ga u n<b'.length)
theorem Yl {t:Fs} {most k:Int} {q:SeqM} (h:(¬(Dq t=true/\1<=most/\most<=1024)->k=1) /\(Dq t=true->1<=most->most<=1024->∃u f,Trims t u f/\Dq u=true/\match IC u most.toNat with
     | .error e=>k=e
     | .ok q'=>k=0/\q=q')):Tf t most k:=by
 refine⟨h.1,fun h1 h2 h3=>?_⟩;obtain⟨u,f,c,d,a⟩:=h.2 h1 h2 h3;refine⟨u,f,c,d,?_⟩;cases b:IC u most.toNat with
 | error e=>rw[b]at a;exact .inr (by rw[show k=e from a])
 | ok m=>rw[b]at a;exact .inl ⟨m,rfl,a.1⟩
theorem OT {t:Fs} {most k:Int} (h:Tf t most k) (b:k≠1):Dq t=true/\∃u f,Trims t u f/\((∃m,IC u most.toNat=.ok m/\k=0)\/IC u most.toNat=.error k):=by
 by_cases a:Dq t=true/\1<=most/\most<=1024
 .obtain ⟨u,f,c,_,h2⟩:=h.2 a.1 a.2.1 a.2.2;exact⟨a.1,u,f,c,h2⟩
 .exact absurd (h.1 a) b
theorem Ym {t:Fs} {most k:Int} {b:Bool} (h:Tf t most k) (n:k≠1) (h1:XI t b):¬(b=true/\k=12)/\¬(b=false/\k=0):=by
 obtain⟨o,u,f,c,a⟩:=OT h n;obtain⟨_,v,g,j,_,p,q⟩:=h1;have d:=Jv o;constructor
 .rintro ⟨rfl,rfl⟩
  rcases a with⟨m,_,e⟩|a
  .cases e
  .rcases Ny (c.right d) (c.useful d) a with e|⟨_,e⟩
   .cases e
   .exact TT (q rfl) (Sh d c j e)
 .rintro ⟨rfl,rfl⟩
  rcases a with⟨m,a,_⟩|a
  .obtain ⟨w,r,s,i,h1,h2⟩:=Sh d j c (p rfl);have x:=(P9 (c.right d) a w r).2 h1;have l:=(P9 (c.right d) a w s).2 h2;rw[x]at l;exact i (AL l)
  .rcases Ny (c.right d) (c.useful d) a with e|⟨e,_⟩<;>cases e
theorem Yn {t:Fs} {most k l:Int} {b:Bool} (h:Tf t most k) (x:k=0) (h3:U9 t b l):b=true\/l=2:=by
 obtain⟨o,u,f,d,c⟩:=OT h (by omega);have i:=Jv o;rcases h3 with h3|h3|h3|⟨v,g,n,r,s,p,q,a,y,w,j⟩
 .exact .inl h3
 .exact .inr h3
 .rw [o]at h3;cases h3
 .exfalso
  rcases c with⟨m,c,_⟩|c
  .have:=Ye i d r c s w;omega
  .rcases Ny (d.right i) (d.useful i) c with e|⟨e,_⟩<;>omega
theorem Yo (t:Fs) (v:Value) (most:Int) (w:World) (HS:EK w w.heap.size t v) (ap:-9223372036854775808<=most/\most<=9223372036854775807) (hP:Pow w w.heap.size/\NT w) :Calls Tryz.prog 5 #[v,.int .i64 most] w (C7 (.bool true) w):=by
 have o:=AB (fun W (a:Below w.heap.size w W)=>(HS.below a).more a.size);have F:=AB (fun W (a:Below w.heap.size w W)=>(hP.1.below a).mono a.size);have T:Hid (∀W,Below w.heap.size w W->NT W):=AB (fun W (a:Below w.heap.size w W)=>fun j hj=>by rw[a.cell (GP (hP.2 j hj))];exact hP.2 j hj);have U:=AB (fun W (a:Below w.heap.size w W)=>YM t _ W.heap.size W (o.out W a) (AD _));have V:=AB (fun W (a:Below w.heap.size w W)=>SM t _ W.heap.size most W (o.out W a) (AD _) (F.out W a) ap);have X:=AB (fun W (a:Below w.heap.size w W)=>WS t _ W.heap.size W (o.out W a) (AD _));have Y:=AB (fun W (a:Below w.heap.size w W)=>X0w t _ W.heap.size W (o.out W a) (AD _) (fun W' aq=>T.out W' (a.trans (aq.mono a.size))));have G:=AB (fun W (a:Below w.heap.size w W)=>X0M t _ W.heap.size W (o.out W a) (AD _));have D:=AB (fun W (a:Below w.heap.size w W)=>Zz W (F.out W a));have Q:=AB (fun(W:World) (a:Below w.heap.size w W)=>show C7 (.bool true) w (.returned (.bool true)) W from⟨rfl,a⟩);obtain⟨A1,c1,A2,c2,A3,c3,rfl,_⟩:=HS;clear hP o F T;generalize t.n=tn at *;generalize t.starts.length=ts at *;generalize t.ends.length=te at *;generalize t.arcs.length=ta at *;have B0:=(AH w.heap.size w).alloc (AD _) (.cells #[.int .i64 tn,.slice A1 ts c1,.slice A2 te c2,.slice A3 ta c3] 32);have H:=BL.new w 32 #[.int .i64 tn,.slice A1 ts c1,.slice A2 te c2,.slice A3 ta c3];have u:=H.cell 0;have x:=H.cell 1;have y:=H.cell 2;have z:=H.cell 3;go_enter Tryz.func5,Tryz.ntmps5
 go_wp2_with fail
 clear u x y z;generalize w.alloc (.cells #[.int .i64 tn,.slice A1 ts c1,.slice A2 te c2,.slice A3 ta c3] 32)=W0 at *;refine(U.out W0 B0).mono ?_;rintro e w1 ⟨s,rfl,I,_⟩;have J:=H.below I H.lt;have R:=B0.trans (I.mono B0.size);clear B0 H I U;rcases s with _|_
 .have l:=AB (Q.out _ R);go_wp2;exact AQ (v:=.bool true) (by simp[results,Tryz.results5,go_sem]) rfl l.out
 by_cases d:(40:Int)<most
 .have l:=AB (Q.out _ R);go_wp2;exact AQ (v:=.bool true) (by simp[results,Tryz.results5,go_sem]) rfl l.out
 have u:=J.cell 0;have x:=J.cell 1;have y:=J.cell 2;have z:=J.cell 3
 go_wp2_with fail
 clear u x y z;refine(V.out w1 R).mono ?_;rintro e w2 ⟨K,vq,q,k,rfl,hq,_,Z,aa⟩;have ab:=AB (Yl ⟨Z,aa⟩);have K2:=J.below K J.lt;have B2:=R.trans (K.mono R.size);obtain⟨ac,ad,ae,af,ag,ah,ai,aj,rfl,_⟩:=hq.at_;generalize q.front=ak at *;generalize q.next.length=al at *;generalize q.outs.length=am at *;generalize q.ends.length=an at *;generalize q.tail.length=ao at *;have L2:=(AH w2.heap.size w2).alloc (AD _) (.cells #[.string ak,.slice ac al ad,.slice ae am af,.slice ag an ah,.slice ai ao aj] 27);have L:=K2.below L2 K2.lt;have B3:=B2.trans (L2.mono B2.size);clear J R K hq Z aa K2 B2 L2 V;have u:=L.cell 0;have x:=L.cell 1;have y:=L.cell 2;have z:=L.cell 3
 go_wp2_with fail
 clear u x y z;generalize w2.alloc (.cells #[.string ak,.slice ac al ad,.slice ae am af,.slice ag an ah,.slice ai ao aj] 27)=W3 at *;refine(X.out W3 B3).mono ?_;rintro e w4 ⟨M,nb,kf,rfl⟩;have N:=L.below M L.lt;have B4:=B3.trans (M.mono B3.size);clear L B3 M X;have u:=N.cell 0;have x:=N.cell 1;have y:=N.cell 2;have z:=N.cell 3
 go_wp2_with fail
 clear u x y z;refine(Y.out w4 B4).mono ?_;rintro e S ⟨O,ok,kg,rfl,E⟩;have ar:=AB (show kg=0->XI t ok from E);have P:=N.below O N.lt;have f:=B4.trans (O.mono B4.size);clear N B4 O Y E;have g:=AB (D.out S f);have i:=AB (fun W (a:Below S.heap.size S W)=>Q.out W (f.trans (a.mono f.size)));by_cases d1:k=1
 .go_wp2_with fail
  refine g.out.mono ?_;rintro e p ⟨rfl,c⟩;have l:=AB (i.out p c);go_wp2;exact AQ (v:=.bool true) (by simp[results,Tryz.results5,go_sem]) rfl l.out
 by_cases d2:kf=0
 .by_cases d3:kg=0
  .by_cases d4:(200:Int)<nb
   .go_wp2_with fail
    refine g.out.mono ?_;rintro e p ⟨rfl,c⟩;have l:=AB (i.out p c);go_wp2;exact AQ (v:=.bool true) (by simp[results,Tryz.results5,go_sem]) rfl l.out
   .have A:=Ym ab.out d1 (ar.out d3)
    clear g i;have u:=P.cell 0;have x:=P.cell 1;have y:=P.cell 2;have z:=P.cell 3;by_cases d6:k=0
    .subst d6
     rcases ok with _|_
     .exact absurd ⟨rfl,rfl⟩ A.2
     clear A
     go_wp2_with fail
     clear u x y z;refine(G.out S f).mono ?_;rintro e B ⟨b,m,kt,rfl,r⟩;have C:=Yn ab.out rfl (show U9 t m kt from r);have g:=AB (D.out B (f.trans (b.mono f.size)));have i:=AB (fun W (a:Below B.heap.size B W)=>Q.out W ((f.trans (b.mono f.size)).trans (a.mono (AK f.size b.size))));clear r b P f
     go_wp2_with fail
     refine g.out.mono ?_;rintro e p ⟨rfl,c⟩;have l:=AB (i.out p c);rcases m with _|_
     .obtain rfl:kt=2:=by rcases C with h|h;cases h;exact h
      clear C
      go_wp2_with fail
      exact AQ (v:=.bool true) (by simp[results,Tryz.results5,go_sem]) rfl l.out
     .go_wp2_with fail
      exact AQ (v:=.bool true) (by simp[results,Tryz.results5,go_sem]) rfl l.out
    have d7:(k==0)=false:=by simp[d6]
    have d8:(k==1)=false:=by simp[d1]
    rcases ok with _|_
    .clear A
     go_wp2_with fail
     clear u x y z;refine(G.out S f).mono ?_;rintro e B ⟨b,m,kt,rfl,r⟩
     skip
     have g:=AB (D.out B (f.trans (b.mono f.size)));have i:=AB (fun W (a:Below B.heap.size B W)=>Q.out W ((f.trans (b.mono f.size)).trans (a.mono (AK f.size b.size))));clear r b P f
     go_wp2_with fail
     refine g.out.mono ?_;rintro e p ⟨rfl,c⟩;have l:=AB (i.out p c)
     go_wp2_with fail
     exact AQ (v:=.bool true) (by simp[results,Tryz.results5,go_sem]) rfl l.out
    .have d9:(k==12)=false:=by
       have:k≠12:=fun e=>A.1 ⟨rfl,e⟩
       simp[this]
     clear A
     go_wp2_with fail
     clear u x y z;refine(G.out S f).mono ?_;rintro e B ⟨b,m,kt,rfl,r⟩
     skip
     have g:=AB (D.out B (f.trans (b.mono f.size)));have i:=AB (fun W (a:Below B.heap.size B W)=>Q.out W ((f.trans (b.mono f.size)).trans (a.mono (AK f.size b.size))));clear r b P f
     go_wp2_with fail
     refine g.out.mono ?_;rintro e p ⟨rfl,c⟩;have l:=AB (i.out p c)
     go_wp2_with fail
     exact AQ (v:=.bool true) (by simp[results,Tryz.results5,go_sem]) rfl l.out
  .go_wp2_with fail
   refine g.out.mono ?_;rintro e p ⟨rfl,c⟩;have l:=AB (i.out p c);go_wp2;exact AQ (v:=.bool true) (by simp[results,Tryz.results5,go_sem]) rfl l.out
 .go_wp2_with fail
  refine g.out.mono ?_;rintro e p ⟨rfl,c⟩;have l:=AB (i.out p c);go_wp2;exact AQ (v:=.bool true) (by simp[results,Tryz.results5,go_sem]) rfl l.out
end
end Go.Proofs.YtcondkihpmmnnaaGreatDoor
namespace Go.Proofs.YtcondkihpmmnnaaGreatDoor.TopTwin
open Go.ChangeShapes Go.WideShapes Go.ChangeAt Go.RowKit
open Go.ChangeMaps (open_string shut_string)
theorem lifted (os:Os) (started:os.Started) (H:Type) (enc:TypeId×Value->H) :ReturnsInHanded {} Tryz.checked os 5 .any (fun w args=>(Rows.topTwinSpec.pre enc Tryz.prog Tryz.f5 [] false w args/\laidMetH Tryz.prog PK w)/\sizedMet enc Tryz.prog Tryz.f5 (OpenSpec.ofChange Rows.topTwinSpec) false w args) (Rows.topTwinSpec.post enc Tryz.prog Tryz.f5 false true false false):=by
 refine PW (tb:=4) started (by kernel_rfl) Tryz.func5 rfl ?_ rfl Tryz.underlying4 (by kernel_rfl)
  (ChangeSpec.witness_shaped (enc:=enc) (C:=Tryz.checked) (os:=os) (X:=fun w _=>laidMetH Tryz.prog PK w) false (World.doorLaid Tryz.prog 14 os) #[.agg #[.int .i64 0,.slice none 0 0,.slice none 0 0,.slice none 0 0],.int .i64 0] 8 rfl (World.shaped_of_RefB (by kernel_rfl) (by kernel_rfl)) (by kernel_rfl) (by kernel_rfl) (by kernel_rfl) (X0O os _)) ?_
 .intro ds l
  match ds,l with
  | [_,_],_=>rfl
 intro W base args ds before b hA0 e c d;have a:∀(j:Nat) t v,Tryz.f5.params[j]?=some t->args[j]?=some v->Value.okWide Tryz.prog W .any base t v:=b
 have i:DataW.TrodAll enc Tryz.prog W 0 (fun _=>true) true Tryz.f5.params.toList args.toList ds before:=hA0;have f:(DataW.weightsEach Tryz.prog Tryz.f5.params.toList ds).all (·<=reachBytes)=true:=c;rw[Tryz.params5]at i a f;obtain⟨v0,m,d0,n,B,D,g,rfl,rfl,h0,o⟩:=trodAll_cons i;obtain⟨k,p,d1,q,E,q1,rfl,rfl,rfl,h1,r⟩:=trodAll_cons o;obtain⟨rfl,rfl,rfl⟩:=trodAll_nil r;obtain rfl:args=#[v0,k]:=by cases args;simp_all
 obtain⟨s,u⟩:=X0S (a 0 32 v0 rfl rfl) h0 (fun x y=>e x (by simp[y]));obtain⟨z,rfl,rfl,rfl,A⟩:=open_int Tryz.underlying3 (a 1 3 k rfl rfl) h1;exact Yo s v0 z W u (bounds_i64 A) d
theorem proved:Rows.TopTwinSaid:=
 OpenClaim.holds_of_wide 5 Tryz.f5 rfl rfl rfl rfl rfl rfl rfl ⟨rfl,rfl,rfl,rfl,rfl⟩ rfl rfl rfl rfl rfl (by kernel_rfl) Tryz.func5 (by kernel_rfl)
  (of_decide_eq_true (by kernel_rfl)) (by unfold Func.isWrapper;first|(rw[AU (by decide +kernel)];kernel_rfl)|(rw[AP (by decide +kernel)];exact⟨rfl,rfl⟩))
  (fun os started H enc _=>lifted os started H enc)
theorem card_holds:Rows.TopTwinCardSaid:=
 Claim7.holds_tied_plain_at .later [] [.data,.data,.data] true (true,"4ff8601192a1eb7c5d33e08d581ce744d95b93651d2c8e99f0954c8a855d605d") true
  proved (fun _ h=>by cases h) (by kernel_rfl) (fun _ h=>by cases h) topTwin_row_tie rfl ⟨rfl,rfl⟩ (by kernel_rfl) rfl
  (fun f fn d b=>by
   obtain rfl:f=5:=AL ((show Tryz.prog.funcNamed "whittle/whittletop.TopTwin"=some 5 by kernel_rfl).symm.trans d) |>.symm
   obtain rfl:fn=Tryz.f5:=(AL (Tryz.func5.symm.trans b)).symm
   exact⟨by kernel_rfl,fun j t c=>by
    rw[Tryz.params5]at c;have e:t∈[32,3]:=by simpa using Array.mem_of_getElem? c
    have a:([32,3].all fun u=>!Tryz.prog.wantsStandIn u)=true:=by kernel_rfl
    exact(show Tryz.prog.wantsStandIn t=false by simpa using CS.1 a t e)⟩)
  (by kernel_rfl)
#print axioms card_holds
end Go.Proofs.YtcondkihpmmnnaaGreatDoor.TopTwin
