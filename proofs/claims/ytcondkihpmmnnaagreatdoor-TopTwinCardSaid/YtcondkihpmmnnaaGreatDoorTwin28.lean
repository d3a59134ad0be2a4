/- Lemmas, part 28 of 50. No condition. -/
import Derived.Test.YtcondkihpmmnnaaGreatDoorTwin26
import Derived.BigRegion
import Derived.Laws.BytesArg
import Derived.Lib.AppendStr
set_option maxRecDepth 100000
set_option maxHeartbeats 16000000
namespace Go.Proofs.YtcondkihpmmnnaaGreatDoor
section
open Go.RowKit Go.Sort
section
variable {L:SrL} {u:Fs} {w:World} {hops:List Hop} {vR:Value} {row:List Bx} {place:List Int} {tx:ByteArray} {fd:Bool}
theorem Oo (h:SrV L u w hops vR row place tx fd) (p q:Int) (f:0<=p/\p<64) (o:0<=q/\q<64) (r:L.n<=64) :Calls Tryz.prog 125 #[.pointer (some ⟨L.G,0,none⟩),.agg #[.int .i64 p,.int .i64 q]] w (C7 (.int .i64 (p*L.n+q)) w):=by
 have c:=h.call ((AH w.heap.size w).alloc (AD _) (.cells #[.int .i64 p,.int .i64 q] 192));have K:=BL.new w 192 #[.int .i64 p,.int .i64 q];have e:=(AH w.heap.size w).alloc (AD _) (.cells #[.int .i64 p,.int .i64 q] 192);have a0:=AF (K.cell 0);have g:=AF (K.cell 1);have i:=AF (c.box.cell 0);have h1:0<=p*(L.n:Int):=GO f.1 (by omega);have h2:p*(L.n:Int)<=64*64:=Int.mul_le_mul (by omega) (by omega) (by omega) (by omega);have j:wrap64 (p*(L.n:Int))=p*L.n:=FH _ (by omega);have k:wrap64 (p*(L.n:Int)+q)=p*L.n+q:=FH _ (by omega);clear h1 h2;have l:=AB (fun(W:World) (c:Below w.heap.size w W)=>show C7 (.int .i64 (p*L.n+q)) w (.returned (.int .i64 (p*L.n+q))) W from⟨rfl,c⟩);clear h c K;go_enter Tryz.func125,Tryz.ntmps125;go_wp2;refine Au (by kernel_rfl) (by kernel_rfl) ?_
 repeat (go_big_quiet_step (fail))
 refine Ah ?_;intro m a;have b:=Bu a;have d:=AB (l.out m (e.trans (b.mono (by simp))));clear a0 g i a b e;go_wp2;exact AQ (v:=.int .i64 (p*L.n+q)) (by simp[results,Tryz.results125,go_sem,j,k]) rfl d.out
theorem X0h (h:SrV L u w hops vR row place tx fd) (t:ByteArray) :Calls Tryz.prog 127 #[.pointer (some ⟨L.G,0,none⟩),.string t] w (fun e w'=>e=.returned (.tuple #[])/\SrV L u w' hops vR row place t true/\SrStay L vR vR w w'):=by
 have g1:=h.gG;have g2:=h.gH;have g3:=h.gP;have f9:=h.box.frozen 9;have f10:=h.box.frozen 10;have j:=h.box.cell 9;have d:=h.box.cell 10
 have f:=AB (show SrV L u ((w.setCell ⟨L.G,9,none⟩ (.string t)).setCell ⟨L.G,10,none⟩ (.bool true)) hops vR row place t true/\SrStay L vR vR w ((w.setCell ⟨L.G,9,none⟩ (.string t)).setCell ⟨L.G,10,none⟩ (.bool true))from by
  have b:∀k,k≠L.G->((w.setCell ⟨L.G,9,none⟩ (.string t)).setCell ⟨L.G,10,none⟩ (.bool true)).heap[k]?=w.heap[k]?:=fun k b=>by rw[Am _ _ _ _ (show k≠L.G from b),Am _ _ _ _ (show k≠L.G from b)]
  have a:∀k,Fx L.K L.G L.H L.PL k->_:=fun k e=>b k e.2.1
  have c:=FI h.oR h.box (by decide)
  refine⟨{ h with
   box:=(h.box.set_ 9 _).set_ 10 _
   hb:=(h.hb.far (p:=⟨L.G,9,none⟩) (BL.ne_ h.hb h.box (by decide)) _).far (p:=⟨L.G,10,none⟩) (BL.ne_ h.hb h.box (by decide)) _
   pb:=(h.pb.far (p:=⟨L.G,9,none⟩) (BL.ne_ h.pb h.box (by decide)) _).far (p:=⟨L.G,10,none⟩) (BL.ne_ h.pb h.box (by decide)) _
   oR:=AO (AO h.oR (p:=⟨L.G,9,none⟩) c _) (p:=⟨L.G,10,none⟩) c _
   rdS:=h.rdS.kept a
   rdA:=h.rdA.kept a
   gA:=h.gA.kept a
   gE:=h.gE.kept a
   sz:=by simpa using h.sz },⟨((AH _ w).setCell (p:=⟨L.G,9,none⟩) g1.1 _).setCell (p:=⟨L.G,10,none⟩) g1.1 _,fun g _ i _ _=>b g i,fun _ e=>.inl e⟩⟩)
 clear h;go_enter Tryz.func127,Tryz.ntmps127;go_wp2;go_end0;exact⟨rfl,f.out⟩
end
end
section
open Go.RowKit Go.Sort
theorem WI:(Tryz.prog.info? 5).map (fun i=>(i.zero,i.size,i.bytes))=some (some (.int .u8 0),1,1):=by kernel_rfl
def Ut (w:World) (a:Addr):Int:=match w.cell? a with
 | some (.int _ z)=>z
 | _=>0
theorem Jn {w:World} {g:Nat} {T:TypeId} {a:Array Value} (h:BL w g T a) (i:Nat) (k:IntKind) (z:Int) (b:a[i]?=some (.int k z)):Ut w ⟨g,i,none⟩=z:=by unfold Ut;rw[h.cell,b]
def WJ (l:List Nat):List Value:=l.map fun b:Nat=>Value.int .u8 (b:Int)
theorem YV (l:List Nat) (h:∀b∈l,b<256):WJ l=(l.map Nat.toUInt8).map fun b:UInt8=>Value.int .u8 ((b.toNat:Nat):Int):=by unfold WJ;rw[Gc];apply Em;intro b a;have:=h b a;simp;omega
theorem X0k {w:World} {base:Nat} {v:Value} {l:List Nat} (h:w.ownsRow base 5 1 v l.length (WJ l)) (c:∀b∈l,b<256) :∃s:ByteArray,s.size=l.length/\(convert 81 9 v).run Tryz.prog w=.ok (.string s) w:=by
 have d:=YV l c;have a:(l.map Nat.toUInt8).length=l.length:=A6 _;rcases h.2 with⟨rfl,h0⟩|⟨g,cap,e,rfl,_⟩
 .exact ⟨ByteArray.empty,by rw[h0];rfl,run_convert_bytes_nil (w:=w) _ _ Tryz.underlying81 Tryz.underlying5 _ _ _ Tryz.underlying9⟩
 .refine ⟨⟨(l.map Nat.toUInt8).toArray⟩,by show(l.map Nat.toUInt8).toArray.size=_;rw[CJ,a],?_⟩;have:=Eh (P:=Tryz.prog) w 81 9 5 ⟨g,0,none⟩ cap (l.map Nat.toUInt8) Tryz.underlying81 Tryz.underlying5 Tryz.underlying9 (fun j f=>by refine h.cells (g:=g) rfl j _ ?_;rw[d,Ag,AG f];rfl);rw[a]at this;exact this
def Down (row:List Bx):Prop:=∀k,k<row.length->-1<=(row.getD k JZ).fr/\(row.getD k JZ).fr<k/\(row.getD k JZ).c<256
theorem X0l {g:Nat} {W:World} {T:TypeId} {b c d e f i:Value} (h:BL W g T #[b,c,d,e,f,i]) (v0 a v2 v3 v4 v5:Value) :BL ((((((W.setCell ⟨g,0,none⟩ v0).setCell ⟨g,1,none⟩ a).setCell ⟨g,2,none⟩ v2).setCell ⟨g,3,none⟩ v3).setCell ⟨g,4,none⟩ v4).setCell ⟨g,5,none⟩ v5) g T #[v0,a,v2,v3,v4,v5]:=(((((h.set_ 0 v0).set_ 1 a).set_ 2 v2).set_ 3 v3).set_ 4 v4).set_ 5 v5
theorem WK {B g:Nat} {w W:World} (h:Below B w W) (a:B<=g) (v0 b v2 v3 v4 v5:Value):Below B w ((((((W.setCell ⟨g,0,none⟩ v0).setCell ⟨g,1,none⟩ b).setCell ⟨g,2,none⟩ v2).setCell ⟨g,3,none⟩ v3).setCell ⟨g,4,none⟩ v4).setCell ⟨g,5,none⟩ v5):=(((((h.setCell (p:=⟨g,0,none⟩) a _).setCell (p:=⟨g,1,none⟩) a _).setCell (p:=⟨g,2,none⟩) a _).setCell (p:=⟨g,3,none⟩) a _).setCell (p:=⟨g,4,none⟩) a _).setCell (p:=⟨g,5,none⟩) a _
theorem X0m {base:Nat} {e:TypeId} {size n:Nat} {v:Value} {xs:List Value} {g:Nat} {W:World} (h:W.ownsRow base e size v n xs) (a:v.ownBlock≠some g) (v0 b v2 v3 v4 v5:Value) :((((((W.setCell ⟨g,0,none⟩ v0).setCell ⟨g,1,none⟩ b).setCell ⟨g,2,none⟩ v2).setCell ⟨g,3,none⟩ v3).setCell ⟨g,4,none⟩ v4).setCell ⟨g,5,none⟩ v5).ownsRow base e size v n xs:=AO (AO (AO (AO (AO (AO h (p:=⟨g,0,none⟩) a _) (p:=⟨g,1,none⟩) a _) (p:=⟨g,2,none⟩) a _) (p:=⟨g,3,none⟩) a _) (p:=⟨g,4,none⟩) a _) (p:=⟨g,5,none⟩) a _
def Lo (n:Nat) (w:World) (e:Ending) (w':World):Prop:=∃s:ByteArray,e=.returned (.string s)/\s.size<=n/\Below w.heap.size w w'
section
variable {L:SrL} {u:Fs} {w:World} {hops:List Hop} {vR:Value} {row:List Bx} {place:List Int} {tx:ByteArray} {fd:Bool}
theorem X1x (h:SrV L u w hops vR row place tx fd) (x:Bx) (V:-1<=x.fr/\x.fr<row.length/\x.c<256) (hd:Down row) (az:row.length<=1024) :Calls Tryz.prog 128 #[.pointer (some ⟨L.G,0,none⟩),.agg (RR x).toArray] w (Lo 1025 w):=by
 obtain⟨A,c,rfl,a0,a2,a3⟩:=BH h.oR;have HR:=Reads.of_own h.oR;have ak:=AB (fun(W:World) (m:Below w.heap.size w W)=>(h.call m).box);have HD:=AB hd;have HP:=AB (fun(W:World) (s:ByteArray) (hs:s.size<=1025) (m:Below w.heap.size w W)=>show Lo 1025 w (.returned (.string s)) W from⟨s,rfl,hs,m⟩);obtain⟨i0,hi,al,am,an⟩:=BK WI;clear h hd;obtain⟨p,q,a,b,C,R⟩:=x;simp only at V;show Calls Tryz.prog 128 #[.pointer (some ⟨L.G,0,none⟩),.agg #[.int .i64 p,.int .i64 q,.string a,.string b,.int .i64 C,.int .u8 (R:Int)]] w _;have t:=BL.new w 197 #[.int .i64 p,.int .i64 q,.string a,.string b,.int .i64 C,.int .u8 (R:Int)];have L0:=(AH w.heap.size w).alloc (AD _) (.cells #[.int .i64 p,.int .i64 q,.string a,.string b,.int .i64 C,.int .u8 (R:Int)] 197);generalize X:row.length=Y at *;have ao:=AB X;clear X;go_enter Tryz.func128,Tryz.ntmps128;go_wp2;go_loopw [5] (fun v wr=>∃(p q C:Int) (a b:ByteArray) (R:Nat) (l:List Nat),BL wr w.heap.size 197 #[.int .i64 p,.int .i64 q,.string a,.string b,.int .i64 C,.int .u8 (R:Int)]/\(-1<=C/\C<Y/\R<256)/\wr.ownsRow (w.heap.size+1) 5 1 v l.length (WJ l)/\(∀b∈l,b<256)/\(l.length:Int)+C<=Y/\Below w.heap.size w wr) (fun _ wr=>(Ut wr ⟨w.heap.size,4,none⟩+1).toNat)
 case atStart=>exact⟨p,q,C,a,b,R,[],t,V,Bc _ _ _ _,by simp,by simp;omega,L0⟩
 case round=>
  clear t L0 V;obtain⟨p1,q1,f1,a1,b1,D,l,t,V,d,B,Z,m⟩:=hrel;obtain⟨Al,cl,rfl,a4,a5,ap⟩:=BH d;have k4:=t.cell 4;by_cases h0:f1>=0
  .have k5:=t.cell 5
   have LA:=(AH wr.heap.size wr).alloc (AD _) (.cells #[.int .u8 (D:Int)] 5);have aa:=Bg wr [.int .u8 (D:Int)] 5 1 1 rfl;have ab:=BQ d LA;have K:∀u∈[Value.int .u8 (D:Int)],u.oneCell'=true:=fun u hu=>by simp at hu;subst hu;rfl
   have h63:l.length+1<=maxLen:=by unfold maxLen;omega
   have ac:(l.length+1)*1<=140737488355328:=by omega
   have ad:w.heap.size+1<=(wr.alloc (.cells #[.int .u8 (D:Int)] 5)).heap.size:=by have:=t.lt;simp;omega
   have K1:=t.below LA t.lt;have ay:(l.length:Int)+f1<=Y:=Z;go_upto_region 4 with(at_builtin;refine Ba _ rfl _ _ 81 rfl (w.heap.size+1) 5 i0 _ 1 1 Tryz.underlying81 hi al am an rfl (by decide) _ _ _ rfl ab _ (some ⟨wr.heap.size,0,none⟩) 1 1 [.int .u8 (D:Int)] rfl aa K h63 ac ad ?_;intro v' w4 M f ae)
   have S:(Value.slice Al l.length cl).ownBlock≠some w.heap.size:=fun e=>by have:=(own_lt d _ e).1;omega
   have K2:=K1.grown f (fun e=>S e.symm);have E:Below w.heap.size w w4:=(m.trans (LA.mono m.size)).grown f (by have:=m.size;simp;omega) (fun k hk=>by have:=(own_lt d k hk).1;omega);have a6:w.heap.size<w4.heap.size:=K2.lt;have N:f1.toNat<Y:=by omega
   have T:((f1.toNat:Nat):Int)=f1:=AT h0;obtain⟨gr,og,rfl,a7,b0,b1,b2,b3,b4,b5⟩:=NJ (HR.below E) f1.toNat N;obtain⟨d1,d2,d3⟩:=HD.out f1.toNat (by rw[ao.out];exact N);generalize row.getD f1.toNat JZ=y at *;obtain⟨p',q',a',b',F,H⟩:=y;simp only at b0 b1 b2 b3 b4 b5 d1 d2 d3;have k4:=AF (K2.cell 4);have g7:=AF ((ak.out w4 E).cell 7);rw[<-T]at h0 k4;generalize f1.toNat=j at *;have r0:=AF b0;have r1:=AF b1;have r2:=AF b2;have r3:=AF b3;have r4:=AF b4;have r5:=AF b5;have aq:(j:Int)<(Y:Int):=by omega
   have O:=AB M;have HE:=AB T;clear T aa ab K h63 ac ad K1 LA f ae M b0 b1 b2 b3 b4 b5 k5;go_wp2;refine Cb 8 (by kernel_rfl) (by kernel_rfl) ?_;simp only[CO,CN,Az,BI]
   repeat (go_big_quiet_step (fail))
   refine Ah ?_;intro w6 af;have I:=Bu af;have o:=K2.below I K2.lt;have ag:=BQ O.out I;have P:v'.ownBlock≠some w.heap.size:=fun e=>by have:=(own_lt O.out _ e).1;omega
   have J:=AB (AI (X0l o (.int .i64 p') (.int .i64 q') (.string a') (.string b') (.int .i64 F) (.int .u8 (H:Int))) (AI (X0m ag P (.int .i64 p') (.int .i64 q') (.string a') (.string b') (.int .i64 F) (.int .u8 (H:Int))) (WK (E.trans (I.mono E.size)) (AD _) (.int .i64 p') (.int .i64 q') (.string a') (.string b') (.int .i64 F) (.int .u8 (H:Int)))));have c0:=o.cell 0;have c1:=o.cell 1;have c2:=o.cell 2;have c3:=o.cell 3;have c4:=o.cell 4;have c5:=o.cell 5;have f0:=o.frozen 0;have a8:=o.frozen 1;have f2:=o.frozen 2;have f3:=o.frozen 3;have f4:=o.frozen 4;have f5:=o.frozen 5;have ar:=AB ((Jn t 4 _ _ rfl).trans HE.out.symm);have au:=AB (Jn J.out.1 4 _ _ rfl);clear af I r0 r1 r2 r3 r4 r5 k4 g7 K2 o ag P t d;go_wp2;go_roundw
   case rel=>exact⟨p',q',F,a',b',H,l++[D],J.out.1,⟨d1,by omega,d3⟩,by rw[AJ];unfold WJ;rw[CH];exact J.out.2.1,(fun z r=>by
       rcases Bj.1 r with r|r
       .exact B z r
       .rw [AM]at r;subst r;exact V.2.2),by have:=HE.out;rw[AJ,BJ];omega,J.out.2.2⟩
   case measure=>rw[ar.out,au.out];omega
  .have J:=AB (AI d (AI B m))
   have Z:l.length<=1025:=by omega
   clear d B m t;generalize hn:l.length=n at *;have HN:=AB hn;clear hn;go_wp2;clear k4;go_loopw [6,7] (fun i j wr=>∃(a:Nat) (b:Int) (l:List Nat),i=.int .i64 (a:Int)/\j=.int .i64 b/\b<n/\-1<=b/\l.length=n/\wr.ownsRow (w.heap.size+1) 5 1 (.slice Al n cl) n (WJ l)/\(∀b∈l,b<256)/\Below w.heap.size w wr) (fun i j _=>(intOf j+1-intOf i).toNat)
   case atStart=>exact⟨0,(n:Int)-1,l,rfl,by go_num,by omega,by omega,HN.out,J.out.1,J.out.2.1,J.out.2.2⟩
   case round=>
    clear J HN l;obtain⟨a,b,l,rfl,rfl,av,a9,ah,d,B,m⟩:=hrel;by_cases ba:(a:Int)<b
    .obtain ⟨j,rfl⟩:∃j:Nat,b=(j:Int):=⟨b.toNat,by omega⟩
     have U:j<n:=by omega
     have aq:(j:Int)<(n:Int):=av;have bb:(a:Int)<(n:Int):=by omega
     obtain⟨g,rfl,_⟩:=ap (by omega);have S:a≠j:=by omega
     have p1:=CM d a (by omega) Bf;have p2:=CM d j U Bf;have D:(WJ l).getD a Bf=.int .u8 ((l.getD a 0:Nat):Int):=by unfold WJ;rw[AC,AC,Ag,AG (by omega)];rfl
     have e2:(WJ l).getD j Bf=.int .u8 ((l.getD j 0:Nat):Int):=by unfold WJ;rw[AC,AC,Ag,AG (by omega)];rfl
     rw[D]at p1;rw[e2]at p2;have g1:=Df d a;have g2:=Df d j;have o1:=Oh d a (by omega) (.int .u8 ((l.getD j 0:Nat):Int));have o2:=Oh o1 j U (.int .u8 ((l.getD a 0:Nat):Int));have q2:=CM o1 j U Bf;rw[Fb _ _ _ _ _ S,e2]at q2;have k2:=Df o1 j;have Q:((WJ l).set a (.int .u8 ((l.getD j 0:Nat):Int))).set j (.int .u8 ((l.getD a 0:Nat):Int))=WJ ((l.set a (l.getD j 0)).set j (l.getD a 0)):=by unfold WJ;rw[List.map_set,List.map_set]
     rw[Q]at o2
     have ai:∀z∈(l.set a (l.getD j 0)).set j (l.getD a 0),z<256:=fun z r=>by
      rcases List.mem_or_eq_of_mem_set r with r|rfl
      .rcases List.mem_or_eq_of_mem_set r with r|rfl
       .exact B z r
       .exact B _ (FK l j 0 (by omega))
      .exact B _ (FK l a 0 (by omega))
     have bc:=(own_lt d g rfl).1;have HO:=AB (show ∀W:World,W=((wr.setCell ⟨g,a,none⟩ (.int .u8 ((l.getD j 0:Nat):Int))).setCell ⟨g,j,none⟩ (.int .u8 ((l.getD a 0:Nat):Int))).drew->∃l':List Nat,l'.length=n/\W.ownsRow (w.heap.size+1) 5 1 (.slice (some ⟨g,0,none⟩) n cl) n (WJ l')/\(∀b∈l',b<256)/\Below w.heap.size w W from fun W hW=>by subst hW;exact⟨_,by rw[DU,DU];exact ah,o2,ai,(((m.setCell (p:=⟨g,a,none⟩) (by show w.heap.size<=g;omega) _).setCell (p:=⟨g,j,none⟩) (by show w.heap.size<=g;omega) _)).drew⟩);clear o1 o2 Q ai D e2 d B m;generalize l.getD a 0=x at *;generalize l.getD j 0=y at *;have aw:((wr.setCell ⟨g,a,none⟩ (.int .u8 (y:Int))).drew).cell? ⟨g,j,none⟩=some (.int .u8 (y:Int)):=q2;have ax:((wr.setCell ⟨g,a,none⟩ (.int .u8 (y:Int))).drew).frozen? ⟨g,j,none⟩=false:=k2;clear q2 k2;go_wp2
     go_region
     go_wp2;obtain⟨l',h1,h2,h3,h4⟩:=HO.out _ rfl;clear HO p1 p2 g1 g2 aw ax;go_roundw
     case rel=>exact⟨a+1,(j:Int)-1,l',by go_num,by go_num,by omega,by omega,h1,h2,h3,h4⟩
     case measure=>simp[intOf];omega
    .have aj:wr.ownsRow (w.heap.size+1) 5 1 (.slice Al n cl) l.length (WJ l):=by rw[ah];exact d
     obtain⟨s,hs,bd⟩:=X0k aj B;have HB:=AB (HP.out wr s (by omega) m);clear d aj B m hs;go_wp2;exact AQ (v:=.string s) (by simp[results,Tryz.results128,go_sem]) rfl HB.out
end
end
section
open Go.RowKit Go.Sort Go.Lib
def SX (l:List UInt8):List Value:=l.map fun b:UInt8=>Value.int .u8 ((b.toNat:Nat):Int)
theorem X1y (s:ByteArray):strCells s=SX (bl s):=by unfold strCells SX bl;simp
theorem XE (a b:List UInt8):SX (a++b)=SX a++SX b:=by unfold SX;exact CH
theorem Oq {w:World} {base:Nat} {v:Value} {l:List UInt8} (h:w.ownsRow base 5 1 v l.length (SX l)) :(convert 81 9 v).run Tryz.prog w=.ok (.string ⟨l.toArray⟩) w:=by
 rcases h.2 with⟨rfl,h0⟩|⟨g,cap,a,rfl,_⟩
 .have:=BD h0;subst this;exact run_convert_bytes_nil (w:=w) _ _ Tryz.underlying81 Tryz.underlying5 _ _ _ Tryz.underlying9
 .exact Eh (P:=Tryz.prog) w 81 9 5 ⟨g,0,none⟩ cap l Tryz.underlying81 Tryz.underlying5 Tryz.underlying9 (fun j b=>by refine h.cells (g:=g) rfl j _ ?_;unfold SX;rw[Ag,AG b];rfl)
theorem Q8 {w w':World} {base n:Nat} {v v':Value} {l:List UInt8} (m:TypeId) {i:TypeInfo} (hi:Tryz.prog.info? 5=some i) (q:i.zero=some (.int .u8 0)) (b:i.size=1) (f:i.bytes=1) (c:w.ownsRow base 5 1 v n (SX l)) (s:ByteArray) (h63:n+s.size<=140737488355328) (d:(Builtin.append_ #[81,9] m #[v,.string s]).run Tryz.prog w=.ok v' w') (j:v'=.slice none 0 0↔v=.slice none 0 0/\s.size=0) :v'.ownBlock=v.ownBlock\/v'.ownBlock=some w.heap.size:=by
 rcases c.2 with⟨rfl,rfl⟩|⟨g,cap,k,rfl,t,u,x,y,o,p⟩
 .by_cases z:s.size=0
  .rw [j.2 ⟨rfl,z⟩];exact .inl rfl
  .have a:=run_append_nil_string (P:=Tryz.prog) w 81 9 m 5 i (.int .u8 0) Tryz.underlying81 Tryz.underlying9 hi q s (by omega) (by omega) (by rw[f];omega)
   rw[d]at a;injection a with a _
   rw[a];exact .inr rfl
 .have r:k.size=cap:=by simpa using o
  by_cases e:n+s.size<=cap
  .have a:=run_append_room_string (P:=Tryz.prog) w 81 9 m 5 i Tryz.underlying81 Tryz.underlying9 hi b g n cap k u s e (by omega)
   rw[d]at a;injection a with a _
   rw[a];exact .inl rfl
  .have a:=run_append_grow_string (P:=Tryz.prog) w 81 9 m 5 i (.int .u8 0) Tryz.underlying81 Tryz.underlying9 hi q ⟨g,0,none⟩ n cap (SX l) (by rw[b];exact c.1) (c.cells (g:=g) rfl) s (by omega) (by omega)
     (by rw[f];exact growslice_fits (by omega) (by omega))
   rw[d]at a;injection a with a _
   rw[a];exact .inr rfl
theorem Iu {ops:Array Oper} {rest:List Oper} {o:Oper} {a:Act} {Q:Exit->Act->World->Prop} {w:World} (g:o.guard=none) (j x:Operand) (p:o.op=.call { callee:=.builtin .append,args:=#[j,x],argTypes:=#[81,9] }) (base:Nat) {v:Value} {n:Nat} {l:List UInt8} (q:a.eval j=v) (c:w.ownsRow base 5 1 v n (SX l)) (s:ByteArray) (r:a.eval x=.string s) (h63:n+s.size<=140737488355328) (d:base<=w.heap.size) (h:∀v' w',w'.ownsRow base 5 1 v' (n+s.size) (SX (l++bl s))->w.grownBy w' v.ownBlock->(v'.ownBlock=v.ownBlock\/v'.ownBlock=some w.heap.size)->wpList Tryz.prog ops Q rest (a.put o.dst v') w'):wpList Tryz.prog ops Q (o::rest) a w:=by
 obtain⟨i,hi,k,b,e⟩:=BK WI;refine wpList_plain g fun K t=>?_
 obtain⟨v',w',m,h2,h3,h4⟩:=run_append_own_string (P:=Tryz.prog) w base 81 9 o.type 5 i Tryz.underlying81 Tryz.underlying9 hi k b e v n (SX l) c s (by unfold maxLen;omega) h63 d;have f:=Q8 o.type hi k b e c s h63 m h4;unfold Oper.wp execOp;simp only[p,resolve,invoke,builtin,Fw,Sem.run_pure,Ee,FX,DO,EG,q,r,m];exact t _ _ (h v' w' (by rw[XE,<-X1y];exact h2) h3 f)
end
section
open Go.RowKit Go.Sort
theorem X0n:∀args w,(callFunc 125 args).run Tryz.prog w=.ok (.enter 125 args) w:=FY Tryz.func125 (by kernel_rfl) rfl
theorem X0o:∀W:World,(Instr.alloc 208 true (.tuple #[])).run Tryz.prog W=.ok (.pointer (some ⟨W.heap.size,0,none⟩)) (W.alloc (.cells #[.bool false,.bool false,.int .i64 0,.int .i64 0,.int .u8 0] 208)):=fun W=>by simp[go_sem]
def Uu (w:World) (e:Ending) (w':World):Prop:=∃s1 s2 s3:ByteArray,e=.returned (.tuple #[.string s1,.string s2,.string s3])/\s1.size<=2000000/\s2.size<=2000000/\s3.size<=2000000/\Below w.heap.size w w'
theorem Ot {u:Fs} {s:Nat} (h:hasEnd u s):0<(EX u.ends s).length/\∃e∈u.ends,(EX u.ends s).getD 0 ByteArray.empty=e.out:=by
 obtain⟨e,c,d⟩:=h;have f:e.out∈EX u.ends s:=by unfold EX;rw[Bd];exact⟨e,BV.2 ⟨c,by simpa using d⟩,rfl⟩
 have b:=List.length_pos_of_mem f;refine⟨b,?_⟩;have h0:=FK (EX u.ends s) 0 ByteArray.empty b;unfold EX at h0;obtain⟨z,g,a⟩:=Bd.1 h0;exact⟨z,(BV.1 g).1,a.symm⟩
theorem Jo {v v' z:Value} {N:Nat} (c:Ij v z) (d:v'.ownBlock=v.ownBlock\/v'.ownBlock=some N) (f:∀g,z.ownBlock=some g->g<N):Ij v' z:=by
 intro g b a;rcases d with e|e
 .exact c g (by rw[<-e];exact b) a
 .rw [e]at b;have:=AL b;have:=f g a;omega
theorem X1z (c:Nat) (h:c<256):SX [c.toUInt8]=[Value.int .u8 (c:Int)]:=by
 have:((c.toUInt8.toNat:Nat):Int)=(c:Int):=by simp;omega
 show[Value.int .u8 ((c.toUInt8.toNat:Nat):Int)]=_;rw[this]
def X0p (L:SrL) (hops:List Hop) (ρ:Nat->Nat) (p q:Int) (hc:Hop) (l1 l2 l3:List UInt8):Prop:=(0<=p/\p<L.n)/\(0<=q/\q<L.n)/\hops.getD (ix L.n p q) ED=hc/\hc.live=true/\l1.length+ρ (ix L.n p q)<=L.n*L.n/\l2.length+1025*ρ (ix L.n p q)<=1025*(L.n*L.n)/\l3.length+1025*ρ (ix L.n p q)<=1025*(L.n*L.n)
section
variable {L:SrL} {u:Fs} {w:World} {hops:List Hop} {vR:Value} {row:List Bx} {place:List Int} {tx:ByteArray} {fd:Bool}
theorem X0q (h:SrV L u w hops vR row place tx fd) (F:Fit u L.n) (K:Looked u L.n hops) (p q:Int) (hp:0<=p/\p<L.n) (hq:0<=q/\q<L.n) (aj:(hops.getD (ix L.n p q) ED).live=true) :Calls Tryz.prog 126 #[.pointer (some ⟨L.G,0,none⟩),.agg #[.int .i64 p,.int .i64 q]] w (Uu w):=by
 have HS:=AB (fun(W:World) (l:Below w.heap.size w W)=>h.call l);have HF:=AB F;have br:=F.le;obtain⟨ρ,hρ⟩:=K.rank;have HR:=AB hρ;have cb:=AB K.len;have HP:=AB (fun(W:World) (s1 s2 s3:ByteArray) (h1:s1.size<=2000000) (h2:s2.size<=2000000) (h3:s3.size<=2000000) (l:Below w.heap.size w W)=>show Uu w (.returned (.tuple #[.string s1,.string s2,.string s3])) W from⟨s1,s2,s3,rfl,h1,h2,h3,l⟩);obtain⟨i0,hi,d9,ea,eb⟩:=BK WI;have K0:=BL.new w 192 #[.int .i64 p,.int .i64 q];have L0:=(AH w.heap.size w).alloc (AD _) (.cells #[.int .i64 p,.int .i64 q] 192);have A:=L8 hp.1 hp.2 hq.1 hq.2;have fa:L.n*L.n<=32*32:=Dl br br;have ak:=AB (fun(W:World) (l:Below w.heap.size w W) (p q:Int) (hp:0<=p/\p<L.n) (hq:0<=q/\q<L.n)=>Oo (h.call l) p q (by omega) (by omega) (by omega));clear h F K hρ;have k0:=AF (K0.cell 0);have k1:=AF (K0.cell 1);have g6:=AF ((HS.out _ L0).box.cell 6);have hI:=fun d os=>ak.out (grow (redrawn (w.alloc (.cells #[.int .i64 p,.int .i64 q] 192)) d) os) (L0.trans ((DN _ d os).mono L0.size)) p q hp hq
 have ad:=TU (N:=L.n) hp.1 hq.1;obtain⟨a0,a1,a2,a3,a4⟩:=IZ (HS.out _ L0).hb (ix L.n p q) (by rw[cb.out];exact A);rw[<-ad]at hI;have al:((ix L.n p q:Nat):Int)<((L.n*L.n:Nat):Int):=by omega
 have ac:((ix L.n p q:Nat):Int)<(L.n:Int)*(L.n:Int):=by have:=al;rwa [Dk]at this
 generalize ae:hops.getD (ix L.n p q) ED=hc at *;have af:=AB ae;have dk:=AB ad;clear ae ad;have HJ:=AB (show ix L.n p q<L.n*L.n from A);clear A;generalize hj:ix L.n p q=j at *;have am:=AB hj;clear hj;have b0:=AF a0;have b1:=AF a1;have b2:=AF a2;have b3:=AF a3;have b4:=AF a4;clear a0 a1 a2 a3 a4;go_enter Tryz.func126,Tryz.ntmps126;go_wp2;have ec:∀W:World,Below w.heap.size w W->W.cell? ⟨L.G,6,none⟩=some (.slice (some ⟨L.H,0,none⟩) (L.n*L.n) (L.n*L.n)):=fun W l=>(HS.out W l).box.cell 6
 refine YR 10 [0,1,2,3,4,5] 6 7 8 9 _ _ _ _ 19 20 21 10 (.int .i64 (j:Int)) (.pointer (some ⟨L.H,j*5,none⟩)) (.agg (MA hc).toArray) 208 _ (by kernel_rfl) (by kernel_rfl) rfl (by kernel_rfl) (by decide) (by decide) rfl rfl rfl rfl ⟨rfl,rfl⟩ ⟨rfl,rfl⟩ ⟨rfl,rfl⟩ ⟨rfl,rfl,rfl⟩ X0o ?_;simp only[CV,A_,BA]
 repeat (go_big_quiet_step (fail))
 refine Ah ?_;clear k0 k1 g6;refine⟨_,⟨?_,?_,?_,?_,?_⟩,CalInv.start (by decide)⟩
 .intro d hd;simp only[Bh,BP,Eg]at hd;rcases hd with rfl|rfl|rfl|rfl<;>(show _<(102:Nat);decide)
 .intro act W KK hs l hK;have ag:Below w.heap.size w W:=L0.trans ((AH _ _).drew.trans (l.mono (show w.heap.size<=_ by simp)));refine X0g 17 18 125 _ rfl X0n _ _ (Fc ((hs 17 (by decide)).trans rfl)) (Fc ((hs 18 (by decide)).trans rfl)) ?_;refine(ak.out W ag p q hp hq).mono ?_;rintro e W' ⟨rfl,ed⟩;rw[<-dk.out];exact⟨_,rfl,hK W' ed⟩
 .intro act W KK hs h1 l hK
  have t16:act.tmps[16]?=some (.slice (some ⟨L.H,0,none⟩) (L.n*L.n) (L.n*L.n)):=(hs 16 (by decide)).trans rfl;have fb:(0:Int)<=(j:Int):=by omega
  unfold Oper.wp;simp[execOp,go_sem,t16,h1,ac];exact hK
 .intro act W KK hs h1 l hK;have ag:Below w.heap.size w W:=L0.trans ((AH _ _).drew.trans (l.mono (show w.heap.size<=_ by simp)));obtain⟨a0,a1,a2,a3,a4⟩:=IZ (HS.out W ag).hb j (by rw[cb.out];exact HJ.out);rw[af.out]at a0 a1 a2 a3 a4;unfold Oper.wp;simp[execOp,go_sem,h1,a0,a1,a2,a3,a4];exact hK
 intro W g l hg f;have ag:Below w.heap.size w W:=L0.trans ((AH _ _).drew.trans (l.mono (show w.heap.size<=_ by simp)))
 have dl:w.heap.size<g:=by have:(w.alloc (.cells #[.int .i64 p,.int .i64 q] 192)).drew.heap.size=w.heap.size+1:=by simp
                           omega
 have f0:=f.frozen 0;have f1:=f.frozen 1;have f2:=f.frozen 2;have f3:=f.frozen 3;have f4:=f.frozen 4;have c0:=f.cell 0;have c1:=f.cell 1;have c2:=f.cell 2;have c3:=f.cell 3;have c4:=f.cell 4;have C:BL W w.heap.size 192 #[.int .i64 p,.int .i64 q]:=(show BL (w.alloc (.cells #[.int .i64 p,.int .i64 q] 192)).drew w.heap.size 192 #[.int .i64 p,.int .i64 q]from K0).below l (by simp);obtain⟨an,ao,ap,aq,ar⟩:=hc;have dm:X0p L hops ρ p q ⟨an,ao,ap,aq,ar⟩ [] [] []:=⟨hp,hq,by rw[am.out];exact af.out,aj,by have:=(HR.out j HJ.out (by rw[af.out];exact aj)).1;rw[am.out];simp;omega,by have:=(HR.out j HJ.out (by rw[af.out];exact aj)).1;rw[am.out];simp;omega,by have:=(HR.out j HJ.out (by rw[af.out];exact aj)).1;rw[am.out];simp;omega⟩;have P:=AB (AI dm (AI ((((((C.far (p:=⟨g,0,none⟩) (by show w.heap.size≠g;omega) (.bool an)).far (p:=⟨g,1,none⟩) (by show w.heap.size≠g;omega) (.bool ao)).far (p:=⟨g,2,none⟩) (by show w.heap.size≠g;omega) (.int .i64 ap)).far (p:=⟨g,3,none⟩) (by show w.heap.size≠g;omega) (.int .i64 aq)).far (p:=⟨g,4,none⟩) (by show w.heap.size≠g;omega) (.int .u8 (ar:Int)))) (AI (Ec f (.bool an) (.bool ao) (.int .i64 ap) (.int .i64 aq) (.int .u8 (ar:Int))) (DR ag (EI dl) (.bool an) (.bool ao) (.int .i64 ap) (.int .i64 aq) (.int .u8 (ar:Int))))));clear dm C f l ag b0 b1 b2 b3 b4 hI ec al ac aj K0 L0;simp only[Act.put,MA];go_wp2;refine Be ?_;clear c0 c1 c2 c3 c4 f0 f1 f2 f3 f4;generalize (((((W.setCell ⟨g,0,none⟩ (.bool an)).setCell ⟨g,1,none⟩ (.bool ao)).setCell ⟨g,2,none⟩ (.int .i64 ap)).setCell ⟨g,3,none⟩ (.int .i64 aq)).setCell ⟨g,4,none⟩ (.int .u8 (ar:Int)))=W1 at *;go_wp2
 go_loopw [7,8,9] (fun v7 v8 v9 wr=>∃(p q:Int) (hc:Hop) (l1 l2 l3:List UInt8),X0p L hops ρ p q hc l1 l2 l3/\BL wr w.heap.size 192 #[.int .i64 p,.int .i64 q]/\BL wr g 208 #[.bool hc.live,.bool hc.last,.int .i64 hc.x,.int .i64 hc.y,.int .u8 (hc.c:Int)] /\wr.ownsRow (w.heap.size+1) 5 1 v7 l1.length (SX l1)/\wr.ownsRow (w.heap.size+1) 5 1 v8 l2.length (SX l2)/\wr.ownsRow (w.heap.size+1) 5 1 v9 l3.length (SX l3)/\(Ij v7 v8/\Ij v7 v9/\Ij v8 v9)/\Below w.heap.size w wr)
  (fun _ _ _ wr=>ρ (ix L.n (Ut wr ⟨w.heap.size,0,none⟩) (Ut wr ⟨w.heap.size,1,none⟩)))
 case atStart=>exact⟨p,q,_,[],[],[],P.out.1,P.out.2.1,P.out.2.2.1,Bc _ _ _ _,Bc _ _ _ _,Bc _ _ _ _,⟨fun g hg=>(by cases hg),fun g hg=>(by cases hg),fun g hg=>(by cases hg)⟩,P.out.2.2.2⟩
 case round=>
  clear P af dk HJ am;obtain⟨p1,q1,ee,l1,l2,l3,hr,C,R,Q,D,E,⟨cc,cd,cg⟩,l⟩:=hrel;obtain⟨v1,v2,v3,v4,v5⟩:=ee;simp only at R;have h1:=R.cell 1;have dn:=AB (AI (Jn C 0 _ _ rfl) (Jn C 1 _ _ rfl));rcases v2 with _|_
  .obtain ⟨ah,ai,t,b,S,T,U⟩:=hr
   have A:=L8 ah.1 ah.2 ai.1 ai.2;have hh:=HR.out _ A (by rw[t];exact b);rw[t]at hh;obtain⟨dp,⟨V,_,au⟩,av⟩:=hh;obtain⟨ax,ay,_,_⟩:=au rfl;obtain⟨nl,nr⟩:=av rfl;simp only at ax ay nl nr V;have fx:=HF.out.arcs _ ax.mem;have fy:=HF.out.arcs _ ay.mem;have bg:=(HS.out wr l).rdA.reads (B:=L.K) (fun k f=>f.1);have ef:u.arcs.length=L.n3:=FE Ds (by decide) bg;obtain⟨x0,x1⟩:=ax;obtain⟨y0,y1⟩:=ay;rw[ef]at x1 y1;obtain⟨i,rfl⟩:∃i:Nat,v3=(i:Int):=⟨v3.toNat,(AT x0).symm⟩
   obtain⟨k,rfl⟩:∃k:Nat,v4=(k:Int):=⟨v4.toNat,(AT y0).symm⟩
   obtain⟨ga,oa,eA,fc,a0,a1,a2,a3,a4,a5,a6,a7⟩:=Di bg i (by omega);obtain⟨gb,ob,eB,fe,b0,b1,b2,b3,b4,b5,b6,b7⟩:=Di bg k (by omega);rw[eA]at eB;injection eB with eB
   injection eB with eB1 eB2
   subst eB1 eB2;have e1:Ex u (i:Int)=u.arcs.getD i Cq:=by unfold Ex;rw[BO]
   have e2:Ex u (k:Int)=u.arcs.getD k Cq:=by unfold Ex;rw[BO]
   rw[e1]at fx nl nr;rw[e2]at fy nl nr;generalize u.arcs.getD i Cq=x at *;generalize u.arcs.getD k Cq=y at *;obtain⟨xf,I,⟨m1,m2,m3,m4⟩,xo,xc⟩:=x;obtain⟨yf,s,⟨n1,n2,n3,n4⟩,yo,yc⟩:=y;simp only at a0 a1 a2 a3 a4 a5 a6 a7 b0 b1 b2 b3 b4 b5 b6 b7 fx fy nl nr;have aw:wr.cell? ⟨L.G,3,none⟩=some (.slice L.A3 L.n3 L.c3):=(HS.out wr l).box.cell 3;rw[eA]at aw;have r0:=AF a0;have r1:=AF a1;have r2:=AF a2;have r3:=AF a3;have r4:=AF a4;have r5:=AF a5;have r6:=AF a6;have r7:=AF a7;have s0:=AF b0;have s1:=AF b1;have s2:=AF b2;have s3:=AF b3;have s4:=AF b4;have s5:=AF b5;have s6:=AF b6;have s7:=AF b7;have q3:=AF aw;have t2:=AF (R.cell 2);have t3:=AF (R.cell 3);have HN:=AB (AI t (AI b (AI S (AI T (AI U (AI nl nr))))));clear t b S T U nl nr a0 a1 a2 a3 a4 a5 a6 a7 b0 b1 b2 b3 b4 b5 b6 b7 e1 e2 bg aw au av A;have e5:=R.lt;go_wp2;refine Lm 21 [0,1,2,3,4,5,6,7,8,9,10,11,12,13,14,15,16,17] 18 19 20 _ _ _ 11 12 61 _ #[.int .i64 xf,.int .i64 I,.int .u64 (m1:Int),.int .u64 (m2:Int),.int .u64 (m3:Int),.int .u64 (m4:Int),.string xo,.bool xc] (by kernel_rfl) (by kernel_rfl) rfl (by kernel_rfl) (by decide) (by decide) (by decide) (by decide) rfl rfl rfl ⟨rfl,rfl,rfl⟩ ⟨rfl,rfl,rfl⟩ rfl Qz ?_;simp only[CV,A_,BA]
   repeat (go_big_quiet_step (fail))
   refine Ah ?_;clear r0 r1 r2 r3 r4 r5 r6 r7 s0 s1 s2 s3 s4 s5 s6 s7 q3 t2 t3 h1;refine Up.start ⟨by show(11:Nat)<102;decide,by show(12:Nat)<102;decide⟩ ?_ ?_
   .intro act W KK gx hs h11 f hK;have t33:act.tmps[33]?=some (.agg #[.int .i64 xf,.int .i64 I,.int .u64 (m1:Int),.int .u64 (m2:Int),.int .u64 (m3:Int),.int .u64 (m4:Int),.string xo,.bool xc]):=(hs 33 (by decide)).trans rfl;have c0:=f.cell 0;have c1:=f.cell 1;have c2:=f.cell 2;have c3:=f.cell 3;have c4:=f.cell 4;have c5:=f.cell 5;have c6:=f.cell 6;have c7:=f.cell 7;have f0:=f.frozen 0;have f1:=f.frozen 1;have f2:=f.frozen 2;have f3:=f.frozen 3;have f4:=f.frozen 4;have f5:=f.frozen 5;have f6:=f.frozen 6;have f7:=f.frozen 7;unfold Oper.wp;simp[execOp,go_sem,h11,t33,c0,c1,c2,c3,c4,c5,c6,c7,f0,f1,f2,f3,f4,f5,f6,f7];exact hK _ (by simp) (I9 (AH _ W) (AD _) _ _ _ _ _ _ _ _) (fun k f=>NK f _ _ _ _ _ _ _ _) (LW f _ _ _ _ _ _ _ _)
   intro W gx gy aa eg ff fg kx O eh;have ei:w.heap.size<gy:=by have:=C.lt;omega
   have fh:w.heap.size<gx:=by have:=C.lt;omega
   have ej:g≠gy:=by have:=R.lt;omega
   have n7:u7.ownBlock≠some gy:=fun e=>by have:=(own_lt Q _ e).2;omega
   have n8:u8.ownBlock≠some gy:=fun e=>by have:=(own_lt D _ e).2;omega
   have n9:u9.ownBlock≠some gy:=fun e=>by have:=(own_lt E _ e).2;omega
   have P:=AB (AI (Mq (C.below aa C.lt) (show w.heap.size≠gy by omega) (.int .i64 yf) (.int .i64 s) (.int .u64 (n1:Int)) (.int .u64 (n2:Int)) (.int .u64 (n3:Int)) (.int .u64 (n4:Int)) (.string yo) (.bool yc))
    (AI (Mq (R.below aa R.lt) ej (.int .i64 yf) (.int .i64 s) (.int .u64 (n1:Int)) (.int .u64 (n2:Int)) (.int .u64 (n3:Int)) (.int .u64 (n4:Int)) (.string yo) (.bool yc))
    (AI (Mq kx eg (.int .i64 yf) (.int .i64 s) (.int .u64 (n1:Int)) (.int .u64 (n2:Int)) (.int .u64 (n3:Int)) (.int .u64 (n4:Int)) (.string yo) (.bool yc))
    (AI (LW O (.int .i64 yf) (.int .i64 s) (.int .u64 (n1:Int)) (.int .u64 (n2:Int)) (.int .u64 (n3:Int)) (.int .u64 (n4:Int)) (.string yo) (.bool yc))
    (AI (Q5 (BQ Q aa) n7 (.int .i64 yf) (.int .i64 s) (.int .u64 (n1:Int)) (.int .u64 (n2:Int)) (.int .u64 (n3:Int)) (.int .u64 (n4:Int)) (.string yo) (.bool yc))
    (AI (Q5 (BQ D aa) n8 (.int .i64 yf) (.int .i64 s) (.int .u64 (n1:Int)) (.int .u64 (n2:Int)) (.int .u64 (n3:Int)) (.int .u64 (n4:Int)) (.string yo) (.bool yc))
    (AI (Q5 (BQ E aa) n9 (.int .i64 yf) (.int .i64 s) (.int .u64 (n1:Int)) (.int .u64 (n2:Int)) (.int .u64 (n3:Int)) (.int .u64 (n4:Int)) (.string yo) (.bool yc))
    (I9 (l.trans (aa.mono l.size)) (EI ei) (.int .i64 yf) (.int .i64 s) (.int .u64 (n1:Int)) (.int .u64 (n2:Int)) (.int .u64 (n3:Int)) (.int .u64 (n4:Int)) (.string yo) (.bool yc)))))))))
   have c0:=O.cell 0;have c1:=O.cell 1;have c2:=O.cell 2;have c3:=O.cell 3;have c4:=O.cell 4;have c5:=O.cell 5;have c6:=O.cell 6;have c7:=O.cell 7;have f0:=O.frozen 0;have f1:=O.frozen 1;have f2:=O.frozen 2;have f3:=O.frozen 3;have f4:=O.frozen 4;have f5:=O.frozen 5;have f6:=O.frozen 6;have f7:=O.frozen 7;clear kx O aa C R Q D E l n7 n8 n9 eh;simp only[Act.put,Az,BI];go_wp2;refine Be ?_;clear c0 c1 c2 c3 c4 c5 c6 c7 f0 f1 f2 f3 f4 f5 f6 f7;generalize ((((((((W.setCell ⟨gy,0,none⟩ (.int .i64 yf)).setCell ⟨gy,1,none⟩ (.int .i64 s)).setCell ⟨gy,2,none⟩ (.int .u64 (n1:Int))).setCell ⟨gy,3,none⟩ (.int .u64 (n2:Int))).setCell ⟨gy,4,none⟩ (.int .u64 (n3:Int))).setCell ⟨gy,5,none⟩ (.int .u64 (n4:Int))).setCell ⟨gy,6,none⟩ (.string yo)).setCell ⟨gy,7,none⟩ (.bool yc))=W2 at *;obtain⟨C,R,kx,O,Q,D,E,l⟩:=P.out;clear P;obtain⟨t,b,S,T,U,nl,nr⟩:=HN.out;obtain⟨A7,k7,rfl,fi,_,_⟩:=BH Q;have h4:=R.cell 4;have LA:=(AH W2.heap.size W2).alloc (AD _) (.cells #[.int .u8 (v5:Int)] 5);have dq:=Bg W2 [.int .u8 (v5:Int)] 5 1 1 rfl;have p7:=BQ Q LA;have p8:=BQ D LA;have p9:=BQ E LA;have bh:=C.below LA C.lt;have ch:=R.below LA R.lt;have ci:=kx.below LA kx.lt;have cj:=O.below LA O.lt;have ck:=l.trans (LA.mono l.size);have bs:∀u∈[Value.int .u8 (v5:Int)],u.oneCell'=true:=fun u hu=>by simp at hu;subst hu;rfl
   have h63:l1.length+1<=maxLen:=by unfold maxLen;omega
   have dr:(l1.length+1)*1<=140737488355328:=by omega
   have ds:w.heap.size+1<=(W2.alloc (.cells #[.int .u8 (v5:Int)] 5)).heap.size:=by have:=bh.lt;omega
   have dt:=AB (AI t (AI b (AI S (AI T (AI U (AI nl nr))))));have cl:l2.length<=1050000:=by omega
   have fj:l3.length<=1050000:=by omega
   clear t b S T U nl nr HN;go_upto_region 7 with(at_builtin;refine Ba _ rfl _ _ 81 rfl (w.heap.size+1) 5 i0 _ 1 1 Tryz.underlying81 hi d9 ea eb rfl (by decide) _ _ _ rfl p7 _ (some ⟨W2.heap.size,0,none⟩) 1 1 [.int .u8 (v5:Int)] rfl dq bs h63 dr ds ?_;intro ek w4 z a m)
   have cm:=BM bh a (AV p7 bh (by decide));have bi:=BM ch a (AV p7 ch (by decide));have J:=BM ci a (AV p7 ci (by decide));have cn:=BM cj a (AV p7 cj (by decide));have t8:=p8.kept a cc.symm.or_none;have t9:=p9.kept a cd.symm.or_none;have co:Below w.heap.size w w4:=ck.grown a ck.size (fun k f=>by have:=(own_lt p7 k f).1;omega);have cp:=Jo cc m (fun g e=>(own_lt p8 g e).2);have cq:=Jo cd m (fun g e=>(own_lt p9 g e).2);have az:w4.ownsRow (w.heap.size+1) 5 1 ek (l1++[v5.toUInt8]).length (SX (l1++[v5.toUInt8])):=by rw[XE,X1z v5 V,AJ];exact z
   clear a m z p7 p8 p9 Q D E bh ch ci cj C R kx O dq bs h63 dr ds h4 LA l ck cc cd;obtain⟨cx,cr⟩:∃cx,cx=Ar.putB ⟨xf,I,⟨m1,m2,m3,m4⟩,xo,xc⟩ v5:=⟨_,rfl⟩
   obtain⟨cy,cs⟩:∃cy,cy=Ar.putB ⟨yf,s,⟨n1,n2,n3,n4⟩,yo,yc⟩ v5:=⟨_,rfl⟩
   have e6:cx.size<=1025:=by rw[cr];exact AK (GJ _ _) (by simp only;omega)
   have e7:cy.size<=1025:=by rw[cs];exact AK (GJ _ _) (by simp only;omega)
   have du:∀W:World,Calls Tryz.prog 153 #[.agg #[.int .i64 xf,.int .i64 I,.int .u64 (m1:Int),.int .u64 (m2:Int),.int .u64 (m3:Int),.int .u64 (m4:Int),.string xo,.bool xc],.int .u8 (v5:Int)] W (C7 (.string cx) W):=fun W=>by rw[cr];exact Ln ⟨xf,I,⟨m1,m2,m3,m4⟩,xo,xc⟩ v5 W V (by simp only;omega)
   have dv:∀W:World,Calls Tryz.prog 153 #[.agg #[.int .i64 yf,.int .i64 s,.int .u64 (n1:Int),.int .u64 (n2:Int),.int .u64 (n3:Int),.int .u64 (n4:Int),.string yo,.bool yc],.int .u8 (v5:Int)] W (C7 (.string cy) W):=fun W=>by rw[cs];exact Ln ⟨yf,s,⟨n1,n2,n3,n4⟩,yo,yc⟩ v5 W V (by simp only;omega)
   have el:=AB du;have em:=AB dv;clear du dv cr cs;have x0:=J.cell 0;have x1:=J.cell 1;have x2:=J.cell 2;have x3:=J.cell 3;have x4:=J.cell 4;have x5:=J.cell 5;have x6:=J.cell 6;have x7:=J.cell 7;have h4:=bi.cell 4
   go_wp2_with fail
   refine(el.out _).mono ?_;rintro e w7 ⟨rfl,X⟩;clear x0 x1 x2 x3 x4 x5 x6 x7 h4;have bj:=cm.below X cm.lt;have ct:=bi.below X bi.lt;have cu:=J.below X J.lt;have cv:=cn.below X cn.lt;have Q:=BQ az X;have D:=BQ t8 X;have E:=BQ t9 X;have a8:=co.trans (X.mono co.size);have bt:w.heap.size+1<=w7.heap.size:=by have:=bj.lt;omega
   have dw:l2.length+cx.size<=140737488355328:=by omega
   clear cm bi J cn az t8 t9 co X;go_upto_region 8 with(at_builtin;refine Iu rfl _ _ rfl (w.heap.size+1) rfl D cx rfl dw bt ?_;intro eo w8 z a m)
   have cw:=BM bj a (AV D bj (by decide));have bk:=BM ct a (AV D ct (by decide));have cz:=BM cu a (AV D cu (by decide));have M:=BM cv a (AV D cv (by decide));have t7:=Q.kept a cp.or_none;have t9:=E.kept a cg.symm.or_none;have c8:Below w.heap.size w w8:=a8.grown a a8.size (fun k f=>by have:=(own_lt D k f).1;omega);have ep:=(Jo cp.symm m (fun g e=>(own_lt Q g e).2)).symm;have c9:=Jo cg m (fun g e=>(own_lt E g e).2);have t8:w8.ownsRow (w.heap.size+1) 5 1 eo (l2++bl cx).length (SX (l2++bl cx)):=by rw[AJ];exact z
   clear a m z Q D E bj ct cu cv a8 bt dw cg cp;have y0:=M.cell 0;have y1:=M.cell 1;have y2:=M.cell 2;have y3:=M.cell 3;have y4:=M.cell 4;have y5:=M.cell 5;have y6:=M.cell 6;have y7:=M.cell 7;have h4:=bk.cell 4
   go_wp2_with fail
   refine(em.out _).mono ?_;rintro e w9 ⟨rfl,Y⟩;clear y0 y1 y2 y3 y4 y5 y6 y7 h4;have bm:=cw.below Y cw.lt;have da:=bk.below Y bk.lt;have db:=cz.below Y cz.lt;have dc:=M.below Y M.lt;have Q:=BQ t7 Y;have D:=BQ t8 Y;have E:=BQ t9 Y;have a9:=c8.trans (Y.mono c8.size);have bu:w.heap.size+1<=w9.heap.size:=by have:=bm.lt;omega
   have dx:l3.length+cy.size<=140737488355328:=by omega
   clear cw bk cz M t7 t8 t9 c8 Y;go_upto_region 9 with(at_builtin;refine Iu rfl _ _ rfl (w.heap.size+1) rfl E cy rfl dx bu ?_;intro eq bn z a m)
   have o:=BM bm a (AV E bm (by decide));have ba:=BM da a (AV E da (by decide));have bv:=BM db a (AV E db (by decide));have bw:=BM dc a (AV E dc (by decide));have t7:=Q.kept a cq.or_none;have t8:=D.kept a c9.or_none;have bx:Below w.heap.size w bn:=a9.grown a a9.size (fun k f=>by have:=(own_lt E k f).1;omega);have er:=(Jo cq.symm m (fun g e=>(own_lt Q g e).2)).symm;have es:=(Jo c9.symm m (fun g e=>(own_lt D g e).2)).symm;have t9:bn.ownsRow (w.heap.size+1) 5 1 eq (l3++bl cy).length (SX (l3++bl cy)):=by rw[AJ];exact z
   clear a m z Q D E bm da db dc a9 bu dx cq c9;have c0:=o.cell 0;have c1:=o.cell 1;have f0:=o.frozen 0;have f1:=o.frozen 1;have et:=bv.cell 1;have eu:=bw.cell 1;have bb:g≠w.heap.size:=fun e=>BL.ne_ ba o (by decide) e
   have dd:=AV t7 o (by decide);have de:=AV t8 o (by decide);have df:=AV t9 o (by decide)
   have P:=AB (AI (show BL ((bn.setCell ⟨w.heap.size,0,none⟩ (.int .i64 I)).setCell ⟨w.heap.size,1,none⟩ (.int .i64 s)) w.heap.size 192 #[.int .i64 I,.int .i64 s]from(o.set_ 0 _).set_ 1 _)
    (AI ((ba.far (p:=⟨w.heap.size,0,none⟩) bb (.int .i64 I)).far (p:=⟨w.heap.size,1,none⟩) bb (.int .i64 s))
    (AI (AO (AO t7 (p:=⟨w.heap.size,0,none⟩) dd (.int .i64 I)) (p:=⟨w.heap.size,1,none⟩) dd (.int .i64 s))
    (AI (AO (AO t8 (p:=⟨w.heap.size,0,none⟩) de (.int .i64 I)) (p:=⟨w.heap.size,1,none⟩) de (.int .i64 s))
    (AI (AO (AO t9 (p:=⟨w.heap.size,0,none⟩) df (.int .i64 I)) (p:=⟨w.heap.size,1,none⟩) df (.int .i64 s))
    ((bx.setCell (p:=⟨w.heap.size,0,none⟩) (AD _) (.int .i64 I)).setCell (p:=⟨w.heap.size,1,none⟩) (AD _) (.int .i64 s)))))))
   clear t7 t8 t9 dd de df bx bv bw ba o;go_upto_region 10 with(fail)
   clear c0 c1 f0 f1 et eu;generalize ((bn.setCell ⟨w.heap.size,0,none⟩ (.int .i64 I)).setCell ⟨w.heap.size,1,none⟩ (.int .i64 s))=W3 at *;obtain⟨C,R,Q,D,E,l⟩:=P.out;clear P;obtain⟨t,b,S,T,U,nl,nr⟩:=dt.out;have bc:0<=I/\I<L.n:=⟨fx.2.2.1,fx.2.2.2.1⟩;have bd:0<=s/\s<L.n:=⟨fy.2.2.1,fy.2.2.2.1⟩;have A:=L8 bc.1 bc.2 bd.1 bd.2;have ad:=TU (N:=L.n) bc.1 bd.1;have hI:=fun d os=>ak.out (grow (redrawn W3 d) os) (l.trans ((DN _ d os).mono l.size)) I s bc bd
   rw[<-ad]at hI;obtain⟨a0,a1,a2,a3,a4⟩:=IZ (HS.out W3 l).hb (ix L.n I s) (by rw[cb.out];exact A);have g6:=AF ((HS.out W3 l).box.cell 6);have k0:=AF (C.cell 0);have k1:=AF (C.cell 1);have al:((ix L.n I s:Nat):Int)<((L.n*L.n:Nat):Int):=by omega
   have ac:((ix L.n I s:Nat):Int)<(L.n:Int)*(L.n:Int):=by have:=al;rwa [Dk]at this
   obtain⟨dg,ae⟩:∃dg,hops.getD (ix L.n I s) ED=dg:=⟨_,rfl⟩
   rw[ae]at a0 a1 a2 a3 a4 nl;obtain⟨z1,z2,z3,z4,z5⟩:=dg;simp only at a0 a1 a2 a3 a4 nl
   have dy:X0p L hops ρ I s ⟨z1,z2,z3,z4,z5⟩ (l1++[v5.toUInt8]) (l2++bl cx) (l3++bl cy):=by
    refine⟨bc,bd,ae,nl,?_,?_,?_⟩
    .rw [AJ,BJ];omega
    .rw [AJ,CK];omega
    .rw [AJ,CK];omega
   have dz:=AB (AI dy nr);clear dy t b S T U nl nr ae ad dt;generalize ix L.n I s=jn at hI a0 a1 a2 a3 a4 al ac;have b0:=AF a0;have b1:=AF a1;have b2:=AF a2;have b3:=AF a3;have b4:=AF a4;clear a0 a1 a2 a3 a4 A;go_wp2;refine Cb 9 (by kernel_rfl) (by kernel_rfl) ?_;simp only[CO,CN,Az,BI]
   repeat (go_big_quiet_step ((go_at_call 125;with_reducible exact DY (hI _ _))))
   refine Ah ?_;intro w6 be;have ab:=Bu be;have d0:=C.below ab C.lt;have r:=R.below ab R.lt;have c0:=r.cell 0;have c1:=r.cell 1;have c2:=r.cell 2;have c3:=r.cell 3;have c4:=r.cell 4;have f0:=r.frozen 0;have f1:=r.frozen 1;have f2:=r.frozen 2;have f3:=r.frozen 3;have f4:=r.frozen 4;have Z:w.heap.size≠g:=fun e=>bb e.symm
   have t7:=BQ Q ab;have t8:=BQ D ab;have t9:=BQ E ab;have ev:w.heap.size<=g:=EI dl
   have P:=AB (AI (((((d0.far (p:=⟨g,0,none⟩) Z (.bool z1)).far (p:=⟨g,1,none⟩) Z (.bool z2)).far (p:=⟨g,2,none⟩) Z (.int .i64 z3)).far (p:=⟨g,3,none⟩) Z (.int .i64 z4)).far (p:=⟨g,4,none⟩) Z (.int .u8 (z5:Int)))
    (AI (Ec r (.bool z1) (.bool z2) (.int .i64 z3) (.int .i64 z4) (.int .u8 (z5:Int)))
    (AI (Q6 t7 (AV t7 r (by decide)) (.bool z1) (.bool z2) (.int .i64 z3) (.int .i64 z4) (.int .u8 (z5:Int)))
    (AI (Q6 t8 (AV t8 r (by decide)) (.bool z1) (.bool z2) (.int .i64 z3) (.int .i64 z4) (.int .u8 (z5:Int)))
    (AI (Q6 t9 (AV t9 r (by decide)) (.bool z1) (.bool z2) (.int .i64 z3) (.int .i64 z4) (.int .u8 (z5:Int)))
    (DR (l.trans (ab.mono l.size)) ev (.bool z1) (.bool z2) (.int .i64 z3) (.int .i64 z4) (.int .u8 (z5:Int))))))))
   clear k0 k1 g6 b0 b1 b2 b3 b4 be ab d0 r t7 t8 t9 Q D E C R l hI;go_wp2;have d3:=AB (AI (Jn P.out.1 0 _ _ rfl) (Jn P.out.1 1 _ _ rfl));clear c0 c1 c2 c3 c4 f0 f1 f2 f3 f4;go_roundw
   case rel=>exact⟨I,s,⟨z1,z2,z3,z4,z5⟩,_,_,_,dz.out.1,P.out.1,P.out.2.1,P.out.2.2.1,P.out.2.2.2.1,P.out.2.2.2.2.1,⟨ep,er,es⟩,P.out.2.2.2.2.2⟩
   case measure=>rw[d3.out.1,d3.out.2,dn.out.1,dn.out.2];exact dz.out.2
  .obtain ⟨ah,ai,t,b,S,T,U⟩:=hr
   have A:=L8 ah.1 ah.2 ai.1 ai.2;have hh:=HR.out _ A (by rw[t];exact b);rw[t]at hh;obtain⟨dp,⟨_,bf,_⟩,_⟩:=hh;obtain⟨dh,di⟩:=bf rfl;have d4:ix L.n p1 q1 / L.n=p1.toNat:=by unfold ix;exact IX (by omega)
   have d5:ix L.n p1 q1%L.n=q1.toNat:=by unfold ix;exact IY (by omega)
   rw[d4]at dh;rw[d5]at di;obtain⟨d6,z1,bo,bz⟩:=Ot dh;obtain⟨cl,z2,dj,b8⟩:=Ot di;have b9:=(HF.out.ends z1 bo).2.2;have ca:=(HF.out.ends z2 dj).2.2;rw[<-bz]at b9;rw[<-b8]at ca;have hS:=HS.out wr l;obtain⟨i,rfl⟩:∃i:Nat,p1=(i:Int):=⟨p1.toNat,(AT ah.1).symm⟩
   obtain⟨k,rfl⟩:∃k:Nat,q1=(k:Int):=⟨q1.toNat,(AT ai.1).symm⟩
   rw[BO]at d6 cl b9 ca;have ew:i<L.n:=by omega
   have ex:k<L.n:=by omega
   obtain⟨Ae,ce,g1,_,_,R1⟩:=hS.gE.2 i ew;obtain⟨Af,cf,g2,_,_,R2⟩:=hS.gE.2 k ex;obtain⟨ge,oe,rfl,_,d1⟩:=E9 (enc:=Kr) (fun _=>rfl) (by decide) (R1.reads (B:=L.K) fun k f=>f.1) ByteArray.empty 0 d6;obtain⟨gf,og,rfl,_,d2⟩:=E9 (enc:=Kr) (fun _=>rfl) (by decide) (R2.reads (B:=L.K) fun k f=>f.1) ByteArray.empty 0 cl;have d1:=d1 0 _ rfl;have d2:=d2 0 _ rfl;rw[show oe+(0*1+0)=oe by omega]at d1;rw[show og+(0*1+0)=og by omega]at d2;generalize (EX u.ends i).getD 0 ByteArray.empty=bp at *;generalize (EX u.ends k).getD 0 ByteArray.empty=bq at *;generalize (EX u.ends i).length=en at *;generalize (EX u.ends k).length=fn at *;have r1:=AF g1;have r2:=AF g2;have r3:=AF d1;have r4:=AF d2;have r5:=AF (hS.box.cell 5);have r6:=AF (C.cell 0);have r7:=AF (C.cell 1);have ey:=fun d os=>Oq (BQ Q (DN wr d os))
   have ez:=fun d os=>Oq (BQ D (DN wr d os))
   have e0:=fun d os=>Oq (BQ E (DN wr d os))
   have bo:(⟨l1.toArray⟩:ByteArray).size<=2000000:=by show l1.toArray.size<=_;rw[CJ];omega
   have dj:(⟨l2.toArray⟩:ByteArray).size<=1050000:=by show l2.toArray.size<=_;rw[CJ];omega
   have e3:(⟨l3.toArray⟩:ByteArray).size<=1050000:=by show l3.toArray.size<=_;rw[CJ];omega
   generalize (⟨l1.toArray⟩:ByteArray)=S1 at *;generalize (⟨l2.toArray⟩:ByteArray)=S2 at *;generalize (⟨l3.toArray⟩:ByteArray)=S3 at *;have m1:S2.size+bp.size<=9223372036854775807:=by omega
   have m2:S3.size+bq.size<=9223372036854775807:=by omega
   have e8:(i:Int)<(L.n:Int):=by omega
   have e9:(k:Int)<(L.n:Int):=by omega
   have fk:(0:Int)<(en:Int):=by omega
   have fl:(0:Int)<(fn:Int):=by omega
   have d7:(S2++bp).size<=2000000:=by rw[Cg];omega
   have d8:(S3++bq).size<=2000000:=by rw[Cg];omega
   have HB:=AB (fun(W:World) (h:Below wr.heap.size wr W)=>HP.out W S1 (S2++bp) (S3++bq) bo d7 d8 (l.trans (h.mono l.size)));clear hS g1 g2 d1 d2 R1 R2 Q D E C R l bo dj e3 d7 d8 t b S T U bz b8 d4 d5 A dp bf dh di;go_wp2;refine Au (by kernel_rfl) (by kernel_rfl) ?_
   repeat (go_big_quiet_step (fail))
   refine Ah ?_;intro w6 be;have e4:=AB (HB.out w6 (Bu be));clear r1 r2 r3 r4 r5 r6 r7 ey ez e0 be;go_wp2;exact AQ (v:=.tuple #[.string S1,.string (S2++bp),.string (S3++bq)]) (by simp[results,Tryz.results126,go_sem]) rfl e4.out
end
end
end Go.Proofs.YtcondkihpmmnnaaGreatDoor
