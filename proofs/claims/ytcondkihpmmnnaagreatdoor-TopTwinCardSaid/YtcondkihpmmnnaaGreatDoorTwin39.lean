/- Lemmas, part 39 of 50. No condition. -/
import Derived.Test.YtcondkihpmmnnaaGreatDoorTwin37
import Derived.Test.YtcondkihpmmnnaaGreatDoorTwin36
set_option maxRecDepth 100000
set_option maxHeartbeats 16000000
namespace Go.Proofs.YtcondkihpmmnnaaGreatDoor
section
open Go.RowKit Go.Sort
theorem WE (s:St) (h:OU s) (w:World) :Calls Tryz.prog 66 #[.agg #[.int .u64 (s.a:Int),.int .u64 (s.b:Int),.int .u64 (s.c:Int),.int .u64 (s.d:Int)]] w fun e W'=>∃A n c,e=.returned (.slice A n c)/\n<=256/\Below w.heap.size w W':=by obtain⟨f,g,i,j⟩:=St.word_m s h;have:=V6 s.m w;rw[<-f,<-g,<-i,<-j]at this;exact this
theorem YK (s:St) (h:OU s) (w:World) :Calls Tryz.prog 32 #[.agg #[.int .u64 (s.a:Int),.int .u64 (s.b:Int),.int .u64 (s.c:Int),.int .u64 (s.d:Int)]] w (C7 (.int .i64 ((Z7 s.m:Nat):Int)) w):=by obtain⟨e,f,g,i⟩:=St.word_m s h;have:=Z9 s.m w;rw[<-e,<-f,<-g,<-i]at this;exact this
theorem YL (t:Fs) (v:Value) (B:Nat) (w:World) (N:EK w B t v) (A:B<=w.heap.size) :Calls Tryz.prog 31 #[v] w (FewB w):=by
 have s:=AB (fun W (p:Below w.heap.size w W)=>YG t v B W (N.below (p.mono A)) (AK A p.size));obtain⟨C,D,E,F,G,H,rfl,l1,l2,l3,m1,m2,m3,X,Y,Z,W1,R2,W2,O,P⟩:=N;have I:=AB O;have J:=AB (fun(k:Nat) (Q:k<t.arcs.length)=>P (t.arcs.getD k Cq) (by rw[AC,AG Q];exact CI _));have j:=AB (fun(b:Bool) (W:World) (h:Below w.heap.size w W)=>show FewB w (.returned (.bool b)) W from⟨b,rfl,h⟩);clear Z R2 O W1 W2 P;have K:=BL.new w 32 #[.int .i64 t.n,.slice C t.starts.length D,.slice E t.ends.length F,.slice G t.arcs.length H];have R:=(AH w.heap.size w).alloc (AD _) (.cells #[.int .i64 t.n,.slice C t.starts.length D,.slice E t.ends.length F,.slice G t.arcs.length H] 32);unfold maxLen at *;generalize t.n=q at *;generalize t.starts.length=n1 at *;generalize t.ends.length=n2 at *;generalize t.arcs.length=l at *;have f0:=K.cell 0;have f1:=K.cell 1;have f2:=K.cell 2;have f3:=K.cell 3;have f:=AB (AI K R);clear K R;go_enter Tryz.func31,Tryz.ntmps31;go_wp2;clear f0 f1 f2 f3;go_loopw [3,4] (fun a i wr=>∃(m:Int) (k:Nat),k<=l/\i=.int .i64 (k:Int)/\a=.int .i64 m/\BL wr w.heap.size 32 #[.int .i64 q,.slice C n1 D,.slice E n2 F,.slice G l H]/\Below w.heap.size w wr) (fun _ i _=>l-(intOf i).toNat)
 case atStart=>exact⟨_,0,AN _,rfl,rfl,f.out.1,f.out.2⟩
 case round=>
  clear f;obtain⟨m,k,Q,rfl,rfl,r,p⟩:=hrel;have f0:=r.cell 0;have f1:=r.cell 1;have f2:=r.cell 2;have f3:=r.cell 3;have f:=AB (AI r p);by_cases u:k<l/\m<=40
  .obtain ⟨o,h60⟩:=u
   have aa:(0:Int)<=(k:Int):=by omega
   have ab:(k:Int)<(l:Int):=by omega
   obtain⟨g3,o3,rfl,ac,a0,S,a2,a3,a4,a5,T,U⟩:=Di (I.out.below (p.mono A)) k o;have L:=AB (J.out k o).2.2.2.2.1;generalize (t.arcs.getD k Cq)=x at *;obtain⟨x1,x2,⟨s1,s2,s3,s4⟩,x3,x4⟩:=x;have y:=AB (fun W=>WE ⟨s1,s2,s3,s4⟩ L.out W);simp only at y a0 S a2 a3 a4 a5 T U;clear r p
   go_wp2_with fail
   refine(y.out _).mono ?_;rintro e V ⟨Ab,nb,cb,rfl,ad,d⟩;have z:=AB (AI (f.out.1.below d f.out.1.lt) (f.out.2.trans (d.mono f.out.2.size)));clear a0 S a2 a3 a4 a5 T U f0 f1 f2 f3 d;go_wp2;go_roundw
   case rel=>exact⟨_,k+1,by omega,by go_num,rfl,z.out.1,z.out.2⟩
   case measure=>simp[intOf];omega
  .have hex:(¬k<l)\/(k<l/\¬m<=40):=by omega
   clear r p u;rcases hex with o|⟨o,h60⟩
   .go_wp2_with fail
    refine(s.out _ f.out.2).mono ?_;rintro e V ⟨M,rfl,d⟩;have g:=f.out.1.below d f.out.1.lt;have c:=AB (f.out.2.trans (d.mono f.out.2.size));clear f0 f1 f2 f3 d;have f0:=g.cell 0;have f3:=g.cell 3;clear g;rcases M with _|_
    .go_wp2;exact AQ (v:=.bool false) (by simp[results,Tryz.results31,go_sem]) rfl (j.out _ _ c.out)
    by_cases d4:m<=40
    .by_cases d1:(l:Int)<=14
     .by_cases d2:q<=5
      .go_wp2;exact AQ (v:=.bool true) (by simp[results,Tryz.results31,go_sem]) rfl (j.out _ _ c.out)
      .by_cases d3:(1024:Int)<q
       .go_wp2;exact AQ (v:=.bool true) (by simp[results,Tryz.results31,go_sem]) rfl (j.out _ _ c.out)
       .go_wp2;exact AQ (v:=.bool false) (by simp[results,Tryz.results31,go_sem]) rfl (j.out _ _ c.out)
     .go_wp2;exact AQ (v:=.bool false) (by simp[results,Tryz.results31,go_sem]) rfl (j.out _ _ c.out)
    .by_cases d1:(l:Int)<=14
     .by_cases d2:q<=5
      .go_wp2;exact AQ (v:=.bool false) (by simp[results,Tryz.results31,go_sem];omega) rfl (j.out _ _ c.out)
      .by_cases d3:(1024:Int)<q
       .go_wp2;exact AQ (v:=.bool false) (by simp[results,Tryz.results31,go_sem];omega) rfl (j.out _ _ c.out)
       .go_wp2;exact AQ (v:=.bool false) (by simp[results,Tryz.results31,go_sem]) rfl (j.out _ _ c.out)
     .go_wp2;exact AQ (v:=.bool false) (by simp[results,Tryz.results31,go_sem]) rfl (j.out _ _ c.out)
   .go_wp2_with fail
    refine(s.out _ f.out.2).mono ?_;rintro e V ⟨M,rfl,d⟩;have g:=f.out.1.below d f.out.1.lt;have c:=AB (f.out.2.trans (d.mono f.out.2.size));clear f0 f1 f2 f3 d;have f0:=g.cell 0;have f3:=g.cell 3;clear g;rcases M with _|_
    .go_wp2;exact AQ (v:=.bool false) (by simp[results,Tryz.results31,go_sem]) rfl (j.out _ _ c.out)
    by_cases d1:(l:Int)<=14
    .by_cases d2:q<=5
     .go_wp2;exact AQ (v:=.bool false) (by simp[results,Tryz.results31,go_sem];omega) rfl (j.out _ _ c.out)
     .by_cases d3:(1024:Int)<q
      .go_wp2;exact AQ (v:=.bool false) (by simp[results,Tryz.results31,go_sem];omega) rfl (j.out _ _ c.out)
      .go_wp2;exact AQ (v:=.bool false) (by simp[results,Tryz.results31,go_sem]) rfl (j.out _ _ c.out)
    .go_wp2;exact AQ (v:=.bool false) (by simp[results,Tryz.results31,go_sem]) rfl (j.out _ _ c.out)
end
section
open Go.RowKit Go.Sort
theorem KC (x y:ByteArray):(x.toList==y.toList)=decide (x=y):=by
 rw[DS,BB,DF];constructor
 .intro h;rw[DT,DT]at h;exact FU (Array.toList_inj.1 h)
 .rintro rfl;rfl
theorem Lp:(ByteArray.empty).toList=[]:=by rw[DT];rfl
theorem YY:(Tryz.prog.info? 9).isSome=true:=by kernel_rfl
theorem YZ:Tryz.prog.cellsOf 9=1:=by kernel_rfl
theorem TY (w:World) (d:Nat) (a b c e:ByteArray) :(Op.equalIn (d+2) 193 (.agg #[.string a,.string b]) (.agg #[.string c,.string e])).run Tryz.prog w=.ok (decide (a=c) && decide (b=e)) w:=by
 obtain⟨i,hi⟩:=CZ.1 YY;rw[run_equalIn_array w (d+1) _ _ Tryz.underlying193 hi,YZ];have f:List.range 2=[0,1]:=rfl;rw[f];have g:∀x y:ByteArray,(part 9 #[.string x,.string y] 0).run Tryz.prog w=.ok (.string x) w:=fun x y=>by kernel_rfl
 have j:∀x y:ByteArray,(part 9 #[.string x,.string y] 1).run Tryz.prog w=.ok (.string y) w:=fun x y=>by kernel_rfl
 cases h0:decide (a=c)<;>cases h1:decide (b=e)<;>simp[Op.eqItems,g,j,Le w d,h0,h1]
theorem X0s (w:World) (a b c e:ByteArray) :(binOp .eql 193 (.agg #[.string a,.string b]) (.agg #[.string c,.string e])).run Tryz.prog w=.ok (.bool (decide (a=c) && decide (b=e))) w:=by simp only[binOp];simp[Op.equal,Op.maxDepth,TY w 9998]
theorem SY:(Tryz.prog.info? 197).map (fun i=>(i.zero,i.size,i.bytes))=some (some (.agg #[.int .i64 0,.int .i64 0,.string ⟨#[]⟩,.string ⟨#[]⟩,.int .i64 0,.int .u8 0]),6,64):=by kernel_rfl
def IB (u:Fs) (s t:Nat) (a b:ByteArray) (m k:Nat):Prop:=∀i j,i<(EX u.ends s).length->j<(EX u.ends t).length->(i<m\/(i=m/\j<k))->a++(EX u.ends s).getD i ByteArray.empty=b++(EX u.ends t).getD j ByteArray.empty
theorem IB.start {u:Fs} {s t:Nat} {a b:ByteArray}:IB u s t a b 0 0:=fun i j _ _ h=>absurd h (by omega)
theorem IB.next {u:Fs} {s t:Nat} {a b:ByteArray} {m k:Nat} (h:IB u s t a b m k) (e:a++(EX u.ends s).getD m ByteArray.empty=b++(EX u.ends t).getD k ByteArray.empty):IB u s t a b m (k+1):=fun i j hi c f=>by
 by_cases d:i=m/\j=k
 .obtain ⟨rfl,rfl⟩:=d;exact e
 .exact h i j hi c (by omega)
theorem IB.row {u:Fs} {s t:Nat} {a b:ByteArray} {m k:Nat} (h:IB u s t a b m k) (d:(EX u.ends t).length<=k):IB u s t a b (m+1) 0:=fun i j hi c e=>h i j hi c (by omega)
theorem Pr {u:Fs} {s:Nat} {i:Nat} (h:i<(EX u.ends s).length):∃e∈u.ends,e.st=(s:Int)/\(EX u.ends s).getD i ByteArray.empty=e.out:=by have h0:=FK (EX u.ends s) i ByteArray.empty h;unfold EX at h0;obtain⟨z,b,a⟩:=Bd.1 h0;exact⟨z,(BV.1 b).1,by simpa using (BV.1 b).2,a.symm⟩
theorem IB.all {u:Fs} {s t:Nat} {a b:ByteArray} {m k:Nat} (h:IB u s t a b m k) (o:(EX u.ends s).length<=m):∀x∈u.ends,∀y∈u.ends,x.st=(s:Int)->y.st=(t:Int)->bl a++bl x.out=bl b++bl y.out:=by
 intro x d y e h1 h2;have f:x.out∈EX u.ends s:=by unfold EX;exact Bd.2 ⟨x,BV.2 ⟨d,by simpa using h1⟩,rfl⟩
 have g:y.out∈EX u.ends t:=by unfold EX;exact Bd.2 ⟨y,BV.2 ⟨e,by simpa using h2⟩,rfl⟩
 obtain⟨i,hi,l⟩:=Bp.1 f;obtain⟨j,c,n⟩:=Bp.1 g;have:=h i j hi c (.inl (by omega));rw[AC,AC,AG hi,AG c,DV,DV,l,n]at this;rw[<-DW,<-DW,this]
def IF (L:SrL) (u:Fs) (hops:List Hop) (vR:Value) (row:List Bx) (fd:Bool) (x:Bx) (w:World) (e:Ending) (w':World):Prop:=e=.returned (.tuple #[])/\∃vR' row' place' tx' fd',SrV L u w' hops vR' row' place' tx' fd'/\Srch u L.n row' place' fd'/\SrStay L vR vR' w w'/\row <+: row'/\(fd=true->fd'=true) /\(fd'=false->KM u x.p x.q->Has row' x.p x.q (bl x.a) (bl x.b))
structure FitBx (u:Fs) (N:Nat) (row:List Bx) (x:Bx):Prop where
 p:0<=x.p/\x.p<N
 q:0<=x.q/\x.q<N
 lag:Ep u x.p x.q (bl x.a) (bl x.b)
 fr:-1<=x.fr/\x.fr<row.length
 c:x.c<256
 sa:x.a.size<=1025*(row.length+1)
 sb:x.b.size<=1025*(row.length+1)
theorem Srch.down {u:Fs} {N:Nat} {row:List Bx} {place:List Int} {fd:Bool} (S:Srch u N row place fd):Down row:=fun k a=>by obtain⟨_,_,_,_,⟨h1,h2⟩,h3,_⟩:=S.good k a;exact⟨h1,h2,h3⟩
section
variable {L:SrL} {u:Fs} {w w':World} {hops:List Hop} {vR:Value} {row:List Bx} {place:List Int} {tx:ByteArray} {fd:Bool}
theorem SrV.putPlace (h:SrV L u w hops vR row place tx fd) (j:Nat) (z:Int):SrV L u (w.setCell ⟨L.PL,j,none⟩ (.int .i64 z)) hops vR row (place.set j z) tx fd:=by
 have b:L.G≠L.PL:=BL.ne_ h.box h.pb (by decide);have c:L.H≠L.PL:=BL.ne_ h.hb h.pb (by decide);have d:vR.ownBlock≠some L.PL:=FI h.oR h.pb (by decide);have a:∀k,Fx L.K L.G L.H L.PL k->(w.setCell ⟨L.PL,j,none⟩ (.int .i64 z)).heap[k]?=w.heap[k]?:=fun k a=>Am _ _ _ _ (show k≠L.PL from a.2.2.2)
 exact { h with
  box:=h.box.far (p:=⟨L.PL,j,none⟩) b _
  hb:=h.hb.far (p:=⟨L.PL,j,none⟩) c _
  pb:=by have:=h.pb.set_ j (.int .i64 z);rw[Bm,<-List.map_set]at this;exact this
  oR:=AO h.oR (p:=⟨L.PL,j,none⟩) d _
  rdS:=h.rdS.kept a
  rdA:=h.rdA.kept a
  gA:=h.gA.kept a
  gE:=h.gE.kept a
  sz:=by simpa using h.sz }
theorem SrV.putRow (h:SrV L u w hops vR row place tx fd) {b:Value} {c:List Bx} (i:w.grownBy w' vR.ownBlock) (j:w'.ownsRow L.K 197 6 b c.length (B_ RR c)) :SrV L u (w'.setCell ⟨L.G,7,none⟩ b) hops b c place tx fd:=by
 have g:=h.own_lt;have g1:=h.gG;have g2:=h.gH;have g3:=h.gP;have a:∀k,k<L.K->w'.heap[k]?=w.heap[k]?:=fun k d=>i.block k (Aj d h.sz) (fun e=>by have:=(g k e.symm).1;omega)
 have d:∀k,Fx L.K L.G L.H L.PL k->(w'.setCell ⟨L.G,7,none⟩ b).heap[k]?=w.heap[k]?:=fun k d=>by rw[Am _ _ _ _ (show k≠L.G from d.2.1)];exact a k d.1
 have f:BL w' L.G 155 (L.cells vR tx fd):=(a _ g1.2).trans h.box;have l:BL w' L.H 208 (B_ MA hops).toArray:=(a _ g2.2).trans h.hb;have m:BL w' L.PL 3 (place.map (Value.int .i64)).toArray:=(a _ g3.2).trans h.pb
 exact { h with
  box:=f.set_ 7 b
  hb:=l.far (p:=⟨L.G,7,none⟩) (BL.ne_ l f (by decide)) _
  pb:=m.far (p:=⟨L.G,7,none⟩) (BL.ne_ m f (by decide)) _
  oR:=AO j (p:=⟨L.G,7,none⟩) (FI j f (by decide)) _
  rdS:=h.rdS.kept d
  rdA:=h.rdA.kept d
  gA:=h.gA.kept d
  gE:=h.gE.kept d
  sz:=by have:=h.sz;have:=i.size;simp;omega }
theorem SrV.stay_row (h:SrV L u w hops vR row place tx fd) {b:Value} (d:w.grownBy w' vR.ownBlock) (f:b.ownBlock=vR.ownBlock\/b.ownBlock=some w.heap.size) (z:Value):SrStay L vR b w (w'.setCell ⟨L.G,7,none⟩ z):=by
 have c:=h.own_lt;have g1:=h.gG;refine⟨((AH _ w).grown d h.hl (fun k e=>by have:=(c k e).1;omega)).setCell (p:=⟨L.G,7,none⟩) g1.1 _,fun g a h1 h2 h3=>?_,fun g a=>?_⟩
 .rw [Am _ _ _ _ (show g≠L.G from h1)];exact d.block g a (fun e=>h3 e.symm)
 .rcases f with e|e
  .exact .inl (e▸a)
  .rw [e]at a;exact .inr (by have:=AL a;omega)
theorem SrV.stay_place (h:SrV L u w hops vR row place tx fd) (j:Nat) (z:Value):SrStay L vR vR w (w.setCell ⟨L.PL,j,none⟩ z):=⟨(AH _ w).setCell (p:=⟨L.PL,j,none⟩) h.gP.1 _,fun g _ _ h2 _=>Am _ _ _ _ (show g≠L.PL from h2),fun g a=>.inl a⟩
end
end
end Go.Proofs.YtcondkihpmmnnaaGreatDoor
