/- Lemmas, part 48 of 50. No condition. -/
import Derived.Test.YtcondkihpmmnnaaGreatDoorTwin46
set_option maxRecDepth 100000
set_option maxHeartbeats 16000000
namespace Go.Proofs.YtcondkihpmmnnaaGreatDoor
section
open Go.RowKit Go.Sort Go.Shelf
attribute [local go_sem] Gl
structure FsW {α:Type} (J:List α->World->Prop) (lo bR bs:Nat) (W0:World) (pre:List α) (wr:World):Prop where
 j:J pre wr
 old:∀k,OW lo bs k->wr.heap[k]?=W0.heap[k]?
 wp:RU bR wr
 sz:W0.heap.size<=wr.heap.size
section
variable {α:Type} {J:List α->World->Prop} {lo hi bR bs:Nat} {W0:World} {pre:List α} {wr w':World}
theorem FsW.below (h:FsW J lo bR bs W0 pre wr) (c:OwnFrom W0.heap.size J) (d:lo<=W0.heap.size) (a:Below wr.heap.size wr w'):FsW J lo bR bs W0 pre w':=⟨c _ _ _ none h.j ⟨a.os,a.tape,a.output,a.size,fun k b _=>a.block k b⟩ (fun r e=>by cases e),fun k b=>(a.block k (by have:=h.sz;have:=b.1;omega)).trans (h.old k b),h.wp.below a,AK h.sz a.size⟩
theorem FsW.kp (h:FsW J lo bR bs W0 pre wr) (k:KpX lo hi bR bs wr w') (c:lo<=W0.heap.size) {b:List α} (d:J b w'):FsW J lo bR bs W0 b w':=⟨d,fun i a=>(k.t.old i (by have:=a.1;have:=h.sz;omega) a.1 a.2).trans (h.old i a),h.wp.kp k.t,AK h.sz k.t.size⟩
end
theorem Yh (l V lo hi bR bs G n LR most:Nat) (A1:Option Addr) (f cS:Nat) (v2 v3:Value) (u:Fs) (F:Fit u n) (ak:f<=1024) (J Jx:List (Te u n 1024)->World->Prop) (W:World) (al:lo<=hi) (hW:hi+2<=W.heap.size) (hJ:OwnFrom W.heap.size J) (hY:∀pre (z:Te u n 1024) W1,J pre W1->pre.length<1048576->YieldAt Fence.wide 3 Tryz.prog l #[NU z.1] W1 fun e W'=>(e=.returned (.bool true)/\J (pre++[z]) W'/\KpX lo hi bR bs W1 W')\/(e=.returned (.bool false)/\Jx (pre++[z]) W'/\KpX lo hi bR bs W1 W')) (hw:RU bR W) (X:WkAt lo bs G n LR most A1 f cS v2 v3 u W) (bw:BL W V 102 #[.pointer (some ⟨G,0,none⟩)]) (M:OW lo bs V) (h0:J [] W) :CallsIn Fence.wide 4 Tryz.prog 76 #[.func (.yield l) #[] #[],.pointer (some ⟨V,0,none⟩)] W fun e W'=>(∃v,e=.returned v)/\((∃xs,J xs W')\/(∃xs,Jx xs W')):=by
 refine callsIn_of_wp Tryz.func76 rfl trivial ?_ rfl;simp only[Tryz.ntmps76,CJ,Bn,Co,Nat.reduceAdd,Nat.reduceSub,ES,ET,FG,En,Cy,Cf];have d:lo<=W.heap.size:=by omega
 have N:FsW J lo bR bs W [] W:=⟨h0,fun _ _=>rfl,hw,AD _⟩;have kw:=bw.cell 0;have kg:=X.box.cell 1;have r:=AB X;have O:=AB (AI bw M);have HF:=AB F;have HY:=AB hY;have P:=AB N;have Q:=AB X.l1;clear N X bw M F hY h0;gi_wp2;clear kw kg
 gi_loopw [15] (fun i wr=>∃(k:Nat) (pre:List (Te u n 1024)),k<=f/\i=.int .i64 (k:Int)/\pre.length<=k*1024/\FsW J lo bR bs W pre wr) (fun i _=>f-(intOf i).toNat)
 case atStart=>exact⟨0,[],AN _,rfl,AN _,P.out⟩
 case round=>
  clear P;obtain⟨k,pre,Y,rfl,C,g⟩:=hrel;by_cases aa:k<f
  .have am:(0:Int)<=(k:Int):=by omega
   have an:(k:Int)<(f:Int):=by omega
   have ab:k<u.starts.length:=by have:=Q.out;omega
   obtain⟨gx,ox,rfl,ao,a0,a1⟩:=Dh ((r.out.st.kept g.old).reads (fun k Y=>Y.1)) k aa;have D:=getD_in u.starts DI k ab;generalize hx:u.starts.getD k DI=x at *;clear hx;have HX:=AB D;have ac:=(HF.out.starts x D).2.2;clear D;obtain⟨xs,o⟩:=x;simp only at a0 a1 ac;have L:=(AH wr.heap.size wr).alloc (AD _) (.cells #[.int .i64 xs,.string o] 54);have R:Sure hi bR (wr.alloc (.cells #[.int .i64 xs,.string o] 54)) wr.heap.size 54 #[.int .i64 xs,.string o]:=Sure.new g.wp (by have:=g.sz;omega);have c:=g.below hJ d L;have kw:=(cell_kept (a:=⟨V,0,none⟩) (c.old _ O.out.2)).trans (O.out.1.cell 0);have kg:=(cell_kept (a:=⟨G,1,none⟩) (c.old _ r.out.lG)).trans (r.out.box.cell 1);clear g;gi_wp2;clear a0 a1 kw kg L;generalize wr.alloc (.cells #[.int .i64 xs,.string o] 54)=w5 at *;generalize wr.heap.size=Bx at *
   gi_loopw [25] (fun j wr=>∃(m:Nat) (pre:List (Te u n 1024)),m<=f/\j=.int .i64 (m:Int)/\pre.length<=k*1024+m/\FsW J lo bR bs W pre wr/\Sure hi bR wr Bx 54 #[.int .i64 xs,.string o]) (fun j _=>f-(intOf j).toNat)
   case atStart=>exact⟨0,pre,AN _,rfl,C,c,R⟩
   case round=>
    clear c R C pre;obtain⟨m,pre,hm,rfl,C,g,hS⟩:=hrel;by_cases ad:m<f
    .have ap:(0:Int)<=(m:Int):=by omega
     have aq:(m:Int)<(f:Int):=by omega
     have ae:m<u.starts.length:=by have:=Q.out;omega
     obtain⟨gy,oy,ey,ar,c0,c1⟩:=Dh ((r.out.st.kept g.old).reads (fun k Y=>Y.1)) m ad;obtain⟨rfl,rfl⟩:gx=gy/\ox=oy:=by injection ey with ey;injection ey with e1 e2;exact⟨e1,e2⟩
     have E:=getD_in u.starts DI m ae;generalize Z:u.starts.getD m DI=y at *;clear Z;have p:=AB (Tc HF.out HX.out E);have af:=(HF.out.starts y E).2.2;clear E;obtain⟨ys,q⟩:=y;simp only[XH]at c0 c1 af p;have L:=(AH wr.heap.size wr).alloc (AD _) (.cells #[.int .i64 ys,.string q] 54);have s:=BL.new wr 54 #[.int .i64 ys,.string q];have c:=g.below hJ d L;have H:=hS.below g.wp L;clear g hS;have kl:=fun W=>PX o q W (by unfold maxLen;omega) (by unfold maxLen;omega)
     have S:o.extract (E6 o.data.toList q.data.toList) o.size=Ms o q:=rfl;have T:q.extract (E6 o.data.toList q.data.toList) q.size=Mt o q:=rfl;rw[S,T]at kl;clear S T;have s1:=H.b.cell 1;have y1:=s.cell 1;gi_wp2;clear c0 c1 s1 y1;generalize wr.alloc (.cells #[.int .i64 ys,.string q] 54)=w5 at *;refine⟨trivial,(Ge.2 (kl w5)).mono ?_⟩;rintro e w6 ⟨rfl,w⟩;have I:=c.below hJ d w;have K:=H.below c.wp w;have ag:=s.below w s.lt;clear c H s w L kl;have s0:=K.b.cell 0;have y0:=ag.cell 0;obtain⟨fn,tmps,assign,body,Z,hR⟩:=HY.out pre ⟨_,p.out⟩ w6 I.j (by omega);simp only[NU,Fm]at Z;have U:=AB I;have ah:=AB K;clear I K;gi_wp2;refine hR.mono ?_;clear Z hR s0 y0;rintro e w7 (⟨rfl,A,B⟩|⟨rfl,A,B⟩)
     .have ai:=AB (U.out.kp B d A)
      have aj:=AB (ah.out.kp U.out.wp B.t);clear A B;gi_wp2;go_roundw
      case rel=>exact⟨m+1,_,by omega,by go_num,by rw[AJ,BJ];omega,ai.out,aj.out⟩
      case measure=>simp[intOf];omega
     .gi_wp2;refine AQ (results_none rfl _ _ _) rfl ?_;exact⟨⟨_,rfl⟩,.inr ⟨_,A⟩⟩
    .obtain rfl:f=m:=by omega
     gi_wp2;go_roundw
     case rel=>exact⟨k+1,pre,by omega,by go_num,by omega,g⟩
     case measure=>simp[intOf];omega
  .obtain rfl:f=k:=by omega
   gi_wp2;go_end0;exact⟨⟨_,rfl⟩,.inl ⟨_,g.j⟩⟩
end
end Go.Proofs.YtcondkihpmmnnaaGreatDoor
