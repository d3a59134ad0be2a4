/- Lemmas, part 17 of 50. No condition. -/
import Derived.Test.YtcondkihpmmnnaaGreatDoorTwin15
import Derived.Test.YtcondkihpmmnnaaGreatDoorTwin16
set_option maxRecDepth 100000
set_option maxHeartbeats 16000000
namespace Go.Proofs.YtcondkihpmmnnaaGreatDoor
section
open Go.RowKit Go.Sort
theorem getD_in {α:Type} (l:List α) (d:α) (j:Nat) (a:j<l.length):l.getD j d∈l:=by rw[AC,AG a];exact CI _
def KI (l:List Tp) (k s:Nat):List Tp:=(l.take k).filter fun z=>decide (z.st=(s:Int))
structure ChE (c:Ch) (a b:Fs):Prop where
 an:c.an=a.n
 bn:c.bn=b.n
 n:b.n=(c.n:Int)
 hn:c.n<=1024
 a0:0<=a.n
 mul:a.n*b.n<=1024
 aS:∃A k,c.aS=.slice A a.starts.length k/\DP c.P c.w 2 A a.starts.length (B_ CL a.starts)
 aE:∃A k,c.aE=.slice A a.ends.length k/\DP c.P c.w 2 A a.ends.length (B_ CL a.ends)
 aA:∃A k,c.aA=.slice A a.arcs.length k/\DP c.P c.w 8 A a.arcs.length (B_ Cx a.arcs)
 bS:∃A k,c.bS=.slice A b.starts.length k/\DP c.P c.w 2 A b.starts.length (B_ CL b.starts)
 hs:a.starts.length<=1024/\∀x∈a.starts,0<=x.st/\x.st<a.n/\x.out.size<=1024
 he:a.ends.length<=1024/\∀x∈a.ends,0<=x.st/\x.st<a.n/\x.out.size<=1024
 ha:a.arcs.length<=16384/\∀x∈a.arcs,0<=x.fr/\x.fr<a.n/\0<=x.to/\x.to<a.n/\x.out.size<=1024/\OU x.set/\x.set≠St.none
 ks:b.starts.length<=1024/\∀x∈b.starts,0<=x.st/\x.st<b.n/\x.out.size<=1024
 ke:b.ends.length<=1024/\∀x∈b.ends,0<=x.st/\x.st<b.n/\x.out.size<=1024
 ka:b.arcs.length<=16384/\∀x∈b.arcs,Th x/\0<=x.to/\x.to<(c.n:Int)/\x.out.size<=1024
 arcs:GE c.P Cx 8 c.w c.L c.n (FA b.arcs b.arcs.length)
 ends:GE c.P CL 2 c.w c.E c.n (KI b.ends b.ends.length)
end
section
inductive RT (succ:Nat->List Int):Nat->Nat->Prop
 | refl (s:Nat):RT succ s s
 | step {s y z:Nat} (h:RT succ s y) (hz:(z:Int)∈succ y):RT succ s z
theorem RT.trans {succ:Nat->List Int} {s y z:Nat} (h:RT succ s y) (k:RT succ y z):RT succ s z:=by
 induction k with
 | refl=>exact h
 | step _ hz ih=>exact .step ih hz
theorem RT.head {succ:Nat->List Int} {s y z:Nat} (h:(y:Int)∈succ s) (k:RT succ y z):RT succ s z:=(RT.step (.refl s) h).trans k
def Lf (b:List Bool):Nat:=(b.filter fun x=>!x).length
theorem Rp:∀(b a:List Bool),b.length=a.length->(∀x,b.getD x false=true->a.getD x false=true)->Lf a<=Lf b
 | [],[],_,_=>AD _
 | [],_::_,h,_=>by cases h
 | _::_,[],h,_=>by cases h
 | x::b,x'::a,h,hm=>by
  have c:=Rp b a (by simpa using h) (fun y d=>hm (y+1) d);have h0:=hm 0;unfold Lf at *;rcases x with _|_<;>rcases x' with _|_
  .simpa using c
  .simp;omega
  .have:=h0 rfl;cases this
  .simpa using c
theorem Nj:∀(b:List Bool) (s:Nat),s<b.length->b.getD s false=false->Lf (b.set s true)+1=Lf b
 | [],s,h,_=>by cases h
 | x::b,0,_,h=>by have h:x=false:=h;subst h;unfold Lf;simp
 | x::b,s+1,h,h2=>by
  have a:=Nj b s (by simpa using h) h2;unfold Lf at *;rcases x with _|_
  .simp only[List.set_cons_succ,List.filter_cons,Bool.not_false,Dm,Bn];omega
  .simpa using a
theorem Xa (b:List Bool) (s x:Nat) (a:s<b.length):(b.set s true).getD x false=(decide (x=s) || b.getD x false):=by
 rw[AC,AC];by_cases h:x=s
 .subst h;rw[List.getElem?_set_self a];simp
 .rw [List.getElem?_set_ne (fun e=>h e.symm)];simp[h]
structure Vis (succ:Nat->List Int) (b:List Bool) (from_:Nat->Prop) (b':List Bool):Prop where
 len:b'.length=b.length
 more:∀x,b.getD x false=true->b'.getD x false=true
 new:∀x,b'.getD x false=true->b.getD x false=true\/∃s,from_ s/\RT succ s x
 closed:∀x,b'.getD x false=true->b.getD x false=true\/∀z:Nat,(z:Int)∈succ x->b'.getD z false=true
theorem Vis.refl {succ:Nat->List Int} {b:List Bool} {f:Nat->Prop}:Vis succ b f b:=⟨rfl,fun _ h=>h,fun _ h=>.inl h,fun _ h=>.inl h⟩
theorem Vis.trans {succ:Nat->List Int} {b d a:List Bool} {f g h:Nat->Prop} (v:Vis succ b f d) (u:Vis succ d g a) (e:∀s,f s->h s) (i:∀s,g s->h s):Vis succ b h a:=by
 refine⟨u.len.trans v.len,fun x c=>u.more x (v.more x c),fun x c=>?_,fun x c=>?_⟩
 .rcases u.new x c with h1|⟨s,h1,h2⟩
  .rcases v.new x h1 with h2|⟨s,h2,h3⟩
   .exact .inl h2
   .exact .inr ⟨s,e s h2,h3⟩
  .exact .inr ⟨s,i s h1,h2⟩
 .rcases u.closed x c with h1|h1
  .rcases v.closed x h1 with h2|h2
   .exact .inl h2
   .exact .inr fun z j=>u.more z (h2 z j)
  .exact .inr h1
end
section
open Go.RowKit Go.Sort
def Ib (z:Int):List Value:=[.int .i64 z]
theorem ZF (z:Int):(Ib z).length=1:=rfl
theorem ZG {w:World} {B n:Nat} {A:Option Addr} {l:List Int} (a:Reads w B 1 A n (B_ Ib l)) (j:Nat) (b:j<n) :∃g o,A=some ⟨g,o,none⟩/\g<B/\w.cell? ⟨g,o+j,none⟩=some (.int .i64 (l.getD j 0)):=by obtain⟨g,o,e,c,d⟩:=E9 ZF (by decide) a 0 j b;have:=d 0 _ rfl;rw[CG,D0]at this;exact⟨g,o,e,c,this⟩
structure VisE (w:World) (g Bs Bt Bv L n:Nat) (succ:Nat->List Int):Prop where
 cs:w.cell? ⟨Bs,0,none⟩=some (.slice (some ⟨g,0,none⟩) n n)
 ct:w.cell? ⟨Bt,0,none⟩=some (.slice (some ⟨L,0,none⟩) n n)
 cv:w.cell? ⟨Bv,0,none⟩=some (.func (.func 119) #[] #[.pointer (some ⟨Bs,0,none⟩),.pointer (some ⟨Bt,0,none⟩),.pointer (some ⟨Bv,0,none⟩)])
 ns:Bs≠g
 nt:Bt≠g
 nv:Bv≠g
 grp:GE (fun k=>k≠g/\k<w.heap.size) Ib 1 w L n succ
 ok:∀s,s<n->(succ s).length<=20000/\∀z∈succ s,0<=z/\z<(n:Int)
structure VisW (w wr:World) (g:Nat) (b:List Bool):Prop where
 box:BL wr g 4 (b.map Value.bool).toArray
 os:wr.os=w.os
 tape:wr.tape=w.tape
 output:wr.output=w.output
 size:wr.heap.size=w.heap.size
 keep:∀k,k≠g->wr.heap[k]?=w.heap[k]?
theorem VisW.cell {w wr:World} {g:Nat} {b:List Bool} (h:VisW w wr g b) (s:Nat) (a:s<b.length):wr.cell? ⟨g,s,none⟩=some (.bool (b.getD s false)):=by rw[h.box.cell];simp[a]
theorem VisW.put {w wr:World} {g:Nat} {b:List Bool} (h:VisW w wr g b) (s:Nat):VisW w (wr.setCell ⟨g,s,none⟩ (.bool true)) g (b.set s true):=by
 refine⟨?_,h.os,h.tape,h.output,by simpa using h.size,fun k a=>(Am wr _ _ k a).trans (h.keep k a)⟩;have:=h.box.set_ s (.bool true);have e:(b.map Value.bool).toArray.setIfInBounds s (.bool true)=((b.set s true).map Value.bool).toArray:=by rw[Bm,List.map_set]
 rw[e]at this;exact this
def Pb (w:World) (g:Nat) (succ:Nat->List Int) (b:List Bool) (s:Nat) (e:Ending) (w':World):Prop:=e=.returned (.tuple #[])/\∃b',VisW w w' g b'/\Vis succ b (·=s) b'/\b'.getD s false=true
theorem Xb {w:World} {g Bs Bt Bv L n:Nat} {succ:Nat->List Int} (f:VisE w g Bs Bt Bv L n succ) (_hn:n<=1024):∀(m:Nat) (wr:World) (b:List Bool) (s:Nat),Lf b<=m->VisW w wr g b->b.length=n->s<n ->Calls Tryz.prog 119 #[.int .i64 (s:Int),.pointer (some ⟨Bs,0,none⟩),.pointer (some ⟨Bt,0,none⟩),.pointer (some ⟨Bv,0,none⟩)] wr (Pb w g succ b s):=by
 intro m
 induction m with
 | zero=>
  intro wr b s G o E hs
  have d:b.getD s false=true:=by
   rcases h:b.getD s false with _|_
   .have:=Nj b s (by omega) h;omega
   .rfl
  have HP:=AB (show Pb w g succ b s (.returned (.tuple #[])) wr from⟨rfl,b,o,Vis.refl,d⟩);have c1:=(cell_kept (o.keep Bs f.ns)).trans f.cs;have H:=o.cell s (by omega);rw[d]at H;have aa:(0:Int)<=(s:Int):=by omega
  have ab:(s:Int)<(n:Int):=by omega
  clear G E d;go_enter Tryz.func119,Tryz.ntmps119;go_wp2;go_end0;exact HP.out
 | succ m ih=>
  intro wr b s G o E hs;have c1:=(cell_kept (o.keep Bs f.ns)).trans f.cs;have H:=o.cell s (by omega);have aa:(0:Int)<=(s:Int):=by omega
  have ab:(s:Int)<(n:Int):=by omega
  rcases d:b.getD s false with _|_
  .have I:=Nj b s (by omega) d
   have p:=o.put s;have f2:=o.box.frozen s;have J:(b.set s true).length=n:=by rw[DU];exact E
   have c3:=(cell_kept (p.keep Bt f.nt)).trans f.ct;obtain⟨A,c,x0,x1,x2,x3⟩:=f.grp.2 s hs;have c4:=(cell_kept (a:=⟨L,s,none⟩) (p.keep L f.grp.1.1)).trans x0;have ai:=(f.ok s hs).1;have ac:=AB I;have Hm:=AB G;have Hb:=AB E;have K:=AB J;have M:=AB (fun x=>Xa b s x (by omega));rw[d]at H;generalize N:b.set s true=b1 at *;have aj:=AB d;generalize O:(succ s).length=P at *;have Q:=AB O;clear d I G E J x0 O N;go_enter Tryz.func119,Tryz.ntmps119;go_wp2;clear c1 H c3 c4 f2;go_loopw [19] (fun i w2=>∃(k:Nat) (u:List Bool),k<=P/\i=.int .i64 ((k:Nat):Int)/\VisW w w2 g u/\Vis succ b1 (fun z=>(z:Int)∈succ s) u/\(∀j,j<k->∀z:Nat,(succ s).getD j 0=(z:Int)->u.getD z false=true)) (fun i _=>P-(intOf i).toNat)
   case atStart=>exact⟨0,b1,AN _,rfl,p,Vis.refl,fun j hj=>absurd hj (B6 _)⟩
   case round=>
    clear p o;obtain⟨k,u,hk,rfl,r,R,S⟩:=hrel;have l:=AB R;have T:=AB S;clear R S;by_cases ad:k<P
    .have ak:(0:Int)<=(k:Int):=by omega
     have al:(k:Int)<(P:Int):=by omega
     obtain⟨gx,ox,rfl,am,d0⟩:=ZG ((x3.kept fun q hq=>r.keep q hq.1).reads (B:=w.heap.size) fun q hq=>hq.2) k ad;have C:(succ s).getD k 0∈succ s:=getD_in _ _ _ (by have:=Q.out;omega);obtain⟨z1,z2⟩:=(f.ok s hs).2 _ C;obtain⟨z,F⟩:∃z:Nat,(succ s).getD k 0=(z:Int):=⟨_,(AT z1).symm⟩
     have Hz:=AB F;rw[F]at d0;have cv:=(cell_kept (r.keep Bv f.nv)).trans f.cv;have U:u.length=n:=by have:=l.out.len;have:=K.out;omega
     have hC:=ih wr u z (by have:=Rp b1 u l.out.len.symm l.out.more;have:=ac.out;have:=Hm.out;omega) r U (by omega);have ae:Hid ((z:Int)∈succ s):=AB (by rw[<-F];exact C);clear F C z1 z2 U
     go_wp2_with fail
     refine hC.mono ?_;rintro e w3 ⟨rfl,b3,af,V,W⟩;have X:=AB V;have ag:=AB W;clear V W hC d0 cv;go_wp2;go_roundw
     case rel=>
      refine⟨k+1,b3,by omega,by go_num,af,l.out.trans X.out (fun _ h=>h) (fun x D=>by rw[D];exact ae.out),fun j hj y hy=>?_⟩;by_cases ah:j=k
      .subst ah
       have:(z:Int)=(y:Int):=by rw[<-Hz.out,<-hy]
       have:y=z:=by omega
       rw[this];exact ag.out
      .exact X.out.more y (T.out j (by omega) y hy)
     case measure=>simp[intOf];omega
    .obtain rfl:k=P:=by omega
     have v:Pb w g succ b s (.returned (.tuple #[])) wr:=by
      have Y:=l.out;have t:∀x,b1.getD x false=true↔x=s\/b.getD x false=true:=fun x=>by rw[M.out x];simp
      refine⟨rfl,u,r,⟨?_,fun x D=>?_,fun x D=>?_,fun x D=>?_⟩,?_⟩
      .have:=Y.len;have:=K.out;have:=Hb.out;omega
      .exact Y.more x ((t x).2 (.inr D))
      .rcases Y.new x D with h|⟨y,hy,hr⟩
       .rcases (t x).1 h with rfl|h
        .exact .inr ⟨x,rfl,.refl x⟩
        .exact .inl h
       .exact .inr ⟨s,rfl,RT.head hy hr⟩
      .rcases Y.closed x D with h|h
       .rcases (t x).1 h with rfl|h
        .refine .inr fun z F=>?_
         obtain⟨j,hj,he⟩:=Bp.1 F;refine T.out j (by have:=Q.out;omega) z ?_;rw[AC,AG hj];exact he
        .exact .inl h
       .exact .inr h
      .exact Y.more s ((t s).2 (.inl rfl))
     have Z:=AB v;clear v;go_wp2;go_end0;exact Z.out
  .have HP:=AB (show Pb w g succ b s (.returned (.tuple #[])) wr from⟨rfl,b,o,Vis.refl,d⟩);rw[d]at H;clear G E d ih;go_enter Tryz.func119,Tryz.ntmps119;go_wp2;go_end0;exact HP.out
end
section
open Go.RowKit Go.Sort
section
variable {w w':World} {g Bs Bt Bv L n:Nat} {succ:Nat->List Int}
theorem VisE.below (h:VisE w g Bs Bt Bv L n succ) (a:Below w.heap.size w w'):VisE w' g Bs Bt Bv L n succ:=
 ⟨(a.cell (GP h.cs)).trans h.cs,(a.cell (GP h.ct)).trans h.ct,(a.cell (GP h.cv)).trans h.cv,h.ns,h.nt,h.nv,
  ⟨⟨h.grp.1.1,Aj h.grp.1.2 a.size⟩,fun s d=>by obtain⟨A,c,h1,h2,h3,h4⟩:=(h.grp.kept (w':=w') fun k b=>a.block k b.2).2 s d;exact⟨A,c,h1,h2,h3,h4.mono fun k b=>⟨b.1,Aj b.2 a.size⟩⟩⟩,h.ok⟩
theorem VisE.vis {b:List Bool} (h:VisE w g Bs Bt Bv L n succ) (a:VisW w w' g b):VisE w' g Bs Bt Bv L n succ:=
 ⟨(cell_kept (a.keep Bs h.ns)).trans h.cs,(cell_kept (a.keep Bt h.nt)).trans h.ct,(cell_kept (a.keep Bv h.nv)).trans h.cv,h.ns,h.nt,h.nv,
  ⟨⟨h.grp.1.1,by rw[a.size];exact h.grp.1.2⟩,fun s e=>by obtain⟨A,c,h1,h2,h3,h4⟩:=(h.grp.kept (w':=w') fun k d=>a.keep k d.1).2 s e;exact⟨A,c,h1,h2,h3,h4.mono fun k d=>⟨d.1,by rw[a.size];exact d.2⟩⟩⟩,h.ok⟩
theorem VisW.below {b:List Bool} (h:VisW w w' g b) {B:Nat} (a:B<=g):Below B w w':=⟨h.os,h.tape,h.output,by rw[h.size];exact AD _,fun k c=>h.keep k (by omega)⟩
end
theorem DG {w:World} {base g n:Nat} {e:TypeId} {xs:List Value} (h:w.ownsRow base e 1 (.slice (some ⟨g,0,none⟩) n n) n xs):BL w g e xs.toArray:=by
 obtain⟨i,h|⟨j,cap,a,b,_,c,k,_,d,f⟩⟩:=h
 .obtain ⟨h,_⟩:=h;cases h
 .injection b with hv1 _ hv2
  injection hv1 with hv1
  injection hv1 with hv1
  subst hv1 hv2;have:a=xs.toArray:=by rw[<-f,BX (by rw[FL];omega)]
  rw[<-this];exact c
theorem Xc:(Tryz.prog.info? 4).map (fun i=>(i.zero,i.size,i.bytes))=some (some (.bool false),1,1):=by kernel_rfl
def Rr (tips:List Tp) (succ:Nat->List Int) (n:Nat) (w:World) (e:Ending) (w':World):Prop:=∃(g:Nat) (b:List Bool),e=.returned (.slice (some ⟨g,0,none⟩) n n)/\w.heap.size<=g/\BL w' g 4 (b.map Value.bool).toArray/\b.length=n/\(∀x,b.getD x false=true↔∃t∈tips,∃s:Nat,t.st=(s:Int)/\RT succ s x)/\Below w.heap.size w w'
theorem Rs (A:Option Addr) (u c B L n:Nat) (tips:List Tp) (succ:Nat->List Int) (w:World) (HR:Reads w B 2 A u (B_ CL tips)) (hB:B<=w.heap.size) (F:GE (fun k=>k<w.heap.size) Ib 1 w L n succ) (hn:n<=1024) (Q:∀s,s<n->(succ s).length<=20000/\∀z∈succ s,0<=z/\z<(n:Int)) (ht:u<=100000/\∀t∈tips,0<=t.st/\t.st<(n:Int)) :Calls Tryz.prog 92 #[.slice A u c,.slice (some ⟨L,0,none⟩) n n] w (Rr tips succ n w):=by
 obtain⟨i0,hi,R,S,T⟩:=BK Xc;have U:i0.bytes*n<=281474976710656:=by rw[T];omega
 have ai:n<=maxLen:=by unfold maxLen;omega
 have p:=FE Dg (by decide) HR;have V:=AB p;have Ht:=AB ht.2;have au:=ht.1;have aj:=HR.more hB;have g:w.heap.size+1<=(w.alloc (.cells #[.slice (some ⟨L,0,none⟩) n n] 22)).heap.size:=by simp
 have Jt:=BL.new w 22 #[.slice (some ⟨L,0,none⟩) n n];have G:=(AH w.heap.size w).alloc (AD _) (.cells #[.slice (some ⟨L,0,none⟩) n n] 22);have av:∀(fn:Fn) (first cap:Array Value) (w:World),(Instr.makeFunc fn first cap).run Tryz.prog w=.ok (.func fn first cap) w:=fun _ _ _ _=>rfl
 have aw:∀(a:Addr) (fn:Fn) (first cap:Array Value) (m:Mode) (w:World),(store a (.func fn first cap) m).run Tryz.prog w=stored Tryz.prog w a (.func fn first cap) m:=fun a fn first cap m w=>run_store Tryz.prog w a _ m rfl
 have cL:=Jt.cell 0;clear HR p ht;go_enter Tryz.func92,Tryz.ntmps92
 go_wp2_with (at_make;refine Cw _ rfl _ _ 24 rfl (w.heap.size+1) 4 i0 _ 1 Tryz.underlying24 hi R S _ _ (n:Int) (n:Int) n rfl rfl rfl rfl U ai g ?_;intro d f W)
 have H:=(AH (w.alloc (.cells #[.slice (some ⟨L,0,none⟩) n n] 22)).heap.size _).grown W (AD _) (fun k e=>by cases e);have I:=G.trans (H.mono (by simp));have X:=Jt.below H Jt.lt;rw[show(Value.bool false).cells=#[Value.bool false]from rfl,CG,BZ]at f
 have l:d.ownsRow (w.heap.size+1) 4 1 (.slice (some ⟨w.heap.size+1,0,none⟩) n n) n (List.replicate n (.bool false)):=by
  have e:(w.alloc (.cells #[.slice (some ⟨L,0,none⟩) n n] 22)).heap.size=w.heap.size+1:=by simp
  rw[e]at f;exact f
 have o:=DG l;have ax:w.heap.size+1<d.heap.size:=o.lt;rw[show(List.replicate n (Value.bool false)).toArray=((List.replicate n false).map Value.bool).toArray by rw[List.map_replicate]]at o;have L2:=(AH d.heap.size d).alloc (AD _) (.cells #[.slice (some ⟨w.heap.size+1,0,none⟩) n n] 24);have Y:=L2.alloc (by simp) (.cells #[.func (.func 119) #[] #[.pointer (some ⟨d.heap.size,0,none⟩),.pointer (some ⟨w.heap.size,0,none⟩),.pointer (some ⟨d.heap.size+1,0,none⟩)]] 136)
 have Z:VisE ((d.alloc (.cells #[.slice (some ⟨w.heap.size+1,0,none⟩) n n] 24)).alloc (.cells #[.func (.func 119) #[] #[.pointer (some ⟨d.heap.size,0,none⟩),.pointer (some ⟨w.heap.size,0,none⟩),.pointer (some ⟨d.heap.size+1,0,none⟩)]] 136)) (w.heap.size+1) d.heap.size w.heap.size (d.heap.size+1) L n succ:=by
  have B2:=(BL.new d 24 #[.slice (some ⟨w.heap.size+1,0,none⟩) n n]).alloc (.cells #[.func (.func 119) #[] #[.pointer (some ⟨d.heap.size,0,none⟩),.pointer (some ⟨w.heap.size,0,none⟩),.pointer (some ⟨d.heap.size+1,0,none⟩)]] 136);have B3:=BL.new (d.alloc (.cells #[.slice (some ⟨w.heap.size+1,0,none⟩) n n] 24)) 136 #[.func (.func 119) #[] #[.pointer (some ⟨d.heap.size,0,none⟩),.pointer (some ⟨w.heap.size,0,none⟩),.pointer (some ⟨d.heap.size+1,0,none⟩)]];rw[Ad]at B3;have aa:=I.trans (Y.mono (by omega));have ay:=aa.size;refine⟨B2.cell 0,(X.below Y (by omega)).cell 0,B3.cell 0,by omega,by omega,by omega,?_,Q⟩;have J:=F.kept fun k hk=>aa.block k hk
  refine⟨⟨by have:=J.1;omega,by have:=J.1;omega⟩,fun s hs=>?_⟩;obtain⟨A0,c0,h1,h2,h3,h4⟩:=J.2 s hs;exact⟨A0,c0,h1,h2,h3,h4.mono fun k hk=>⟨by omega,by omega⟩⟩
 have ab:=o.below Y o.lt;have ac:=I.trans (Y.mono (by omega));clear f l W H Jt X G L2 Y F Q I o cL g hi R S T U;generalize ((d.alloc (.cells #[.slice (some ⟨w.heap.size+1,0,none⟩) n n] 24)).alloc (.cells #[.func (.func 119) #[] #[.pointer (some ⟨d.heap.size,0,none⟩),.pointer (some ⟨w.heap.size,0,none⟩),.pointer (some ⟨d.heap.size+1,0,none⟩)]] 136))=w2 at *;generalize d.heap.size=Bs at *;go_loopw [15] (fun i wr=>∃(k:Nat) (b:List Bool),k<=u/\i=.int .i64 ((k:Nat):Int)/\VisE wr (w.heap.size+1) Bs w.heap.size (Bs+1) L n succ/\BL wr (w.heap.size+1) 4 (b.map Value.bool).toArray/\Below w.heap.size w wr /\Vis succ (List.replicate n false) (fun s=>∃t∈tips,t.st=(s:Int)) b/\(∀j,j<k->∀s:Nat,(tips.getD j DI).st=(s:Int)->b.getD s false=true)) (fun i _=>u-(intOf i).toNat)
 case atStart=>exact⟨0,_,AN _,rfl,Z,ab,ac,Vis.refl,fun j K=>absurd K (B6 _)⟩
 case round=>
  clear Z ab ac;obtain⟨k,b,hk,rfl,HE,F,hb,hv,K⟩:=hrel;have Hv:=AB hv;have Hj:=AB K;have v:b.length=n:=by rw[hv.len,List.length_replicate]
  have C:=AB v;clear hv K v;by_cases p:k<u
  .have az:(0:Int)<=(k:Int):=by omega
   have a0:(k:Int)<(u:Int):=by omega
   obtain⟨gx,ox,rfl,a1,d0,d1⟩:=Dh (aj.below hb) k p;have M:tips.getD k DI∈tips:=getD_in _ _ _ (by have:=V.out;omega);obtain⟨t1,t2⟩:=Ht.out _ M;have ak:Hid (tips.getD k DI=tips.getD k DI):=AB rfl;generalize D:tips.getD k DI=x at *;have Hx:=AB D;obtain⟨xs,xo⟩:=x;simp only at d0 d1 t1 t2;obtain⟨s,rfl⟩:∃s:Nat,xs=(s:Int):=⟨_,(AT t1).symm⟩
   have hs:s<n:=by omega
   have G:=(AH wr.heap.size wr).alloc (AD _) (.cells #[.int .i64 (s:Int),.string xo] 54);have q:=HE.below G;have ad:=F.below G F.lt;have hC:=Xb q hn (Lf b) _ b s (AD _) ⟨ad,rfl,rfl,rfl,rfl,fun _ _=>rfl⟩ C.out hs;have cv:=q.cv;have al:Hid (∃t∈tips,t.st=(s:Int)):=AB ⟨_,M,rfl⟩;have am:=hb.trans (G.mono hb.size);clear D M HE F G ak
   go_wp2_with fail
   refine hC.mono ?_;rintro e w3 ⟨rfl,b3,r,ae,af⟩;have an:=q.vis r;have ao:=am.trans (r.below (B:=w.heap.size) (by omega));have ag:=AB ae;have ap:=AB af;have aq:=r.box;clear hC q ad cv ae af d0 d1 r;go_wp2;go_roundw
   case rel=>
    refine⟨k+1,b3,by omega,by go_num,an,aq,ao,Hv.out.trans ag.out (fun _ h=>h) (fun y P=>by rw[P];exact al.out),fun j K y P=>?_⟩;by_cases ar:j=k
    .subst ar
     rw[Hx.out]at P;have P:(s:Int)=(y:Int):=P;have:y=s:=by omega
     rw[this];exact ap.out
    .exact ag.out.more y (Hj.out j (by omega) y P)
   case measure=>simp[intOf];omega
  .obtain rfl:k=u:=by omega
   have cs:=HE.cs
   have E:Rr tips succ n w (.returned (.slice (some ⟨w.heap.size+1,0,none⟩) n n)) wr:=by
    have h0:∀x,(List.replicate n false).getD x false=true->False:=fun x D=>by rw[AC,CC]at D;split at D<;>cases D
    refine⟨_,b,rfl,EQ _,F,C.out,fun x=>⟨fun D=>?_,?_⟩,hb⟩
    .rcases Hv.out.new x D with h|⟨s,⟨t,N,O⟩,hr⟩
     .exact (h0 x h).elim
     .exact ⟨t,N,s,O,hr⟩
    .rintro ⟨t,N,s,O,hr⟩
     have hs:b.getD s false=true:=by obtain⟨j,K,he⟩:=Bp.1 N;refine Hj.out j (by have:=V.out;omega) s ?_;rw[AC,AG K];show tips[j].st=_;rw[he];exact O
     induction hr with
     | refl=>exact hs
     | step _ hz ih=>
      rcases Hv.out.closed _ ih with h|h
      .exact (h0 _ h).elim
      .exact h _ hz
   have ah:=AB E;clear E;go_wp2;go_ret;exact ah.out
end
section
open Go.RowKit Go.Sort
theorem M8 (l:List Tp):EU l=if It (Gf l)=true then .error 12 else if 4096<(EZ ((Gf l).map Tp.out)).size then .error 2 else if(Gf l).any (fun x=>decide (4096<(Ie (EZ ((Gf l).map Tp.out)).size x).out.size))=true then .error 2 else .ok (EZ ((Gf l).map Tp.out),(Gf l).map (Ie (EZ ((Gf l).map Tp.out)).size)):=rfl
def Kq (g c:Nat) (l:List Tp) (w:World) (e:Ending) (w':World):Prop:=
 (∀B,B<=g->Below B w w')/\match EU l with
  | .error k=>e=FP k
  | .ok (f,r)=>e=.returned (.tuple #[.string f,.slice (some ⟨g,0,none⟩) r.length c])/\EV CL 2 w' g r.length fun a=>r.getD a DI
theorem Rt (g c:Nat) (l:List Tp) (w:World) (A:EV CL 2 w g l.length fun a=>l.getD a DI) (hg:g<w.heap.size) (hc:l.length<=c) (hm:c<=maxLen) (hn:l.length<=1000000) (h0:0<l.length) (b0:∀x∈l,x.out.size<=1000000) :Calls Tryz.prog 61 #[.slice (some ⟨g,0,none⟩) l.length c] w (Kq g c l w):=by
 obtain⟨r,Y⟩:∃r,r=Gf l:=⟨_,rfl⟩
 have a2:0<r.length:=by
  obtain⟨x,C⟩:∃x,x∈l:=List.exists_mem_of_length_pos h0
  have:x∈r:=by rw[Y,EY];exact C
  exact List.length_pos_of_mem this
 have ak:∀x∈r,x.out.size<=1000000:=fun x C=>b0 x (by rw[Y,EY]at C;exact C)
 have ab:∀W,(∀B,B<=g->Below B w W)->It r=true->Kq g c l w (FP 12) W:=fun W G X=>by
  refine⟨G,?_⟩;have e:EU l=.error 12:=by rw[M8,<-Y,AU X]
  rw[e]
 have a3:∀W,(∀B,B<=g->Below B w W)->It r=false->4096<(EZ (r.map Tp.out)).size->Kq g c l w (FP 2) W:=fun W G X hf=>by
  refine⟨G,?_⟩;have e:EU l=.error 2:=by rw[M8,<-Y,AP (by rw[X];decide),AU hf]
  rw[e]
 have a4:∀W,(∀B,B<=g->Below B w W)->It r=false->¬4096<(EZ (r.map Tp.out)).size->(∃x∈r,4096<(Ie (EZ (r.map Tp.out)).size x).out.size)->Kq g c l w (FP 2) W:=fun W G X hf ⟨x,C,al⟩=>by
  refine⟨G,?_⟩;have e:EU l=.error 2:=by rw[M8,<-Y,AP (by rw[X];decide),AP hf,AU];rw[List.any_eq_true];exact⟨x,C,by simpa using al⟩
  rw[e]
 have a5:∀W,(∀B,B<=g->Below B w W)->It r=false->¬4096<(EZ (r.map Tp.out)).size->(∀x∈r,(Ie (EZ (r.map Tp.out)).size x).out.size<=4096)->EV CL 2 W g r.length (PS r (EZ (r.map Tp.out)).size r.length) ->Kq g c l w (.returned (.tuple #[.string (EZ (r.map Tp.out)),.slice (some ⟨g,0,none⟩) r.length c])) W:=fun W G X hf a6 hR=>by
  refine⟨G,?_⟩;have e:EU l=.ok (EZ (r.map Tp.out),r.map (Ie (EZ (r.map Tp.out)).size)):=by rw[M8,<-Y,AP (by rw[X];decide),AP hf,AP];rw[List.any_eq_true];rintro⟨x,C,al⟩;have:=a6 x C;have:=of_decide_eq_true al;omega
  rw[e];refine⟨by rw[A6],?_⟩;rw[A6];refine hR.congr fun a ha=>?_
  unfold PS;rw[AU ha,AC,AC,Ag,AG ha];rfl
 have a7:=AB ab;have b1:=AB a3;have b2:=AB a4;have b3:=AB a5;clear ab a3 a4 a5;have ac:=AB (MM _ X1f QE g c l w A hg hn);have ad:=AB (fun W (h1:EV CL 2 W g (Eo l).length fun a=>(Eo l).getD a DI) (h2:g<W.heap.size)=>N0 g c (Eo l) W h1 h2 (by rw[Fp];exact hc) hm (by rw[Fp];exact hn));have H:=Jk (Eo l) (Eo l).length;rw[CR,Fp]at H;replace H:(Gf l).length<=l.length:=H;rw[<-Y]at H;have a8:=AB Y;clear Y;go_enter Tryz.func61,Tryz.ntmps61
 go_wp2_with fail
 refine ac.out.mono ?_;rintro e w2 ⟨rfl,a9,am⟩;have ba:g<w2.heap.size:=Aj hg (am 0 (by omega)).size;have an:=ad.out w2 a9 ba;rw[Fp]at an;have ae:Calls Tryz.prog 81 #[.slice (some ⟨g,0,none⟩) l.length c] w2 fun e w'=>e=.returned (.slice (some ⟨g,0,none⟩) r.length c)/\EV CL 2 w' g r.length (fun a=>r.getD a DI)/\(∀B,B<=g->Below B w2 w'):=by rw[a8.out];exact an
 have bb:=AB ae;clear A a9 ac ad an ae
 go_wp2_with fail
 refine bb.out.mono ?_;rintro e w3 ⟨rfl,bc,ao⟩;have b4:g<w3.heap.size:=Aj ba (ao 0 (by omega)).size;have af:∀B,B<=g->Below B w w3:=fun B D=>(am B D).trans (ao B D)
 have bd:=AB af;have Hl:=AB H;have cb:r.length<=1000000:=by omega
 have cc:r.length<=c:=by omega
 clear bb a8 am ao af H;generalize E:r.length=m at *;have I:=AB E;clear E;obtain⟨i0,hi,be,bf,bg⟩:=BK GI;have bh:i0.bytes*m<=281474976710656:=by rw[bg];omega
 have bi:m<=maxLen:=by unfold maxLen;omega
 go_wp2_with (at_make;refine Cw _ rfl _ _ 25 rfl w3.heap.size 9 i0 _ 1 Tryz.underlying25 hi be bf _ _ (m:Int) (m:Int) m rfl rfl rfl rfl bh bi (AD _) ?_;intro w4 P bj)
 have ap:=(AH w3.heap.size w3).grown bj (AD _) (fun k e=>by cases e);rw[show(Value.string ByteArray.empty).cells=#[Value.string ByteArray.empty]from rfl,CG,BZ]at P;have hG:=DG P;rw[<-VU r]at hG;have bk:=bc.below ap b4;have cd:w3.heap.size<w4.heap.size:=hG.lt;have ag:∀B,B<=g->Below B w w4:=fun B D=>(bd.out B D).trans (ap.mono (by omega))
 have b5:=AB ag;clear ag P bj ap bc hi be bf bg bh bd;generalize w3.heap.size=O at *;go_loopw [18] (fun i wr=>∃(k:Nat),k<=m/\i=.int .i64 ((k:Nat):Int)/\EV CL 2 wr g m (fun a=>r.getD a DI)/\BL wr O 9 (Ly r m k)/\(∀B,B<=g->Below B w wr)/\∀j,0<j->j<k->(r.getD (j-1) DI).st≠(r.getD j DI).st) (fun i _=>m-(intOf i).toNat)
 case atStart=>exact⟨0,AN _,rfl,bk,hG,b5.out,fun j _ h=>absurd h (B6 _)⟩
 case round=>
  clear bk hG;obtain⟨k,hk,rfl,A,HG,G,bl⟩:=hrel;have HB:=AB G;have aq:=AB bl;clear G bl;have ar:g<wr.heap.size:=Aj hg (HB.out 0 (by omega)).size;by_cases s:k<m
  .have b6:(0:Int)<=(k:Int):=by omega
   have b7:(k:Int)<(m:Int):=by omega
   have d0:wr.cell? ⟨g,k*2,none⟩=some (.int .i64 (r.getD k DI).st):=A.1 k 0 _ s rfl;have d1:wr.cell? ⟨g,k*2+1,none⟩=some (.string (r.getD k DI).out):=A.1 k 1 _ s rfl;obtain⟨xs,au⟩:∃xs,xs=(r.getD k DI).st:=⟨_,rfl⟩
   obtain⟨n,av⟩:∃n,n=(r.getD k DI).out:=⟨_,rfl⟩
   rw[<-au]at d0;rw[<-av]at d1;have bm:=AB au;have b8:=AB av;clear au av;have Z:=(AH wr.heap.size wr).alloc (AD _) (.cells #[.int .i64 xs,.string n] 54);have d:=A.below Z ar;have b:=HG.below Z HG.lt;have HX:=BL.new wr 54 #[.int .i64 xs,.string n];have b9:=AB (fun B (D:B<=g)=>(HB.out B D).trans (Z.mono (by omega)));clear Z A HG;have x0:=AF (HX.cell 0);have aw:(Ly r m k).size=m:=by unfold Ly;simp
   have HW:=AB (fun J (Z:Below (wr.alloc (.cells #[.int .i64 xs,.string n] 54)).heap.size (wr.alloc (.cells #[.int .i64 xs,.string n] 54)) J)=>AI (d.below Z (by simp;omega)) (AI (b.below Z b.lt) (AI (HX.below Z HX.lt) (fun B (D:B<=g)=>(b9.out B D).trans (Z.mono (by simp;omega))))));have Q:(Ly r m k)[k]?=some (.string ByteArray.empty):=by unfold Ly;simp[s]
   have ax:=AB (XY r m k);rw[<-b8.out]at ax;rcases B7 k with bn|bn
   .subst bn
    clear d b HX;go_wp2;clear d0 d1;refine Au (by kernel_rfl) (by kernel_rfl) ?_
    repeat (go_big_quiet_step (fail))
    refine Ah ?_;intro J K;obtain⟨d,b,L,o⟩:=HW.out J (Bu K);have x1:=L.cell 1;have cG:=(b.cell 0).trans Q;have fG:=b.frozen 0;have M:=d.below ((AH O J).setCell (p:=⟨O,0,none⟩) (AD _) (.string n)) (by omega);have R:=b.set_ 0 (.string n);rw[ax.out]at R;have N:=AB (fun B (D:B<=g)=>(o B D).setCell (p:=⟨O,0,none⟩) (by show B<=O;omega) (.string n));clear K x0 d b L o Q aw;go_wp2;go_roundw
    case rel=>exact⟨0+1,by omega,by go_num,M,R,N.out,fun j h1 h2=>absurd h2 (by omega)⟩
    case measure=>simp[intOf];omega
   .obtain ⟨t,rfl⟩:∃t,k=t+1:=⟨k-1,by omega⟩
    have e0:(wr.alloc (.cells #[.int .i64 xs,.string n] 54)).cell? ⟨g,t*2,none⟩=some (.int .i64 (r.getD t DI).st):=d.1 t 0 _ (by omega) rfl;have ay:=AF e0;have ce:(0:Int)<=(t:Int):=by omega
    have cf:(t:Int)<(m:Int):=by omega
    have cg:(t:Int)+1<(m:Int):=by omega
    obtain⟨ps,az⟩:∃ps,ps=(r.getD t DI).st:=⟨_,rfl⟩
    rw[<-az]at ay;have bo:=AB az;clear d b HX e0 az;go_wp2;clear d0 d1;refine Au (by kernel_rfl) (by kernel_rfl) ?_
    repeat (go_big_quiet_step (fail))
    refine Ah ?_;intro J K;obtain⟨d,b,L,o⟩:=HW.out J (Bu K);have bp:=AB (show(ps==xs)=true↔ps=xs from DF);generalize (ps==xs)=q at *;rcases q with _|_
    .have x1:=L.cell 1
     have cG:=(b.cell (t+1)).trans Q;have fG:=b.frozen (t+1);have M:=d.below ((AH O J).setCell (p:=⟨O,t+1,none⟩) (AD _) (.string n)) (by omega);have R:=b.set_ (t+1) (.string n);rw[ax.out]at R;have N:=AB (fun B (D:B<=g)=>(o B D).setCell (p:=⟨O,t+1,none⟩) (by show B<=O;omega) (.string n));clear K x0 ay d b L o Q aw;go_wp2;go_roundw
     case rel=>
      refine⟨t+1+1,by omega,by go_num,M,R,N.out,fun j h1 h2=>?_⟩;rcases BF j (t+1)with h|h
      .exact aq.out j h1 h
      .obtain rfl:j=t+1:=by omega
       rw[<-bm.out,Nat.add_sub_cancel,<-bo.out];intro e;exact absurd (bp.out.2 e) (by decide)
     case measure=>simp[intOf];omega
    .have X:It r=true:=(Og r).2 ⟨t+1,by omega,by rw[I.out];exact s,by rw[Nat.add_sub_cancel,<-bo.out,<-bm.out];exact bp.out.1 rfl⟩;have S:=AB (a7.out J o X);clear K x0 ay d b L o Q aw X;go_wp2;exact⟨rfl,S.out⟩
  .obtain rfl:m=k:=by omega
   have T:It r=false:=by
    rcases h:It r with _|_
    .rfl
    .obtain ⟨j,h1,h2,h3⟩:=(Og r).1 h;rw[I.out]at h2;exact absurd h3 (aq.out j h1 h2)
   have bq:Reads wr wr.heap.size 1 (some ⟨O,0,none⟩) m ((r.map Tp.out).map Value.string):=by have E:=I.out;subst E;rw[XZ]at HG;refine⟨by simp,fun _=>⟨_,rfl,HG.lt,fun j u hu=>?_⟩⟩;rw[Gq,C8,HG.cell];simpa using hu
   have ah:Calls Tryz.prog 94 #[.slice (some ⟨O,0,none⟩) m m] wr (C7 (.string (EZ (r.map Tp.out))) wr):=by
    have E:=I.out;rcases r with _|⟨x,r'⟩
    .simp at E;omega
    .subst E;have:=Tk (some ⟨O,0,none⟩) (r'.length+1) x.out (r'.map Tp.out) wr (by simpa using bq) (fun y hy=>by have ca:y∈(x::r').map Tp.out:=hy;obtain⟨z,hz,rfl⟩:=Bd.1 ca;have:=ak z hz;unfold maxLen;omega) (by simp) (by simpa using bi);rw[A6]at this;exact this
   have U:∀x∈r,(EZ (r.map Tp.out)).size<=x.out.size:=fun x C=>by have h1:=(Tl (r.map Tp.out) x.out (Bd.2 ⟨x,C,rfl⟩)).length_le;rwa [CK,CK]at h1
   have F:∀a,a<m->r.getD a DI∈r:=fun a ha=>getD_in r DI a (by rw[I.out];exact ha)
   have a0:=AB T;have br:=AB U;have V:=AB F;have bs:=AB ah;have ch:(EZ (r.map Tp.out)).size<=1000000:=AK (U _ (F 0 a2)) (ak _ (F 0 a2));clear T U F ah bq HG aq;generalize EZ (r.map Tp.out)=f at *
   go_wp2_with fail
   refine bs.out.mono ?_;rintro e J ⟨rfl,o⟩;have d:=A.below o ar;have ci:g<J.heap.size:=Aj ar o.size;have bt:=AB (fun B (D:B<=g)=>(HB.out B D).trans (o.mono (by omega)));by_cases hf:f.size<=4096
   .have aa:=Of f J hf
    go_wp2_with fail
    refine aa.mono ?_;rintro e w6 ⟨rfl,rfl⟩;have cj:(f.size:Int)<=9223372036854775807:=by omega
    have bu:EV CL 2 w6 g m (PS r f.size 0):=d.congr fun a _=>(AP (B6 a)).symm
    clear d aa A bs;go_wp2;go_loopw [50] (fun i wr=>∃(k:Nat),k<=m/\i=.int .i64 ((k:Nat):Int)/\EV CL 2 wr g m (PS r f.size k)/\(∀B,B<=g->Below B w wr)/\∀j,j<k->(Ie f.size (r.getD j DI)).out.size<=4096) (fun i _=>m-(intOf i).toNat)
    case atStart=>exact⟨0,AN _,rfl,bu,bt.out,fun j h=>absurd h (B6 _)⟩
    case round=>
     clear bu;obtain⟨k,hk,rfl,A,G,bv⟩:=hrel;have HB:=AB G;have bw:=AB bv;clear G bv;by_cases s:k<m
     .have b6:(0:Int)<=(k:Int):=by omega
      have b7:(k:Int)<(m:Int):=by omega
      have bx:PS r f.size k k=r.getD k DI:=AP (C9 k);have d1:wr.cell? ⟨g,k*2+1,none⟩=some (.string (r.getD k DI).out):=A.1 k 1 _ s (by rw[bx];rfl);have df:=A.2 (k*2+1) (by omega);have hcut:(Ie f.size (r.getD k DI)).out=(r.getD k DI).out.extract f.size (r.getD k DI).out.size:=rfl;have M:=ZD A s;rw[hcut]at M;have ck:=br.out _ (V.out k s);have cl:=ak _ (V.out k s)
      have ai:=AB (fun(h:(Ie f.size (r.getD k DI)).out.size<=4096) j (hj:j<k+1)=>show(Ie f.size (r.getD j DI)).out.size<=4096 by
       rcases BF j k with h1|h1
       .exact bw.out j h1
       .obtain rfl:j=k:=by omega
        exact h)
      rw[hcut]at ai;have aj:=AB (fun(h:4096<(Ie f.size (r.getD k DI)).out.size)=>(⟨_,V.out k s,h⟩:∃x∈r,4096<(Ie f.size x).out.size));rw[hcut]at aj;have N:=AB (fun v B (D:B<=g)=>(HB.out B D).setCell (p:=⟨g,k*2+1,none⟩) (by show B<=g;omega) v);clear bx hcut A;generalize (r.getD k DI).out=n at *;have cm:(f.size:Int)<=(n.size:Int):=by omega
      have cn:n.size<=maxLen:=by unfold maxLen;omega
      have co:(n.extract f.size n.size).size<=1000000:=by rw[ByteArray.size_extract];omega
      by_cases C:(n.extract f.size n.size).size<=4096
      .have a1:=fun W=>Of (n.extract f.size n.size) W C
       go_wp2_with fail
       refine(a1 _).mono ?_;rintro e w6 ⟨rfl,rfl⟩;go_wp2;go_roundw
       case rel=>exact⟨k+1,by omega,by go_num,M,N.out _,ai.out C⟩
       case measure=>simp[intOf];omega
      .have a1:=fun W=>QN (n.extract f.size n.size) W (by unfold maxLen;omega) C
       go_wp2_with fail
       refine(a1 _).mono ?_;rintro e w6 ⟨he,rfl⟩;unfold FP at he;subst he;go_wp2;exact⟨rfl,b2.out _ (N.out _) a0.out (by omega) (aj.out (by omega))⟩
     .obtain rfl:m=k:=by omega
      have bz:=AB (b3.out wr HB.out a0.out (by omega) (fun x C=>by obtain⟨j,hj,rfl⟩:=Bp.1 C;have:=bw.out j (by have:=I.out;omega);rwa [AC,AG hj]at this) A);clear A;go_wp2;exact AQ (v:=.tuple #[.string f,.slice (some ⟨g,0,none⟩) m c]) (by simp[results,Tryz.results61,go_sem]) rfl bz.out
   .have aa:=QN f J (by unfold maxLen;omega) hf
    have S:=AB (b1.out J bt.out a0.out (by omega))
    go_wp2_with fail
    refine aa.mono ?_;rintro e w6 ⟨he,rfl⟩;unfold FP at he;subst he;go_wp2;exact⟨rfl,S.out⟩
end
section
open Go.RowKit Go.Sort
theorem VW (a b:ByteArray):(a==b)=true↔a=b:=by
 constructor
 .intro h;exact D_ (by rw[Gi,DF,DT,DT]at h;exact h)
 .rintro rfl;rw[Gi];simp
theorem Pc (a b:ByteArray):(a.toList==b.toList)=true↔a=b:=by rw[<-Gi];exact VW a b
def Kr (s:ByteArray):List Value:=[.string s]
theorem ZH (s:ByteArray):(Kr s).length=1:=rfl
def EX (ends:List Tp) (s:Nat):List ByteArray:=(ends.filter fun z=>z.st==(s:Int)).map Tp.out
def Ks (ends l:List Tp):List ByteArray:=l.flatMap fun x=>(ends.filter fun z=>z.st==x.st).map fun z=>x.out++z.out
theorem T8 (ends l:List Tp):JK ends l=match Ks ends l with
    | []=>.ok (false,ByteArray.empty)
    | s::r=>if r.all (fun t=>t==s)=true then(if 4096<s.size then .error 2 else .ok (true,s))else .error 12:=rfl
theorem VX (ends l:List Tp) (k:Nat) (a:k<l.length) (s:Nat) (b:(l.getD k DI).st=(s:Int)):Ks ends (l.take (k+1))=Ks ends (l.take k)++(EX ends s).map fun o=>(l.getD k DI).out++o:=by unfold Ks EX;rw[Ek l DI k a,DE,D7,b,Gc];rfl
def RO (p:List ByteArray) (b:Bool) (s:ByteArray):Prop:=(p=[]/\b=false/\s=ByteArray.empty)\/(∃r,p=s::r/\b=true/\∀z∈r,z=s)
theorem RO.snoc {p:List ByteArray} {b:Bool} {s z:ByteArray} (h:RO p b s) (a:b=true->z=s):RO (p++[z]) true z:=by
 rcases h with⟨rfl,rfl,rfl⟩|⟨r,rfl,rfl,c⟩
 .exact .inr ⟨[],rfl,rfl,fun _ h=>(BP h).elim⟩
 .obtain rfl:=a rfl
  refine .inr ⟨r++[z],rfl,rfl,fun y d=>?_⟩;rcases Bj.1 d with h|h
  .exact c y h
  .exact AM.1 h
theorem RO.bad {ends l:List Tp} {p q:List ByteArray} {s z:ByteArray} (h:RO p true s) (a:Ks ends l=(p++[z])++q) (b:z≠s):JK ends l=.error 12:=by
 rcases h with⟨_,h,_⟩|⟨r,rfl,_,c⟩
 .cases h
 .rw [T8,a];show(if((r++[z])++q).all (fun t=>t==s)=true then _ else _)=_;rw[AP];rw[CS];intro h;exact b ((VW z s).1 (h z (by simp)))
theorem RO.good {ends l:List Tp} {b:Bool} {s:ByteArray} (h:RO (Ks ends l) b s):JK ends l=if 4096<s.size then .error 2 else .ok (b,s):=by
 rw[T8];rcases h with⟨h,rfl,rfl⟩|⟨r,h,rfl,a⟩
 .rw [h];rfl
 .rw [h];show(if r.all (fun t=>t==s)=true then _ else _)=_;rw[AU];rw[CS];intro z c;exact(VW z s).2 (a z c)
def N5 (ends l:List Tp) (w:World) (e:Ending) (w':World):Prop:=
 Below w.heap.size w w'/\match JK ends l with
  | .error k=>e=FP k
  | .ok (b,s)=>e=.returned (.tuple #[.bool b,.string s])
theorem ZI (G B:Nat) (A:Option Addr) (n c:Nat) (ends l:List Tp) (w:World) (vA vR vM vN vO vE vT:Value) (L ns:Nat) (most:Int) (fr:ByteArray) (hG:BL w G 78 #[vA,.slice (some ⟨L,0,none⟩) ns ns,.int .i64 most,vR,vM,.string fr,vN,vO,vE,vT]) (HR:Reads w B 2 A n (B_ CL l)) (HE:QO Kr 1 w B L ns (EX ends)) (hB:B<=w.heap.size) (ad:G<w.heap.size) (hl:∀x∈l,0<=x.st/\x.st<(ns:Int)/\x.out.size<=4096) (N:ends.length<=1024/\∀x∈ends,x.out.size<=1024) (hn:n<=100000) (_hns:ns<=1024) :Calls Tryz.prog 97 #[.pointer (some ⟨G,0,none⟩),.slice A n c] w (N5 ends l w):=by
 have O:=FE Dg (by decide) HR;have H:=AB O;have Hl:=AB hl;have P:=AB N;clear O hl N;go_enter Tryz.func97,Tryz.ntmps97;go_wp2;go_loopw [6,7,15] (fun bv sv i wr=>∃(k:Nat) (b:Bool) (s:ByteArray),k<=n/\i=.int .i64 ((k:Nat):Int)/\bv=.bool b/\sv=.string s/\RO (Ks ends (l.take k)) b s/\s.size<=5120/\Below w.heap.size w wr) (fun _ _ i _=>n-(intOf i).toNat)
 case atStart=>exact⟨0,false,ByteArray.empty,AN _,rfl,rfl,rfl,.inl ⟨rfl,rfl,rfl⟩,AN _,AH _ _⟩
 case round=>
  obtain⟨k,b,s,hk,rfl,rfl,rfl,f,D,r⟩:=hrel;have a:=AB f;clear f;by_cases ae:k<n
  .have am:(0:Int)<=(k:Int):=by omega
   have an:(k:Int)<(n:Int):=by omega
   obtain⟨g,o,rfl,ao,d0,d1⟩:=Dh (HR.below (r.mono hB)) k ae;have hq:=Hl.out _ (getD_in l DI k (by have:=H.out;omega));obtain⟨x,hx⟩:∃x:Nat,(l.getD k DI).st=(x:Int):=⟨_,(AT hq.1).symm⟩
   have t:=AB (VX ends l k (by have:=H.out;omega) x hx);rw[hx]at d0 hq;generalize (l.getD k DI).out=m at *;have af:x<ns:=by omega
   have ap:(0:Int)<=(x:Int):=by omega
   have aq:(x:Int)<(ns:Int):=by omega
   obtain⟨A2,c2,g0,g1,g2,g3⟩:=(HE.below (r.mono hB)).2 x af;have ar:(EX ends x).length<=1024:=by unfold EX;rw[A6];exact AK (CA _ _) P.out.1
   have Q:∀z∈EX ends x,z.size<=1024:=fun z hz=>by unfold EX at hz;obtain⟨y,hy,rfl⟩:=Bd.1 hz;exact P.out.2 y (BV.1 hy).1
   have ag:=AB Q;have ah:=AB (show ∃q,Ks ends l=Ks ends (l.take (k+1))++q from⟨Ks ends (l.drop (k+1)),by unfold Ks;rw[<-DE,Ey]⟩);clear hx Q;generalize ai:EX ends x=row at *;clear ai;generalize R:row.length=S at *;have I:=AB R;clear R;have C:=(AH wr.heap.size wr).alloc (AD _) (.cells #[.int .i64 (x:Int),.string m] 54);have HX:=BL.new wr 54 #[.int .i64 (x:Int),.string m];have x0:=AF (HX.cell 0);have J:=r.trans (C.mono r.size);have T:=(hG.below r ad).below C (by have:=r.size;omega);have y1:=AF (T.cell 1);have y2:=AF ((C.cell (p:=⟨L,x,none⟩) (by have:=HE.1;have:=r.size;show L<_;omega)).trans g0);have R2:=(g3.more (AK hB r.size)).below C;have au:=r.size;clear C r g0 g3;go_wp2;clear d0 d1;refine Au (by kernel_rfl) (by kernel_rfl) ?_
   repeat (go_big_quiet_step (fail))
   refine Ah ?_;intro w5 U;have C:=Bu U;have V:=HX.below C HX.lt;have W:=J.trans (C.mono J.size);have R5:=R2.below (C.mono (by simp));have av:wr.heap.size<w5.heap.size:=V.lt;clear U x0 y1 y2 HX T J R2 C;go_wp2;go_loopw [6,7,28] (fun bv sv i wv=>∃(j:Nat) (b:Bool) (s:ByteArray),j<=S/\i=.int .i64 ((j:Nat):Int)/\bv=.bool b/\sv=.string s/\RO (Ks ends (l.take k)++(row.take j).map fun z=>m++z) b s/\s.size<=5120/\wv=w5) (fun _ _ i _=>S-(intOf i).toNat)
   case atStart=>exact⟨0,b,s,AN _,rfl,rfl,rfl,by rw[CN,EG,BC];exact a.out,D,rfl⟩
   case round=>
    clear a D;obtain⟨j,b,s,hj,rfl,rfl,rfl,f,D,rfl⟩:=hrel;have a:=AB f;clear f;by_cases X:j<S
    .have aw:(0:Int)<=(j:Int):=by omega
     have ax:(j:Int)<(S:Int):=by omega
     obtain⟨g',o',rfl,al,e0⟩:=E9 ZH (by decide) R5 ByteArray.empty j X;have e0:=e0 0 _ rfl;simp only[CG,D0]at e0;have hz:=ag.out _ (getD_in row ByteArray.empty j (by have:=I.out;omega));have Y:=AB (Ek row ByteArray.empty j (by have:=I.out;omega));have aj:=AB (show row=row.take (j+1)++row.drop (j+1)from(Ey _ _).symm);generalize row.getD j ByteArray.empty=z at *;have x1:=V.cell 1;have Z:(m++z).size<=5120:=by have e:=BY List.length (DW m z);rw[CK,AJ,CK,CK]at e;omega
     have u:(b=true->m++z=s)->RO (Ks ends (l.take k)++(row.take (j+1)).map fun z=>m++z) true (m++z):=fun h=>by rw[Y.out,CH,<-Ac];exact a.out.snoc h
     have E:b=true->m++z≠s->JK ends l=.error 12:=fun r h=>by
      subst r;obtain⟨q,hq⟩:=ah.out;refine a.out.bad (q:=((row.drop (j+1)).map fun z=>m++z)++q) ?_ h;rw[hq,t.out]
      conv=>lhs;rw[aj.out,Y.out]
      simp only[CH,DO,EG,Ac]
     have aa:=AB u;have ab:=AB E;have ay:=AB (Pc (m++z) s);have az:m.size+z.size<=9223372036854775807:=by omega
     clear u E;rcases b with _|_
     .go_wp2
      go_roundw
      case rel=>exact⟨j+1,true,m++z,by omega,by go_num,rfl,rfl,aa.out (fun h=>by cases h),Z,trivial⟩
      case measure=>simp[intOf];omega
     .rcases K:((m++z).toList==s.toList)with _|_
      .have ac:m++z≠s:=fun e=>by rw[(Pc _ _).2 e]at K;cases K
       have F:N5 ends l w (FP 12) _:=⟨W,by rw[ab.out rfl ac]⟩;have HP:=AB F;clear F ac;go_wp2;exact⟨rfl,HP.out⟩
      .have ak:=AB ((Pc _ _).1 K)
       go_wp2;go_roundw
       case rel=>exact⟨j+1,true,m++z,by omega,by go_num,rfl,rfl,aa.out (fun _=>ak.out),Z,trivial⟩
       case measure=>simp[intOf];omega
    .obtain rfl:S=j:=by omega
     go_wp2;go_roundw
     case rel=>exact⟨k+1,b,s,by omega,by go_num,rfl,rfl,by rw[t.out,<-BX (l:=row) (Nat.le_of_eq I.out)];exact a.out,D,W⟩
     case measure=>simp[intOf];omega
  .obtain rfl:n=k:=by omega
   rw[BX (by have:=H.out;omega)]at a;have d:=a.out.good;by_cases h4:s.size<=4096
   .have M:=Of s wr h4
    have F:N5 ends l w (.returned (.tuple #[.bool b,.string s])) wr:=⟨r,by rw[d,AP (by omega)]⟩;have HP:=AB F;clear d F
    go_wp2_with fail
    refine M.mono ?_;rintro e w6 ⟨rfl,rfl⟩;go_wp2;exact AQ (v:=.tuple #[.bool b,.string s]) (by simp[results,Tryz.results97,go_sem]) rfl HP.out
   .have M:=QN s wr (by unfold maxLen;omega) h4
    have F:N5 ends l w (FP 2) wr:=⟨r,by rw[d,AU (by omega)]⟩;have HP:=AB F;clear d F
    go_wp2_with fail
    refine M.mono ?_;rintro e w6 ⟨N,rfl⟩;unfold FP at N;subst N;go_wp2;exact⟨rfl,HP.out⟩
end
section
open Go.RowKit Go.Sort
structure Pow (w:World) (B:Nat):Prop where
 tab:Lib.TabIs Tryz.prog w "internal/strconv.uint64pow10" .u64 Lib.pow10Tab
 lt:2<B
theorem gPow:Tryz.prog.globalNamed "internal/strconv.uint64pow10"=some 2:=by kernel_rfl
theorem Pow.below {w w':World} {B:Nat} (h:Pow w B) (b:Below B w w'):Pow w' B:=by refine⟨?_,h.lt⟩;have a:=h.tab;unfold Lib.TabIs World.var? at a ⊢;rw[gPow]at a ⊢;simp only[Option.bind_some]at a ⊢;rw[b.block _ h.lt];exact a
theorem Pow.mono {w:World} {B B':Nat} (h:Pow w B) (a:B<=B'):Pow w B':=⟨h.tab,Aj h.lt a⟩
structure KeyW (w wr:World) (acc:List UInt8):Prop where
 bld:Oe w.heap.size w.heap.size (Lib.byteCells acc) wr
 bel:Below w.heap.size w wr
theorem KeyW.call {w wr w':World} {a:List UInt8} (h:KeyW w wr a) (b:Below wr.heap.size wr w'):KeyW w w' a:=⟨Ro h.bld b,h.bel.trans (b.mono h.bel.size)⟩
theorem KeyW.write {w wr w':World} {a:List UInt8} (h:KeyW w wr a) (s:ByteArray) (b:Oe w.heap.size w.heap.size (Lib.byteCells a++Lib.strCells s) w') (c:Below w.heap.size wr w'):KeyW w w' (a++bl s):=⟨by rw[Lib.byteCells_append];exact b,h.bel.trans c⟩
theorem KeyW.byte {w wr w':World} {a:List UInt8} (h:KeyW w wr a) (c:UInt8) (b:Oe w.heap.size w.heap.size (Lib.byteCells a++[.int .u8 (c.toNat:Int)]) w') (d:Below w.heap.size wr w'):KeyW w w' (a++[c]):=⟨by rw[Lib.byteCells_append];exact b,h.bel.trans d⟩
theorem BL.others {w w':World} {g b:Nat} {T:TypeId} {a:Array Value} (h:BL w g T a) (d:Lib.OthersKept 5 (some b) w w') (f:g≠b) (i:T≠5):BL w' g T a:=d g _ h (fun e=>f (AL e)) (fun c j e=>i (by cases e;rfl))
theorem WZ (x:Tp) (h0:0<=x.st) (h1:x.st<10000000) (h2:x.out.size<=10000000):(Ko x).length<=x.out.size+100:=by
 have b:∀u,u<10000000000000->(Lib.decDigits u).length<=20:=fun u a=>by
  rw[Lib.decDigits_length];by_cases h:Lib.nDigits u<=20
  .exact h
  .exfalso
   have:=Lib.nDigits_pos u
   have h3:∀k u,u<10^(k+1)->Lib.nDigits u<=k+1:=by
    intro k
    induction k with
    | zero=>intro u a;rw[Lib.nDigits_small (by simpa using a)];exact AD _
    | succ k ih=>
     intro u a;by_cases h10:u<10
     .rw [Lib.nDigits_small h10];omega
     .rw [Lib.nDigits_big h10];have:=ih (u / 10) (EP (by rw[Nat.pow_succ,D6]at a;exact a));omega
   exact h (h3 19 u (Aj a (by decide)))
 unfold Ko;have c:=b x.st.toNat (by omega);have d:=b x.out.size (by omega);simp only[AJ,Bn,CK];omega
theorem N6 (x:Nat) (b:x<=9223372036854775807) (w:World) {B:Nat} (a:Pow w B) :Calls Tryz.prog 103 #[.int .i64 (x:Int)] w fun e w'=>e=.returned (.string ⟨(Lib.decDigits x).toArray⟩)/\Below w.heap.size w w':=by refine(Tryz.strconv_Itoa (x:Int) (by omega) (by omega) w a.tab).mono ?_;rintro e w' ⟨rfl,k,os,rfl⟩;exact⟨by rw[Lib.itoa_nonneg],DN w (w.drawn+k) os⟩
theorem Sz (l:List UInt8):bl ⟨l.toArray⟩=l:=rfl
theorem Xd (l:List Tp) (k:Nat) (a:k<l.length):Fa (l.take (k+1))=Fa (l.take k)++Ko (l.getD k DI):=by unfold Fa;rw[Ek l DI k a,DE,D7]
end
section
open Go.RowKit Go.Sort
def S5 (l:List Tp) (w:World) (e:Ending) (w':World):Prop:=Below w.heap.size w w'/\e=.returned (.string ⟨(Fa l).toArray⟩)
theorem X1h (B:Nat) (A:Option Addr) (n c:Nat) (l:List Tp) (w:World) (HR:Reads w B 2 A n (B_ CL l)) (hB:B<=w.heap.size) (hP:Pow w w.heap.size) (hl:∀x∈l,0<=x.st/\x.st<10000/\x.out.size<=4096) (hn:n<=100000) :Calls Tryz.prog 96 #[.slice A n c] w (S5 l w):=by
 have N:=FE Dg (by decide) HR;have H:=AB N;have Hl:=AB hl;clear N hl;have HP:=AB hP;clear hP;have W:KeyW w (w.alloc (.cells #[.pointer none,.slice none 0 0] 83)) []:=⟨.inl ⟨AD _,.slice none 0 0,heap_alloc_new w _,World.ownsRowF_of (Bc _ _ _ _),by simp[Value.ownBlock]⟩,(AH _ w).alloc (AD _) _⟩;go_enter Tryz.func96,Tryz.ntmps96;go_wp2;go_loopw [8] (fun i wr=>∃(k:Nat),k<=n/\i=.int .i64 ((k:Nat):Int)/\KeyW w wr (Fa (l.take k))/\(Fa (l.take k)).length<=k*4200) (fun i _=>n-(intOf i).toNat)
 case atStart=>exact⟨0,AN _,rfl,W,AN _⟩
 case round=>
  obtain⟨k,hk,rfl,s,ac⟩:=hrel;by_cases X:k<n
  .have ad:(0:Int)<=(k:Int):=by omega
   have ae:(k:Int)<(n:Int):=by omega
   obtain⟨g,o,rfl,af,d0,d1⟩:=Dh (HR.below (s.bel.mono hB)) k X;have Y:=Hl.out _ (getD_in l DI k (by have:=H.out;omega));obtain⟨x,Z⟩:∃x:Nat,(l.getD k DI).st=(x:Int):=⟨_,(AT Y.1).symm⟩
   have p:=AB (Xd l k (by have:=H.out;omega));have t:=AB (WZ (l.getD k DI) Y.1 (by omega) (by omega));have u:=AB (show Ko (l.getD k DI)=Lib.decDigits x++58::(Lib.decDigits (l.getD k DI).out.size++58::bl (l.getD k DI).out)by unfold Ko;rw[Z,BO]);rw[Z]at d0 Y;generalize (l.getD k DI).out=r at *;generalize Ko (l.getD k DI)=kt at *;generalize Fa (l.take k)=m at *;clear Z;have U:=BL.new wr 54 #[.int .i64 (x:Int),.string r];have I:=s.call ((AH wr.heap.size wr).alloc (AD _) (.cells #[.int .i64 (x:Int),.string r] 54));have ag:=s.bel.size;have x0:=U.cell 0;have O:=HP.out;have y:wr.heap.size≠w.heap.size:=fun e=>by have:=Nh s.bld;omega
   have V:54≠5:=by decide
   clear s
   go_wp2_with fail
   refine(N6 x (by omega) _ ((O.below I.bel))).mono ?_;rintro e w5 ⟨rfl,J⟩;have q:=I.call J;have P:=U.below J U.lt;have ah:=q.bel.size;clear I U x0 d0 d1 J;have ai:(ByteArray.mk (Lib.decDigits x).toArray).size<=5000:=by have:=t.out;rw[u.out,AJ]at this;show(Lib.decDigits x).toArray.size<=_;rw[CJ];omega
   have aj:(ByteArray.mk (Lib.decDigits r.size).toArray).size<=5000:=by have:=t.out;rw[u.out,AJ,Bn,AJ]at this;show(Lib.decDigits r.size).toArray.size<=_;rw[CJ];omega
   have ak:kt.length<=4200:=by have:=t.out;omega
   have K:=u.out;rw[<-Sz (Lib.decDigits x),<-Sz (Lib.decDigits r.size)]at K;have aa:=AB K;clear u t K;generalize al:(ByteArray.mk (Lib.decDigits x).toArray)=s1 at *
   go_wp2_with fail
   refine(EF w.heap.size w.heap.size (Lib.byteCells m) s1 _ q.bld (by rw[C4];omega) q.bel.size).mono ?_;rintro e w6 ⟨rfl,b,a,d⟩;have z:=q.write s1 b a;have Q:=P.others d y V;clear q P b a d
   go_wp2_with fail
   refine(JD w.heap.size w.heap.size (Lib.byteCells (m++bl s1)) 58 _ z.bld (by rw[C4,AJ,CK];omega) z.bel.size).mono ?_;rintro e w7 ⟨rfl,b,a,d⟩;have L:=z.byte 58 b a;have C:=Q.others d y V;have x1:=C.cell 1;clear z Q b a d
   go_wp2_with fail
   refine(N6 r.size (by omega) _ (O.below L.bel)).mono ?_;rintro e w8 ⟨rfl,M⟩;have D:=L.call M;have R:=C.below M C.lt;clear L C M x1;generalize am:(ByteArray.mk (Lib.decDigits r.size).toArray)=s2 at *
   go_wp2_with fail
   refine(EF w.heap.size w.heap.size (Lib.byteCells (m++bl s1++[58])) s2 _ D.bld (by rw[C4,AJ,AJ,CK,BJ];omega) D.bel.size).mono ?_;rintro e w9 ⟨rfl,b,a,d⟩;have E:=D.write s2 b a;have S:=R.others d y V;clear D R b a d
   go_wp2_with fail
   refine(JD w.heap.size w.heap.size (Lib.byteCells (m++bl s1++[58]++bl s2)) 58 _ E.bld (by rw[C4];simp only[AJ,CK,BJ];omega) E.bel.size).mono ?_;rintro e an ⟨rfl,b,a,d⟩;have j:=E.byte 58 b a;have F:=S.others d y V;have x1:=F.cell 1;clear E S b a d
   go_wp2_with fail
   refine(EF w.heap.size w.heap.size (Lib.byteCells (m++bl s1++[58]++bl s2++[58])) r _ j.bld (by rw[C4];simp only[AJ,CK,BJ];omega) j.bel.size).mono ?_;rintro e ao ⟨rfl,b,a,_⟩;have G:=j.write r b a;clear j F b a x1;have f:m++bl s1++[58]++bl s2++[58]++bl r=Fa (l.take (k+1)):=by rw[p.out,aa.out];simp
   rw[f]at G;have T:(Fa (l.take (k+1))).length<=(k+1)*4200:=by rw[p.out,AJ];omega
   have ab:=AB T;clear f T;go_wp2;go_roundw
   case rel=>exact⟨k+1,by omega,by go_num,G,ab.out⟩
   case measure=>simp[intOf];omega
  .obtain rfl:n=k:=by omega
   rw[BX (by have:=H.out;omega)]at s
   go_wp2_with fail
   refine(Tryz.Builder_String_any_k w.heap.size w.heap.size (Fa l) _ s.bld s.bel.size).mono ?_;rintro e w8 ⟨rfl,_,a,_⟩;have f:S5 l w (.returned (.string ⟨(Fa l).toArray⟩)) w8:=⟨s.bel.trans a,rfl⟩;have HF:=AB f;clear f;generalize Fa l=kk at *;go_wp2;exact AQ (v:=.string ⟨kk.toArray⟩) (by simp[results,Tryz.results96,go_sem]) rfl HF.out
end
section
open Go.RowKit Go.Sort
theorem ZK {w w':World} {B B' k n g:Nat} {xs:List Value} (h:Reads w B k (some ⟨g,0,none⟩) n xs) (a:w'.heap[g]?=w.heap[g]?) (b:g<B'):Reads w' B' k (some ⟨g,0,none⟩) n xs:=by
 refine⟨h.1,fun h0=>?_⟩;obtain⟨f,e,_,c⟩:=h.2 h0;obtain rfl:=AL e
 exact⟨_,rfl,b,fun j u d=>by
  rw[<-c j u d];have:((⟨g,0,none⟩:Addr).add j).block=g:=by rw[Gq]
  exact cell_kept (by rw[this];exact a)⟩
def JU (M:Nat->Prop) (w:World) (k:Nat) (v:Value) (n:Nat) (xs:List Value):Prop:=∃g c,v=.slice (some ⟨g,0,none⟩) n c/\n<=c/\c<=maxLen/\g<w.heap.size/\¬M g/\Reads w w.heap.size k (some ⟨g,0,none⟩) n xs
theorem JU.keep {M:Nat->Prop} {w w':World} {k n:Nat} {v:Value} {xs:List Value} (h:JU M w k v n xs) (b:w.heap.size<=w'.heap.size) (a:∀g,g<w.heap.size->¬M g->w'.heap[g]?=w.heap[g]?):JU M w' k v n xs:=by obtain⟨g,c,rfl,h1,h2,h3,h4,h5⟩:=h;exact⟨g,c,rfl,h1,h2,by omega,h4,ZK h5 (a g h3 h4) (by omega)⟩
theorem JU.set {M M':Nat->Prop} {w:World} {k n:Nat} {v:Value} {xs:List Value} (h:JU M w k v n xs) (a:∀g,g<w.heap.size->M' g->M g):JU M' w k v n xs:=by obtain⟨g,c,rfl,h1,h2,h3,h4,h5⟩:=h;exact⟨g,c,rfl,h1,h2,h3,fun e=>h4 (a g h3 e),h5⟩
theorem JU.below {M:Nat->Prop} {w w':World} {k n:Nat} {v:Value} {xs:List Value} (h:JU M w k v n xs) (a:Below w.heap.size w w'):JU M w' k v n xs:=h.keep a.size fun g b _=>a.block g b
abbrev Li (vA vE:Value) (most:Int) (MB:Nat) (fr:ByteArray) (vR vN vO vEn vT:Value):Array Value:=#[vA,vE,.int .i64 most,vR,.map (some MB),.string fr,vN,vO,vEn,vT]
structure MkV (w:World) (B0 P0 G MB:Nat) (vA vE:Value) (most:Int) (fr:ByteArray) (vR vN vO vEn vT:Value) (tv nv ov:List Value) (S:Mk) (M:Nat->Prop):Prop where
 box:BL w G 78 (Li vA vE most MB fr vR vN vO vEn vT)
 num:NP w MB (S.rows.map Fa)
 oR:w.ownsRow P0 29 1 vR S.rows.length tv
 oN:w.ownsRow P0 55 1 vN S.next.length nv
 oO:w.ownsRow P0 25 1 vO S.outs.length ov
 oE:w.ownsRow P0 4 1 vEn S.ends.length (S.ends.map Value.bool)
 oT:w.ownsRow P0 9 1 vT S.tails.length (S.tails.map Value.string)
 tips:∀i,i<S.rows.length->JU M w 2 (tv.getD i Bf) (S.rows.getD i []).length (B_ CL (S.rows.getD i []))
 nexts:∀i,i<S.next.length->JU M w 1 (nv.getD i Bf) (S.next.getD i []).length ((S.next.getD i []).map (Value.int .i64))
 outss:∀i,i<S.outs.length->JU M w 1 (ov.getD i Bf) (S.outs.getD i []).length ((S.outs.getD i []).map Value.string)
 le:B0<=P0
 sz:P0<=w.heap.size
 gG:B0<=G
 gM:B0<=MB
 low:∀g,g<P0->M g
 mG:M G
 mM:M MB
 mR:∀g,vR.ownBlock=some g->M g
 mN:∀g,vN.ownBlock=some g->M g
 mO:∀g,vO.ownBlock=some g->M g
 mE:∀g,vEn.ownBlock=some g->M g
 mT:∀g,vT.ownBlock=some g->M g
section
variable {w w' w1:World} {B0 P0 G MB:Nat} {vA vE:Value} {most:Int} {fr:ByteArray} {vR vN vO vEn vT:Value} {tv nv ov:List Value} {S:Mk} {M M':Nat->Prop}
theorem FV {c:List (List UInt8)} {b g:Nat} {T:TypeId} {d:Array Value} (h:NP w b c) (e:BL w g T d):g≠b:=by obtain⟨n,D,⟨es,clock,a,_⟩,_⟩:=h;rintro rfl;rw[show w.heap[g]?=_ from e]at a;cases a
theorem JG {c:List (List UInt8)} {b base n size:Nat} {e:TypeId} {v:Value} {xs:List Value} (h:NP w b c) (d:w.ownsRow base e size v n xs):v.ownBlock≠some b:=by
 obtain⟨n,D,⟨es,clock,a,_⟩,_⟩:=h;rcases d.2 with⟨rfl,_⟩|⟨g,cap,f,rfl,_,i,_⟩
 .intro e;cases e
 .intro e;have e:g=b:=AL e;subst e;rw[i]at a;cases a
theorem NP.setCell {c:List (List UInt8)} {b:Nat} (h:NP w b c) {p:Addr} (d:p.block≠b) (u:Value):NP (w.setCell p u) b c:=by refine h.kept (row:=some p.block) ⟨rfl,rfl,rfl,by simp,fun k f a=>Am w p u k (fun e=>a (by rw[e]))⟩ (fun e=>d (AL e).symm)
theorem MkV.call (h:MkV w B0 P0 G MB vA vE most fr vR vN vO vEn vT tv nv ov S M) (a:Below w.heap.size w w'):MkV w' B0 P0 G MB vA vE most fr vR vN vO vEn vT tv nv ov S M:=
 { h with
  box:=h.box.below a h.box.lt
  sz:=AK h.sz a.size
  num:=h.num.below a (AD _)
  oR:=BQ h.oR a
  oN:=BQ h.oN a
  oO:=BQ h.oO a
  oE:=BQ h.oE a
  oT:=BQ h.oT a
  tips:=fun i hi=>(h.tips i hi).below a
  nexts:=fun i hi=>(h.nexts i hi).below a
  outss:=fun i hi=>(h.outss i hi).below a }
theorem MkV.other (h:MkV w B0 P0 G MB vA vE most fr vR vN vO vEn vT tv nv ov S M) (b:∀g,g<w.heap.size->M' g->M g) (c:M' G) (d:M' MB) (e:∀g,vR.ownBlock=some g->M' g) (f:∀g,vN.ownBlock=some g->M' g) (j:∀g,vO.ownBlock=some g->M' g) (k:∀g,vEn.ownBlock=some g->M' g) (l:∀g,vT.ownBlock=some g->M' g) (a:∀g,g<P0->M' g) :MkV w B0 P0 G MB vA vE most fr vR vN vO vEn vT tv nv ov S M':={ h with tips:=fun i hi=>(h.tips i hi).set b,nexts:=fun i hi=>(h.nexts i hi).set b,outss:=fun i hi=>(h.outss i hi).set b,low:=a,mG:=c,mM:=d,mR:=e,mN:=f,mO:=j,mE:=k,mT:=l }
def Lj (G MB:Nat) (vR vN vO vEn vT:Value) (g:Nat):Prop:=g=G\/g=MB\/vR.ownBlock=some g\/vN.ownBlock=some g\/vO.ownBlock=some g\/vEn.ownBlock=some g\/vT.ownBlock=some g
theorem MkV.less (h:MkV w B0 P0 G MB vA vE most fr vR vN vO vEn vT tv nv ov S M):MkV w B0 P0 G MB vA vE most fr vR vN vO vEn vT tv nv ov S (fun g=>Lj G MB vR vN vO vEn vT g\/g<P0):=by
 refine h.other (fun g _ a=>?_) (.inl (.inl rfl)) (.inl (.inr (.inl rfl))) (fun g e=>.inl (.inr (.inr (.inl e)))) (fun g e=>.inl (.inr (.inr (.inr (.inl e))))) (fun g e=>.inl (.inr (.inr (.inr (.inr (.inl e)))))) (fun g e=>.inl (.inr (.inr (.inr (.inr (.inr (.inl e))))))) (fun g e=>.inl (.inr (.inr (.inr (.inr (.inr (.inr e))))))) (fun g a=>.inr a);rcases a with a|a
 .rcases a with rfl|rfl|e|e|e|e|e
  .exact h.mG
  .exact h.mM
  .exact h.mR g e
  .exact h.mN g e
  .exact h.mO g e
  .exact h.mE g e
  .exact h.mT g e
 .exact h.low g a
theorem MkV.far (h:MkV w B0 P0 G MB vA vE most fr vR vN vO vEn vT tv nv ov S M) {p:Addr} (c:M p.block) (a:¬Lj G MB vR vN vO vEn vT p.block) (u:Value):MkV (w.setCell p u) B0 P0 G MB vA vE most fr vR vN vO vEn vT tv nv ov S M:=by
 have b:∀g,g<w.heap.size->¬M g->(w.setCell p u).heap[g]?=w.heap[g]?:=fun g _ d=>Am _ _ _ _ (fun e=>d (e▸c))
 unfold Lj at a;simp only[not_or]at a;obtain⟨f,j,k,l,m,n,o⟩:=a
 exact { h with
  box:=h.box.far (fun e=>f e.symm) u
  sz:=by simpa using h.sz
  num:=h.num.setCell j u
  oR:=AO h.oR k u
  oN:=AO h.oN l u
  oO:=AO h.oO m u
  oE:=AO h.oE n u
  oT:=AO h.oT o u
  tips:=fun i hi=>(h.tips i hi).keep (by simp) b
  nexts:=fun i hi=>(h.nexts i hi).keep (by simp) b
  outss:=fun i hi=>(h.outss i hi).keep (by simp) b }
theorem QV {α:Type} {d:α} {enc:α->List Value} {k:Nat} {tv:List Value} {l:List α} {len:α->Nat} (x:α) (v:Value) (c:tv.length=l.length) (h:∀i,i<l.length->JU M w k (tv.getD i Bf) (len (l.getD i d)) (enc (l.getD i d))) (f:JU M w k v (len x) (enc x)) :∀i,i<(l++[x]).length->JU M w k ((tv++[v]).getD i Bf) (len ((l++[x]).getD i d)) (enc ((l++[x]).getD i d)):=by
 intro i hi;rw[AJ,BJ]at hi;by_cases e:i<l.length
 .have a:(tv++[v]).getD i Bf=tv.getD i Bf:=by rw[AC,AC,Bi (by omega)]
  have b:(l++[x]).getD i d=l.getD i d:=by rw[AC,AC,Bi e]
  rw[a,b];exact h i e
 .obtain rfl:i=l.length:=by omega
  have a:(tv++[v]).getD l.length Bf=v:=by rw[AC,<-c,CT (AD _),Gd];rfl
  have b:(l++[x]).getD l.length d=x:=by rw[AC,CT (AD _),Gd];rfl
  rw[a,b];exact f
theorem I3 {a:List (List UInt8)} (h:NP w MB a) {base n size:Nat} {e:TypeId} {v:Value} {xs:List Value} (b:w.ownsRow base e size v n xs) (c:w.grownBy w' v.ownBlock):NP w' MB a:=h.kept c (fun e=>JG h b e.symm)
theorem MkV.putR {l:List Tp} (h:MkV w B0 P0 G MB vA vE most fr vR vN vO vEn vT tv nv ov S M) (s:NP w1 MB ((S.rows++[l]).map Fa)) (o:w.grownBy w1 (some MB)) {t:World} (m:Below w1.heap.size w1 t) {r:World} {v v':Value} (P:JU M w 2 v l.length (B_ CL l)) (b:t.grownBy r vR.ownBlock) (x:r.ownsRow P0 29 1 v' (S.rows.length+1) (tv++[v])) (y:v'.ownBlock=vR.ownBlock\/v'.ownBlock=some t.heap.size) :MkV (r.setCell ⟨G,3,none⟩ v') B0 P0 G MB vA vE most fr v' vN vO vEn vT (tv++[v]) nv ov { S with rows:=S.rows++[l] } (fun g=>M g\/v'.ownBlock=some g):=by
 have z:=h.box.grown o (fun e=>FV h.num h.box (AL e));have q:=z.below m z.lt;have X:=o.size;have z2:=m.size;have z3:=b.size;have a:∀{e:TypeId} {n:Nat} {u:Value} {xs:List Value},w.ownsRow P0 e 1 u n xs->t.ownsRow P0 e 1 u n xs:=fun x=>BQ (x.kept o (.inr (JG h.num x))) m
 have c:=a h.oR;have A:=a h.oN;have B:=a h.oO;have C:=a h.oE;have D:=a h.oT;have L:vR.ownBlock≠some G:=AV c q (by decide);have j:=BM q b L;have E:=A.kept b (BG A c (by decide)).or_none;have F:=B.kept b (BG B c (by decide)).or_none;have H:=C.kept b (BG C c (by decide)).or_none;have I:=D.kept b (BG D c (by decide)).or_none;have Q:NP t MB ((S.rows++[l]).map Fa):=s.below m (AD _);have R:=I3 Q c b;have N:G≠MB:=FV h.num h.box;have T:∀g,g<w.heap.size->¬M g->(r.setCell ⟨G,3,none⟩ v').heap[g]?=w.heap[g]?:=fun g p J=>by rw[Am _ _ _ _ (show g≠G from fun e=>J (e▸h.mG)),b.block g (by omega) (fun e=>J (h.mR g e.symm)),m.block g (by omega),o.block g p (fun e=>J (AL e▸h.mM))]
 have O:w.heap.size<=(r.setCell ⟨G,3,none⟩ v').heap.size:=by simp;omega
 have U:∀g,g<w.heap.size->(M g\/v'.ownBlock=some g)->M g:=fun g p e=>by
  rcases e with e|e
  .exact e
  .rcases y with f|f
   .exact h.mR g (f▸e)
   .rw [f]at e;have:=AL e;omega
 have K:∀{k n:Nat} {u:Value} {xs:List Value},JU M w k u n xs->JU (fun g=>M g\/v'.ownBlock=some g) (r.setCell ⟨G,3,none⟩ v') k u n xs:=fun V=>(V.set U).keep O fun g p J=>T g p (fun e=>J (.inl e))
 exact {
  box:=j.set_ 3 v'
  num:=R.setCell (fun e=>N e) v'
  oR:=by rw[AJ];exact AO x (AV x j (by decide)) _
  oN:=AO E (AV E j (by decide)) _
  oO:=AO F (AV F j (by decide)) _
  oE:=AO H (AV H j (by decide)) _
  oT:=AO I (AV I j (by decide)) _
  tips:=QV (d:=[]) (len:=List.length) (enc:=B_ CL) l v (by have:=h.oR.1;omega) (fun i hi=>K (h.tips i hi)) (K P)
  nexts:=fun i hi=>K (h.nexts i hi)
  outss:=fun i hi=>K (h.outss i hi)
  le:=h.le
  sz:=AK h.sz O
  gG:=h.gG
  gM:=h.gM
  low:=fun g W=>.inl (h.low g W)
  mG:=.inl h.mG
  mM:=.inl h.mM
  mR:=fun g e=>.inr e
  mN:=fun g e=>.inl (h.mN g e)
  mO:=fun g e=>.inl (h.mO g e)
  mE:=fun g e=>.inl (h.mE g e)
  mT:=fun g e=>.inl (h.mT g e) }
end
end
end Go.Proofs.YtcondkihpmmnnaaGreatDoor
