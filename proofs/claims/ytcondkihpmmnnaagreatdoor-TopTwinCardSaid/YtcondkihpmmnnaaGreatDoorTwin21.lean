/- Lemmas, part 21 of 50. No condition. -/
import Derived.Test.YtcondkihpmmnnaaGreatDoorTwin18
import Derived.Test.YtcondkihpmmnnaaGreatDoorTwin19
import Derived.RangeFuncBound
import Derived.RangeFuncCalls
import Derived.RangeFuncBox
import Derived.TacticsInMore
import Derived.LoopNIn
import Derived.LoopIn
import Derived.Test.YtcondkihpmmnnaaGreatDoorTwin20
set_option maxRecDepth 100000
set_option maxHeartbeats 16000000
namespace Go.Proofs.YtcondkihpmmnnaaGreatDoor
section
open Go.RowKit Go.Sort
structure UsInv (w0:World) (base:Act) (n:Nat) (is:List Nat) (a:Act) (W:World) (f:Nat->Nat):Prop where
 nd:is.Nodup
 defers:a.defers=base.defers
 size:a.tmps.size=base.tmps.size
 same:∀x,x∉[9,12,3,4]->a.tmps[x]?=base.tmps[x]?
 bel:Below w0.heap.size w0 W
 dep:8∉is->2∉is/\6∉is/\7∉is
 lt:∀i∈[2,5,6,7],i∉is->w0.heap.size<=f i/\f i<W.heap.size
 ne:∀i∈[2,5,6,7],∀j∈[2,5,6,7],i≠j->i∉is->j∉is->f i≠f j
 m2:2∉is->a.tmps[9]?=some (.slice (some ⟨f 2,0,none⟩) n n)/\W.ownsRow w0.heap.size 55 1 (.slice (some ⟨f 2,0,none⟩) n n) n (List.replicate n Bf)
 m5:5∉is->a.tmps[12]?=some (.slice (some ⟨f 5,0,none⟩) n n)/\W.ownsRow w0.heap.size 55 1 (.slice (some ⟨f 5,0,none⟩) n n) n (List.replicate n Bf)
 m6:6∉is->a.tmps[3]?=some (.pointer (some ⟨f 6,0,none⟩))/\BL W (f 6) 22 #[if 8∈is then Bf else .slice (some ⟨f 2,0,none⟩) n n]
 m7:7∉is->a.tmps[4]?=some (.pointer (some ⟨f 7,0,none⟩))/\BL W (f 7) 22 #[Bf]
section
variable {w0 W W':World} {base a:Act} {n:Nat} {is:List Nat} {f:Nat->Nat}
theorem UsInv.make (h:UsInv w0 base n is a W f) (i:Nat) (hi:i∈is) (h4:i∈[2,5,6,7]) (d:Tmp) (I:d∈[9,12,3,4]) (v:Value) (w:Below W.heap.size W W') (y:W.heap.size<W'.heap.size) (p:∀j∈[2,5,6,7],j≠i->d≠(if j=2 then 9 else if j=5 then 12 else if j=6 then 3 else 4)) (g2:i=2->d=9/\v=.slice (some ⟨W.heap.size,0,none⟩) n n/\W'.ownsRow w0.heap.size 55 1 (.slice (some ⟨W.heap.size,0,none⟩) n n) n (List.replicate n Bf)) (g5:i=5->d=12/\v=.slice (some ⟨W.heap.size,0,none⟩) n n/\W'.ownsRow w0.heap.size 55 1 (.slice (some ⟨W.heap.size,0,none⟩) n n) n (List.replicate n Bf)) (g6:i=6->d=3/\v=.pointer (some ⟨W.heap.size,0,none⟩)/\BL W' W.heap.size 22 #[Bf]) (g7:i=7->d=4/\v=.pointer (some ⟨W.heap.size,0,none⟩)/\BL W' W.heap.size 22 #[Bf]) (D:∀x∈[9,12,3,4],x<base.tmps.size) :UsInv w0 base n (is.erase i) (a.put (some d) v) W' (fun j=>if j=i then W.heap.size else f j):=by
 have b:∀j,j∉is.erase i↔j=i\/j∉is:=fun j=>by rw[h.nd.mem_erase_iff];by_cases e:j=i<;>simp[e]
 have l:d<a.tmps.size:=by rw[h.size];exact D d I
 have h8:(8:Nat)∈is.erase i↔(8:Nat)∈is:=by rw[h.nd.mem_erase_iff];exact⟨And.right,fun z=>⟨by rintro rfl;simp at h4,z⟩⟩
 have A:(i=2\/i=6\/i=7)->(8:Nat)∈is:=fun z=>by
  rcases Classical.em ((8:Nat)∈is)with h8|h8
  .exact h8
  .have:=h.dep h8
   rcases z with rfl|rfl|rfl
   .exact absurd hi this.1
   .exact absurd hi this.2.1
   .exact absurd hi this.2.2
 refine⟨h.nd.erase i,h.defers,(J6 _).trans h.size,DQ I h.same,h.bel.trans (w.mono h.bel.size),fun z=>?_,fun j C r=>?_,fun j C k E m r s=>?_,fun t=>?_,fun t=>?_,fun t=>?_,fun t=>?_⟩
 .have F:(8:Nat)∉is:=fun e=>z (h8.2 e)
  have:=h.dep F;exact⟨(b _).2 (.inr this.1),(b _).2 (.inr this.2.1),(b _).2 (.inr this.2.2)⟩
 .have B:=h.bel.size
  rcases(b j).1 r with e|e
  .simp only[e,Dm];exact⟨B,y⟩
  .have:=h.lt j C e
   by_cases g:j=i
   .simp only[g,Dm];exact⟨B,y⟩
   .simp only[g,Ef];exact⟨this.1,by omega⟩
 .rcases (b j).1 r with e|e
  .subst e
   rcases(b k).1 s with g|g
   .exact absurd g.symm m
   .have:=h.lt k E g;simp only[Dm,CF m,Ef];omega
  .by_cases G:j=i
   .subst G
    rcases(b k).1 s with g|g
    .exact absurd g.symm m
    .have:=h.lt k E g;simp only[Dm,CF m,Ef];omega
   .by_cases H:k=i
    .subst H;have:=h.lt j C e;simp only[Dm,G,Ef];omega
    .rcases (b k).1 s with g|g
     .exact absurd g H
     .simp only[G,H,Ef];exact h.ne j C k E m e g
 .rcases (b 2).1 t with e|e
  .obtain ⟨rfl,rfl,q⟩:=g2 e.symm;simp only[e,Dm];exact⟨Ik l _,q⟩
  .by_cases c:(2:Nat)=i
   .obtain ⟨rfl,rfl,q⟩:=g2 c.symm;simp only[c,Dm];exact⟨Ik l _,q⟩
   .simp only[c,Ef];obtain⟨u,a2⟩:=h.m2 e;exact⟨(EB (p 2 (by simp) c) _).trans u,BQ a2 w⟩
 .by_cases c:(5:Nat)=i
  .obtain ⟨rfl,rfl,q⟩:=g5 c.symm;simp only[c,Dm];exact⟨Ik l _,q⟩
  .rcases (b 5).1 t with e|e
   .exact absurd e c
   .simp only[c,Ef];obtain⟨u,a2⟩:=h.m5 e;exact⟨(EB (p 5 (by simp) c) _).trans u,BQ a2 w⟩
 .by_cases c:(6:Nat)=i
  .obtain ⟨rfl,rfl,q⟩:=g6 c.symm;rw[AU (h8.2 (A (.inr (.inl c.symm))))];simp only[c,Dm];exact⟨Ik l _,q⟩
  .rcases (b 6).1 t with e|e
   .exact absurd e c
   .obtain ⟨u,a2⟩:=h.m6 e
    have J:(if 8∈is.erase i then Bf else Value.slice (some ⟨(if 2=i then W.heap.size else f 2),0,none⟩) n n)=(if 8∈is then Bf else .slice (some ⟨f 2,0,none⟩) n n):=by
     by_cases o:(8:Nat)∈is
     .rw [AU (h8.2 o),AU o]
     .rw [AP (fun x=>o (h8.1 x)),AP o,AP (fun g=>o (A (.inl g.symm)))]
    simp only[c,Ef];rw[J];exact⟨(EB (p 6 (by simp) c) _).trans u,a2.below w a2.lt⟩
 .by_cases c:(7:Nat)=i
  .obtain ⟨rfl,rfl,q⟩:=g7 c.symm;simp only[c,Dm];exact⟨Ik l _,q⟩
  .rcases (b 7).1 t with e|e
   .exact absurd e c
   .simp only[c,Ef];obtain⟨u,a2⟩:=h.m7 e;exact⟨(EB (p 7 (by simp) c) _).trans u,a2.below w a2.lt⟩
theorem UsInv.store (h:UsInv w0 base n is a W f) (hi:(8:Nat)∈is) (d2:2∉is) (d6:6∉is) (d7:7∉is) :UsInv w0 base n (is.erase 8) a (W.setCell ⟨f 6,0,none⟩ (.slice (some ⟨f 2,0,none⟩) n n)) f:=by
 have b:∀j,j∉is.erase 8↔j=8\/j∉is:=fun j=>by rw[h.nd.mem_erase_iff];by_cases e:j=8<;>simp[e]
 have h8:(8:Nat)∉is.erase 8:=(b 8).2 (.inl rfl);have l:∀j,j≠8->j∉is.erase 8->j∉is:=fun j c g=>((b j).1 g).resolve_left c
 obtain⟨x,o⟩:=h.m6 d6;rw[AU hi]at o;obtain⟨y,u6⟩:=h.lt 6 (by simp) d6;have t:∀{v:Value} {e:TypeId} {m:Nat} {xs:List Value},W.ownsRow w0.heap.size e 1 v m xs->e≠22->(W.setCell ⟨f 6,0,none⟩ (.slice (some ⟨f 2,0,none⟩) n n)).ownsRow w0.heap.size e 1 v m xs:=fun u q=>AO u (FI u o q) _
 refine⟨h.nd.erase 8,h.defers,h.size,h.same,h.bel.setCell (p:=⟨f 6,0,none⟩) y _,fun _=>⟨(b _).2 (.inr d2),(b _).2 (.inr d6),(b _).2 (.inr d7)⟩,fun j c d=>?_,fun j c k w r d s=>?_,fun g=>?_,fun g=>?_,fun g=>?_,fun g=>?_⟩
 .rw [Fg];exact h.lt j c (l j (by rintro rfl;simp at c) d)
 .exact h.ne j c k w r (l j (by rintro rfl;simp at c) d) (l k (by rintro rfl;simp at w) s)
 .obtain ⟨i,a2⟩:=h.m2 d2;exact⟨i,t a2 (by decide)⟩
 .obtain ⟨i,a2⟩:=h.m5 (l 5 (by decide) g);exact⟨i,t a2 (by decide)⟩
 .rw [AP h8];exact⟨x,o.set_ 0 _⟩
 .obtain ⟨i,a2⟩:=h.m7 d7;refine⟨i,a2.far (p:=⟨f 6,0,none⟩) ?_ _⟩;exact h.ne 7 (by simp) 6 (by simp) (by decide) d7 d6
end
end
section
open Go.RowKit Go.Sort
def Pj (l:List Ar) (k s:Nat):List Int:=((l.take k).filter fun a=>decide (a.fr=(s:Int))).map Ar.to
def Gs (l:List Ar) (k s:Nat):List Int:=((l.take k).filter fun a=>decide (a.to=(s:Int))).map Ar.fr
theorem ZW (l:List Ar) (k:Nat) (a:k<l.length) (s:Nat):Pj l (k+1) s=if(s:Int)=(l.getD k Cq).fr then Pj l k s++[(l.getD k Cq).to]else Pj l k s:=by
 unfold Pj;rw[Ek l Cq k a,Ck,CH];by_cases h:(l.getD k Cq).fr=(s:Int)
 .rw [AU h.symm,CD (by simpa using h)];rfl
 .rw [AP (fun x=>h x.symm),CE (by simpa using h)];simp
theorem Vh (l:List Ar) (k:Nat) (a:k<l.length) (s:Nat):Gs l (k+1) s=if(s:Int)=(l.getD k Cq).to then Gs l k s++[(l.getD k Cq).fr]else Gs l k s:=by
 unfold Gs;rw[Ek l Cq k a,Ck,CH];by_cases h:(l.getD k Cq).to=(s:Int)
 .rw [AU h.symm,CD (by simpa using h)];rfl
 .rw [AP (fun x=>h x.symm),CE (by simpa using h)];simp
theorem Wf (l:List Ar) (k s:Nat):(Pj l k s).length<=l.length:=by unfold Pj;rw[A6];exact AK (CA _ _) (by rw[Cv];omega)
theorem Rx (l:List Ar) (k s:Nat):(Gs l k s).length<=l.length:=by unfold Gs;rw[A6];exact AK (CA _ _) (by rw[Cv];omega)
structure UsW (w wr:World) (Bt Bo Bb L1 L2 n ba:Nat) (cs:Array Value) (v1 v2:List Value) (r1 r2:Nat->List Int):Prop where
 bt:BL wr Bt 32 cs
 bo:BL wr Bo 22 #[.slice (some ⟨L1,0,none⟩) n n]
 bb:BL wr Bb 22 #[.slice (some ⟨L2,0,none⟩) n n]
 g1:Grp Ib 1 wr ba L1 n 55 3 v1 r1
 g2:Grp Ib 1 wr ba L2 n 55 3 v2 r2
 ne:L1≠L2
 ap:∀s t,s<n->t<n->Ij (v1.getD s Bf) (v2.getD t Bf)
 bel:Below w.heap.size w wr
 lb:w.heap.size<=ba
section
variable {w wr w':World} {Bt Bo Bb L1 L2 n ba:Nat} {cs:Array Value} {v1 v2:List Value} {r1 r2:Nat->List Int}
theorem UsW.swap (h:UsW w wr Bt Bo Bb L1 L2 n ba cs v1 v2 r1 r2):UsW w wr Bt Bb Bo L2 L1 n ba cs v2 v1 r2 r1:=⟨h.bt,h.bb,h.bo,h.g2,h.g1,h.ne.symm,fun s t a b=>(h.ap t s b a).symm,h.bel,h.lb⟩
theorem UsW.call (h:UsW w wr Bt Bo Bb L1 L2 n ba cs v1 v2 r1 r2) (a:Below wr.heap.size wr w'):UsW w w' Bt Bo Bb L1 L2 n ba cs v1 v2 r1 r2:=⟨h.bt.below a h.bt.lt,h.bo.below a h.bo.lt,h.bb.below a h.bb.lt,h.g1.call a,h.g2.call a,h.ne,h.ap,h.bel.trans (a.mono h.bel.size),h.lb⟩
theorem UsW.put (h:UsW w wr Bt Bo Bb L1 L2 n ba cs v1 v2 r1 r2) (s:Nat) (l:s<n) {v':Value} (x:Int) (j:wr.grownBy w' (v1.getD s Bf).ownBlock) (A:w'.ownsRow ba 3 1 v' ((r1 s).length+1) (B_ Ib (r1 s)++Ib x)) (u:v'.ownBlock=(v1.getD s Bf).ownBlock\/v'.ownBlock=some wr.heap.size) :UsW w (w'.setCell ⟨L1,s,none⟩ v') Bt Bo Bb L1 L2 n ba cs (v1.set s v') v2 (fun t=>if t=s then r1 s++[x]else r1 t) r2:=by
 have lb:=h.lb;have v:v1.length=n:=by have:=h.g1.own.1;omega
 have m:=h.g1.row s l;have o:w.heap.size<=L1:=by have:=(own_lt h.g1.own L1 rfl).1;omega
 have q:∀{g:Nat} {T:TypeId} {c:Array Value},BL wr g T c->3≠T->55≠T->BL (w'.setCell ⟨L1,s,none⟩ v') g T c:=fun {g T c} d h1 h2=>(BM d j (AV m d h1)).far (p:=⟨L1,s,none⟩) (fun e=>AV h.g1.own d h2 (by rw[e];rfl)) _
 have B:=h.g2.kept j (fun e=>BG m h.g2.own (by decide) L2 e rfl) (fun t r=>(h.ap s t l r).symm.or_none);refine⟨q h.bt (by decide) (by decide),q h.bo (by decide) (by decide),q h.bb (by decide) (by decide),h.g1.put (by decide) s l x j A u,?_,h.ne,fun a b y d=>?_,?_,h.lb⟩
 .refine B.set (p:=⟨L1,s,none⟩) h.ne (fun t r e=>?_) _;exact BG (h.g2.row t r) h.g1.own (by decide) L1 e rfl
 .by_cases z:a=s
  .subst z
   rw[JF _ _ _ _ (by omega)];intro g f i;rcases u with h1|h1
   .exact h.ap a b y d g (by rw[<-h1];exact f) i
   .rw [h1]at f;have:=AL f;have:=(own_lt (h.g2.row b d) g i).2;omega
  .rw [Fb _ _ _ _ _ (CF z)];exact h.ap a b y d
 .exact ((h.bel).grown j h.bel.size (fun k C=>by have:=(own_lt m k C).1;omega)).setCell (p:=⟨L1,s,none⟩) o _
end
theorem Ry {α:Type} {enc:α->List Value} {k:Nat} {w':World} {base L n:Nat} {b e:TypeId} {rows:Nat->List α} (h:w'.ownsRow base b 1 (.slice (some ⟨L,0,none⟩) n n) n (List.replicate n Bf)) (c:∀s,rows s=[]:=by intro s;rfl):Grp enc k w' base L n b e (List.replicate n Bf) rows:=by
 have a:∀s,(List.replicate n Bf).getD s Bf=Bf:=by intro s;rw[AC,CC];split<;>rfl
 refine⟨h,fun s _=>?_,fun s t _ _ _=>?_⟩
 .rw [a,c];exact Bc _ _ _ _
 .rw [a,a];intro g d;cases d
theorem Qf:(Tryz.prog.info? 55).map (fun i=>(i.zero,i.size,i.bytes))=some (some (.slice none 0 0),1,24):=by kernel_rfl
theorem OA:(Tryz.prog.info? 3).map (fun i=>(i.zero,i.size,i.bytes))=some (some (.int .i64 0),1,8):=by kernel_rfl
theorem Mc (z:Int):∀v∈Ib z,v.oneCell'=true:=by intro v a;simp[Ib]at a;subst a;rfl
def Qg (t:Fs) (cs:Array Value) (n:Nat) (w:World) (e:Ending) (w':World):Prop:=∃Bo Bb L1 L2 ba v1 v2,e=.returned (.func (.func 91) #[] #[.pointer (some ⟨w.heap.size,0,none⟩),.pointer (some ⟨Bo,0,none⟩),.pointer (some ⟨Bb,0,none⟩)])/\UsW w w' w.heap.size Bo Bb L1 L2 n ba cs v1 v2 (Pj t.arcs t.arcs.length) (Gs t.arcs t.arcs.length)
theorem Vi (t:Fs) (Q R J:Option Addr) (S T U V m X B n:Nat) (w:World) (HR:Reads w B 8 J m (B_ Cx t.arcs)) (hB:B<=w.heap.size) (hn:n<=1024) (c6:m<=16384) (b1:∀x∈t.arcs,0<=x.fr/\x.fr<(n:Int)/\0<=x.to/\x.to<(n:Int)) :Calls Tryz.prog 59 #[.agg #[.int .i64 (n:Int),.slice Q S T,.slice R U V,.slice J m X]] w (Qg t #[.int .i64 (n:Int),.slice Q S T,.slice R U V,.slice J m X] n w):=by
 have b2:=FE Ds (by decide) HR;have au:=AB b2;have cn:=AB b1;have co:=HR.more hB;obtain⟨i0,hi,bj,bk,b3⟩:=BK Qf;have bl:i0.bytes*n<=281474976710656:=by rw[b3];omega
 have b4:n<=maxLen:=by unfold maxLen;omega
 have JB:=BL.new w 32 #[.int .i64 (n:Int),.slice Q S T,.slice R U V,.slice J m X];have LB:=(AH w.heap.size w).alloc (AD _) (.cells #[.int .i64 (n:Int),.slice Q S T,.slice R U V,.slice J m X] 32);have k0:=AF (JB.cell 0);have b5:∀W,(Instr.alloc 22 true (.tuple #[])).run Tryz.prog W=.ok (.pointer (some ⟨W.heap.size,0,none⟩)) (W.alloc (.cells #[.slice none 0 0] 22)):=fun W=>by simp[go_sem]
 have HD:∀W',Below (w.alloc (.cells #[.int .i64 (n:Int),.slice Q S T,.slice R U V,.slice J m X] 32)).drew.heap.size (w.alloc (.cells #[.int .i64 (n:Int),.slice Q S T,.slice R U V,.slice J m X] 32)).drew W'->Below (w.alloc (.cells #[.int .i64 (n:Int),.slice Q S T,.slice R U V,.slice J m X] 32)).heap.size (w.alloc (.cells #[.int .i64 (n:Int),.slice Q S T,.slice R U V,.slice J m X] 32)) W':=fun W' hb=>(AH _ _).drew.trans hb
 clear b1 b2 HR;go_enter Tryz.func59,Tryz.ntmps59;go_wp2
 refine EL 9 [0,1,3,4] [2,5,6,7,8] (fun i=>if i=8 then[2,6,7]else[]) (by kernel_rfl) (by kernel_rfl) rfl (by kernel_rfl)
  (fun is a W=>(∀i∈is,i∈[2,5,6,7,8])/\∃f,UsInv (w.alloc (.cells #[.int .i64 (n:Int),.slice Q S T,.slice R U V,.slice J m X] 32)).drew ⟨#[.agg #[.int .i64 (n:Int),.slice Q S T,.slice R U V,.slice J m X],.pointer (some ⟨w.heap.size,0,none⟩),.nilFunc,undef,undef,undef,undef,.pointer (some ⟨w.heap.size,0,none⟩),.int .i64 (n:Int),undef,.pointer (some ⟨w.heap.size,0,none⟩),.int .i64 (n:Int),undef,undef,undef,undef,undef,undef,undef,undef,undef,undef,undef,undef,undef,undef,undef,undef,undef,undef,undef,undef,undef,undef,undef,undef,undef,undef,undef,undef,undef,undef,undef,undef,undef,undef,undef,undef],[]⟩ n is a W f) ?step ?fin ?_
 case step=>
  rintro is a W ⟨ay,f,h⟩ i Y ah;have av:∀x∈[9,12,3,4],x<(48:Nat):=by decide
  have o:∀j∈is.erase i,j∈[2,5,6,7,8]:=fun j hj=>ay j (Do hj)
  have b8:=ay i Y;simp only[Bh,BP,Eg]at b8;rcases b8 with rfl|rfl|rfl|rfl|rfl
  .refine ⟨_,rfl,rfl,Pd 8 22 rfl w.heap.size.succ 55 i0 _ 1 Tryz.underlying22 hi bj bk n (Fc ((h.same 8 (by decide)).trans rfl)) bl b4 (by have:=h.bel.size;simpa using this) ?_⟩
   intro W' c hb;rw[show(Value.slice none 0 0).cells=#[Value.slice none 0 0]from rfl,CG,BZ]at c;have ai:=(own_lt c W.heap.size rfl).2;have e0:w.heap.size.succ=(w.alloc (.cells #[.int .i64 (n:Int),.slice Q S T,.slice R U V,.slice J m X] 32)).drew.heap.size:=by simp
   rw[e0]at c;exact⟨A5 (HD _ (h.bel.trans (hb.mono h.bel.size))),o,_,h.make 2 Y (by decide) 9 (by decide) _ hb ai (by decide) (fun _=>⟨rfl,rfl,c⟩) (fun e=>absurd e (by decide)) (fun e=>absurd e (by decide)) (fun e=>absurd e (by decide)) av⟩
  .refine ⟨_,rfl,rfl,Pd 11 22 rfl w.heap.size.succ 55 i0 _ 1 Tryz.underlying22 hi bj bk n (Fc ((h.same 11 (by decide)).trans rfl)) bl b4 (by have:=h.bel.size;simpa using this) ?_⟩
   intro W' c hb;rw[show(Value.slice none 0 0).cells=#[Value.slice none 0 0]from rfl,CG,BZ]at c;have ai:=(own_lt c W.heap.size rfl).2;have e0:w.heap.size.succ=(w.alloc (.cells #[.int .i64 (n:Int),.slice Q S T,.slice R U V,.slice J m X] 32)).drew.heap.size:=by simp
   rw[e0]at c;exact⟨A5 (HD _ (h.bel.trans (hb.mono h.bel.size))),o,_,h.make 5 Y (by decide) 12 (by decide) _ hb ai (by decide) (fun e=>absurd e (by decide)) (fun _=>⟨rfl,rfl,c⟩) (fun e=>absurd e (by decide)) (fun e=>absurd e (by decide)) av⟩
  .refine ⟨_,rfl,rfl,T_ 22 Bf rfl b5 ?_⟩;have hb:=(AH W.heap.size W).alloc (AD _) (.cells #[Bf] 22);exact⟨A5 (HD _ (h.bel.trans (hb.mono h.bel.size))),o,_,h.make 6 Y (by decide) 3 (by decide) _ hb (by simp) (by decide) (fun e=>absurd e (by decide)) (fun e=>absurd e (by decide)) (fun _=>⟨rfl,rfl,BL.new W _ _⟩) (fun e=>absurd e (by decide)) av⟩
  .refine ⟨_,rfl,rfl,T_ 22 Bf rfl b5 ?_⟩;have hb:=(AH W.heap.size W).alloc (AD _) (.cells #[Bf] 22);exact⟨A5 (HD _ (h.bel.trans (hb.mono h.bel.size))),o,_,h.make 7 Y (by decide) 4 (by decide) _ hb (by simp) (by decide) (fun e=>absurd e (by decide)) (fun e=>absurd e (by decide)) (fun e=>absurd e (by decide)) (fun _=>⟨rfl,rfl,BL.new W _ _⟩) av⟩
  .have d2:=ah 2 (by decide);have d6:=ah 6 (by decide);have d7:=ah 7 (by decide);have h6:=h.m6 d6;rw[AU Y]at h6;refine⟨_,rfl,rfl,ZJ 22 (.tmp 3) (.tmp 9) rfl (f 6) _ Bf (Fc h6.1) (Fc (h.m2 d2).1) (by kernel_rfl) rfl h6.2 ?_⟩;have hs:=h.store Y d2 d6 d7;exact⟨A5 (HD _ hs.bel),o,f,hs⟩
 case fin=>
  rintro a W ⟨_,f,h⟩;obtain⟨a9,o1⟩:=h.m2 (by simp);obtain⟨a12,o2⟩:=h.m5 (by simp);obtain⟨a3,b6⟩:=h.m6 (by simp);obtain⟨a4,b7⟩:=h.m7 (by simp);rw[AP (by simp)]at b6;have b9:=h.ne 2 (by decide) 5 (by decide) (by decide) (by simp) (by simp);have ca:=h.ne 6 (by decide) 7 (by decide) (by decide) (by simp) (by simp);have bm:=h.bel;have cb:=h.lt 7 (by decide) (by simp);rw[Ph h.defers h.size h.same a9 a12 a3 a4];clear h a9 a12 a3 a4;generalize f 2=L1 at *;generalize f 5=L2 at *;generalize f 6=Bo at *;generalize f 7=Bb at *;have cq:=b7.cell 0;have cr:=b7.frozen 0;simp only[Act.put];go_wp2;refine Be ?_;have hD:=HD _ bm;have cs:W.heap.size>w.heap.size:=by have:=bm.size;simp at this;omega
  have bn:UsW w (W.setCell ⟨Bb,0,none⟩ (.slice (some ⟨L2,0,none⟩) n n)) w.heap.size Bo Bb L1 L2 n (w.heap.size+1) #[.int .i64 (n:Int),.slice Q S T,.slice R U V,.slice J m X] (List.replicate n Bf) (List.replicate n Bf) (Pj t.arcs 0) (Gs t.arcs 0):=by
   have hz:(w.alloc (.cells #[.int .i64 (n:Int),.slice Q S T,.slice R U V,.slice J m X] 32)).drew.heap.size=w.heap.size+1:=by simp
   rw[hz]at o1 o2;have ct:=cb.1;rw[hz]at ct;refine⟨(JB.below hD JB.lt).far (p:=⟨Bb,0,none⟩) (by show w.heap.size≠Bb;omega) _,b6.far (p:=⟨Bb,0,none⟩) ca _,b7.set_ 0 _,Ry (AO o1 (FI o1 b7 (by decide)) _),Ry (AO o2 (FI o2 b7 (by decide)) _),b9,fun s t _ _ g hg=>?_,((LB.trans (hD.mono (by simp))).setCell (p:=⟨Bb,0,none⟩) (by show w.heap.size<=Bb;omega) _),EQ _⟩;have e:(List.replicate n Bf).getD s Bf=Bf:=by rw[AC,CC];split<;>rfl
   rw[e]at hg;cases hg
  have q3:=bn.bt.cell 3;clear bm hD o1 o2 b6 b7 b9 ca cq cr JB LB HD hi bj bk b3 bl cb;generalize W.setCell ⟨Bb,0,none⟩ (.slice (some ⟨L2,0,none⟩) n n)=W1 at *;clear cs;go_wp2;clear q3;go_loopw [16] (fun i wr=>∃(k:Nat) (v1 v2:List Value),k<=m/\i=.int .i64 ((k:Nat):Int)/\UsW w wr w.heap.size Bo Bb L1 L2 n (w.heap.size+1) #[.int .i64 (n:Int),.slice Q S T,.slice R U V,.slice J m X] v1 v2 (Pj t.arcs k) (Gs t.arcs k)) (fun i _=>m-(intOf i).toNat)
  case atStart=>exact⟨0,_,_,AN _,rfl,bn⟩
  case round=>
   clear bn;obtain⟨k,v1,v2,hk,rfl,HU⟩:=hrel;by_cases ai:k<m
   .have c7:(0:Int)<=(k:Int):=by omega
    have c8:(k:Int)<(m:Int):=by omega
    obtain⟨gx,ox,rfl,c9,a0,a1,a2,a3,a4,a5,a6,a7⟩:=Di (co.below HU.bel) k ai;have aw:k<t.arcs.length:=by have:=au.out;omega
    obtain⟨o1,o2,o3,o4⟩:=cn.out _ (getD_in t.arcs Cq k aw);have cu:=AB (ZW t.arcs k aw);have cv:=AB (Vh t.arcs k aw);have cc:∀s,(Pj t.arcs k s).length<=16384:=fun s=>AK (Wf t.arcs k s) (by have:=au.out;omega)
    have cd:∀s,(Gs t.arcs k s).length<=16384:=fun s=>AK (Rx t.arcs k s) (by have:=au.out;omega)
    generalize t.arcs.getD k Cq=x at *;obtain⟨fr,tt,⟨s1,s2,s3,s4⟩,qo,cp⟩:=x;simp only at a0 a1 a2 a3 a4 a5 a6 a7 o1 o2 o3 o4;obtain⟨s,rfl⟩:∃s:Nat,fr=(s:Int):=⟨_,(AT o1).symm⟩
    obtain⟨u,rfl⟩:∃u:Nat,tt=(u:Int):=⟨_,(AT o3).symm⟩
    have y:s<n:=by omega
    have z:u<n:=by omega
    have cy:(s:Int)<(n:Int):=by omega
    have cz:(u:Int)<(n:Int):=by omega
    have da:=cc s;have db:=cd u;clear cc cd aw;generalize Pj t.arcs k=A at *;generalize Gs t.arcs k=C at *;have LB:=(AH wr.heap.size wr).alloc (AD _) (.cells #[.int .i64 (s:Int),.int .i64 (u:Int),.int .u64 (s1:Int),.int .u64 (s2:Int),.int .u64 (s3:Int),.int .u64 (s4:Int),.string qo,.bool cp] 61);have ax:=HU.call LB;have bp:=BL.new wr 61 #[.int .i64 (s:Int),.int .i64 (u:Int),.int .u64 (s1:Int),.int .u64 (s2:Int),.int .u64 (s3:Int),.int .u64 (s4:Int),.string qo,.bool cp];obtain⟨ia,ce,az,a8,ba⟩:=BK OA;clear HU LB;go_wp2;clear a0 a1 a2 a3 a4 a5 a6 a7;generalize wr.heap.size=Gx at *;generalize (wr.alloc (.cells #[.int .i64 (s:Int),.int .i64 (u:Int),.int .u64 (s1:Int),.int .u64 (s2:Int),.int .u64 (s3:Int),.int .u64 (s4:Int),.string qo,.bool cp] 61))=wa at *;have aj:=ax.g1.row s y;obtain⟨cf,cg,af,_,_,_⟩:=BH aj;have ak:=CM ax.g1.own s y Bf;rw[af]at ak;obtain⟨D,E⟩:∃Sx:World->Prop,Sx=fun W=>BL W Gx 61 #[.int .i64 (s:Int),.int .i64 (u:Int),.int .u64 (s1:Int),.int .u64 (s2:Int),.int .u64 (s3:Int),.int .u64 (s4:Int),.string qo,.bool cp]/\BL W Bo 22 #[.slice (some ⟨L1,0,none⟩) n n]/\W.cell? ⟨L1,s,none⟩=some (.slice cf (A s).length cg):=⟨_,rfl⟩
    have ac:=fun W x1 x2 x3=>show D W by rw[E];exact⟨x1,x2,x3⟩
    have K:=fun W (h:D W)=>show BL W Gx 61 #[.int .i64 (s:Int),.int .i64 (u:Int),.int .u64 (s1:Int),.int .u64 (s2:Int),.int .u64 (s3:Int),.int .u64 (s4:Int),.string qo,.bool cp]/\BL W Bo 22 #[.slice (some ⟨L1,0,none⟩) n n]/\W.cell? ⟨L1,s,none⟩=some (.slice cf (A s).length cg)by rw[E]at h;exact h
    have y0:=fun p:Cr D=>(K p.w p.2).1.cell 0
    have y1:=fun p:Cr D=>(K p.w p.2).1.cell 1
    have y2:=fun p:Cr D=>(K p.w p.2).2.1.cell 0
    have y3:=fun p:Cr D=>(K p.w p.2).2.2
    have al:D wa.drew:=ac _ bp ax.bo ak;clear E;have c0:Nonempty (Cr D):=⟨⟨_,al⟩⟩;go_wp2;refine Cs D 12 [0,1,2,3,4,5,6,7,8,9] [10,11] (by kernel_rfl) (by kernel_rfl) rfl (by kernel_rfl) al ?_;simp only[CV,A_,BA,Az,BI]
    repeat (go_big_quiet_step (fail))
    refine Ah ?_;clear y0 y1 y2 y3;have bq:Below wa.heap.size wa (wa.drew.alloc (.cells #[.int .i64 (u:Int)] 3)):=(AH _ wa).drew.alloc (AD _) _;have d:=ax.call bq;have L:=bp.below bq bp.lt;have Z:=CM d.g1.own s y Bf;rw[af]at Z;refine BU rfl (fun KK r=>?_);go_simp;refine r _ _ (EW.of (ac _ L d.bo Z)) ?_;clear r KK;have bc:=Bg wa.drew [.int .i64 (u:Int)] 3 1 1 rfl;have F:=d.g1.row s y;rw[af]at F;have br:=Mc (u:Int);have h630:(A s).length+1<=maxLen:=by unfold maxLen;omega
    have ch:((A s).length+1)*8<=140737488355328:=by omega
    have bd:w.heap.size+1<=(wa.drew.alloc (.cells #[.int .i64 (u:Int)] 3)).heap.size:=by have:=own_lt d.g1.own L1 rfl;omega
    refine BU rfl (fun KK r=>?_);refine DL _ _ _ 55 rfl (w.heap.size+1) 3 ia _ 1 8 Tryz.underlying55 ce az a8 ba rfl (by decide) _ _ _ rfl F _ (some ⟨wa.drew.heap.size,0,none⟩) 1 1 [.int .i64 (u:Int)] rfl bc br h630 ch bd ?_;intro dc cw c v M;have b:=v;rw[<-af]at b;have ad:=(d.put s y (u:Int) b c (by rw[af];exact M));have kk:=d.g1.own.kept b (BG d.g1.own (d.g1.row s y) (by decide)).or_none;have aa:=CM kk s y Bf;have bs:=Df kk s;rw[af]at aa;have am:=BM L b (AV (d.g1.row s y) L (by decide));have be:=BM d.bo b (AV (d.g1.row s y) d.bo (by decide));refine r _ _ (EW.of (ac _ am be aa)) ?_;clear r KK;obtain⟨bu,bv,rfl,_,_,_⟩:=BH c;have an:=am.far (p:=⟨L1,s,none⟩) (fun e=>AV d.g1.own L (by decide) (BY some e.symm)) (.slice bu ((A s).length+1) bv);clear c v b M bc F L d ac K al kk ak Z bq am be aj bd;refine Cc ?_;go_wp2;refine Be ?_;clear aa bs;generalize (cw.setCell ⟨L1,s,none⟩ (.slice bu ((A s).length+1) bv))=N at *;have ao:=ad.g2.row u z;obtain⟨ci,cj,ag,_,_,_⟩:=BH ao;have ap:=CM ad.g2.own u z Bf;rw[ag]at ap;obtain⟨G,H⟩:∃Sx:World->Prop,Sx=fun W=>BL W Gx 61 #[.int .i64 (s:Int),.int .i64 (u:Int),.int .u64 (s1:Int),.int .u64 (s2:Int),.int .u64 (s3:Int),.int .u64 (s4:Int),.string qo,.bool cp]/\BL W Bb 22 #[.slice (some ⟨L2,0,none⟩) n n]/\W.cell? ⟨L2,u,none⟩=some (.slice ci (C u).length cj):=⟨_,rfl⟩
    have ae:=fun W x1 x2 x3=>show G W by rw[H];exact⟨x1,x2,x3⟩
    have O:=fun W (h:G W)=>show BL W Gx 61 #[.int .i64 (s:Int),.int .i64 (u:Int),.int .u64 (s1:Int),.int .u64 (s2:Int),.int .u64 (s3:Int),.int .u64 (s4:Int),.string qo,.bool cp]/\BL W Bb 22 #[.slice (some ⟨L2,0,none⟩) n n]/\W.cell? ⟨L2,u,none⟩=some (.slice ci (C u).length cj)by rw[H]at h;exact h
    have y0:=fun p:Cr G=>(O p.w p.2).1.cell 0
    have y1:=fun p:Cr G=>(O p.w p.2).1.cell 1
    have y2:=fun p:Cr G=>(O p.w p.2).2.1.cell 0
    have y3:=fun p:Cr G=>(O p.w p.2).2.2
    have aq:G N.drew:=ae _ an ad.bb ap;clear H;have c4:Nonempty (Cr G):=⟨⟨_,aq⟩⟩;go_wp2;refine Cs G 12 [0,1,2,3,4,5,6,7,8,9] [10,11] (by kernel_rfl) (by kernel_rfl) rfl (by kernel_rfl) aq ?_;simp only[CV,A_,BA,Az,BI]
    repeat (go_big_quiet_step (fail))
    refine Ah ?_;clear y0 y1 y2 y3;have bw:Below N.heap.size N (N.drew.alloc (.cells #[.int .i64 (s:Int)] 3)):=(AH _ N).drew.alloc (AD _) _;have l:=ad.call bw;have P:=an.below bw an.lt;have ab:=CM l.g2.own u z Bf;rw[ag]at ab;refine BU rfl (fun KK r=>?_);go_simp;refine r _ _ (EW.of (ae _ P l.bb ab)) ?_;clear r KK;have bf:=Bg N.drew [.int .i64 (s:Int)] 3 1 1 rfl;have I:=l.g2.row u z;rw[ag]at I;have bx:=Mc (s:Int);have h631:(C u).length+1<=maxLen:=by unfold maxLen;omega
    have ck:((C u).length+1)*8<=140737488355328:=by omega
    have bg:w.heap.size+1<=(N.drew.alloc (.cells #[.int .i64 (s:Int)] 3)).heap.size:=by have:=own_lt l.g2.own L2 rfl;omega
    refine BU rfl (fun KK r=>?_);refine DL _ _ _ 55 rfl (w.heap.size+1) 3 ia _ 1 8 Tryz.underlying55 ce az a8 ba rfl (by decide) _ _ _ rfl I _ (some ⟨N.drew.heap.size,0,none⟩) 1 1 [.int .i64 (s:Int)] rfl bf bx h631 ck bg ?_;intro dd cx c v M;have b:=v;rw[<-ag]at b;have cl:=(l.swap.put u z (s:Int) b c (by rw[ag];exact M)).swap;have kk:=l.g2.own.kept b (BG l.g2.own (l.g2.row u z) (by decide)).or_none;have aa:=CM kk u z Bf;have bs:=Df kk u;rw[ag]at aa;have ar:=BM P b (AV (l.g2.row u z) P (by decide));have bh:=BM l.bb b (AV (l.g2.row u z) l.bb (by decide));refine r _ _ (EW.of (ae _ ar bh aa)) ?_;clear r KK;obtain⟨bz,b0,rfl,_,_,_⟩:=BH c;have c5:=ar.far (p:=⟨L2,u,none⟩) (fun e=>AV l.g2.own P (by decide) (BY some e.symm)) (.slice bz ((C u).length+1) b0);clear c v b M bf I P l ae O aq kk ap ab bw ar bh ao bg;refine Cc ?_;go_wp2;refine Be ?_;clear aa bs;generalize (cx.setCell ⟨L2,u,none⟩ (.slice bz ((C u).length+1) b0))=de at *;go_wp2;go_roundw
    case rel=>
     refine⟨k+1,v1.set s (.slice bu ((A s).length+1) bv),v2.set u (.slice bz ((C u).length+1) b0),by omega,by go_num,?_⟩
     have e1:Pj t.arcs (k+1)=fun q=>if q=s then A s++[(u:Int)]else A q:=by
      funext q;rw[cu.out q];by_cases hq:q=s
      .subst hq;rw[AU rfl,AU rfl]
      .rw [AP (show ¬((q:Int)=(s:Int))by omega),AP hq]
     have e2:Gs t.arcs (k+1)=fun q=>if q=u then C u++[(s:Int)]else C q:=by
      funext q;rw[cv.out q];by_cases hq:q=u
      .subst hq;rw[AU rfl,AU rfl]
      .rw [AP (show ¬((q:Int)=(u:Int))by omega),AP hq]
     rw[e1,e2];exact cl
    case measure=>simp[intOf];omega
   .obtain rfl:m=k:=by omega
    have df:∀(fn:Fn) (first cap:Array Value) (w:World),(Instr.makeFunc fn first cap).run Tryz.prog w=.ok (.func fn first cap) w:=fun _ _ _ _=>rfl
    have bi:Qg t #[.int .i64 (n:Int),.slice Q S T,.slice R U V,.slice J m X] n w (.returned (.func (.func 91) #[] #[.pointer (some ⟨w.heap.size,0,none⟩),.pointer (some ⟨Bo,0,none⟩),.pointer (some ⟨Bb,0,none⟩)])) wr:=⟨Bo,Bb,L1,L2,_,v1,v2,rfl,by rw[au.out];exact HU⟩;have cm:=AB bi;clear bi;go_wp2;go_ret;exact cm.out
 simp only[CV,A_,BA]
 repeat (go_big_quiet_step (fail))
 refine Ah ?_;exact⟨fun i hi=>hi,fun _=>0,by decide,rfl,rfl,fun _ _=>rfl,AH _ _,fun h=>absurd (by decide) h,fun i h1 h2=>absurd (by simp at h1 ⊢;omega) h2,fun i h1 j _ _ h2=>absurd (by simp at h1 ⊢;omega) h2,fun h=>absurd (by decide) h,fun h=>absurd (by decide) h,fun h=>absurd (by decide) h,fun h=>absurd (by decide) h⟩
end
section
open Go.RowKit Go.Sort Go.Shelf
attribute [local go_sem] Gl
theorem TE {β:Type} {B:Nat} {J:β->World->Prop} (a:AbidesFrom B J) {s:β} {w w':World} (h:J s w) (b:Below w.heap.size w w'):J s w':=a s w w' none h (MR b) (fun r e=>by cases e)
def O_ (B:Nat) (X Y:World):Prop:=X.heap.size<=Y.heap.size/\∀k cs T fr,B<=k->X.heap[k]?=some (.cells cs T fr)->Y.heap[k]?=X.heap[k]?
theorem O_.trans {B:Nat} {X Y Z:World} (h:O_ B X Y) (k:O_ B Y Z):O_ B X Z:=⟨AK h.1 k.1,fun q a T b c d=>by have e:=h.2 q a T b c d;exact(k.2 q a T b c (e.trans d)).trans e⟩
theorem BL.keepF {B:Nat} {X Y:World} {g:Nat} {T:TypeId} {a:Array Value} (h:BL X g T a) (k:O_ B X Y) (b:B<=g):BL Y g T a:=(k.2 g a T (0,0) b h).trans h
def Wh (tips:List Tp) (succ:Nat->List Int) (x:Nat):Prop:=∃t∈tips,∃s:Nat,t.st=(s:Int)/\RT succ s x
def Uses (t:Fs) (n:Nat) (ys:List Nat):Prop:=∃p:Nat->Bool,(∀s,s<n->(p s=true↔Wh t.starts (Pj t.arcs t.arcs.length) s/\Wh t.ends (Gs t.arcs t.arcs.length) s))/\ys=(List.range n).filter p
theorem PA {Q:Exit->Act->World->Prop} {base:Act} {w:World} {ds:List Tmp} {o:Oper} {d:Tmp} {F:Value->World->Prop} (k:o.dst=some d) (l:o.guard=none) (x y:Tmp) (m:x∉ds) (n:y∉ds) (f:FuncId) (p:Array TypeId) (b:o.op=Op.call { callee:=.value (.func f),args:=#[.tmp x,.tmp y],argTypes:=p }) (q:∀args W,(callFunc f args).run Tryz.prog W=.ok (.enter f args) W) (r:∀v W W',F v W->Below W.heap.size W W'->F v W') (h:∀W,Below w.heap.size w W->Calls Tryz.prog f #[base.eval (.tmp x),base.eval (.tmp y)] W fun e W'=>∃v,e=.returned v/\Below W.heap.size W W'/\F v W') :Maker Tryz.prog Q base w ds o d F:=by
 refine⟨k,l,r,?_⟩;intro act W K a s t;have c:act.eval (.tmp x)=base.eval (.tmp x):=JO a x m;have g:act.eval (.tmp y)=base.eval (.tmp y):=JO a y n;have u:act.eval (.func f)=.func (.func f) #[] #[]:=rfl;unfold Oper.wp execOp;simp only[b,resolve,invoke,Fw,FX,DO,EG,c,g,u];have i:(Deferred.ofValue (Value.func (Fn.func f) #[] #[]) #[base.eval (.tmp x),base.eval (.tmp y)]).run Tryz.prog W=.ok { target:=.fn (.func f) #[],args:=#[base.eval (.tmp x),base.eval (.tmp y)] } W:=by rfl
 rw[i,Ee];simp only[Array.append_empty,q];rw[Oper.upon_enter];refine(h W s).mono ?_;rintro e W' ⟨v,rfl,j,z⟩;show K (act.put o.dst v) W';rw[k];exact t _ _ j z
theorem Vl (d:Nat) (hd:1<=d) (l Bt Bo Bb L1 L2 n B0:Nat) (t:Fs) (A1 A2 A3:Option Addr) (n1 c1 n2 c2 n3 c3:Nat) (J Jx:List Nat->World->Prop) (W:World) (hJ:AbidesFrom W.heap.size J) (aq:B0<=W.heap.size) (hY:∀pre x b,x<n->J pre b->pre.length<n->YieldAt Fence.wide (d-1) Tryz.prog l #[.int .i64 ((x:Nat):Int)] b fun e W'=>(e=.returned (.bool true)/\J (pre++[x]) W'/\O_ B0 b W')\/(e=.returned (.bool false)/\Jx (pre++[x]) W')) (B:BL W Bt 32 #[.int .i64 (n:Int),.slice A1 n1 c1,.slice A2 n2 c2,.slice A3 n3 c3]) (I:BL W Bo 22 #[.slice (some ⟨L1,0,none⟩) n n]) (K:BL W Bb 22 #[.slice (some ⟨L2,0,none⟩) n n]) (L:GE (fun k=>k<W.heap.size) Ib 1 W L1 n (Pj t.arcs t.arcs.length)) (C:GE (fun k=>k<W.heap.size) Ib 1 W L2 n (Gs t.arcs t.arcs.length)) (M:Reads W W.heap.size 2 A1 n1 (B_ CL t.starts)) (N:Reads W W.heap.size 2 A2 n2 (B_ CL t.ends)) (hn:n<=1024) (aj:n1<=100000/\∀x∈t.starts,0<=x.st/\x.st<(n:Int)) (ak:n2<=100000/\∀x∈t.ends,0<=x.st/\x.st<(n:Int)) (ar:t.arcs.length<=16384) (O:∀x∈t.arcs,0<=x.fr/\x.fr<(n:Int)/\0<=x.to/\x.to<(n:Int)) (h0:J [] W) :CallsIn Fence.wide d Tryz.prog 91 #[.func (.yield l) #[] #[],.pointer (some ⟨Bt,0,none⟩),.pointer (some ⟨Bo,0,none⟩),.pointer (some ⟨Bb,0,none⟩)] W fun e W'=>(∃v,e=.returned v) /\((∃ys,Uses t n ys/\J ys W')\/(∃pre,True/\Jx pre W')):=by
 have q:∀s,s<n->(Pj t.arcs t.arcs.length s).length<=20000/\∀z∈Pj t.arcs t.arcs.length s,0<=z/\z<(n:Int):=fun s hs=>⟨AK (Wf _ _ _) (by omega),fun z P=>by unfold Pj at P;obtain⟨x,hx,rfl⟩:=Bd.1 P;have:=O x (DH (BV.1 hx).1);exact⟨this.2.2.1,this.2.2.2⟩⟩
 have r:∀s,s<n->(Gs t.arcs t.arcs.length s).length<=20000/\∀z∈Gs t.arcs t.arcs.length s,0<=z/\z<(n:Int):=fun s hs=>⟨AK (Rx _ _ _) (by omega),fun z P=>by unfold Gs at P;obtain⟨x,hx,rfl⟩:=Bd.1 P;have:=O x (DH (BV.1 hx).1);exact⟨this.1,this.2.1⟩⟩
 have k1:=AF (B.cell 1);have k2:=AF (B.cell 2);have k3:=AF (I.cell 0);have k4:=AF (K.cell 0);refine callsIn_of_wp Tryz.func91 rfl trivial ?_ rfl;simp only[Tryz.ntmps91,CJ,Bn,Co,Nat.reduceAdd,Nat.reduceSub,ES,ET,FG,En,Cy,Cf];gi_wp2;refine wpIn_wide.2 ?_;refine Cd 8 [0,1,2,4,5,6] [3,7] (by kernel_rfl) (by kernel_rfl) rfl (by kernel_rfl) ?_;simp only[CV,A_,BA,Az,BI]
 repeat (go_big_quiet_step (fail))
 refine Ah ?_;clear k1 k2 k3 k4;have Q:=Rs A1 n1 c1 W.heap.size L1 n t.starts _ W.drew M (AD _) L hn q aj;have R:=fun b (S:Below W.heap.size W b)=>Rs A2 n2 c2 b.heap.size L2 n t.ends _ b ((N.below S).more S.size) (AD _) ⟨Aj C.1 S.size,fun s hs=>by obtain⟨A0,c0,x1,x2,x3,x4⟩:=(C.kept (w':=b) fun k hk=>S.block k hk).2 s hs;exact⟨A0,c0,x1,x2,x3,x4.mono fun k hk=>Aj hk S.size⟩⟩ hn r ak
 clear L C M N q r B I K;refine BU rfl (fun KK c=>?_);go_simp;refine Q.mono ?_;rintro e b ⟨g1,T,rfl,z1,D,U,V,u⟩;have a:Below W.heap.size W b:=(AH _ W).drew.trans u;have w:=R b a;have al:=AB V;have am:=AB U;clear Q R V U;refine c _ _ (A5 a) ?_;clear c KK;refine BU rfl (fun KK c=>?_);go_simp;refine w.mono ?_;rintro e W2 ⟨g2,X,rfl,z2,Y,Z,aa,f⟩;have y:=D.below f D.lt;have ab:=a.trans (f.mono a.size);have an:=AB aa;have ao:=AB Z;have au:W.heap.size<=g1:=z1;have av:W.heap.size<=g2:=AK a.size z2;clear w aa Z z1 z2;refine c _ _ (A5 ab) ?_;clear c KK;refine Cc ?_;go_wp2;refine Be ?_;have ap:=AB (TE hJ h0 ab);obtain⟨p,hp⟩:∃p:Nat->Bool,p=fun s=>T.getD s false && X.getD s false:=⟨_,rfl⟩
 have Hp:=AB hp;have HJ:=AB hJ;clear hp hJ h0 D u f a;gi_wp2
 gi_loopw [18] (fun i wr=>∃(k:Nat),k<=n/\i=.int .i64 ((k:Nat):Int)/\J ((List.range k).filter p) wr/\BL wr g1 4 (T.map Value.bool).toArray/\BL wr g2 4 (X.map Value.bool).toArray) (fun i _=>n-(intOf i).toNat)
 case atStart=>exact⟨0,AN _,rfl,ap.out,y,Y⟩
 case round=>
  clear y Y;obtain⟨k,hk,rfl,ac,g,j⟩:=hrel;have m:=AB ac;clear ac;by_cases o:k<n
  .have aw:(0:Int)<=(k:Int):=by omega
   have ax:(k:Int)<(n:Int):=by omega
   have c1:wr.cell? ⟨g1,k,none⟩=some (.bool (T.getD k false)):=by rw[g.cell];simp[am.out,o]
   have c2:wr.cell? ⟨g2,k,none⟩=some (.bool (X.getD k false)):=by rw[j.cell];simp[ao.out,o]
   have ad:p k=(T.getD k false && X.getD k false):=by rw[Hp.out]
   have E:(List.range (k+1)).filter p=(List.range k).filter p++if p k=true then[k]else[]:=by
    rw[Dj,Ck];by_cases h:p k=true
    .rw [AU h,CD h];rfl
    .rw [AP h,CE h];rfl
   rw[ad]at E;have F:=AB E;have ae:((List.range k).filter p).length<n:=Du (CA _ _) (by rw[EA];exact o);have af:=AB (hY _ k wr o m.out ae);clear ad E ae;generalize T.getD k false=x1 at *;generalize X.getD k false=x2 at *;rcases x1 with _|_
   .gi_wp2
    refine⟨(fun _ h=>by cases h),?_⟩;gi_wp2;go_roundw
    case rel=>exact⟨k+1,by omega,by go_num,by rw[F.out];simp only[Bool.false_and,Bool.false_eq_true,Ef,BC];exact m.out,g,j⟩
    case measure=>simp[intOf];omega
   .rcases x2 with _|_
    .gi_wp2
     refine⟨(fun _ h=>by cases h),?_⟩;gi_wp2;go_roundw
     case rel=>exact⟨k+1,by omega,by go_num,by rw[F.out];simp only[Bool.and_false,Bool.false_eq_true,Ef,BC];exact m.out,g,j⟩
     case measure=>simp[intOf];omega
    .obtain ⟨fn,tmps,assign,body,hy,hR⟩:=af.out
     clear af;gi_wp2;refine hR.mono ?_;rintro e W3 (⟨rfl,ag,G⟩|⟨rfl,A⟩)
     .have ah:=g.keepF G (by omega)
      have ai:=j.keepF G (by omega);have H:=AB ag;clear ag G;gi_wp2;go_roundw
      case rel=>exact⟨k+1,by omega,by go_num,by rw[F.out];exact H.out,ah,ai⟩
      case measure=>simp[intOf];omega
     .have H:=AB A;clear A;gi_wp2;refine AQ (results_none rfl _ _ _) rfl ?_;exact⟨⟨_,rfl⟩,.inr ⟨_,trivial,H.out⟩⟩
  .obtain rfl:n=k:=by omega
   gi_wp2;go_end0;refine⟨⟨_,rfl⟩,.inl ⟨_,⟨p,fun s hs=>?_,rfl⟩,m.out⟩⟩;rw[Hp.out,AW,al.out s,an.out s];exact Iff.rfl
end
section
open Go.RowKit Go.Sort Go.Shelf
theorem Qj:(Tryz.prog.info? 3).map (fun i=>(i.zero,i.size,i.bytes))=some (some (.int .i64 0),1,8):=by kernel_rfl
def Qk (t:Fs) (w:World) (e:Ending) (w':World):Prop:=∃u r,GF u r w e w'/\(r=0->Dq t=true/\Dq u=true/\∃f,Trims t u f)/\(r=0\/r=1)/\(Dq t=true->r=0)
def UV (n:Nat) (l:List Nat):Array Value:=((List.range n).map fun s=>Value.int .i64 (H4 l s)).toArray
structure TrW (w W:World) (gN BN G6 n:Nat) (cst:Array Value) (pre:List Nat):Prop where
 bt:BL W w.heap.size 32 cst
 br:BL W (w.heap.size+1) 32 #[.int .i64 0,.slice none 0 0,.slice none 0 0,.slice none 0 0]
 bN:BL W BN 55 #[.slice (some ⟨gN,0,none⟩) n n]
 nN:BL W gN 3 (UV n pre)
 b6:BL W G6 32 #[.int .i64 (pre.length:Int),.slice none 0 0,.slice none 0 0,.slice none 0 0]
 bel:Below w.heap.size w W
 l6:w.heap.size+1<G6
 lN:w.heap.size<=gN
section
variable {w W W':World} {gN BN G6 n:Nat} {cst:Array Value} {pre:List Nat}
theorem TrW.call (h:TrW w W gN BN G6 n cst pre) (a:Below W.heap.size W W'):TrW w W' gN BN G6 n cst pre:=⟨h.bt.below a h.bt.lt,h.br.below a h.br.lt,h.bN.below a h.bN.lt,h.nN.below a h.nN.lt,h.b6.below a h.b6.lt,h.bel.trans (a.mono h.bel.size),h.l6,h.lN⟩
theorem TrW.own:OwnFrom w.heap.size (fun(p:List (Fin n)) W=>TrW w W gN BN G6 n cst (p.map Fin.val)):=fun p A B row h b c=>by
 have a:∀{g:Nat} {T:TypeId} {d:Array Value},BL A g T d->some g≠row:=fun {g T d} f e=>by obtain⟨_,o,i,j⟩:=c g e.symm;unfold BL at f;rw[f]at i;cases i;cases j
 exact⟨h.bt.grown b (a h.bt),h.br.grown b (a h.br),h.bN.grown b (a h.bN),h.nN.grown b (a h.nN),h.b6.grown b (a h.b6),h.bel.grown b h.bel.size (fun k l=>(c k l).1),h.l6,h.lN⟩
end
theorem Zd (n:Nat) (l:List Nat) (x:Nat):(UV n l).setIfInBounds x (.int .i64 (l.length:Int))=UV n (l++[x]):=by
 unfold UV;rw[Bm];congr 1;apply Ct;intro k;rw[List.getElem?_set,Ag,Ag];by_cases b:k<n
 .rw [CP b]
  by_cases a:x=k
  .subst a;simp[b,SA]
  .simp [a,SA,CF a]
 .have e:(List.range n)[k]?=none:=AY (by simpa using b)
  rw[e];by_cases a:x=k
  .subst a;simp[b]
  .simp [a]
theorem Kv {W:World} {g n:Nat} {l:List Nat} (h:BL W g 3 (UV n l)) (s:Nat) (a:s<n):W.cell? ⟨g,s,none⟩=some (.int .i64 (H4 l s)):=by rw[h.cell];unfold UV;simp[a]
def TH (n k:Nat):Array Value:=((List.range n).map fun s=>Value.int .i64 (if s<k then -1 else 0)).toArray
theorem Ze (n k:Nat):(TH n k).setIfInBounds k (.int .i64 (-1))=TH n (k+1):=by
 unfold TH;rw[Bm];congr 1;apply Ct;intro j;rw[List.getElem?_set,Ag,Ag];by_cases b:j<n
 .rw [CP b]
  by_cases a:k=j
  .subst a;simp[b]
  .have:(j<k+1)↔(j<k):=by omega
   simp[a,this]
 .have e:(List.range n)[j]?=none:=AY (by simpa using b)
  rw[e];by_cases a:k=j
  .subst a;simp[b]
  .simp [a]
theorem Xo (n:Nat):TH n 0=(List.replicate n (Value.int .i64 0)).toArray:=by
 unfold TH;congr 1;apply Ct;intro j;rw[Ag,CC];by_cases a:j<n
 .rw [CP a];simp[a]
 .rw [AY (by simpa using a)];simp[a]
theorem Zf (n:Nat):TH n n=UV n []:=by unfold TH UV;congr 1;apply Em;intro s a;rw[AU (BE.1 a),ZZ]
theorem Vm {β:Type} {B B':Nat} {I:β->World->Prop} (h:OwnFrom B I) (b:B<=B'):OwnFrom B' I:=fun s W W' row c d a=>h s W W' row c d (fun r e=>⟨AK b (a r e).1,(a r e).2⟩)
theorem TI (d:Nat) (Q:1<=d) (t:Fs) (w c:World) (v y z p q n R:Nat) (C D L:Option Addr) (r M u N O P:Nat) (S v2:List Value) (h:UsW w c v y z p q n R #[.int .i64 (n:Int),.slice C r M,.slice D u N,.slice L O P] S v2 (Pj t.arcs t.arcs.length) (Gs t.arcs t.arcs.length)) (E:Reads c c.heap.size 2 C r (B_ CL t.starts)) (F:Reads c c.heap.size 2 D u (B_ CL t.ends)) (T:n<=1024) (G:r<=100000/\∀x∈t.starts,0<=x.st/\x.st<(n:Int)) (H:u<=100000/\∀x∈t.ends,0<=x.st/\x.st<(n:Int)) (I:t.arcs.length<=16384) (K:∀x∈t.arcs,0<=x.fr/\x.fr<(n:Int)/\0<=x.to/\x.to<(n:Int)) :SeqStopsK Fence.wide d Tryz.prog 91 #[.pointer (some ⟨v,0,none⟩),.pointer (some ⟨y,0,none⟩),.pointer (some ⟨z,0,none⟩)] (fun x:Fin n=>#[.int .i64 ((x.val:Nat):Int)]) (O_ c.heap.size) (fun i=>Uses t n (i.map Fin.val)) (fun _=>True) n c:=by
 intro l J U W b V X Y h0;have g1:GE (fun k=>k<W.heap.size) Ib 1 W p n (Pj t.arcs t.arcs.length):=by have h1:=h.g1.call b;exact GE.of_grp h1 (own_lt h1.own p rfl).2 (fun s g j m=>(own_lt (h1.row s j) g m).2)
 have g2:GE (fun k=>k<W.heap.size) Ib 1 W q n (Gs t.arcs t.arcs.length):=by have h1:=h.g2.call b;exact GE.of_grp h1 (own_lt h1.own q rfl).2 (fun s g j m=>(own_lt (h1.row s j) g m).2)
 refine(Vl d Q l v y z p q n c.heap.size t C D L r M u N O P (fun i W=>∃a:List (Fin n),a.map Fin.val=i/\J a W) (fun i W=>∃a:List (Fin n),a.map Fin.val=i/\U a W) W
  (fun s A B row j m Z=>by obtain⟨a,e,f⟩:=j;exact⟨a,e,V a A B row f m Z⟩) b.size ?_ (h.bt.below b h.bt.lt) (h.bo.below b h.bo.lt) (h.bb.below b h.bb.lt) g1 g2
  ((E.below b).more b.size) ((F.below b).more b.size) T G H I K ⟨[],rfl,h0⟩).mono ?_
 .rintro pre x W1 hx ⟨a,rfl,f⟩ o
  rw[A6]at o;refine(Y a ⟨x,hx⟩ W1 f o).mono ?_;rintro e W' (⟨h1,h2,h3⟩|⟨h1,h2⟩)
  .exact .inl ⟨h1,⟨_,by rw[CH];rfl,h2⟩,h3⟩
  .exact .inr ⟨h1,⟨_,by rw[CH];rfl,h2⟩⟩
 .rintro e W' ⟨h1,(⟨i,hu,a,rfl,f⟩|⟨pre,_,a,rfl,f⟩)⟩
  .exact ⟨h1,.inl ⟨a,hu,f⟩⟩
  .exact ⟨h1,.inr ⟨a,trivial,f⟩⟩
end
section
theorem NF (s:St) (h:OU s) (f:s≠St.none):∃b:UInt8,s.m b.toNat=true:=by
 refine Classical.byContradiction fun g=>f ?_
 have j:∀b,b<256->s.m b=false:=fun b l=>by
  rcases n:s.m b with _|_
  .rfl
  .exact (g ⟨UInt8.ofNat b,by rw[show(UInt8.ofNat b).toNat=b from by simp[Ez l]];exact n⟩).elim
 have e:∀i,i<4->word s.m i=0:=fun i hi=>by
  apply Dd;intro k;rw[Nat.zero_testBit,Cm];by_cases o:k<64
  .rw [j _ (by omega)];simp
  .simp [o]
 obtain⟨h1,h2,h3,h4⟩:=St.word_m s h;rw[e 0 (by decide)]at h1;rw[e 1 (by decide)]at h2;rw[e 2 (by decide)]at h3;rw[e 3 (by decide)]at h4;obtain⟨a,b,c,d⟩:=s;simp only at h1 h2 h3 h4;rw[h1,h2,h3,h4];rfl
section
variable {A:List Ar} {n:Nat}
theorem Wn {s:Nat} {z:Int}:z∈Pj A A.length s↔∃x∈A,x.fr=(s:Int)/\x.to=z:=by
 unfold Pj;rw[CR,Bd];constructor
 .rintro ⟨x,a,e⟩;rw[BV,Ca]at a;exact⟨x,a.1,a.2,e⟩
 .rintro ⟨x,a,b,c⟩;exact⟨x,BV.2 ⟨a,by simpa using b⟩,c⟩
theorem SB {s:Nat} {z:Int}:z∈Gs A A.length s↔∃x∈A,x.to=(s:Int)/\x.fr=z:=by
 unfold Gs;rw[CR,Bd];constructor
 .rintro ⟨x,a,e⟩;rw[BV,Ca]at a;exact⟨x,a.1,a.2,e⟩
 .rintro ⟨x,a,b,c⟩;exact⟨x,BV.2 ⟨a,by simpa using b⟩,c⟩
theorem Xp (c:∀x∈A,OU x.set/\x.set≠St.none) {s z:Nat} (h:RT (Pj A A.length) s z):∃w o,Way A (s:Int) w o (z:Int):=by
 induction h with
 | refl=>exact⟨_,_,.nil _⟩
 | step _ hz ih=>obtain⟨w,o,d⟩:=ih;obtain⟨x,a,e,f⟩:=Wn.1 hz;obtain⟨b,g⟩:=NF x.set (c x a).1 (c x a).2;have i:Way A x.to [] [] x.to:=.nil _;rw[<-f];exact⟨_,_,d.app (.cons x a e g i)⟩
theorem Vn (c:∀x∈A,OU x.set/\x.set≠St.none) {s z:Nat} (h:RT (Gs A A.length) s z):∃w o,Way A (z:Int) w o (s:Int):=by
 induction h with
 | refl=>exact⟨_,_,.nil _⟩
 | step _ hz ih=>obtain⟨w,o,d⟩:=ih;obtain⟨x,a,e,f⟩:=SB.1 hz;obtain⟨b,g⟩:=NF x.set (c x a).1 (c x a).2;rw[<-e]at d;exact⟨b::w,_,Way.cons x a f g d⟩
theorem SC (a:∀x∈A,0<=x.to):∀{s z:Int} {w o:List UInt8},Way A s w o z->0<=s->RT (Pj A A.length) s.toNat z.toNat/\RT (Gs A A.length) z.toNat s.toNat:=by
 intro s z w o h
 induction h with
 | nil s=>exact fun _=>⟨.refl _,.refl _⟩
 | @cons s z b w o x hx hs hb _ ih=>intro h0;obtain⟨e,f⟩:=ih (a x hx);have c:((s.toNat:Nat):Int)=s:=AT h0;have d:((x.to.toNat:Nat):Int)=x.to:=AT (a x hx);exact⟨RT.head (Wn.2 ⟨x,hx,by rw[c];exact hs,d.symm⟩) e,.step f (SB.2 ⟨x,hx,d.symm,by rw[c];exact hs⟩)⟩
end
theorem Zg {t:Fs} {n:Nat} (v:t.n=(n:Int)) (i:∀x∈t.starts,0<=x.st/\x.st<t.n) (q:∀x∈t.ends,0<=x.st/\x.st<t.n) (e:∀x∈t.arcs,0<=x.fr/\x.fr<t.n/\0<=x.to/\x.to<t.n/\OU x.set/\x.set≠St.none) (s:Nat) (w:s<n):(Wh t.starts (Pj t.arcs t.arcs.length) s/\Wh t.ends (Gs t.arcs t.arcs.length) s)↔Useful t (s:Int):=by
 have b:∀x∈t.arcs,OU x.set/\x.set≠St.none:=fun x a=>⟨(e x a).2.2.2.2.1,(e x a).2.2.2.2.2⟩
 have c:∀x∈t.arcs,0<=x.to:=fun x a=>(e x a).2.2.1
 constructor
 .rintro ⟨⟨x,a,s1,r,h1⟩,⟨y,d,s2,u,h2⟩⟩;obtain⟨j,k,f⟩:=Xp b h1;obtain⟨l,m,g⟩:=Vn b h2;refine⟨⟨by omega,by omega⟩,⟨x,a,j,k,by rw[r];exact f⟩,⟨y,d,l,m,by rw[u];exact g⟩⟩
 .rintro ⟨_,⟨x,a,j,k,f⟩,⟨y,d,l,m,g⟩⟩;have o:=(SC c f (i x a).1).1;have p:=(SC c g (by omega)).2;rw[BO]at o p;exact⟨⟨x,a,_,(AT (i x a).1).symm,o⟩,⟨y,d,_,(AT (q y d).1).symm,p⟩⟩
theorem Zh {t:Fs} {n:Nat} {zs:List Nat} (m:t.n=(n:Int)) (o:∀x∈t.starts,0<=x.st/\x.st<t.n) (q:∀x∈t.ends,0<=x.st/\x.st<t.n) (r:∀x∈t.arcs,0<=x.fr/\x.fr<t.n/\0<=x.to/\x.to<t.n/\OU x.set/\x.set≠St.none) (u:Uses t n zs):Trims t (G4 (trF t zs)) (fun s=>H4 zs s.toNat):=by
 obtain⟨p,v,rfl⟩:=u;have d:∀s,s<n->(s∈(List.range n).filter p↔Useful t (s:Int)):=fun s b=>by rw[BV,BE,v s b,Zg m o q r s b];exact⟨fun h=>h.2,fun h=>⟨b,h⟩⟩
 have f:((List.range n).filter p).Nodup:=E5.filter _;have g:∀s∈(List.range n).filter p,s<n:=fun s b=>BE.1 (BV.1 b).1
 generalize (List.range n).filter p=zs at *;have c:∀s:Int,F6 t.n s->((s.toNat:Nat):Int)=s/\s.toNat<n:=fun s b=>by have:=b.1;have:=b.2;exact⟨AT b.1,by omega⟩
 refine⟨Int.natCast_nonneg _,fun s b=>?_,fun s b=>(Lk zs s.toNat).2.1,fun s z b w h0 i=>?_,fun k l=>?_,fun y=>?_,fun y=>?_,fun e=>?_⟩
 .obtain ⟨h1,h2⟩:=c s b;have:=d s.toNat h2;rw[h1]at this;exact(Lk zs s.toNat).2.2.trans this
 .have h1:=(c s b).1;have h2:=(c z w).1;have:=Za zs s.toNat z.toNat h0 i;rw[<-h1,<-h2,this]
 .have j:0<=k:=l.1;have A:k<(zs.length:Int):=l.2;obtain⟨s,b,i⟩:=Zb zs f k.toNat (by omega);refine⟨(s:Int),⟨by omega,by have:=g s b;omega⟩,?_⟩;show H4 zs ((s:Int).toNat)=k;rw[BO,i];exact AT j
 .show y∈Gf (Na zs t.starts)↔_
  rw[EY];unfold Na;rw[Bd];constructor
  .rintro ⟨x,a,rfl⟩;rw[BV,Ca]at a;exact⟨x,a.1,a.2,rfl⟩
  .rintro ⟨x,a,h0,rfl⟩;exact⟨x,BV.2 ⟨a,by simpa using h0⟩,rfl⟩
 .show y∈Gf (Na zs t.ends)↔_
  rw[EY];unfold Na;rw[Bd];constructor
  .rintro ⟨x,a,rfl⟩;rw[BV,Ca]at a;exact⟨x,a.1,a.2,rfl⟩
  .rintro ⟨x,a,h0,rfl⟩;exact⟨x,BV.2 ⟨a,by simpa using h0⟩,rfl⟩
 .show e∈Ng (Ti zs t.arcs)↔_
  rw[Kl];unfold Ti;rw[Bd];constructor
  .rintro ⟨x,a,rfl⟩;rw[BV,Ca]at a;exact⟨x,a.1,a.2.1,a.2.2,rfl⟩
  .rintro ⟨x,a,h0,h1,rfl⟩;exact⟨x,BV.2 ⟨a,by simpa using ⟨h0,h1⟩⟩,rfl⟩
theorem X1K {zs:List Nat} {l:List Tp} (c:l.length<=1024) (h:∀x∈l,x.out.size<=1024):Gg (zs.length:Int) (Na zs l):=by refine⟨AK (TF zs l) c,fun x b=>?_⟩;unfold Na at b;obtain⟨y,a,rfl⟩:=Bd.1 b;rw[BV,Ca]at a;exact⟨a.2,(Lk zs _).2.1,h y a.1⟩
theorem trA_B {zs:List Nat} {l:List Ar} (c:l.length<=16384) (h:∀x∈l,x.out.size<=1024/\OU x.set/\x.set≠St.none):Ka (zs.length:Int) (Ti zs l):=by refine⟨AK (Wm zs l) c,fun x b=>?_⟩;unfold Ti at b;obtain⟨y,a,rfl⟩:=Bd.1 b;rw[BV,Ca]at a;exact⟨a.2.1,(Lk zs _).2.1,a.2.2,(Lk zs _).2.1,(h y a.1).1,(h y a.1).2.1,(h y a.1).2.2⟩
theorem UW (l:List Tp):(Gf l).length<=l.length:=by have:=Jk (Eo l) (Eo l).length;rw[CR,Fp]at this;exact this
theorem Zi (l:List Ar):(Ng l).length<=l.length:=by have:=Jk (Jz l) (Jz l).length;rw[CR]at this;exact AK this (Nat.le_of_eq (EC _))
theorem Xq {N:Int} {S E:List Tp} {A:List Ar} (e:0<=N/\N<=1024) (b:Gg N S) (c:Gg N E) (d:Ka N A):Dq (G4 ⟨N,S,E,A⟩)=true:=TG e ⟨AK (UW _) b.1,fun x a=>b.2 x ((EY _ _).1 a)⟩ ⟨AK (UW _) c.1,fun x a=>c.2 x ((EY _ _).1 a)⟩ ⟨AK (Zi _) d.1,fun x a=>d.2 x ((Kl _ _).1 a)⟩
end
section
open Go.RowKit Go.Sort
section
variable {w w' w1:World} {B0 P0 G MB:Nat} {vA vE:Value} {most:Int} {fr:ByteArray} {vR vN vO vEn vT:Value} {tv nv ov:List Value} {S:Mk} {M M':Nat->Prop}
theorem MkV.putN (h:MkV w B0 P0 G MB vA vE most fr vR vN vO vEn vT tv nv ov S M) {F:World} (b:Below w.heap.size w F) {p:World} {v':Value} {v:Value} {l:List Int} (K:JU M w 1 v l.length (l.map (Value.int .i64))) (c:F.grownBy p vN.ownBlock) (I:p.ownsRow P0 55 1 v' (S.next.length+1) (nv++[v])) (q:v'.ownBlock=vN.ownBlock\/v'.ownBlock=some F.heap.size) :MkV (p.setCell ⟨G,6,none⟩ v') B0 P0 G MB vA vE most fr vR v' vO vEn vT tv (nv++[v]) ov { S with next:=S.next++[l] } (fun g=>M g\/v'.ownBlock=some g):=by
 have o:=h.box.below b h.box.lt;have z2:=b.size;have z3:=c.size;have s:=BQ h.oR b;have j:=BQ h.oN b;have t:=BQ h.oO b;have x:=BQ h.oE b;have y:=BQ h.oT b;have a:=BM o c (AV j o (by decide));have z:=s.kept c (BG s j (by decide)).or_none;have A:=t.kept c (BG t j (by decide)).or_none;have B:=x.kept c (BG x j (by decide)).or_none;have C:=y.kept c (BG y j (by decide)).or_none;have L:=I3 (h.num.below b (AD _)) j c;have H:G≠MB:=FV h.num h.box;have N:∀g,g<w.heap.size->¬M g->(p.setCell ⟨G,6,none⟩ v').heap[g]?=w.heap[g]?:=fun g m D=>by rw[Am _ _ _ _ (show g≠G from fun e=>D (e▸h.mG)),c.block g (by omega) (fun e=>D (h.mN g e.symm)),b.block g m]
 have J:w.heap.size<=(p.setCell ⟨G,6,none⟩ v').heap.size:=by simp;omega
 have O:∀g,g<w.heap.size->(M g\/v'.ownBlock=some g)->M g:=fun g m e=>by
  rcases e with e|e
  .exact e
  .rcases q with f|f
   .exact h.mN g (f▸e)
   .rw [f]at e;have:=AL e;omega
 have E:∀{k n:Nat} {u:Value} {xs:List Value},JU M w k u n xs->JU (fun g=>M g\/v'.ownBlock=some g) (p.setCell ⟨G,6,none⟩ v') k u n xs:=fun P=>(P.set O).keep J fun g m D=>N g m (fun e=>D (.inl e))
 exact {
  box:=a.set_ 6 v'
  num:=L.setCell (fun e=>H e) v'
  oR:=AO z (AV z a (by decide)) _
  oN:=by rw[AJ];exact AO I (AV I a (by decide)) _
  oO:=AO A (AV A a (by decide)) _
  oE:=AO B (AV B a (by decide)) _
  oT:=AO C (AV C a (by decide)) _
  tips:=fun i hi=>E (h.tips i hi)
  nexts:=QV (d:=[]) (len:=List.length) (enc:=fun r:List Int=>r.map (Value.int .i64)) l v (by have:=h.oN.1;omega) (fun i hi=>E (h.nexts i hi)) (E K)
  outss:=fun i hi=>E (h.outss i hi)
  le:=h.le
  sz:=AK h.sz J
  gG:=h.gG
  gM:=h.gM
  low:=fun g Q=>.inl (h.low g Q)
  mG:=.inl h.mG
  mM:=.inl h.mM
  mR:=fun g e=>.inl (h.mR g e)
  mN:=fun g e=>.inr e
  mO:=fun g e=>.inl (h.mO g e)
  mE:=fun g e=>.inl (h.mE g e)
  mT:=fun g e=>.inl (h.mT g e) }
theorem MkV.putO (h:MkV w B0 P0 G MB vA vE most fr vR vN vO vEn vT tv nv ov S M) {F:World} (b:Below w.heap.size w F) {p:World} {v':Value} {v:Value} {l:List ByteArray} (K:JU M w 1 v l.length (l.map Value.string)) (c:F.grownBy p vO.ownBlock) (I:p.ownsRow P0 25 1 v' (S.outs.length+1) (ov++[v])) (q:v'.ownBlock=vO.ownBlock\/v'.ownBlock=some F.heap.size) :MkV (p.setCell ⟨G,7,none⟩ v') B0 P0 G MB vA vE most fr vR vN v' vEn vT tv nv (ov++[v]) { S with outs:=S.outs++[l] } (fun g=>M g\/v'.ownBlock=some g):=by
 have o:=h.box.below b h.box.lt;have z2:=b.size;have z3:=c.size;have s:=BQ h.oR b;have t:=BQ h.oN b;have j:=BQ h.oO b;have x:=BQ h.oE b;have y:=BQ h.oT b;have a:=BM o c (AV j o (by decide));have z:=s.kept c (BG s j (by decide)).or_none;have A:=t.kept c (BG t j (by decide)).or_none;have B:=x.kept c (BG x j (by decide)).or_none;have C:=y.kept c (BG y j (by decide)).or_none;have L:=I3 (h.num.below b (AD _)) j c;have H:G≠MB:=FV h.num h.box;have N:∀g,g<w.heap.size->¬M g->(p.setCell ⟨G,7,none⟩ v').heap[g]?=w.heap[g]?:=fun g m D=>by rw[Am _ _ _ _ (show g≠G from fun e=>D (e▸h.mG)),c.block g (by omega) (fun e=>D (h.mO g e.symm)),b.block g m]
 have J:w.heap.size<=(p.setCell ⟨G,7,none⟩ v').heap.size:=by simp;omega
 have O:∀g,g<w.heap.size->(M g\/v'.ownBlock=some g)->M g:=fun g m e=>by
  rcases e with e|e
  .exact e
  .rcases q with f|f
   .exact h.mO g (f▸e)
   .rw [f]at e;have:=AL e;omega
 have E:∀{k n:Nat} {u:Value} {xs:List Value},JU M w k u n xs->JU (fun g=>M g\/v'.ownBlock=some g) (p.setCell ⟨G,7,none⟩ v') k u n xs:=fun P=>(P.set O).keep J fun g m D=>N g m (fun e=>D (.inl e))
 exact {
  box:=a.set_ 7 v'
  num:=L.setCell (fun e=>H e) v'
  oR:=AO z (AV z a (by decide)) _
  oN:=AO A (AV A a (by decide)) _
  oO:=by rw[AJ];exact AO I (AV I a (by decide)) _
  oE:=AO B (AV B a (by decide)) _
  oT:=AO C (AV C a (by decide)) _
  tips:=fun i hi=>E (h.tips i hi)
  nexts:=fun i hi=>E (h.nexts i hi)
  outss:=QV (d:=[]) (len:=List.length) (enc:=fun r:List ByteArray=>r.map Value.string) l v (by have:=h.oO.1;omega) (fun i hi=>E (h.outss i hi)) (E K)
  le:=h.le
  sz:=AK h.sz J
  gG:=h.gG
  gM:=h.gM
  low:=fun g Q=>.inl (h.low g Q)
  mG:=.inl h.mG
  mM:=.inl h.mM
  mR:=fun g e=>.inl (h.mR g e)
  mN:=fun g e=>.inl (h.mN g e)
  mO:=fun g e=>.inr e
  mE:=fun g e=>.inl (h.mE g e)
  mT:=fun g e=>.inl (h.mT g e) }
theorem MkV.putE (h:MkV w B0 P0 G MB vA vE most fr vR vN vO vEn vT tv nv ov S M) {B:World} (b:Below w.heap.size w B) {m:World} {v':Value} {x:Bool}  (c:B.grownBy m vEn.ownBlock) (E:m.ownsRow P0 4 1 v' (S.ends.length+1) (S.ends.map Value.bool++[.bool x])) (o:v'.ownBlock=vEn.ownBlock\/v'.ownBlock=some B.heap.size) :MkV (m.setCell ⟨G,8,none⟩ v') B0 P0 G MB vA vE most fr vR vN vO v' vT tv nv ov { S with ends:=S.ends++[x] } (fun g=>M g\/v'.ownBlock=some g):=by
 have l:=h.box.below b h.box.lt;have z2:=b.size;have z3:=c.size;have p:=BQ h.oR b;have q:=BQ h.oN b;have r:=BQ h.oO b;have d:=BQ h.oE b;have s:=BQ h.oT b;have a:=BM l c (AV d l (by decide));have t:=p.kept c (BG p d (by decide)).or_none;have v:=q.kept c (BG q d (by decide)).or_none;have y:=r.kept c (BG r d (by decide)).or_none;have z:=s.kept c (BG s d (by decide)).or_none;have H:=I3 (h.num.below b (AD _)) d c;have C:G≠MB:=FV h.num h.box;have I:∀g,g<w.heap.size->¬M g->(m.setCell ⟨G,8,none⟩ v').heap[g]?=w.heap[g]?:=fun g j A=>by rw[Am _ _ _ _ (show g≠G from fun e=>A (e▸h.mG)),c.block g (by omega) (fun e=>A (h.mE g e.symm)),b.block g j]
 have F:w.heap.size<=(m.setCell ⟨G,8,none⟩ v').heap.size:=by simp;omega
 have J:∀g,g<w.heap.size->(M g\/v'.ownBlock=some g)->M g:=fun g j e=>by
  rcases e with e|e
  .exact e
  .rcases o with f|f
   .exact h.mE g (f▸e)
   .rw [f]at e;have:=AL e;omega
 have D:∀{k n:Nat} {u:Value} {xs:List Value},JU M w k u n xs->JU (fun g=>M g\/v'.ownBlock=some g) (m.setCell ⟨G,8,none⟩ v') k u n xs:=fun K=>(K.set J).keep F fun g j A=>I g j (fun e=>A (.inl e))
 exact {
  box:=a.set_ 8 v'
  num:=H.setCell (fun e=>C e) v'
  oR:=AO t (AV t a (by decide)) _
  oN:=AO v (AV v a (by decide)) _
  oO:=AO y (AV y a (by decide)) _
  oE:=by rw[AJ,CH];exact AO E (AV E a (by decide)) _
  oT:=AO z (AV z a (by decide)) _
  tips:=fun i hi=>D (h.tips i hi)
  nexts:=fun i hi=>D (h.nexts i hi)
  outss:=fun i hi=>D (h.outss i hi)
  le:=h.le
  sz:=AK h.sz F
  gG:=h.gG
  gM:=h.gM
  low:=fun g L=>.inl (h.low g L)
  mG:=.inl h.mG
  mM:=.inl h.mM
  mR:=fun g e=>.inl (h.mR g e)
  mN:=fun g e=>.inl (h.mN g e)
  mO:=fun g e=>.inl (h.mO g e)
  mE:=fun g e=>.inr e
  mT:=fun g e=>.inl (h.mT g e) }
theorem MkV.putT (h:MkV w B0 P0 G MB vA vE most fr vR vN vO vEn vT tv nv ov S M) {B:World} (b:Below w.heap.size w B) {m:World} {v':Value} {x:ByteArray}  (c:B.grownBy m vT.ownBlock) (E:m.ownsRow P0 9 1 v' (S.tails.length+1) (S.tails.map Value.string++[.string x])) (o:v'.ownBlock=vT.ownBlock\/v'.ownBlock=some B.heap.size) :MkV (m.setCell ⟨G,9,none⟩ v') B0 P0 G MB vA vE most fr vR vN vO vEn v' tv nv ov { S with tails:=S.tails++[x] } (fun g=>M g\/v'.ownBlock=some g):=by
 have l:=h.box.below b h.box.lt;have z2:=b.size;have z3:=c.size;have p:=BQ h.oR b;have q:=BQ h.oN b;have r:=BQ h.oO b;have s:=BQ h.oE b;have d:=BQ h.oT b;have a:=BM l c (AV d l (by decide));have t:=p.kept c (BG p d (by decide)).or_none;have v:=q.kept c (BG q d (by decide)).or_none;have y:=r.kept c (BG r d (by decide)).or_none;have z:=s.kept c (BG s d (by decide)).or_none;have H:=I3 (h.num.below b (AD _)) d c;have C:G≠MB:=FV h.num h.box;have I:∀g,g<w.heap.size->¬M g->(m.setCell ⟨G,9,none⟩ v').heap[g]?=w.heap[g]?:=fun g j A=>by rw[Am _ _ _ _ (show g≠G from fun e=>A (e▸h.mG)),c.block g (by omega) (fun e=>A (h.mT g e.symm)),b.block g j]
 have F:w.heap.size<=(m.setCell ⟨G,9,none⟩ v').heap.size:=by simp;omega
 have J:∀g,g<w.heap.size->(M g\/v'.ownBlock=some g)->M g:=fun g j e=>by
  rcases e with e|e
  .exact e
  .rcases o with f|f
   .exact h.mT g (f▸e)
   .rw [f]at e;have:=AL e;omega
 have D:∀{k n:Nat} {u:Value} {xs:List Value},JU M w k u n xs->JU (fun g=>M g\/v'.ownBlock=some g) (m.setCell ⟨G,9,none⟩ v') k u n xs:=fun K=>(K.set J).keep F fun g j A=>I g j (fun e=>A (.inl e))
 exact {
  box:=a.set_ 9 v'
  num:=H.setCell (fun e=>C e) v'
  oR:=AO t (AV t a (by decide)) _
  oN:=AO v (AV v a (by decide)) _
  oO:=AO y (AV y a (by decide)) _
  oE:=AO z (AV z a (by decide)) _
  oT:=by rw[AJ,CH];exact AO E (AV E a (by decide)) _
  tips:=fun i hi=>D (h.tips i hi)
  nexts:=fun i hi=>D (h.nexts i hi)
  outss:=fun i hi=>D (h.outss i hi)
  le:=h.le
  sz:=AK h.sz F
  gG:=h.gG
  gM:=h.gM
  low:=fun g L=>.inl (h.low g L)
  mG:=.inl h.mG
  mM:=.inl h.mM
  mR:=fun g e=>.inl (h.mR g e)
  mN:=fun g e=>.inl (h.mN g e)
  mO:=fun g e=>.inl (h.mO g e)
  mE:=fun g e=>.inl (h.mE g e)
  mT:=fun g e=>.inr e }
end
end
section
open Go.RowKit Go.Sort
def Mb (ks:List (List UInt8)) (x:List UInt8):List (List UInt8):=if x∈ks then ks else ks++[x]
theorem UL (a:List (List UInt8)) (x:List UInt8):(Mb a x).length<=a.length+1:=by
 unfold Mb;split
 .omega
 .simp
def TC (b:Nat) (ks:List (List UInt8)) (k:List UInt8) (w:World) (e:Ending) (w':World):Prop:=∃i:Nat,e=.returned (.int .i64 (i:Int))/\w.grownBy w' (some b)/\NP w' b (Mb ks k)/\(Mb ks k)[i]?=some k
theorem ZV (C b:Nat) (g:List (List UInt8)) (k:List UInt8) (w:World) (P:w.cell? ⟨C,0,none⟩=some (.map (some b))) (h:NP w b g) (G:k.length<=maxLen) (Q:g.length<=1000000) :Calls Tryz.prog 72 #[.pointer (some ⟨C,0,none⟩),.string ⟨k.toArray⟩] w (TC b g k w):=by
 obtain⟨m,D,c,s,t,l,n,o,d⟩:=h;have j:keyOf Tryz.prog 9 (.string ⟨k.toArray⟩)=some (.string k):=by rw[Go.WideMaps.keyOf_string_mk Tryz.underlying9 (show(ByteArray.mk k.toArray).size<=maxLen from by show k.toArray.size<=_;rw[CJ];exact G)]
 have H:=QU.key j;by_cases a:k∈g
 .obtain ⟨i,hi,u⟩:=List.getElem_of_mem a
  have p:g[i]?=some k:=by rw[AG hi,u]
  have E:=(d k).1.2 a;have x:=(d k).2 i p;have q:=AB (show TC b g k w (.returned (.int .i64 (i:Int))) w from⟨i,rfl,⟨rfl,rfl,rfl,AD _,fun _ _ _=>rfl⟩,by unfold Mb;rw[AU a];exact⟨m,D,c,s,t,l,n,o,d⟩,by unfold Mb;rw[AU a];exact p⟩);clear a u hi p d;go_enter Tryz.func72,Tryz.ntmps72
  go_wp2_with (at_lookup;refine E7 _ rfl _ _ 76 rfl 9 3 .i64 QU Tryz.underlying76 Tryz.underlying3 (MU _) b m D rfl c _ _ rfl j ?_;intro I f z)
  rw[x]at f;injection f with f
  injection f with _ f
  subst f;exact AQ (v:=.int .i64 (i:Int)) (by simp[results,Tryz.results72,go_sem]) rfl q.out
 .have E:Maps.has D (.string k)=false:=by
    rw[<-D5];exact fun e=>a ((d k).1.1 e)
  have A:m<maxLen:=by unfold maxLen;omega
  have B:(Lit.int .i64 (g.length:Int)).wf=true:=WalkArith.wf_i64 (by omega)
  have J:=AB (fun(W:World) (K:w.grownBy W (some b)) (L:W.ownsMap Tryz.prog 9 (plainElem Tryz.prog 3) b (m+1) (D.put (.string k) (.lit (.int .i64 (g.length:Int)))))=>show TC b g k w (.returned (.int .i64 (g.length:Int))) W from
   ⟨g.length,rfl,K,by unfold Mb;rw[AP a];exact Wb s t l n o d k a E H L,by unfold Mb;rw[AP a];simp⟩)
  clear a d o;generalize F:g.length=M at *;go_enter Tryz.func72,Tryz.ntmps72
  go_wp2_with (first|(at_lookup;refine E7 _ rfl _ _ 76 rfl 9 3 .i64 QU Tryz.underlying76 Tryz.underlying3 (MU _) b m D rfl c _ _ rfl j ?_;intro I f z)|(at_len;refine wpList_len_own _ rfl _ 76 rfl 9 3 Tryz.underlying76 _ b m D rfl c ?_;rw[n])|(at_mapUpdate;refine FC _ rfl _ _ _ 76 rfl 9 3 QU Tryz.underlying76 _ b m D rfl c A _ _ (.string k) rfl rfl j _ [] (plainElem_int Tryz.underlying3 B) ?_;intro N r y))
  have O:=J.out N y r;exact AQ (v:=.int .i64 (M:Int)) (by simp[results,Tryz.results72,go_sem]) rfl O
end
end Go.Proofs.YtcondkihpmmnnaaGreatDoor
