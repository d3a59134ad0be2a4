/- Lemmas, part 13 of 50. No condition. -/
import Derived.Test.YtcondkihpmmnnaaGreatDoorTwin12
set_option maxRecDepth 100000
set_option maxHeartbeats 16000000
namespace Go.Proofs.YtcondkihpmmnnaaGreatDoor
section
open Go.RowKit Go.Sort
def FewB (w:World) (e:Ending) (w':World):Prop:=∃b,e=.returned (.bool b)/\Below w.heap.size w w'
theorem YG (t:Fs) (v:Value) (B:Nat) (w:World) (R:EK w B t v) (F:B<=w.heap.size) :Calls Tryz.prog 67 #[v] w (FewB w):=by
 obtain⟨p,q,r,s,u,y,rfl,l1,l2,Y,Z,m2,m3,S,T,J,U,L,V,M,X⟩:=R;have G:=AB J;have H:=AB L;have I:=AB M;have z:=AB (fun(b:Bool) (W:World) (h:Below w.heap.size w W)=>show FewB w (.returned (.bool b)) W from⟨b,rfl,h⟩);clear J L M U V X;have K:=BL.new w 32 #[.int .i64 t.n,.slice p t.starts.length q,.slice r t.ends.length s,.slice u t.arcs.length y];have N:=(AH w.heap.size w).alloc (AD _) (.cells #[.int .i64 t.n,.slice p t.starts.length q,.slice r t.ends.length s,.slice u t.arcs.length y] 32);unfold maxLen at *;generalize t.n=A at *;generalize t.starts.length=j at *;generalize t.ends.length=l at *;generalize t.arcs.length=o at *;have f0:=K.cell 0;have f1:=K.cell 1;have f2:=K.cell 2;have f3:=K.cell 3;have d:=AB (AI K N);clear K N;go_enter Tryz.func67,Tryz.ntmps67;go_wp2;clear f0 f1 f2 f3;go_loopw [3,4] (fun a i wr=>∃(m:Int) (k:Nat),k<=j/\i=.int .i64 (k:Int)/\a=.int .i64 m/\BL wr w.heap.size 32 #[.int .i64 A,.slice p j q,.slice r l s,.slice u o y]/\Below w.heap.size w wr) (fun _ i _=>j-(intOf i).toNat)
 case atStart=>exact⟨_,0,AN _,rfl,rfl,d.out.1,d.out.2⟩
 case round=>
  clear d;obtain⟨m,k,O,rfl,rfl,e,g⟩:=hrel;have f0:=e.cell 0;have f1:=e.cell 1;have f2:=e.cell 2;have f3:=e.cell 3;have d:=AB (AI e g);by_cases f:k<j/\m<=60
  .obtain ⟨c,h60⟩:=f
   have C:(0:Int)<=(k:Int):=by omega
   have D:(k:Int)<(j:Int):=by omega
   obtain⟨g3,P,rfl,E,a0,Q⟩:=Dh (G.out.below (g.mono F)) k c;generalize (t.starts.getD k DI).out=x at *;clear e g;go_wp2;go_roundw
   case rel=>exact⟨_,k+1,by omega,by go_num,rfl,d.out.1,d.out.2⟩
   case measure=>simp[intOf];omega
  .have hex:(¬k<j)\/(k<j/\¬m<=60):=by omega
   clear e g f;rcases hex with c|⟨c,h60⟩
   all_goals
    go_wp2;clear f0 f1 f2 f3 c
    try clear h60
    go_loopw [3,5] (fun a i wr=>∃(m:Int) (k:Nat),k<=l/\i=.int .i64 (k:Int)/\a=.int .i64 m/\BL wr w.heap.size 32 #[.int .i64 A,.slice p j q,.slice r l s,.slice u o y]/\Below w.heap.size w wr) (fun _ i _=>l-(intOf i).toNat)
    case atStart=>exact⟨_,0,AN _,rfl,rfl,d.out.1,d.out.2⟩
    case round=>
     clear d;obtain⟨m,k,O,rfl,rfl,e,g⟩:=hrel;have f0:=e.cell 0;have f1:=e.cell 1;have f2:=e.cell 2;have f3:=e.cell 3;have d:=AB (AI e g);by_cases f:k<l/\m<=60
     .obtain ⟨c,h60⟩:=f
      have C:(0:Int)<=(k:Int):=by omega
      have D:(k:Int)<(l:Int):=by omega
      obtain⟨g3,P,rfl,E,a0,Q⟩:=Dh (H.out.below (g.mono F)) k c;generalize (t.ends.getD k DI).out=x at *;clear e g;go_wp2;go_roundw
      case rel=>exact⟨_,k+1,by omega,by go_num,rfl,d.out.1,d.out.2⟩
      case measure=>simp[intOf];omega
     .have hex:(¬k<l)\/(k<l/\¬m<=60):=by omega
      clear e g f;rcases hex with c|⟨c,h60⟩
      all_goals
       go_wp2;clear f0 f1 f2 f3 c
       try clear h60
       go_loopw [3,6] (fun a i wr=>∃(m:Int) (k:Nat),k<=o/\i=.int .i64 (k:Int)/\a=.int .i64 m/\BL wr w.heap.size 32 #[.int .i64 A,.slice p j q,.slice r l s,.slice u o y]/\Below w.heap.size w wr) (fun _ i _=>o-(intOf i).toNat)
       case atStart=>exact⟨_,0,AN _,rfl,rfl,d.out.1,d.out.2⟩
       case round=>
        clear d;obtain⟨m,k,O,rfl,rfl,e,g⟩:=hrel;have f0:=e.cell 0;have f1:=e.cell 1;have f2:=e.cell 2;have f3:=e.cell 3;have d:=AB (AI e g);by_cases f:k<o/\m<=60
        .obtain ⟨c,h60⟩:=f
         have C:(0:Int)<=(k:Int):=by omega
         have D:(k:Int)<(o:Int):=by omega
         obtain⟨g3,P,rfl,E,a0,Q,a2,a3,a4,a5,a6,a7⟩:=Di (I.out.below (g.mono F)) k c;generalize (t.arcs.getD k Cq).out=x at *;clear e g;go_wp2;go_roundw
         case rel=>exact⟨_,k+1,by omega,by go_num,rfl,d.out.1,d.out.2⟩
         case measure=>simp[intOf];omega
        .have hex:(¬k<o)\/(k<o/\¬m<=60):=by omega
         clear e g f;rcases hex with c|⟨c,h60⟩
         .by_cases d1:m<=60
          .by_cases d2:A<=20
           .go_wp2;exact AQ (v:=.bool true) (by simp[results,Tryz.results67,go_sem]) rfl (z.out _ _ d.out.2)
           .by_cases d3:(1024:Int)<A
            .go_wp2;exact AQ (v:=.bool true) (by simp[results,Tryz.results67,go_sem]) rfl (z.out _ _ d.out.2)
            .go_wp2;exact AQ (v:=.bool false) (by simp[results,Tryz.results67,go_sem]) rfl (z.out _ _ d.out.2)
          .go_wp2;exact AQ (v:=.bool false) (by simp[results,Tryz.results67,go_sem]) rfl (z.out _ _ d.out.2)
         .go_wp2;exact AQ (v:=.bool false) (by simp[results,Tryz.results67,go_sem]) rfl (z.out _ _ d.out.2)
end
section
open Go.RowKit Go.Sort
section
variable {g:Nat} {W:World} {T:TypeId}
theorem LW {j k l m d e f i:Value} (h:BL W g T #[j,k,l,m,d,e,f,i]) (v0 a v2 v3 v4 v5 b c:Value) :BL ((((((((W.setCell ⟨g,0,none⟩ v0).setCell ⟨g,1,none⟩ a).setCell ⟨g,2,none⟩ v2).setCell ⟨g,3,none⟩ v3).setCell ⟨g,4,none⟩ v4).setCell ⟨g,5,none⟩ v5).setCell ⟨g,6,none⟩ b).setCell ⟨g,7,none⟩ c) g T #[v0,a,v2,v3,v4,v5,b,c]:=by have h1:BL ((((W.setCell ⟨g,0,none⟩ v0).setCell ⟨g,1,none⟩ a).setCell ⟨g,2,none⟩ v2).setCell ⟨g,3,none⟩ v3) g T #[v0,a,v2,v3,d,e,f,i]:=(((h.set_ 0 v0).set_ 1 a).set_ 2 v2).set_ 3 v3;exact(((h1.set_ 4 v4).set_ 5 v5).set_ 6 b).set_ 7 c
theorem NK {k:Nat} (a:k≠g) (v0 b v2 v3 v4 v5 c d:Value) :((((((((W.setCell ⟨g,0,none⟩ v0).setCell ⟨g,1,none⟩ b).setCell ⟨g,2,none⟩ v2).setCell ⟨g,3,none⟩ v3).setCell ⟨g,4,none⟩ v4).setCell ⟨g,5,none⟩ v5).setCell ⟨g,6,none⟩ c).setCell ⟨g,7,none⟩ d).heap[k]?=W.heap[k]?:=by rw[Am _ _ _ _ (show k≠g from a),Am _ _ _ _ (show k≠g from a),Am _ _ _ _ (show k≠g from a),Am _ _ _ _ (show k≠g from a),Am _ _ _ _ (show k≠g from a),Am _ _ _ _ (show k≠g from a),Am _ _ _ _ (show k≠g from a),Am _ _ _ _ (show k≠g from a)]
theorem I9 {B:Nat} {w:World} (h:Below B w W) (a:B<=g) (v0 b v2 v3 v4 v5 c d:Value) :Below B w ((((((((W.setCell ⟨g,0,none⟩ v0).setCell ⟨g,1,none⟩ b).setCell ⟨g,2,none⟩ v2).setCell ⟨g,3,none⟩ v3).setCell ⟨g,4,none⟩ v4).setCell ⟨g,5,none⟩ v5).setCell ⟨g,6,none⟩ c).setCell ⟨g,7,none⟩ d):=(((((((h.setCell (p:=⟨g,0,none⟩) a _).setCell (p:=⟨g,1,none⟩) a _).setCell (p:=⟨g,2,none⟩) a _).setCell (p:=⟨g,3,none⟩) a _).setCell (p:=⟨g,4,none⟩) a _).setCell (p:=⟨g,5,none⟩) a _).setCell (p:=⟨g,6,none⟩) a _).setCell (p:=⟨g,7,none⟩) a _
theorem Q5 {base:Nat} {e:TypeId} {size n:Nat} {v:Value} {xs:List Value} (h:W.ownsRow base e size v n xs) (a:v.ownBlock≠some g) (v0 b v2 v3 v4 v5 c d:Value) :((((((((W.setCell ⟨g,0,none⟩ v0).setCell ⟨g,1,none⟩ b).setCell ⟨g,2,none⟩ v2).setCell ⟨g,3,none⟩ v3).setCell ⟨g,4,none⟩ v4).setCell ⟨g,5,none⟩ v5).setCell ⟨g,6,none⟩ c).setCell ⟨g,7,none⟩ d).ownsRow base e size v n xs:=AO (AO (AO (AO (AO (AO (AO (AO h (p:=⟨g,0,none⟩) a _) (p:=⟨g,1,none⟩) a _) (p:=⟨g,2,none⟩) a _) (p:=⟨g,3,none⟩) a _) (p:=⟨g,4,none⟩) a _) (p:=⟨g,5,none⟩) a _) (p:=⟨g,6,none⟩) a _) (p:=⟨g,7,none⟩) a _
theorem Q6 {base:Nat} {e:TypeId} {size n:Nat} {v:Value} {xs:List Value} (h:W.ownsRow base e size v n xs) (a:v.ownBlock≠some g) (v0 b v2 v3 v4:Value) :(((((W.setCell ⟨g,0,none⟩ v0).setCell ⟨g,1,none⟩ b).setCell ⟨g,2,none⟩ v2).setCell ⟨g,3,none⟩ v3).setCell ⟨g,4,none⟩ v4).ownsRow base e size v n xs:=AO (AO (AO (AO (AO h (p:=⟨g,0,none⟩) a _) (p:=⟨g,1,none⟩) a _) (p:=⟨g,2,none⟩) a _) (p:=⟨g,3,none⟩) a _) (p:=⟨g,4,none⟩) a _
theorem Mq {k:Nat} {a:TypeId} {b:Array Value} (h:BL W k a b) (c:k≠g) (v0 d v2 v3 v4 v5 e f:Value) :BL ((((((((W.setCell ⟨g,0,none⟩ v0).setCell ⟨g,1,none⟩ d).setCell ⟨g,2,none⟩ v2).setCell ⟨g,3,none⟩ v3).setCell ⟨g,4,none⟩ v4).setCell ⟨g,5,none⟩ v5).setCell ⟨g,6,none⟩ e).setCell ⟨g,7,none⟩ f) k a b:=(NK c _ _ _ _ _ _ _ _).trans h
end
end
section
open Go.RowKit Go.Sort
theorem BackW.fst {w wr:World} {p:Array Value} {G:Nat} {n:Int} {a b c:Option Addr} {k l m d e f:Nat} {S E:List Tp} {A:List Ar} (h:BackW w wr p G n (.slice a k d) (.slice b l e) (.slice c m f) S E A) (o:-9223372036854775808<=n/\n<=9223372036854775807) (t:Fs) (q:t.n=n/\t.starts=S/\t.ends=E/\t.arcs=A) (r:∀x∈S,MJ x) (s:∀x∈E,MJ x) (u:∀x∈A,Th x):EK wr wr.heap.size t (.agg #[.int .i64 n,.slice a k d,.slice b l e,.slice c m f]):=by
 obtain⟨B,d1,g,u1,v,_⟩:=BH h.oS;obtain⟨C,d2,i,u2,y,_⟩:=BH h.oE;obtain⟨D,d3,j,u3,z,_⟩:=BH h.oA;injection g with g f1 g1
 injection i with i f2 g2
 injection j with j f3 g3
 subst g f1 g1 i f2 g2 j f3 g3;obtain⟨t1,t2,t3,t4⟩:=q;obtain⟨F,H,I,J⟩:=t;simp only at t1 t2 t3 t4;subst t1 t2 t3 t4;exact⟨a,d,b,e,c,f,rfl,u1,u2,u3,v,y,z,o.1,o.2,Reads.of_own h.oS,r,Reads.of_own h.oE,s,Reads.of_own h.oA,u⟩
theorem EK.freshSet4 {w:World} {B0:Nat} {t:Fs} {v:Value} (h:EK w w.heap.size t v) (e:MP B0 v) {g:Nat} (f:g<B0) (a b c d:Value) :EK ((((w.setCell ⟨g,0,none⟩ a).setCell ⟨g,1,none⟩ b).setCell ⟨g,2,none⟩ c).setCell ⟨g,3,none⟩ d) ((((w.setCell ⟨g,0,none⟩ a).setCell ⟨g,1,none⟩ b).setCell ⟨g,2,none⟩ c).setCell ⟨g,3,none⟩ d).heap.size t v:=by have:=(((h.freshSet e (p:=⟨g,0,none⟩) f a).freshSet e (p:=⟨g,1,none⟩) f b).freshSet e (p:=⟨g,2,none⟩) f c).freshSet e (p:=⟨g,3,none⟩) f d;simpa using this
def T4 (q:SeqM):Prop:=q.front.size<=maxLen/\(∀r∈q.next,∀z∈r,-9223372036854775808<=z/\z<=9223372036854775807)/\(∀r∈q.outs,∀s∈r,s.size<=maxLen)/\(∀s∈q.tail,s.size<=maxLen)
theorem T4.tl {q:SeqM} (h:T4 q) (s:Nat):(q.tl s).size<=maxLen:=by
 unfold SeqM.tl;rw[AC];rcases a:q.tail[s]? with _|x
 .exact AN _
 .exact h.2.2.2 _ (Cl a)
theorem T4.os {q:SeqM} (h:T4 q) (s b:Nat):(q.os s b).size<=maxLen:=by
 unfold SeqM.os;rw[AC (l:=q.outs.getD s [])];rcases a:(q.outs.getD s [])[b]? with _|x
 .exact AN _
 .have c:q.outs.getD s []∈q.outs:=by
    rw[AC];rcases h2:q.outs[s]? with _|y
    .rw [AC,h2]at a;cases a
    .exact Cl h2
  exact h.2.2.1 _ c _ (Cl a)
theorem T4.nx {q:SeqM} (h:T4 q) (s b:Nat):-9223372036854775808<=q.nx s b/\q.nx s b<=9223372036854775807:=by
 unfold SeqM.nx;rw[AC (l:=q.next.getD s [])];rcases a:(q.next.getD s [])[b]? with _|x
 .decide
 .have c:q.next.getD s []∈q.next:=by
    rw[AC];rcases h2:q.next[s]? with _|y
    .rw [AC,h2]at a;cases a
    .exact Cl h2
  exact h.2.1 _ c _ (Cl a)
theorem Ea {q:SeqM} (h:Gp q=true):q.next.length<=1024/\q.outs.length=q.next.length/\q.ends.length=q.next.length/\q.tail.length=q.next.length/\q.front.size<=4096/\∀s,s<q.next.length->(q.next.getD s []).length=256/\(q.outs.getD s []).length=256:=by unfold Gp at h;simp only[AW,DJ,BB,CS]at h;obtain⟨⟨⟨⟨⟨⟨h1,h2⟩,h3⟩,h4⟩,h5⟩,h6⟩,h7⟩:=h;refine⟨h1,h2,h3,h4,h5,fun s a=>?_⟩;have:=h7 s (BE.2 a);unfold VT L9 at this;simp only[AW,BB]at this;exact⟨this.2.1.1,this.2.1.2⟩
end
section
open Go.RowKit Go.Sort
theorem Ro {B b:Nat} {bs:List Value} {w w':World} (h:Oe B b bs w) (d:Below w.heap.size w w'):Oe B b bs w':=by
 have key:∀p,Lib.BuilderAtF 83 5 B b p bs w->Lib.BuilderAtF 83 5 B b p bs w':=by
  rintro p ⟨h1,v,h2,⟨h3,h4⟩,h5⟩
  have lt:∀g o,w.heap[g]?=some o->w'.heap[g]?=some o:=fun g o a=>by
   have:g<w.heap.size:=by
    rcases BF g w.heap.size with h|h
    .exact h
    .rw [Cn h]at a;cases a
   exact(d.block g this).trans a
  refine⟨h1,v,lt _ _ h2,⟨h3,?_⟩,h5⟩;rcases h4 with h|⟨g,cap,c,e,f,a2,a3,a4⟩
  .exact .inl h
  .exact .inr ⟨g,cap,c,e,f,a2,lt _ _ a3,a4⟩
 rcases h with h|h
 .exact .inl (key _ h)
 .exact .inr (key _ h)
theorem Nh {B b:Nat} {bs:List Value} {w:World} (h:Oe B b bs w):b<w.heap.size:=by rcases h with h|h<;>exact h.lt
structure AppW (w wr:World) (cs:Array Value) (b:Nat) (acc:List UInt8):Prop where
 box:BL wr w.heap.size 27 cs
 bld:Oe b b (Lib.byteCells acc) wr
 gt:w.heap.size<b
 bel:Below w.heap.size w wr
theorem AppW.call {w wr w':World} {d:Array Value} {b:Nat} {a:List UInt8} (h:AppW w wr d b a) (c:Below wr.heap.size wr w'):AppW w w' d b a:=
 have h1:=Nh h.bld;have h2:=h.gt
 ⟨h.box.below c (by omega),Ro h.bld c,h.gt,h.bel.trans (c.mono (by omega))⟩
theorem AppW.write {w wr w':World} {c:Array Value} {b:Nat} {a:List UInt8} (h:AppW w wr c b a) (s:ByteArray) (e:Oe b b (Lib.byteCells a++Lib.strCells s) w') (d:Below b wr w'):AppW w w' c b (a++bl s):=⟨h.box.below d h.gt,by rw[Lib.byteCells_append];exact e,h.gt,h.bel.trans (d.mono (EI h.gt))⟩
def M6 (q:SeqM) (t:ByteArray) (w:World) (e:Ending) (w':World):Prop:=∃(o:ByteArray) (k:Int) (b:Bool) (r:Int),e=.returned (.tuple #[.string o,.int .i64 k,.bool b,.int .i64 r])/\Below w.heap.size w w'/\o.size<=4096*(t.size+2) /\(Gp q=false->r=1)/\(Gp q=true->r=0/\q.run (bl t)=if b=true then some (bl o)else none)/\(b=false->o=ByteArray.empty)
theorem ZA {q:SeqM} {t:ByteArray} {w w':World} (k:Int) (a:Below w.heap.size w w') (h1:Gp q=true) (h2:q.run (bl t)=none):M6 q t w (.returned (.tuple #[.string ByteArray.empty,.int .i64 k,.bool false,.int .i64 0])) w':=⟨_,k,false,0,rfl,a,AN _,(fun h=>by rw[h1]at h;cases h),(fun _=>⟨rfl,h2⟩),(fun _=>rfl)⟩
theorem XX (q:SeqM) (s:Nat) (b:UInt8) (l:List UInt8):q.runL s (b::l)=if q.nx s b.toNat<0 then none else(q.runL (q.nx s b.toNat).toNat l).map ((q.os s b.toNat).data.toList++·):=rfl
theorem ZB (q:SeqM) (s:Nat):q.runL s []=if q.en s=true then some (q.tl s).data.toList else none:=rfl
theorem X1e (t:ByteArray) (k:Nat) (h:k<t.size):(bl t).drop k=t[k]::(bl t).drop (k+1):=by have:=Ew (l:=bl t) (i:=k) h;rw[this];rfl
theorem ZC {q:SeqM} (h:Gp q=true):∀s,s<q.next.length->(q.tl s).size<=4096/\∀b,b<256->q.nx s b<q.next.length/\(q.os s b).size<=4096:=by unfold Gp at h;simp only[AW,DJ,BB,CS]at h;obtain⟨_,h7⟩:=h;intro s a;have:=h7 s (BE.2 a);unfold VT L9 Nd at this;simp only[AW,DJ,BB,CS]at this;obtain⟨⟨c,_⟩,_,a3⟩:=this;refine⟨c,fun b d=>?_⟩;obtain⟨⟨⟨_,e⟩,f⟩,_⟩:=a3 b (BE.2 d);exact⟨e,f⟩
end
section
open Go.RowKit Go.Sort
theorem YE (q:SeqM) (v:Value) (B:Nat) (t:ByteArray) (w:World) (HS:GC w B q v) (hB:B<=w.heap.size) (ht:t.size<=100000000) :Calls Tryz.prog 11 #[v,.string t] w (M6 q t w):=by
 have ab:∀W,Below B w W->B<=W.heap.size->Calls Tryz.prog 18 #[v] W (C7 (.int .i64 (O1 (Gp q))) W):=fun W O Q=>by refine Ii q v B W ?_ Q;obtain⟨T,U,V,X,Y,Z,A4,c4,rfl,hf,l1,l2,l3,l4,m1,m2,m3,m4,R1,Q,R2,hs,R3,R4,ht⟩:=HS;exact⟨T,U,V,X,Y,Z,A4,c4,rfl,hf,l1,l2,l3,l4,m1,m2,m3,m4,R1.below O,Q,R2.below O,hs,R3.below O,R4.below O,ht⟩
 obtain⟨T,U,V,X,Y,Z,A4,c4,rfl,hf,l1,l2,l3,l4,m1,m2,m3,m4,R1,Q,R2,hs,R3,R4,E⟩:=HS;have B0:Below B w (w.alloc (.cells #[.string q.front,.slice T q.next.length U,.slice V q.outs.length X,.slice Y q.ends.length Z,.slice A4 q.tail.length c4] 27)):=(AH _ w).alloc hB _;have a:=ab _ B0 (by simp;omega);rcases f:Gp q with _|_
 .rw [f]at a
  replace a:Calls Tryz.prog 18 _ _ (C7 (.int .i64 1) _):=a;have hp:=AB (fun w' (O:Below w.heap.size w w')=>show M6 q t w (.returned (.tuple #[.string ByteArray.empty,.int .i64 0,.bool false,.int .i64 1])) w' from⟨_,0,false,1,rfl,O,AN _,(fun _=>rfl),(fun h=>by rw[f]at h;cases h),(fun _=>rfl)⟩);clear ab R1 R2 R3 R4 Q hs E f B0;generalize q.next.length=n1 at *;generalize q.outs.length=n2 at *;generalize q.ends.length=n3 at *;generalize q.tail.length=n4 at *;generalize q.front=P at *;go_enter Tryz.func11,Tryz.ntmps11
  go_wp2_with fail
  refine a.mono ?_;rintro e y ⟨rfl,j⟩;go_wp2;exact AQ (v:=.tuple #[.string ByteArray.empty,.int .i64 0,.bool false,.int .i64 1]) (by simp[results,Tryz.results11,go_sem];rfl) rfl (hp.out _ (((AH _ w).alloc (AD _) _).trans (j.mono (by simp))))
 .rw [f]at a
  replace a:Calls Tryz.prog 18 _ _ (C7 (.int .i64 0) _):=a;clear ab B0;obtain⟨p1,p2,p3,p4,p5,p6⟩:=Ea f;have a0:=AB p6;have a1:=AB (ZC f);have ac:=AB (fun w' (k:Int) (O:Below w.heap.size w w') (h2:q.run (bl t)=none)=>ZA (q:=q) (t:=t) k O f h2);have ae:=AB (fun w' (o:ByteArray) (k:Int) (O:Below w.heap.size w w') (h2:q.run (bl t)=some (bl o)) (Q:o.size<=4096*(t.size+2))=>show M6 q t w (.returned (.tuple #[.string o,.int .i64 k,.bool true,.int .i64 0])) w' from⟨o,k,true,0,rfl,O,Q,(fun h=>by rw[f]at h;cases h),(fun _=>⟨rfl,h2⟩),(fun h=>by cases h)⟩);have H:=AB (show q.run (bl t)=if q.next.length=0 then none else(q.runL 0 (bl t)).map (bl q.front++·)from rfl);have hW:=AB (show T4 q from⟨hf,Q,hs,E⟩);have a2:=R1.more hB;have af:=R2.more hB;have ag:=R3.more hB;have ah:=R4.more hB;clear R1 R2 R3 R4 p6 hs Q E f;rw[p2]at a l2 af ⊢;rw[p3]at a l3 ag ⊢;rw[p4]at a l4 ah ⊢;generalize I:q.next.length=n at *;have Hn:=AB I;clear I p2 p3 p4;unfold maxLen at hf m1 m2 m3 m4;rcases B7 n with R|R
  .have hr:q.run (bl t)=none:=by rw[H.out,AU R]
   have HR:=AB hr;clear hr;generalize q.front=P at *;subst R;go_enter Tryz.func11,Tryz.ntmps11
   go_wp2_with fail
   refine a.mono ?_;rintro e y ⟨rfl,j⟩;have K:=(BL.new w 27 #[.string P,.slice T 0 U,.slice V 0 X,.slice Y 0 Z,.slice A4 0 c4]).below j (by simp);have k1:=K.cell 1;go_wp2;exact AQ (v:=.tuple #[.string ByteArray.empty,.int .i64 0,.bool false,.int .i64 0]) (by simp[results,Tryz.results11,go_sem];rfl) rfl (ac.out _ 0 (((AH _ w).alloc (AD _) _).trans (j.mono (by simp))) HR.out)
  .have hr:q.run (bl t)=(q.runL 0 (bl t)).map (bl q.front++·):=by rw[H.out,AP (by omega)]
   have HR:=AB hr;clear hr H;have e1:((n:Int)==0)=false:=by simp;omega
   generalize q.front=P at *;go_enter Tryz.func11,Tryz.ntmps11
   go_wp2_with fail
   refine a.mono ?_;rintro e y ⟨rfl,j⟩;clear a;have K:=(BL.new w 27 #[.string P,.slice T n U,.slice V n X,.slice Y n Z,.slice A4 n c4]).below j (by simp);have L1:=((AH _ w).alloc (AD _) (.cells #[.string P,.slice T n U,.slice V n X,.slice Y n Z,.slice A4 n c4] 27)).trans (j.mono (by simp));have a3:w.heap.size<y.heap.size:=K.lt;have J:AppW w (y.alloc (.cells #[.pointer none,.slice none 0 0] 83)) #[.string P,.slice T n U,.slice V n X,.slice Y n Z,.slice A4 n c4] y.heap.size []:=⟨K.alloc _,.inl ⟨AD _,.slice none 0 0,heap_alloc_new y _,World.ownsRowF_of (Bc _ _ _ _),by simp[Value.ownBlock]⟩,a3,L1.alloc (by omega) _⟩;have k0:=K.cell 0;have k1:=K.cell 1;have b0:=J.box.cell 0;have b1:=J.box.cell 1;clear j K L1
   go_wp2_with fail
   refine(EF y.heap.size y.heap.size (Lib.byteCells []) P _ J.bld (by simp[Lib.byteCells];omega) (by simp)).mono ?_;rintro e w2 ⟨rfl,m,c,_⟩;have ad:=J.write P m c;clear J m c k0 k1 b0 b1;have u1:=ad.box.cell 1;go_wp2;clear u1;go_loopw [9,24] (fun sv i wr=>∃(s k:Nat) (b rest:List UInt8),s<n/\k<=t.size/\sv=.int .i64 (s:Int)/\i=.int .i64 (k:Int)/\AppW w wr #[.string P,.slice T n U,.slice V n X,.slice Y n Z,.slice A4 n c4] y.heap.size b/\b.length<=4096*(k+1)/\b=bl P++rest/\q.runL 0 (bl t)=(q.runL s ((bl t).drop k)).map (rest++·)) (fun _ i _=>t.size-(intOf i).toNat)
   case atStart=>exact⟨0,0,_,[],R,AN _,rfl,rfl,ad,by simp only[Cy,CK];omega,by simp,by simp⟩
   case round=>
    clear ad;obtain⟨s,k,b,rest,F,hk,rfl,rfl,u,bp,aa,ai⟩:=hrel;have hg:=u.gt;have bq:=Nh u.bld;have br:(0:Int)<=(s:Int):=by omega
    have bs:(s:Int)<(n:Int):=by omega
    have C:=a0.out s F;obtain⟨bn,L⟩:=a1.out s F;have M:=AB aa;have D:=AB ai;clear aa ai;by_cases a4:k<t.size
    .have bt:(0:Int)<=(k:Int):=by omega
     have bu:(k:Int)<(t.size:Int):=by omega
     have e1:(q.next.map fun r=>r.map (Value.int .i64)).getD s []=(q.next.getD s []).map (Value.int .i64):=by rw[AC,AC,Ag];cases q.next[s]?<;>rfl
     have e2:(q.outs.map fun r=>r.map Value.string).getD s []=(q.outs.getD s []).map Value.string:=by rw[AC,AC,Ag];cases q.outs[s]?<;>rfl
     obtain⟨g1,o1,bv,d1,rfl,a5,x1,Q1,y1,z1⟩:=a2.at_ s F;obtain⟨g2,o2,bw,d2,rfl,a6,x2,Q2,y2,z2⟩:=af.at_ s F;rw[e1]at x1 Q1 y1;rw[e2]at x2 Q2 y2;simp only[A6]at x1 x2 Q1 Q2 y1 y2;rw[C.1]at x1 Q1 y1;rw[C.2]at x2 Q2 y2;have A:t[k].toNat<256:=t[k].toNat_lt;obtain⟨h1,a7,rfl,a8,r1⟩:=C6 (d:=0) Q1 t[k].toNat A;obtain⟨h2,a9,rfl,ba,r2⟩:=C6 (d:=ByteArray.empty) Q2 t[k].toNat A;have aj:(q.next.getD s []).getD t[k].toNat 0=q.nx s t[k].toNat:=rfl;have ak:(q.outs.getD s []).getD t[k].toNat ByteArray.empty=q.os s t[k].toNat:=rfl;rw[aj]at r1;rw[ak]at r2;have al:=X1e t k a4;have am:=XX q s t[k] ((bl t).drop (k+1));have bx:=L _ A;have an:=AB al;have ao:=AB am;clear e1 e2 C aj ak al am L Q1 Q2;have bb:=AF (u.box.cell 1);have bc:=AF ((u.bel.cell (p:=⟨g1,o1+s,none⟩) a5).trans x1);have bd:=AF ((u.bel.cell (p:=⟨h1,a7+t[k].toNat,none⟩) a8).trans r1);have bz:(0:Int)<=(t[k].toNat:Int):=by omega
     have b2:(t[k].toNat:Int)<(256:Int):=by omega
     generalize q.nx s t[k].toNat=z at *;generalize q.os s t[k].toNat=ot at *;go_wp2;refine Au (by kernel_rfl) (by kernel_rfl) ?_
     repeat (go_big_quiet_step (fail))
     refine Ah ?_;intro w5 ap;have aq:=Bu ap;have x:=u.call aq;clear ap bb bc bd aq u;by_cases be:z<0
     .have I:q.run (bl t)=none:=by rw[HR.out,D.out,an.out,ao.out,AU be];rfl
      have HN:=AB I;have N:=x.bel;clear I x;go_wp2;exact AQ (v:=.tuple #[.string ByteArray.empty,.int .i64 (k:Int),.bool false,.int .i64 0]) (by simp[results,Tryz.results11,go_sem];rfl) rfl (ac.out _ (k:Int) N HN.out)
     .have bf:=AF (x.box.cell 2)
      have bg:=AF ((x.bel.cell (p:=⟨g2,o2+s,none⟩) a6).trans x2);have bh:=AF ((x.bel.cell (p:=⟨h2,a9+t[k].toNat,none⟩) ba).trans r2);have ar:(0:Int)<=z:=by omega
      have bo:=Nh x.bld;go_wp2;refine Cb 10 (by kernel_rfl) (by kernel_rfl) ?_;simp only[CO,CN,Az,BI]
      repeat (go_big_quiet_step (fail))
      refine Ah ?_;intro w6 au;have S:=x.call (Bu au);clear au bf bg bh x
      go_wp2_with fail
      refine(EF y.heap.size y.heap.size (Lib.byteCells b) ot _ S.bld (by rw[C4];omega) (EI (Nh S.bld))).mono ?_;rintro e w7 ⟨rfl,m,c,_⟩;have G:=S.write ot m c;clear S m c;go_wp2;go_roundw
      case rel=>
       refine⟨z.toNat,k+1,b++bl ot,rest++bl ot,by omega,by omega,by rw[AT ar],by go_num,G,?_,?_,?_⟩
       .rw [AJ,CK];omega
       .rw [M.out,Ac]
       .rw [D.out,an.out,ao.out,AP (by omega),Option.map_map];congr 1;funext l;simp[bl]
      case measure=>simp[intOf];omega
    .have ek:k=t.size:=by omega
     obtain⟨g3,o3,rfl,bi,x3⟩:=C6 (d:=false) ag s F;obtain⟨g4,o4,rfl,bj,x4⟩:=C6 (d:=ByteArray.empty) ah s F;have g:q.ends.getD s false=q.en s:=rfl;have E:q.tail.getD s ByteArray.empty=q.tl s:=rfl;rw[g]at x3;rw[E]at x4;have av:=ZB q s;have aw:(bl t).drop k=[]:=by rw[ek];exact List.drop_of_length_le (AD _)
     have ax:=AB av;have ay:=AB aw;have b3:=u.box.cell 3;have b4:=u.box.cell 4;replace x3:=(u.bel.cell (p:=⟨g3,o3+s,none⟩) bi).trans x3;clear g E av aw L C;rcases g:q.en s with _|_
     .rw [g]at x3
      have I:q.run (bl t)=none:=by rw[HR.out,D.out,ay.out,ax.out,g];rfl
      have HN:=AB I;have N:=u.bel;clear I g u;go_wp2;exact AQ (v:=.tuple #[.string ByteArray.empty,.int .i64 (t.size:Int),.bool false,.int .i64 0]) (by simp[results,Tryz.results11,go_sem];rfl) rfl (ac.out _ (t.size:Int) N HN.out)
     .rw [g]at x3
      have bk:=(u.bel.cell (p:=⟨g4,o4+s,none⟩) bj).trans x4;have I:q.run (bl t)=some (b++bl (q.tl s)):=by rw[HR.out,D.out,ay.out,ax.out,g,M.out];simp[bl]
      have HN:=AB I;clear I g;generalize q.tl s=tl at *
      go_wp2_with fail
      refine(EF y.heap.size y.heap.size (Lib.byteCells b) tl _ u.bld (by rw[C4];omega) (EI (Nh u.bld))).mono ?_;rintro e w7 ⟨rfl,m,c,_⟩;have G:=u.write tl m c;clear u m c b3 b4 x3 bk
      go_wp2_with fail
      refine(Tryz.Builder_String_any_k y.heap.size y.heap.size (b++bl tl) _ G.bld (EI (Nh G.bld))).mono ?_;rintro e w8 ⟨rfl,_,c,_⟩;have N:=G.bel.trans (c.mono (EI hg));have az:(ByteArray.mk (b++bl tl).toArray).size<=4096*(t.size+2):=by show(b++bl tl).toArray.size<=_;rw[CJ,AJ,CK];omega
      have bm:=AB az;clear G c az;generalize b++bl tl=l at *;go_wp2;exact AQ (v:=.tuple #[.string ⟨l.toArray⟩,.int .i64 (t.size:Int),.bool true,.int .i64 0]) (by simp[results,Tryz.results11,go_sem]) rfl (ae.out _ ⟨l.toArray⟩ (t.size:Int) N HN.out bm.out)
end
end Go.Proofs.YtcondkihpmmnnaaGreatDoor
