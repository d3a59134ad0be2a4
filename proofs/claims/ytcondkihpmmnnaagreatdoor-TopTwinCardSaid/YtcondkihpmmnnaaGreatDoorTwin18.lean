/- Lemmas, part 18 of 50. No condition. -/
import Derived.Test.YtcondkihpmmnnaaGreatDoorTwin17
set_option maxRecDepth 100000
set_option maxHeartbeats 16000000
namespace Go.Proofs.YtcondkihpmmnnaaGreatDoor
section
open Go.RowKit Go.Sort
theorem ChW.below {c:Ch} {w wr:World} {d e f:Value} {S E:List Tp} {A:List Ar} {g:Bool} (h:ChW c wr d e f S E A g) {B:Nat} (a:Below B w c.w) (i:∀k,k<B->c.P k):Below B w wr:=⟨h.os.trans a.os,h.tape.trans a.tape,h.output.trans a.output,AK a.size h.size,fun k b=>(h.keep k (i k b)).trans (a.block k b)⟩
theorem Oj {t:Fs} (h:Dq t=true):0<=t.n/\t.n<=1024/\(t.starts.length<=1024/\∀x∈t.starts,0<=x.st/\x.st<t.n/\x.out.size<=1024)/\(t.ends.length<=1024/\∀x∈t.ends,0<=x.st/\x.st<t.n/\x.out.size<=1024) /\(t.arcs.length<=16384/\∀x∈t.arcs,0<=x.fr/\x.fr<t.n/\0<=x.to/\x.to<t.n/\x.out.size<=1024/\x.set≠St.none):=by
 unfold Dq Gz at h;simp only[AW,BB,CS]at h;obtain⟨⟨⟨⟨⟨h1,h2⟩,h3⟩,h4,h5⟩,h6,h7⟩,h8⟩:=h;refine⟨h1,h2,⟨h4,fun x a=>?_⟩,⟨h6,fun x a=>?_⟩,h3,fun x a=>?_⟩
 .have:=h5 x a;unfold Oa Ju at this;simp only[AW,BB]at this;exact⟨this.1.1,this.1.2,this.2⟩
 .have:=h7 x a;unfold Oa Ju at this;simp only[AW,BB]at this;exact⟨this.1.1,this.1.2,this.2⟩
 .have:=h8 x a;unfold PO Ju at this;simp only[AW,BB,bne_iff_ne]at this;exact⟨this.1.1.1.1,this.1.1.1.2,this.1.1.2.1,this.1.1.2.2,this.2,this.1.2⟩
theorem ChW.fst {c:Ch} {wr:World} {a b d:Option Addr} {n o p e f g:Nat} {S E:List Tp} {A:List Ar} {r:Bool} {N:Int} (h:ChW c wr (.slice a n e) (.slice b o f) (.slice d p g) S E A r) (B:0<=N/\N<=1024) (s:Gg N S) (t:Gg N E) (u:Ka N A) :EK wr wr.heap.size ⟨N,S,E,A⟩ (.agg #[.int .i64 N,.slice a n e,.slice b o f,.slice d p g]):=by
 obtain⟨C,d1,i,u1,v,_⟩:=BH h.oS;obtain⟨D,d2,j,u2,w,_⟩:=BH h.oE;obtain⟨F,d3,k,u3,y,_⟩:=BH h.oA;injection i with i f1 g1
 injection j with j f2 g2
 injection k with k f3 g3
 subst i f1 g1 j f2 g2 k f3 g3;have q:∀{l:List Tp},Gg N l->∀x∈l,MJ x:=fun {l} z x m=>by obtain⟨h1,h2,h3⟩:=z.2 x m;exact⟨by omega,by omega,by unfold maxLen;omega⟩
 refine⟨a,e,b,f,d,g,rfl,u1,u2,u3,v,w,y,by show(-9223372036854775808:Int)<=N;omega,by show N<=(9223372036854775807:Int);omega,Reads.of_own h.oS,q s,Reads.of_own h.oE,q t,Reads.of_own h.oA,fun x m=>?_⟩;obtain⟨h1,h2,h3,h4,h5,h6,_⟩:=u.2 x m;exact⟨by omega,by omega,by omega,by omega,h6,by unfold maxLen;omega⟩
theorem TG {N:Int} {S E:List Tp} {A:List Ar} (b:0<=N/\N<=1024) (e:Gg N S) (f:Gg N E) (c:Ka N A):Dq ⟨N,S,E,A⟩=true:=by
 have tb:∀{l:List Tp},Gg N l->Gz l N=true:=fun {l} d=>by unfold Gz;rw[AW,Ca,CS];refine⟨d.1,fun x a=>?_⟩;obtain⟨h1,h2,h3⟩:=d.2 x a;unfold Oa Ju;simp only[AW,BB];exact⟨⟨h1,h2⟩,h3⟩
 unfold Dq;simp only[AW,BB,CS];refine⟨⟨⟨⟨⟨b.1,b.2⟩,c.1⟩,tb e⟩,tb f⟩,fun x a=>?_⟩;obtain⟨h1,h2,h3,h4,h5,_,h7⟩:=c.2 x a;unfold PO Ju;simp only[AW,BB,bne_iff_ne];exact⟨⟨⟨⟨h1,h2⟩,h3,h4⟩,h7⟩,h5⟩
structure CmW (w wr:World) (G L E M2 n baA baE:Nat) (csA csB cs:Array Value) (vs ves:List Value) (rowsA:Nat->List Ar) (rowsE:Nat->List Tp):Prop where
 ja:BL wr w.heap.size 32 csA
 jb:BL wr (w.heap.size+1) 32 csB
 jr:BL wr (w.heap.size+1+1) 32 #[.int .i64 0,.slice none 0 0,.slice none 0 0,.slice none 0 0]
 ga:Grp Cx 8 wr baA L n 30 61 vs rowsA
 ge:Grp CL 2 wr baE E n 29 54 ves rowsE
 sa:Seen 61 Cx Th wr M2 []
 box:BL wr G 73 cs
 bel:Below w.heap.size w wr
 lA:w.heap.size<=baA
 lE:w.heap.size<=baE
 lG:w.heap.size+1+1<G
 lM:w.heap.size<=M2
section
variable {w wr w':World} {G L E M2 n baA baE:Nat} {csA csB cs:Array Value} {vs ves:List Value} {rowsA:Nat->List Ar} {rowsE:Nat->List Tp}
theorem Seen.lt {α:Type} {T:TypeId} {enc:α->List Value} {ok:α->Prop} {w:World} {b:Nat} {l:List α} (h:Seen T enc ok w b l):b<w.heap.size:=by
 obtain⟨_,_,⟨es,clock,a,_⟩,_⟩:=h;rcases BF b w.heap.size with h|h
 .exact h
 .rw [Cn h]at a;cases a
theorem CmW.call (h:CmW w wr G L E M2 n baA baE csA csB cs vs ves rowsA rowsE) (a:Below wr.heap.size wr w'):CmW w w' G L E M2 n baA baE csA csB cs vs ves rowsA rowsE:=by have b:=h.bel.size;exact⟨h.ja.below a h.ja.lt,h.jb.below a h.jb.lt,h.jr.below a h.jr.lt,h.ga.call a,h.ge.call a,h.sa.below a (AD _),h.box.below a h.box.lt,h.bel.trans (a.mono b),h.lA,h.lE,h.lG,h.lM⟩
theorem CmW.putE (h:CmW w wr G L E M2 n baA baE csA csB cs vs ves rowsA rowsE) (s:Nat) (r:s<n) {v':Value} (x:Tp) (b:wr.grownBy w' (ves.getD s Bf).ownBlock) (u:w'.ownsRow baE 54 2 v' ((rowsE s).length+1) (B_ CL (rowsE s)++CL x)) (v:v'.ownBlock=(ves.getD s Bf).ownBlock\/v'.ownBlock=some wr.heap.size) :CmW w (w'.setCell ⟨E,s,none⟩ v') G L E M2 n baA baE csA csB cs vs (ves.set s v') rowsA (fun t=>if t=s then rowsE s++[x]else rowsE t):=by
 have lG:=h.lG;have z:=h.lE;have d:=h.ge.row s r;have m:w.heap.size<=E:=by have:=(own_lt h.ge.own E rfl).1;omega
 have y:∀{g:Nat} {T:TypeId} {c:Array Value},BL wr g T c->54≠T->(ves.getD s Bf).ownBlock≠some g:=fun f o=>AV d f o
 have l:∀{g:Nat} {T:TypeId} {c:Array Value},BL wr g T c->54≠T->29≠T->BL (w'.setCell ⟨E,s,none⟩ v') g T c:=fun {g T c} f h1 h2=>(BM f b (y f h1)).far (p:=⟨E,s,none⟩) (fun e=>AV h.ge.own f h2 (by rw[e];rfl)) _
 have i:=h.sa.kept b (h.sa.ne d);have a:=h.ge.own.kept b (BG h.ge.own d (by decide)).or_none;refine⟨l h.ja (by decide) (by decide),l h.jb (by decide) (by decide),l h.jr (by decide) (by decide),?_,h.ge.put (by decide) s r x b u v,i.setCell (fun e=>i.ne a (by rw[e];rfl)) _,l h.box (by decide) (by decide),?_,h.lA,h.lE,h.lG,h.lM⟩
 .have j:=h.ga.kept b (fun e=>by
    have:=BG d h.ga.own (by decide) L e;exact this rfl) (fun t q=>(BG (h.ga.row t q) d (by decide)).or_none)
  refine j.set (p:=⟨E,s,none⟩) (fun e=>?_) (fun t q e=>?_) _
  .exact BG j.own a (by decide) L rfl (by show some E=some L;exact BY some e)
  .exact BG (j.row t q) a (by decide) E e rfl
 .exact ((h.bel).grown b h.bel.size (fun k j=>by have:=(own_lt d k j).1;omega)).setCell (p:=⟨E,s,none⟩) m _
end
end
section
def NR:List Nat->Nat->Int
 | [],_=>-1
 | x::l,s=>if s=x then(l.length:Int)else NR l s
def H4 (l:List Nat) (s:Nat):Int:=NR l.reverse s
theorem ZZ (s:Nat):H4 [] s=-1:=rfl
theorem SA (l:List Nat) (x s:Nat):H4 (l++[x]) s=if s=x then(l.length:Int)else H4 l s:=by unfold H4;rw[List.reverse_append];show(if s=x then(l.reverse.length:Int)else NR l.reverse s)=_;rw[List.length_reverse]
theorem Pk:∀(l:List Nat) (s:Nat),-1<=NR l s/\NR l s<(l.length:Int)/\(0<=NR l s↔s∈l)
 | [],s=>by simp[NR]
 | x::l,s=>by
  obtain⟨h1,h2,h3⟩:=Pk l s;unfold NR;by_cases h:s=x
  .rw [AU h];subst h;simp;omega
  .rw [AP h];simp[h,h3];omega
theorem US:∀(l:List Nat) (s z:Nat),0<=NR l s->NR l s=NR l z->s=z
 | [],s,z,h,_=>by simp[NR]at h
 | x::l,s,z,h,he=>by
  unfold NR at h he;by_cases h1:s=x
  .rw [AU h1]at he
   by_cases h2:z=x
   .rw [h1,h2]
   .rw [AP h2]at he;have:=(Pk l z).2.1;omega
  .rw [AP h1]at h he
   by_cases h2:z=x
   .rw [AU h2]at he;have:=(Pk l s).2.1;omega
   .rw [AP h2]at he;exact US l s z h he
theorem UT:∀(l:List Nat),l.Nodup->∀k:Nat,k<l.length->∃s∈l,NR l s=(k:Int)
 | [],_,k,h=>by cases h
 | x::l,hd,k,h=>by
  rw[Dy]at hd;by_cases c:k=l.length
  .exact ⟨x,BR,by unfold NR;rw[AU rfl,c]⟩
  .obtain ⟨s,b,d⟩:=UT l hd.2 k (by simp at h;omega)
   refine⟨s,CB _ b,?_⟩;have a:s≠x:=fun e=>by subst e;exact hd.1 b
   show(if s=x then(l.length:Int)else NR l s)=_;rw[AP a,d]
theorem Lk (l:List Nat) (s:Nat):-1<=H4 l s/\H4 l s<(l.length:Int)/\(0<=H4 l s↔s∈l):=by have:=Pk l.reverse s;rw[List.length_reverse,List.mem_reverse]at this;exact this
theorem Za (l:List Nat) (s z:Nat) (h:0<=H4 l s) (a:H4 l s=H4 l z):s=z:=US _ _ _ h a
theorem Zb (l:List Nat) (a:l.Nodup) (k:Nat) (b:k<l.length):∃s∈l,H4 l s=(k:Int):=by obtain⟨s,c,d⟩:=UT l.reverse (by unfold List.Nodup;rw[List.pairwise_reverse];exact a.imp CF) k (by rw[List.length_reverse];exact b);exact⟨s,List.mem_reverse.1 c,d⟩
def Na (ys:List Nat) (l:List Tp):List Tp:=(l.filter fun x=>decide (0<=H4 ys x.st.toNat)).map fun x=>⟨H4 ys x.st.toNat,x.out⟩
def Ti (ys:List Nat) (l:List Ar):List Ar:=(l.filter fun x=>decide (0<=H4 ys x.fr.toNat/\0<=H4 ys x.to.toNat)).map fun x=>⟨H4 ys x.fr.toNat,H4 ys x.to.toNat,x.set,x.out,x.cp⟩
def trF (t:Fs) (ys:List Nat):Fs:=⟨(ys.length:Int),Na ys t.starts,Na ys t.ends,Ti ys t.arcs⟩
theorem UU (a:List Nat) (l:List Tp) (k:Nat) (b:k<l.length):Na a (l.take (k+1))=Na a (l.take k)++if 0<=H4 a (l.getD k DI).st.toNat then[⟨H4 a (l.getD k DI).st.toNat,(l.getD k DI).out⟩]else[]:=by
 unfold Na;rw[Ek l DI k b,Ck,CH];by_cases h:0<=H4 a (l.getD k DI).st.toNat
 .rw [AU h,CD (by simpa using h)];rfl
 .rw [AP h,CE (by simpa using h)];simp
theorem Zc (a:List Nat) (l:List Ar) (k:Nat) (b:k<l.length):Ti a (l.take (k+1))=Ti a (l.take k)++if 0<=H4 a (l.getD k Cq).fr.toNat/\0<=H4 a (l.getD k Cq).to.toNat then[⟨H4 a (l.getD k Cq).fr.toNat,H4 a (l.getD k Cq).to.toNat,(l.getD k Cq).set,(l.getD k Cq).out,(l.getD k Cq).cp⟩]else[]:=by
 unfold Ti;rw[Ek l Cq k b,Ck,CH];by_cases h:0<=H4 a (l.getD k Cq).fr.toNat/\0<=H4 a (l.getD k Cq).to.toNat
 .rw [AU h,CD (by simpa using h)];rfl
 .rw [AP h,CE (by simpa using h)];simp
theorem TF (a:List Nat) (l:List Tp):(Na a l).length<=l.length:=by unfold Na;rw[A6];exact CA _ _
theorem Wm (a:List Nat) (l:List Ar):(Ti a l).length<=l.length:=by unfold Ti;rw[A6];exact CA _ _
end
end Go.Proofs.YtcondkihpmmnnaaGreatDoor
