/- Lemmas, part 12 of 50. No condition. -/
import Derived.Test.YtcondkihpmmnnaaGreatDoorQ10
namespace Go.Proofs.YtcondkihpmmnnaaGreatDoor
open Go.RowKit Go.Sort
theorem BackW.fst {w wr:World} {cs:Array Value} {G:Nat} {n:Int} {A1 A2 A3:Option Addr} {k1 k2 k3 c1 c2 c3:Nat} {S E:List Tp} {A:List Ar}
    (h:BackW w wr cs G n (.slice A1 k1 c1) (.slice A2 k2 c2) (.slice A3 k3 c3) S E A) (hn:-9223372036854775808≤n∧n≤9223372036854775807) (t:Fs) (ht:t.n = n∧t.starts = S∧t.ends = E∧t.arcs = A)
    (hS:∀ x∈S,TpW x) (hE:∀ x∈E,TpW x) (hA:∀ x∈A,ArW x):FstAt wr wr.heap.size t (.agg #[.int .i64 n,.slice A1 k1 c1,.slice A2 k2 c2,.slice A3 k3 c3]):=by
 obtain ⟨B1,d1,e1,u1,m1,_⟩:=own_form h.oS
 obtain ⟨B2,d2,e2,u2,m2,_⟩:=own_form h.oE
 obtain ⟨B3,d3,e3,u3,m3,_⟩:=own_form h.oA
 injection e1 with e1 f1 g1
 injection e2 with e2 f2 g2
 injection e3 with e3 f3 g3
 subst e1 f1 g1 e2 f2 g2 e3 f3 g3
 obtain ⟨t1,t2,t3,t4⟩:=ht
 obtain ⟨tn,ts,te,ta⟩:=t
 simp only at t1 t2 t3 t4
 subst t1 t2 t3 t4
 exact ⟨A1,c1,A2,c2,A3,c3,rfl,u1,u2,u3,m1,m2,m3,hn.1,hn.2,Reads.of_own h.oS,hS,Reads.of_own h.oE,hE,Reads.of_own h.oA,hA⟩
theorem FstAt.freshSet4 {w:World} {B0:Nat} {t:Fs} {v:Value} (h:FstAt w w.heap.size t v) (hf:FstNew B0 v) {g:Nat} (hg:g < B0) (a b c d:Value) :
    FstAt ((((w.setCell ⟨g,0,none⟩ a).setCell ⟨g,1,none⟩ b).setCell ⟨g,2,none⟩ c).setCell ⟨g,3,none⟩ d) ((((w.setCell ⟨g,0,none⟩ a).setCell ⟨g,1,none⟩ b).setCell ⟨g,2,none⟩ c).setCell ⟨g,3,none⟩ d).heap.size t v:=by
 have:=(((h.freshSet hf (p:=⟨g,0,none⟩) hg a).freshSet hf (p:=⟨g,1,none⟩) hg b).freshSet hf (p:=⟨g,2,none⟩) hg c).freshSet hf (p:=⟨g,3,none⟩) hg d
 simpa using this
def SeqW (q:SeqM):Prop:=q.front.size≤maxLen∧(∀ r∈q.next,∀ z∈r,-9223372036854775808≤z∧z≤9223372036854775807)∧(∀ r∈q.outs,∀ s∈r,s.size≤maxLen)∧(∀ s∈q.tail,s.size≤maxLen)
theorem SeqW.tl {q:SeqM} (h:SeqW q) (s:Nat):(q.tl s).size≤maxLen:=by
 unfold SeqM.tl
 rw [List.getD_eq_getElem?_getD]
 rcases hh:q.tail[s]? with _ | x
 ·exact Nat.zero_le _
 ·exact h.2.2.2 _ (List.mem_of_getElem? hh)
theorem SeqW.os {q:SeqM} (h:SeqW q) (s b:Nat):(q.os s b).size≤maxLen:=by
 unfold SeqM.os
 rw [List.getD_eq_getElem?_getD (l:=q.outs.getD s [])]
 rcases hh:(q.outs.getD s [])[b]? with _ | x
 ·exact Nat.zero_le _
 ·have hm:q.outs.getD s []∈q.outs:=by
    rw [List.getD_eq_getElem?_getD]
    rcases h2:q.outs[s]? with _ | y
    ·rw [List.getD_eq_getElem?_getD,h2] at hh; cases hh
    ·exact List.mem_of_getElem? h2
  exact h.2.2.1 _ hm _ (List.mem_of_getElem? hh)
theorem SeqW.nx {q:SeqM} (h:SeqW q) (s b:Nat):-9223372036854775808≤q.nx s b∧q.nx s b≤9223372036854775807:=by
 unfold SeqM.nx
 rw [List.getD_eq_getElem?_getD (l:=q.next.getD s [])]
 rcases hh:(q.next.getD s [])[b]? with _ | x
 ·decide
 ·have hm:q.next.getD s []∈q.next:=by
    rw [List.getD_eq_getElem?_getD]
    rcases h2:q.next[s]? with _ | y
    ·rw [List.getD_eq_getElem?_getD,h2] at hh; cases hh
    ·exact List.mem_of_getElem? h2
  exact h.2.1 _ hm _ (List.mem_of_getElem? hh)
theorem back0_wf {q:SeqM} (h:SeqW q) (hn:q.next.length≤1024):(∀ x∈startsS q,TpW x)∧(∀ x∈endsS q q.next.length,TpW x)∧(∀ x∈arcsS q q.next.length,ArW x):=by
 refine ⟨fun x hx => ?_,fun x hx => ?_,fun x hx => ?_⟩
 ·unfold startsS at hx
  split at hx
  ·cases hx
  ·rw [List.mem_singleton] at hx
   subst hx
   exact ⟨by show (-9223372036854775808:Int)≤0; decide,by show (0:Int)≤9223372036854775807; decide,h.1⟩
 ·obtain ⟨s,hs,_,rfl⟩:=(endsS_mem q x _).1 hx
  exact ⟨by show -9223372036854775808≤(s:Int); omega,by show (s:Int)≤9223372036854775807; omega,h.tl s⟩
 ·obtain ⟨s,b,hs,hb,h0,rfl⟩:=(arcsS_mem q x _).1 hx
  exact ⟨by show -9223372036854775808≤(s:Int); omega,by show (s:Int)≤9223372036854775807; omega,(h.nx s b).1,(h.nx s b).2,⟨word_lt _ _,word_lt _ _,word_lt _ _,word_lt _ _⟩,h.os s b⟩
theorem ck_parts {q:SeqM} (h:ckB q = true):q.next.length≤1024∧q.outs.length = q.next.length∧q.ends.length = q.next.length∧q.tail.length = q.next.length∧q.front.size≤4096∧∀ s,s < q.next.length→(q.next.getD s []).length = 256∧(q.outs.getD s []).length = 256:=by
 unfold ckB at h
 simp only [Bool.and_eq_true,Bool.or_eq_true,decide_eq_true_eq,List.all_eq_true] at h
 obtain ⟨⟨⟨⟨⟨⟨h1,h2⟩,h3⟩,h4⟩,h5⟩,h6⟩,h7⟩:=h
 refine ⟨h1,h2,h3,h4,h5,fun s hs => ?_⟩
 have:=h7 s (List.mem_range.2 hs)
 unfold stB rowB at this
 simp only [Bool.and_eq_true,decide_eq_true_eq] at this
 exact ⟨this.2.1.1,this.2.1.2⟩
end Go.Proofs.YtcondkihpmmnnaaGreatDoor
namespace Go.Proofs.YtcondkihpmmnnaaGreatDoor
open Go.RowKit Go.Sort
structure PutW (B:Nat) (W0 wr:World) (G:Nat) (n:Int) (vS vE vA:Value) (S E:List Tp) (A:List Ar):Prop where
 keep:∀ i,i < W0.heap.size→i≠G→wr.heap[i]? = W0.heap[i]?
 gB:B≤G
 gG:G < W0.heap.size
 t:Blk wr G 32 #[.int .i64 n,vS,vE,vA]
 oS:wr.ownsRow W0.heap.size 54 2 vS S.length (encs encT S)
 oE:wr.ownsRow W0.heap.size 54 2 vE E.length (encs encT E)
 oA:wr.ownsRow W0.heap.size 61 8 vA A.length (encs encA A)
 ap:Apart vS vE
 bel:Below B W0 wr
section
variable {B:Nat} {W0 wr w':World} {G:Nat} {n:Int} {vS vE vA:Value} {S E:List Tp} {A:List Ar}
theorem PutW.new (h:Blk W0 G 32 #[.int .i64 n,.slice none 0 0,.slice none 0 0,.slice none 0 0]) (hB:B≤G):PutW B W0 W0 G n (.slice none 0 0) (.slice none 0 0) (.slice none 0 0) [] [] [] :=
 ⟨fun _ _ _ => rfl,hB,h.lt,h,World.ownsRow_nil _ _ _ _,World.ownsRow_nil _ _ _ _,World.ownsRow_nil _ _ _ _,fun g hg => (by cases hg),Below.refl _ _⟩
theorem PutW.size (h:PutW B W0 wr G n vS vE vA S E A):W0.heap.size≤wr.heap.size:=h.bel.size
theorem PutW.blk (h:PutW B W0 wr G n vS vE vA S E A) {g:Nat} {T:TypeId} {cs:Array Value} (hb:Blk W0 g T cs) (hg:g≠G):Blk wr g T cs:=(h.keep g hb.lt hg).trans hb
theorem PutW.call (h:PutW B W0 wr G n vS vE vA S E A) (hb:Below wr.heap.size wr w'):PutW B W0 w' G n vS vE vA S E A :=
 have hz:=h.size
 have hg:=h.gG
 have hB:=h.gB
 ⟨fun i hi hne => (hb.block i (by omega)).trans (h.keep i hi hne),h.gB,h.gG,h.t.below hb (by omega),own_below h.oS hb,own_below h.oE hb,own_below h.oA hb,h.ap,h.bel.trans (hb.mono (by omega))⟩
theorem PutW.kept (h:PutW B W0 wr G n vS vE vA S E A) {v:Value} (hv:∀ g,v.ownBlock = some g→W0.heap.size≤g) (hg:wr.grownBy w' v.ownBlock) (i:Nat) (u:Value) :
    (∀ j,j < W0.heap.size→j≠G→(w'.setCell ⟨G,i,none⟩ u).heap[j]? = W0.heap[j]?)∧Below B W0 (w'.setCell ⟨G,i,none⟩ u):=by
 have hz:=h.size
 have hgG:=h.gG
 have hB:=h.gB
 refine ⟨fun j hj hne => ?_,(h.bel.grown hg (by omega) (fun k hk => by have:=hv k hk; omega)).setCell (p:=⟨G,i,none⟩) (by show B≤G; omega) _⟩
 rw [Below.heap_setCell _ _ _ _ (show j≠G from hne),hg.block j (by omega) (fun e => by have:=hv j e.symm; omega)]
 exact h.keep j hj hne
theorem PutW.putA (h:PutW B W0 wr G n vS vE vA S E A) {v':Value} {A':List Ar} (hg:wr.grownBy w' vA.ownBlock) (ho:w'.ownsRow W0.heap.size 61 8 v' A'.length (encs encA A')) :
    PutW B W0 (w'.setCell ⟨G,3,none⟩ v') G n vS vE v' S E A':=by
 have kt:=blk_keep h.t hg (own_blk h.oA h.t (by decide))
 have kS:=h.oS.kept hg (apart_types h.oS h.oA (by decide)).or_none
 have kE:=h.oE.kept hg (apart_types h.oE h.oA (by decide)).or_none
 obtain ⟨k1,k2⟩:=h.kept (fun g e => (own_lt h.oA g e).1) hg 3 v'
 exact ⟨k1,h.gB,h.gG,kt.set_ 3 v',own_setCell kS (own_blk kS kt (by decide)) _,own_setCell kE (own_blk kE kt (by decide)) _,own_setCell ho (own_blk ho kt (by decide)) _,h.ap,k2⟩
theorem PutW.putE (h:PutW B W0 wr G n vS vE vA S E A) {v':Value} {E':List Tp} (hg:wr.grownBy w' vE.ownBlock) (ho:w'.ownsRow W0.heap.size 54 2 v' E'.length (encs encT E')) (hl:v'.ownBlock = vE.ownBlock∨v'.ownBlock = some wr.heap.size) :
    PutW B W0 (w'.setCell ⟨G,2,none⟩ v') G n vS v' vA S E' A:=by
 have kt:=blk_keep h.t hg (own_blk h.oE h.t (by decide))
 have kS:=h.oS.kept hg h.ap.or_none
 have kA:=h.oA.kept hg (apart_types h.oA h.oE (by decide)).or_none
 obtain ⟨k1,k2⟩:=h.kept (fun g e => (own_lt h.oE g e).1) hg 2 v'
 refine ⟨k1,h.gB,h.gG,kt.set_ 2 v',own_setCell kS (own_blk kS kt (by decide)) _,own_setCell ho (own_blk ho kt (by decide)) _,own_setCell kA (own_blk kA kt (by decide)) _,fun g hg1 hg2 => ?_,k2⟩
 rcases hl with e | e
 ·exact h.ap g hg1 (by rw [← e]; exact hg2)
 ·rw [e] at hg2
  have:=(own_lt h.oS g hg1).2
  have:=Option.some.inj hg2
  omega
theorem PutW.putS (h:PutW B W0 wr G n vS vE vA S E A) {v':Value} {S':List Tp} (hg:wr.grownBy w' vS.ownBlock) (ho:w'.ownsRow W0.heap.size 54 2 v' S'.length (encs encT S')) (hl:v'.ownBlock = vS.ownBlock∨v'.ownBlock = some wr.heap.size) :
    PutW B W0 (w'.setCell ⟨G,1,none⟩ v') G n v' vE vA S' E A:=by
 have kt:=blk_keep h.t hg (own_blk h.oS h.t (by decide))
 have kE:=h.oE.kept hg h.ap.symm.or_none
 have kA:=h.oA.kept hg (apart_types h.oA h.oS (by decide)).or_none
 obtain ⟨k1,k2⟩:=h.kept (fun g e => (own_lt h.oS g e).1) hg 1 v'
 refine ⟨k1,h.gB,h.gG,kt.set_ 1 v',own_setCell ho (own_blk ho kt (by decide)) _,own_setCell kE (own_blk kE kt (by decide)) _,own_setCell kA (own_blk kA kt (by decide)) _,fun g hg1 hg2 => ?_,k2⟩
 rcases hl with e | e
 ·exact h.ap g (by rw [← e]; exact hg1) hg2
 ·rw [e] at hg1
  have:=(own_lt h.oE g hg2).2
  have:=Option.some.inj hg1
  omega
theorem PutW.fst {A1 A2 A3:Option Addr} {k1 k2 k3 c1 c2 c3:Nat}
    (h:PutW B W0 wr G n (.slice A1 k1 c1) (.slice A2 k2 c2) (.slice A3 k3 c3) S E A) (hn:-9223372036854775808≤n∧n≤9223372036854775807)
    (hS:∀ x∈S,TpW x) (hE:∀ x∈E,TpW x) (hA:∀ x∈A,ArW x):FstAt wr wr.heap.size ⟨n,S,E,A⟩ (.agg #[.int .i64 n,.slice A1 k1 c1,.slice A2 k2 c2,.slice A3 k3 c3]):=by
 obtain ⟨B1,d1,e1,u1,m1,_⟩:=own_form h.oS
 obtain ⟨B2,d2,e2,u2,m2,_⟩:=own_form h.oE
 obtain ⟨B3,d3,e3,u3,m3,_⟩:=own_form h.oA
 injection e1 with e1 f1 g1
 injection e2 with e2 f2 g2
 injection e3 with e3 f3 g3
 subst e1 f1 g1 e2 f2 g2 e3 f3 g3
 exact ⟨A1,c1,A2,c2,A3,c3,rfl,u1,u2,u3,m1,m2,m3,hn.1,hn.2,Reads.of_own h.oS,hS,Reads.of_own h.oE,hE,Reads.of_own h.oA,hA⟩
end
end Go.Proofs.YtcondkihpmmnnaaGreatDoor
