/- Lemmas, part 31 of 50. No condition. -/
import Derived.Test.YtcondkihpmmnnaaGreatDoorQ30
import Derived.Tactics2
import Derived.Recover
import Derived.RegionTactic
import Derived.ChangeAlike
import Derived.Laws.Pointers
import Derived.Test.YtcondkihpmmnnaaGreatDoorQ06
import Derived.Test.YtcondkihpmmnnaaGreatDoorQ09
import Derived.Test.YtcondkihpmmnnaaGreatDoorQ04
namespace Go.Proofs.YtcondkihpmmnnaaGreatDoor
open Go.RowKit Go.Sort
theorem as_fault (W:World) (v:Value):(Instr.typeAssert (.iface 130 v) 20 130 true).run Tryz.prog W = .ok (.tuple #[v,.bool true]) W:=by kernel_rfl
theorem as_nil (W:World):(Instr.typeAssert .nilIface 20 130 true).run Tryz.prog W = .ok (.tuple #[.agg #[.int .i64 0],.bool false]) W:=by kernel_rfl
def CaughtW (gq ge:Nat) (k:Int) (w w':World):Prop :=
 Blk w' gq 27 #[.string ⟨#[]⟩,.slice none 0 0,.slice none 0 0,.slice none 0 0,.slice none 0 0]∧Blk w' ge 33 #[.int .i64 k]∧∀ B,B≤gq→B≤ge→B≤w.heap.size→Below B w w'
set_option maxRecDepth 100000 in
set_option maxHeartbeats 2000000 in
theorem caught (gq ge:Nat) (k:Int) (older:List PanicEntry) (w:World) (c0 c1 c2 c3 c4 v:Value) (hq:Blk w gq 27 #[c0,c1,c2,c3,c4]) (he:Blk w ge 33 #[v]) :
    CallsD Tryz.prog 60 #[.pointer (some ⟨gq,0,none⟩),.pointer (some ⟨ge,0,none⟩)] (.panicking ({ v:=.iface 130 (.agg #[.int .i64 k]),recovered:=false } :: older)) w fun e u' w' =>
     e = .returned (.tuple #[])∧u' = .panicking ({ v:=.iface 130 (.agg #[.int .i64 k]),recovered:=true } :: older)∧CaughtW gq ge k w w':=by
 refine callsD_of_wpS Tryz.func60 rfl fun c₀ cs hu => ?_
 apply wpS_seq
 apply wpS_region
 simp [wpOpsS,go_sem,recoverD,hu,as_fault,Tryz.ntmps60,Exit.thenS]
 refine wpS_of_wp ?_
 have hX:=Blk.new w 130 #[.int .i64 k]
 have hq1:=hq.alloc (.cells #[.int .i64 k] 130)
 have he1:=he.alloc (.cells #[.int .i64 k] 130)
 have hne:gq≠w.heap.size:=by have:=hq.lt; omega
 have hne2:ge≠w.heap.size:=by have:=he.lt; omega
 have HX:=Lib.hid hX
 have HQ:=Lib.hid hq1
 have HE:=Lib.hid he1
 have HB:=Lib.hid (fun B (hB:B≤w.heap.size) => (Below.refl B w).alloc hB (.cells #[.int .i64 k] 130))
 clear hX hq1 he1 hq he
 simp [Array.replicate]
 go_wp2
 generalize w.alloc (.cells #[.int .i64 k] 130) = W at *
 have x0:W.cell? ⟨w.heap.size,0,none⟩ = some (.int .i64 k):=HX.out.cell 0
 have q0:W.cell? ⟨gq,0,none⟩ = some c0:=HQ.out.cell 0
 have q1:W.cell? ⟨gq,1,none⟩ = some c1:=HQ.out.cell 1
 have q2:W.cell? ⟨gq,2,none⟩ = some c2:=HQ.out.cell 2
 have q3:W.cell? ⟨gq,3,none⟩ = some c3:=HQ.out.cell 3
 have q4:W.cell? ⟨gq,4,none⟩ = some c4:=HQ.out.cell 4
 have g0:=HQ.out.frozen 0
 have g1:=HQ.out.frozen 1
 have g2:=HQ.out.frozen 2
 have g3:=HQ.out.frozen 3
 have g4:=HQ.out.frozen 4
 have e0:W.cell? ⟨ge,0,none⟩ = some v:=HE.out.cell 0
 have e1:=HE.out.frozen 0
 have hqe:ge≠gq:=fun e => by subst e; have:=HQ.out.symm.trans HE.out; simp at this
 have x0':(W.setCell ⟨gq,0,none⟩ (.string ⟨#[]⟩)).cell? ⟨w.heap.size,0,none⟩ = some (.int .i64 k):=(HX.out.far (p:=⟨gq,0,none⟩) (fun e => hne e.symm) _).cell 0
 have e0':(W.setCell ⟨gq,0,none⟩ (.string ⟨#[]⟩)).cell? ⟨ge,0,none⟩ = some v:=(HE.out.far (p:=⟨gq,0,none⟩) hqe _).cell 0
 have hfin:CaughtW gq ge k w ((((((W.setCell ⟨gq,0,none⟩ (.string ⟨#[]⟩)).setCell ⟨gq,1,none⟩ (.slice none 0 0)).setCell ⟨gq,2,none⟩ (.slice none 0 0)).setCell ⟨gq,3,none⟩ (.slice none 0 0)).setCell ⟨gq,4,none⟩ (.slice none 0 0)).setCell ⟨ge,0,none⟩ (.int .i64 k)).drew:=by
  refine ⟨Blk.drew (Blk.far (((((HQ.out.set_ 0 _).set_ 1 _).set_ 2 _).set_ 3 _).set_ 4 _) (p:=⟨ge,0,none⟩) (fun e => hqe e.symm) _),?_,fun B h1 h2 h3 => ?_⟩
  ·have:=(((((HE.out.far (p:=⟨gq,0,none⟩) hqe (.string ⟨#[]⟩)).far (p:=⟨gq,1,none⟩) hqe (.slice none 0 0)).far (p:=⟨gq,2,none⟩) hqe (.slice none 0 0)).far (p:=⟨gq,3,none⟩) hqe (.slice none 0 0)).far (p:=⟨gq,4,none⟩) hqe (.slice none 0 0)).set_ 0 (.int .i64 k)
   exact this.drew
  ·exact ((((((HB.out B h3).setCell (p:=⟨gq,0,none⟩) h1 _).setCell (p:=⟨gq,1,none⟩) h1 _).setCell (p:=⟨gq,2,none⟩) h1 _).setCell (p:=⟨gq,3,none⟩) h1 _).setCell (p:=⟨gq,4,none⟩) h1 _).setCell (p:=⟨ge,0,none⟩) h2 _ |>.drew
 have HF:=Lib.hid hfin
 clear hfin
 clear HQ HE HX HB
 generalize w.heap.size = gx at *
 go_region
 show bodyPostS Tryz.prog _ c₀ cs _ _ _ _ _
 simp [bodyPostS,results,Tryz.results60]
 exact HF.out
set_option maxRecDepth 100000 in
set_option maxHeartbeats 2000000 in
theorem idle (gq ge:Nat) (w:World) :
    CallsD Tryz.prog 60 #[.pointer (some ⟨gq,0,none⟩),.pointer (some ⟨ge,0,none⟩)] .returning w fun e u' w' =>
     e = .returned (.tuple #[])∧u' = .returning∧Below w.heap.size w w':=by
 have hb:=(Below.refl w.heap.size w).alloc (Nat.le_refl _) (.cells #[.int .i64 0] 130)
 have HB:=Lib.hid hb
 clear hb
 refine callsD_of_wpS Tryz.func60 rfl fun c₀ cs hu => ?_
 apply wpS_seq
 apply wpS_region
 simp [wpOpsS,go_sem,recoverD,hu,as_nil,Tryz.ntmps60,Exit.thenS]
 refine wpS_of_wp ?_
 simp [Array.replicate]
 go_wp2
 cases c₀
 simp_all [bodyPostS,results,Tryz.results60]
 exact HB.out
end Go.Proofs.YtcondkihpmmnnaaGreatDoor
namespace Go.Proofs.YtcondkihpmmnnaaGreatDoor
open Go.RowKit Go.Sort
def handOf:Value→Option Addr × Nat
 | .slice A _ c => (A,c)
 | _ => (none,0)
theorem rows2_of {M:Nat→Prop} {w:World} {base:Nat} {e:TypeId} {A:Option Addr} {n c:Nat} {tv:List Value} {rows:List (List Value)} (ho:w.ownsRow base e 1 (.slice A n c) n tv) (hn:rows.length = n)
    (h:∀ i,i < rows.length→SlR M w 1 (tv.getD i nilV) (rows.getD i []).length (rows.getD i [])):Rows2 w w.heap.size A n rows:=by
 have hl:=ho.1
 rw [Nat.mul_one] at hl
 have hz:(List.zip (tv.map handOf) rows).map (fun x => Value.slice x.1.1 x.2.length x.1.2) = tv:=by
  apply List.ext_getElem
  ·simp; omega
  intro i h1 h2
  have hi:i < rows.length:=by omega
  obtain ⟨g,c',hv,_⟩:=h i hi
  rw [List.getD_eq_getElem?_getD,List.getElem?_eq_getElem h2] at hv
  simp only [Option.getD_some] at hv
  have hr:rows.getD i [] = rows[i]:=by rw [List.getD_eq_getElem?_getD,List.getElem?_eq_getElem hi]; rfl
  rw [hr] at hv
  rw [List.getElem_map,List.getElem_zip]
  simp only [List.getElem_map]
  rw [hv]
  rfl
 refine ⟨tv.map handOf,by rw [List.length_map]; omega,by rw [hz]; exact Reads.of_own ho,fun x hx => ?_⟩
 obtain ⟨i,h1,rfl⟩:=List.mem_iff_getElem.1 hx
 have hi:i < rows.length:=by simp at h1; omega
 have hi2:i < tv.length:=by omega
 obtain ⟨g,c',hv,h3,h4,h5,h6,h7⟩:=h i hi
 have hr:rows.getD i [] = rows[i]:=by rw [List.getD_eq_getElem?_getD,List.getElem?_eq_getElem hi]; rfl
 rw [List.getD_eq_getElem?_getD,List.getElem?_eq_getElem hi2] at hv
 simp only [Option.getD_some] at hv
 rw [hr] at hv h3 h7
 rw [List.getElem_zip]
 simp only [List.getElem_map]
 rw [hv]
 exact ⟨h7,h3,h4⟩
theorem SeqAt.below {w w':World} {B:Nat} {q:SeqM} {v:Value} (h:SeqAt w B q v) (hb:Below B w w'):SeqAt w' B q v:=by
 obtain ⟨A1,c1,A2,c2,A3,c3,A4,c4,rfl,hf,l1,l2,l3,l4,m1,m2,m3,m4,R1,hz,R2,hs,R3,R4,ht⟩:=h
 exact ⟨A1,c1,A2,c2,A3,c3,A4,c4,rfl,hf,l1,l2,l3,l4,m1,m2,m3,m4,R1.below hb,hz,R2.below hb,hs,R3.below hb,R4.below hb,ht⟩
theorem SeqAt.more {w:World} {B B':Nat} {q:SeqM} {v:Value} (h:SeqAt w B q v) (hB:B≤B'):SeqAt w B' q v:=by
 obtain ⟨A1,c1,A2,c2,A3,c3,A4,c4,rfl,hf,l1,l2,l3,l4,m1,m2,m3,m4,R1,hz,R2,hs,R3,R4,ht⟩:=h
 exact ⟨A1,c1,A2,c2,A3,c3,A4,c4,rfl,hf,l1,l2,l3,l4,m1,m2,m3,m4,R1.more hB,hz,R2.more hB,hs,R3.more hB,R4.more hB,ht⟩
theorem seqAt_nil (w:World) (B:Nat):SeqAt w B seq0 (.agg #[.string ⟨#[]⟩,.slice none 0 0,.slice none 0 0,.slice none 0 0,.slice none 0 0]):=by
 refine ⟨none,0,none,0,none,0,none,0,rfl,Nat.zero_le _,Nat.le_refl _,Nat.le_refl _,Nat.le_refl _,Nat.le_refl _,Nat.zero_le _,Nat.zero_le _,Nat.zero_le _,Nat.zero_le _,⟨[],rfl,Reads.none_,fun x hx => (List.not_mem_nil hx).elim⟩,fun r hr => (List.not_mem_nil hr).elim,⟨[],rfl,Reads.none_,fun x hx => (List.not_mem_nil hx).elim⟩,fun r hr => (List.not_mem_nil hr).elim,Reads.none_,Reads.none_,fun r hr => (List.not_mem_nil hr).elim⟩
theorem map_getD {α β:Type} (f:α→β) (d:α) (d':β) (hd:f d = d') (l:List α) (i:Nat):(l.map f).getD i d' = f (l.getD i d):=by
 rw [List.getD_eq_getElem?_getD,List.getD_eq_getElem?_getD,List.getElem?_map]
 cases l[i]? <;> simp [hd]
def SeqNew (B:Nat) (w:World) (q:SeqM) (v:Value):Prop :=
 ∀ W:World,w.heap.size≤W.heap.size→(∀ g,B≤g→g < w.heap.size→W.heap[g]? = w.heap[g]?)→SeqAt W W.heap.size q v
section
variable {B B':Nat} {w w':World} {q:SeqM} {v:Value}
theorem SeqNew.at_ (h:SeqNew B w q v):SeqAt w w.heap.size q v:=h w (Nat.le_refl _) fun _ _ _ => rfl
theorem SeqNew.mono (h:SeqNew B w q v) (hB:B'≤B):SeqNew B' w q v:=fun W hz hk => h W hz fun g hg hl => hk g (Nat.le_trans hB hg) hl
theorem SeqNew.stays (h:SeqNew B w q v) (hz:w.heap.size≤w'.heap.size) (hk:∀ g,B≤g→g < w.heap.size→w'.heap[g]? = w.heap[g]?):SeqNew B w' q v:=fun W hz' hk' =>
 h W (Nat.le_trans hz hz') fun g hg hl => (hk' g hg (Nat.lt_of_lt_of_le hl hz)).trans (hk g hg hl)
theorem SeqNew.below (h:SeqNew B w q v) (hb:Below w.heap.size w w'):SeqNew B w' q v:=h.stays hb.size fun g _ hl => hb.block g hl
theorem SeqNew.setCell (h:SeqNew B w q v) {p:Addr} (hp:p.block < B) (u:Value):SeqNew B (w.setCell p u) q v:=h.stays (by simp) fun g hg _ => Below.heap_setCell _ _ _ _ (by omega)
theorem seqNew_nil (B:Nat) (w:World):SeqNew B w seq0 (.agg #[.string ⟨#[]⟩,.slice none 0 0,.slice none 0 0,.slice none 0 0,.slice none 0 0]):=fun W _ _ => seqAt_nil W _
end
theorem own_stays {w w':World} {base:Nat} {e:TypeId} {size n:Nat} {v:Value} {xs:List Value} (h:w.ownsRow base e size v n xs) (hk:∀ g,base≤g→g < w.heap.size→w'.heap[g]? = w.heap[g]?):w'.ownsRow base e size v n xs:=by
 refine ⟨h.1,?_⟩
 rcases h.2 with h0 | ⟨g,cap,cur,hv,hbg,hh,rest⟩
 ·exact .inl h0
 ·refine .inr ⟨g,cap,cur,hv,hbg,?_,rest⟩
  rw [hk g hbg ?_]
  ·exact hh
  ·rcases Nat.lt_or_ge g w.heap.size with h | h
   ·exact h
   ·rw [Array.getElem?_eq_none h] at hh; cases hh
structure MkQ (w:World) (P0:Nat) (vN vO vEn vT:Value) (nv ov:List Value) (S:Mk) (M:Nat→Prop):Prop where
 oN:w.ownsRow P0 55 1 vN S.next.length nv
 oO:w.ownsRow P0 25 1 vO S.outs.length ov
 oE:w.ownsRow P0 4 1 vEn S.ends.length (S.ends.map Value.bool)
 oT:w.ownsRow P0 9 1 vT S.tails.length (S.tails.map Value.string)
 nexts:∀ i,i < S.next.length→SlR M w 1 (nv.getD i nilV) (S.next.getD i []).length ((S.next.getD i []).map (Value.int .i64))
 outss:∀ i,i < S.outs.length→SlR M w 1 (ov.getD i nilV) (S.outs.getD i []).length ((S.outs.getD i []).map Value.string)
theorem MkQ.stays {w w':World} {P0:Nat} {vN vO vEn vT:Value} {nv ov:List Value} {S:Mk} {M:Nat→Prop} (h:MkQ w P0 vN vO vEn vT nv ov S M) (hlow:∀ g,g < P0→M g) (hz:w.heap.size≤w'.heap.size) (hk:∀ g,P0≤g→g < w.heap.size→w'.heap[g]? = w.heap[g]?):MkQ w' P0 vN vO vEn vT nv ov S M :=
 have hk2:∀ g,g < w.heap.size→¬ M g→w'.heap[g]? = w.heap[g]?:=fun g hg hn => hk g (Nat.le_of_not_lt fun h => hn (hlow g h)) hg
 ⟨own_stays h.oN hk,own_stays h.oO hk,own_stays h.oE hk,own_stays h.oT hk,fun i hi => (h.nexts i hi).keep hz hk2,fun i hi => (h.outss i hi).keep hz hk2⟩
theorem MkQ.seq {w:World} {P0:Nat} {fr:ByteArray} {vN vO vEn vT:Value} {nv ov:List Value} {S:Mk} {M:Nat→Prop} (h:MkQ w P0 vN vO vEn vT nv ov S M)
    {m:Nat} (hm:m≤1024) (hq:S.next.length≤m∧S.outs.length = S.next.length∧S.ends.length = S.next.length∧S.tails.length = S.next.length∧fr.size≤100000000 ∧
     ∀ s,s < S.next.length→(S.tails.getD s ByteArray.empty).size≤4096∧(S.next.getD s []).length = 256∧(S.outs.getD s []).length = 256 ∧
     ∀ b,b < 256→-1≤(S.next.getD s []).getD b 0∧(S.next.getD s []).getD b 0 < S.next.length∧((S.outs.getD s []).getD b ByteArray.empty).size≤4096) :
    SeqAt w w.heap.size ⟨fr,S.next,S.outs,S.ends,S.tails⟩ (.agg #[.string fr,vN,vO,vEn,vT]):=by
 obtain ⟨h1,h2,h3,h4,h5,h6⟩:=hq
 obtain ⟨An,cn,rfl,n1,n2,_⟩:=own_form h.oN
 obtain ⟨Ao,co,rfl,o1,o2,_⟩:=own_form h.oO
 obtain ⟨Ae,ce,rfl,e1,e2,_⟩:=own_form h.oE
 obtain ⟨At,ct,rfl,t1,t2,_⟩:=own_form h.oT
 refine ⟨An,cn,Ao,co,Ae,ce,At,ct,rfl,by unfold maxLen; simp only; omega,n1,o1,e1,t1,n2,o2,e2,t2,?_,fun r hr z hz => ?_,?_,fun r hr s hs => ?_,Reads.of_own h.oE,Reads.of_own h.oT,fun s hs => ?_⟩
 ·refine rows2_of (M:=M) h.oN (by rw [List.length_map]) fun i hi => ?_
  rw [List.length_map] at hi
  have:=h.nexts i hi
  rw [map_getD (fun r:List Int => r.map (Value.int .i64)) [] [] rfl,List.length_map]
  exact this
 ·obtain ⟨s,hs,rfl⟩:=List.mem_iff_getElem.1 hr
  obtain ⟨b,hb,rfl⟩:=List.mem_iff_getElem.1 hz
  have hs':s < S.next.length:=hs
  obtain ⟨_,k1,k2,k3⟩:=h6 s hs'
  have e:S.next.getD s [] = S.next[s]:=by rw [List.getD_eq_getElem?_getD,List.getElem?_eq_getElem hs']; rfl
  rw [e] at k1 k3
  have hb':b < (S.next[s]).length:=hb
  rw [k1] at hb'
  obtain ⟨z1,z2,_⟩:=k3 b hb'
  have e2:(S.next[s]).getD b 0 = S.next[s][b]:=by rw [List.getD_eq_getElem?_getD,List.getElem?_eq_getElem hb]; rfl
  rw [e2] at z1 z2
  show -9223372036854775808≤S.next[s][b]∧S.next[s][b]≤9223372036854775807
  omega
 ·refine rows2_of (M:=M) h.oO (by rw [List.length_map]) fun i hi => ?_
  rw [List.length_map] at hi
  have:=h.outss i hi
  rw [map_getD (fun r:List ByteArray => r.map Value.string) [] [] rfl,List.length_map]
  exact this
 ·obtain ⟨i,hi,rfl⟩:=List.mem_iff_getElem.1 hr
  obtain ⟨b,hb,rfl⟩:=List.mem_iff_getElem.1 hs
  have hi':i < S.outs.length:=hi
  obtain ⟨_,k1,k2,k3⟩:=h6 i (by omega)
  have e:S.outs.getD i [] = S.outs[i]:=by rw [List.getD_eq_getElem?_getD,List.getElem?_eq_getElem hi']; rfl
  rw [e] at k2 k3
  have hb':b < (S.outs[i]).length:=hb
  rw [k2] at hb'
  obtain ⟨_,_,z3⟩:=k3 b hb'
  have e2:(S.outs[i]).getD b ByteArray.empty = S.outs[i][b]:=by rw [List.getD_eq_getElem?_getD,List.getElem?_eq_getElem hb]; rfl
  rw [e2] at z3
  show (S.outs[i][b]).size≤maxLen
  unfold maxLen
  omega
 ·obtain ⟨i,hi,rfl⟩:=List.mem_iff_getElem.1 hs
  have hi':i < S.tails.length:=hi
  have k0:=(h6 i (by omega)).1
  have e:S.tails.getD i ByteArray.empty = S.tails[i]:=by rw [List.getD_eq_getElem?_getD,List.getElem?_eq_getElem hi']; rfl
  rw [e] at k0
  show (S.tails[i]).size≤maxLen
  unfold maxLen
  omega
theorem MkV.seqNew {w:World} {B0 P0 G MB:Nat} {vA vE:Value} {most:Int} {fr:ByteArray} {vR vN vO vEn vT:Value} {tv nv ov:List Value} {S:Mk} {M:Nat→Prop} (h:MkV w B0 P0 G MB vA vE most fr vR vN vO vEn vT tv nv ov S M)
    {m:Nat} (hm:m≤1024) (hq:S.next.length≤m∧S.outs.length = S.next.length∧S.ends.length = S.next.length∧S.tails.length = S.next.length∧fr.size≤4096 ∧
     ∀ s,s < S.next.length→(S.tails.getD s ByteArray.empty).size≤4096∧(S.next.getD s []).length = 256∧(S.outs.getD s []).length = 256 ∧
     ∀ b,b < 256→-1≤(S.next.getD s []).getD b 0∧(S.next.getD s []).getD b 0 < S.next.length∧((S.outs.getD s []).getD b ByteArray.empty).size≤4096) :
    SeqNew P0 w ⟨fr,S.next,S.outs,S.ends,S.tails⟩ (.agg #[.string fr,vN,vO,vEn,vT]):=fun W hz hk =>
 ((⟨h.oN,h.oO,h.oE,h.oT,h.nexts,h.outss⟩:MkQ w P0 vN vO vEn vT nv ov S M).stays h.low hz hk).seq hm ⟨hq.1,hq.2.1,hq.2.2.1,hq.2.2.2.1,Nat.le_trans hq.2.2.2.2.1 (by decide),hq.2.2.2.2.2⟩
end Go.Proofs.YtcondkihpmmnnaaGreatDoor
namespace Go.Proofs.YtcondkihpmmnnaaGreatDoor
open Go.RowKit Go.Sort
def rowV (f:Nat→Value) (n:Nat):List Value:=(List.range n).map f
theorem rowV_at (f:Nat→Value) {n k:Nat} (h:k < n):(rowV f n)[k]? = some (f k):=by
 unfold rowV; rw [List.getElem?_map,List.getElem?_range h]; rfl
theorem rowV_len (f:Nat→Value) (n:Nat):(rowV f n).length = n:=by unfold rowV; simp
theorem rowV_set (f:Nat→Value) (n k:Nat) (v:Value) (hk:k < n):(rowV f n).set k v = rowV (fun j => if j = k then v else f j) n:=by
 apply List.ext_getElem?
 intro j
 rw [List.getElem?_set]
 by_cases hj:j < n
 ·rw [rowV_at _ hj,rowV_at _ hj]
  by_cases e:k = j
  ·subst e; rw [if_pos rfl,if_pos (by rw [rowV_len]; exact hj),if_pos rfl]
  ·rw [if_neg e,if_neg (Ne.symm e)]
 ·rw [List.getElem?_eq_none (by rw [rowV_len]; omega),List.getElem?_eq_none (by rw [rowV_len]; omega)]
  split <;> simp_all
theorem rowV_cell {w:World} {B n:Nat} {A:Option Addr} {f:Nat→Value} (HR:Reads w B 1 A n (rowV f n)) (k:Nat) (hk:k < n):∃ g o,A = some ⟨g,o,none⟩∧g < B∧w.cell? ⟨g,o + k,none⟩ = some (f k):=by
 obtain ⟨ad,e,hb,hc⟩:=HR.2 (by omega)
 have h0:=hc 0 _ (rowV_at f (by omega))
 have h00:ad.add 0 = ad:=by simp [Addr.add]
 rw [h00] at h0
 have es:=spot_none h0
 have c1:=hc k _ (rowV_at f hk)
 rw [es,add_mk] at c1
 exact ⟨ad.block,ad.off,by rw [e,← es],hb,c1⟩
theorem ckB_nx {q:SeqM} (h:ckB q = true) {s b:Nat} (hs:s < q.next.length) (hb:b < 256):-1≤q.nx s b∧q.nx s b < (q.next.length:Int)∧(q.os s b).size≤4096∧(q.nx s b = -1→q.os s b = ByteArray.empty)∧(q.tl s).size≤4096∧(q.en s = false→q.tl s = ByteArray.empty):=by
 unfold ckB at h
 simp only [Bool.and_eq_true,Bool.or_eq_true,decide_eq_true_eq,List.all_eq_true] at h
 obtain ⟨_,h7⟩:=h
 have:=h7 s (List.mem_range.2 hs)
 unfold stB rowB entB at this
 simp only [Bool.and_eq_true,Bool.or_eq_true,decide_eq_true_eq,List.all_eq_true] at this
 obtain ⟨⟨a1,a2⟩,_,a3⟩:=this
 obtain ⟨⟨⟨b1,b2⟩,b3⟩,b4⟩:=a3 b (List.mem_range.2 hb)
 have emp:∀ x:ByteArray,x.size = 0→x = ByteArray.empty:=fun x hx => bl_inj (by rw [bl_nil]; exact List.eq_nil_of_length_eq_zero (by rw [bl_len]; exact hx))
 refine ⟨b1,b2,b3,fun e => emp _ (b4.resolve_left (fun c => c e)),a1,fun e => emp _ (a2.resolve_left (fun c => ?_))⟩
 have:q.en s = true:=c
 rw [e] at this; cases this
theorem lcp2_size (a b:ByteArray):(lcp2 a b).size≤a.size:=by
 have:=(lcp2_left a b).length_le
 rwa [bl_len,bl_len] at this
end Go.Proofs.YtcondkihpmmnnaaGreatDoor
namespace Go.Proofs.YtcondkihpmmnnaaGreatDoor
open Go.RowKit Go.Sort
theorem SeqAt.cells {w:World} {B:Nat} {q:SeqM} {v:Value} (h:SeqAt w B q v):∃ c0 c1 c2 c3 c4,v = .agg #[c0,c1,c2,c3,c4]:=by
 obtain ⟨A1,c1,A2,c2,A3,c3,A4,c4,rfl,_⟩:=h
 exact ⟨_,_,_,_,_,rfl⟩
def kL (k:Frt) (n:Nat):List Value:=rowV (fun s => .string (k.l s)) n
def kS (k:Frt) (n:Nat):List Value:=rowV (fun s => .bool (k.some s)) n
theorem candB_one {q:SeqM} {k:Frt} {s b z:Nat} (hz:q.nx s b = (z:Int)) (hs:k.some z = true):candB q k s b = [q.os s b ++ k.l z]:=by
 unfold candB
 rw [hz,Int.toNat_natCast,hs,if_neg]
 rintro (h | h)
 ·omega
 ·cases h
theorem candB_neg {q:SeqM} {k:Frt} {s b:Nat} (h:q.nx s b < 0):candB q k s b = []:=by unfold candB; rw [if_pos (.inl h)]
theorem candB_dead {q:SeqM} {k:Frt} {s b z:Nat} (hz:q.nx s b = (z:Int)) (hs:k.some z = false):candB q k s b = []:=by unfold candB; rw [if_pos (.inr (by rw [hz,Int.toNat_natCast]; exact hs))]
theorem lcpA_size {l:List ByteArray} {m:Nat} (h:∀ x∈l,x.size≤m):(lcpA l).size≤m:=by
 cases l with
 | nil => exact Nat.zero_le _
 | cons s l =>
  have:=(lcpA_prefix (l:=s :: l) (List.cons_ne_nil _ _) _).1 (List.prefix_refl _) s List.mem_cons_self
  have:=this.length_le
  rw [bl_len,bl_len] at this
  exact Nat.le_trans this (h s List.mem_cons_self)
theorem candN_size {q:SeqM} {k:Frt} {s n m:Nat} (hck:ckB q = true) (hs:s < q.next.length) (hn:n≤256) (hl:∀ z,(k.l z).size≤m):∀ x∈candN q k s n,x.size≤4096 + m:=by
 intro x hx
 unfold candN at hx
 rcases List.mem_append.1 hx with hx | hx
 ·unfold candE at hx
  split at hx
  ·rw [List.mem_singleton] at hx
   subst hx
   have:=(ckB_nx hck hs (b:=0) (by decide)).2.2.2.2.1
   omega
  ·cases hx
 ·obtain ⟨b,hb,hx⟩:=List.mem_flatMap.1 hx
  have hb:=List.mem_range.1 hb
  unfold candB at hx
  split at hx
  ·cases hx
  ·rw [List.mem_singleton] at hx
   subst hx
   have h1:=(ckB_nx hck hs (b:=b) (by omega)).2.2.1
   have h2:=hl (q.nx s b).toNat
   have e:=congrArg List.length (bl_app (q.os s b) (k.l (q.nx s b).toNat))
   rw [bl_len,List.length_append,bl_len,bl_len] at e
   omega
set_option maxRecDepth 100000 in
set_option maxHeartbeats 8000000 in
theorem front_walk (q:SeqM) (v:Value) (B s n m:Nat) (k:Frt) (Al As:Option Addr) (cl cs:Nat) (w:World) (HS:SeqAt w B q v) (hB:B≤w.heap.size) (hck:ckB q = true) (hn:q.next.length = n) (hs:s < n)
    (HL:Reads w B 1 Al n (kL k n)) (HM:Reads w B 1 As n (kS k n)) (hl:∀ z,(k.l z).size≤m) (hm:m≤100000000) :
    Calls Tryz.prog 101 #[v,.int .i64 (s:Int),.slice Al n cl,.slice As n cs] w (Gives (.string (lcpA (cand q k s))) w):=by
 obtain ⟨A1,c1,A2,c2,A3,c3,A4,c4,rfl,hf,l1,l2,l3,l4,m1,m2,m3,m4,R1,hz,R2,hsz,R3,R4,htl⟩:=HS
 obtain ⟨p1,p2,p3,p4,p5,p6⟩:=ck_parts hck
 have HP6:=Lib.hid p6
 have HCk:=Lib.hid (fun b (hb:b < 256) => ckB_nx hck (by rw [hn]; exact hs) hb)
 have HSz:=Lib.hid (fun j (hj:j≤256) => candN_size (s:=s) (n:=j) hck (by rw [hn]; exact hs) hj hl)
 rw [p2] at l2 R2 ⊢
 rw [p3] at l3 R3 ⊢
 rw [p4] at l4 R4 ⊢
 rw [hn] at p1 l1 l2 l3 l4 R1 R2 R3 R4 ⊢
 have K:=Blk.new w 27 #[.string q.front,.slice A1 n c1,.slice A2 n c2,.slice A3 n c3,.slice A4 n c4]
 have LB:=(Below.refl w.heap.size w).alloc (Nat.le_refl _) (.cells #[.string q.front,.slice A1 n c1,.slice A2 n c2,.slice A3 n c3,.slice A4 n c4] 27)
 have hi1:(0:Int)≤(s:Int):=by omega
 have hi2:(s:Int) < (n:Int):=by omega
 have en1:q.ends.getD s false = q.en s:=rfl
 have et1:q.tail.getD s ByteArray.empty = q.tl s:=rfl
 obtain ⟨g3,o3,rfl,hg3,x3⟩:=cell_at (d:=false) R3 s hs
 obtain ⟨g4,o4,rfl,hg4,x4⟩:=cell_at (d:=ByteArray.empty) R4 s hs
 rw [en1] at x3
 rw [et1] at x4
 have e1:(q.next.map fun r => r.map (Value.int .i64)).getD s [] = (q.next.getD s []).map (Value.int .i64):=by
  rw [List.getD_eq_getElem?_getD,List.getD_eq_getElem?_getD,List.getElem?_map]
  cases q.next[s]? <;> rfl
 have e2:(q.outs.map fun r => r.map Value.string).getD s [] = (q.outs.getD s []).map Value.string:=by
  rw [List.getD_eq_getElem?_getD,List.getD_eq_getElem?_getD,List.getElem?_map]
  cases q.outs[s]? <;> rfl
 obtain ⟨g1,o1,A1',d1,rfl,hg1,x1,Q1,y1,z1⟩:=R1.at_ s hs
 obtain ⟨g2,o2,A2',d2,rfl,hg2,x2,Q2,y2,z2⟩:=R2.at_ s hs
 rw [e1] at x1 Q1 y1
 rw [e2] at x2 Q2 y2
 simp only [List.length_map] at x1 x2 Q1 Q2 y1 y2
 have hlen:=HP6.out s (by rw [hn]; exact hs)
 have Hn:=Lib.hid hn
 clear p2 p3 p4
 rw [hlen.1] at x1 Q1 y1
 rw [hlen.2] at x2 Q2 y2
 have hnp:n≠q.next.length∨True:=.inr trivial
 have Hsm:=Lib.hid hm
 generalize q.front = fr at *
 have HX:=Lib.hid (fun (W:World) (hb:Below w.heap.size w W) => And.intro ((hb.cell (p:=⟨g3,o3 + s,none⟩) (by show g3 < _; omega)).trans x3) (And.intro ((hb.cell (p:=⟨g4,o4 + s,none⟩) (by show g4 < _; omega)).trans x4) (And.intro ((hb.cell (p:=⟨g1,o1 + s,none⟩) (by show g1 < _; omega)).trans x1) (And.intro ((hb.cell (p:=⟨g2,o2 + s,none⟩) (by show g2 < _; omega)).trans x2) (And.intro (Q1.below (hb.mono hB)) (And.intro (Q2.below (hb.mono hB)) (And.intro (HL.below (hb.mono hB)) (HM.below (hb.mono hB)))))))))
 have k1:=cell_regrown (K.cell 1)
 have k2:=cell_regrown (K.cell 2)
 have k3:=cell_regrown (K.cell 3)
 have k4:=cell_regrown (K.cell 4)
 obtain ⟨j3,j4,j1,j2,_⟩:=HX.out _ LB
 have j3':=cell_regrown j3
 have j4':=cell_regrown j4
 clear R1 R2 R3 R4 hz hsz htl x1 x2 x3 x4 Q1 Q2 HL HM e1 e2 en1 et1 hlen p6 hck hnp hn
 go_enter Tryz.func101,Tryz.ntmps101
 go_wp2
 refine wp_region_quiet_below (by kernel_rfl) (by kernel_rfl) ?_
 repeat (go_big_quiet_step (fail))
 refine wpQuiet_nil ?_
 intro w5 hw5
 have LB5:=LB.trans ((below_of hw5).mono (by simp))
 have K5:=K.below (below_of hw5) K.lt
 have k1:=K5.cell 1
 obtain ⟨_,_,j1,_⟩:=HX.out _ LB5
 have HK5:=Lib.hid (And.intro K5 LB5)
 have hst:Value.string (q.tl s) = .string (lcpA (candN q k s 0))∧Value.bool (q.en s) = .bool (!(candN q k s 0).isEmpty):=by
  have he:=(HCk.out 0 (by decide)).2.2.2.2.2
  unfold candN candE
  rcases hen:q.en s with _ | _
  ·rw [he hen]; exact ⟨rfl,rfl⟩
  ·exact ⟨rfl,rfl⟩
 have HSt:=Lib.hid hst
 have hlts:=K5.lt
 clear hw5 K LB K5 LB5 j3 j4 j2 j3' j4' k2 k3 k4 hst
 go_wp2
 clear k1 j1
 go_loopw [9,10,30] (fun f kn i wr => ∃ b:Nat,b≤256∧i = .int .i64 (b:Int)∧f = .string (lcpA (candN q k s b))∧kn = .bool (!(candN q k s b).isEmpty)∧Blk wr w.heap.size 27 #[.string fr,.slice (some ⟨g1,o1,none⟩) n c1,.slice (some ⟨g2,o2,none⟩) n c2,.slice (some ⟨g3,o3,none⟩) n c3,.slice (some ⟨g4,o4,none⟩) n c4]∧Below w.heap.size w wr) (fun _ _ i _ => 256 - (intOf i).toNat)
 case atStart => exact ⟨0,Nat.zero_le _,rfl,HSt.out.1,HSt.out.2,HK5.out.1,HK5.out.2⟩
 case round =>
  clear HK5 HSt hlts
  obtain ⟨b,hb,rfl,rfl,rfl,K5,LB5⟩:=hrel
  have Hsz:=Lib.hid (lcpA_size (HSz.out b hb))
  have Hsuc:=Lib.hid (candN_next q k s b)
  have Hcdx:=Lib.hid (rfl:candN q k s b = candN q k s b)
  generalize hcd:candN q k s b = cd at *
  have Hcd:=Lib.hid hcd
  clear hcd Hcdx
  have hsz5:=LB5.size
  by_cases hlt:b < 256
  ·have hb1:(0:Int)≤(b:Int):=by omega
   have hb2:(b:Int) < 256:=by omega
   obtain ⟨z0,z1',z2',_⟩:=HCk.out b hlt
   rw [Hn.out] at z1'
   obtain ⟨_,_,j1,j2,Q1',Q2',HL',HM'⟩:=HX.out wr LB5
   obtain ⟨h1,q1,rfl,hh1,r1⟩:=cell_at (d:=0) Q1' b hlt
   have hnx:(q.next.getD s []).getD b 0 = q.nx s b:=rfl
   rw [hnx] at r1
   by_cases hneg:q.nx s b < 0
   ·have Hc:=Lib.hid (show candN q k s (b + 1) = cd by rw [Hsuc.out,candB_neg hneg,List.append_nil])
    generalize q.nx s b = z at *
    go_wp2
    go_roundw
    case rel => exact ⟨b + 1,by omega,by go_num,by rw [Hc.out],by rw [Hc.out],K5,LB5⟩
    case measure => simp [intOf]; omega
   ·obtain ⟨z,hz⟩:∃ z:Nat,q.nx s b = (z:Int):=⟨_,(Int.toNat_of_nonneg (by omega)).symm⟩
    have hzn:z < n:=by omega
    have HZ:=Lib.hid hz
    rw [hz] at r1 hneg
    have hzi1:(0:Int)≤(z:Int):=by omega
    have hzi2:(z:Int) < (n:Int):=by omega
    obtain ⟨gm,om,rfl,hgm,u1⟩:=rowV_cell HM' z hzn
    rcases hsome:k.some z with _ | _
    ·rw [hsome] at u1
     have Hc:=Lib.hid (show candN q k s (b + 1) = cd by rw [Hsuc.out,candB_dead HZ.out hsome,List.append_nil])
     clear hz hsome
     go_wp2
     go_roundw
     case rel => exact ⟨b + 1,by omega,by go_num,by rw [Hc.out],by rw [Hc.out],K5,LB5⟩
     case measure => simp [intOf]; omega
    ·rw [hsome] at u1
     have Hc:=Lib.hid (show candN q k s (b + 1) = cd ++ [q.os s b ++ k.l z] by rw [Hsuc.out,candB_one HZ.out hsome])
     obtain ⟨gl,ol,rfl,hgl,u2⟩:=rowV_cell HL' z hzn
     obtain ⟨h2,q2,rfl,hh2,r2⟩:=cell_at (d:=ByteArray.empty) Q2' b hlt
     have hos:(q.outs.getD s []).getD b ByteArray.empty = q.os s b:=rfl
     rw [hos] at r2
     have hlz:=hl z
     generalize k.l z = lz at *
     generalize q.os s b = ot at *
     have hmx:ot.size + lz.size≤9223372036854775807:=by omega
     have k2:=cell_regrown (K5.cell 2)
     have j2':=cell_regrown j2
     have r2':=cell_regrown r2
     have u2':=cell_regrown u2
     clear hz hsome
     go_wp2
     refine wp_region_quiet_below (by kernel_rfl) (by kernel_rfl) ?_
     repeat (go_big_quiet_step (fail))
     refine wpQuiet_nil ?_
     intro w6 hw6
     have K6:=K5.below (below_of hw6) K5.lt
     have LB6:=LB5.trans ((below_of hw6).mono hsz5)
     clear hw6 K5 LB5 k2 j2 j2' r2 r2' u2 u2' u1 r1 j1
     generalize hgg:ot ++ lz = gg at *
     have hgs:gg.size≤100004096:=by
      have h1:=(HCk.out b hlt).2.2.1
      have e:=congrArg List.length (bl_app ot lz)
      rw [bl_len,List.length_append,bl_len,bl_len,hgg] at e
      have:=Hsm.out
      omega
     generalize hkn:(!cd.isEmpty) = kn at *
     rcases kn with _ | _
     ·have hcd0:cd = []:=by simpa using hkn
      subst hcd0
      clear hkn
      go_wp2
      go_roundw
      case rel => exact ⟨b + 1,by omega,by go_num,by rw [Hc.out]; rfl,by rw [Hc.out]; rfl,K6,LB6⟩
      case measure => simp [intOf]; omega
     ·have hcne:cd≠[]:=by simpa using hkn
      clear hkn
      have hlen2:(lcpA cd).size≤100004096:=by have:=Hsz.out; omega
      have Hl2:=Lib.hid (show lcpA (cd ++ [gg]) = lcpB (lcpA cd) [gg] by rw [lcpA_snoc,if_neg hcne]; rfl)
      generalize lcpA cd = ff at *
      have LA:=(Below.refl w6.heap.size w6).alloc (Nat.le_refl _) (.cells #[.string ff,.string gg] 9)
      have hrd:=reads_allocK w6 [.string ff,.string gg] 9 1 2 rfl
      have hlc:=lcp_cons (some ⟨w6.heap.size,0,none⟩) 2 ff [gg] (w6.alloc (.cells #[.string ff,.string gg] 9)) (hrd.more (by simp)) (fun x hx => by
       unfold maxLen
       rcases List.mem_cons.1 hx with rfl | hx
       ·omega
       ·rw [List.mem_singleton] at hx; subst hx; omega) (Nat.le_refl _) (by unfold maxLen; decide)
      have HLc:=Lib.hid hlc
      have K7:=K6.below LA K6.lt
      have LB7:=LB6.trans (LA.mono LB6.size)
      clear hlc hrd K6 LB6 LA
      go_wp2_with fail
      refine HLc.out.mono ?_
      rintro e w8 ⟨rfl,hb8⟩
      have K8:=K7.below hb8 K7.lt
      have LB8:=LB7.trans (hb8.mono LB7.size)
      clear K7 LB7 hb8
      go_wp2
      go_roundw
      case rel => exact ⟨b + 1,by omega,by go_num,by rw [Hc.out,Hl2.out],by rw [Hc.out]; simp,K8,LB8⟩
      case measure => simp [intOf]; omega
  ·obtain rfl:b = 256:=by omega
   have HF:=Lib.hid (show Gives (.string (lcpA (cand q k s))) w (.returned (.string (lcpA cd))) wr from ⟨by rw [show cand q k s = cd from Hcd.out],LB5⟩)
   go_wp2
   exact bodyPost_ret (v:=.string (lcpA cd)) (by simp [results,Tryz.results101,go_sem]) rfl HF.out
end Go.Proofs.YtcondkihpmmnnaaGreatDoor
