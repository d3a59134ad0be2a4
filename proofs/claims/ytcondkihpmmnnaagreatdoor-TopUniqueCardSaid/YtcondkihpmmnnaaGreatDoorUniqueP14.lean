/- Lemmas, part 14 of 39. No condition. -/
import Derived.Test.YtcondkihpmmnnaaGreatDoorUniqueP12
import Derived.Test.YtcondkihpmmnnaaGreatDoorUniqueP03
import Derived.Test.YtcondkihpmmnnaaGreatDoorUniqueP06
namespace Go.Proofs.YtcondkihpmmnnaaGreatDoor
open Go.RowKit Go.Sort
theorem BackW.fst {w wr:World} {cs:Array Value} {G:Nat} {n:Int} {A1 A2 A3:Option Addr} {k1 k2 k3 c1 c2 c3:Nat} {S E:List Tp} {A:List Ar}
    (h:BackW w wr cs G n (.slice A1 k1 c1) (.slice A2 k2 c2) (.slice A3 k3 c3) S E A) (hn:-9223372036854775808≤n∧n≤9223372036854775807) (t:Fs) (ht:t.n = n∧t.starts = S∧t.ends = E∧t.arcs = A)
    (hS:∀ x∈S,TpW x) (hE:∀ x∈E,TpW x) (hA:∀ x∈A,ArW x):FstAt wr wr.heap.size t (.agg #[.int .i64 n,.slice A1 k1 c1,.slice A2 k2 c2,.slice A3 k3 c3]):=by
 obtain ⟨B1,d1,e1,u1,m1,_⟩:=own_form h.oS
 obtain ⟨B2,d2,e2,u2,m2,_⟩:=own_form h.oE
 obtain ⟨B3,d3,e3,u3,m3,_⟩:=own_form h.oA
 injection e1 with e1 f1 g1
 injection e2 with e2 f2 g2
 injection e3 with e3 f3 g3
 subst e1 f1 g1 e2 f2 g2 e3 f3 g3
 obtain ⟨t1,t2,t3,t4⟩:=ht
 obtain ⟨tn,ts,te,ta⟩:=t
 simp only at t1 t2 t3 t4
 subst t1 t2 t3 t4
 exact ⟨A1,c1,A2,c2,A3,c3,rfl,u1,u2,u3,m1,m2,m3,hn.1,hn.2,Reads.of_own h.oS,hS,Reads.of_own h.oE,hE,Reads.of_own h.oA,hA⟩
theorem FstAt.freshSet4 {w:World} {B0:Nat} {t:Fs} {v:Value} (h:FstAt w w.heap.size t v) (hf:FstNew B0 v) {g:Nat} (hg:g < B0) (a b c d:Value) :
    FstAt ((((w.setCell ⟨g,0,none⟩ a).setCell ⟨g,1,none⟩ b).setCell ⟨g,2,none⟩ c).setCell ⟨g,3,none⟩ d) ((((w.setCell ⟨g,0,none⟩ a).setCell ⟨g,1,none⟩ b).setCell ⟨g,2,none⟩ c).setCell ⟨g,3,none⟩ d).heap.size t v:=by
 have:=(((h.freshSet hf (p:=⟨g,0,none⟩) hg a).freshSet hf (p:=⟨g,1,none⟩) hg b).freshSet hf (p:=⟨g,2,none⟩) hg c).freshSet hf (p:=⟨g,3,none⟩) hg d
 simpa using this
def SeqW (q:SeqM):Prop:=q.front.size≤maxLen∧(∀ r∈q.next,∀ z∈r,-9223372036854775808≤z∧z≤9223372036854775807)∧(∀ r∈q.outs,∀ s∈r,s.size≤maxLen)∧(∀ s∈q.tail,s.size≤maxLen)
theorem SeqW.tl {q:SeqM} (h:SeqW q) (s:Nat):(q.tl s).size≤maxLen:=by
 unfold SeqM.tl
 rw [List.getD_eq_getElem?_getD]
 rcases hh:q.tail[s]? with _ | x
 ·exact Nat.zero_le _
 ·exact h.2.2.2 _ (List.mem_of_getElem? hh)
theorem SeqW.os {q:SeqM} (h:SeqW q) (s b:Nat):(q.os s b).size≤maxLen:=by
 unfold SeqM.os
 rw [List.getD_eq_getElem?_getD (l:=q.outs.getD s [])]
 rcases hh:(q.outs.getD s [])[b]? with _ | x
 ·exact Nat.zero_le _
 ·have hm:q.outs.getD s []∈q.outs:=by
    rw [List.getD_eq_getElem?_getD]
    rcases h2:q.outs[s]? with _ | y
    ·rw [List.getD_eq_getElem?_getD,h2] at hh; cases hh
    ·exact List.mem_of_getElem? h2
  exact h.2.2.1 _ hm _ (List.mem_of_getElem? hh)
theorem SeqW.nx {q:SeqM} (h:SeqW q) (s b:Nat):-9223372036854775808≤q.nx s b∧q.nx s b≤9223372036854775807:=by
 unfold SeqM.nx
 rw [List.getD_eq_getElem?_getD (l:=q.next.getD s [])]
 rcases hh:(q.next.getD s [])[b]? with _ | x
 ·decide
 ·have hm:q.next.getD s []∈q.next:=by
    rw [List.getD_eq_getElem?_getD]
    rcases h2:q.next[s]? with _ | y
    ·rw [List.getD_eq_getElem?_getD,h2] at hh; cases hh
    ·exact List.mem_of_getElem? h2
  exact h.2.1 _ hm _ (List.mem_of_getElem? hh)
theorem ck_parts {q:SeqM} (h:ckB q = true):q.next.length≤1024∧q.outs.length = q.next.length∧q.ends.length = q.next.length∧q.tail.length = q.next.length∧q.front.size≤4096∧∀ s,s < q.next.length→(q.next.getD s []).length = 256∧(q.outs.getD s []).length = 256:=by
 unfold ckB at h
 simp only [Bool.and_eq_true,Bool.or_eq_true,decide_eq_true_eq,List.all_eq_true] at h
 obtain ⟨⟨⟨⟨⟨⟨h1,h2⟩,h3⟩,h4⟩,h5⟩,h6⟩,h7⟩:=h
 refine ⟨h1,h2,h3,h4,h5,fun s hs => ?_⟩
 have:=h7 s (List.mem_range.2 hs)
 unfold stB rowB at this
 simp only [Bool.and_eq_true,decide_eq_true_eq] at this
 exact ⟨this.2.1.1,this.2.1.2⟩
end Go.Proofs.YtcondkihpmmnnaaGreatDoor
namespace Go.Proofs.YtcondkihpmmnnaaGreatDoor
open Go.RowKit Go.Sort
theorem bld_below {B b:Nat} {bs:List Value} {w w':World} (h:BldF B b bs w) (hb:Below w.heap.size w w'):BldF B b bs w':=by
 have key:∀ p,Lib.BuilderAtF 83 5 B b p bs w→Lib.BuilderAtF 83 5 B b p bs w':=by
  rintro p ⟨h1,v,h2,⟨h3,h4⟩,h5⟩
  have lt:∀ g o,w.heap[g]? = some o→w'.heap[g]? = some o:=fun g o hg => by
   have:g < w.heap.size:=by
    rcases Nat.lt_or_ge g w.heap.size with h | h
    ·exact h
    ·rw [Array.getElem?_eq_none h] at hg; cases hg
   exact (hb.block g this).trans hg
  refine ⟨h1,v,lt _ _ h2,⟨h3,?_⟩,h5⟩
  rcases h4 with h | ⟨g,cap,cur,fz,a1,a2,a3,a4⟩
  ·exact .inl h
  ·exact .inr ⟨g,cap,cur,fz,a1,a2,lt _ _ a3,a4⟩
 rcases h with h | h
 ·exact .inl (key _ h)
 ·exact .inr (key _ h)
theorem bld_lt {B b:Nat} {bs:List Value} {w:World} (h:BldF B b bs w):b < w.heap.size:=by
 rcases h with h | h <;> exact h.lt
structure AppW (w wr:World) (cs:Array Value) (b:Nat) (acc:List UInt8):Prop where
 box:Blk wr w.heap.size 27 cs
 bld:BldF b b (Lib.byteCells acc) wr
 gt:w.heap.size < b
 bel:Below w.heap.size w wr
theorem AppW.call {w wr w':World} {cs:Array Value} {b:Nat} {acc:List UInt8} (h:AppW w wr cs b acc) (hb:Below wr.heap.size wr w'):AppW w w' cs b acc :=
 have h1:=bld_lt h.bld
 have h2:=h.gt
 ⟨h.box.below hb (by omega),bld_below h.bld hb,h.gt,h.bel.trans (hb.mono (by omega))⟩
theorem AppW.write {w wr w':World} {cs:Array Value} {b:Nat} {acc:List UInt8} (h:AppW w wr cs b acc) (s:ByteArray) (hs:BldF b b (Lib.byteCells acc ++ Lib.strCells s) w') (hb:Below b wr w'):AppW w w' cs b (acc ++ bl s) :=
 ⟨h.box.below hb h.gt,by rw [Lib.byteCells_append]; exact hs,h.gt,h.bel.trans (hb.mono (Nat.le_of_lt h.gt))⟩
def ApplyPost (q:SeqM) (t:ByteArray) (w:World) (e:Ending) (w':World):Prop :=
 ∃ (o:ByteArray) (k:Int) (b:Bool) (r:Int),e = .returned (.tuple #[.string o,.int .i64 k,.bool b,.int .i64 r])∧Below w.heap.size w w'∧o.size≤4096 * (t.size + 2) ∧
  (ckB q = false→r = 1)∧(ckB q = true→r = 0∧q.run (bl t) = if b = true then some (bl o) else none)∧(b = false→o = ByteArray.empty)
theorem apply_no {q:SeqM} {t:ByteArray} {w w':World} (k:Int) (hb:Below w.heap.size w w') (h1:ckB q = true) (h2:q.run (bl t) = none):ApplyPost q t w (.returned (.tuple #[.string ByteArray.empty,.int .i64 k,.bool false,.int .i64 0])) w' :=
 ⟨_,k,false,0,rfl,hb,Nat.zero_le _,(fun h => by rw [h1] at h; cases h),(fun _ => ⟨rfl,h2⟩),(fun _ => rfl)⟩
theorem runL_cons (q:SeqM) (s:Nat) (b:UInt8) (l:List UInt8):q.runL s (b :: l) = if q.nx s b.toNat < 0 then none else (q.runL (q.nx s b.toNat).toNat l).map ((q.os s b.toNat).data.toList ++ ·):=rfl
theorem runL_nil (q:SeqM) (s:Nat):q.runL s [] = if q.en s = true then some (q.tl s).data.toList else none:=rfl
theorem drop_at (t:ByteArray) (k:Nat) (h:k < t.size):(bl t).drop k = t[k] :: (bl t).drop (k + 1):=by
 have:=List.drop_eq_getElem_cons (l:=bl t) (i:=k) h
 rw [this]
 rfl
theorem ck_sizes {q:SeqM} (h:ckB q = true):∀ s,s < q.next.length→(q.tl s).size≤4096∧∀ b,b < 256→q.nx s b < q.next.length∧(q.os s b).size≤4096:=by
 unfold ckB at h
 simp only [Bool.and_eq_true,Bool.or_eq_true,decide_eq_true_eq,List.all_eq_true] at h
 obtain ⟨_,h7⟩:=h
 intro s hs
 have:=h7 s (List.mem_range.2 hs)
 unfold stB rowB entB at this
 simp only [Bool.and_eq_true,Bool.or_eq_true,decide_eq_true_eq,List.all_eq_true] at this
 obtain ⟨⟨a1,_⟩,_,a3⟩:=this
 refine ⟨a1,fun b hb => ?_⟩
 obtain ⟨⟨⟨_,b2⟩,b3⟩,_⟩:=a3 b (List.mem_range.2 hb)
 exact ⟨b2,b3⟩
end Go.Proofs.YtcondkihpmmnnaaGreatDoor
namespace Go.Proofs.YtcondkihpmmnnaaGreatDoor
open Go.RowKit Go.Sort
set_option maxRecDepth 100000 in
set_option maxHeartbeats 8000000 in
theorem apply_any (q:SeqM) (v:Value) (B:Nat) (t:ByteArray) (w:World) (HS:SeqAt w B q v) (hB:B≤w.heap.size) (ht:t.size≤100000000) :
    Calls Tryz.prog 11 #[v,.string t] w (ApplyPost q t w):=by
 have hck:∀ W,Below B w W→B≤W.heap.size→Calls Tryz.prog 18 #[v] W (Gives (.int .i64 (okE (ckB q))) W):=fun W hb hz => by
  refine seqCheck_any q v B W ?_ hz
  obtain ⟨A1,c1,A2,c2,A3,c3,A4,c4,rfl,hf,l1,l2,l3,l4,m1,m2,m3,m4,R1,hz,R2,hs,R3,R4,ht⟩:=HS
  exact ⟨A1,c1,A2,c2,A3,c3,A4,c4,rfl,hf,l1,l2,l3,l4,m1,m2,m3,m4,R1.below hb,hz,R2.below hb,hs,R3.below hb,R4.below hb,ht⟩
 obtain ⟨A1,c1,A2,c2,A3,c3,A4,c4,rfl,hf,l1,l2,l3,l4,m1,m2,m3,m4,R1,hz,R2,hs,R3,R4,htl⟩:=HS
 have B0:Below B w (w.alloc (.cells #[.string q.front,.slice A1 q.next.length c1,.slice A2 q.outs.length c2,.slice A3 q.ends.length c3,.slice A4 q.tail.length c4] 27)):=(Below.refl _ w).alloc hB _
 have hck0:=hck _ B0 (by simp; omega)
 rcases hcq:ckB q with _ | _
 ·rw [hcq] at hck0
  replace hck0:Calls Tryz.prog 18 _ _ (Gives (.int .i64 1) _):=hck0
  have hp:=Lib.hid (fun w' (hb:Below w.heap.size w w') => show ApplyPost q t w (.returned (.tuple #[.string ByteArray.empty,.int .i64 0,.bool false,.int .i64 1])) w' from ⟨_,0,false,1,rfl,hb,Nat.zero_le _,(fun _ => rfl),(fun h => by rw [hcq] at h; cases h),(fun _ => rfl)⟩)
  clear hck R1 R2 R3 R4 hz hs htl hcq B0
  generalize q.next.length = n1 at *
  generalize q.outs.length = n2 at *
  generalize q.ends.length = n3 at *
  generalize q.tail.length = n4 at *
  generalize q.front = fr at *
  go_enter Tryz.func11,Tryz.ntmps11
  go_wp2_with fail
  refine hck0.mono ?_
  rintro e w1 ⟨rfl,HB1⟩
  go_wp2
  exact bodyPost_ret (v:=.tuple #[.string ByteArray.empty,.int .i64 0,.bool false,.int .i64 1]) (by simp [results,Tryz.results11,go_sem]; rfl) rfl (hp.out _ (((Below.refl _ w).alloc (Nat.le_refl _) _).trans (HB1.mono (by simp))))
 ·rw [hcq] at hck0
  replace hck0:Calls Tryz.prog 18 _ _ (Gives (.int .i64 0) _):=hck0
  clear hck B0
  obtain ⟨p1,p2,p3,p4,p5,p6⟩:=ck_parts hcq
  have HP6:=Lib.hid p6
  have HSZ:=Lib.hid (ck_sizes hcq)
  have hno:=Lib.hid (fun w' (k:Int) (hb:Below w.heap.size w w') (h2:q.run (bl t) = none) => apply_no (q:=q) (t:=t) k hb hcq h2)
  have hyes:=Lib.hid (fun w' (o:ByteArray) (k:Int) (hb:Below w.heap.size w w') (h2:q.run (bl t) = some (bl o)) (hz:o.size≤4096 * (t.size + 2)) => show ApplyPost q t w (.returned (.tuple #[.string o,.int .i64 k,.bool true,.int .i64 0])) w' from ⟨o,k,true,0,rfl,hb,hz,(fun h => by rw [hcq] at h; cases h),(fun _ => ⟨rfl,h2⟩),(fun h => by cases h)⟩)
  have hrun:=Lib.hid (show q.run (bl t) = if q.next.length = 0 then none else (q.runL 0 (bl t)).map (bl q.front ++ ·) from rfl)
  have hW:=Lib.hid (show SeqW q from ⟨hf,hz,hs,htl⟩)
  have R1':=R1.more hB
  have R2':=R2.more hB
  have R3':=R3.more hB
  have R4':=R4.more hB
  clear R1 R2 R3 R4 p6 hs hz htl hcq
  rw [p2] at hck0 l2 R2' ⊢
  rw [p3] at hck0 l3 R3' ⊢
  rw [p4] at hck0 l4 R4' ⊢
  generalize hn:q.next.length = n at *
  have Hn:=Lib.hid hn
  clear hn p2 p3 p4
  unfold maxLen at hf m1 m2 m3 m4
  rcases Nat.eq_zero_or_pos n with hn0 | hn0
  ·have hr:q.run (bl t) = none:=by rw [hrun.out,if_pos hn0]
   have HR:=Lib.hid hr
   clear hr
   generalize q.front = fr at *
   subst hn0
   go_enter Tryz.func11,Tryz.ntmps11
   go_wp2_with fail
   refine hck0.mono ?_
   rintro e w1 ⟨rfl,HB1⟩
   have K:=(Blk.new w 27 #[.string fr,.slice A1 0 c1,.slice A2 0 c2,.slice A3 0 c3,.slice A4 0 c4]).below HB1 (by simp)
   have k1:=K.cell 1
   go_wp2
   exact bodyPost_ret (v:=.tuple #[.string ByteArray.empty,.int .i64 0,.bool false,.int .i64 0]) (by simp [results,Tryz.results11,go_sem]; rfl) rfl (hno.out _ 0 (((Below.refl _ w).alloc (Nat.le_refl _) _).trans (HB1.mono (by simp))) HR.out)
  ·have hr:q.run (bl t) = (q.runL 0 (bl t)).map (bl q.front ++ ·):=by rw [hrun.out,if_neg (by omega)]
   have HR:=Lib.hid hr
   clear hr hrun
   have e1:((n:Int) == 0) = false:=by simp; omega
   generalize q.front = fr at *
   go_enter Tryz.func11,Tryz.ntmps11
   go_wp2_with fail
   refine hck0.mono ?_
   rintro e w1 ⟨rfl,HB1⟩
   clear hck0
   have K:=(Blk.new w 27 #[.string fr,.slice A1 n c1,.slice A2 n c2,.slice A3 n c3,.slice A4 n c4]).below HB1 (by simp)
   have L1:=((Below.refl _ w).alloc (Nat.le_refl _) (.cells #[.string fr,.slice A1 n c1,.slice A2 n c2,.slice A3 n c3,.slice A4 n c4] 27)).trans (HB1.mono (by simp))
   have hz1:w.heap.size < w1.heap.size:=K.lt
   have HW0:AppW w (w1.alloc (.cells #[.pointer none,.slice none 0 0] 83)) #[.string fr,.slice A1 n c1,.slice A2 n c2,.slice A3 n c3,.slice A4 n c4] w1.heap.size [] :=
    ⟨K.alloc _,.inl ⟨Nat.le_refl _,.slice none 0 0,heap_alloc_new w1 _,World.ownsRowF_of (World.ownsRow_nil _ _ _ _),by simp [Value.ownBlock]⟩,hz1,L1.alloc (by omega) _⟩
   have k0:=K.cell 0
   have k1:=K.cell 1
   have b0:=HW0.box.cell 0
   have b1:=HW0.box.cell 1
   clear HB1 K L1
   go_wp2_with fail
   refine (writeString_any w1.heap.size w1.heap.size (Lib.byteCells []) fr _ HW0.bld (by simp [Lib.byteCells]; omega) (by simp)).mono ?_
   rintro e w2 ⟨rfl,hbd,hbw,_⟩
   have HW1:=HW0.write fr hbd hbw
   clear HW0 hbd hbw k0 k1 b0 b1
   have u1:=HW1.box.cell 1
   go_wp2
   clear u1
   go_loopw [9,24] (fun sv i wr => ∃ (s k:Nat) (acc rest:List UInt8),s < n∧k≤t.size∧sv = .int .i64 (s:Int)∧i = .int .i64 (k:Int)∧AppW w wr #[.string fr,.slice A1 n c1,.slice A2 n c2,.slice A3 n c3,.slice A4 n c4] w1.heap.size acc∧acc.length≤4096 * (k + 1)∧acc = bl fr ++ rest∧q.runL 0 (bl t) = (q.runL s ((bl t).drop k)).map (rest ++ ·)) (fun _ i _ => t.size - (intOf i).toNat)
   case atStart => exact ⟨0,0,_,[],hn0,Nat.zero_le _,rfl,rfl,HW1,by simp only [List.nil_append,bl_len]; omega,by simp,by simp⟩
   case round =>
    clear HW1
    obtain ⟨s,k,acc,rest,hsn,hk,rfl,rfl,HA,hal,hacc,hru⟩:=hrel
    have hg:=HA.gt
    have hgz:=bld_lt HA.bld
    have hi1:(0:Int)≤(s:Int):=by omega
    have hi2:(s:Int) < (n:Int):=by omega
    have hlen:=HP6.out s hsn
    obtain ⟨hsz1,hsz2⟩:=HSZ.out s hsn
    have hacc2:=Lib.hid hacc
    have hru2:=Lib.hid hru
    clear hacc hru
    by_cases hkl:k < t.size
    ·have hj1:(0:Int)≤(k:Int):=by omega
     have hj2:(k:Int) < (t.size:Int):=by omega
     have e1:(q.next.map fun r => r.map (Value.int .i64)).getD s [] = (q.next.getD s []).map (Value.int .i64):=by
      rw [List.getD_eq_getElem?_getD,List.getD_eq_getElem?_getD,List.getElem?_map]
      cases q.next[s]? <;> rfl
     have e2:(q.outs.map fun r => r.map Value.string).getD s [] = (q.outs.getD s []).map Value.string:=by
      rw [List.getD_eq_getElem?_getD,List.getD_eq_getElem?_getD,List.getElem?_map]
      cases q.outs[s]? <;> rfl
     obtain ⟨g1,o1,A1',d1,rfl,hg1,x1,Q1,y1,z1⟩:=R1'.at_ s hsn
     obtain ⟨g2,o2,A2',d2,rfl,hg2,x2,Q2,y2,z2⟩:=R2'.at_ s hsn
     rw [e1] at x1 Q1 y1
     rw [e2] at x2 Q2 y2
     simp only [List.length_map] at x1 x2 Q1 Q2 y1 y2
     rw [hlen.1] at x1 Q1 y1
     rw [hlen.2] at x2 Q2 y2
     have hb256:t[k].toNat < 256:=t[k].toNat_lt
     obtain ⟨h1,q1',rfl,hh1,r1⟩:=cell_at (d:=0) Q1 t[k].toNat hb256
     obtain ⟨h2,q2',rfl,hh2,r2⟩:=cell_at (d:=ByteArray.empty) Q2 t[k].toNat hb256
     have hnx:(q.next.getD s []).getD t[k].toNat 0 = q.nx s t[k].toNat:=rfl
     have hos:(q.outs.getD s []).getD t[k].toNat ByteArray.empty = q.os s t[k].toNat:=rfl
     rw [hnx] at r1
     rw [hos] at r2
     have hdr:=drop_at t k hkl
     have hrc:=runL_cons q s t[k] ((bl t).drop (k + 1))
     have hzz:=hsz2 _ hb256
     have Hdr:=Lib.hid hdr
     have Hrc:=Lib.hid hrc
     clear e1 e2 hlen hnx hos hdr hrc hsz2 Q1 Q2
     have c1':=cell_regrown (HA.box.cell 1)
     have c2':=cell_regrown ((HA.bel.cell (p:=⟨g1,o1 + s,none⟩) hg1).trans x1)
     have c3':=cell_regrown ((HA.bel.cell (p:=⟨h1,q1' + t[k].toNat,none⟩) hh1).trans r1)
     have hbi:(0:Int)≤(t[k].toNat:Int):=by omega
     have hbj:(t[k].toNat:Int) < (256:Int):=by omega
     generalize q.nx s t[k].toNat = z at *
     generalize q.os s t[k].toNat = ot at *
     go_wp2
     refine wp_region_quiet_below (by kernel_rfl) (by kernel_rfl) ?_
     repeat (go_big_quiet_step (fail))
     refine wpQuiet_nil ?_
     intro w5 hw5
     have HB5:=below_of hw5
     have HA5:=HA.call HB5
     clear hw5 c1' c2' c3' HB5 HA
     by_cases hz0:z < 0
     ·have hn:q.run (bl t) = none:=by rw [HR.out,hru2.out,Hdr.out,Hrc.out,if_pos hz0]; rfl
      have HN:=Lib.hid hn
      have hbl:=HA5.bel
      clear hn HA5
      go_wp2
      exact bodyPost_ret (v:=.tuple #[.string ByteArray.empty,.int .i64 (k:Int),.bool false,.int .i64 0]) (by simp [results,Tryz.results11,go_sem]; rfl) rfl (hno.out _ (k:Int) hbl HN.out)
     ·have d1':=cell_regrown (HA5.box.cell 2)
      have d2':=cell_regrown ((HA5.bel.cell (p:=⟨g2,o2 + s,none⟩) hg2).trans x2)
      have d3':=cell_regrown ((HA5.bel.cell (p:=⟨h2,q2' + t[k].toNat,none⟩) hh2).trans r2)
      have hz1':(0:Int)≤z:=by omega
      have hgz5:=bld_lt HA5.bld
      go_wp2
      refine wp_region_tail_below 10 (by kernel_rfl) (by kernel_rfl) ?_
      simp only [List.take_succ_cons,List.take_zero,List.drop_succ_cons,List.drop_zero]
      repeat (go_big_quiet_step (fail))
      refine wpQuiet_nil ?_
      intro w6 hw6
      have HA6:=HA5.call (below_of hw6)
      clear hw6 d1' d2' d3' HA5
      go_wp2_with fail
      refine (writeString_any w1.heap.size w1.heap.size (Lib.byteCells acc) ot _ HA6.bld (by rw [Lib.byteCells_length]; omega) (Nat.le_of_lt (bld_lt HA6.bld))).mono ?_
      rintro e w7 ⟨rfl,hbd,hbw,_⟩
      have HA7:=HA6.write ot hbd hbw
      clear HA6 hbd hbw
      go_wp2
      go_roundw
      case rel =>
       refine ⟨z.toNat,k + 1,acc ++ bl ot,rest ++ bl ot,by omega,by omega,by rw [Int.toNat_of_nonneg hz1'],by go_num,HA7,?_,?_,?_⟩
       ·rw [List.length_append,bl_len]; omega
       ·rw [hacc2.out,List.append_assoc]
       ·rw [hru2.out,Hdr.out,Hrc.out,if_neg (by omega),Option.map_map]
        congr 1
        funext l
        simp [bl]
      case measure => simp [intOf]; omega
    ·have ek:k = t.size:=by omega
     obtain ⟨g3,o3,rfl,hg3,x3⟩:=cell_at (d:=false) R3' s hsn
     obtain ⟨g4,o4,rfl,hg4,x4⟩:=cell_at (d:=ByteArray.empty) R4' s hsn
     have hen:q.ends.getD s false = q.en s:=rfl
     have htl:q.tail.getD s ByteArray.empty = q.tl s:=rfl
     rw [hen] at x3
     rw [htl] at x4
     have hrn:=runL_nil q s
     have hdn:(bl t).drop k = []:=by rw [ek]; exact List.drop_of_length_le (Nat.le_refl _)
     have Hrn:=Lib.hid hrn
     have Hdn:=Lib.hid hdn
     have b3:=HA.box.cell 3
     have b4:=HA.box.cell 4
     replace x3:=(HA.bel.cell (p:=⟨g3,o3 + s,none⟩) hg3).trans x3
     clear hen htl hrn hdn hsz2 hlen
     rcases hen:q.en s with _ | _
     ·rw [hen] at x3
      have hn:q.run (bl t) = none:=by rw [HR.out,hru2.out,Hdn.out,Hrn.out,hen]; rfl
      have HN:=Lib.hid hn
      have hbl:=HA.bel
      clear hn hen HA
      go_wp2
      exact bodyPost_ret (v:=.tuple #[.string ByteArray.empty,.int .i64 (t.size:Int),.bool false,.int .i64 0]) (by simp [results,Tryz.results11,go_sem]; rfl) rfl (hno.out _ (t.size:Int) hbl HN.out)
     ·rw [hen] at x3
      have x4':=(HA.bel.cell (p:=⟨g4,o4 + s,none⟩) hg4).trans x4
      have hn:q.run (bl t) = some (acc ++ bl (q.tl s)):=by
       rw [HR.out,hru2.out,Hdn.out,Hrn.out,hen,hacc2.out]
       simp [bl]
      have HN:=Lib.hid hn
      clear hn hen
      generalize q.tl s = tl at *
      go_wp2_with fail
      refine (writeString_any w1.heap.size w1.heap.size (Lib.byteCells acc) tl _ HA.bld (by rw [Lib.byteCells_length]; omega) (Nat.le_of_lt (bld_lt HA.bld))).mono ?_
      rintro e w7 ⟨rfl,hbd,hbw,_⟩
      have HA7:=HA.write tl hbd hbw
      clear HA hbd hbw b3 b4 x3 x4'
      go_wp2_with fail
      refine (Tryz.Builder_String_any_k w1.heap.size w1.heap.size (acc ++ bl tl) _ HA7.bld (Nat.le_of_lt (bld_lt HA7.bld))).mono ?_
      rintro e w8 ⟨rfl,_,hbw,_⟩
      have hbl:=HA7.bel.trans (hbw.mono (Nat.le_of_lt hg))
      have hz8:(ByteArray.mk (acc ++ bl tl).toArray).size≤4096 * (t.size + 2):=by
       show (acc ++ bl tl).toArray.size≤_
       rw [List.size_toArray,List.length_append,bl_len]
       omega
      have HZ8:=Lib.hid hz8
      clear HA7 hbw hz8
      generalize acc ++ bl tl = l at *
      go_wp2
      exact bodyPost_ret (v:=.tuple #[.string ⟨l.toArray⟩,.int .i64 (t.size:Int),.bool true,.int .i64 0]) (by simp [results,Tryz.results11,go_sem]) rfl (hyes.out _ ⟨l.toArray⟩ (t.size:Int) hbl HN.out HZ8.out)
end Go.Proofs.YtcondkihpmmnnaaGreatDoor
