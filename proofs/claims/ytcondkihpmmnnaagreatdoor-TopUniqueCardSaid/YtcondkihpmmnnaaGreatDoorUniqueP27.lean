/- Lemmas, part 27 of 39. No condition. -/
import Derived.Test.YtcondkihpmmnnaaGreatDoorUniqueP08
import Derived.Test.YtcondkihpmmnnaaGreatDoorUniqueP26
import Derived.Test.YtcondkihpmmnnaaGreatDoorUniqueP03
namespace Go.Proofs.YtcondkihpmmnnaaGreatDoor
open Go.RowKit Go.Sort
def rowV (f:Nat→Value) (n:Nat):List Value:=(List.range n).map f
theorem rowV_at (f:Nat→Value) {n k:Nat} (h:k < n):(rowV f n)[k]? = some (f k):=by
 unfold rowV; rw [List.getElem?_map,List.getElem?_range h]; rfl
theorem rowV_len (f:Nat→Value) (n:Nat):(rowV f n).length = n:=by unfold rowV; simp
theorem rowV_set (f:Nat→Value) (n k:Nat) (v:Value) (hk:k < n):(rowV f n).set k v = rowV (fun j => if j = k then v else f j) n:=by
 apply List.ext_getElem?
 intro j
 rw [List.getElem?_set]
 by_cases hj:j < n
 ·rw [rowV_at _ hj,rowV_at _ hj]
  by_cases e:k = j
  ·subst e; rw [if_pos rfl,if_pos (by rw [rowV_len]; exact hj),if_pos rfl]
  ·rw [if_neg e,if_neg (Ne.symm e)]
 ·rw [List.getElem?_eq_none (by rw [rowV_len]; omega),List.getElem?_eq_none (by rw [rowV_len]; omega)]
  split <;> simp_all
theorem rowV_cell {w:World} {B n:Nat} {A:Option Addr} {f:Nat→Value} (HR:Reads w B 1 A n (rowV f n)) (k:Nat) (hk:k < n):∃ g o,A = some ⟨g,o,none⟩∧g < B∧w.cell? ⟨g,o + k,none⟩ = some (f k):=by
 obtain ⟨ad,e,hb,hc⟩:=HR.2 (by omega)
 have h0:=hc 0 _ (rowV_at f (by omega))
 have h00:ad.add 0 = ad:=by simp [Addr.add]
 rw [h00] at h0
 have es:=spot_none h0
 have c1:=hc k _ (rowV_at f hk)
 rw [es,add_mk] at c1
 exact ⟨ad.block,ad.off,by rw [e,← es],hb,c1⟩
theorem ckB_nx {q:SeqM} (h:ckB q = true) {s b:Nat} (hs:s < q.next.length) (hb:b < 256):-1≤q.nx s b∧q.nx s b < (q.next.length:Int)∧(q.os s b).size≤4096∧(q.nx s b = -1→q.os s b = ByteArray.empty)∧(q.tl s).size≤4096∧(q.en s = false→q.tl s = ByteArray.empty):=by
 unfold ckB at h
 simp only [Bool.and_eq_true,Bool.or_eq_true,decide_eq_true_eq,List.all_eq_true] at h
 obtain ⟨_,h7⟩:=h
 have:=h7 s (List.mem_range.2 hs)
 unfold stB rowB entB at this
 simp only [Bool.and_eq_true,Bool.or_eq_true,decide_eq_true_eq,List.all_eq_true] at this
 obtain ⟨⟨a1,a2⟩,_,a3⟩:=this
 obtain ⟨⟨⟨b1,b2⟩,b3⟩,b4⟩:=a3 b (List.mem_range.2 hb)
 have emp:∀ x:ByteArray,x.size = 0→x = ByteArray.empty:=fun x hx => bl_inj (by rw [bl_nil]; exact List.eq_nil_of_length_eq_zero (by rw [bl_len]; exact hx))
 refine ⟨b1,b2,b3,fun e => emp _ (b4.resolve_left (fun c => c e)),a1,fun e => emp _ (a2.resolve_left (fun c => ?_))⟩
 have:q.en s = true:=c
 rw [e] at this; cases this
end Go.Proofs.YtcondkihpmmnnaaGreatDoor
namespace Go.Proofs.YtcondkihpmmnnaaGreatDoor
open Go.RowKit Go.Sort
theorem SeqAt.cells {w:World} {B:Nat} {q:SeqM} {v:Value} (h:SeqAt w B q v):∃ c0 c1 c2 c3 c4,v = .agg #[c0,c1,c2,c3,c4]:=by
 obtain ⟨A1,c1,A2,c2,A3,c3,A4,c4,rfl,_⟩:=h
 exact ⟨_,_,_,_,_,rfl⟩
def kL (k:Frt) (n:Nat):List Value:=rowV (fun s => .string (k.l s)) n
def kS (k:Frt) (n:Nat):List Value:=rowV (fun s => .bool (k.some s)) n
theorem candB_one {q:SeqM} {k:Frt} {s b z:Nat} (hz:q.nx s b = (z:Int)) (hs:k.some z = true):candB q k s b = [q.os s b ++ k.l z]:=by
 unfold candB
 rw [hz,Int.toNat_natCast,hs,if_neg]
 rintro (h | h)
 ·omega
 ·cases h
theorem candB_neg {q:SeqM} {k:Frt} {s b:Nat} (h:q.nx s b < 0):candB q k s b = []:=by unfold candB; rw [if_pos (.inl h)]
theorem candB_dead {q:SeqM} {k:Frt} {s b z:Nat} (hz:q.nx s b = (z:Int)) (hs:k.some z = false):candB q k s b = []:=by unfold candB; rw [if_pos (.inr (by rw [hz,Int.toNat_natCast]; exact hs))]
theorem lcpA_size {l:List ByteArray} {m:Nat} (h:∀ x∈l,x.size≤m):(lcpA l).size≤m:=by
 cases l with
 | nil => exact Nat.zero_le _
 | cons s l =>
  have:=(lcpA_prefix (l:=s :: l) (List.cons_ne_nil _ _) _).1 (List.prefix_refl _) s List.mem_cons_self
  have:=this.length_le
  rw [bl_len,bl_len] at this
  exact Nat.le_trans this (h s List.mem_cons_self)
theorem candN_size {q:SeqM} {k:Frt} {s n m:Nat} (hck:ckB q = true) (hs:s < q.next.length) (hn:n≤256) (hl:∀ z,(k.l z).size≤m):∀ x∈candN q k s n,x.size≤4096 + m:=by
 intro x hx
 unfold candN at hx
 rcases List.mem_append.1 hx with hx | hx
 ·unfold candE at hx
  split at hx
  ·rw [List.mem_singleton] at hx
   subst hx
   have:=(ckB_nx hck hs (b:=0) (by decide)).2.2.2.2.1
   omega
  ·cases hx
 ·obtain ⟨b,hb,hx⟩:=List.mem_flatMap.1 hx
  have hb:=List.mem_range.1 hb
  unfold candB at hx
  split at hx
  ·cases hx
  ·rw [List.mem_singleton] at hx
   subst hx
   have h1:=(ckB_nx hck hs (b:=b) (by omega)).2.2.1
   have h2:=hl (q.nx s b).toNat
   have e:=congrArg List.length (bl_app (q.os s b) (k.l (q.nx s b).toNat))
   rw [bl_len,List.length_append,bl_len,bl_len] at e
   omega
set_option maxRecDepth 100000 in
set_option maxHeartbeats 8000000 in
theorem front_walk (q:SeqM) (v:Value) (B s n m:Nat) (k:Frt) (Al As:Option Addr) (cl cs:Nat) (w:World) (HS:SeqAt w B q v) (hB:B≤w.heap.size) (hck:ckB q = true) (hn:q.next.length = n) (hs:s < n)
    (HL:Reads w B 1 Al n (kL k n)) (HM:Reads w B 1 As n (kS k n)) (hl:∀ z,(k.l z).size≤m) (hm:m≤100000000) :
    Calls Tryz.prog 101 #[v,.int .i64 (s:Int),.slice Al n cl,.slice As n cs] w (Gives (.string (lcpA (cand q k s))) w):=by
 obtain ⟨A1,c1,A2,c2,A3,c3,A4,c4,rfl,hf,l1,l2,l3,l4,m1,m2,m3,m4,R1,hz,R2,hsz,R3,R4,htl⟩:=HS
 obtain ⟨p1,p2,p3,p4,p5,p6⟩:=ck_parts hck
 have HP6:=Lib.hid p6
 have HCk:=Lib.hid (fun b (hb:b < 256) => ckB_nx hck (by rw [hn]; exact hs) hb)
 have HSz:=Lib.hid (fun j (hj:j≤256) => candN_size (s:=s) (n:=j) hck (by rw [hn]; exact hs) hj hl)
 rw [p2] at l2 R2 ⊢
 rw [p3] at l3 R3 ⊢
 rw [p4] at l4 R4 ⊢
 rw [hn] at p1 l1 l2 l3 l4 R1 R2 R3 R4 ⊢
 have K:=Blk.new w 27 #[.string q.front,.slice A1 n c1,.slice A2 n c2,.slice A3 n c3,.slice A4 n c4]
 have LB:=(Below.refl w.heap.size w).alloc (Nat.le_refl _) (.cells #[.string q.front,.slice A1 n c1,.slice A2 n c2,.slice A3 n c3,.slice A4 n c4] 27)
 have hi1:(0:Int)≤(s:Int):=by omega
 have hi2:(s:Int) < (n:Int):=by omega
 have en1:q.ends.getD s false = q.en s:=rfl
 have et1:q.tail.getD s ByteArray.empty = q.tl s:=rfl
 obtain ⟨g3,o3,rfl,hg3,x3⟩:=cell_at (d:=false) R3 s hs
 obtain ⟨g4,o4,rfl,hg4,x4⟩:=cell_at (d:=ByteArray.empty) R4 s hs
 rw [en1] at x3
 rw [et1] at x4
 have e1:(q.next.map fun r => r.map (Value.int .i64)).getD s [] = (q.next.getD s []).map (Value.int .i64):=by
  rw [List.getD_eq_getElem?_getD,List.getD_eq_getElem?_getD,List.getElem?_map]
  cases q.next[s]? <;> rfl
 have e2:(q.outs.map fun r => r.map Value.string).getD s [] = (q.outs.getD s []).map Value.string:=by
  rw [List.getD_eq_getElem?_getD,List.getD_eq_getElem?_getD,List.getElem?_map]
  cases q.outs[s]? <;> rfl
 obtain ⟨g1,o1,A1',d1,rfl,hg1,x1,Q1,y1,z1⟩:=R1.at_ s hs
 obtain ⟨g2,o2,A2',d2,rfl,hg2,x2,Q2,y2,z2⟩:=R2.at_ s hs
 rw [e1] at x1 Q1 y1
 rw [e2] at x2 Q2 y2
 simp only [List.length_map] at x1 x2 Q1 Q2 y1 y2
 have hlen:=HP6.out s (by rw [hn]; exact hs)
 have Hn:=Lib.hid hn
 clear p2 p3 p4
 rw [hlen.1] at x1 Q1 y1
 rw [hlen.2] at x2 Q2 y2
 have hnp:n≠q.next.length∨True:=.inr trivial
 have Hsm:=Lib.hid hm
 generalize q.front = fr at *
 have HX:=Lib.hid (fun (W:World) (hb:Below w.heap.size w W) => And.intro ((hb.cell (p:=⟨g3,o3 + s,none⟩) (by show g3 < _; omega)).trans x3) (And.intro ((hb.cell (p:=⟨g4,o4 + s,none⟩) (by show g4 < _; omega)).trans x4) (And.intro ((hb.cell (p:=⟨g1,o1 + s,none⟩) (by show g1 < _; omega)).trans x1) (And.intro ((hb.cell (p:=⟨g2,o2 + s,none⟩) (by show g2 < _; omega)).trans x2) (And.intro (Q1.below (hb.mono hB)) (And.intro (Q2.below (hb.mono hB)) (And.intro (HL.below (hb.mono hB)) (HM.below (hb.mono hB)))))))))
 have k1:=cell_regrown (K.cell 1)
 have k2:=cell_regrown (K.cell 2)
 have k3:=cell_regrown (K.cell 3)
 have k4:=cell_regrown (K.cell 4)
 obtain ⟨j3,j4,j1,j2,_⟩:=HX.out _ LB
 have j3':=cell_regrown j3
 have j4':=cell_regrown j4
 clear R1 R2 R3 R4 hz hsz htl x1 x2 x3 x4 Q1 Q2 HL HM e1 e2 en1 et1 hlen p6 hck hnp hn
 go_enter Tryz.func101,Tryz.ntmps101
 go_wp2
 refine wp_region_quiet_below (by kernel_rfl) (by kernel_rfl) ?_
 repeat (go_big_quiet_step (fail))
 refine wpQuiet_nil ?_
 intro w5 hw5
 have LB5:=LB.trans ((below_of hw5).mono (by simp))
 have K5:=K.below (below_of hw5) K.lt
 have k1:=K5.cell 1
 obtain ⟨_,_,j1,_⟩:=HX.out _ LB5
 have HK5:=Lib.hid (And.intro K5 LB5)
 have hst:Value.string (q.tl s) = .string (lcpA (candN q k s 0))∧Value.bool (q.en s) = .bool (!(candN q k s 0).isEmpty):=by
  have he:=(HCk.out 0 (by decide)).2.2.2.2.2
  unfold candN candE
  rcases hen:q.en s with _ | _
  ·rw [he hen]; exact ⟨rfl,rfl⟩
  ·exact ⟨rfl,rfl⟩
 have HSt:=Lib.hid hst
 have hlts:=K5.lt
 clear hw5 K LB K5 LB5 j3 j4 j2 j3' j4' k2 k3 k4 hst
 go_wp2
 clear k1 j1
 go_loopw [9,10,30] (fun f kn i wr => ∃ b:Nat,b≤256∧i = .int .i64 (b:Int)∧f = .string (lcpA (candN q k s b))∧kn = .bool (!(candN q k s b).isEmpty)∧Blk wr w.heap.size 27 #[.string fr,.slice (some ⟨g1,o1,none⟩) n c1,.slice (some ⟨g2,o2,none⟩) n c2,.slice (some ⟨g3,o3,none⟩) n c3,.slice (some ⟨g4,o4,none⟩) n c4]∧Below w.heap.size w wr) (fun _ _ i _ => 256 - (intOf i).toNat)
 case atStart => exact ⟨0,Nat.zero_le _,rfl,HSt.out.1,HSt.out.2,HK5.out.1,HK5.out.2⟩
 case round =>
  clear HK5 HSt hlts
  obtain ⟨b,hb,rfl,rfl,rfl,K5,LB5⟩:=hrel
  have Hsz:=Lib.hid (lcpA_size (HSz.out b hb))
  have Hsuc:=Lib.hid (candN_next q k s b)
  have Hcdx:=Lib.hid (rfl:candN q k s b = candN q k s b)
  generalize hcd:candN q k s b = cd at *
  have Hcd:=Lib.hid hcd
  clear hcd Hcdx
  have hsz5:=LB5.size
  by_cases hlt:b < 256
  ·have hb1:(0:Int)≤(b:Int):=by omega
   have hb2:(b:Int) < 256:=by omega
   obtain ⟨z0,z1',z2',_⟩:=HCk.out b hlt
   rw [Hn.out] at z1'
   obtain ⟨_,_,j1,j2,Q1',Q2',HL',HM'⟩:=HX.out wr LB5
   obtain ⟨h1,q1,rfl,hh1,r1⟩:=cell_at (d:=0) Q1' b hlt
   have hnx:(q.next.getD s []).getD b 0 = q.nx s b:=rfl
   rw [hnx] at r1
   by_cases hneg:q.nx s b < 0
   ·have Hc:=Lib.hid (show candN q k s (b + 1) = cd by rw [Hsuc.out,candB_neg hneg,List.append_nil])
    generalize q.nx s b = z at *
    go_wp2
    go_roundw
    case rel => exact ⟨b + 1,by omega,by go_num,by rw [Hc.out],by rw [Hc.out],K5,LB5⟩
    case measure => simp [intOf]; omega
   ·obtain ⟨z,hz⟩:∃ z:Nat,q.nx s b = (z:Int):=⟨_,(Int.toNat_of_nonneg (by omega)).symm⟩
    have hzn:z < n:=by omega
    have HZ:=Lib.hid hz
    rw [hz] at r1 hneg
    have hzi1:(0:Int)≤(z:Int):=by omega
    have hzi2:(z:Int) < (n:Int):=by omega
    obtain ⟨gm,om,rfl,hgm,u1⟩:=rowV_cell HM' z hzn
    rcases hsome:k.some z with _ | _
    ·rw [hsome] at u1
     have Hc:=Lib.hid (show candN q k s (b + 1) = cd by rw [Hsuc.out,candB_dead HZ.out hsome,List.append_nil])
     clear hz hsome
     go_wp2
     go_roundw
     case rel => exact ⟨b + 1,by omega,by go_num,by rw [Hc.out],by rw [Hc.out],K5,LB5⟩
     case measure => simp [intOf]; omega
    ·rw [hsome] at u1
     have Hc:=Lib.hid (show candN q k s (b + 1) = cd ++ [q.os s b ++ k.l z] by rw [Hsuc.out,candB_one HZ.out hsome])
     obtain ⟨gl,ol,rfl,hgl,u2⟩:=rowV_cell HL' z hzn
     obtain ⟨h2,q2,rfl,hh2,r2⟩:=cell_at (d:=ByteArray.empty) Q2' b hlt
     have hos:(q.outs.getD s []).getD b ByteArray.empty = q.os s b:=rfl
     rw [hos] at r2
     have hlz:=hl z
     generalize k.l z = lz at *
     generalize q.os s b = ot at *
     have hmx:ot.size + lz.size≤9223372036854775807:=by omega
     have k2:=cell_regrown (K5.cell 2)
     have j2':=cell_regrown j2
     have r2':=cell_regrown r2
     have u2':=cell_regrown u2
     clear hz hsome
     go_wp2
     refine wp_region_quiet_below (by kernel_rfl) (by kernel_rfl) ?_
     repeat (go_big_quiet_step (fail))
     refine wpQuiet_nil ?_
     intro w6 hw6
     have K6:=K5.below (below_of hw6) K5.lt
     have LB6:=LB5.trans ((below_of hw6).mono hsz5)
     clear hw6 K5 LB5 k2 j2 j2' r2 r2' u2 u2' u1 r1 j1
     generalize hgg:ot ++ lz = gg at *
     have hgs:gg.size≤100004096:=by
      have h1:=(HCk.out b hlt).2.2.1
      have e:=congrArg List.length (bl_app ot lz)
      rw [bl_len,List.length_append,bl_len,bl_len,hgg] at e
      have:=Hsm.out
      omega
     generalize hkn:(!cd.isEmpty) = kn at *
     rcases kn with _ | _
     ·have hcd0:cd = []:=by simpa using hkn
      subst hcd0
      clear hkn
      go_wp2
      go_roundw
      case rel => exact ⟨b + 1,by omega,by go_num,by rw [Hc.out]; rfl,by rw [Hc.out]; rfl,K6,LB6⟩
      case measure => simp [intOf]; omega
     ·have hcne:cd≠[]:=by simpa using hkn
      clear hkn
      have hlen2:(lcpA cd).size≤100004096:=by have:=Hsz.out; omega
      have Hl2:=Lib.hid (show lcpA (cd ++ [gg]) = lcpB (lcpA cd) [gg] by rw [lcpA_snoc,if_neg hcne]; rfl)
      generalize lcpA cd = ff at *
      have LA:=(Below.refl w6.heap.size w6).alloc (Nat.le_refl _) (.cells #[.string ff,.string gg] 9)
      have hrd:=reads_allocK w6 [.string ff,.string gg] 9 1 2 rfl
      have hlc:=lcp_cons (some ⟨w6.heap.size,0,none⟩) 2 ff [gg] (w6.alloc (.cells #[.string ff,.string gg] 9)) (hrd.more (by simp)) (fun x hx => by
       unfold maxLen
       rcases List.mem_cons.1 hx with rfl | hx
       ·omega
       ·rw [List.mem_singleton] at hx; subst hx; omega) (Nat.le_refl _) (by unfold maxLen; decide)
      have HLc:=Lib.hid hlc
      have K7:=K6.below LA K6.lt
      have LB7:=LB6.trans (LA.mono LB6.size)
      clear hlc hrd K6 LB6 LA
      go_wp2_with fail
      refine HLc.out.mono ?_
      rintro e w8 ⟨rfl,hb8⟩
      have K8:=K7.below hb8 K7.lt
      have LB8:=LB7.trans (hb8.mono LB7.size)
      clear K7 LB7 hb8
      go_wp2
      go_roundw
      case rel => exact ⟨b + 1,by omega,by go_num,by rw [Hc.out,Hl2.out],by rw [Hc.out]; simp,K8,LB8⟩
      case measure => simp [intOf]; omega
  ·obtain rfl:b = 256:=by omega
   have HF:=Lib.hid (show Gives (.string (lcpA (cand q k s))) w (.returned (.string (lcpA cd))) wr from ⟨by rw [show cand q k s = cd from Hcd.out],LB5⟩)
   go_wp2
   exact bodyPost_ret (v:=.string (lcpA cd)) (by simp [results,Tryz.results101,go_sem]) rfl HF.out
end Go.Proofs.YtcondkihpmmnnaaGreatDoor
