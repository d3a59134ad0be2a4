/- Lemmas, part 35 of 39. No condition. -/
import Derived.Test.YtcondkihpmmnnaaGreatDoorUniqueP33
import Derived.Test.YtcondkihpmmnnaaGreatDoorUniqueP26
namespace Go.Proofs.YtcondkihpmmnnaaGreatDoor
open Go.RowKit Go.Sort
set_option maxRecDepth 100000 in
set_option maxHeartbeats 8000000 in
theorem plain_any (q:SeqM) (v:Value) (B s n:Nat) (w:World) (HS:SeqAt w B q v) (hB:B≤w.heap.size) (hck:ckB q = true) (hn:q.next.length = n) (hs:s < n) (hP:Pow w w.heap.size) :
    Calls Tryz.prog 73 #[v,.int .i64 (s:Int)] w (Gives (.string ⟨(plainK q s).toArray⟩) w):=by
 obtain ⟨A1,c1,A2,c2,A3,c3,A4,c4,rfl,hf,l1,l2,l3,l4,m1,m2,m3,m4,R1,hz,R2,hsz,R3,R4,htl⟩:=HS
 obtain ⟨p1,p2,p3,p4,p5,p6⟩:=ck_parts hck
 have HCk:=Lib.hid (fun b (hb:b < 256) => ckB_nx hck (by rw [hn]; exact hs) hb)
 have HLen:=Lib.hid (fun j (hj:j≤256) => plainN_len (q:=q) (s:=s) ((HCk.out 0 (by decide)).2.2.2.2.1) (fun c hc => (HCk.out c hc).2.2.1) j hj)
 rw [p2] at l2 R2 ⊢
 rw [p3] at l3 R3 ⊢
 rw [p4] at l4 R4 ⊢
 rw [hn] at p1 l1 l2 l3 l4 R1 R2 R3 R4 ⊢
 have K:=Blk.new w 27 #[.string q.front,.slice A1 n c1,.slice A2 n c2,.slice A3 n c3,.slice A4 n c4]
 have LB:=(Below.refl w.heap.size w).alloc (Nat.le_refl _) (.cells #[.string q.front,.slice A1 n c1,.slice A2 n c2,.slice A3 n c3,.slice A4 n c4] 27)
 have hi1:(0:Int)≤(s:Int):=by omega
 have hi2:(s:Int) < (n:Int):=by omega
 have en1:q.ends.getD s false = q.en s:=rfl
 have et1:q.tail.getD s ByteArray.empty = q.tl s:=rfl
 obtain ⟨g3,o3,rfl,hg3,x3⟩:=cell_at (d:=false) R3 s hs
 obtain ⟨g4,o4,rfl,hg4,x4⟩:=cell_at (d:=ByteArray.empty) R4 s hs
 rw [en1] at x3
 rw [et1] at x4
 have e1:(q.next.map fun r => r.map (Value.int .i64)).getD s [] = (q.next.getD s []).map (Value.int .i64):=by
  rw [List.getD_eq_getElem?_getD,List.getD_eq_getElem?_getD,List.getElem?_map]
  cases q.next[s]? <;> rfl
 have e2:(q.outs.map fun r => r.map Value.string).getD s [] = (q.outs.getD s []).map Value.string:=by
  rw [List.getD_eq_getElem?_getD,List.getD_eq_getElem?_getD,List.getElem?_map]
  cases q.outs[s]? <;> rfl
 obtain ⟨g1,o1,A1',d1,rfl,hg1,x1,Q1,y1,z1⟩:=R1.at_ s hs
 obtain ⟨g2,o2,A2',d2,rfl,hg2,x2,Q2,y2,z2⟩:=R2.at_ s hs
 rw [e1] at x1 Q1 y1
 rw [e2] at x2 Q2 y2
 simp only [List.length_map] at x1 x2 Q1 Q2 y1 y2
 have hlen:=p6 s (by rw [hn]; exact hs)
 have Hn:=Lib.hid hn
 rw [hlen.1] at x1 Q1 y1
 rw [hlen.2] at x2 Q2 y2
 generalize q.front = fr at *
 have HX:=Lib.hid (fun (W:World) (hb:Below w.heap.size w W) => And.intro ((hb.cell (p:=⟨g3,o3 + s,none⟩) (by show g3 < _; omega)).trans x3) (And.intro ((hb.cell (p:=⟨g4,o4 + s,none⟩) (by show g4 < _; omega)).trans x4) (And.intro ((hb.cell (p:=⟨g1,o1 + s,none⟩) (by show g1 < _; omega)).trans x1) (And.intro ((hb.cell (p:=⟨g2,o2 + s,none⟩) (by show g2 < _; omega)).trans x2) (And.intro (Q1.below (hb.mono hB)) (Q2.below (hb.mono hB)))))))
 clear R1 R2 R3 R4 hz hsz htl x1 x2 x3 x4 Q1 Q2 e1 e2 en1 et1 hlen p6 hck hn p2 p3 p4
 generalize hW0:w.alloc (.cells #[.string fr,.slice (some ⟨g1,o1,none⟩) n c1,.slice (some ⟨g2,o2,none⟩) n c2,.slice (some ⟨g3,o3,none⟩) n c3,.slice (some ⟨g4,o4,none⟩) n c4] 27) = W0 at *
 have hz0:W0.heap.size = w.heap.size + 1:=by rw [← hW0]; simp
 have HW0:=Lib.hid hW0
 have hPW:=(hP.below LB).mono (show w.heap.size≤W0.heap.size by omega)
 have hK0:KeyW W0 (W0.alloc (.cells #[.pointer none,.slice none 0 0] 83)) [] :=
  ⟨.inl ⟨Nat.le_refl _,.slice none 0 0,heap_alloc_new W0 _,World.ownsRowF_of (World.ownsRow_nil _ _ _ _),by simp [Value.ownBlock]⟩,(Below.refl _ W0).alloc (Nat.le_refl _) _⟩
 have HK0:=Lib.hid hK0
 have HPW:=Lib.hid hPW
 have HS0:=Lib.hid (show KeyW W0 (W0.alloc (.cells #[.pointer none,.slice none 0 0] 83)) [] from hK0)
 obtain ⟨j3,j4,j1,j2,_⟩:=HX.out _ (LB.trans (HK0.out.bel.mono (show w.heap.size≤W0.heap.size by omega)))
 have KB:=K.below HK0.out.bel (by omega)
 have k1:=KB.cell 1
 have k2:=KB.cell 2
 have k3:=KB.cell 3
 have k4:=KB.cell 4
 have hen:=Lib.hid (show plainN q s 0 = plainE q s by unfold plainN; simp)
 have htl:=(HCk.out 0 (by decide)).2.2.2.2.1
 clear hK0 hPW
 go_enter Tryz.func73,Tryz.ntmps73
 rcases he:q.en s with _ | _
 focus
  rw [he] at j3
  clear j4 k4
  have hE:=Lib.hid (show KeyW W0 (W0.alloc (.cells #[.pointer none,.slice none 0 0] 83)) (plainN q s 0) by rw [hen.out]; unfold plainE; rw [he,if_neg (by decide)]; exact HK0.out)
  clear he
  go_upto_region 6 with (fail)
  clear j1 j2 j3 k1 k2 k3
  generalize W0.alloc (.cells #[.pointer none,.slice none 0 0] 83) = wE at *
  have HE:=hE
 rotate_left
 focus
  rw [he] at j3
  have hE:=Lib.hid (show plainN q s 0 = [] ++ [101] ++ putT (q.tl s) by rw [hen.out]; unfold plainE; rw [he,if_pos rfl]; rfl)
  clear he
  go_wp2_with fail
  generalize W0.alloc (.cells #[.pointer none,.slice none 0 0] 83) = W1 at *
  refine (byteW _ W0 W1 [] 101 101 rfl hz0 HK0.out (by simp)).mono ?_
  rintro e w2 ⟨rfl,HK2⟩
  obtain ⟨_,u4,_⟩:=HX.out _ (LB.trans (HK2.bel.mono (show w.heap.size≤W0.heap.size by omega)))
  have v4:=(K.below HK2.bel (by omega)).cell 4
  clear j1 j2 j3 j4 k1 k2 k3 k4
  generalize q.tl s = qt at *
  go_wp2_with fail
  refine (putW _ W0 w2 ([] ++ [101]) qt hz0 HK2 HPW.out htl (by simp)).mono ?_
  rintro e wE ⟨rfl,HK3⟩
  rw [← hE.out] at HK3
  have HE:=Lib.hid HK3
  clear u4 v4
  go_upto_region 6 with (fail)
 all_goals
  clear hE hen HS0 HK0
  obtain ⟨_,_,j1,_⟩:=HX.out _ (LB.trans (HE.out.bel.mono (show w.heap.size≤W0.heap.size by omega)))
  have k1:=(K.below HE.out.bel (by omega)).cell 1
  go_wp2
  clear j1 k1
  go_loopw [29] (fun i wr => ∃ b:Nat,b≤256∧i = .int .i64 (b:Int)∧KeyW W0 wr (plainN q s b)) (fun i _ => 256 - (intOf i).toNat)
  case atStart => exact ⟨0,Nat.zero_le _,rfl,HE.out⟩
  case round =>
   clear HE
   obtain ⟨b,hb,rfl,HK⟩:=hrel
   have hW:Below w.heap.size w wr:=LB.trans (HK.bel.mono (show w.heap.size≤W0.heap.size by omega))
   have hlen:=HLen.out b hb
   by_cases hlt:b < 256
   ·have hb1:(0:Int)≤(b:Int):=by omega
    have hb2:(b:Int) < 256:=by omega
    obtain ⟨_,_,_,_,Q1,_⟩:=HX.out wr hW
    obtain ⟨h1,q1,rfl,hh1,r1⟩:=cell_at (d:=0) Q1 b hlt
    have hnx:(q.next.getD s []).getD b 0 = q.nx s b:=rfl
    have hos:(q.outs.getD s []).getD b ByteArray.empty = q.os s b:=rfl
    have Hsuc:=Lib.hid (plainN_next q s b)
    rw [hnx] at r1
    by_cases hneg:q.nx s b < 0
    ·have hc:=Lib.hid (show plainN q s (b + 1) = plainN q s b by rw [Hsuc.out]; unfold plainB; rw [if_pos hneg,List.append_nil])
     generalize q.nx s b = z at *
     go_wp2
     go_roundw
     case rel => exact ⟨b + 1,by omega,by go_num,by rw [hc.out]; exact HK⟩
     case measure => simp [intOf]; omega
    ·have hge:q.nx s b ≥ 0:=by omega
     have hc:=Lib.hid (show plainN q s (b + 1) = plainN q s b ++ [103] ++ Lib.decDigits b ++ [58] ++ putT (q.os s b) by rw [Hsuc.out]; unfold plainB; rw [if_neg hneg]; simp)
     have hol:=(HCk.out b hlt).2.2.1
     have hdl:=dec_len (u:=b) (by omega)
     have hs1:(ByteArray.mk (Lib.decDigits b).toArray).size≤20:=by
      show (Lib.decDigits b).toArray.size≤_
      rw [List.size_toArray]; omega
     have hpl:=HPW.out
     generalize plainN q s b = acc at *
     generalize q.nx s b = z at *
     go_wp2_with fail
     refine (byteW _ W0 _ acc 103 103 rfl hz0 HK (by omega)).mono ?_
     rintro e w2 ⟨rfl,HK2⟩
     clear HK r1 Q1
     go_wp2_with fail
     refine (itoa_any b (by omega) _ (hpl.below HK2.bel)).mono ?_
     rintro e w3 ⟨rfl,hb3⟩
     have HK3:=HK2.call hb3
     clear HK2 hb3
     have hbl:=bl_mkl (Lib.decDigits b)
     generalize hD1:(ByteArray.mk (Lib.decDigits b).toArray) = s1 at *
     go_wp2_with fail
     refine (textW _ W0 _ (acc ++ [103]) s1 hz0 HK3 (by omega) (by simp only [List.length_append,List.length_singleton]; omega)).mono ?_
     rintro e w4 ⟨rfl,HK4⟩
     clear HK3
     have hl4:(acc ++ [103] ++ bl s1).length≤100000000:=by simp only [List.length_append,List.length_singleton,bl_len]; omega
     go_wp2_with fail
     refine (byteW _ W0 _ (acc ++ [103] ++ bl s1) 58 58 rfl hz0 HK4 hl4).mono ?_
     rintro e w5 ⟨rfl,HK5⟩
     clear HK4
     have hW5:Below w.heap.size w w5:=LB.trans (HK5.bel.mono (show w.heap.size≤W0.heap.size by omega))
     obtain ⟨_,_,_,j2,_,Q2⟩:=HX.out w5 hW5
     obtain ⟨h2,q2,rfl,hh2,r2⟩:=cell_at (d:=ByteArray.empty) Q2 b hlt
     rw [hos] at r2
     have k2:=(K.below HK5.bel (by omega)).cell 2
     have hl5:(acc ++ [103] ++ bl s1 ++ [58]).length≤100000000:=by simp only [List.length_append,List.length_singleton,bl_len] at hl4 ⊢; omega
     generalize q.os s b = qo at *
     go_wp2_with fail
     refine (putW _ W0 _ (acc ++ [103] ++ bl s1 ++ [58]) qo hz0 HK5 hpl hol hl5).mono ?_
     rintro e w6 ⟨rfl,HK6⟩
     rw [hbl,← hc.out] at HK6
     clear HK5 r2 j2 k2 Q2
     go_wp2
     go_roundw
     case rel => exact ⟨b + 1,by omega,by go_num,HK6⟩
     case measure => simp [intOf]; omega
   ·obtain rfl:b = 256:=by omega
    go_wp2_with fail
    refine (allW _ W0 _ _ hz0 HK).mono ?_
    rintro e w8 ⟨rfl,hbw⟩
    have HF:=Lib.hid (show Gives (.string ⟨(plainK q s).toArray⟩) w (.returned (.string ⟨(plainK q s).toArray⟩)) w8 from ⟨rfl,LB.trans (hbw.mono (by omega))⟩)
    clear hlen
    rw [show plainN q s 256 = plainK q s from rfl] at *
    generalize plainK q s = kk at *
    go_wp2
    exact bodyPost_ret (v:=.string ⟨kk.toArray⟩) (by simp [results,Tryz.results73,go_sem]) rfl HF.out
end Go.Proofs.YtcondkihpmmnnaaGreatDoor
