/- Lemmas, part 15 of 50. No condition. -/
import Derived.Test.YtcondkihpmmnnaaGreatDoorQ12
import Derived.Test.YtcondkihpmmnnaaGreatDoorQ08
namespace Go.Proofs.YtcondkihpmmnnaaGreatDoor
open Go.RowKit Go.Sort
def BackPost (q:SeqM) (w:World) (e:Ending) (w':World):Prop :=
 ∃ t r,GF t r w e w'∧(r = 0→ckB q = true∧fckB (back0 q) = true∧t = sortF (back0 q))
set_option maxRecDepth 100000 in
set_option maxHeartbeats 8000000 in
theorem seqBack_any (q:SeqM) (v:Value) (B:Nat) (w:World) (HS:SeqAt w B q v) (hB:B≤w.heap.size) :
    Calls Tryz.prog 7 #[v] w (BackPost q w):=by
 have hck:∀ W,Below B w W→B≤W.heap.size→Calls Tryz.prog 18 #[v] W (Gives (.int .i64 (okE (ckB q))) W):=fun W hb hz => by
  refine seqCheck_any q v B W ?_ hz
  obtain ⟨A1,c1,A2,c2,A3,c3,A4,c4,rfl,hf,l1,l2,l3,l4,m1,m2,m3,m4,R1,hz,R2,hs,R3,R4,ht⟩:=HS
  exact ⟨A1,c1,A2,c2,A3,c3,A4,c4,rfl,hf,l1,l2,l3,l4,m1,m2,m3,m4,R1.below hb,hz,R2.below hb,hs,R3.below hb,R4.below hb,ht⟩
 obtain ⟨A1,c1,A2,c2,A3,c3,A4,c4,rfl,hf,l1,l2,l3,l4,m1,m2,m3,m4,R1,hz,R2,hs,R3,R4,ht⟩:=HS
 have B0:Below B w ((w.alloc (.cells #[.string q.front,.slice A1 q.next.length c1,.slice A2 q.outs.length c2,.slice A3 q.ends.length c3,.slice A4 q.tail.length c4] 27)).alloc (.cells #[.int .i64 0,.slice none 0 0,.slice none 0 0,.slice none 0 0] 32)):=((Below.refl _ w).alloc hB _).alloc (by simp; omega) _
 have hck0:=hck _ B0 (by simp; omega)
 have hck1:=Lib.hid (fun (h:ckB q = true) => ck_parts h)
 have hck2:=hck0
 rcases hcq:ckB q with _ | _
 ·rw [hcq] at hck0
  replace hck0:Calls Tryz.prog 18 _ _ (Gives (.int .i64 1) _):=hck0
  clear hck hck1 hck2 R1 R2 R3 R4 hz hs ht
  have hp:=Lib.hid (fun w' (hb:Below w.heap.size w w') => show BackPost q w (.returned (.tuple #[.agg #[.int .i64 0,.slice none 0 0,.slice none 0 0,.slice none 0 0],.int .i64 1])) w' from ⟨fs0,1,⟨_,rfl,fst0_at _ _,fst0_new _,hb⟩,fun h => absurd h (by decide)⟩)
  clear hcq
  generalize q.next.length = n1 at *
  generalize q.outs.length = n2 at *
  generalize q.ends.length = n3 at *
  generalize q.tail.length = n4 at *
  generalize q.front = fr at *
  go_enter Tryz.func7,Tryz.ntmps7
  go_wp2_with fail
  refine hck0.mono ?_
  rintro e w1 ⟨rfl,HB1⟩
  have K:=(Blk.new (w.alloc (.cells #[.string fr,.slice A1 n1 c1,.slice A2 n2 c2,.slice A3 n3 c3,.slice A4 n4 c4] 27)) 32 #[.int .i64 0,.slice none 0 0,.slice none 0 0,.slice none 0 0]).below HB1 (by simp)
  rw [World.size_alloc] at K
  have L1:=(((Below.refl _ w).alloc (Nat.le_refl _) (.cells #[.string fr,.slice A1 n1 c1,.slice A2 n2 c2,.slice A3 n3 c3,.slice A4 n4 c4] 27)).alloc (by simp) (.cells #[.int .i64 0,.slice none 0 0,.slice none 0 0,.slice none 0 0] 32)).trans (HB1.mono (by simp; omega))
  have k0:=K.cell 0
  have k1:=K.cell 1
  have k2:=K.cell 2
  have k3:=K.cell 3
  have f0:=K.frozen 0
  have f1:=K.frozen 1
  have f2:=K.frozen 2
  have f3:=K.frozen 3
  clear K
  go_wp2
  refine bodyPost_ret (v:=.tuple #[.agg #[.int .i64 0,.slice none 0 0,.slice none 0 0,.slice none 0 0],.int .i64 1]) (by simp [results,Tryz.results7,go_sem,k0,k1,k2,k3]) rfl (hp.out _ (below_set4 L1 (by omega) _ _ _ _))
 ·rw [hcq] at hck0
  replace hck0:Calls Tryz.prog 18 _ _ (Gives (.int .i64 0) _):=hck0
  clear hck hck2
  obtain ⟨p1,p2,p3,p4,p5,p6⟩:=hck1.out hcq
  have R1':=R1.more hB
  have R2':=R2.more hB
  have R3':=R3.more hB
  have R4':=R4.more hB
  clear R1 R2 R3 R4 hck1
  have hp1:=Lib.hid (fun w' (r:Int) (hr:r≠0) (hb:Below w.heap.size w w') => show BackPost q w (.returned (.tuple #[.agg #[.int .i64 0,.slice none 0 0,.slice none 0 0,.slice none 0 0],.int .i64 r])) w' from ⟨fs0,r,⟨_,rfl,fst0_at _ _,fst0_new _,hb⟩,fun h => absurd h hr⟩)
  have hp2:=Lib.hid (fun e w' (h:GF (sortF (back0 q)) 0 w e w') (hf:fckB (back0 q) = true) => show BackPost q w e w' from ⟨_,0,h,fun _ => ⟨hcq,hf,rfl⟩⟩)
  have hS0:=Lib.hid (show (back0 q).n = (q.next.length:Int)∧(back0 q).starts = startsS q∧(back0 q).ends = endsS q q.next.length∧(back0 q).arcs = arcsS q q.next.length from ⟨rfl,rfl,rfl,rfl⟩)
  have Hp6:=Lib.hid p6
  have Hs:=Lib.hid hs
  have Ht:=Lib.hid ht
  have Hz:=Lib.hid hz
  have hst:startsS q = if q.next.length = 0 then [] else [⟨0,q.front⟩]:=rfl
  have Hst:=Lib.hid hst
  have HWF:=Lib.hid (back0_wf (q:=q) ⟨hf,hz,hs,ht⟩ p1)
  clear p6 hs ht hz hst hcq
  rw [p2] at hck0 l2 R2' ⊢
  rw [p3] at hck0 l3 R3' ⊢
  rw [p4] at hck0 l4 R4' ⊢
  generalize hn:q.next.length = n at *
  have Hn:=Lib.hid hn
  clear hn p2 p3 p4 B0
  generalize hfr:q.front = fr at *
  have Hfr:=Lib.hid hfr
  clear hfr
  unfold maxLen at hf m1 m2 m3 m4
  go_enter Tryz.func7,Tryz.ntmps7
  go_wp2_with fail
  refine hck0.mono ?_
  rintro e w1 ⟨rfl,HB1⟩
  clear hck0
  have J:=((Blk.new w 27 #[.string fr,.slice A1 n c1,.slice A2 n c2,.slice A3 n c3,.slice A4 n c4]).alloc (.cells #[.int .i64 0,.slice none 0 0,.slice none 0 0,.slice none 0 0] 32)).below HB1 (by simp; omega)
  have K:=(Blk.new (w.alloc (.cells #[.string fr,.slice A1 n c1,.slice A2 n c2,.slice A3 n c3,.slice A4 n c4] 27)) 32 #[.int .i64 0,.slice none 0 0,.slice none 0 0,.slice none 0 0]).below HB1 (by simp)
  rw [World.size_alloc] at K
  have L1:=(((Below.refl _ w).alloc (Nat.le_refl _) (.cells #[.string fr,.slice A1 n c1,.slice A2 n c2,.slice A3 n c3,.slice A4 n c4] 27)).alloc (by simp) (.cells #[.int .i64 0,.slice none 0 0,.slice none 0 0,.slice none 0 0] 32)).trans (HB1.mono (by simp; omega))
  have hz1:w.heap.size + 1 < w1.heap.size:=by have:=HB1.size; simp at this; omega
  clear HB1
  have HW0:BackW w (w1.alloc (.cells #[.int .i64 n,.slice none 0 0,.slice none 0 0,.slice none 0 0] 32)) #[.string fr,.slice A1 n c1,.slice A2 n c2,.slice A3 n c3,.slice A4 n c4] w1.heap.size n (.slice none 0 0) (.slice none 0 0) (.slice none 0 0) [] [] [] :=
   ⟨J.alloc _,K.alloc _,Blk.new _ _ _,hz1,World.ownsRow_nil _ _ _ _,World.ownsRow_nil _ _ _ _,World.ownsRow_nil _ _ _ _,(fun g h => by cases h),L1.alloc (by omega) _⟩
  have j1:=J.cell 1
  clear K L1
  have b0:=HW0.box.cell 0
  have b1:=HW0.box.cell 1
  have t0:=HW0.t.cell 0
  rcases Nat.eq_zero_or_pos n with he0 | hn0
  ·have hn1:n≤0:=by omega
   have HE0:=Lib.hid he0
   clear J he0
   go_wp2
   clear b0 b1 t0 j1
   go_loopw [31] (fun i wr => i = .int .i64 0∧BackW w wr #[.string fr,.slice A1 n c1,.slice A2 n c2,.slice A3 n c3,.slice A4 n c4] w1.heap.size n (.slice none 0 0) (.slice none 0 0) (.slice none 0 0) [] [] []) (fun i _ => 0 - (intOf i).toNat)
   case atStart => exact ⟨rfl,HW0⟩
   case round =>
    obtain ⟨rfl,HB⟩:=hrel
    obtain ⟨hs1,hs2,hs3,hs4⟩:=hS0.out
    obtain ⟨wf1,wf2,wf3⟩:=HWF.out
    have he0:=HE0.out
    have hst':startsS q = []:=by rw [Hst.out,if_pos he0]
    have hse:endsS q n = []:=by rw [he0]; rfl
    have hsa:arcsS q n = []:=by rw [he0]; rfl
    rw [hst'] at hs2
    rw [hse] at hs3
    rw [hsa] at hs4
    have HF:=HB.fst ⟨by omega,by omega⟩ (back0 q) ⟨hs1,hs2,hs3,hs4⟩ (fun _ h => (List.not_mem_nil h).elim) (fun _ h => (List.not_mem_nil h).elim) (fun _ h => (List.not_mem_nil h).elim)
    clear hst' hse hsa he0
    have hCk:=fstCheck_any (back0 q) _ wr.heap.size wr HF (Nat.le_refl _)
    have hSo:∀ W,Below wr.heap.size wr W→Calls Tryz.prog 21 #[.agg #[.int .i64 (n:Int),.slice none 0 0,.slice none 0 0,.slice none 0 0]] W (GF (if fckB (back0 q) = true then sortF (back0 q) else fs0) (okE (fckB (back0 q))) W):=fun W hb => fstSort_any (back0 q) _ _ W (HF.below hb) hb.size
    have t0:=HB.t.cell 0
    have t1:=HB.t.cell 1
    have t2:=HB.t.cell 2
    have t3:=HB.t.cell 3
    have hszr:=HB.size
    have hgg:=HB.gG
    clear HF hs1 hs2 hs3 hs4 wf1 wf2 wf3
    have HP1:=Lib.hid (hp1.out)
    have HP2:=Lib.hid (hp2.out)
    rcases hfc:fckB (back0 q) with _ | _
    ·rw [hfc] at hCk
     replace hCk:Calls Tryz.prog 20 _ _ (Gives (.int .i64 1) _):=hCk
     clear hSo hfc
     go_wp2_with fail
     refine hCk.mono ?_
     rintro e w6 ⟨rfl,HB6⟩
     have HBc:=HB.call HB6
     have k0:=HBc.res.cell 0
     have k1:=HBc.res.cell 1
     have k2:=HBc.res.cell 2
     have k3:=HBc.res.cell 3
     have f0:=HBc.res.frozen 0
     have f1:=HBc.res.frozen 1
     have f2:=HBc.res.frozen 2
     have f3:=HBc.res.frozen 3
     have hbl:=HBc.bel
     clear HB HBc t0 t1 t2 t3
     go_wp2
     refine bodyPost_ret (v:=.tuple #[.agg #[.int .i64 0,.slice none 0 0,.slice none 0 0,.slice none 0 0],.int .i64 2]) (by simp [results,Tryz.results7,go_sem,k0,k1,k2,k3]) rfl (HP1.out _ 2 (by decide) (below_set4 hbl (by omega) _ _ _ _))
    ·rw [hfc] at hCk hSo
     replace hCk:Calls Tryz.prog 20 _ _ (Gives (.int .i64 0) _):=hCk
     replace hSo:∀ W,Below wr.heap.size wr W→Calls Tryz.prog 21 #[.agg #[.int .i64 (n:Int),.slice none 0 0,.slice none 0 0,.slice none 0 0]] W (GF (sortF (back0 q)) 0 W):=hSo
     have Hfc:=Lib.hid hfc
     clear hfc
     go_wp2_with fail
     refine hCk.mono ?_
     rintro e w6 ⟨rfl,HB6⟩
     have HBc:=HB.call HB6
     have u0:=HBc.t.cell 0
     have u1:=HBc.t.cell 1
     have u2:=HBc.t.cell 2
     have u3:=HBc.t.cell 3
     have hsz6:w.heap.size + 1 < w6.heap.size:=by have:=HB6.size; omega
     clear HB t0 t1 t2 t3
     go_wp2_with fail
     refine (hSo w6 HB6).mono ?_
     rintro e w7 ⟨v7,rfl,HF7,HN7,HB7⟩
     obtain ⟨N7,X1,y1,z1,X2,y2,z2,X3,y3,z3,hv7,_,_,_⟩:=id HN7
     subst hv7
     have HBd:=HBc.call HB7
     have k0:=HBd.res.cell 0
     have k1:=HBd.res.cell 1
     have k2:=HBd.res.cell 2
     have k3:=HBd.res.cell 3
     have f0:=HBd.res.frozen 0
     have f1:=HBd.res.frozen 1
     have f2:=HBd.res.frozen 2
     have f3:=HBd.res.frozen 3
     have hbl:=HBd.bel
     have HE:=Lib.hid (HF7.freshSet4 HN7 (g:=w.heap.size + 1) hsz6 (.int .i64 N7) (.slice X1 y1 z1) (.slice X2 y2 z2) (.slice X3 y3 z3))
     have HNl:=Lib.hid (HN7.less (B':=w.heap.size) (by omega))
     clear HBc HBd u0 u1 u2 u3 hSo HF7 HN7
     go_wp2
     refine bodyPost_ret (v:=.tuple #[.agg #[.int .i64 N7,.slice X1 y1 z1,.slice X2 y2 z2,.slice X3 y3 z3],.int .i64 0]) (by simp [results,Tryz.results7,go_sem,k0,k1,k2,k3]) rfl (HP2.out _ _ ⟨_,rfl,HE.out,HNl.out,below_set4 hbl (by omega) _ _ _ _⟩ Hfc.out)
  ·obtain ⟨i0,hi,hy0,hy1,hy2⟩:=info_parts tip_info
   have HWa:=HW0.call ((Below.refl _ _).alloc (Nat.le_refl _) (.cells #[.int .i64 0,.string fr] 54))
   have hrd:=reads_allocK (w1.alloc (.cells #[.int .i64 n,.slice none 0 0,.slice none 0 0,.slice none 0 0] 32)) [.int .i64 0,.string fr] 54 2 1 rfl
   rw [World.size_alloc] at hrd
   have hoS:((w1.alloc (.cells #[.int .i64 n,.slice none 0 0,.slice none 0 0,.slice none 0 0] 32)).alloc (.cells #[.int .i64 0,.string fr] 54)).ownsRow (w1.heap.size + 1) 54 2 (.slice none 0 0) 0 []:=HWa.oS
   have t1:=HW0.t.cell 1
   have hne1:¬ w.heap.size = w1.heap.size:=by omega
   have hne2:¬ w1.heap.size = w.heap.size:=by omega
   clear J
   go_wp2_with (at_builtin; refine wpList_append_any _ rfl _ _ 29 rfl (w1.heap.size + 1) 54 i0 _ 2 24 Tryz.underlying29 hi hy0 hy1 hy2 rfl (by decide) _ _ _ rfl hoS _ (some ⟨w1.heap.size + 1,0,none⟩) 1 1 [.int .i64 0,.string fr] rfl hrd (encT_one ⟨0,fr⟩) (by unfold maxLen; omega) (by omega) (by simp) ?_; intro v' w2 hown hgrow hloc; have hown2:w2.ownsRow (w1.heap.size + 1) 54 2 v' ([⟨0,fr⟩]:List Tp).length (encs encT [⟨0,fr⟩]):=hown; obtain ⟨Av,cv,hv,hv1,hv2,hv3⟩:=own_form hown2; subst hv; have HWs:=HWa.putS hgrow hown2; have kt:=blk_keep HWa.t hgrow (own_blk HWa.oS HWa.t (by decide)); have q1:=kt.cell 1; have q2:=kt.frozen 1; have q3:=(blk_keep HWa.box hgrow (own_blk HWa.oS HWa.box (by decide))).cell 1; clear kt hown hown2 hgrow hloc hv1 hv2 hv3)
   clear b0 b1 t0 j1 t1 HW0 HWa hrd hoS
   go_loopw [31] (fun i wr => ∃ s vE vA,s≤n∧i = .int .i64 ((s:Nat):Int)∧BackW w wr #[.string fr,.slice A1 n c1,.slice A2 n c2,.slice A3 n c3,.slice A4 n c4] w1.heap.size n (.slice Av 1 cv) vE vA [⟨0,fr⟩] (endsS q s) (arcsS q s)∧(arcsS q s).length≤16384) (fun i _ => n - (intOf i).toNat)
   case atStart => exact ⟨0,_,_,Nat.zero_le _,rfl,HWs,Nat.zero_le _⟩
   case round =>
    clear HWs hz1 hne1 hne2 i0 hi hy0 hy1 hy2
    obtain ⟨s,vE,vA,hsn,rfl,HB,hal⟩:=hrel
    by_cases hlt:s < n
    ·have hi1:(0:Int)≤(s:Int):=by omega
     have hi2:(s:Int) < (n:Int):=by omega
     have hlen:=Hp6.out s hlt
     have e1:(q.next.map fun r => r.map (Value.int .i64)).getD s [] = (q.next.getD s []).map (Value.int .i64):=by
      rw [List.getD_eq_getElem?_getD,List.getD_eq_getElem?_getD,List.getElem?_map]
      cases q.next[s]? <;> rfl
     have e2:(q.outs.map fun r => r.map Value.string).getD s [] = (q.outs.getD s []).map Value.string:=by
      rw [List.getD_eq_getElem?_getD,List.getD_eq_getElem?_getD,List.getElem?_map]
      cases q.outs[s]? <;> rfl
     obtain ⟨g1,o1,A1',c1',rfl,hg1,d1,Q1,y1,z1⟩:=R1'.at_ s hlt
     obtain ⟨g2,o2,A2',c2',rfl,hg2,d2,Q2,y2,z2⟩:=R2'.at_ s hlt
     obtain ⟨g3,o3,rfl,hg3,d3⟩:=cell_at (d:=false) R3' s hlt
     obtain ⟨g4,o4,rfl,hg4,d4⟩:=cell_at (d:=ByteArray.empty) R4' s hlt
     rw [e1] at d1 Q1 y1
     rw [e2] at d2 Q2 y2
     simp only [List.length_map] at d1 d2 Q1 Q2 y1 y2
     rw [hlen.1] at d1 Q1 y1
     rw [hlen.2] at d2 Q2 y2
     have QQ:=Lib.hid (And.intro Q1 Q2)
     have hen:q.ends.getD s false = q.en s:=rfl
     have htl:q.tail.getD s ByteArray.empty = q.tl s:=rfl
     rw [hen] at d3
     rw [htl] at d4
     have hends:endsS q (s + 1) = endsS q s ++ (if q.en s = true then [(⟨(s:Int),q.tl s⟩:Tp)] else []):=rfl
     have hen0:(endsS q s).length≤s:=endsS_len q s
     have htz:(q.tl s).size≤9223372036854775807:=by
      have hm:q.tl s∈q.tail∨q.tl s = ByteArray.empty:=by
       unfold SeqM.tl
       rw [List.getD_eq_getElem?_getD]
       rcases h:q.tail[s]? with _ | x
       ·exact .inr rfl
       ·exact .inl (List.mem_of_getElem? h)
      rcases hm with h | h
      ·have:=Ht.out _ h; unfold maxLen at this; exact this
      ·rw [h]; decide
     clear e1 e2 hlen Q1 Q2 hen htl
     have Hends:=Lib.hid hends
     clear hends
     generalize endsS q s = E at *
     generalize q.tl s = tl at *
     have D2:=Lib.hid d2
     replace d1:=(HB.bel.cell (p:=⟨g1,o1 + s,none⟩) hg1).trans d1
     replace d2:=(HB.bel.cell (p:=⟨g2,o2 + s,none⟩) hg2).trans d2
     replace d3:=(HB.bel.cell (p:=⟨g3,o3 + s,none⟩) hg3).trans d3
     replace d4:=(HB.bel.cell (p:=⟨g4,o4 + s,none⟩) hg4).trans d4
     have b2:=HB.box.cell 2
     have b3:=HB.box.cell 3
     have b4:=HB.box.cell 4
     have t2:=HB.t.cell 2
     have t3:=HB.t.cell 3
     rcases hen:q.en s with _ | _
     ·have hE1:endsS q (s + 1) = E:=by rw [Hends.out,hen]; simp
      rw [hen] at d3
      have HE1:=Lib.hid hE1
      clear hE1 hen
      go_wp2
      go_loopw [55] (fun i2 wr => ∃ j vA,j≤256∧i2 = .int .i64 ((j:Nat):Int)∧BackW w wr #[.string fr,.slice (some ⟨g1,o1,none⟩) n c1,.slice (some ⟨g2,o2,none⟩) n c2,.slice (some ⟨g3,o3,none⟩) n c3,.slice (some ⟨g4,o4,none⟩) n c4] w1.heap.size n (.slice Av 1 cv) vE vA [⟨0,fr⟩] E (arcsS q s ++ arcsJ q s j)∧(arcsS q s ++ arcsJ q s j).length≤16384) (fun i2 _ => 256 - (intOf i2).toNat)
      case atStart => exact ⟨0,vA,by omega,rfl,by simpa [arcsJ] using HB,by simpa [arcsJ] using hal⟩
      case round =>
       clear hal HB
       obtain ⟨j,vA2,hj,rfl,HB2,hal2⟩:=hrel
       have hsz3:=HB2.size
       have hgg:=HB2.gG
       by_cases hjl:j < 256
       ·have hk1:(0:Int)≤(j:Int):=by omega
        have hk2:(j:Int) < (256:Int):=by omega
        obtain ⟨Q1,Q2⟩:=QQ.out
        obtain ⟨h1,p1',rfl,hh1,r1⟩:=cell_at (d:=0) (Q1.below HB2.bel) j hjl
        obtain ⟨h2,p2',rfl,hh2,r2⟩:=cell_at (d:=ByteArray.empty) (Q2.below HB2.bel) j hjl
        have hnx:(q.next.getD s []).getD j 0 = q.nx s j:=rfl
        have hos:(q.outs.getD s []).getD j ByteArray.empty = q.os s j:=rfl
        rw [hnx] at r1
        rw [hos] at r2
        have hst:arcsJ q s (j + 1) = arcsJ q s j ++ arcAt q s j:=rfl
        have har:arcAt q s j = if q.nx s j < 0 then [] else [⟨(s:Int),q.nx s j,St.ofM (sOf [j]),q.os s j,false⟩]:=rfl
        have Hst2:=Lib.hid hst
        have Har:=Lib.hid har
        have hoz:(q.os s j).size≤9223372036854775807:=by
         unfold SeqM.os
         rw [List.getD_eq_getElem?_getD (l:=q.outs.getD s [])]
         rcases h:(q.outs.getD s [])[j]? with _ | x
         ·decide
         ·have hm:q.outs.getD s []∈q.outs:=by
            rw [List.getD_eq_getElem?_getD]
            rcases h2:q.outs[s]? with _ | y
            ·rw [List.getD_eq_getElem?_getD,h2] at h; cases h
            ·exact List.mem_of_getElem? h2
          have:=Hs.out _ hm x (List.mem_of_getElem? h)
          unfold maxLen at this
          exact this
        clear hst har hnx hos Q1 Q2
        generalize hA:arcsS q s ++ arcsJ q s j = A at *
        have HA:=Lib.hid hA
        clear hA
        generalize q.nx s j = z at *
        generalize q.os s j = ot at *
        by_cases hz0:z < 0
        ·go_wp2
         go_roundw
         case rel =>
          have e:arcsS q s ++ arcsJ q s (j + 1) = A:=by rw [Hst2.out,Har.out,if_pos hz0,List.append_nil,HA.out]
          exact ⟨j + 1,vA2,by omega,by go_num,by rw [e]; exact HB2,by rw [e]; exact hal2⟩
         case measure => simp [intOf]; omega
        ·obtain ⟨Aa,ca,rfl,va1,va2,va3⟩:=own_form HB2.oA
         have t3':=HB2.t.cell 3
         by_cases hful:16384≤A.length
         ·have k0:=HB2.res.cell 0
          have k1:=HB2.res.cell 1
          have k2:=HB2.res.cell 2
          have k3:=HB2.res.cell 3
          have f0:=HB2.res.frozen 0
          have f1:=HB2.res.frozen 1
          have f2:=HB2.res.frozen 2
          have f3:=HB2.res.frozen 3
          have hbl:=HB2.bel
          clear HB2
          go_wp2
          refine bodyPost_ret (v:=.tuple #[.agg #[.int .i64 0,.slice none 0 0,.slice none 0 0,.slice none 0 0],.int .i64 2]) (by simp [results,Tryz.results7,go_sem,k0,k1,k2,k3]) rfl (hp1.out _ 2 (by decide) (below_set4 hbl (by omega) _ _ _ _))
         ·obtain ⟨i0,hi,hy0,hy1,hy2⟩:=info_parts arc_info
          have x3:=cell_regrown t3'
          have x2:=cell_regrown (HB2.box.cell 2)
          have x4:=cell_regrown ((HB2.bel.cell (p:=⟨g2,o2 + s,none⟩) hg2).trans D2.out)
          have x5:=cell_regrown r2
          have hof:=fun (W:World) (HRW:Reads W W.heap.size 1 (some ⟨wr.heap.size,0,none⟩) 1 (byteVals [j])) => of_any (some ⟨wr.heap.size,0,none⟩) 1 1 _ [j] W HRW (Nat.le_refl _) (by simpa using hjl) (Nat.le_refl _) (by decide)
          go_wp2
          refine wp_region_hold_below 18 [0,1,2,3,4,5,8,9,10,11,12,13,14,15] [6,7,16,17] (by kernel_rfl) (by kernel_rfl) rfl (by kernel_rfl) ?_
          simp only [pickOps,List.getElem?_cons_zero,List.getElem?_cons_succ,List.drop_succ_cons,List.drop_zero]
          repeat (go_big_quiet_step (fail))
          refine wpQuiet_nil ?_
          clear x2 x3 x4 x5 t3'
          refine wpForce_step rfl (fun KK hKK => ?_)
          go_simp
          have LA:Below wr.heap.size wr (wr.alloc (.cells #[.int .u8 (j:Int)] 5)).drew:=((Below.refl _ wr).alloc (Nat.le_refl _) _).drew
          refine hKK _ _ (regrown_of_below LA) ?_
          clear hKK KK
          refine wpForce_step rfl (fun KK hKK => ?_)
          go_simp
          refine (hof (wr.alloc (.cells #[.int .u8 (j:Int)] 5)).drew ((reads_alloc wr [.int .u8 (j:Int)] 5 (by simp)).drew)).mono ?_
          rintro e w4 ⟨rfl,HB4⟩
          have L4:Below wr.heap.size wr w4:=LA.trans (HB4.mono LA.size)
          refine hKK _ _ (regrown_of_below L4) ?_
          clear hKK KK hof
          refine wpForce_step rfl (fun KK hKK => ?_)
          go_simp
          refine hKK _ _ (regrown_of_below L4) ?_
          clear hKK KK
          refine wpForce_step rfl (fun KK hKK => ?_)
          go_simp
          refine hKK _ _ (regrown_of_below (L4.alloc L4.size _)) ?_
          clear hKK KK
          refine wpForce_nil ?_
          have HB5:=(HB2.call L4).call ((Below.refl _ _).alloc (Nat.le_refl _) (.cells #[.int .i64 (s:Int),.int .i64 z,.int .u64 ((word (sOf [j]) 0:Nat):Int),.int .u64 ((word (sOf [j]) 1:Nat):Int),.int .u64 ((word (sOf [j]) 2:Nat):Int),.int .u64 ((word (sOf [j]) 3:Nat):Int),.string ot,.bool false] 61))
          have hrd:=reads_allocK w4 [.int .i64 (s:Int),.int .i64 z,.int .u64 ((word (sOf [j]) 0:Nat):Int),.int .u64 ((word (sOf [j]) 1:Nat):Int),.int .u64 ((word (sOf [j]) 2:Nat):Int),.int .u64 ((word (sOf [j]) 3:Nat):Int),.string ot,.bool false] 61 8 1 rfl
          have hoA:=HB5.oA
          have hone:=encA_one ⟨(s:Int),z,St.ofM (sOf [j]),ot,false⟩
          have hcast:∀ w5 v',World.ownsRow w5 (w1.heap.size + 1) 61 8 v' (A.length + 1) (encs encA A ++ encA ⟨(s:Int),z,St.ofM (sOf [j]),ot,false⟩)→w5.ownsRow (w1.heap.size + 1) 61 8 v' (A ++ [(⟨(s:Int),z,St.ofM (sOf [j]),ot,false⟩:Ar)]).length (encs encA (A ++ [(⟨(s:Int),z,St.ofM (sOf [j]),ot,false⟩:Ar)])):=fun w5 v' h => by rw [encs_snoc,List.length_append]; exact h
          have hne:(61:TypeId)≠32:=by decide
          have hA63:A.length + 1≤maxLen:=by unfold maxLen; omega
          have hAby:(A.length + 1) * 72≤140737488355328:=by omega
          have hbase:w1.heap.size + 1≤(w4.alloc (.cells #[.int .i64 (s:Int),.int .i64 z,.int .u64 ((word (sOf [j]) 0:Nat):Int),.int .u64 ((word (sOf [j]) 1:Nat):Int),.int .u64 ((word (sOf [j]) 2:Nat):Int),.int .u64 ((word (sOf [j]) 3:Nat):Int),.string ot,.bool false] 61)).heap.size:=HB5.size
          have e:arcsS q s ++ arcsJ q s (j + 1) = A ++ [⟨(s:Int),z,St.ofM (sOf [j]),ot,false⟩]:=by rw [Hst2.out,Har.out,if_neg (by omega),← HA.out,List.append_assoc]
          have hlen2:(A ++ [(⟨(s:Int),z,St.ofM (sOf [j]),ot,false⟩:Ar)]).length≤16384:=by simp; omega
          have He:=Lib.hid e
          have HL2:=Lib.hid hlen2
          clear e hlen2 HB4 L4 LA HB2 D2 QQ r1 r2
          go_wp2_with (at_builtin; refine wpList_append_any _ rfl _ _ 30 rfl (w1.heap.size + 1) 61 i0 _ 8 72 Tryz.underlying30 hi hy0 hy1 hy2 rfl (by decide) _ _ _ rfl hoA _ (some ⟨w4.heap.size,0,none⟩) 1 1 [.int .i64 (s:Int),.int .i64 z,.int .u64 ((word (sOf [j]) 0:Nat):Int),.int .u64 ((word (sOf [j]) 1:Nat):Int),.int .u64 ((word (sOf [j]) 2:Nat):Int),.int .u64 ((word (sOf [j]) 3:Nat):Int),.string ot,.bool false] rfl hrd hone hA63 hAby hbase ?_; intro v' w5 hown hgrow hloc; obtain ⟨Av2,cv2,hv,hv1,hv2,hv3⟩:=own_form hown; subst hv; have hown2:=hcast _ _ hown; have HWs:=HB5.putA hgrow hown2; have kt:=blk_keep HB5.t hgrow (own_blk HB5.oA HB5.t hne); have q1:=kt.cell 3; have q2:=kt.frozen 3; clear kt hown hown2 hgrow hloc hv1 hv2 hv3)
          refine NoPanic.normal ?_
          go_wp2
          go_roundw
          case rel => exact ⟨j + 1,_,by omega,by go_num,by rw [He.out]; exact HWs,by rw [He.out]; exact HL2.out⟩
          case measure => simp [intOf]; omega
       ·obtain rfl:j = 256:=by omega
        go_wp2
        go_roundw
        case rel => exact ⟨s + 1,_,vA2,by omega,by go_num,by rw [HE1.out]; exact HB2,hal2⟩
        case measure => simp [intOf]; omega
     ·have hE1:endsS q (s + 1) = E ++ [(⟨(s:Int),tl⟩:Tp)]:=by rw [Hends.out,hen]; rfl
      rw [hen] at d3
      have HE1:=Lib.hid hE1
      clear hE1 hen
      obtain ⟨i0,hi,hy0,hy1,hy2⟩:=info_parts tip_info
      obtain ⟨Ae,ce,rfl,ve1,ve2,ve3⟩:=own_form HB.oE
      have x1:=cell_regrown t2
      have x2:=cell_regrown b4
      have x3:=cell_regrown d4
      have hszr:=HB.size
      go_wp2
      refine wp_region_hold_below 10 [0,1,2,3,4,5,6,7] [8,9] (by kernel_rfl) (by kernel_rfl) rfl (by kernel_rfl) ?_
      simp only [pickOps,List.getElem?_cons_zero,List.getElem?_cons_succ,List.drop_succ_cons,List.drop_zero]
      repeat (go_big_quiet_step (fail))
      refine wpQuiet_nil ?_
      clear x1 x2 x3 b2 b3 b4 t2 t3
      have LD:Below wr.heap.size wr wr.drew:=(Below.refl _ wr).drew
      refine wpForce_step rfl (fun KK hKK => ?_)
      go_simp
      refine hKK _ _ (regrown_of_below LD) ?_
      clear hKK KK
      refine wpForce_step rfl (fun KK hKK => ?_)
      go_simp
      refine hKK _ _ (regrown_of_below (LD.alloc LD.size _)) ?_
      clear hKK KK
      refine wpForce_nil ?_
      have HB5:=(HB.call LD).call ((Below.refl _ _).alloc (Nat.le_refl _) (.cells #[.int .i64 (s:Int),.string tl] 54))
      have hrd:=reads_allocK wr.drew [.int .i64 (s:Int),.string tl] 54 2 1 rfl
      have hoE:=HB5.oE
      have hone:=encT_one ⟨(s:Int),tl⟩
      have hcast:∀ w5 v',World.ownsRow w5 (w1.heap.size + 1) 54 2 v' (E.length + 1) (encs encT E ++ encT ⟨(s:Int),tl⟩)→w5.ownsRow (w1.heap.size + 1) 54 2 v' (E ++ [(⟨(s:Int),tl⟩:Tp)]).length (encs encT (E ++ [(⟨(s:Int),tl⟩:Tp)])):=fun w5 v' h => by rw [encs_snoc,List.length_append]; exact h
      have hne:(54:TypeId)≠32:=by decide
      have hne2:(54:TypeId)≠27:=by decide
      have hA63:E.length + 1≤maxLen:=by unfold maxLen; omega
      have hAby:(E.length + 1) * 24≤140737488355328:=by omega
      have hbase:w1.heap.size + 1≤(wr.drew.alloc (.cells #[.int .i64 (s:Int),.string tl] 54)).heap.size:=HB5.size
      clear LD HB d4 d3 d2 d1
      go_wp2_with (at_builtin; refine wpList_append_any _ rfl _ _ 29 rfl (w1.heap.size + 1) 54 i0 _ 2 24 Tryz.underlying29 hi hy0 hy1 hy2 rfl (by decide) _ _ _ rfl hoE _ (some ⟨wr.heap.size,0,none⟩) 1 1 [.int .i64 (s:Int),.string tl] rfl hrd hone hA63 hAby hbase ?_; intro v' w5 hown hgrow hloc; obtain ⟨Ae2,ce2,hv,hv1,hv2,hv3⟩:=own_form hown; subst hv; have hown2:=hcast _ _ hown; have HWs:=HB5.putE hgrow hown2 hloc; have kt:=blk_keep HB5.t hgrow (own_blk HB5.oE HB5.t hne); have q1:=kt.cell 2; have q2:=kt.frozen 2; clear kt hown hown2 hgrow hloc hv1 hv2 hv3)
      refine NoPanic.normal ?_
      clear HB5 hrd hoE hone hcast hne hne2 hA63 hAby hbase i0 hi hy0 hy1 hy2
      go_wp2
      go_loopw [55] (fun i2 wr => ∃ j vA,j≤256∧i2 = .int .i64 ((j:Nat):Int)∧BackW w wr #[.string fr,.slice (some ⟨g1,o1,none⟩) n c1,.slice (some ⟨g2,o2,none⟩) n c2,.slice (some ⟨g3,o3,none⟩) n c3,.slice (some ⟨g4,o4,none⟩) n c4] w1.heap.size n (.slice Av 1 cv) (.slice Ae2 (E.length + 1) ce2) vA [⟨0,fr⟩] (E ++ [(⟨(s:Int),tl⟩:Tp)]) (arcsS q s ++ arcsJ q s j)∧(arcsS q s ++ arcsJ q s j).length≤16384) (fun i2 _ => 256 - (intOf i2).toNat)
      case atStart => exact ⟨0,vA,by omega,rfl,by simpa [arcsJ] using HWs,by simpa [arcsJ] using hal⟩
      case round =>
       clear hal HWs
       obtain ⟨j,vA2,hj,rfl,HB2,hal2⟩:=hrel
       have hsz3:=HB2.size
       have hgg:=HB2.gG
       by_cases hjl:j < 256
       ·have hk1:(0:Int)≤(j:Int):=by omega
        have hk2:(j:Int) < (256:Int):=by omega
        obtain ⟨Q1,Q2⟩:=QQ.out
        obtain ⟨h1,p1',rfl,hh1,r1⟩:=cell_at (d:=0) (Q1.below HB2.bel) j hjl
        obtain ⟨h2,p2',rfl,hh2,r2⟩:=cell_at (d:=ByteArray.empty) (Q2.below HB2.bel) j hjl
        have hnx:(q.next.getD s []).getD j 0 = q.nx s j:=rfl
        have hos:(q.outs.getD s []).getD j ByteArray.empty = q.os s j:=rfl
        rw [hnx] at r1
        rw [hos] at r2
        have hst:arcsJ q s (j + 1) = arcsJ q s j ++ arcAt q s j:=rfl
        have har:arcAt q s j = if q.nx s j < 0 then [] else [⟨(s:Int),q.nx s j,St.ofM (sOf [j]),q.os s j,false⟩]:=rfl
        have Hst2:=Lib.hid hst
        have Har:=Lib.hid har
        have hoz:(q.os s j).size≤9223372036854775807:=by
         unfold SeqM.os
         rw [List.getD_eq_getElem?_getD (l:=q.outs.getD s [])]
         rcases h:(q.outs.getD s [])[j]? with _ | x
         ·decide
         ·have hm:q.outs.getD s []∈q.outs:=by
            rw [List.getD_eq_getElem?_getD]
            rcases h2:q.outs[s]? with _ | y
            ·rw [List.getD_eq_getElem?_getD,h2] at h; cases h
            ·exact List.mem_of_getElem? h2
          have:=Hs.out _ hm x (List.mem_of_getElem? h)
          unfold maxLen at this
          exact this
        clear hst har hnx hos Q1 Q2
        generalize hA:arcsS q s ++ arcsJ q s j = A at *
        have HA:=Lib.hid hA
        clear hA
        generalize q.nx s j = z at *
        generalize q.os s j = ot at *
        by_cases hz0:z < 0
        ·go_wp2
         go_roundw
         case rel =>
          have e:arcsS q s ++ arcsJ q s (j + 1) = A:=by rw [Hst2.out,Har.out,if_pos hz0,List.append_nil,HA.out]
          exact ⟨j + 1,vA2,by omega,by go_num,by rw [e]; exact HB2,by rw [e]; exact hal2⟩
         case measure => simp [intOf]; omega
        ·obtain ⟨Aa,ca,rfl,va1,va2,va3⟩:=own_form HB2.oA
         have t3':=HB2.t.cell 3
         by_cases hful:16384≤A.length
         ·have k0:=HB2.res.cell 0
          have k1:=HB2.res.cell 1
          have k2:=HB2.res.cell 2
          have k3:=HB2.res.cell 3
          have f0:=HB2.res.frozen 0
          have f1:=HB2.res.frozen 1
          have f2:=HB2.res.frozen 2
          have f3:=HB2.res.frozen 3
          have hbl:=HB2.bel
          clear HB2
          go_wp2
          refine bodyPost_ret (v:=.tuple #[.agg #[.int .i64 0,.slice none 0 0,.slice none 0 0,.slice none 0 0],.int .i64 2]) (by simp [results,Tryz.results7,go_sem,k0,k1,k2,k3]) rfl (hp1.out _ 2 (by decide) (below_set4 hbl (by omega) _ _ _ _))
         ·obtain ⟨i0,hi,hy0,hy1,hy2⟩:=info_parts arc_info
          have x3:=cell_regrown t3'
          have x2:=cell_regrown (HB2.box.cell 2)
          have x4:=cell_regrown ((HB2.bel.cell (p:=⟨g2,o2 + s,none⟩) hg2).trans D2.out)
          have x5:=cell_regrown r2
          have hof:=fun (W:World) (HRW:Reads W W.heap.size 1 (some ⟨wr.heap.size,0,none⟩) 1 (byteVals [j])) => of_any (some ⟨wr.heap.size,0,none⟩) 1 1 _ [j] W HRW (Nat.le_refl _) (by simpa using hjl) (Nat.le_refl _) (by decide)
          go_wp2
          refine wp_region_hold_below 18 [0,1,2,3,4,5,8,9,10,11,12,13,14,15] [6,7,16,17] (by kernel_rfl) (by kernel_rfl) rfl (by kernel_rfl) ?_
          simp only [pickOps,List.getElem?_cons_zero,List.getElem?_cons_succ,List.drop_succ_cons,List.drop_zero]
          repeat (go_big_quiet_step (fail))
          refine wpQuiet_nil ?_
          clear x2 x3 x4 x5 t3'
          refine wpForce_step rfl (fun KK hKK => ?_)
          go_simp
          have LA:Below wr.heap.size wr (wr.alloc (.cells #[.int .u8 (j:Int)] 5)).drew:=((Below.refl _ wr).alloc (Nat.le_refl _) _).drew
          refine hKK _ _ (regrown_of_below LA) ?_
          clear hKK KK
          refine wpForce_step rfl (fun KK hKK => ?_)
          go_simp
          refine (hof (wr.alloc (.cells #[.int .u8 (j:Int)] 5)).drew ((reads_alloc wr [.int .u8 (j:Int)] 5 (by simp)).drew)).mono ?_
          rintro e w4 ⟨rfl,HB4⟩
          have L4:Below wr.heap.size wr w4:=LA.trans (HB4.mono LA.size)
          refine hKK _ _ (regrown_of_below L4) ?_
          clear hKK KK hof
          refine wpForce_step rfl (fun KK hKK => ?_)
          go_simp
          refine hKK _ _ (regrown_of_below L4) ?_
          clear hKK KK
          refine wpForce_step rfl (fun KK hKK => ?_)
          go_simp
          refine hKK _ _ (regrown_of_below (L4.alloc L4.size _)) ?_
          clear hKK KK
          refine wpForce_nil ?_
          have HB5:=(HB2.call L4).call ((Below.refl _ _).alloc (Nat.le_refl _) (.cells #[.int .i64 (s:Int),.int .i64 z,.int .u64 ((word (sOf [j]) 0:Nat):Int),.int .u64 ((word (sOf [j]) 1:Nat):Int),.int .u64 ((word (sOf [j]) 2:Nat):Int),.int .u64 ((word (sOf [j]) 3:Nat):Int),.string ot,.bool false] 61))
          have hrd:=reads_allocK w4 [.int .i64 (s:Int),.int .i64 z,.int .u64 ((word (sOf [j]) 0:Nat):Int),.int .u64 ((word (sOf [j]) 1:Nat):Int),.int .u64 ((word (sOf [j]) 2:Nat):Int),.int .u64 ((word (sOf [j]) 3:Nat):Int),.string ot,.bool false] 61 8 1 rfl
          have hoA:=HB5.oA
          have hone:=encA_one ⟨(s:Int),z,St.ofM (sOf [j]),ot,false⟩
          have hcast:∀ w5 v',World.ownsRow w5 (w1.heap.size + 1) 61 8 v' (A.length + 1) (encs encA A ++ encA ⟨(s:Int),z,St.ofM (sOf [j]),ot,false⟩)→w5.ownsRow (w1.heap.size + 1) 61 8 v' (A ++ [(⟨(s:Int),z,St.ofM (sOf [j]),ot,false⟩:Ar)]).length (encs encA (A ++ [(⟨(s:Int),z,St.ofM (sOf [j]),ot,false⟩:Ar)])):=fun w5 v' h => by rw [encs_snoc,List.length_append]; exact h
          have hne:(61:TypeId)≠32:=by decide
          have hA63:A.length + 1≤maxLen:=by unfold maxLen; omega
          have hAby:(A.length + 1) * 72≤140737488355328:=by omega
          have hbase:w1.heap.size + 1≤(w4.alloc (.cells #[.int .i64 (s:Int),.int .i64 z,.int .u64 ((word (sOf [j]) 0:Nat):Int),.int .u64 ((word (sOf [j]) 1:Nat):Int),.int .u64 ((word (sOf [j]) 2:Nat):Int),.int .u64 ((word (sOf [j]) 3:Nat):Int),.string ot,.bool false] 61)).heap.size:=HB5.size
          have e:arcsS q s ++ arcsJ q s (j + 1) = A ++ [⟨(s:Int),z,St.ofM (sOf [j]),ot,false⟩]:=by rw [Hst2.out,Har.out,if_neg (by omega),← HA.out,List.append_assoc]
          have hlen2:(A ++ [(⟨(s:Int),z,St.ofM (sOf [j]),ot,false⟩:Ar)]).length≤16384:=by simp; omega
          have He:=Lib.hid e
          have HL2:=Lib.hid hlen2
          clear e hlen2 HB4 L4 LA HB2 D2 QQ r1 r2
          go_wp2_with (at_builtin; refine wpList_append_any _ rfl _ _ 30 rfl (w1.heap.size + 1) 61 i0 _ 8 72 Tryz.underlying30 hi hy0 hy1 hy2 rfl (by decide) _ _ _ rfl hoA _ (some ⟨w4.heap.size,0,none⟩) 1 1 [.int .i64 (s:Int),.int .i64 z,.int .u64 ((word (sOf [j]) 0:Nat):Int),.int .u64 ((word (sOf [j]) 1:Nat):Int),.int .u64 ((word (sOf [j]) 2:Nat):Int),.int .u64 ((word (sOf [j]) 3:Nat):Int),.string ot,.bool false] rfl hrd hone hA63 hAby hbase ?_; intro v' w5 hown hgrow hloc; obtain ⟨Av2,cv2,hv,hv1,hv2,hv3⟩:=own_form hown; subst hv; have hown2:=hcast _ _ hown; have HWs:=HB5.putA hgrow hown2; have kt:=blk_keep HB5.t hgrow (own_blk HB5.oA HB5.t hne); have q1:=kt.cell 3; have q2:=kt.frozen 3; clear kt hown hown2 hgrow hloc hv1 hv2 hv3)
          refine NoPanic.normal ?_
          go_wp2
          go_roundw
          case rel => exact ⟨j + 1,_,by omega,by go_num,by rw [He.out]; exact HWs,by rw [He.out]; exact HL2.out⟩
          case measure => simp [intOf]; omega
       ·obtain rfl:j = 256:=by omega
        go_wp2
        go_roundw
        case rel => exact ⟨s + 1,_,vA2,by omega,by go_num,by rw [HE1.out]; exact HB2,hal2⟩
        case measure => simp [intOf]; omega
    ·obtain ⟨hs1,hs2,hs3,hs4⟩:=hS0.out
     obtain ⟨wf1,wf2,wf3⟩:=HWF.out
     obtain rfl:s = n:=by omega
     obtain ⟨Ae,ce,rfl,ve1,ve2,ve3⟩:=own_form HB.oE
     obtain ⟨Aa,ca,rfl,va1,va2,va3⟩:=own_form HB.oA
     have hst':startsS q = [⟨0,fr⟩]:=by rw [Hst.out,if_neg (by omega)]
     rw [hst'] at wf1 hs2
     have HF:=HB.fst ⟨by omega,by omega⟩ (back0 q) ⟨hs1,hs2,hs3,hs4⟩ wf1 wf2 wf3
     clear hst'
     have hCk:=fstCheck_any (back0 q) _ wr.heap.size wr HF (Nat.le_refl _)
     have hSo:∀ W,Below wr.heap.size wr W→Calls Tryz.prog 21 #[.agg #[.int .i64 (s:Int),.slice Av 1 cv,.slice Ae (endsS q s).length ce,.slice Aa (arcsS q s).length ca]] W (GF (if fckB (back0 q) = true then sortF (back0 q) else fs0) (okE (fckB (back0 q))) W):=fun W hb => fstSort_any (back0 q) _ _ W (HF.below hb) hb.size
     have t0:=HB.t.cell 0
     have t1:=HB.t.cell 1
     have t2:=HB.t.cell 2
     have t3:=HB.t.cell 3
     have hszr:=HB.size
     have hgg:=HB.gG
     clear HF hs1 hs2 hs3 hs4 wf1 wf2 wf3
     have HP1:=Lib.hid (hp1.out)
     have HP2:=Lib.hid (hp2.out)
     rcases hfc:fckB (back0 q) with _ | _
     ·rw [hfc] at hCk
      replace hCk:Calls Tryz.prog 20 _ _ (Gives (.int .i64 1) _):=hCk
      clear hSo hfc
      go_wp2_with fail
      refine hCk.mono ?_
      rintro e w6 ⟨rfl,HB6⟩
      have HBc:=HB.call HB6
      have k0:=HBc.res.cell 0
      have k1:=HBc.res.cell 1
      have k2:=HBc.res.cell 2
      have k3:=HBc.res.cell 3
      have f0:=HBc.res.frozen 0
      have f1:=HBc.res.frozen 1
      have f2:=HBc.res.frozen 2
      have f3:=HBc.res.frozen 3
      have hbl:=HBc.bel
      clear HB HBc t0 t1 t2 t3
      go_wp2
      refine bodyPost_ret (v:=.tuple #[.agg #[.int .i64 0,.slice none 0 0,.slice none 0 0,.slice none 0 0],.int .i64 2]) (by simp [results,Tryz.results7,go_sem,k0,k1,k2,k3]) rfl (HP1.out _ 2 (by decide) (below_set4 hbl (by omega) _ _ _ _))
     ·rw [hfc] at hCk hSo
      replace hCk:Calls Tryz.prog 20 _ _ (Gives (.int .i64 0) _):=hCk
      replace hSo:∀ W,Below wr.heap.size wr W→Calls Tryz.prog 21 #[.agg #[.int .i64 (s:Int),.slice Av 1 cv,.slice Ae (endsS q s).length ce,.slice Aa (arcsS q s).length ca]] W (GF (sortF (back0 q)) 0 W):=hSo
      have Hfc:=Lib.hid hfc
      clear hfc
      go_wp2_with fail
      refine hCk.mono ?_
      rintro e w6 ⟨rfl,HB6⟩
      have HBc:=HB.call HB6
      have u0:=HBc.t.cell 0
      have u1:=HBc.t.cell 1
      have u2:=HBc.t.cell 2
      have u3:=HBc.t.cell 3
      have hsz6:w.heap.size + 1 < w6.heap.size:=by have:=HB6.size; omega
      clear HB t0 t1 t2 t3
      go_wp2_with fail
      refine (hSo w6 HB6).mono ?_
      rintro e w7 ⟨v7,rfl,HF7,HN7,HB7⟩
      obtain ⟨N7,X1,y1,z1,X2,y2,z2,X3,y3,z3,hv7,_,_,_⟩:=id HN7
      subst hv7
      have HBd:=HBc.call HB7
      have k0:=HBd.res.cell 0
      have k1:=HBd.res.cell 1
      have k2:=HBd.res.cell 2
      have k3:=HBd.res.cell 3
      have f0:=HBd.res.frozen 0
      have f1:=HBd.res.frozen 1
      have f2:=HBd.res.frozen 2
      have f3:=HBd.res.frozen 3
      have hbl:=HBd.bel
      have HE:=Lib.hid (HF7.freshSet4 HN7 (g:=w.heap.size + 1) hsz6 (.int .i64 N7) (.slice X1 y1 z1) (.slice X2 y2 z2) (.slice X3 y3 z3))
      have HNl:=Lib.hid (HN7.less (B':=w.heap.size) (by omega))
      clear HBc HBd u0 u1 u2 u3 hSo HF7 HN7
      go_wp2
      refine bodyPost_ret (v:=.tuple #[.agg #[.int .i64 N7,.slice X1 y1 z1,.slice X2 y2 z2,.slice X3 y3 z3],.int .i64 0]) (by simp [results,Tryz.results7,go_sem,k0,k1,k2,k3]) rfl (HP2.out _ _ ⟨_,rfl,HE.out,HNl.out,below_set4 hbl (by omega) _ _ _ _⟩ Hfc.out)
end Go.Proofs.YtcondkihpmmnnaaGreatDoor
