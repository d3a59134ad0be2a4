/- Lemmas, part 18 of 50. No condition. -/
import Derived.Test.YtcondkihpmmnnaaGreatDoorQ13
import Derived.Test.YtcondkihpmmnnaaGreatDoorQ17
namespace Go.Proofs.YtcondkihpmmnnaaGreatDoor
open Go.RowKit Go.Sort
set_option maxRecDepth 100000 in
set_option maxHeartbeats 8000000 in
theorem apply_any (q:SeqM) (v:Value) (B:Nat) (t:ByteArray) (w:World) (HS:SeqAt w B q v) (hB:B≤w.heap.size) (ht:t.size≤100000000) :
    Calls Tryz.prog 11 #[v,.string t] w (ApplyPost q t w):=by
 have hck:∀ W,Below B w W→B≤W.heap.size→Calls Tryz.prog 18 #[v] W (Gives (.int .i64 (okE (ckB q))) W):=fun W hb hz => by
  refine seqCheck_any q v B W ?_ hz
  obtain ⟨A1,c1,A2,c2,A3,c3,A4,c4,rfl,hf,l1,l2,l3,l4,m1,m2,m3,m4,R1,hz,R2,hs,R3,R4,ht⟩:=HS
  exact ⟨A1,c1,A2,c2,A3,c3,A4,c4,rfl,hf,l1,l2,l3,l4,m1,m2,m3,m4,R1.below hb,hz,R2.below hb,hs,R3.below hb,R4.below hb,ht⟩
 obtain ⟨A1,c1,A2,c2,A3,c3,A4,c4,rfl,hf,l1,l2,l3,l4,m1,m2,m3,m4,R1,hz,R2,hs,R3,R4,htl⟩:=HS
 have B0:Below B w (w.alloc (.cells #[.string q.front,.slice A1 q.next.length c1,.slice A2 q.outs.length c2,.slice A3 q.ends.length c3,.slice A4 q.tail.length c4] 27)):=(Below.refl _ w).alloc hB _
 have hck0:=hck _ B0 (by simp; omega)
 rcases hcq:ckB q with _ | _
 ·rw [hcq] at hck0
  replace hck0:Calls Tryz.prog 18 _ _ (Gives (.int .i64 1) _):=hck0
  have hp:=Lib.hid (fun w' (hb:Below w.heap.size w w') => show ApplyPost q t w (.returned (.tuple #[.string ByteArray.empty,.int .i64 0,.bool false,.int .i64 1])) w' from ⟨_,0,false,1,rfl,hb,Nat.zero_le _,(fun _ => rfl),(fun h => by rw [hcq] at h; cases h),(fun _ => rfl)⟩)
  clear hck R1 R2 R3 R4 hz hs htl hcq B0
  generalize q.next.length = n1 at *
  generalize q.outs.length = n2 at *
  generalize q.ends.length = n3 at *
  generalize q.tail.length = n4 at *
  generalize q.front = fr at *
  go_enter Tryz.func11,Tryz.ntmps11
  go_wp2_with fail
  refine hck0.mono ?_
  rintro e w1 ⟨rfl,HB1⟩
  go_wp2
  exact bodyPost_ret (v:=.tuple #[.string ByteArray.empty,.int .i64 0,.bool false,.int .i64 1]) (by simp [results,Tryz.results11,go_sem]; rfl) rfl (hp.out _ (((Below.refl _ w).alloc (Nat.le_refl _) _).trans (HB1.mono (by simp))))
 ·rw [hcq] at hck0
  replace hck0:Calls Tryz.prog 18 _ _ (Gives (.int .i64 0) _):=hck0
  clear hck B0
  obtain ⟨p1,p2,p3,p4,p5,p6⟩:=ck_parts hcq
  have HP6:=Lib.hid p6
  have HSZ:=Lib.hid (ck_sizes hcq)
  have hno:=Lib.hid (fun w' (k:Int) (hb:Below w.heap.size w w') (h2:q.run (bl t) = none) => apply_no (q:=q) (t:=t) k hb hcq h2)
  have hyes:=Lib.hid (fun w' (o:ByteArray) (k:Int) (hb:Below w.heap.size w w') (h2:q.run (bl t) = some (bl o)) (hz:o.size≤4096 * (t.size + 2)) => show ApplyPost q t w (.returned (.tuple #[.string o,.int .i64 k,.bool true,.int .i64 0])) w' from ⟨o,k,true,0,rfl,hb,hz,(fun h => by rw [hcq] at h; cases h),(fun _ => ⟨rfl,h2⟩),(fun h => by cases h)⟩)
  have hrun:=Lib.hid (show q.run (bl t) = if q.next.length = 0 then none else (q.runL 0 (bl t)).map (bl q.front ++ ·) from rfl)
  have hW:=Lib.hid (show SeqW q from ⟨hf,hz,hs,htl⟩)
  have R1':=R1.more hB
  have R2':=R2.more hB
  have R3':=R3.more hB
  have R4':=R4.more hB
  clear R1 R2 R3 R4 p6 hs hz htl hcq
  rw [p2] at hck0 l2 R2' ⊢
  rw [p3] at hck0 l3 R3' ⊢
  rw [p4] at hck0 l4 R4' ⊢
  generalize hn:q.next.length = n at *
  have Hn:=Lib.hid hn
  clear hn p2 p3 p4
  unfold maxLen at hf m1 m2 m3 m4
  rcases Nat.eq_zero_or_pos n with hn0 | hn0
  ·have hr:q.run (bl t) = none:=by rw [hrun.out,if_pos hn0]
   have HR:=Lib.hid hr
   clear hr
   generalize q.front = fr at *
   subst hn0
   go_enter Tryz.func11,Tryz.ntmps11
   go_wp2_with fail
   refine hck0.mono ?_
   rintro e w1 ⟨rfl,HB1⟩
   have K:=(Blk.new w 27 #[.string fr,.slice A1 0 c1,.slice A2 0 c2,.slice A3 0 c3,.slice A4 0 c4]).below HB1 (by simp)
   have k1:=K.cell 1
   go_wp2
   exact bodyPost_ret (v:=.tuple #[.string ByteArray.empty,.int .i64 0,.bool false,.int .i64 0]) (by simp [results,Tryz.results11,go_sem]; rfl) rfl (hno.out _ 0 (((Below.refl _ w).alloc (Nat.le_refl _) _).trans (HB1.mono (by simp))) HR.out)
  ·have hr:q.run (bl t) = (q.runL 0 (bl t)).map (bl q.front ++ ·):=by rw [hrun.out,if_neg (by omega)]
   have HR:=Lib.hid hr
   clear hr hrun
   have e1:((n:Int) == 0) = false:=by simp; omega
   generalize q.front = fr at *
   go_enter Tryz.func11,Tryz.ntmps11
   go_wp2_with fail
   refine hck0.mono ?_
   rintro e w1 ⟨rfl,HB1⟩
   clear hck0
   have K:=(Blk.new w 27 #[.string fr,.slice A1 n c1,.slice A2 n c2,.slice A3 n c3,.slice A4 n c4]).below HB1 (by simp)
   have L1:=((Below.refl _ w).alloc (Nat.le_refl _) (.cells #[.string fr,.slice A1 n c1,.slice A2 n c2,.slice A3 n c3,.slice A4 n c4] 27)).trans (HB1.mono (by simp))
   have hz1:w.heap.size < w1.heap.size:=K.lt
   have HW0:AppW w (w1.alloc (.cells #[.pointer none,.slice none 0 0] 83)) #[.string fr,.slice A1 n c1,.slice A2 n c2,.slice A3 n c3,.slice A4 n c4] w1.heap.size [] :=
    ⟨K.alloc _,.inl ⟨Nat.le_refl _,.slice none 0 0,heap_alloc_new w1 _,World.ownsRowF_of (World.ownsRow_nil _ _ _ _),by simp [Value.ownBlock]⟩,hz1,L1.alloc (by omega) _⟩
   have k0:=K.cell 0
   have k1:=K.cell 1
   have b0:=HW0.box.cell 0
   have b1:=HW0.box.cell 1
   clear HB1 K L1
   go_wp2_with fail
   refine (writeString_any w1.heap.size w1.heap.size (Lib.byteCells []) fr _ HW0.bld (by simp [Lib.byteCells]; omega) (by simp)).mono ?_
   rintro e w2 ⟨rfl,hbd,hbw,_⟩
   have HW1:=HW0.write fr hbd hbw
   clear HW0 hbd hbw k0 k1 b0 b1
   have u1:=HW1.box.cell 1
   go_wp2
   clear u1
   go_loopw [9,24] (fun sv i wr => ∃ (s k:Nat) (acc rest:List UInt8),s < n∧k≤t.size∧sv = .int .i64 (s:Int)∧i = .int .i64 (k:Int)∧AppW w wr #[.string fr,.slice A1 n c1,.slice A2 n c2,.slice A3 n c3,.slice A4 n c4] w1.heap.size acc∧acc.length≤4096 * (k + 1)∧acc = bl fr ++ rest∧q.runL 0 (bl t) = (q.runL s ((bl t).drop k)).map (rest ++ ·)) (fun _ i _ => t.size - (intOf i).toNat)
   case atStart => exact ⟨0,0,_,[],hn0,Nat.zero_le _,rfl,rfl,HW1,by simp only [List.nil_append,bl_len]; omega,by simp,by simp⟩
   case round =>
    clear HW1
    obtain ⟨s,k,acc,rest,hsn,hk,rfl,rfl,HA,hal,hacc,hru⟩:=hrel
    have hg:=HA.gt
    have hgz:=bld_lt HA.bld
    have hi1:(0:Int)≤(s:Int):=by omega
    have hi2:(s:Int) < (n:Int):=by omega
    have hlen:=HP6.out s hsn
    obtain ⟨hsz1,hsz2⟩:=HSZ.out s hsn
    have hacc2:=Lib.hid hacc
    have hru2:=Lib.hid hru
    clear hacc hru
    by_cases hkl:k < t.size
    ·have hj1:(0:Int)≤(k:Int):=by omega
     have hj2:(k:Int) < (t.size:Int):=by omega
     have e1:(q.next.map fun r => r.map (Value.int .i64)).getD s [] = (q.next.getD s []).map (Value.int .i64):=by
      rw [List.getD_eq_getElem?_getD,List.getD_eq_getElem?_getD,List.getElem?_map]
      cases q.next[s]? <;> rfl
     have e2:(q.outs.map fun r => r.map Value.string).getD s [] = (q.outs.getD s []).map Value.string:=by
      rw [List.getD_eq_getElem?_getD,List.getD_eq_getElem?_getD,List.getElem?_map]
      cases q.outs[s]? <;> rfl
     obtain ⟨g1,o1,A1',d1,rfl,hg1,x1,Q1,y1,z1⟩:=R1'.at_ s hsn
     obtain ⟨g2,o2,A2',d2,rfl,hg2,x2,Q2,y2,z2⟩:=R2'.at_ s hsn
     rw [e1] at x1 Q1 y1
     rw [e2] at x2 Q2 y2
     simp only [List.length_map] at x1 x2 Q1 Q2 y1 y2
     rw [hlen.1] at x1 Q1 y1
     rw [hlen.2] at x2 Q2 y2
     have hb256:t[k].toNat < 256:=t[k].toNat_lt
     obtain ⟨h1,q1',rfl,hh1,r1⟩:=cell_at (d:=0) Q1 t[k].toNat hb256
     obtain ⟨h2,q2',rfl,hh2,r2⟩:=cell_at (d:=ByteArray.empty) Q2 t[k].toNat hb256
     have hnx:(q.next.getD s []).getD t[k].toNat 0 = q.nx s t[k].toNat:=rfl
     have hos:(q.outs.getD s []).getD t[k].toNat ByteArray.empty = q.os s t[k].toNat:=rfl
     rw [hnx] at r1
     rw [hos] at r2
     have hdr:=drop_at t k hkl
     have hrc:=runL_cons q s t[k] ((bl t).drop (k + 1))
     have hzz:=hsz2 _ hb256
     have Hdr:=Lib.hid hdr
     have Hrc:=Lib.hid hrc
     clear e1 e2 hlen hnx hos hdr hrc hsz2 Q1 Q2
     have c1':=cell_regrown (HA.box.cell 1)
     have c2':=cell_regrown ((HA.bel.cell (p:=⟨g1,o1 + s,none⟩) hg1).trans x1)
     have c3':=cell_regrown ((HA.bel.cell (p:=⟨h1,q1' + t[k].toNat,none⟩) hh1).trans r1)
     have hbi:(0:Int)≤(t[k].toNat:Int):=by omega
     have hbj:(t[k].toNat:Int) < (256:Int):=by omega
     generalize q.nx s t[k].toNat = z at *
     generalize q.os s t[k].toNat = ot at *
     go_wp2
     refine wp_region_quiet_below (by kernel_rfl) (by kernel_rfl) ?_
     repeat (go_big_quiet_step (fail))
     refine wpQuiet_nil ?_
     intro w5 hw5
     have HB5:=below_of hw5
     have HA5:=HA.call HB5
     clear hw5 c1' c2' c3' HB5 HA
     by_cases hz0:z < 0
     ·have hn:q.run (bl t) = none:=by rw [HR.out,hru2.out,Hdr.out,Hrc.out,if_pos hz0]; rfl
      have HN:=Lib.hid hn
      have hbl:=HA5.bel
      clear hn HA5
      go_wp2
      exact bodyPost_ret (v:=.tuple #[.string ByteArray.empty,.int .i64 (k:Int),.bool false,.int .i64 0]) (by simp [results,Tryz.results11,go_sem]; rfl) rfl (hno.out _ (k:Int) hbl HN.out)
     ·have d1':=cell_regrown (HA5.box.cell 2)
      have d2':=cell_regrown ((HA5.bel.cell (p:=⟨g2,o2 + s,none⟩) hg2).trans x2)
      have d3':=cell_regrown ((HA5.bel.cell (p:=⟨h2,q2' + t[k].toNat,none⟩) hh2).trans r2)
      have hz1':(0:Int)≤z:=by omega
      have hgz5:=bld_lt HA5.bld
      go_wp2
      refine wp_region_tail_below 10 (by kernel_rfl) (by kernel_rfl) ?_
      simp only [List.take_succ_cons,List.take_zero,List.drop_succ_cons,List.drop_zero]
      repeat (go_big_quiet_step (fail))
      refine wpQuiet_nil ?_
      intro w6 hw6
      have HA6:=HA5.call (below_of hw6)
      clear hw6 d1' d2' d3' HA5
      go_wp2_with fail
      refine (writeString_any w1.heap.size w1.heap.size (Lib.byteCells acc) ot _ HA6.bld (by rw [Lib.byteCells_length]; omega) (Nat.le_of_lt (bld_lt HA6.bld))).mono ?_
      rintro e w7 ⟨rfl,hbd,hbw,_⟩
      have HA7:=HA6.write ot hbd hbw
      clear HA6 hbd hbw
      go_wp2
      go_roundw
      case rel =>
       refine ⟨z.toNat,k + 1,acc ++ bl ot,rest ++ bl ot,by omega,by omega,by rw [Int.toNat_of_nonneg hz1'],by go_num,HA7,?_,?_,?_⟩
       ·rw [List.length_append,bl_len]; omega
       ·rw [hacc2.out,List.append_assoc]
       ·rw [hru2.out,Hdr.out,Hrc.out,if_neg (by omega),Option.map_map]
        congr 1
        funext l
        simp [bl]
      case measure => simp [intOf]; omega
    ·have ek:k = t.size:=by omega
     obtain ⟨g3,o3,rfl,hg3,x3⟩:=cell_at (d:=false) R3' s hsn
     obtain ⟨g4,o4,rfl,hg4,x4⟩:=cell_at (d:=ByteArray.empty) R4' s hsn
     have hen:q.ends.getD s false = q.en s:=rfl
     have htl:q.tail.getD s ByteArray.empty = q.tl s:=rfl
     rw [hen] at x3
     rw [htl] at x4
     have hrn:=runL_nil q s
     have hdn:(bl t).drop k = []:=by rw [ek]; exact List.drop_of_length_le (Nat.le_refl _)
     have Hrn:=Lib.hid hrn
     have Hdn:=Lib.hid hdn
     have b3:=HA.box.cell 3
     have b4:=HA.box.cell 4
     replace x3:=(HA.bel.cell (p:=⟨g3,o3 + s,none⟩) hg3).trans x3
     clear hen htl hrn hdn hsz2 hlen
     rcases hen:q.en s with _ | _
     ·rw [hen] at x3
      have hn:q.run (bl t) = none:=by rw [HR.out,hru2.out,Hdn.out,Hrn.out,hen]; rfl
      have HN:=Lib.hid hn
      have hbl:=HA.bel
      clear hn hen HA
      go_wp2
      exact bodyPost_ret (v:=.tuple #[.string ByteArray.empty,.int .i64 (t.size:Int),.bool false,.int .i64 0]) (by simp [results,Tryz.results11,go_sem]; rfl) rfl (hno.out _ (t.size:Int) hbl HN.out)
     ·rw [hen] at x3
      have x4':=(HA.bel.cell (p:=⟨g4,o4 + s,none⟩) hg4).trans x4
      have hn:q.run (bl t) = some (acc ++ bl (q.tl s)):=by
       rw [HR.out,hru2.out,Hdn.out,Hrn.out,hen,hacc2.out]
       simp [bl]
      have HN:=Lib.hid hn
      clear hn hen
      generalize q.tl s = tl at *
      go_wp2_with fail
      refine (writeString_any w1.heap.size w1.heap.size (Lib.byteCells acc) tl _ HA.bld (by rw [Lib.byteCells_length]; omega) (Nat.le_of_lt (bld_lt HA.bld))).mono ?_
      rintro e w7 ⟨rfl,hbd,hbw,_⟩
      have HA7:=HA.write tl hbd hbw
      clear HA hbd hbw b3 b4 x3 x4'
      go_wp2_with fail
      refine (Tryz.Builder_String_any_k w1.heap.size w1.heap.size (acc ++ bl tl) _ HA7.bld (Nat.le_of_lt (bld_lt HA7.bld))).mono ?_
      rintro e w8 ⟨rfl,_,hbw,_⟩
      have hbl:=HA7.bel.trans (hbw.mono (Nat.le_of_lt hg))
      have hz8:(ByteArray.mk (acc ++ bl tl).toArray).size≤4096 * (t.size + 2):=by
       show (acc ++ bl tl).toArray.size≤_
       rw [List.size_toArray,List.length_append,bl_len]
       omega
      have HZ8:=Lib.hid hz8
      clear HA7 hbw hz8
      generalize acc ++ bl tl = l at *
      go_wp2
      exact bodyPost_ret (v:=.tuple #[.string ⟨l.toArray⟩,.int .i64 (t.size:Int),.bool true,.int .i64 0]) (by simp [results,Tryz.results11,go_sem]) rfl (hyes.out _ ⟨l.toArray⟩ (t.size:Int) hbl HN.out HZ8.out)
end Go.Proofs.YtcondkihpmmnnaaGreatDoor
namespace Go.Proofs.YtcondkihpmmnnaaGreatDoor
open Go.RowKit Go.Sort
def TipPostE (c:Ch) (x:Tp) (wr:World) (vS vE vA:Value) (S E:List Tp) (A:List Ar) (ov:Bool) (e:Ending) (w':World):Prop :=
 e = .returned (.tuple #[])∧∃ v,Stays c wr vE w' v∧ChW c w' vS v vA S (tipF x E ov).1 A (tipF x E ov).2
set_option maxRecDepth 100000 in
set_option maxHeartbeats 4000000 in
theorem tipE_any (c:Ch) (x:Tp) (wr:World) (vS vE vA:Value) (S E:List Tp) (A:List Ar) (ov:Bool) (HW:ChW c wr vS vE vA S E A ov) (hx:TpW x) (hS:E.length≤1024) :
    Calls Tryz.prog 55 #[.pointer (some ⟨c.G,0,none⟩),.int .i64 1,.pointer (some ⟨c.G,15,none⟩),.agg (encT x).toArray] wr (TipPostE c x wr vS vE vA S E A ov):=by
 obtain ⟨kl,hkey⟩:=keyOf_tip x hx
 have HB:=(Below.refl wr.heap.size wr).alloc (Nat.le_refl _) (.cells (encT x).toArray 54)
 have H1:=HW.call HB
 have HX:=Blk.new wr 54 (encT x).toArray
 have hlk:=fun (n:Nat) os => seen_look law_tip Tryz.underlying70 zero_unit (H1.sE.below (below_regrown (wr.alloc (.cells (encT x).toArray 54)) n os) (Nat.le_refl _)) x hx hkey
 have HP:=Lib.hid (fun w' v E' ov' (he:tipF x E ov = (E',ov')) (hs:Stays c wr vE w' v) (h:ChW c w' vS v vA S E' A ov') => show TipPostE c x wr vS vE vA S E A ov (.returned (.tuple #[])) w' from ⟨rfl,v,hs,by rw [he]; exact h⟩)
 have HF:=Lib.hid (show tipF x E ov = if x∈E∨ov = true then (E,ov) else if 1024≤E.length∨1024 < x.out.size then (E,true) else (E ++ [x],false) from rfl)
 obtain ⟨xs,xo⟩:=x
 replace hkey:keyOf Tryz.prog 54 (.agg #[.int .i64 xs,.string xo]) = some kl:=hkey
 replace HB:Below wr.heap.size wr (wr.alloc (.cells #[.int .i64 xs,.string xo] 54)):=HB
 replace H1:ChW c (wr.alloc (.cells #[.int .i64 xs,.string xo] 54)) vS vE vA S E A ov:=H1
 replace HX:Blk (wr.alloc (.cells #[.int .i64 xs,.string xo] 54)) wr.heap.size 54 #[.int .i64 xs,.string xo]:=HX
 have hmem:=Lib.hid (show (decide ((⟨xs,xo⟩:Tp)∈E) = true↔(⟨xs,xo⟩:Tp)∈E) from decide_eq_true_iff)
 generalize decide ((⟨xs,xo⟩:Tp)∈E) = bm at *
 replace hlk:∀ n os,(Instr.lookup 70 (.map (some c.M1)) (.agg #[.int .i64 xs,.string xo]) true).run Tryz.prog (grow (redrawn (wr.alloc (.cells #[.int .i64 xs,.string xo] 54)) n) os) = .ok (.tuple #[.agg #[],.bool bm]) (grow (redrawn (wr.alloc (.cells #[.int .i64 xs,.string xo] 54)) n) os):=hlk
 have b12:∀ n os,(grow (redrawn (wr.alloc (.cells #[.int .i64 xs,.string xo] 54)) n) os).cell? ⟨c.G,12,none⟩ = some (.map (some c.M1)):=cell_regrown (H1.box.cell 12)
 have x0:=cell_regrown (HX.cell 0)
 have x1:=cell_regrown (HX.cell 1)
 show Calls Tryz.prog 55 #[.pointer (some ⟨c.G,0,none⟩),.int .i64 1,.pointer (some ⟨c.G,15,none⟩),.agg #[.int .i64 xs,.string xo]] wr _
 go_enter Tryz.func55,Tryz.ntmps55
 go_wp2
 refine wp_region_hold_below 13 [0,1,2,3,4,5,6,7,8,9,10] [11,12] (by kernel_rfl) (by kernel_rfl) rfl (by kernel_rfl) ?_
 simp only [pickOps,List.getElem?_cons_zero,List.getElem?_cons_succ,List.drop_succ_cons,List.drop_zero]
 repeat (go_big_quiet_step (fail))
 refine wpQuiet_nil ?_
 clear hlk b12 x0 x1
 have LA:Below (wr.alloc (.cells #[.int .i64 xs,.string xo] 54)).heap.size (wr.alloc (.cells #[.int .i64 xs,.string xo] 54)) ((wr.alloc (.cells #[.int .i64 xs,.string xo] 54)).alloc (.cells #[] 158)).drew:=((Below.refl _ _).alloc (Nat.le_refl _) _).drew
 refine wpForce_step rfl (fun KK hKK => ?_)
 go_simp
 refine hKK _ _ (regrown_of_below LA) ?_
 clear hKK KK
 refine wpForce_step rfl (fun KK hKK => ?_)
 go_simp
 refine hKK _ _ (regrown_of_below LA) ?_
 clear hKK KK
 refine wpForce_nil ?_
 go_wp2
 refine NoPanic.normal ?_
 have hgx:vE.ownBlock≠some wr.heap.size:=fun e => by have:=(own_lt HW.oE _ e).2; omega
 have ST2:Stays c wr vE _ vE:=(Stays.call HB).trans (Stays.call LA)
 have H2:=H1.call LA
 have HX2:=HX.below LA HX.lt
 have hgz:wr.heap.size < ((wr.alloc (.cells #[.int .i64 xs,.string xo] 54)).alloc (.cells #[] 158)).drew.heap.size:=by simp; omega
 clear HB H1 HX LA HW
 generalize ((wr.alloc (.cells #[.int .i64 xs,.string xo] 54)).alloc (.cells #[] 158)).drew = w2 at *
 generalize wr.heap.size = gx at *
 rcases bm with _ | _
 ·have hno:(⟨xs,xo⟩:Tp) ∉ E:=fun h => by have:=hmem.out.2 h; cases this
  have HNO:=Lib.hid hno
  clear hno hmem
  have k17:w2.cell? ⟨c.G,17,none⟩ = some (.bool ov):=H2.box.cell 17
  rcases ov with _ | _
  ·have k14:w2.cell? ⟨c.G,15,none⟩ = some vE:=H2.box.cell 15
   obtain ⟨AS,cS,rfl,s1,s2,s3⟩:=own_form H2.oE
   have y1:=HX2.cell 1
   have y0:=HX2.cell 0
   by_cases hful:1024≤E.length
   ·have hful2:(1024:Int)≤(E.length:Int):=by omega
    have he:tipF ⟨xs,xo⟩ E false = (E,true):=by rw [HF.out,if_neg (by simp [HNO.out]),if_pos (.inl hful)]
    have HE:=Lib.hid he
    have f17:=H2.box.frozen 17
    have H3:=H2.over
    clear he H2 HF
    go_wp2
    go_end0
    exact HP.out _ _ _ _ HE.out (ST2.trans (Stays.set H3.gG 17 _)) H3
   ·have hful2:(E.length:Int) < 1024:=by omega
    by_cases hlong:1024 < xo.size
    ·have hlong2:(1024:Int) < (xo.size:Int):=by omega
     have he:tipF ⟨xs,xo⟩ E false = (E,true):=by rw [HF.out,if_neg (by simp [HNO.out]),if_pos (.inr hlong)]
     have HE:=Lib.hid he
     have f17:=H2.box.frozen 17
     have H3:=H2.over
     clear he H2 HF
     go_wp2
     go_end0
     exact HP.out _ _ _ _ HE.out (ST2.trans (Stays.set H3.gG 17 _)) H3
    ·have hlong2:(xo.size:Int)≤1024:=by omega
     have he:tipF ⟨xs,xo⟩ E false = (E ++ [⟨xs,xo⟩],false):=by rw [HF.out,if_neg (by simp [HNO.out]),if_neg (fun h => h.elim hful hlong)]
     have HE:=Lib.hid he
     clear he HF
     have z12:=cell_regrown (show w2.cell? ⟨c.G,12,none⟩ = some (.map (some c.M1)) from H2.box.cell 12)
     have z0:=cell_regrown (HX2.cell 0)
     have z1:=cell_regrown (HX2.cell 1)
     go_wp2
     refine wp_region_tail_below 8 (by kernel_rfl) (by kernel_rfl) ?_
     simp only [List.take_succ_cons,List.take_zero,List.drop_succ_cons,List.drop_zero]
     repeat (go_big_quiet_step (fail))
     refine wpQuiet_nil ?_
     intro w5 hw5
     have HB5:=below_of hw5
     have H5:=H2.call HB5
     have HX5:=HX2.below HB5 HX2.lt
     obtain ⟨nD,D,hownM,hnD,hIs,hhas⟩:=id H5.sE
     have hnM:nD < maxLen:=by unfold maxLen; omega
     have HAS:=Lib.hid hhas
     have hxM:=blk_map_ne HX5 hownM
     clear hw5 z12 z0 z1 H2 HX2 hhas y0 y1 k14 k17
     go_wp2_with (at_mapUpdate; refine wpList_mapUpdate_own _ rfl _ _ _ 70 rfl 54 158 law_tip Tryz.underlying70 _ c.M1 nD D rfl hownM hnM _ _ kl rfl rfl hkey _ [] unitElem_mk ?_; intro w6 hown6 hg6)
     have hg6d:w5.grownBy w6.drew (some c.M1):=⟨hg6.os,hg6.tape,hg6.output,hg6.size,hg6.block⟩
     have hS6:=seen_put law_tip encT_inj hnD hIs HAS.out ⟨xs,xo⟩ hkey (show w6.drew.ownsMap Tryz.prog 54 unitElem c.M1 (nD + 1) _ from hown6)
     have hbx6:=H5.box.grown hg6d (fun e => H5.neG.2.1 (Option.some.inj e))
     have hx6:=HX5.grown hg6d hxM
     have ho6:=ChW.own1 (o:=.cells #[.int .i64 xs,.string xo] 54) H5.oE (H5.sE.ne H5.oE) hg6d H5.size
     obtain ⟨Sx,hSdef⟩:∃ Sx:World→Prop,Sx = fun W => Blk W c.G 73 (c.cs vS (.slice AS E.length cS) vA false)∧Blk W gx 54 #[.int .i64 xs,.string xo]:=⟨_,rfl⟩
     have hSi:=fun W h1 h2 => show Sx W by rw [hSdef]; exact ⟨h1,h2⟩
     have hSo:=fun W (h:Sx W) => show Blk W c.G 73 (c.cs vS (.slice AS E.length cS) vA false)∧Blk W gx 54 #[.int .i64 xs,.string xo] by rw [hSdef] at h; exact h
     have z14:=fun p:Held Sx => show p.w.cell? ⟨c.G,15,none⟩ = some (.slice AS E.length cS) from (hSo p.w p.2).1.cell 15
     have z0:=fun p:Held Sx => (hSo p.w p.2).2.cell 0
     have z1:=fun p:Held Sx => (hSo p.w p.2).2.cell 1
     have hS0:Sx w6.drew:=hSi _ hbx6 hx6
     clear hSdef
     have:Nonempty (Held Sx):=⟨⟨_,hS0⟩⟩
     refine wp_region_hold_at Sx 7 [0,1,2,3,4] [5,6] (by kernel_rfl) (by kernel_rfl) rfl (by kernel_rfl) hS0 ?_
     simp only [pickOps,List.getElem?_cons_zero,List.getElem?_cons_succ,List.drop_succ_cons,List.drop_zero,Act.put]
     repeat (go_big_quiet_step (fail))
     refine wpQuiet_nil ?_
     clear z0 z1 z14
     have LA:Below w6.drew.heap.size w6.drew (w6.drew.alloc (.cells #[.int .i64 xs,.string xo] 54)):=(Below.refl _ w6.drew).alloc (Nat.le_refl _) _
     have hbx7:=hbx6.below LA hbx6.lt
     have hx7:=hx6.below LA hx6.lt
     refine wpForce_step rfl (fun KK hKK => ?_)
     go_simp
     refine hKK _ _ (HeldIn.of (hSi _ hbx7 hx7)) ?_
     clear hKK KK
     have hrd:=reads_allocK w6.drew [.int .i64 xs,.string xo] 54 2 1 rfl
     have hone:=encT_one ⟨xs,xo⟩
     have h63:E.length + 1≤maxLen:=by unfold maxLen; omega
     have hby:(E.length + 1) * 24≤140737488355328:=by omega
     obtain ⟨i0,hi,hy0,hy1,hy2⟩:=info_parts tip_info
     refine wpForce_step rfl (fun KK hKK => ?_)
     refine wp_append_any _ _ _ 29 rfl c.w.heap.size 54 i0 _ 2 24 Tryz.underlying29 hi hy0 hy1 hy2 rfl (by decide) _ _ _ rfl ho6.1 _ (some ⟨w6.drew.heap.size,0,none⟩) 1 1 [.int .i64 xs,.string xo] rfl hrd hone h63 hby ho6.2 ?_
     intro v' w7 hown hgrow hloc
     have hbx8:=hbx7.grown hgrow (fun e => own_blk ho6.1 hbx7 (by decide) e.symm)
     have hx8:=hx7.grown hgrow (fun e => hgx e.symm)
     refine hKK _ _ (HeldIn.of (hSi _ hbx8 hx8)) ?_
     clear hKK KK
     have hP7:=H5.putE ⟨xs,xo⟩ hg6d hS6 hgrow hown hloc
     have k14:w7.cell? ⟨c.G,15,none⟩ = some (.slice AS E.length cS):=hbx8.cell 15
     have f14:=hbx8.frozen 15
     have ST7:=(((ST2.trans (Stays.call HB5)).trans (Stays.map hg6d H5.g1)).trans (Stays.call LA)).trans (Stays.app hgrow hloc)
     obtain ⟨Av2,cv2,rfl,_,_,_⟩:=own_form hown
     clear hown hgrow hloc hrd hbx6 hbx7 hx6 hx7 hx8 hbx8 hSi hSo hS0 LA ho6 hS6 H5 HX5 hown6 hownM
     refine wpForce_nil ?_
     go_wp2
     refine NoPanic.normal ?_
     go_wp2
     go_end0
     exact HP.out _ _ _ _ HE.out (ST7.trans (Stays.set hP7.gG 15 _)) hP7
  ·have he:tipF ⟨xs,xo⟩ E true = (E,true):=tipF_over _ _
   have HE:=Lib.hid he
   clear he HF
   go_wp2
   go_end0
   exact HP.out _ _ _ _ HE.out ST2 H2
 ·have hyes:(⟨xs,xo⟩:Tp)∈E:=hmem.out.1 rfl
  have he:tipF ⟨xs,xo⟩ E ov = (E,ov):=by rw [HF.out,if_pos (.inl hyes)]
  have HE:=Lib.hid he
  clear he hyes hmem HF
  go_wp2
  go_end0
  exact HP.out _ _ _ _ HE.out ST2 H2
end Go.Proofs.YtcondkihpmmnnaaGreatDoor
