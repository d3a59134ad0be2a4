/- Lemmas, part 37 of 50. No condition. -/
import Derived.Test.YtcondkihpmmnnaaGreatDoorQ34
namespace Go.Proofs.YtcondkihpmmnnaaGreatDoor
open Go.RowKit Go.Sort
def FrontsPost (q:SeqM) (n:Nat) (w:World) (e:Ending) (w':World):Prop :=
 ∃ gL gM k,e = .returned (.tuple #[.slice (some ⟨gL,0,none⟩) n n,.slice (some ⟨gM,0,none⟩) n n])∧Blk w' gL 9 (kL k n).toArray∧Blk w' gM 4 (bV k.some n)∧w.heap.size≤gL∧w.heap.size≤gM∧Below w.heap.size w w' ∧
  (∀ s,(k.l s).size≤4096 * n)∧Fronts q k
def wtsE (q:SeqM) (j t:Nat):Bool:=decide (t < j) && q.en t
theorem wtsE_yes {q:SeqM} {j:Nat} (h:q.en j = true):(fun t => if t = j then true else wtsE q j t) = wtsE q (j + 1):=by
 funext t
 unfold wtsE
 by_cases e:t = j
 ·subst e; simp [h]
 ·have:(t < j + 1)↔(t < j):=by omega
  simp [e,this]
theorem wtsE_no {q:SeqM} {j:Nat} (h:q.en j = false):wtsE q j = wtsE q (j + 1):=by
 funext t
 unfold wtsE
 by_cases e:t = j
 ·subst e; simp [h]
 ·have:(t < j + 1)↔(t < j):=by omega
  simp [this]
theorem reads_blk {w:World} {g n:Nat} {T:TypeId} {xs:List Value} (h:Blk w g T xs.toArray) (hn:xs.length = n):Reads w w.heap.size 1 (some ⟨g,0,none⟩) n xs :=
 ⟨by rw [Nat.mul_one]; exact hn,fun _ => ⟨_,rfl,h.lt,fun j u hj => by rw [add_mk,Nat.zero_add,h.cell]; simpa using hj⟩⟩
theorem flatMap_one {α β:Type} (f:α→β):∀ l:List α,(l.flatMap fun x => [f x]) = l.map f
 | [] => rfl
 | x :: l => by rw [List.flatMap_cons,flatMap_one f l]; rfl
theorem cand_ne {q:SeqM} {k:Frt} {t c s:Nat} (hc:c < 256) (hx:q.nx t c = (s:Int)) (hs:k.some s = true):cand q k t≠[] :=
 List.ne_nil_of_mem (cand_mem.2 (.inr ⟨c,hc,by omega,by rw [hx]; exact hs,rfl⟩))
theorem getD_mem0 {α:Type} {L:List α} {j:Nat} {d:α} (h:j < L.length):L.getD j d∈L:=by
 rw [List.getD_eq_getElem?_getD,List.getElem?_eq_getElem h]; exact List.getElem_mem _
theorem drop_getD {α:Type} {L:List α} {j:Nat} {d:α} (h:j < L.length):L.drop j = L.getD j d :: L.drop (j + 1):=by
 rw [List.getD_eq_getElem?_getD,List.getElem?_eq_getElem h]; exact List.drop_eq_getElem_cons h
set_option maxRecDepth 100000 in
set_option maxHeartbeats 16000000 in
theorem fronts_any (q:SeqM) (v:Value) (B n:Nat) (w:World) (HS:SeqAt w B q v) (hB:B≤w.heap.size) (hck:ckB q = true) (hn:q.next.length = n) :
    Calls Tryz.prog 69 #[v] w (FrontsPost q n w):=by
 have HS0:=Lib.hid HS
 obtain ⟨A1,c1,A2,c2,A3,c3,A4,c4,rfl,hf,l1,l2,l3,l4,m1,m2,m3,m4,R1,hz,R2,hsz,R3,R4,htl⟩:=HS
 obtain ⟨p1,p2,p3,p4,p5,p6⟩:=ck_parts hck
 have HP6:=Lib.hid p6
 have HCk:=Lib.hid (fun s b (hs:s < n) (hb:b < 256) => ckB_nx hck (s:=s) (by rw [hn]; exact hs) hb)
 rw [p2,p3,p4] at HS0
 rw [p2,p3,p4]
 rw [p3] at R3 l3
 rw [hn] at p1 l1 R1 R3 l3 HS0 ⊢
 have Hn:=Lib.hid (And.intro hn hck)
 generalize q.front = fr at *
 have K:=Blk.new w 27 #[.string fr,.slice A1 n c1,.slice A2 n c2,.slice A3 n c3,.slice A4 n c4]
 have LB:=(Below.refl w.heap.size w).alloc (Nat.le_refl _) (.cells #[.string fr,.slice A1 n c1,.slice A2 n c2,.slice A3 n c3,.slice A4 n c4] 27)
 have k1:=K.cell 1
 obtain ⟨i0,hi,hy0,hy1,hy2⟩:=info_parts slI_info
 have hbb:i0.bytes * n≤281474976710656:=by rw [hy2]; omega
 have hmx:n≤maxLen:=by unfold maxLen; omega
 have HR1:=Lib.hid R1
 have HR3:=Lib.hid R3
 clear R2 R4 hz hsz htl p2 p3 p4 p5 p6 hck hn l2 l4 R3 R1
 go_enter Tryz.func69,Tryz.ntmps69
 go_upto_region 3 with (at_make; refine wpList_make_full _ rfl _ _ 22 rfl (w.alloc (.cells #[.string fr,.slice A1 n c1,.slice A2 n c2,.slice A3 n c3,.slice A4 n c4] 27)).heap.size 55 i0 _ 1 Tryz.underlying22 hi hy0 hy1 _ _ (n:Int) (n:Int) n rfl rfl rfl rfl hbb hmx (Nat.le_refl _) ?_; intro w2 hown hgr)
 have hgb:=(Below.refl (w.alloc (.cells #[.string fr,.slice A1 n c1,.slice A2 n c2,.slice A3 n c3,.slice A4 n c4] 27)).heap.size _).grown hgr (Nat.le_refl _) (fun k e => by cases e)
 rw [show (Value.slice none 0 0).cells = #[nilV] from rfl,Nat.mul_one,toList_madeCells_one,World.size_alloc] at hown
 rw [World.size_alloc] at hgb
 have HB0:BakW w w2 (w.heap.size + 1) n #[.string fr,.slice A1 n c1,.slice A2 n c2,.slice A3 n c3,.slice A4 n c4] (List.replicate n nilV) (fun _ => []) :=
  ⟨K.below hgb (by simp),grp_nils (own_base hown (by omega)) (fun _ => rfl),LB.trans (hgb.mono (by omega))⟩
 have HB0':=Lib.hid HB0
 have k1:=HB0.box.cell 1
 have HBk:=Lib.hid (BackOk.start q n)
 clear hown hgr hgb K LB hi hy0 hy1 hy2 hbb HB0
 generalize w.heap.size + 1 = LBk at *
 go_wp2
 clear k1
 go_loopw [28] (fun i wr => ∃ (s:Nat) (vs:List Value) (rows:Nat→List Int),s≤n∧i = .int .i64 (s:Int)∧BakW w wr LBk n #[.string fr,.slice A1 n c1,.slice A2 n c2,.slice A3 n c3,.slice A4 n c4] vs rows∧BackOk q n rows s 0) (fun i _ => n - (intOf i).toNat)
 case atStart => exact ⟨0,_,_,Nat.zero_le _,rfl,HB0'.out,HBk.out⟩
 case round =>
  clear HB0' HBk
  obtain ⟨s,vs,rows,hs,rfl,HB,hbk⟩:=hrel
  have hbz:=HB.bel.size
  by_cases hlt:s < n
  ·have hi1:(0:Int)≤(s:Int):=by omega
   have hi2:(s:Int) < (n:Int):=by omega
   obtain ⟨g1,o1,A1',d1,rfl,hg1,x0,Q0,y1,z1⟩:=HR1.out.at_ s hlt
   have x1:=((HB.bel.mono hB).cell (p:=⟨g1,o1 + s,none⟩) (by show g1 < B; exact hg1)).trans x0
   have e1:(q.next.map fun r => r.map (Value.int .i64)).getD s [] = (q.next.getD s []).map (Value.int .i64):=by
    rw [List.getD_eq_getElem?_getD,List.getD_eq_getElem?_getD,List.getElem?_map]
    cases q.next[s]? <;> rfl
   rw [e1] at x1 Q0 y1
   simp only [List.length_map] at x1 Q0 y1
   rw [(HP6.out s (by rw [Hn.out.1]; exact hlt)).1] at x1 Q0 y1
   have HNr:=Lib.hid (fun (W:World) (hb:Below w.heap.size w W) => Q0.below (hb.mono hB))
   have k1:=HB.box.cell 1
   have HB1:=Lib.hid HB
   have Hbk:=Lib.hid hbk
   clear x0 Q0 e1 HB hbk
   go_wp2
   clear x1 k1
   go_loopw [35] (fun i wr => ∃ (b:Nat) (vs:List Value) (rows:Nat→List Int),b≤256∧i = .int .i64 (b:Int)∧BakW w wr LBk n #[.string fr,.slice (some ⟨g1,o1,none⟩) n c1,.slice A2 n c2,.slice A3 n c3,.slice A4 n c4] vs rows∧BackOk q n rows s b) (fun i _ => 256 - (intOf i).toNat)
   case atStart => exact ⟨0,vs,rows,Nat.zero_le _,rfl,HB1.out,Hbk.out⟩
   case round =>
    clear HB1 Hbk vs rows
    obtain ⟨b,vs,rows,hb,rfl,HB,hbk⟩:=hrel
    have hbz':=HB.bel.size
    have Hbk:=Lib.hid hbk
    by_cases hltb:b < 256
    ·have hb1:(0:Int)≤(b:Int):=by omega
     have hb2:(b:Int) < 256:=by omega
     obtain ⟨z0,z1',_⟩:=HCk.out s b hlt hltb
     rw [Hn.out.1] at z1'
     obtain ⟨h1,q1,rfl,hh1,r1⟩:=cell_at (d:=0) (HNr.out wr HB.bel) b hltb
     have hnx:(q.next.getD s []).getD b 0 = q.nx s b:=rfl
     rw [hnx] at r1
     clear hbk
     by_cases hneg:q.nx s b < 0
     ·have hp:=Lib.hid (Hbk.out.pass (fun z hz e => by omega))
      have hge:¬ q.nx s b ≥ 0:=by omega
      have hdg:decide (0≤q.nx s b) = false:=decide_eq_false hge
      have HBc:=Lib.hid (fun (W:World) (h:Below wr.heap.size wr W) => HB.call h)
      generalize q.nx s b = z at *
      go_wp2
      refine wp_region_quiet_below (by kernel_rfl) (by kernel_rfl) ?_
      repeat (go_big_quiet_step (fail))
      refine wpQuiet_nil ?_
      intro w5 hw5
      have HB5:=Lib.hid (HBc.out w5 (below_of hw5))
      clear hw5 r1 HB
      go_wp2
      go_roundw
      case rel => exact ⟨b + 1,vs,rows,by omega,by go_num,HB5.out,hp.out⟩
      case measure => simp [intOf]; omega
     ·obtain ⟨z,hz⟩:∃ z:Nat,q.nx s b = (z:Int):=⟨_,(Int.toNat_of_nonneg (by omega)).symm⟩
      have hzn:z < n:=by omega
      have HZ:=Lib.hid hz
      rw [hz] at r1 hneg
      have hzi1:(0:Int)≤(z:Int):=by omega
      have hzi2:(z:Int) < (n:Int):=by omega
      have hge:(z:Int) ≥ 0:=by omega
      have hdg:decide ((0:Int)≤(z:Int)) = true:=decide_eq_true hzi1
      clear hz
      have hrow:=HB.grp.row z hzn
      obtain ⟨Av,cv,hv,hv1,hv2,hv3⟩:=own_form hrow
      have hcl:=own_cellAt HB.grp.own z hzn nilV
      rw [hv] at hcl
      have hRd:=Reads.of_own (hv ▸ hrow)
      have hlen:=Hbk.out.len z
      have hcl':=cell_regrown hcl
      have Hput:=Lib.hid (Hbk.out.put hlt hltb HZ.out)
      have Hpass:=Lib.hid (fun (h:(s:Int)∈rows z) => Hbk.out.pass (fun z' hz' e => by
       have:z' = z:=by have:=HZ.out; omega
       rw [this]; exact h))
      have HBc:=Lib.hid (fun (W:World) (h:Below wr.heap.size wr W) => HB.call h)
      rcases hrz:(rows z).length with _ | m
      ·rw [hrz] at hcl hcl' hv
       go_wp2
       refine wp_region_quiet_below (by kernel_rfl) (by kernel_rfl) ?_
       repeat (go_big_quiet_step (fail))
       refine wpQuiet_nil ?_
       intro w5 hw5
       have HB5:=HBc.out w5 (below_of hw5)
       have LBa:=(Below.refl w5.heap.size w5).alloc (Nat.le_refl _) (.cells #[.int .i64 (s:Int)] 3)
       have HBa:=HB5.call LBa
       have hcl5:=own_cellAt HB5.grp.own z hzn nilV
       rw [hv] at hcl5
       have hrow9:=HBa.grp.row z hzn
       rw [hv,hrz] at hrow9
       have hrd:=reads_allocK w5 [.int .i64 (s:Int)] 3 1 1 rfl
       obtain ⟨i1,t0,t1,t2,t3⟩:=info_parts int_infoS
       have hone:=encI_one (s:Int)
       have h63:0 + 1≤maxLen:=by unfold maxLen; omega
       have hby:(0 + 1) * 8≤140737488355328:=by omega
       have hbs:=HBa.bel.size
       have HBa':=Lib.hid HBa
       have hkeep:=fun (w7:World) (hgrow:(w5.alloc (.cells #[.int .i64 (s:Int)] 3)).grownBy w7 (Value.slice Av 0 cv).ownBlock) => HBa.grp.own.kept (w':=w7) (row:=(vs.getD z nilV).ownBlock) (by rw [hv]; exact hgrow) (apart_types HBa.grp.own (HBa.grp.row z hzn) (by decide)).or_none
       clear hw5 r1 HB hcl hcl' LBa HB5 HBa hRd
       go_wp2_with (at_builtin; refine wpList_append_any _ rfl _ _ 55 rfl w.heap.size 3 i1 _ 1 8 Tryz.underlying55 t0 t1 t2 t3 rfl (by decide) _ _ _ rfl hrow9 _ (some ⟨w5.heap.size,0,none⟩) 1 1 [.int .i64 (s:Int)] rfl hrd hone h63 hby hbs ?_; intro v' w7 hown hgrow hloc; obtain ⟨A9,c9,rfl,_,_,_⟩:=own_form hown; have u3:=own_cellAt (hkeep w7 hgrow) z hzn nilV; have u4:=own_frozenAt (hkeep w7 hgrow) z)
       go_roundw
       case rel =>
        have HP:=HBa'.out.put z hzn (s:Int) (by rw [hv]; exact hgrow) (by rw [hrz]; exact hown) (by rw [hv]; exact hloc)
        exact ⟨b + 1,_,_,by omega,by go_num,HP,Hput.out⟩
       case measure => simp [intOf]; omega
      ·have hm:m + 1≤300000:=by omega
       rw [hrz] at hcl hcl' hRd hv
       have hlast:∃ x∈rows z,(rows z)[m]? = some x:=⟨(rows z)[m]'(by omega),List.getElem_mem _,List.getElem?_eq_getElem _⟩
       obtain ⟨x,hx,hxm⟩:=hlast
       obtain ⟨t,rfl,htn,c',hc',hxc⟩:=Hbk.out.sound z hzn x hx
       obtain ⟨ad,hAv,hadl,hcell⟩:=hRd.2 (by omega)
       obtain ⟨gz,rfl,hgz1,hgz2⟩:=hv3 (by omega)
       obtain rfl:=Option.some.inj hAv
       have hcm:=hcell m (.int .i64 (t:Int)) (by
        have:encs encI (rows z) = (rows z).map fun v => Value.int .i64 v:=by unfold encs encI; exact flatMap_one _ _
        rw [this,List.getElem?_map,hxm]; rfl)
       rw [add_mk,Nat.zero_add] at hcm
       have hcm':=cell_regrown hcm
       have hmi1:(0:Int)≤(m:Int):=by omega
       have hmi2:(m:Int) < (m:Int) + 1:=by omega
       have hne0:(((m:Nat):Int) + 1 == 0) = false:=by simp; omega
       by_cases hts:t = s
       ·have hxin:(s:Int)∈rows z:=by rw [← hts]; exact hx
        have hq:=Lib.hid (Hpass.out hxin)
        have hnt:((t:Int) != (s:Int)) = false:=by simp [hts]
        go_wp2
        refine wp_region_quiet_below (by kernel_rfl) (by kernel_rfl) ?_
        repeat (go_big_quiet_step (fail))
        refine wpQuiet_nil ?_
        intro w5 hw5
        have HB5:=Lib.hid (HBc.out w5 (below_of hw5))
        clear hw5 r1 HB
        go_wp2
        go_roundw
        case rel => exact ⟨b + 1,vs,rows,by omega,by go_num,HB5.out,hq.out⟩
        case measure => simp [intOf]; omega
       ·have hnt:((t:Int) != (s:Int)) = true:=by simp; omega
        go_wp2
        refine wp_region_quiet_below (by kernel_rfl) (by kernel_rfl) ?_
        repeat (go_big_quiet_step (fail))
        refine wpQuiet_nil ?_
        intro w5 hw5
        have HB5:=HBc.out w5 (below_of hw5)
        have LBa:=(Below.refl w5.heap.size w5).alloc (Nat.le_refl _) (.cells #[.int .i64 (s:Int)] 3)
        have HBa:=HB5.call LBa
        have hcl5:=own_cellAt HB5.grp.own z hzn nilV
        rw [hv] at hcl5
        have hrow9:=HBa.grp.row z hzn
        rw [hv,hrz] at hrow9
        have hrd:=reads_allocK w5 [.int .i64 (s:Int)] 3 1 1 rfl
        obtain ⟨i1,t0,t1,t2,t3⟩:=info_parts int_infoS
        have hone:=encI_one (s:Int)
        have h63:m + 1 + 1≤maxLen:=by unfold maxLen; omega
        have hby:(m + 1 + 1) * 8≤140737488355328:=by omega
        have hbs:=HBa.bel.size
        have HBa':=Lib.hid HBa
        have hkeep:=fun (w7:World) (hgrow:(w5.alloc (.cells #[.int .i64 (s:Int)] 3)).grownBy w7 (Value.slice (some ⟨gz,0,none⟩) (m + 1) cv).ownBlock) => HBa.grp.own.kept (w':=w7) (row:=(vs.getD z nilV).ownBlock) (by rw [hv]; exact hgrow) (apart_types HBa.grp.own (HBa.grp.row z hzn) (by decide)).or_none
        clear hw5 r1 HB hcl hcl' LBa HB5 HBa hRd hcm hcm' hcell
        go_wp2_with (at_builtin; refine wpList_append_any _ rfl _ _ 55 rfl w.heap.size 3 i1 _ 1 8 Tryz.underlying55 t0 t1 t2 t3 rfl (by decide) _ _ _ rfl hrow9 _ (some ⟨w5.heap.size,0,none⟩) 1 1 [.int .i64 (s:Int)] rfl hrd hone h63 hby hbs ?_; intro v' w7 hown hgrow hloc; obtain ⟨A9,c9,rfl,_,_,_⟩:=own_form hown; have u3:=own_cellAt (hkeep w7 hgrow) z hzn nilV; have u4:=own_frozenAt (hkeep w7 hgrow) z)
        go_roundw
        case rel =>
         have HP:=HBa'.out.put z hzn (s:Int) (by rw [hv]; exact hgrow) (by rw [hrz]; exact hown) (by rw [hv]; exact hloc)
         exact ⟨b + 1,_,_,by omega,by go_num,HP,Hput.out⟩
        case measure => simp [intOf]; omega
    ·obtain rfl:b = 256:=by omega
     have hbn:=Lib.hid hbk.next
     clear hbk
     go_wp2
     go_roundw
     case rel => exact ⟨s + 1,vs,rows,by omega,by go_num,HB,hbn.out⟩
     case measure => simp [intOf]; omega
  ·obtain rfl:n = s:=by omega
   obtain ⟨iL,tL,tL0,tL1,tL2⟩:=info_parts str_infoS
   obtain ⟨iM,tM,tM0,tM1,tM2⟩:=info_parts bool_infoS
   have HBw:=Lib.hid HB
   have Hbk:=Lib.hid hbk
   clear HB hbk
   go_wp2
   refine pair_gen (d0:=78) (d1:=80) (e0:=10) (F0:=fun v W => ∃ g,v = .slice (some ⟨g,0,none⟩) n n∧wr.drew.heap.size≤g∧W.ownsRow wr.drew.heap.size 9 1 v n (madeCells (Value.string ByteArray.empty).cells (n * 1)).toList) (F1:=fun v W => ∃ g,v = .slice (some ⟨g,0,none⟩) n n∧wr.drew.heap.size≤g∧W.ownsRow wr.drew.heap.size 4 1 v n (madeCells (Value.bool false).cells (n * 1)).toList) 5 [0,2] 1 3 4 (by kernel_rfl) (by kernel_rfl) rfl (by kernel_rfl) (by decide) rfl rfl rfl (by decide) (by decide) rfl rfl rfl ?_
   simp only [pickOps,List.getElem?_cons_zero,List.getElem?_cons_succ]
   repeat (go_big_quiet_step (fail))
   refine wpQuiet_nil ?_
   refine PairGoal.start _ ⟨by show 78 < 160; decide,by show 80 < 160; decide⟩
    (maker_slice rfl rfl 77 (by decide) 25 rfl 9 iL _ 1 Tryz.underlying25 tL tL0 tL1 n rfl (by rw [tL2]; omega) hmx)
    (maker_slice rfl rfl 79 (by decide) 24 rfl 4 iM _ 1 Tryz.underlying24 tM tM0 tM1 n rfl (by rw [tM2]; omega) hmx) ?_
   rintro vi vj W3 hb3 ⟨gL,rfl,gL1,hoL⟩ ⟨gM,rfl,gM1,hoM⟩
   rw [show (Value.string ByteArray.empty).cells = #[Value.string ByteArray.empty] from rfl,Nat.mul_one,toList_madeCells_one] at hoL
   rw [show (Value.bool false).cells = #[Value.bool false] from rfl,Nat.mul_one,toList_madeCells_one] at hoM
   have HL:=blk_of_made hoL
   have HM:=blk_of_made hoM
   rw [bV_zero] at HM
   clear hoL hoM
   simp only [Act.put]
   simp only [List.drop_succ_cons,List.drop_zero]
   go_wp2
   refine NoPanic.normal ?_
   go_wp2
   refine pair_gen (d0:=81) (d1:=83) (e0:=12) (F0:=fun v W => ∃ g,v = .slice (some ⟨g,0,none⟩) 0 0∧W3.drew.heap.size≤g∧Blk W g 3 #[]) (F1:=fun v W => ∃ g,v = .slice (some ⟨g,0,none⟩) n n∧W3.drew.heap.size≤g∧W.ownsRow W3.drew.heap.size 4 1 v n (madeCells (Value.bool false).cells (n * 1)).toList) 4 [1] 0 2 3 (by kernel_rfl) (by kernel_rfl) rfl (by kernel_rfl) (by decide) rfl rfl rfl (by decide) (by decide) rfl rfl rfl ?_
   simp only [pickOps,List.getElem?_cons_zero,List.getElem?_cons_succ]
   repeat (go_big_quiet_step (fail))
   refine wpQuiet_nil ?_
   refine PairGoal.start _ ⟨by show 81 < 160; decide,by show 83 < 160; decide⟩ (maker_nil rfl rfl rfl)
    (maker_slice rfl rfl 82 (by decide) 24 rfl 4 iM _ 1 Tryz.underlying24 tM tM0 tM1 n rfl (by rw [tM2]; omega) hmx) ?_
   rintro vi vj W4 hb4 ⟨gq,rfl,gq1,hQ⟩ ⟨gW,rfl,gW1,hoW⟩
   rw [show (Value.bool false).cells = #[Value.bool false] from rfl,Nat.mul_one,toList_madeCells_one] at hoW
   have HWw:=blk_of_made hoW
   rw [bV_zero] at HWw
   clear hoW
   have hgL:wr.heap.size≤gL:=gL1
   have hgM:wr.heap.size≤gM:=gM1
   have hgW:W3.heap.size≤gW:=gW1
   have hgq:W3.heap.size≤gq:=gq1
   have hLl:=HL.lt
   have hMl:=HM.lt
   have hz3:=hb3.size
   have hF0:FroW wr W4 gL gM gW n k0F (wtsE q 0) (endsQ q 0) (.slice (some ⟨gq,0,none⟩) 0 0):={
    l:=by
     have h0:(List.replicate n (Value.string ByteArray.empty)).toArray = (kL k0F n).toArray:=by
      congr 1
      unfold kL rowV k0F
      apply List.ext_getElem?
      intro j
      rw [List.getElem?_replicate,List.getElem?_map]
      by_cases hj:j < n
      ·rw [List.getElem?_range hj]; simp [hj]
      ·rw [List.getElem?_eq_none (by simpa using hj)]; simp [hj]
     rw [← h0]
     exact HL.below hb4 hLl
    m:=HM.below hb4 hMl
    w:=by
     have h0:wtsE q 0 = fun _ => false:=by funext t; unfold wtsE; simp
     rw [h0]; exact HWw
    que:=OwnQ.of_blk (xs:=[]) (by omega) hQ (Nat.zero_le _)
    ne:=by omega
    bL:=hgL
    bM:=hgM
    bW:=by omega
    bel:=hb3.trans (hb4.mono hz3) }
   have hbx4:=HBw.out.box.below (hF0.bel) HBw.out.box.lt
   have k3:=hbx4.cell 3
   have hwz:=HBw.out.bel.size
   have HF0:=Lib.hid hF0
   have hBwr:=Lib.hid HBw.out.bel
   clear hF0 hQ HWw HL HM hb3 hb4 hbx4 tL tL0 tL1 tL2 tM tM0 tM1 tM2
   simp only [Act.put,List.drop_succ_cons,List.drop_zero]
   go_wp2
   refine NoPanic.normal ?_
   go_wp2
   clear k3
   obtain ⟨W0,hW0⟩:∃ W,W = wr:=⟨_,rfl⟩
   subst hW0
   go_loopw [12,87] (fun wv i wr => ∃ (j:Nat) (vv:Value),vv = wv∧j≤n∧i = .int .i64 (j:Int)∧FroW W0 wr gL gM gW n k0F (wtsE q j) (endsQ q j) vv) (fun _ i _ => n - (intOf i).toNat)
   case atStart => exact ⟨0,_,rfl,Nat.zero_le _,rfl,HF0.out⟩
   case round =>
    obtain ⟨j,vv,rfl,hj,rfl,HF⟩:=hrel
    have hbzj:=HF.bel.size
    by_cases hltj:j < n
    ·have hj1:(0:Int)≤(j:Int):=by omega
     have hj2:(j:Int) < (n:Int):=by omega
     obtain ⟨ga,qa,rfl,hga,r1⟩:=cell_at (d:=false) ((HR3.out.below (hBwr.out.mono hB)).below ((HF.bel).mono (Nat.le_trans hB hwz))) j hltj
     have hen:q.ends.getD j false = q.en j:=rfl
     rw [hen] at r1
     have HF':=Lib.hid HF
     rcases he:q.en j with _ | _
     ·rw [he] at r1
      have hw2:=endsQ_next q j
      rw [he,if_neg (by decide),List.append_nil] at hw2
      have HN:=Lib.hid (show FroW W0 wr gL gM gW n k0F (wtsE q (j + 1)) (endsQ q (j + 1)) vv by rw [← wtsE_no he,hw2]; exact HF'.out)
      clear hw2 HF
      go_wp2
      go_roundw
      case rel => exact ⟨j + 1,vv,rfl,by omega,by go_num,HN.out⟩
      case measure => simp [intOf]; omega
     ·rw [he] at r1
      have hw2:=endsQ_next q j
      rw [he,if_pos rfl] at hw2
      have hxl:(endsQ q j).length≤1024:=by
       have h1:(endsQ q j).length≤j:=by unfold endsQ; exact Nat.le_trans (List.length_filter_le _ _) (by simp)
       omega
      have hxa:=(Blk.new wr 3 #[.int .i64 (j:Int)]).cell 0
      have HFa:=HF.call ((Below.refl wr.heap.size wr).alloc (Nat.le_refl _) (.cells #[.int .i64 (j:Int)] 3))
      have hqa:=HFa.que
      have hbsa:=HFa.bel.size
      obtain ⟨i1,t0,t1,t2,t3⟩:=info_parts int_infoS
      have h63:(qV (endsQ q j)).length + 1≤maxLen:=by rw [qV_len]; unfold maxLen; omega
      have hby:((qV (endsQ q j)).length + 1) * 8≤140737488355328:=by rw [qV_len]; omega
      have HN:=Lib.hid (fun (W:World) (v':Value) (h:FroW W0 W gL gM gW n k0F (fun t => if t = j then true else wtsE q j t) (endsQ q j ++ [j]) v') => show FroW W0 W gL gM gW n k0F (wtsE q (j + 1)) (endsQ q (j + 1)) v' by rw [← wtsE_yes he,hw2]; exact h)
      clear hw2 HF he HF'
      go_wp2_with (at_builtin; refine wpList_append_q _ rfl _ _ 55 rfl W0.heap.size 3 i1 _ 8 Tryz.underlying55 t0 t1 t2 t3 rfl _ _ rfl hqa wr.heap.size (.int .i64 (j:Int)) rfl hxa rfl h63 hby hbsa ?_; intro v' w5 hown hgrow hloc; have HP:=HFa.push hown hgrow; have u3:=(HP.w.cell j).trans (bV_at _ hltj); have u4:=HP.w.frozen j)
      go_roundw
      case rel => exact ⟨j + 1,_,rfl,by omega,by go_num,HN.out _ _ (HP.wait j hltj true)⟩
      case measure => simp [intOf]; omega
    ·obtain rfl:n = j:=by omega
     have HI:=Lib.hid (fro_start (q:=q) (n:=n) (wts:=wtsE q n) (fun s hs => by unfold wtsE endsQ; rw [List.mem_filter,List.mem_range]; simp [hs]))
     have HFn:=Lib.hid HF
     have HB2:=Lib.hid (fun (W:World) (h:Below W0.heap.size W0 W) => HBw.out.call h)
     have HRow:=Lib.hid (HBw.out.grp.read (own_lt HBw.out.grp.own _ rfl).2)
     clear HF
     go_wp2
     go_loopw [12] (fun wv wr => ∃ (k:Frt) (wts:Nat→Bool) (xs:List Nat),FroW W0 wr gL gM gW n k wts xs wv∧FroI q n k wts xs) (fun wv wr => rankW wr gL gM n (4096 * n + 4098) * (n + 1) + lenOfV wv)
     case atStart => exact ⟨k0F,_,_,HFn.out,HI.out⟩
     case round =>
      clear HFn HI
      obtain ⟨k,wts,xs,HF,HI⟩:=hrel
      have hbz:=HF.bel.size
      have hI:=Lib.hid HI
      rcases xs with _ | ⟨s,xs⟩
      ·obtain ⟨g,off,cap,rfl,_,_⟩:=HF.que.form
       have HP:=Lib.hid (show FrontsPost q n w (.returned (.tuple #[.slice (some ⟨gL,0,none⟩) n n,.slice (some ⟨gM,0,none⟩) n n])) wr from
        ⟨gL,gM,k,rfl,HF.l,HF.m,Nat.le_trans hwz HF.bL,Nat.le_trans hwz HF.bM,hBwr.out.trans (HF.bel.mono hwz),fun s => Nat.le_trans (hI.out.bnd s) (Nat.mul_le_mul_left _ (cntF_le _ _)),by
         have h1:=hI.out
         have h2:=Hn.out
         obtain ⟨h3,h4⟩:=h2
         subst h3
         exact h1.fronts h4⟩)
       clear HF HI
       go_wp2
       exact bodyPost_ret (v:=.tuple #[.slice (some ⟨gL,0,none⟩) n n,.slice (some ⟨gM,0,none⟩) n n]) (by simp [results,Tryz.results69,go_sem]) rfl HP.out
      ·have hsn:=HI.lt s List.mem_cons_self
       have hnd:(s :: xs).length≤n:=by
        have:=(HI.nd).length_le_of_subset (fun z hz => List.mem_range.2 (HI.lt z hz):(s :: xs) ⊆ List.range n)
        simpa using this
       have hq:=HF.que
       obtain ⟨g,off,cap,hv,hcell⟩:=hq.cell
       obtain ⟨g',off',cap',hv',hcap,hqt,hqt1⟩:=OwnQ.tail (x:=.int .i64 (s:Int)) (xs:=qV xs) hq
       rw [hv] at hv'
       injection hv' with hv1 hv2 hv3
       injection hv1 with hv1
       injection hv1 with hv1 hv1b
       subst hv1 hv1b hv3
       have hc0:wr.cell? ⟨g,off,none⟩ = some (.int .i64 (s:Int)):=hcell 0 _ rfl
       rw [show (qV (s :: xs)).length = xs.length + 1 from by rw [qV_len]; rfl] at hv
       rw [qV_len] at hqt hcap hqt1
       subst hv
       have hi1:(0:Int)≤(s:Int):=by omega
       have hi2:(s:Int) < (n:Int):=by omega
       have u1:=(HF.w.cell s).trans (bV_at _ hsn)
       have u2:=HF.w.frozen s
       have hFt:FroW W0 wr gL gM gW n k wts xs (.slice (some ⟨g,off + 1,none⟩) xs.length (cap - 1)):={ HF with que:=hqt }
       have HFt:=Lib.hid (hFt.wait s hsn false)
       have HFt1:=Lib.hid (fun (e:cap = 1) => (show FroW W0 wr gL gM gW n k wts xs (.slice (some ⟨g,off,none⟩) xs.length 0) from { HF with que:=hqt1 e }).wait s hsn false)
       have hB1:=HB2.out _ HFt.out.bel
       have k0:=hB1.box.cell 0
       have k1:=hB1.box.cell 1
       have k2:=hB1.box.cell 2
       have k3:=hB1.box.cell 3
       have k4:=hB1.box.cell 4
       have HM0:=Lib.hid (show rankW wr gL gM n (4096 * n + 4098) * (n + 1) + lenOfV (.slice (some ⟨g,off,none⟩) (xs.length + 1) cap) = rankF k n (4096 * n + 4098) * (n + 1) + (xs.length + 1) by rw [HF.rank]; rfl)
       clear hqt hqt1 hcell hq HF hFt hB1 HI
       go_wp2_with fail
       all_goals
        first
         | have HFv:=Lib.hid (HFt1.out (by omega))
         | have HFv:=Lib.hid HFt.out
        have hsz1:=HFv.out.bel.size
        refine (front_walk q _ (wr.setCell ⟨gW,s,none⟩ (.bool false)).heap.size s n (4096 * n) k (some ⟨gL,0,none⟩) (some ⟨gM,0,none⟩) n n _ ((HS0.out.below ((hBwr.out.trans (HFv.out.bel.mono hwz)).mono hB)).more (Nat.le_trans hB (Nat.le_trans hwz hsz1))) (Nat.le_refl _) Hn.out.2 Hn.out.1 hsn (reads_blk HFv.out.l (rowV_len _ _)) (reads_blk HFv.out.m (rowV_len _ _)) (fun z => Nat.le_trans (hI.out.bnd z) (Nat.mul_le_mul_left _ (cntF_le _ _))) (by omega)).mono ?_
        rintro e w2 ⟨rfl,hb2⟩
        have HF2:=HFv.out.call hb2
        have u3:=(HF2.m.cell s).trans (bV_at _ hsn)
        have u4:w2.cell? ⟨gL,s,none⟩ = some (.string (k.l s)):=by rw [HF2.l.cell]; unfold kL; rw [List.getElem?_toArray]; exact rowV_at _ hsn
        have x5:=HF2.l.frozen s
        have x6:=HF2.m.frozen s
        have hgm:=fun (v:Value) => HF2.m.far (p:=⟨gL,s,none⟩) (Blk.ne_ HF2.l HF2.m (by decide)).symm v
        have HT:=Lib.hid (fun (l:List Int) hl => hI.out.tell Hn.out.2 Hn.out.1 (l:=l) hl)
        have HSk:=Lib.hid (fun h1 h2 => hI.out.skip h1 h2)
        have hls:=lcpA_size (hI.out.size Hn.out.2 Hn.out.1)
        have hcn:=cntF_le k n
        have HDn:=Lib.hid (fun h => (hI.out.ok.down s h).2)
        have HRk:=Lib.hid (rankF_put (k:=k) (C:=4096 * n + 4098) (f:=lcpA (cand q k s)) hsn)
        have HF2':=Lib.hid HF2
        have HQf:=Lib.hid (ba_beqL (lcpA (cand q k s)) (k.l s))
        generalize lcpA (cand q k s) = f at *
        clear HF2 k0 k1 k2 k3 k4 hc0 u1 u2
        have hcase:(k.some s = true∧f = k.l s)∨(k.some s = false∨k.some s = true∧(f.toList == (k.l s).toList) = false)∧rankF (k.put s f) n (4096 * n + 4098) + 1≤rankF k n (4096 * n + 4098):=by
         rcases hsm:k.some s with _ | _
         ·exact .inr ⟨.inl rfl,HRk.out (by rw [hsm,if_neg (by decide)]; omega)⟩
         ·by_cases hfe:f = k.l s
          ·exact .inl ⟨rfl,hfe⟩
          ·refine .inr ⟨.inr ⟨rfl,?_⟩,HRk.out ?_⟩
           ·rcases e:(f.toList == (k.l s).toList) with _ | _
            ·rfl
            ·exact absurd (HQf.out.1 e) hfe
           ·rw [hsm,if_pos rfl]
            have h1:=HDn.out hsm
            have h2:=h1.length_le
            rw [bl_len,bl_len] at h2
            rcases Nat.lt_or_ge f.size (k.l s).size with h3 | h3
            ·exact h3
            ·exact absurd (bl_inj (h1.eq_of_length (by rw [bl_len,bl_len]; omega))) hfe
        rcases hcase with ⟨hsm,hfe⟩ | ⟨hcase,hrk⟩
        ·have hN:=Lib.hid (HSk.out hsm hfe)
         rw [hsm] at u3
         have hqq:(f.toList == (k.l s).toList) = true:=HQf.out.2 hfe
         clear hfe hsm
         go_wp2
         refine ⟨⟨k,_,_,HF2'.out,hN.out⟩,?_⟩
         have h1:=HM0.out
         rw [h1,HF2'.out.rank]
         show _ + xs.length < _
         omega
        ·have hcl:∀ t b,t < n→b < 256→q.nx t b = (s:Int)→(t:Int)∈rows s:=fun t b ht hb e => Hbk.out.full t b hb (by omega) s hsn e
         have HJ0:=Lib.hid (HT.out (rows s) hcl)
         have hsound:=Lib.hid (Hbk.out.sound s hsn)
         have hlen0:=Hbk.out.len s
         have HF5:=HF2'.out.tell s hsn f
         obtain ⟨Ab,cb,y1,y2,y3,y4⟩:=HRow.out.2 s hsn
         have henc:encs encI (rows s) = (rows s).map (Value.int .i64):=flatMap_one _ _
         rw [henc] at y4
         have y1:=(HF5.bel.cell (p:=⟨LBk,s,none⟩) HRow.out.1).trans y1
         have HR4:=Lib.hid (fun (W:World) (hb:Below W0.heap.size W0 W) => y4.below hb)
         clear hcl y4 henc
         have HF5':=Lib.hid HF5
         have x7:=((hgm (.string f)).cell s).trans (bV_at _ hsn)
         have x8:=(hgm (.string f)).frozen s
         have HSome:=Lib.hid (show (k.put s f).some s = true from by unfold Frt.put; simp)
         clear HF5 HT HSk HDn HRk HQf HF2'
         rcases hcase with hsm | ⟨hsm,hqq⟩
         all_goals
          rw [hsm] at u3 x7
          clear hsm hgm
          go_upto_region 27 with (fail)
          generalize (w2.setCell ⟨gL,s,none⟩ (.string f)).setCell ⟨gM,s,none⟩ (.bool true) = W5 at *
          clear u3 u4 x5 x6 x7 x8
          go_wp2
          clear y1
          generalize hLr:rows s = L at *
          go_loopw [12,141] (fun wv i wr => ∃ (j:Nat) (wts':Nat→Bool) (xs':List Nat) (vv:Value),vv = wv∧j≤L.length∧i = .int .i64 (j:Int)∧FroW W0 wr gL gM gW n (k.put s f) wts' xs' vv∧FroJ q n (k.put s f) wts' xs' (L.drop j)) (fun _ i _ => L.length - (intOf i).toNat)
          case atStart => exact ⟨0,_,_,_,rfl,Nat.zero_le _,rfl,HF5'.out,HJ0.out⟩
          case round =>
           obtain ⟨j,wts',xs',vv,rfl,hj',rfl,HF,HJ⟩:=hrel
           have hbz':=HF.bel.size
           have hnd':xs'.length≤n:=by
            have:=(HJ.nd).length_le_of_subset (fun z hz => List.mem_range.2 (HJ.lt z hz):xs' ⊆ List.range n)
            simpa using this
           by_cases hltj':j < L.length
           ·have hj1:(0:Int)≤(j:Int):=by omega
            have hj2:(j:Int) < (L.length:Int):=by omega
            have hlenm:L.length≤maxLen:=by unfold maxLen; omega
            obtain ⟨gb,ob,rfl,hgb,r1⟩:=cell_at (d:=0) (HR4.out _ HF.bel) j hltj'
            obtain ⟨t,ht,htn,c,hc,hx⟩:=hsound.out _ (getD_mem0 hltj')
            have hdr:=drop_getD (d:=0) hltj'
            rw [ht] at r1 hdr
            rw [hdr] at HJ
            have ht1:(0:Int)≤(t:Int):=by omega
            have ht2:(t:Int) < (n:Int):=by omega
            have hcn:=cand_ne (k:=k.put s f) hc hx HSome.out
            have v1:=(HF.w.cell t).trans (bV_at _ htn)
            have v2:=HF.w.frozen t
            clear ht hdr
            rcases hwt:wts' t with _ | _
            ·rw [hwt] at v1
             have HJ':=Lib.hid (HJ.push htn hwt hcn)
             have hxa:=(Blk.new wr 3 #[.int .i64 (t:Int)]).cell 0
             have HFa:=HF.call ((Below.refl wr.heap.size wr).alloc (Nat.le_refl _) (.cells #[.int .i64 (t:Int)] 3))
             have hqa:=HFa.que
             have hbsa:=HFa.bel.size
             obtain ⟨i1,t0,t1,t2,t3⟩:=info_parts int_infoS
             have h63:(qV xs').length + 1≤maxLen:=by rw [qV_len]; unfold maxLen; omega
             have hby:((qV xs').length + 1) * 8≤140737488355328:=by rw [qV_len]; omega
             clear HF HJ hwt
             go_wp2_with (at_builtin; refine wpList_append_q _ rfl _ _ 55 rfl W0.heap.size 3 i1 _ 8 Tryz.underlying55 t0 t1 t2 t3 rfl _ _ rfl hqa wr.heap.size (.int .i64 (t:Int)) rfl hxa rfl h63 hby hbsa ?_; intro v' w5 hown hgrow hloc; have HP:=HFa.push hown hgrow; have u3:=(HP.w.cell t).trans (bV_at _ htn); have u4:=HP.w.frozen t)
             go_roundw
             case rel => exact ⟨j + 1,_,_,_,rfl,by omega,by go_num,HP.wait t htn true,HJ'.out⟩
             case measure => simp [intOf]; omega
            ·rw [hwt] at v1
             have HJ':=Lib.hid (HJ.pass htn hwt)
             clear HJ hwt
             go_wp2
             go_roundw
             case rel => exact ⟨j + 1,_,_,_,rfl,by omega,by go_num,HF,HJ'.out⟩
             case measure => simp [intOf]; omega
           ·obtain rfl:L.length = j:=by omega
            rw [List.drop_length] at HJ
            have HFe:=Lib.hid (And.intro HF HJ.done)
            have hms:rankW wr gL gM n (4096 * n + 4098) * (n + 1) + lenOfV vv < rankF k n (4096 * n + 4098) * (n + 1) + (xs.length + 1):=by
             rw [HF.rank]
             obtain ⟨ga,oa,ca,hva,_⟩:=HF.que.form
             rw [hva,qV_len]
             show _ + xs'.length < _
             have h1:=Nat.mul_le_mul_right (n + 1) hrk
             rw [Nat.succ_mul] at h1
             omega
            have HMs:=Lib.hid hms
            clear HF HJ hms
            go_wp2
            exact ⟨⟨_,_,_,HFe.out.1,HFe.out.2⟩,by rw [HM0.out]; exact HMs.out⟩
end Go.Proofs.YtcondkihpmmnnaaGreatDoor
