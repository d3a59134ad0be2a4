/- Lemmas, part 45 of 50. No condition. -/
import Derived.Test.YtcondkihpmmnnaaGreatDoorQ43
namespace Go.Proofs.YtcondkihpmmnnaaGreatDoor
open Go.RowKit Go.Sort
set_option maxRecDepth 100000 in
set_option maxHeartbeats 8000000 in
theorem push_good (q:SeqM) (v:Value) (B n:Nat) (w:World) (HS:SeqAt w B q v) (hB:B≤w.heap.size) (hn:q.next.length = n) (hck:ckB q = true) :
    Calls Tryz.prog 33 #[v] w (PushPost q w):=by
 have HSat:=Lib.hid (fun W (hb:Below w.heap.size w W) => (HS.below (hb.mono hB)).more (Nat.le_trans hB hb.size))
 obtain ⟨A1,c1,A2,c2,A3,c3,A4,c4,rfl,hf,l1,l2,l3,l4,m1,m2,m3,m4,R1,hz,R2,hsz,R3,R4,htl⟩:=HS
 have HR3:=Lib.hid R3
 have HR4:=Lib.hid (And.intro R4 htl)
 clear R1 R2 R3 R4 hz hsz htl
 obtain ⟨p1,p2,p3,p4,p5,p6⟩:=ck_parts hck
 have HCk:=Lib.hid (And.intro hck hn)
 have hfin:=Lib.hid (fun (W:World) (hb:Below w.heap.size w W) (k:Frt) (hfr:Fronts q k) (c:Int) (h:(c = 0∧(n = 0∨k.some 0 = false))∨(c = 2∧LongQ q k)) => show PushPost q w (.returned (.tuple #[.agg #[.string ⟨#[]⟩,.slice none 0 0,.slice none 0 0,.slice none 0 0,.slice none 0 0],.int .i64 c])) W from
  ⟨hb,_,seq0,c,rfl,seqNew_nil _ _,.inr ⟨hck,k,hfr,by
   rcases h with ⟨rfl,h⟩ | ⟨rfl,h⟩
   ·exact .inl ⟨rfl,rfl,by rw [hn]; exact h⟩
   ·exact .inr (.inl ⟨rfl,rfl,h⟩)⟩⟩)
 have hfin2:=Lib.hid (fun (W:World) (hb:Below w.heap.size w W) (k:Frt) (hfr:Fronts q k) (v:Value) (r:SeqM) (us:List Nat) (hq:SeqNew w.heap.size W r v) (hcr:ckB r = true) (hp:Pushes q k r us) => show PushPost q w (.returned (.tuple #[v,.int .i64 0])) W from
  ⟨hb,v,r,0,rfl,hq,.inr ⟨hck,k,hfr,.inr (.inr ⟨rfl,hcr,us,hp⟩)⟩⟩)
 rw [p2,p3,p4,hn] at HSat ⊢
 rw [p3,hn] at HR3
 rw [p4,hn] at HR4
 have hcka:=Lib.hid (fun W hb => seqCheck_any q _ W.heap.size W (HSat.out W hb) (Nat.le_refl _))
 rw [hck] at hcka
 have hfra:=Lib.hid (fun W hb => fronts_any q _ W.heap.size n W (HSat.out W hb) (Nat.le_refl _) hck hn)
 have hrea:=Lib.hid (fun W hb => reached_any q _ W.heap.size n W (HSat.out W hb) (Nat.le_refl _) hck hn)
 have htur:=Lib.hid (fun W hb (s:Nat) (hs:s < n) (k:Frt) (pl:Nat→Int) (gL gP:Nat) (HL:Blk W gL 9 (kL k n).toArray) (HP:Blk W gP 3 (intsV pl n)) (hl:∀ z,(k.l z).size≤4096 * n) (hpl:∀ z,z < n→-1≤pl z∧pl z≤2000)
  (hpre:∀ b,b < 256→kept q pl s b→(k.l s).size≤(q.os s b).size + (k.l (q.nx s b).toNat).size) => turned_any q _ W.heap.size s n (4096 * n) k pl (some ⟨gL,0,none⟩) (some ⟨gP,0,none⟩) n n W (HSat.out W hb) (Nat.le_refl _) hck hn hs
   (reads_blk HL (by unfold kL; rw [rowV_len])) (reads_blk (show Blk W gP 3 (rowV (fun z => .int .i64 (pl z)) n).toArray from HP) (by rw [rowV_len])) hl (by rw [hn] at p1; omega) hpl hpre)
 have hfs:q.front.size≤4096:=p5
 rw [hn] at p1
 clear p2 p3 p4 p5 l1 l2 l3 l4
 generalize hfre:q.front = fr at *
 have Hfr:=Lib.hid hfre
 clear hfre hck hn
 have B0:Below w.heap.size w ((w.alloc (.cells #[.string fr,.slice A1 n c1,.slice A2 n c2,.slice A3 n c3,.slice A4 n c4] 27)).alloc (.cells #[.string ⟨#[]⟩,.slice none 0 0,.slice none 0 0,.slice none 0 0,.slice none 0 0] 27)) :=
  ((Below.refl _ w).alloc (Nat.le_refl _) _).alloc (by simp) _
 have Ja:=(Blk.new w 27 #[.string fr,.slice A1 n c1,.slice A2 n c2,.slice A3 n c3,.slice A4 n c4]).alloc (.cells #[.string ⟨#[]⟩,.slice none 0 0,.slice none 0 0,.slice none 0 0,.slice none 0 0] 27)
 have Jr:=Blk.new (w.alloc (.cells #[.string fr,.slice A1 n c1,.slice A2 n c2,.slice A3 n c3,.slice A4 n c4] 27)) 27 #[.string ⟨#[]⟩,.slice none 0 0,.slice none 0 0,.slice none 0 0,.slice none 0 0]
 simp only [World.size_alloc] at Jr
 have j0:=Ja.cell 0
 have j1:=Ja.cell 1
 have j2:=Ja.cell 2
 have j3:=Ja.cell 3
 have j4:=Ja.cell 4
 have hok:okE true = 0:=rfl
 go_enter Tryz.func33,Tryz.ntmps33
 go_wp2_with fail
 refine (hcka.out _ B0).mono ?_
 rintro e w1 ⟨rfl,hb1⟩
 have Ja1:=Ja.below hb1 Ja.lt
 have Jr1:=Jr.below hb1 Jr.lt
 have B1:=B0.trans (hb1.mono (by simp; omega))
 clear B0 Ja Jr hb1
 have j0:=Ja1.cell 0
 have j1:=Ja1.cell 1
 have j2:=Ja1.cell 2
 have j3:=Ja1.cell 3
 have j4:=Ja1.cell 4
 go_wp2_with fail
 refine (hfra.out w1 B1).mono ?_
 rintro e w2 ⟨gL,gM,k,rfl,HL,HM,hgL,hgM,hb2,hsz,hfr⟩
 have hq1:=Jr1.lt
 have Ja2:=Ja1.below hb2 Ja1.lt
 have Jr2:=Jr1.below hb2 Jr1.lt
 have B2:=B1.trans (hb2.mono B1.size)
 have HFr:=Lib.hid hfr
 have HSz:=Lib.hid hsz
 have hz2:=hb2.size
 have hLl:=HL.lt
 have hMl:=HM.lt
 clear B1 Ja1 Jr1 hb2 hfr hsz j0 j1 j2 j3 j4
 rcases Nat.eq_zero_or_pos n with hn0 | hn0
 ·have HH:=Lib.hid (show n = 0∨k.some 0 = false from .inl hn0)
  have hne:((n:Int) == 0) = true:=by simp [hn0]
  have r0:=Jr2.cell 0
  have r1:=Jr2.cell 1
  have r2:=Jr2.cell 2
  have r3:=Jr2.cell 3
  have r4:=Jr2.cell 4
  have g0:=Jr2.frozen 0
  have g1:=Jr2.frozen 1
  have g2:=Jr2.frozen 2
  have g3:=Jr2.frozen 3
  have g4:=Jr2.frozen 4
  clear hn0
  go_wp2_with fail
  exact push_ret rfl rfl (blk_set5 Jr2 _ _ _ _ _) (hfin.out _ (below_set5 B2 (by omega) _ _ _ _ _) k HFr.out 0 (.inl ⟨rfl,HH.out⟩))
 have hne:((n:Int) == 0) = false:=by simp; omega
 have hn0i:(0:Int) < (n:Int):=by omega
 have m0:=(HM.cell 0).trans (bV_at _ hn0)
 rcases hks:k.some 0 with _ | _
 ·have HH:=Lib.hid (show n = 0∨k.some 0 = false from .inr hks)
  rw [hks] at m0
  have r0:=Jr2.cell 0
  have r1:=Jr2.cell 1
  have r2:=Jr2.cell 2
  have r3:=Jr2.cell 3
  have r4:=Jr2.cell 4
  have g0:=Jr2.frozen 0
  have g1:=Jr2.frozen 1
  have g2:=Jr2.frozen 2
  have g3:=Jr2.frozen 3
  have g4:=Jr2.frozen 4
  clear hks
  go_wp2_with fail
  exact push_ret rfl rfl (blk_set5 Jr2 _ _ _ _ _) (hfin.out _ (below_set5 B2 (by omega) _ _ _ _ _) k HFr.out 0 (.inl ⟨rfl,HH.out⟩))
 rw [hks] at m0
 have HKs:=Lib.hid hks
 clear hks
 obtain ⟨i0,hi,hy0,hy1,hy2⟩:=info_parts int_infoS
 have hbb:i0.bytes * n≤281474976710656:=by rw [hy2]; omega
 have hmx:n≤maxLen:=by unfold maxLen; omega
 go_upto_region 7 with (at_make; refine wpList_make_full _ rfl _ _ 55 rfl w2.heap.size 3 i0 _ 1 Tryz.underlying55 hi hy0 hy1 _ _ (n:Int) (n:Int) n rfl rfl rfl rfl hbb hmx (Nat.le_refl _) ?_; intro w3 hown hgr)
 have hb3:=(Below.refl w2.heap.size w2).grown hgr (Nat.le_refl _) (fun k e => by cases e)
 rw [show (Value.int .i64 0).cells = #[Value.int .i64 0] from rfl,Nat.mul_one,toList_madeCells_one,rowV_const] at hown
 have hP3:Blk w3 w2.heap.size 3 (intsV (fun _ => 0) n):=blk_of_made hown
 have Ja3:=Ja2.below hb3 Ja2.lt
 have B3:=B2.trans (hb3.mono B2.size)
 have hPl:=hP3.lt
 have j0:=Ja3.cell 0
 have j1:=Ja3.cell 1
 have j2:=Ja3.cell 2
 have j3:=Ja3.cell 3
 have j4:=Ja3.cell 4
 clear hown hgr m0 hi hy0 hy1 hy2 hbb
 go_wp2_with fail
 refine (hrea.out w3 B3).mono ?_
 rintro e w4 ⟨gS,seen,rfl,HSn,hgS,hb4,hs0,hcl⟩
 have hz3:=hb3.size
 have HA0:PsA w w4 #[.string fr,.slice A1 n c1,.slice A2 n c2,.slice A3 n c3,.slice A4 n c4] n gL gM w2.heap.size gS k (plJ (keepF k seen) n 0) seen:=by
  have h0:PsA w w4 #[.string fr,.slice A1 n c1,.slice A2 n c2,.slice A3 n c3,.slice A4 n c4] n gL gM w2.heap.size gS k (fun _ => 0) seen:={
   box:=Ja3.below hb4 Ja3.lt
   res:=(Jr2.below hb3 Jr2.lt).below hb4 (by omega)
   l:=(HL.below hb3 hLl).below hb4 (by omega)
   m:=(HM.below hb3 hMl).below hb4 (by omega)
   p:=hP3.below hb4 hPl
   s:=HSn
   bL:=by omega
   bM:=by omega
   bP:=by omega
   bS:=by omega
   bel:=B3.trans (hb4.mono B3.size) }
  exact h0
 have HKp:=Lib.hid (show Kept q k n seen from ⟨hs0 hn0,HKs.out,hn0,hcl⟩)
 have HA:=Lib.hid HA0
 clear HA0 Ja2 Ja3 Jr2 B2 B3 hb3 hb4 HL HM hP3 HSn hs0 hcl j0 j1 j2 j3 j4 hPl hLl hMl hq1 hgL hgM hgS hz2 hz3
 generalize w2.heap.size = gP at *
 generalize hfK:keepF k seen = f at *
 have HfK:=Lib.hid hfK
 go_wp2
 go_loopw [7,41] (fun nv i wr => ∃ s:Nat,s≤n∧i = .int .i64 (s:Int)∧nv = .int .i64 ((usN f s).length:Int)∧PsA w wr #[.string fr,.slice A1 n c1,.slice A2 n c2,.slice A3 n c3,.slice A4 n c4] n gL gM gP gS k (plJ f n s) seen) (fun _ i _ => n - (intOf i).toNat)
 case atStart => exact ⟨0,Nat.zero_le _,rfl,rfl,HA.out⟩
 case round =>
  clear HA
  obtain ⟨s,hs,rfl,rfl,HW⟩:=hrel
  have hul:=usN_le f s
  by_cases hlt:s < n
  ·have hi1:(0:Int)≤(s:Int):=by omega
   have hi2:(s:Int) < (n:Int):=by omega
   have a1:=(HW.s.cell s).trans (bV_at _ hlt)
   have u1:=(HW.p.cell s).trans (intsV_at _ hlt)
   have u2:=HW.p.frozen s
   have HW2:=HW.set s hlt (-1)
   have a2:=(HW2.m.cell s).trans (bV_at _ hlt)
   have u3:=(HW2.p.cell s).trans (intsV_at _ hlt)
   have u4:=HW2.p.frozen s
   obtain ⟨un,hun⟩:∃ un,un = (usN f s).length:=⟨_,rfl⟩
   rw [← hun] at hul ⊢
   have hsz9:un≤1024:=by omega
   rcases hse:seen s with _ | _
   ·have hno:f s = false:=by rw [← HfK.out]; unfold keepF; rw [hse]; rfl
    have HF:=Lib.hid (HW2.congr (pl':=plJ f n (s + 1)) (fun t ht => by rw [← plJ_put hlt t ht,plP_no hno]))
    have HU:=Lib.hid (show (usN f (s + 1)).length = un by rw [usN_no hno,hun])
    rw [hse] at a1
    clear HW HW2 hno hse hun
    generalize k.some s = b1 at *
    go_wp2
    go_roundw
    case rel => exact ⟨s + 1,by omega,by go_num,by rw [HU.out],HF.out⟩
    case measure => simp [intOf]; omega
   ·rw [hse] at a1
    rcases hks:k.some s with _ | _
    ·have hno:f s = false:=by rw [← HfK.out]; unfold keepF; rw [hse,hks]; rfl
     have HF:=Lib.hid (HW2.congr (pl':=plJ f n (s + 1)) (fun t ht => by rw [← plJ_put hlt t ht,plP_no hno]))
     have HU:=Lib.hid (show (usN f (s + 1)).length = un by rw [usN_no hno,hun])
     rw [hks] at a2
     clear HW HW2 hno hse hun hks
     go_wp2
     go_roundw
     case rel => exact ⟨s + 1,by omega,by go_num,by rw [HU.out],HF.out⟩
     case measure => simp [intOf]; omega
    ·have hyes:f s = true:=by rw [← HfK.out]; unfold keepF; rw [hse,hks]; rfl
     have HF:=Lib.hid ((HW2.set s hlt (un:Int)).congr (pl':=plJ f n (s + 1)) (fun t ht => by rw [← plJ_put2 (i0:=-1) hlt t ht,plP_yes hlt hyes,hun]))
     have HU:=Lib.hid (show (usN f (s + 1)).length = un + 1 by rw [usN_yes hyes,List.length_append,hun]; rfl)
     rw [hks] at a2
     clear HW HW2 hyes hse hun hks
     go_wp2
     go_roundw
     case rel => exact ⟨s + 1,by omega,by go_num,by rw [HU.out]; go_num,HF.out⟩
     case measure => simp [intOf]; omega
  ·obtain rfl:n = s:=by omega
   have HA:=HW.congr (pl':=plP f n) (fun t ht => by unfold plJ; rw [if_pos ht])
   clear HW
   obtain ⟨un,hun⟩:∃ un,un = (usN f n).length:=⟨_,rfl⟩
   rw [← hun] at hul ⊢
   clear hun
   have hz0:=HSz.out 0
   have b0:=HA.box.cell 0
   have e0:wr.cell? ⟨gL,0,none⟩ = some (.string (k.l 0)):=(HA.l.cell 0).trans (by unfold kL; rw [List.getElem?_toArray,rowV_at _ hn0])
   have y0:=cell_regrown b0
   have y1:=cell_regrown e0
   have hfx:=ByteArray.size_append (a:=fr) (b:=k.l 0)
   have HPre:=Lib.hid (fun (s:Nat) (hs:s < n) (hfs:f s = true) => push_pre (s:=s) HCk.out.1 HCk.out.2 HFr.out HKp.out hs (by rw [HfK.out]; exact hfs))
   have HCut:=Lib.hid (fun (s:Nat) (hs:s < n) (hfs:f s = true) (he:q.en s = true) => push_cut (seen:=seen) HCk.out.2 HFr.out hs (by rw [HfK.out]; exact hfs) he)
   have HLg:=Lib.hid (fun (s:Nat) (hs:s < n) (hfs:f s = true) => push_long (s:=s) HCk.out.1 HCk.out.2 HKp.out hs (by rw [HfK.out]; exact hfs))
   rw [HfK.out] at HPre HLg
   generalize hl0:k.l 0 = l0 at *
   have HL0:=Lib.hid hl0
   clear hl0 hfK
   have HX:=Lib.hid (fun (W:World) (hb:Below wr.heap.size wr W) => HA.call hb)
   obtain ⟨W0,hW0⟩:∃ W0,W0 = wr:=⟨_,rfl⟩
   subst hW0
   have LA:Below W0.heap.size W0 (W0.drew.alloc (.cells #[.string ⟨#[]⟩,.slice none 0 0,.slice none 0 0,.slice none 0 0,.slice none 0 0] 27)):=((Below.refl W0.heap.size W0).drew).alloc (Nat.le_refl _) _
   have HG:=Blk.new W0.drew 27 #[.string ⟨#[]⟩,.slice none 0 0,.slice none 0 0,.slice none 0 0,.slice none 0 0]
   rw [show W0.drew.heap.size = W0.heap.size from rfl] at HG
   have q0:=HG.cell 0
   have q1:=HG.cell 1
   have q2:=HG.cell 2
   have q3:=HG.cell 3
   have q4:=HG.cell 4
   have f0:=HG.frozen 0
   have f1:=HG.frozen 1
   have f2:=HG.frozen 2
   have f3:=HG.frozen 3
   have f4:=HG.frozen 4
   have hA0:=HA.bel.size
   have hr1:=HA.res.lt
   clear HA HG
   go_wp2
   refine wp_region_hold_below 8 [0,1,2,3,4,5,6] [7] (by kernel_rfl) (by kernel_rfl) rfl (by kernel_rfl) ?_
   simp only [pickOps,List.getElem?_cons_zero,List.getElem?_cons_succ,List.drop_succ_cons,List.drop_zero]
   repeat (go_big_quiet_step (fail))
   refine wpQuiet_nil ?_
   refine wpForce_step rfl (fun KK hKK => ?_)
   go_simp
   refine hKK _ _ (regrown_of_below LA) ?_
   clear hKK KK
   refine wpForce_nil ?_
   clear b0 e0 y0 y1
   go_wp2
   refine NoPanic.normal ?_
   go_wp2
   clear q0 q1 q2 q3 q4 f0 f1 f2 f3 f4
   go_loopw [72] (fun i wq => ∃ (s:Nat) (vN vO vE vT:Value) (nv ov:List Value) (N:List (List Int)) (O:List (List ByteArray)) (E:List Bool) (T:List ByteArray),s≤n∧i = .int .i64 (s:Int)∧SqB W0 wq W0.heap.size (fr ++ l0) vN vO vE vT nv ov N O E T∧RowsTo q k f n s N O E T∧ShortTo q k f n s) (fun i _ => n - (intOf i).toNat)
   case atStart => exact ⟨0,nilV,nilV,nilV,nilV,[],[],[],[],[],[],Nat.zero_le _,rfl,sqB_start (Blk.new W0 27 #[.string (fr ++ l0),nilV,nilV,nilV,nilV]) (Nat.le_refl _) (((Below.refl W0.heap.size W0).alloc (Nat.le_refl _) (.cells #[.string (fr ++ l0),nilV,nilV,nilV,nilV] 27)).drew),RowsTo.start,ShortTo.start⟩
   case round =>
    clear LA
    obtain ⟨s,vN,vO,vE,vT,nv,ov,N,O,E,T,hs,rfl,HB,hR,hS⟩:=hrel
    obtain ⟨An,cn,rfl,vn1,vn2,_⟩:=own_form HB.oN
    obtain ⟨Ao,co,rfl,vo1,vo2,_⟩:=own_form HB.oO
    obtain ⟨Ae,ce,rfl,ve1,ve2,_⟩:=own_form HB.oE
    obtain ⟨At,ct,rfl,vt1,vt2,_⟩:=own_form HB.oT
    have hul:=usN_le f s
    have HLn:=Lib.hid (show N.length≤1024∧O.length≤1024∧E.length≤1024∧T.length≤1024 from by
     obtain ⟨ln1,ln2,ln3,ln4⟩:=hR.len
     omega)
    have HAr:=HX.out wr HB.bel
    have hwz:=HAr.bel.size
    by_cases hlt:s < n
    ·have hi1:(0:Int)≤(s:Int):=by omega
     have hi2:(s:Int) < (n:Int):=by omega
     have u1:=(HAr.p.cell s).trans (intsV_at _ hlt)
     rcases hfe:f s with _ | _
     ·rw [plP_no hfe] at u1
      have HRp:=Lib.hid (hR.skip hfe)
      have HSp:=Lib.hid (hS.skip hfe)
      have HBh:=Lib.hid HB
      clear hR hS HB HAr hfe
      go_wp2
      go_roundw
      case rel => exact ⟨s + 1,_,_,_,_,_,_,_,_,_,_,by omega,by go_num,HBh.out,HRp.out,HSp.out⟩
      case measure => simp [intOf]; omega
     ·rw [plP_yes hlt hfe] at u1
      have hpn:¬ (((usN f s).length:Nat):Int) < 0:=by omega
      have ht:=Lib.hid (htur.out wr HAr.bel s hlt k (plP f n) gL gP HAr.l HAr.p HSz.out (fun z _ => plP_bounds f n z p1) (HPre.out s hlt hfe))
      obtain ⟨g3,o3,rfl,hg3,x3⟩:=cell_at (d:=false) HR3.out s hlt
      obtain ⟨g4,o4,rfl,hg4,x4⟩:=cell_at (d:=ByteArray.empty) HR4.out.1 s hlt
      rw [show q.ends.getD s false = q.en s from rfl] at x3
      rw [show q.tail.getD s ByteArray.empty = q.tl s from rfl] at x4
      have b0:=HAr.box.cell 0
      have b1:=HAr.box.cell 1
      have b2:=HAr.box.cell 2
      have b3:=HAr.box.cell 3
      have b4:=HAr.box.cell 4
      have hRh:=Lib.hid hR
      have hSh:=Lib.hid hS
      have HFe:=Lib.hid hfe
      have hLT:=Lib.hid (own_lt HB.oT)
      clear hR hS hfe
      generalize (usN f s).length = un at *
      go_wp2_with fail
      refine ht.out.mono ?_
      clear ht b0 b1 b2 b3 b4 u1
      rintro e w5 ⟨hb5,h5⟩
      have HB5:=HB.call hb5
      have HA5:=HAr.call hb5
      rcases h5 with ⟨hlong,rfl⟩ | ⟨gN,gO,rfl,hbN,hbO,hgN,hgO,hsh5⟩
      ·have HL5:=Lib.hid (HLg.out s hlt HFe.out hlong)
       have r0:=HA5.res.cell 0
       have r1:=HA5.res.cell 1
       have r2:=HA5.res.cell 2
       have r3:=HA5.res.cell 3
       have r4:=HA5.res.cell 4
       have g0:=HA5.res.frozen 0
       have g1:=HA5.res.frozen 1
       have g2:=HA5.res.frozen 2
       have g3':=HA5.res.frozen 3
       have g4':=HA5.res.frozen 4
       have HA5h:=Lib.hid (And.intro HA5.res HA5.bel)
       clear HA5 HB5 HB HAr hlong
       go_wp2_with fail
       exact push_ret rfl rfl (blk_set5 HA5h.out.1 _ _ _ _ _) (hfin.out _ (below_set5 HA5h.out.2 (by omega) _ _ _ _ _) k HFr.out 2 (.inr ⟨rfl,HL5.out⟩))
      ·have HSp:=Lib.hid (hSh.out.put hsh5)
       have hbz5:=HB.bel.size
       have HrN0:RowB W0.heap.size w5 3 (.slice (some ⟨gN,0,none⟩) 256 256) ((rowN q (plP f n) s).map (Value.int .i64)):=rowB_ints hbN (by omega)
       have HrO0:RowB W0.heap.size w5 9 (.slice (some ⟨gO,0,none⟩) 256 256) ((rowO q k (plP f n) s).map Value.string):=rowB_strs hbO (by omega)
       have haO:∀ g,(Value.slice At T.length ct).ownBlock = some g→(Value.slice (some ⟨gO,0,none⟩) 256 256).ownBlock≠some g:=fun g e e2 => by
        have:=(hLT.out g e).2
        have e9:gO = g:=Option.some.inj e2
        omega
       have b3:=HA5.box.cell 3
       have e3:=(HA5.bel.cell (p:=⟨g3,o3 + s,none⟩) (by show g3 < _; omega)).trans x3
       clear HB HAr hb5 hbN hbO hsh5
       rcases hen:q.en s with _ | _
       ·have HRp:=Lib.hid (show RowsTo q k f n (s + 1) (N ++ [rowN q (plP f n) s]) (O ++ [rowO q k (plP f n) s]) (E ++ [false]) (T ++ [ByteArray.mk #[]]) by
          have:=hRh.out.put HFe.out
          rw [hen,show tailT q k s = ByteArray.mk #[] by unfold tailT; rw [hen]; rfl] at this
          exact this)
        rw [hen] at e3 x3
        clear hen
        go_upto_region 26 with (fail)
        clear b3 e3 HA5
        obtain ⟨w6,hw6⟩:∃ w6,w6 = w5:=⟨_,rfl⟩
        subst hw6
        have HB6:=HB5
        have HrN:=HrN0
        have HrO:=HrO0
        clear HB5 HrN0 HrO0
        obtain ⟨iN,hiN,y0N,y1N,y2N⟩:=info_parts slI_info
        have qN:=HB6.box.cell 1
        have fN:=HB6.box.frozen 1
        have LBN:=(Below.refl w6.heap.size w6).alloc (Nat.le_refl _) (.cells #[.slice (some ⟨gN,0,none⟩) 256 256] 55)
        have HBN:=HB6.call LBN
        have hoN:=HBN.oN
        have hbzN:=HBN.box
        have hneN:=own_blk hoN hbzN (by decide)
        have hrdN:=reads_allocK w6 [.slice (some ⟨gN,0,none⟩) 256 256] 55 1 1 rfl
        have h63N:N.length + 1≤maxLen:=by have:=HLn.out; unfold maxLen; omega
        have hbyN:(N.length + 1) * 24≤140737488355328:=by have:=HLn.out; omega
        have honeN:∀ u∈[Value.slice (some ⟨gN,0,none⟩) 256 256],u.oneCell' = true:=fun u hu => by rw [List.mem_singleton] at hu; subst hu; rfl
        have hbsN:=HBN.bel.size
        have HrN7:=HrN.call LBN
        have HrO7:=HrO.call LBN
        clear HB6 HrN HrO
        go_upto_region 27 with (at_builtin; refine wpList_append_any _ rfl _ _ 22 rfl W0.heap.size 55 iN _ 1 24 Tryz.underlying22 hiN y0N y1N y2N rfl (by decide) _ _ _ rfl hoN _ (some ⟨w6.heap.size,0,none⟩) 1 1 [.slice (some ⟨gN,0,none⟩) 256 256] rfl hrdN honeN h63N hbyN hbsN ?_; intro vN' wN hownN hgrN hlocN; obtain ⟨A9N,c9N,rfl,_,_,_⟩:=own_form hownN; have e3N:=(blk_keep hbzN hgrN hneN).cell 1; have e4N:=(blk_keep hbzN hgrN hneN).frozen 1)
        have HB7:=HBN.putN hgrN hownN HrN7
        have HrO8:=(HrO7.kept hgrN (HrO7.ne_own hoN (by decide))).set (blk_keep hbzN hgrN hneN) (by decide) 1 (.slice A9N (N.length + 1) c9N)
        clear qN fN e3N e4N LBN hbzN hneN hrdN honeN h63N hbyN hbsN hoN hownN hgrN hlocN HBN HrN7 HrO7 hiN y0N y1N y2N
        generalize wN.setCell ⟨W0.heap.size,1,none⟩ (.slice A9N (N.length + 1) c9N) = w7 at *
        obtain ⟨iO,hiO,y0O,y1O,y2O⟩:=info_parts slS_info
        have qO:=HB7.box.cell 2
        have fO:=HB7.box.frozen 2
        have LBO:=(Below.refl w7.heap.size w7).alloc (Nat.le_refl _) (.cells #[.slice (some ⟨gO,0,none⟩) 256 256] 25)
        have HBO:=HB7.call LBO
        have hoO:=HBO.oO
        have hbzO:=HBO.box
        have hneO:=own_blk hoO hbzO (by decide)
        have hrdO:=reads_allocK w7 [.slice (some ⟨gO,0,none⟩) 256 256] 25 1 1 rfl
        have h63O:O.length + 1≤maxLen:=by have:=HLn.out; unfold maxLen; omega
        have hbyO:(O.length + 1) * 24≤140737488355328:=by have:=HLn.out; omega
        have honeO:∀ u∈[Value.slice (some ⟨gO,0,none⟩) 256 256],u.oneCell' = true:=fun u hu => by rw [List.mem_singleton] at hu; subst hu; rfl
        have hbsO:=HBO.bel.size
        have HrO9:=HrO8.call LBO
        clear HB7 HrO8
        go_upto_region 28 with (at_builtin; refine wpList_append_any _ rfl _ _ 23 rfl W0.heap.size 25 iO _ 1 24 Tryz.underlying23 hiO y0O y1O y2O rfl (by decide) _ _ _ rfl hoO _ (some ⟨w7.heap.size,0,none⟩) 1 1 [.slice (some ⟨gO,0,none⟩) 256 256] rfl hrdO honeO h63O hbyO hbsO ?_; intro vO' wO hownO hgrO hlocO; obtain ⟨A9O,c9O,rfl,_,_,_⟩:=own_form hownO; have e3O:=(blk_keep hbzO hgrO hneO).cell 2; have e4O:=(blk_keep hbzO hgrO hneO).frozen 2)
        have HB8:=HBO.putO hgrO hownO HrO9 haO
        clear qO fO e3O e4O LBO hbzO hneO hrdO honeO h63O hbyO hbsO hoO hownO hgrO hlocO HBO HrO9 haO hiO y0O y1O y2O
        generalize wO.setCell ⟨W0.heap.size,2,none⟩ (.slice A9O (O.length + 1) c9O) = w8 at *
        obtain ⟨iE,hiE,y0E,y1E,y2E⟩:=info_parts bool_infoS
        have HA8:=HX.out w8 HB8.bel
        have b3:=HA8.box.cell 3
        have e3:=(HA8.bel.cell (p:=⟨g3,o3 + s,none⟩) (by show g3 < _; omega)).trans x3
        have qE:=HB8.box.cell 3
        have z1:=cell_regrown b3
        have z2:=cell_regrown e3
        have z3:=cell_regrown qE
        have LBE:Below w8.heap.size w8 (w8.drew.alloc (.cells #[.bool false] 4)):=((Below.refl w8.heap.size w8).drew).alloc (Nat.le_refl _) _
        have HBE:=HB8.call LBE
        have hoE:=HBE.oE
        have hbzE:=HBE.box
        have fE:=hbzE.frozen 3
        have hneE:=own_blk hoE hbzE (by decide)
        have hrdE:=reads_allocK w8.drew [.bool false] 4 1 1 rfl
        have h63E:E.length + 1≤maxLen:=by have:=HLn.out; unfold maxLen; omega
        have hbyE:(E.length + 1) * 1≤140737488355328:=by have:=HLn.out; omega
        have honeE:∀ u∈[Value.bool false],u.oneCell' = true:=fun u hu => by rw [List.mem_singleton] at hu; subst hu; rfl
        have hbsE:=HBE.bel.size
        clear HB8 HA8
        go_wp2
        refine wp_region_hold_below 8 [0,1,2,3,4,5,6] [7] (by kernel_rfl) (by kernel_rfl) rfl (by kernel_rfl) ?_
        simp only [pickOps,List.getElem?_cons_zero,List.getElem?_cons_succ,List.drop_succ_cons,List.drop_zero]
        repeat (go_big_quiet_step (fail))
        refine wpQuiet_nil ?_
        refine wpForce_step rfl (fun KK hKK => ?_)
        go_simp
        refine hKK _ _ (regrown_of_below LBE) ?_
        clear hKK KK
        refine wpForce_nil ?_
        clear z1 z2 z3 b3 e3 qE
        go_wp2_with (at_builtin; refine wpList_append_any _ rfl _ _ 24 rfl W0.heap.size 4 iE _ 1 1 Tryz.underlying24 hiE y0E y1E y2E rfl (by decide) _ _ _ rfl hoE _ (some ⟨w8.heap.size,0,none⟩) 1 1 [.bool false] rfl hrdE honeE h63E hbyE hbsE ?_; intro vE' wE hownE hgrE hlocE; obtain ⟨A9E,c9E,rfl,_,_,_⟩:=own_form hownE; have e3E:=(blk_keep hbzE hgrE hneE).cell 3; have e4E:=(blk_keep hbzE hgrE hneE).frozen 3)
        refine NoPanic.normal ?_
        go_upto_region 29 with (fail)
        have HB9:=HBE.putE hgrE hownE
        clear fE e3E e4E LBE hbzE hneE hrdE honeE h63E hbyE hbsE hoE hownE hgrE hlocE HBE hiE y0E y1E y2E
        generalize wE.setCell ⟨W0.heap.size,3,none⟩ (.slice A9E (E.length + 1) c9E) = w9 at *
        obtain ⟨iT,hiT,y0T,y1T,y2T⟩:=info_parts str_infoS
        have qT:=HB9.box.cell 4
        have fT:=HB9.box.frozen 4
        have LBT:=(Below.refl w9.heap.size w9).alloc (Nat.le_refl _) (.cells #[.string (ByteArray.mk #[])] 9)
        have HBT:=HB9.call LBT
        have hoT:=HBT.oT
        have hbzT:=HBT.box
        have hneT:=own_blk hoT hbzT (by decide)
        have hrdT:=reads_allocK w9 [.string (ByteArray.mk #[])] 9 1 1 rfl
        have h63T:T.length + 1≤maxLen:=by have:=HLn.out; unfold maxLen; omega
        have hbyT:(T.length + 1) * 16≤140737488355328:=by have:=HLn.out; omega
        have honeT:∀ u∈[Value.string (ByteArray.mk #[])],u.oneCell' = true:=fun u hu => by rw [List.mem_singleton] at hu; subst hu; rfl
        have hbsT:=HBT.bel.size
        clear HB9
        go_wp2_with (at_builtin; refine wpList_append_any _ rfl _ _ 25 rfl W0.heap.size 9 iT _ 1 16 Tryz.underlying25 hiT y0T y1T y2T rfl (by decide) _ _ _ rfl hoT _ (some ⟨w9.heap.size,0,none⟩) 1 1 [.string (ByteArray.mk #[])] rfl hrdT honeT h63T hbyT hbsT ?_; intro vT' wT hownT hgrT hlocT; obtain ⟨A9T,c9T,rfl,_,_,_⟩:=own_form hownT; have e3T:=(blk_keep hbzT hgrT hneT).cell 4; have e4T:=(blk_keep hbzT hgrT hneT).frozen 4)
        have HB10:=Lib.hid (HBT.putT hgrT hownT hlocT)
        clear qT fT e3T e4T LBT hbzT hneT hrdT honeT h63T hbyT hbsT hoT hownT hgrT hlocT HBT hiT y0T y1T y2T
        go_roundw
        case rel => exact ⟨s + 1,_,_,_,_,_,_,_,_,_,_,by omega,by go_num,HB10.out,HRp.out,HSp.out⟩
        case measure => simp [intOf]; omega
       ·have hcut:=HCut.out s hlt HFe.out hen
        have HRp:=Lib.hid (show RowsTo q k f n (s + 1) (N ++ [rowN q (plP f n) s]) (O ++ [rowO q k (plP f n) s]) (E ++ [true]) (T ++ [(q.tl s).extract (k.l s).size (q.tl s).size]) by
         have:=hRh.out.put HFe.out
         rw [hen,show tailT q k s = (q.tl s).extract (k.l s).size (q.tl s).size by unfold tailT; rw [if_pos hen]] at this
         exact this)
        rw [hen] at e3 x3
        have b4:=HA5.box.cell 4
        have e4:=(HA5.bel.cell (p:=⟨g4,o4 + s,none⟩) (by show g4 < _; omega)).trans x4
        have e5:w5.cell? ⟨gL,s,none⟩ = some (.string (k.l s)):=(HA5.l.cell s).trans (by unfold kL; rw [List.getElem?_toArray,rowV_at _ hlt])
        have htm:(q.tl s).size≤maxLen:=by
         have:=(ckB_nx HCk.out.1 (s:=s) (b:=0) (by rw [HCk.out.2]; exact hlt) (by decide)).2.2.2.2.1
         unfold maxLen; omega
        have z1:=cell_regrown b4
        have z2:=cell_regrown e4
        have z3:=cell_regrown e5
        have hci:(((k.l s).size:Nat):Int)≤(((q.tl s).size:Nat):Int):=by omega
        clear hen HA5
        generalize k.l s = ls at *
        generalize q.tl s = tl at *
        go_wp2
        refine wp_region_quiet_below (by kernel_rfl) (by kernel_rfl) ?_
        repeat (go_big_quiet_step (fail))
        refine wpQuiet_nil ?_
        intro w6 hw6
        have hb6:=below_of hw6
        have HB6:=HB5.call hb6
        have HrN:=HrN0.call hb6
        have HrO:=HrO0.call hb6
        clear HB5 HrN0 HrO0 hw6 hb6 z1 z2 z3 b3 b4 e3 e4 e5
        go_upto_region 26 with (fail)
        generalize tl.extract ls.size tl.size = xx at *
        obtain ⟨iN,hiN,y0N,y1N,y2N⟩:=info_parts slI_info
        have qN:=HB6.box.cell 1
        have fN:=HB6.box.frozen 1
        have LBN:=(Below.refl w6.heap.size w6).alloc (Nat.le_refl _) (.cells #[.slice (some ⟨gN,0,none⟩) 256 256] 55)
        have HBN:=HB6.call LBN
        have hoN:=HBN.oN
        have hbzN:=HBN.box
        have hneN:=own_blk hoN hbzN (by decide)
        have hrdN:=reads_allocK w6 [.slice (some ⟨gN,0,none⟩) 256 256] 55 1 1 rfl
        have h63N:N.length + 1≤maxLen:=by have:=HLn.out; unfold maxLen; omega
        have hbyN:(N.length + 1) * 24≤140737488355328:=by have:=HLn.out; omega
        have honeN:∀ u∈[Value.slice (some ⟨gN,0,none⟩) 256 256],u.oneCell' = true:=fun u hu => by rw [List.mem_singleton] at hu; subst hu; rfl
        have hbsN:=HBN.bel.size
        have HrN7:=HrN.call LBN
        have HrO7:=HrO.call LBN
        clear HB6 HrN HrO
        go_upto_region 27 with (at_builtin; refine wpList_append_any _ rfl _ _ 22 rfl W0.heap.size 55 iN _ 1 24 Tryz.underlying22 hiN y0N y1N y2N rfl (by decide) _ _ _ rfl hoN _ (some ⟨w6.heap.size,0,none⟩) 1 1 [.slice (some ⟨gN,0,none⟩) 256 256] rfl hrdN honeN h63N hbyN hbsN ?_; intro vN' wN hownN hgrN hlocN; obtain ⟨A9N,c9N,rfl,_,_,_⟩:=own_form hownN; have e3N:=(blk_keep hbzN hgrN hneN).cell 1; have e4N:=(blk_keep hbzN hgrN hneN).frozen 1)
        have HB7:=HBN.putN hgrN hownN HrN7
        have HrO8:=(HrO7.kept hgrN (HrO7.ne_own hoN (by decide))).set (blk_keep hbzN hgrN hneN) (by decide) 1 (.slice A9N (N.length + 1) c9N)
        clear qN fN e3N e4N LBN hbzN hneN hrdN honeN h63N hbyN hbsN hoN hownN hgrN hlocN HBN HrN7 HrO7 hiN y0N y1N y2N
        generalize wN.setCell ⟨W0.heap.size,1,none⟩ (.slice A9N (N.length + 1) c9N) = w7 at *
        obtain ⟨iO,hiO,y0O,y1O,y2O⟩:=info_parts slS_info
        have qO:=HB7.box.cell 2
        have fO:=HB7.box.frozen 2
        have LBO:=(Below.refl w7.heap.size w7).alloc (Nat.le_refl _) (.cells #[.slice (some ⟨gO,0,none⟩) 256 256] 25)
        have HBO:=HB7.call LBO
        have hoO:=HBO.oO
        have hbzO:=HBO.box
        have hneO:=own_blk hoO hbzO (by decide)
        have hrdO:=reads_allocK w7 [.slice (some ⟨gO,0,none⟩) 256 256] 25 1 1 rfl
        have h63O:O.length + 1≤maxLen:=by have:=HLn.out; unfold maxLen; omega
        have hbyO:(O.length + 1) * 24≤140737488355328:=by have:=HLn.out; omega
        have honeO:∀ u∈[Value.slice (some ⟨gO,0,none⟩) 256 256],u.oneCell' = true:=fun u hu => by rw [List.mem_singleton] at hu; subst hu; rfl
        have hbsO:=HBO.bel.size
        have HrO9:=HrO8.call LBO
        clear HB7 HrO8
        go_upto_region 28 with (at_builtin; refine wpList_append_any _ rfl _ _ 23 rfl W0.heap.size 25 iO _ 1 24 Tryz.underlying23 hiO y0O y1O y2O rfl (by decide) _ _ _ rfl hoO _ (some ⟨w7.heap.size,0,none⟩) 1 1 [.slice (some ⟨gO,0,none⟩) 256 256] rfl hrdO honeO h63O hbyO hbsO ?_; intro vO' wO hownO hgrO hlocO; obtain ⟨A9O,c9O,rfl,_,_,_⟩:=own_form hownO; have e3O:=(blk_keep hbzO hgrO hneO).cell 2; have e4O:=(blk_keep hbzO hgrO hneO).frozen 2)
        have HB8:=HBO.putO hgrO hownO HrO9 haO
        clear qO fO e3O e4O LBO hbzO hneO hrdO honeO h63O hbyO hbsO hoO hownO hgrO hlocO HBO HrO9 haO hiO y0O y1O y2O
        generalize wO.setCell ⟨W0.heap.size,2,none⟩ (.slice A9O (O.length + 1) c9O) = w8 at *
        obtain ⟨iE,hiE,y0E,y1E,y2E⟩:=info_parts bool_infoS
        have HA8:=HX.out w8 HB8.bel
        have b3:=HA8.box.cell 3
        have e3:=(HA8.bel.cell (p:=⟨g3,o3 + s,none⟩) (by show g3 < _; omega)).trans x3
        have qE:=HB8.box.cell 3
        have z1:=cell_regrown b3
        have z2:=cell_regrown e3
        have z3:=cell_regrown qE
        have LBE:Below w8.heap.size w8 (w8.drew.alloc (.cells #[.bool true] 4)):=((Below.refl w8.heap.size w8).drew).alloc (Nat.le_refl _) _
        have HBE:=HB8.call LBE
        have hoE:=HBE.oE
        have hbzE:=HBE.box
        have fE:=hbzE.frozen 3
        have hneE:=own_blk hoE hbzE (by decide)
        have hrdE:=reads_allocK w8.drew [.bool true] 4 1 1 rfl
        have h63E:E.length + 1≤maxLen:=by have:=HLn.out; unfold maxLen; omega
        have hbyE:(E.length + 1) * 1≤140737488355328:=by have:=HLn.out; omega
        have honeE:∀ u∈[Value.bool true],u.oneCell' = true:=fun u hu => by rw [List.mem_singleton] at hu; subst hu; rfl
        have hbsE:=HBE.bel.size
        clear HB8 HA8
        go_wp2
        refine wp_region_hold_below 8 [0,1,2,3,4,5,6] [7] (by kernel_rfl) (by kernel_rfl) rfl (by kernel_rfl) ?_
        simp only [pickOps,List.getElem?_cons_zero,List.getElem?_cons_succ,List.drop_succ_cons,List.drop_zero]
        repeat (go_big_quiet_step (fail))
        refine wpQuiet_nil ?_
        refine wpForce_step rfl (fun KK hKK => ?_)
        go_simp
        refine hKK _ _ (regrown_of_below LBE) ?_
        clear hKK KK
        refine wpForce_nil ?_
        clear z1 z2 z3 b3 e3 qE
        go_wp2_with (at_builtin; refine wpList_append_any _ rfl _ _ 24 rfl W0.heap.size 4 iE _ 1 1 Tryz.underlying24 hiE y0E y1E y2E rfl (by decide) _ _ _ rfl hoE _ (some ⟨w8.heap.size,0,none⟩) 1 1 [.bool true] rfl hrdE honeE h63E hbyE hbsE ?_; intro vE' wE hownE hgrE hlocE; obtain ⟨A9E,c9E,rfl,_,_,_⟩:=own_form hownE; have e3E:=(blk_keep hbzE hgrE hneE).cell 3; have e4E:=(blk_keep hbzE hgrE hneE).frozen 3)
        refine NoPanic.normal ?_
        go_upto_region 29 with (fail)
        have HB9:=HBE.putE hgrE hownE
        clear fE e3E e4E LBE hbzE hneE hrdE honeE h63E hbyE hbsE hoE hownE hgrE hlocE HBE hiE y0E y1E y2E
        generalize wE.setCell ⟨W0.heap.size,3,none⟩ (.slice A9E (E.length + 1) c9E) = w9 at *
        obtain ⟨iT,hiT,y0T,y1T,y2T⟩:=info_parts str_infoS
        have qT:=HB9.box.cell 4
        have fT:=HB9.box.frozen 4
        have LBT:=(Below.refl w9.heap.size w9).alloc (Nat.le_refl _) (.cells #[.string xx] 9)
        have HBT:=HB9.call LBT
        have hoT:=HBT.oT
        have hbzT:=HBT.box
        have hneT:=own_blk hoT hbzT (by decide)
        have hrdT:=reads_allocK w9 [.string xx] 9 1 1 rfl
        have h63T:T.length + 1≤maxLen:=by have:=HLn.out; unfold maxLen; omega
        have hbyT:(T.length + 1) * 16≤140737488355328:=by have:=HLn.out; omega
        have honeT:∀ u∈[Value.string xx],u.oneCell' = true:=fun u hu => by rw [List.mem_singleton] at hu; subst hu; rfl
        have hbsT:=HBT.bel.size
        clear HB9
        go_wp2_with (at_builtin; refine wpList_append_any _ rfl _ _ 25 rfl W0.heap.size 9 iT _ 1 16 Tryz.underlying25 hiT y0T y1T y2T rfl (by decide) _ _ _ rfl hoT _ (some ⟨w9.heap.size,0,none⟩) 1 1 [.string xx] rfl hrdT honeT h63T hbyT hbsT ?_; intro vT' wT hownT hgrT hlocT; obtain ⟨A9T,c9T,rfl,_,_,_⟩:=own_form hownT; have e3T:=(blk_keep hbzT hgrT hneT).cell 4; have e4T:=(blk_keep hbzT hgrT hneT).frozen 4)
        have HB10:=Lib.hid (HBT.putT hgrT hownT hlocT)
        clear qT fT e3T e4T LBT hbzT hneT hrdT honeT h63T hbyT hbsT hoT hownT hgrT hlocT HBT hiT y0T y1T y2T
        go_roundw
        case rel => exact ⟨s + 1,_,_,_,_,_,_,_,_,_,_,by omega,by go_num,HB10.out,HRp.out,HSp.out⟩
        case measure => simp [intOf]; omega
    ·obtain rfl:n = s:=by omega
     have hr2:=HAr.res
     have hsm:=push_small HCk.out.1 HCk.out.2 HKp.out (by rw [Hfr.out,HL0.out]; omega) (by rw [HfK.out]; exact hS)
     rw [HfK.out,hR.seq,Hfr.out,HL0.out] at hsm
     have hq:=HB.seqNew (m:=1024) (Nat.le_refl _) hsm
     have hpu:=pushes_of HCk.out.1 HCk.out.2 HFr.out HKp.out
     rw [HfK.out,hR.seq,Hfr.out,HL0.out] at hpu
     have hcall:=seqCheck_any ⟨fr ++ l0,N,O,E,T⟩ _ wr.heap.size wr hq.at_ (Nat.le_refl _)
     have hlg:ckB ⟨fr ++ l0,N,O,E,T⟩ = false→LongQ q k:=fun hcr => .inr ⟨HKs.out,by
      apply Decidable.byContradiction
      intro h9
      have:=ck_push HCk.out.1 HCk.out.2 HKp.out (by rw [ByteArray.size_append]; omega) (by rw [HfK.out]; exact hS)
      rw [HfK.out,hR.seq,Hfr.out,HL0.out,hcr] at this
      cases this⟩
     have q0:=HB.box.cell 0
     have q1:=HB.box.cell 1
     have q2:=HB.box.cell 2
     have q3:=HB.box.cell 3
     have q4:=HB.box.cell 4
     have HFin2:=Lib.hid (fun (W:World) (hb:Below w.heap.size w W) (v:Value) (hq:SeqNew w.heap.size W ⟨fr ++ l0,N,O,E,T⟩ v) (hcr:ckB ⟨fr ++ l0,N,O,E,T⟩ = true) => hfin2.out W hb k HFr.out v _ _ hq hcr hpu)
     have hbA:=HAr.bel
     have HQ:=Lib.hid hq
     have HBx:=Lib.hid HB.box
     clear hsm hq hpu HAr HB hS hR hfx
     rcases hcr:ckB ⟨fr ++ l0,N,O,E,T⟩ with _ | _
     ·rw [hcr] at hcall
      have HL9:=Lib.hid (hlg hcr)
      have HC:=Lib.hid hcall
      have hok9:okE false = 1:=rfl
      clear hlg hcr hcall HFin2 HQ HBx
      generalize fr ++ l0 = fx at *
      generalize N.length = n1 at *
      generalize O.length = n2 at *
      generalize E.length = n3 at *
      generalize T.length = n4 at *
      go_wp2_with fail
      refine HC.out.mono ?_
      clear q0 q1 q2 q3 q4
      rintro e w9 ⟨rfl,hb9⟩
      have Jr9:=hr2.below hb9 hr2.lt
      have hb99:=hbA.trans (hb9.mono hbA.size)
      have r0:=Jr9.cell 0
      have r1:=Jr9.cell 1
      have r2:=Jr9.cell 2
      have r3:=Jr9.cell 3
      have r4:=Jr9.cell 4
      have g0:=Jr9.frozen 0
      have g1:=Jr9.frozen 1
      have g2:=Jr9.frozen 2
      have g3:=Jr9.frozen 3
      have g4:=Jr9.frozen 4
      clear hr2
      go_wp2_with fail
      exact push_ret rfl rfl (blk_set5 Jr9 _ _ _ _ _) (hfin.out _ (below_set5 hb99 (by omega) _ _ _ _ _) k HFr.out 2 (.inr ⟨rfl,HL9.out⟩))
     ·rw [hcr] at hcall
      have HC:=Lib.hid hcall
      have HFin3:=Lib.hid (fun (W:World) (hb:Below w.heap.size w W) (v:Value) (hq:SeqNew w.heap.size W ⟨fr ++ l0,N,O,E,T⟩ v) => HFin2.out W hb v hq hcr)
      clear hlg hcr hcall HFin2
      generalize hfx:fr ++ l0 = fx at *
      generalize N.length = n1 at *
      generalize O.length = n2 at *
      generalize E.length = n3 at *
      generalize T.length = n4 at *
      clear hfx
      go_wp2_with fail
      refine HC.out.mono ?_
      clear q0 q1 q2 q3 q4
      rintro e w9 ⟨rfl,hb9⟩
      have Jr9:=hr2.below hb9 hr2.lt
      have hb99:=hbA.trans (hb9.mono hbA.size)
      have HB9:=HBx.out.below hb9 HBx.out.lt
      have HQ9:=Lib.hid (HQ.out.below hb9)
      have q0:=HB9.cell 0
      have q1:=HB9.cell 1
      have q2:=HB9.cell 2
      have q3:=HB9.cell 3
      have q4:=HB9.cell 4
      have r0:=Jr9.cell 0
      have r1:=Jr9.cell 1
      have r2:=Jr9.cell 2
      have r3:=Jr9.cell 3
      have r4:=Jr9.cell 4
      have g0:=Jr9.frozen 0
      have g1:=Jr9.frozen 1
      have g2:=Jr9.frozen 2
      have g3:=Jr9.frozen 3
      have g4:=Jr9.frozen 4
      clear hr2
      go_wp2_with fail
      exact push_ret rfl rfl (blk_set5 Jr9 _ _ _ _ _) (HFin3.out _ (below_set5 hb99 (by omega) _ _ _ _ _) _ ((((((HQ9.out.setCell (p:=⟨w.heap.size + 1,0,none⟩) hr1 _).setCell (p:=⟨w.heap.size + 1,1,none⟩) hr1 _).setCell (p:=⟨w.heap.size + 1,2,none⟩) hr1 _).setCell (p:=⟨w.heap.size + 1,3,none⟩) hr1 _).setCell (p:=⟨w.heap.size + 1,4,none⟩) hr1 _).mono (by omega)))
end Go.Proofs.YtcondkihpmmnnaaGreatDoor
