/- Lemmas, part 30 of 50. No condition. -/
import Derived.Test.YtcondkihpmmnnaaGreatDoorQ29
namespace Go.Proofs.YtcondkihpmmnnaaGreatDoor
open Go.RowKit Go.Sort
set_option maxRecDepth 100000 in
set_option maxHeartbeats 8000000 in
theorem do_any {B0 P0 G MB:Nat} {most:Nat} {fr:ByteArray} {vR vN vO vEn vT:Value} {tv nv ov:List Value} {S:Mk} {M:Nat→Prop} (t:Fs) (LA LE ns s:Nat) (w:World)
    (h:MkV w B0 P0 G MB (.slice (some ⟨LA,0,none⟩) ns ns) (.slice (some ⟨LE,0,none⟩) ns ns) (most:Int) fr vR vN vO vEn vT tv nv ov S M)
    (HA:GrpP (Old P0 G MB) encA 8 w LA ns (arcsO t.arcs)) (HE:GrpP (Old P0 G MB) encO 1 w LE ns (endO t.ends)) (hP:Pow w B0)
    (hs:s < S.rows.length) (hr:∀ r∈S.rows,RowG ns r) (hrl:S.rows.length≤most) (hm:most≤1024) (hns:ns≤1024)
    (hln:S.next.length≤1024∧S.outs.length≤1024∧S.ends.length≤1024∧S.tails.length≤1024)
    (ha:t.arcs.length≤16384∧∀ x∈t.arcs,x.out.size≤1024∧StW x.set∧0≤x.to∧x.to < (ns:Int)) (he:t.ends.length≤1024∧∀ x∈t.ends,x.out.size≤1024) :
    Calls Tryz.prog 64 #[.pointer (some ⟨G,0,none⟩),.int .i64 (s:Int)] w (DoPost B0 P0 G MB (.slice (some ⟨LA,0,none⟩) ns ns) (.slice (some ⟨LE,0,none⟩) ns ns) most fr ns t S s w):=by
 obtain ⟨Ar,cr,rfl,hcr,hcm,hcb⟩:=own_form h.oR
 obtain ⟨gR,rfl,hgR1,hgR2⟩:=hcb (by omega)
 obtain ⟨An,cn,rfl,_,_,_⟩:=own_form h.oN
 obtain ⟨Ao,co,rfl,_,_,_⟩:=own_form h.oO
 obtain ⟨Ae,ce,rfl,_,_,_⟩:=own_form h.oE
 obtain ⟨At,ct,rfl,_,_,_⟩:=own_form h.oT
 have hbx:=h.box
 have c3:=hbx.cell 3
 have d0:=own_cellAt h.oR s hs nilV
 have hsl:=h.tips s hs
 have hrow:=hr _ (getD_mem hs)
 obtain ⟨gl,cl,hv,hl1,hl2,hl3,hl4,hl5⟩:=hsl
 have hsl:=h.tips s hs
 rw [hv] at d0 hsl
 have hHe:=HE.read (B:=w.heap.size) (fun k hk => Nat.lt_of_lt_of_le hk.1 h.sz)
 have htail:=tail_any G w.heap.size (some ⟨gl,0,none⟩) (S.rows.getD s []).length cl t.ends (S.rows.getD s []) w _ _ _ _ _ _ _ LE ns most fr hbx hl5 hHe (Nat.le_refl _) hbx.lt (fun x hx => hrow.all x hx) he (by have:=hrow.len; omega) hns
 have HTail:=Lib.hid htail
 obtain ⟨l,hl⟩:∃ l,l = S.rows.getD s []:=⟨_,rfl⟩
 rw [← hl] at HTail hsl hrow hl5 d0 hl1
 have HL:=Lib.hid hl
 have HRow:=Lib.hid hrow
 have HRows:=Lib.hid hr
 have HArc:=Lib.hid ha
 have hDo:=Lib.hid (show doF t most S s = match tailF t.ends l with
  | .error e => .error e
  | .ok (e,o) =>
   match bytesF t.arcs most l S.rows 256 with
   | .error e => .error e
   | .ok (rows,next,outs) => .ok ⟨rows,S.next ++ [next],S.outs ++ [outs],S.ends ++ [e],S.tails ++ [o]⟩ by rw [hl]; rfl)
 have hs1:(0:Int)≤(s:Int):=by omega
 have hs2:(s:Int) < (S.rows.length:Int):=by omega
 clear htail hHe hl hrow hr ha he hv
 generalize hrn:S.rows.length = nr at *
 generalize hlen:l.length = n at *
 go_enter Tryz.func64,Tryz.ntmps64
 go_wp2_with fail
 refine HTail.out.mono ?_
 rintro e w1 ⟨hb1,hT⟩
 clear c3 d0 hbx
 have h1:=h.call hb1
 have hB01:B0≤w.heap.size:=Nat.le_trans h.le h.sz
 have hP0:P0≤w.heap.size:=h.sz
 rcases htf:tailF t.ends l with ek | ⟨eb,eo⟩
 ·rw [htf] at hT
  have hp:DoPost B0 P0 G MB (.slice (some ⟨LA,0,none⟩) ns ns) (.slice (some ⟨LE,0,none⟩) ns ns) most fr ns t S s w (faultE ek) w1:=⟨hb1.mono hB01,fun g hg => hb1.block g (Nat.lt_of_lt_of_le hg.1 hP0),by rw [hDo.out,htf]⟩
  have HP:=Lib.hid hp
  unfold faultE at hT
  subst hT
  clear hp htf
  go_wp2
  exact ⟨rfl,HP.out⟩
 ·rw [htf] at hT
  subst hT
  go_wp2
  obtain ⟨iN,hiN,hN0,hN1,hN2⟩:=info_parts int_infoS
  obtain ⟨iO,hiO,hO0,hO1,hO2⟩:=info_parts str_infoS
  refine pair_below (d0:=24) (d1:=25) (e0:=7) (by kernel_rfl) (by kernel_rfl) (by decide) (by decide) (by decide) ⟨by show 24 < 103; decide,by show 25 < 103; decide⟩
   (maker_sliceC rfl rfl 256 55 rfl 3 iN _ 1 Tryz.underlying55 hiN hN0 hN1 (by rw [hN2]; decide) (by unfold maxLen; decide))
   (maker_sliceC rfl rfl 256 25 rfl 9 iO _ 1 Tryz.underlying25 hiO hO0 hO1 (by rw [hO2]; decide) (by unfold maxLen; decide)) rfl rfl rfl ?_
  rintro vi vj w2 hb2' ⟨gN,rfl,gN1,hoN⟩ ⟨gO,rfl,gO1,hoO⟩
  rw [show (Value.int .i64 0).cells = #[Value.int .i64 0] from rfl,Nat.mul_one,toList_madeCells_one] at hoN
  rw [show (Value.string ByteArray.empty).cells = #[Value.string ByteArray.empty] from rfl,Nat.mul_one,toList_madeCells_one] at hoO
  have HN:=blk_of_made hoN
  have HO:=blk_of_made hoO
  rw [show (List.replicate 256 (Value.int .i64 0)).toArray = numsV [] 256 from rfl] at HN
  rw [show (List.replicate 256 (Value.string ByteArray.empty)).toArray = textsV [] 256 from rfl] at HO
  clear hoN hoO hiN hN0 hN1 hN2 hiO hO0 hO1 hO2
  have hTO:∀ g,(Value.slice At S.tails.length ct).ownBlock = some g→g≠gO:=fun g e => by have:=(own_lt h1.oT g e).2; have:w1.heap.size≤gO:=gO1; omega
  have hz1:=hb1.size
  have hz2:=hb2'.size
  have gN1':w1.heap.size≤gN:=gN1
  have gO1':w1.heap.size≤gO:=gO1
  have hmin:∀ g,g < w1.heap.size→((Mine G MB (.slice (some ⟨gR,0,none⟩) nr cr) (.slice An S.next.length cn) (.slice Ao S.outs.length co) (.slice Ae S.ends.length ce) (.slice At S.tails.length ct) g∨g < P0)∨g = gN∨g = gO)→(Mine G MB (.slice (some ⟨gR,0,none⟩) nr cr) (.slice An S.next.length cn) (.slice Ao S.outs.length co) (.slice Ae S.ends.length ce) (.slice At S.tails.length ct) g∨g < P0):=fun g hg e => by
   rcases e with e | e | e
   ·exact e
   ·omega
   ·omega
  have h1l:=h1.less
  have h2:=(h1l.other (M':=fun g => (Mine G MB (.slice (some ⟨gR,0,none⟩) nr cr) (.slice An S.next.length cn) (.slice Ao S.outs.length co) (.slice Ae S.ends.length ce) (.slice At S.tails.length ct) g∨g < P0)∨g = gN∨g = gO) hmin (.inl h1l.mG) (.inl h1l.mM) (fun g e => .inl (h1l.mR g e)) (fun g e => .inl (h1l.mN g e)) (fun g e => .inl (h1l.mO g e)) (fun g e => .inl (h1l.mE g e)) (fun g e => .inl (h1l.mT g e)) (fun g hg => .inl (.inr hg))).call hb2'
  have hsl2:SlR (fun g => (Mine G MB (.slice (some ⟨gR,0,none⟩) nr cr) (.slice An S.next.length cn) (.slice Ao S.outs.length co) (.slice Ae S.ends.length ce) (.slice At S.tails.length ct) g∨g < P0)∨g = gN∨g = gO) w2 2 (.slice (some ⟨gl,0,none⟩) n cl) n (encs encT l) :=
   ((hsl.below hb1).set fun g hg e => (hmin g hg e).elim (fun e => h1.mine e) (fun e => h1.low g e)).below hb2'
  have hW0:DoW w w2 B0 P0 G MB (.slice (some ⟨LA,0,none⟩) ns ns) (.slice (some ⟨LE,0,none⟩) ns ns) most fr (.slice (some ⟨gR,0,none⟩) nr cr) (.slice An S.next.length cn) (.slice Ao S.outs.length co) (.slice Ae S.ends.length ce) (.slice At S.tails.length ct) tv nv ov S S.rows (fun g => (Mine G MB (.slice (some ⟨gR,0,none⟩) nr cr) (.slice An S.next.length cn) (.slice Ao S.outs.length co) (.slice Ae S.ends.length ce) (.slice At S.tails.length ct) g∨g < P0)∨g = gN∨g = gO) gN gO (numsV [] 256) (textsV [] 256) gl n cl l ns:={
   mv:=h2
   hN:=HN
   hO:=HO
   tO:=fun e => hTO _ e rfl
   pN:=by omega
   pO:=by omega
   mN:=.inr (.inl rfl)
   mO:=.inr (.inr rfl)
   bd:=fun g hg => by
    rcases hg with (hg | hg) | rfl | rfl
    ·rcases hg with rfl | rfl | e | e | e | e | e
     ·exact h2.box.lt
     ·exact h2.num.lt
     ·exact (own_lt h2.oR g e).2
     ·exact (own_lt h2.oN g e).2
     ·exact (own_lt h2.oO g e).2
     ·exact (own_lt h2.oE g e).2
     ·exact (own_lt h2.oT g e).2
    ·omega
    ·exact HN.lt
    ·exact HO.lt
   row:=hsl2
   good:=HRows.out
   len:=by rw [hrn]; exact hrl
   bel:=(hb1.mono hB01).trans (hb2'.mono (by omega))
   old:=fun g hg => by
    have hg1:=hg.1
    rw [hb2'.block g (by omega),hb1.block g (by omega)] }
  have hrun0:=Lib.hid (show bytesF t.arcs most l S.rows 0 = .ok (S.rows,[],[]) from rfl)
  have HW0:=Lib.hid hW0
  have HLn:=Lib.hid hlen
  have hDo2:=Lib.hid (show doF t most S s = match bytesF t.arcs most l S.rows 256 with
   | .error e => .error e
   | .ok (rows,next,outs) => .ok ⟨rows,S.next ++ [next],S.outs ++ [outs],S.ends ++ [eb],S.tails ++ [eo]⟩ by rw [hDo.out,htf])
  clear hDo
  clear hW0 h2 hsl2 HN HO h1l hmin hb2' h1 h hTO hb1 hsl hl5 htf HTail hcb hrn hlen
  have hgG:=HW0.out.mv.box.lt
  simp only [Act.put]
  go_wp2
  refine NoPanic.normal ?_
  go_wp2
  go_loopw [26] (fun i wr => ∃ (k:Nat) (rows:List (List Tp)) (nx:List Int) (os:List ByteArray) (vR':Value) (tv':List Value) (M':Nat→Prop),k≤256∧i = .int .i64 ((k:Nat):Int)∧bytesF t.arcs most l S.rows k = .ok (rows,nx,os)∧nx.length = k∧os.length = k ∧
   DoW w wr B0 P0 G MB (.slice (some ⟨LA,0,none⟩) ns ns) (.slice (some ⟨LE,0,none⟩) ns ns) most fr vR' (.slice An S.next.length cn) (.slice Ao S.outs.length co) (.slice Ae S.ends.length ce) (.slice At S.tails.length ct) tv' nv ov S rows M' gN gO (numsV nx 256) (textsV os 256) gl n cl l ns) (fun i _ => 256 - (intOf i).toNat)
  case atStart => exact ⟨0,_,_,_,_,_,_,Nat.zero_le _,rfl,hrun0.out,rfl,rfl,HW0.out⟩
  case round =>
   clear HW0 hrun0
   obtain ⟨k,rows,nx,os,vR',tv',M',hk,rfl,hrun,hnl,hol,HD⟩:=hrel
   have HRun:=Lib.hid hrun
   have HNl:=Lib.hid hnl
   have HOl:=Lib.hid hol
   clear hrun hnl hol
   by_cases hlt:k < 256
   ·have hi1:(0:Int)≤(k:Int):=by omega
    have hi2:(k:Int) < 256:=by omega
    have n0:wr.cell? ⟨gN,k,none⟩ = some (.int .i64 0):=by rw [HD.hN.cell]; exact numsV_at _ _ _ HNl.out hlt
    have n1:=HD.hN.frozen k
    have HD1:=HD.setN k (.int .i64 (-1))
    have e1:=numsV_set nx 256 (-1) (by rw [HNl.out]; exact hlt)
    rw [HNl.out] at e1
    rw [e1] at HD1
    clear e1 HD
    go_wp2_with fail
    generalize wr.setCell ⟨gN,k,none⟩ (.int .i64 (-1)) = w3 at *
    have hHa:=(HA.kept (fun g hg => HD1.old g hg)).read (B:=w3.heap.size) (fun g hg => Nat.lt_of_lt_of_le hg.1 HD1.mv.sz)
    have hbeh:=behind_any G w3.heap.size (some ⟨gl,0,none⟩) n cl k t.arcs l w3 _ _ _ _ _ _ _ LA ns most fr HD1.mv.box HD1.row.reads.1 hHa (Nat.le_refl _) HD1.mv.box.lt (fun x hx => HRow.out.all x hx) ⟨HArc.out.1,fun x hx => ⟨(HArc.out.2 x hx).1,(HArc.out.2 x hx).2.1⟩⟩ (by have:=HRow.out.len; have:=HLn.out; omega) hns hlt
    have hbl:(behindF t.arcs l k).length≤16384:=Nat.le_trans (behindF_short t.arcs k l HRow.out.nodup) HArc.out.1
    have hbs:∀ x∈behindF t.arcs l k,x.out.size≤6000∧0≤x.st∧x.st < (ns:Int):=fun x hx => by
     obtain ⟨y,hy,a,ha,_,_,rfl⟩:=(behindF_mem x).1 hx
     have h1:=(HRow.out.all y hy).2.2
     have h2:=HArc.out.2 a ha
     refine ⟨?_,h2.2.2.1,h2.2.2.2⟩
     have h3:=putB_size a k
     have e:=congrArg List.length (bl_app y.out (a.putB k))
     rw [bl_len,List.length_append,bl_len,bl_len] at e
     show (y.out ++ a.putB k).size≤_
     omega
    have hnx:=bytesF_next HRun.out
    have HBeh:=Lib.hid hbeh
    have HBl:=Lib.hid hbl
    have HBs:=Lib.hid hbs
    have HNx:=Lib.hid hnx
    clear hbeh hbl hbs hnx n0 n1 hHa
    refine HBeh.out.mono ?_
    rintro e w4 ⟨v,rfl,hown,hb4⟩
    have HD4:=HD1.call hb4
    obtain ⟨A2,c2,rfl,hc2a,hc2b,hc2c⟩:=own_form hown
    have HOw:=Lib.hid hown
    clear HBeh hown
    have HByte:=Lib.hid (show byteF t.arcs most l k (rows,nx,os) = match behindF t.arcs l k with
     | [] => .ok (rows,nx ++ [-1],os ++ [ByteArray.empty])
     | x :: r =>
      match stripF (x :: r) with
      | .error e => .error e
      | .ok (o,r') =>
       match stateF most rows r' with
       | .error e => .error e
       | .ok (i,rows) => .ok (rows,nx ++ [(i:Int)],os ++ [o]) from rfl)
    generalize hbf:behindF t.arcs l k = bf at *
    have HBf:=Lib.hid hbf
    clear hbf
    rcases bf with _ | ⟨b0,bf⟩
    ·have e2:=textsV_skip os 256 (by rw [HOl.out]; exact hlt)
     rw [e2] at HD4
     have hfin:=HNx.out.trans HByte.out
     have HFin:=Lib.hid hfin
     clear hfin e2 HD1 hb4
     simp only [List.length_nil] at *
     go_wp2
     go_roundw
     case rel => exact ⟨k + 1,rows,nx ++ [-1],os ++ [ByteArray.empty],_,_,_,by omega,by go_num,HFin.out,by rw [List.length_append,HNl.out]; rfl,by rw [List.length_append,HOl.out]; rfl,HD4⟩
     case measure => simp [intOf]; omega
    ·obtain ⟨g2,cap,hv,hg2a,hg2b,hcap,hcapm,HM⟩:=RowM.of_own encT_len tp0 HOw.out rfl (by simp)
     have hstrip:=strip_any g2 cap (b0 :: bf) w4 HM hg2b hcap hcapm (by have:=HBl.out; omega) (by simp) (fun x hx => by have:=(HBs.out x hx).1; omega)
     have HStr:=Lib.hid hstrip
     have hpos:(((b0 :: bf).length:Nat):Int) > 0:=by simp
     have hne:(b0 :: bf)≠[]:=List.cons_ne_nil _ _
     injection hv with hv1 _ hv2
     subst hv1 hv2
     have HW:=Lib.hid (fun w5 (hb:∀ B,B≤g2→Below B w4 w5) => HD1.call (hb4.trans (hb w3.heap.size hg2a)))
     have hg2n:¬ M' g2:=fun e => by have:=HD1.bd g2 e; omega
     have hPw:=hP
     have hByte:byteF t.arcs most l k (rows,nx,os) = match stripF (b0 :: bf) with
      | .error e => .error e
      | .ok (o,r') =>
       match stateF most rows r' with
       | .error e => .error e
       | .ok (i,rows) => .ok (rows,nx ++ [(i:Int)],os ++ [o]):=HByte.out
     have hErr:=Lib.hid (fun (W:World) (e:Int) (hb:Below B0 w W) (ho:∀ g,Old P0 G MB g→W.heap[g]? = w.heap[g]?) (h:byteF t.arcs most l k (rows,nx,os) = .error e) => show DoPost B0 P0 G MB (.slice (some ⟨LA,0,none⟩) ns ns) (.slice (some ⟨LE,0,none⟩) ns ns) most fr ns t S s w (faultE e) W from
      ⟨hb,ho,by rw [hDo2.out,bytesF_stuck256 (k:=k + 1) (by omega) (HNx.out.trans h)]⟩)
     have HBs2:=Lib.hid (fun x hx => (HBs.out x hx).2)
     have hlb:=HBl.out
     have hz3:=HD1.bel.size
     clear HByte HBs hstrip HM HOw HD4 HBl
     generalize b0 :: bf = bb at *
     generalize hbn:bb.length = bn at *
     have HBn:=Lib.hid hbn
     clear hbn
     go_wp2_with fail
     refine HStr.out.mono ?_
     rintro e w5 ⟨hbs5,hsp⟩
     have HD5:=HW.out w5 hbs5
     rcases hsf:stripF bb with ek | ⟨f,r'⟩
     ·rw [hsf] at hsp hByte
      have HP:=Lib.hid (hErr.out w5 ek HD5.bel HD5.old hByte)
      unfold faultE at hsp
      subst hsp
      clear hsf hByte
      go_wp2
      exact ⟨rfl,HP.out⟩
     ·rw [hsf] at hsp hByte
      obtain ⟨rfl,HM5⟩:=hsp
      have hrg:=strip_rowG hsf HBs2.out
      have hrn:=strip_ne hsf hne
      have hg25:g2 < w5.heap.size:=Nat.lt_of_lt_of_le hg2b (hbs5 g2 (Nat.le_refl _)).size
      have hr1:=Lib.hid hrg
      have hrl2:=strip_len hsf
      have hslr:SlR M' w5 2 (.slice (some ⟨g2,0,none⟩) r'.length c2) r'.length (encs encT r'):=RowM.slr HM5 (by have:=HBn.out; omega) hcapm hg25 hg2n
      have o0:w5.cell? ⟨gO,k,none⟩ = some (.string ByteArray.empty):=by rw [HD5.hO.cell]; exact textsV_at _ _ _ HOl.out hlt
      have o1:=HD5.hO.frozen k
      have HD6:=HD5.setO k (.string f)
      have hv6:=hslr.far HD5.mO (p:=⟨gO,k,none⟩) (.string f)
      have e1:=textsV_set os 256 f (by rw [HOl.out]; exact hlt)
      rw [HOl.out] at e1
      rw [e1] at HD6
      have hst:=stateM_any g2 c2 r' _ HD6.mv hv6 (hPw.below HD6.bel) (fun x hx => ⟨(hrg.all x hx).1,by have:=(hrg.all x hx).2.1; omega,(hrg.all x hx).2.2⟩) (by have:=hrg.len; omega) (fun q hq x hx => ((HD6.good q hq).all x hx).1) hm HD6.len
      have HSt:=Lib.hid hst
      have HB7:=Lib.hid hByte
      have HG7:=Lib.hid HD6
      have HR7:=Lib.hid hrg
      have HBel6:=HD6.bel
      have HOld6:=Lib.hid (fun (w7:World) (hk:∀ g,g < (w5.setCell ⟨gO,k,none⟩ (.string f)).heap.size→g≠G→g≠MB→vR'.ownBlock≠some g→w7.heap[g]? = (w5.setCell ⟨gO,k,none⟩ (.string f)).heap[g]?) (g:Nat) (hg:Old P0 G MB g) => show w7.heap[g]? = w.heap[g]? from (hk g (Nat.lt_of_lt_of_le hg.1 HD6.mv.sz) hg.2.1 hg.2.2 (fun e => by have h1:=(own_lt HD6.mv.oR g e).1; have h2:=hg.1; omega)).trans (HD6.old g hg))
      clear hst hByte hsf HM5 hrg hslr hv6 HD5 HW HStr hbs5 e1
      generalize hrr:r'.length = rl at *
      go_wp2_with fail
      refine HSt.out.mono ?_
      rintro e w7 ⟨hb7,hkp,hsp⟩
      have hsp:(match stateF most rows r' with
       | .error k => e = faultE k
       | .ok (i,rows') => e = .returned (.int .i64 (i:Int))∧∃ vR2 tv2,MkV w7 B0 P0 G MB (.slice (some ⟨LA,0,none⟩) ns ns) (.slice (some ⟨LE,0,none⟩) ns ns) (most:Int) fr vR2 (.slice An S.next.length cn) (.slice Ao S.outs.length co) (.slice Ae S.ends.length ce) (.slice At S.tails.length ct) tv2 nv ov { S with rows:=rows' } (fun g => M' g∨vR2.ownBlock = some g) ∧
        ∀ g,vR2.ownBlock = some g→vR'.ownBlock = some g∨(w5.setCell ⟨gO,k,none⟩ (.string f)).heap.size≤g):=hsp
      have hb7':=HB7.out
      rcases hst:stateF most rows r' with ek | ⟨i,rows'⟩
      ·rw [hst] at hsp hb7'
       have HP:=Lib.hid (hErr.out w7 ek (HBel6.trans hb7) (HOld6.out w7 hkp) hb7')
       unfold faultE at hsp
       subst hsp
       clear hst hb7'
       go_wp2
       exact ⟨rfl,HP.out⟩
      ·rw [hst] at hsp hb7'
       obtain ⟨rfl,vR2,tv2,hmk,hnew⟩:=hsp
       have HD7:=HG7.out.stated HR7.out hst hmk hnew hkp hb7
       have n0:w7.cell? ⟨gN,k,none⟩ = some (.int .i64 (-1)):=by rw [HD7.hN.cell]; exact numsV_last _ _ _ _ HNl.out
       have n1:=HD7.hN.frozen k
       have HD8:=HD7.setN k (.int .i64 (i:Int))
       have e1:=numsV_again nx 256 (-1) (i:Int) (by rw [HNl.out]; exact hlt)
       rw [HNl.out] at e1
       rw [e1] at HD8
       have HFin:=Lib.hid (HNx.out.trans hb7')
       clear hst hmk hnew hkp HD7 hb7' e1
       go_wp2
       go_roundw
       case rel => exact ⟨k + 1,rows',nx ++ [(i:Int)],os ++ [f],_,_,_,by omega,by go_num,HFin.out,by rw [List.length_append,HNl.out]; rfl,by rw [List.length_append,HOl.out]; rfl,HD8⟩
       case measure => simp [intOf]; omega
   ·obtain rfl:k = 256:=by omega
    have hslN:SlR (fun g => Mine G MB vR' (.slice An S.next.length cn) (.slice Ao S.outs.length co) (.slice Ae S.ends.length ce) (.slice At S.tails.length ct) g∨g < P0) wr 1 (.slice (some ⟨gN,0,none⟩) 256 256) nx.length (nx.map (Value.int .i64)):=by
     have h1:=HD.hN
     rw [numsV_full _ _ HNl.out] at h1
     rw [HNl.out]
     exact SlR.of_blk h1 (by rw [List.length_map,HNl.out]) (by unfold maxLen; decide) (fun e => e.elim (HD.mv.notInt HD.hN) (fun h => by have:=HD.pN; omega))
    have hslO:SlR (fun g => Mine G MB vR' (.slice An S.next.length cn) (.slice Ao S.outs.length co) (.slice Ae S.ends.length ce) (.slice At S.tails.length ct) g∨g < P0) wr 1 (.slice (some ⟨gO,0,none⟩) 256 256) os.length (os.map Value.string):=by
     have h1:=HD.hO
     rw [textsV_full _ _ HOl.out] at h1
     rw [HOl.out]
     exact SlR.of_blk h1 (by rw [List.length_map,HOl.out]) (by unfold maxLen; decide) (fun e => e.elim (HD.mv.notText HD.hO HD.tO) (fun h => by have:=HD.pO; omega))
    have HM0:=HD.mv.less
    have hbel0:=HD.bel
    have hold0:=HD.old
    have hgood:=Lib.hid HD.good
    have hlen0:=Lib.hid HD.len
    have hgNO:=HD.ne
    have hdo:=hDo2.out
    rw [HRun.out] at hdo
    have HDo:=Lib.hid (show doF t most S s = .ok ⟨rows,S.next ++ [nx],S.outs ++ [os],S.ends ++ [eb],S.tails ++ [eo]⟩ from hdo)
    clear HD hDo2 hdo HRun
    obtain ⟨iN,hiN,y0N,y1N,y2N⟩:=info_parts slI_info
    have hbxN:=HM0.box
    have qN:=hbxN.cell 6
    have fN:=hbxN.frozen 6
    have hoaN:wr.ownsRow P0 55 1 (.slice An S.next.length cn) S.next.length nv:=HM0.oN
    have hvoN:=fun g (e:(Value.slice An S.next.length cn).ownBlock = some g) => (own_lt hoaN g e).1
    have LBN:=(Below.refl wr.heap.size wr).alloc (Nat.le_refl _) (.cells #[.slice (some ⟨gN,0,none⟩) 256 256] 55)
    have hoN:=own_below hoaN LBN
    have hbzN:=hbxN.below LBN hbxN.lt
    have hneN:=own_blk hoN hbzN (by decide)
    have hrdN:=reads_allocK wr [.slice (some ⟨gN,0,none⟩) 256 256] 55 1 1 rfl
    have h63N:S.next.length + 1≤maxLen:=by have:=hln; unfold maxLen; omega
    have hbyN:(S.next.length + 1) * 24≤140737488355328:=by have:=hln; omega
    have honeN:∀ u∈[Value.slice (some ⟨gN,0,none⟩) 256 256],u.oneCell' = true:=fun u hu => by rw [List.mem_singleton] at hu; subst hu; rfl
    have hbsN:P0≤(wr.alloc (.cells #[.slice (some ⟨gN,0,none⟩) 256 256] 55)).heap.size:=by have:=HM0.sz; simp; omega
    go_upto_region 13 with (at_builtin; refine wpList_append_any _ rfl _ _ 22 rfl P0 55 iN _ 1 24 Tryz.underlying22 hiN y0N y1N y2N rfl (by decide) _ _ _ rfl hoN _ (some ⟨wr.heap.size,0,none⟩) 1 1 [.slice (some ⟨gN,0,none⟩) 256 256] rfl hrdN honeN h63N hbyN hbsN ?_; intro vN wN hownN hgrN hlocN; obtain ⟨A9N,c9N,rfl,_,_,_⟩:=own_form hownN; have e3N:=(blk_keep hbzN hgrN hneN).cell 6; have e4N:=(blk_keep hbzN hgrN hneN).frozen 6)
    have HM1:=HM0.putN LBN hslN hgrN hownN hlocN
    obtain ⟨hbel1,hold1⟩:=HM0.step LBN (fun g e => hvoN g e) hgrN 6 (.slice A9N (S.next.length + 1) c9N)
    have hslO:=HM0.carry LBN (fun g e => HM0.mN g e) hgrN hlocN 6 hslO
    clear qN fN e3N e4N LBN hbzN hneN hrdN honeN h63N hbyN hbsN hbxN hoN hoaN hvoN hownN hgrN hlocN HM0 hslN hiN y0N y1N y2N
    generalize wN.setCell ⟨G,6,none⟩ (.slice A9N (S.next.length + 1) c9N) = W1 at *
    obtain ⟨iO,hiO,y0O,y1O,y2O⟩:=info_parts slS_info
    have hbxO:=HM1.box
    have qO:=hbxO.cell 7
    have fO:=hbxO.frozen 7
    have hoaO:W1.ownsRow P0 25 1 (.slice Ao S.outs.length co) S.outs.length ov:=HM1.oO
    have hvoO:=fun g (e:(Value.slice Ao S.outs.length co).ownBlock = some g) => (own_lt hoaO g e).1
    have LBO:=(Below.refl W1.heap.size W1).alloc (Nat.le_refl _) (.cells #[.slice (some ⟨gO,0,none⟩) 256 256] 25)
    have hoO:=own_below hoaO LBO
    have hbzO:=hbxO.below LBO hbxO.lt
    have hneO:=own_blk hoO hbzO (by decide)
    have hrdO:=reads_allocK W1 [.slice (some ⟨gO,0,none⟩) 256 256] 25 1 1 rfl
    have h63O:S.outs.length + 1≤maxLen:=by have:=hln; unfold maxLen; omega
    have hbyO:(S.outs.length + 1) * 24≤140737488355328:=by have:=hln; omega
    have honeO:∀ u∈[Value.slice (some ⟨gO,0,none⟩) 256 256],u.oneCell' = true:=fun u hu => by rw [List.mem_singleton] at hu; subst hu; rfl
    have hbsO:P0≤(W1.alloc (.cells #[.slice (some ⟨gO,0,none⟩) 256 256] 25)).heap.size:=by have:=HM1.sz; simp; omega
    go_upto_region 14 with (at_builtin; refine wpList_append_any _ rfl _ _ 23 rfl P0 25 iO _ 1 24 Tryz.underlying23 hiO y0O y1O y2O rfl (by decide) _ _ _ rfl hoO _ (some ⟨W1.heap.size,0,none⟩) 1 1 [.slice (some ⟨gO,0,none⟩) 256 256] rfl hrdO honeO h63O hbyO hbsO ?_; intro vO wO hownO hgrO hlocO; obtain ⟨A9O,c9O,rfl,_,_,_⟩:=own_form hownO; have e3O:=(blk_keep hbzO hgrO hneO).cell 7; have e4O:=(blk_keep hbzO hgrO hneO).frozen 7)
    have HM2:=HM1.putO LBO hslO hgrO hownO hlocO
    obtain ⟨hbel2,hold2⟩:=HM1.step LBO (fun g e => hvoO g e) hgrO 7 (.slice A9O (S.outs.length + 1) c9O)
    clear qO fO e3O e4O LBO hbzO hneO hrdO honeO h63O hbyO hbsO hbxO hoO hoaO hvoO hownO hgrO hlocO HM1 hslO hiO y0O y1O y2O
    generalize wO.setCell ⟨G,7,none⟩ (.slice A9O (S.outs.length + 1) c9O) = W2 at *
    obtain ⟨iE,hiE,y0E,y1E,y2E⟩:=info_parts bool_infoS
    have hbxE:=HM2.box
    have qE:=hbxE.cell 8
    have fE:=hbxE.frozen 8
    have hoaE:W2.ownsRow P0 4 1 (.slice Ae S.ends.length ce) S.ends.length (S.ends.map Value.bool):=HM2.oE
    have hvoE:=fun g (e:(Value.slice Ae S.ends.length ce).ownBlock = some g) => (own_lt hoaE g e).1
    have LBE:=(Below.refl W2.heap.size W2).alloc (Nat.le_refl _) (.cells #[.bool eb] 4)
    have hoE:=own_below hoaE LBE
    have hbzE:=hbxE.below LBE hbxE.lt
    have hneE:=own_blk hoE hbzE (by decide)
    have hrdE:=reads_allocK W2 [.bool eb] 4 1 1 rfl
    have h63E:S.ends.length + 1≤maxLen:=by have:=hln; unfold maxLen; omega
    have hbyE:(S.ends.length + 1) * 1≤140737488355328:=by have:=hln; omega
    have honeE:∀ u∈[Value.bool eb],u.oneCell' = true:=fun u hu => by rw [List.mem_singleton] at hu; subst hu; rfl
    have hbsE:P0≤(W2.alloc (.cells #[.bool eb] 4)).heap.size:=by have:=HM2.sz; simp; omega
    go_upto_region 15 with (at_builtin; refine wpList_append_any _ rfl _ _ 24 rfl P0 4 iE _ 1 1 Tryz.underlying24 hiE y0E y1E y2E rfl (by decide) _ _ _ rfl hoE _ (some ⟨W2.heap.size,0,none⟩) 1 1 [.bool eb] rfl hrdE honeE h63E hbyE hbsE ?_; intro vE wE hownE hgrE hlocE; obtain ⟨A9E,c9E,rfl,_,_,_⟩:=own_form hownE; have e3E:=(blk_keep hbzE hgrE hneE).cell 8; have e4E:=(blk_keep hbzE hgrE hneE).frozen 8)
    have HM3:=HM2.putE LBE hgrE hownE hlocE
    obtain ⟨hbel3,hold3⟩:=HM2.step LBE (fun g e => hvoE g e) hgrE 8 (.slice A9E (S.ends.length + 1) c9E)
    clear qE fE e3E e4E LBE hbzE hneE hrdE honeE h63E hbyE hbsE hbxE hoE hoaE hvoE hownE hgrE hlocE HM2 hiE y0E y1E y2E
    generalize wE.setCell ⟨G,8,none⟩ (.slice A9E (S.ends.length + 1) c9E) = W3 at *
    obtain ⟨iT,hiT,y0T,y1T,y2T⟩:=info_parts str_infoS
    have hbxT:=HM3.box
    have qT:=hbxT.cell 9
    have fT:=hbxT.frozen 9
    have hoaT:W3.ownsRow P0 9 1 (.slice At S.tails.length ct) S.tails.length (S.tails.map Value.string):=HM3.oT
    have hvoT:=fun g (e:(Value.slice At S.tails.length ct).ownBlock = some g) => (own_lt hoaT g e).1
    have LBT:=(Below.refl W3.heap.size W3).alloc (Nat.le_refl _) (.cells #[.string eo] 9)
    have hoT:=own_below hoaT LBT
    have hbzT:=hbxT.below LBT hbxT.lt
    have hneT:=own_blk hoT hbzT (by decide)
    have hrdT:=reads_allocK W3 [.string eo] 9 1 1 rfl
    have h63T:S.tails.length + 1≤maxLen:=by have:=hln; unfold maxLen; omega
    have hbyT:(S.tails.length + 1) * 16≤140737488355328:=by have:=hln; omega
    have honeT:∀ u∈[Value.string eo],u.oneCell' = true:=fun u hu => by rw [List.mem_singleton] at hu; subst hu; rfl
    have hbsT:P0≤(W3.alloc (.cells #[.string eo] 9)).heap.size:=by have:=HM3.sz; simp; omega
    go_wp2_with (at_builtin; refine wpList_append_any _ rfl _ _ 25 rfl P0 9 iT _ 1 16 Tryz.underlying25 hiT y0T y1T y2T rfl (by decide) _ _ _ rfl hoT _ (some ⟨W3.heap.size,0,none⟩) 1 1 [.string eo] rfl hrdT honeT h63T hbyT hbsT ?_; intro vT wT hownT hgrT hlocT; obtain ⟨A9T,c9T,rfl,_,_,_⟩:=own_form hownT; have e3T:=(blk_keep hbzT hgrT hneT).cell 9; have e4T:=(blk_keep hbzT hgrT hneT).frozen 9)
    have HM4:=HM3.putT LBT hgrT hownT hlocT
    obtain ⟨hbel4,hold4⟩:=HM3.step LBT (fun g e => hvoT g e) hgrT 9 (.slice A9T (S.tails.length + 1) c9T)
    clear qT fT e3T e4T LBT hbzT hneT hrdT honeT h63T hbyT hbsT hbxT hoT hoaT hvoT hownT hgrT hlocT HM3 hiT y0T y1T y2T
    generalize wT.setCell ⟨G,9,none⟩ (.slice A9T (S.tails.length + 1) c9T) = W4 at *
    have hfin:DoPost B0 P0 G MB (.slice (some ⟨LA,0,none⟩) ns ns) (.slice (some ⟨LE,0,none⟩) ns ns) most fr ns t S s w (.returned (.tuple #[])) W4:=by
     refine ⟨hbel0.trans (hbel1.trans (hbel2.trans (hbel3.trans hbel4))),fun g hg => (hold4 g hg).trans ((hold3 g hg).trans ((hold2 g hg).trans ((hold1 g hg).trans (hold0 g hg)))),?_⟩
     rw [HDo.out]
     exact ⟨rfl,⟨_,_,_,_,_,_,_,_,_,HM4⟩,hgood.out,hlen0.out⟩
    have HF:=Lib.hid hfin
    clear hfin HM4
    go_end0
    exact HF.out
end Go.Proofs.YtcondkihpmmnnaaGreatDoor
