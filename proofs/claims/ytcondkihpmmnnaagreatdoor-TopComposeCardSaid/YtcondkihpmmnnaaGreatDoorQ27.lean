/- Lemmas, part 27 of 50. No condition. -/
import Derived.Test.YtcondkihpmmnnaaGreatDoorQ20
import Derived.Test.YtcondkihpmmnnaaGreatDoorQ13
import Derived.Test.YtcondkihpmmnnaaGreatDoorQ21
import Derived.Test.YtcondkihpmmnnaaGreatDoorQ23
import Derived.Test.YtcondkihpmmnnaaGreatDoorQ22
import Derived.Test.YtcondkihpmmnnaaGreatDoorQ10
import Derived.Test.YtcondkihpmmnnaaGreatDoorQ12
namespace Go.Proofs.YtcondkihpmmnnaaGreatDoor
open Go.RowKit Go.Sort
def ComposePost (a b:Fs) (w:World) (e:Ending) (w':World):Prop :=
 ∃ t r,GF t r w e w'∧(r = 0→fckB a = true∧fckB b = true∧Chain a b t∧Right t)
theorem slTip_info:(Tryz.prog.info? 29).map (fun i => (i.zero,i.size,i.bytes)) = some (some (.slice none 0 0),1,24):=by kernel_rfl
theorem grp_madeG {α:Type} {enc:α→List Value} {k:Nat} {w':World} {base L n:Nat} {eL e:TypeId} (h:w'.ownsRow base eL 1 (.slice (some ⟨L,0,none⟩) n n) n (List.replicate n nilV)):Grp enc k w' base L n eL e (List.replicate n nilV) (fun _ => []):=by
 have hv:∀ s,(List.replicate n nilV).getD s nilV = nilV:=by
  intro s
  rw [List.getD_eq_getElem?_getD,List.getElem?_replicate]
  split <;> rfl
 refine ⟨h,fun s _ => ?_,fun s t _ _ _ => ?_⟩
 ·rw [hv]; exact World.ownsRow_nil _ _ _ _
 ·rw [hv,hv]; intro g hg; cases hg
theorem endS_succ (l:List Tp) (k:Nat) (hk:k < l.length) (s:Nat):endS l (k + 1) s = if (s:Int) = (l.getD k tp0).st then endS l k s ++ [l.getD k tp0] else endS l k s:=by
 unfold endS
 rw [take_next l tp0 k hk,List.filter_append]
 by_cases h:(l.getD k tp0).st = (s:Int)
 ·rw [if_pos h.symm,List.filter_cons_of_pos (by simpa using h)]; rfl
 ·rw [if_neg (fun x => h x.symm),List.filter_cons_of_neg (by simpa using h)]; simp
theorem eg_leaving:∀ args w,(callFunc 23 args).run Tryz.prog w = .ok (.enter 23 args) w:=enters_of Tryz.func23 (by kernel_rfl) rfl
set_option maxRecDepth 100000 in
set_option maxHeartbeats 16000000 in
theorem compose_any (a b:Fs) (va vb:Value) (B:Nat) (w:World) (HSa:FstAt w B a va) (HSb:FstAt w B b vb) (hB:B≤w.heap.size) :
    Calls Tryz.prog 9 #[va,vb] w (ComposePost a b w):=by
 have HSa':=HSa
 have HSb':=HSb
 obtain ⟨A1,c1,A2,c2,A3,c3,rfl,h1,h2,h3,h4,h5,h6,h7,h8,R1,W1,R2,W2,R3,W3⟩:=HSa
 obtain ⟨D1,e1,D2,e2,D3,e3,rfl,k1,k2,k3,k4,k5,k6,k7,k8,Q1,X1,Q2,X2,Q3,X3⟩:=HSb
 have B0:Below w.heap.size w (((w.alloc (.cells #[.int .i64 a.n,.slice A1 a.starts.length c1,.slice A2 a.ends.length c2,.slice A3 a.arcs.length c3] 32)).alloc (.cells #[.int .i64 b.n,.slice D1 b.starts.length e1,.slice D2 b.ends.length e2,.slice D3 b.arcs.length e3] 32)).alloc (.cells #[.int .i64 0,.slice none 0 0,.slice none 0 0,.slice none 0 0] 32)) :=
  (((Below.refl _ w).alloc (Nat.le_refl _) _).alloc (by simp) _).alloc (by simp; omega) _
 have Ja:=((Blk.new w 32 #[.int .i64 a.n,.slice A1 a.starts.length c1,.slice A2 a.ends.length c2,.slice A3 a.arcs.length c3]).alloc (.cells #[.int .i64 b.n,.slice D1 b.starts.length e1,.slice D2 b.ends.length e2,.slice D3 b.arcs.length e3] 32)).alloc (.cells #[.int .i64 0,.slice none 0 0,.slice none 0 0,.slice none 0 0] 32)
 have Jb:=(Blk.new (w.alloc (.cells #[.int .i64 a.n,.slice A1 a.starts.length c1,.slice A2 a.ends.length c2,.slice A3 a.arcs.length c3] 32)) 32 #[.int .i64 b.n,.slice D1 b.starts.length e1,.slice D2 b.ends.length e2,.slice D3 b.arcs.length e3]).alloc (.cells #[.int .i64 0,.slice none 0 0,.slice none 0 0,.slice none 0 0] 32)
 have Jr:=Blk.new ((w.alloc (.cells #[.int .i64 a.n,.slice A1 a.starts.length c1,.slice A2 a.ends.length c2,.slice A3 a.arcs.length c3] 32)).alloc (.cells #[.int .i64 b.n,.slice D1 b.starts.length e1,.slice D2 b.ends.length e2,.slice D3 b.arcs.length e3] 32)) 32 #[.int .i64 0,.slice none 0 0,.slice none 0 0,.slice none 0 0]
 simp only [World.size_alloc] at Jb Jr
 have hcka:=fun W (hb:Below w.heap.size w W) => fstCheck_any a _ B W (HSa'.below (hb.mono hB)) (Nat.le_trans hB hb.size)
 have hckb:=fun W (hb:Below w.heap.size w W) => fstCheck_any b _ B W (HSb'.below (hb.mono hB)) (Nat.le_trans hB hb.size)
 have HP1:=Lib.hid (fun w' (r:Int) (hr:r≠0) (hb:Below w.heap.size w w') => show ComposePost a b w (.returned (.tuple #[.agg #[.int .i64 0,.slice none 0 0,.slice none 0 0,.slice none 0 0],.int .i64 r])) w' from ⟨fs0,r,⟨_,rfl,fst0_at _ _,fst0_new _,hb⟩,fun h => absurd h hr⟩)
 have hend:∀ (r:Int) (W:World),r≠0→Below w.heap.size w W→Blk W (w.heap.size + 1 + 1) 32 #[.int .i64 0,.slice none 0 0,.slice none 0 0,.slice none 0 0]→ComposePost a b w (.returned (.tuple #[.agg #[.int .i64 0,.slice none 0 0,.slice none 0 0,.slice none 0 0],.int .i64 r])) ((((W.setCell ⟨w.heap.size + 1 + 1,0,none⟩ (.int .i64 0)).setCell ⟨w.heap.size + 1 + 1,1,none⟩ (.slice none 0 0)).setCell ⟨w.heap.size + 1 + 1,2,none⟩ (.slice none 0 0)).setCell ⟨w.heap.size + 1 + 1,3,none⟩ (.slice none 0 0)):=fun r W hr hb _ => HP1.out _ r hr (below_set4 hb (by omega) _ _ _ _)
 have HEND:=Lib.hid hend
 have HFB0:=Lib.hid (fun W (hb:Below w.heap.size w W) => HSb'.below (hb.mono hB))
 clear hend HSa' HSb'
 have hck1:=hcka _ B0
 rcases hfa:fckB a with _ | _
 ·rw [hfa] at hck1
  replace hck1:Calls Tryz.prog 20 _ _ (Gives (.int .i64 1) _):=hck1
  clear hfa hcka hckb R1 W1 R2 W2 R3 W3 Q1 X1 Q2 X2 Q3 X3 Jb
  have j0:=Ja.cell 0
  have j1:=Ja.cell 1
  have j2:=Ja.cell 2
  have j3:=Ja.cell 3
  generalize a.starts.length = n1 at *
  generalize a.ends.length = n2 at *
  generalize a.arcs.length = n3 at *
  generalize b.starts.length = m1 at *
  generalize b.ends.length = m2 at *
  generalize b.arcs.length = m3 at *
  go_enter Tryz.func9,Tryz.ntmps9
  go_wp2_with fail
  refine hck1.mono ?_
  rintro e w1 ⟨rfl,HB1⟩
  have Jr1:=Jr.below HB1 Jr.lt
  have hb1:=B0.trans (HB1.mono (by simp; omega))
  have q0:=Jr1.cell 0
  have q1:=Jr1.cell 1
  have q2:=Jr1.cell 2
  have q3:=Jr1.cell 3
  have f0:=Jr1.frozen 0
  have f1:=Jr1.frozen 1
  have f2:=Jr1.frozen 2
  have f3:=Jr1.frozen 3
  clear Ja Jr j0 j1 j2 j3 HB1 B0 hck1
  go_wp2
  refine bodyPost_ret (v:=.tuple #[.agg #[.int .i64 0,.slice none 0 0,.slice none 0 0,.slice none 0 0],.int .i64 1]) (by simp [results,Tryz.results9,go_sem,q0,q1,q2,q3]) rfl (HEND.out 1 _ (by decide) hb1 Jr1)
 ·rw [hfa] at hck1
  replace hck1:Calls Tryz.prog 20 _ _ (Gives (.int .i64 0) _):=hck1
  have HFA:=Lib.hid hfa
  have hpa:=fck_parts hfa
  have j0:=Ja.cell 0
  have j1:=Ja.cell 1
  have j2:=Ja.cell 2
  have j3:=Ja.cell 3
  clear hfa
  generalize hla1:a.starts.length = n1 at *
  generalize hla2:a.ends.length = n2 at *
  generalize hla3:a.arcs.length = n3 at *
  generalize hlb1:b.starts.length = m1 at *
  generalize hlb2:b.ends.length = m2 at *
  generalize hlb3:b.arcs.length = m3 at *
  have HLA:=Lib.hid (show a.starts.length = n1∧a.ends.length = n2∧a.arcs.length = n3 from ⟨hla1,hla2,hla3⟩)
  have HLB:=Lib.hid (show b.starts.length = m1∧b.ends.length = m2∧b.arcs.length = m3 from ⟨hlb1,hlb2,hlb3⟩)
  have HPA:=Lib.hid hpa
  have HW3:=Lib.hid W3
  have HX3:=Lib.hid X3
  clear hla1 hla2 hla3 hlb1 hlb2 hlb3 hpa W1 W2 W3 X1 X2 X3 hcka
  go_enter Tryz.func9,Tryz.ntmps9
  go_wp2_with fail
  refine hck1.mono ?_
  rintro e w1 ⟨rfl,HB1⟩
  have Jr1:=Jr.below HB1 Jr.lt
  have Ja1:=Ja.below HB1 Ja.lt
  have Jb1:=Jb.below HB1 Jb.lt
  have hb1:=B0.trans (HB1.mono (by simp; omega))
  have hck2:=hckb _ hb1
  have p0:=Jb1.cell 0
  have p1:=Jb1.cell 1
  have p2:=Jb1.cell 2
  have p3:=Jb1.cell 3
  clear Ja Jb Jr j0 j1 j2 j3 HB1 B0 hck1 hckb
  rcases hfb:fckB b with _ | _
  ·rw [hfb] at hck2
   replace hck2:Calls Tryz.prog 20 _ _ (Gives (.int .i64 1) _):=hck2
   clear hfb
   go_wp2_with fail
   refine hck2.mono ?_
   rintro e w2 ⟨rfl,HB2⟩
   have Jr2:=Jr1.below HB2 Jr1.lt
   have hb2:=hb1.trans (HB2.mono hb1.size)
   clear Ja1 Jb1 Jr1 p0 p1 p2 p3 HB2 hb1 hck2
   have q0:=Jr2.cell 0
   have q1:=Jr2.cell 1
   have q2:=Jr2.cell 2
   have q3:=Jr2.cell 3
   have f0:=Jr2.frozen 0
   have f1:=Jr2.frozen 1
   have f2:=Jr2.frozen 2
   have f3:=Jr2.frozen 3
   go_wp2
   refine bodyPost_ret (v:=.tuple #[.agg #[.int .i64 0,.slice none 0 0,.slice none 0 0,.slice none 0 0],.int .i64 1]) (by simp [results,Tryz.results9,go_sem,q0,q1,q2,q3]) rfl (HEND.out 1 _ (by decide) hb2 Jr2)
  ·rw [hfb] at hck2
   replace hck2:Calls Tryz.prog 20 _ _ (Gives (.int .i64 0) _):=hck2
   have HFB:=Lib.hid hfb
   have hpb:=fck_parts hfb
   have HPB:=Lib.hid hpb
   clear hfb hpb
   go_wp2_with fail
   refine hck2.mono ?_
   rintro e w2 ⟨rfl,HB2⟩
   have Jr2:=Jr1.below HB2 Jr1.lt
   have Ja2:=Ja1.below HB2 Ja1.lt
   have Jb2:=Jb1.below HB2 Jb1.lt
   have hb2:=hb1.trans (HB2.mono hb1.size)
   clear Ja1 Jb1 Jr1 p0 p1 p2 p3 HB2 hb1 hck2
   obtain ⟨a0,a1,_⟩:=HPA.out
   obtain ⟨b0,b1,_⟩:=HPB.out
   have u0:=Ja2.cell 0
   have v0:=Jb2.cell 0
   have hmm:0≤a.n * b.n:=Int.mul_nonneg a0 b0
   have hmm2:a.n * b.n≤1024 * 1024:=Int.le_trans (Int.mul_le_mul_of_nonneg_right a1 b0) (Int.mul_le_mul_of_nonneg_left b1 (by decide))
   have e1':IntKind.i64.wrap (a.n * b.n) = a.n * b.n:=IntWalk.i64_in _ (by omega)
   by_cases hbig:1024 < a.n * b.n
   ·clear HFA HFB HPA HPB HW3 HX3
    have q0:=Jr2.cell 0
    have q1:=Jr2.cell 1
    have q2:=Jr2.cell 2
    have q3:=Jr2.cell 3
    have f0:=Jr2.frozen 0
    have f1:=Jr2.frozen 1
    have f2:=Jr2.frozen 2
    have f3:=Jr2.frozen 3
    go_wp2
    refine bodyPost_ret (v:=.tuple #[.agg #[.int .i64 0,.slice none 0 0,.slice none 0 0,.slice none 0 0],.int .i64 2]) (by simp [results,Tryz.results9,go_sem,q0,q1,q2,q3]) rfl (HEND.out 2 _ (by decide) hb2 Jr2)
   ·have hbig2:a.n * b.n≤1024:=by omega
    obtain ⟨n,hbn⟩:∃ n:Nat,b.n = (n:Int):=⟨_,(Int.toNat_of_nonneg b0).symm⟩
    have HBN:=Lib.hid hbn
    have hn1024:n≤1024:=by omega
    have hlv:∀ W,Below w2.heap.size w2.drew W→Calls Tryz.prog 23 #[.agg #[.int .i64 b.n,.slice D1 m1 e1,.slice D2 m2 e2,.slice D3 m3 e3]] W fun e W' => ∃ v,e = .returned v∧Below W.heap.size W W'∧∃ L vs base,v = .slice (some ⟨L,0,none⟩) n n∧w2.heap.size≤L∧w2.heap.size≤base∧L < W'.heap.size∧Grp encA 8 W' base L n 30 61 vs (leavS b.arcs m3):=fun W hb => by
     have hbw:=hb2.trans ((show Below w2.heap.size w2 W from (Below.refl _ w2).drew.trans hb).mono hb2.size)
     have hl3:=HLB.out.2.2
     refine (leaving_any b _ B W (HFB0.out W hbw) (Nat.le_trans hB hbw.size) n hbn (by omega) HPB.out.2.2.2.2.1 (fun k hk => ?_)).mono ?_
     ·have:=HPB.out.2.2.2.2.2 _ (getD_in b.arcs ar0 k hk)
      exact ⟨this.1,by rw [← hbn]; exact this.2.1⟩
     ·rintro e W' ⟨L,vs,rfl,hL,hG,hB'⟩
      have hz:w2.heap.size≤W.heap.size:=hb.size
      exact ⟨_,rfl,hB',L,vs,_,rfl,by omega,Nat.le_trans hz (Nat.le_succ _),(own_lt hG.own L rfl).2,by rw [hl3] at hG; exact hG⟩
    have HLV:=Lib.hid hlv
    have r0:=cell_regrown u0
    have r1:=cell_regrown (Ja2.cell 1)
    have r2:=cell_regrown (Ja2.cell 2)
    have r3:=cell_regrown (Ja2.cell 3)
    have s0:=cell_regrown v0
    have s1:=cell_regrown (Jb2.cell 1)
    have s2:=cell_regrown (Jb2.cell 2)
    have s3:=cell_regrown (Jb2.cell 3)
    obtain ⟨i0,hi,hy0,hy1,hy2⟩:=info_parts slTip_info
    have hbb:i0.bytes * n≤281474976710656:=by rw [hy2]; omega
    have hmx:n≤maxLen:=by unfold maxLen; omega
    clear hbn hlv a0 a1 b0 b1
    go_wp2
    clear u0 v0
    refine wp_region_fan_below 8 [0,1,2,4,5] [3,6,7] (by kernel_rfl) (by kernel_rfl) rfl (by kernel_rfl) ?_
    simp only [pickOps,List.getElem?_cons_zero,List.getElem?_cons_succ,List.drop_succ_cons,List.drop_zero,List.length_cons,List.length_nil]
    repeat (go_big_quiet_step (fail))
    refine wpQuiet_nil ?_
    clear r0 r1 r2 r3 s0 s1 s2 s3
    refine fan3 (i:=3) (j:=6) (k:=7) (di:=31) (dj:=34) (dk:=35) (by decide) (by decide) (by decide) (by decide) (by decide) (by decide) rfl rfl rfl
     (maker_call rfl rfl 30 (by decide) 23 _ rfl eg_leaving ?_ HLV.out)
     (maker_slice rfl rfl 33 (by decide) 68 rfl 29 i0 _ 1 Tryz.underlying68 hi hy0 hy1 n ?_ hbb hmx)
     (maker_map (T:=61) (enc:=encA) (ok:=ArW) rfl rfl _ rfl) ?_
    ·rintro v W W' ⟨L,vs,base,rfl,g1,g2,g3,hG⟩ hb
     exact ⟨L,vs,base,rfl,g1,g2,Nat.lt_of_lt_of_le g3 hb.size,hG.call hb⟩
    ·show Value.int .i64 b.n = _
     rw [HBN.out]
    ·rintro vi vj vk W hbW ⟨L,vs,base,rfl,g1,g2,g3,HGA⟩ ⟨E,rfl,g4,HGE0⟩ ⟨M2,rfl,g5,HSA⟩
     simp only [Act.put]
     go_wp2
     refine NoPanic.normal ?_
     have hbW2:Below w2.heap.size w2 W:=(Below.refl _ w2).drew.trans hbW
     rw [show (Value.slice none 0 0).cells = #[Value.slice none 0 0] from rfl,Nat.mul_one,toList_madeCells_one] at HGE0
     have HC0:CmW w (W.alloc (.cells #[.int .i64 a.n,.slice A1 n1 c1,.slice A2 n2 c2,.slice A3 n3 c3,.int .i64 b.n,.slice D1 m1 e1,.slice D2 m2 e2,.slice D3 m3 e3,.slice (some ⟨L,0,none⟩) n n,.slice (some ⟨E,0,none⟩) n n,.map (some M2),.map none,.map none,.int .i64 0,.slice none 0 0,.slice none 0 0,.slice none 0 0,.bool false] 73)) W.heap.size L E M2 n base w2.heap.size _ _ _ vs (List.replicate n nilV) (leavS b.arcs m3) (fun _ => []) :=
      ⟨(Ja2.below hbW2 Ja2.lt).alloc _,(Jb2.below hbW2 Jb2.lt).alloc _,(Jr2.below hbW2 Jr2.lt).alloc _,HGA.call ((Below.refl _ W).alloc (Nat.le_refl _) _),(grp_madeG HGE0).call ((Below.refl _ W).alloc (Nat.le_refl _) _),HSA.below ((Below.refl _ W).alloc (Nat.le_refl _) _) (Nat.le_refl _),Blk.new W _ _,
       (hb2.trans (hbW2.mono hb2.size)).alloc (Nat.le_trans hb2.size hbW2.size) _,by have:=hb2.size; omega,hb2.size,by have:=Jr2.lt; have:=hbW2.size; omega,by have:=hb2.size; have g5':w2.heap.size≤M2:=g5; omega⟩
     clear HGA HGE0 HSA Ja2 Jb2 Jr2 hbW hbW2 hb2 g1 g2 g3 g4 g5 hi hy0 hy1 hy2 hbb
     have hmm0:=@run_makeMap Tryz.prog
     generalize W.heap.size = G at *
     go_wp2
     go_loopw [38] (fun i wr => ∃ (k:Nat) (mv0 mv1:Value),k≤2∧i = .int .i64 ((k:Nat):Int)∧CmW w wr G L E M2 n base w2.heap.size #[.int .i64 a.n,.slice A1 n1 c1,.slice A2 n2 c2,.slice A3 n3 c3] #[.int .i64 b.n,.slice D1 m1 e1,.slice D2 m2 e2,.slice D3 m3 e3] #[.int .i64 a.n,.slice A1 n1 c1,.slice A2 n2 c2,.slice A3 n3 c3,.int .i64 b.n,.slice D1 m1 e1,.slice D2 m2 e2,.slice D3 m3 e3,.slice (some ⟨L,0,none⟩) n n,.slice (some ⟨E,0,none⟩) n n,.map (some M2),mv0,mv1,.int .i64 0,.slice none 0 0,.slice none 0 0,.slice none 0 0,.bool false] vs (List.replicate n nilV) (leavS b.arcs m3) (fun _ => []) ∧
      (k = 0→mv0 = .map none∧mv1 = .map none)∧(1≤k→∃ M0,mv0 = .map (some M0)∧w.heap.size≤M0∧M0≠M2∧Seen 54 encT TpW wr M0 []∧(k = 1→mv1 = .map none)∧(2≤k→∃ M1,mv1 = .map (some M1)∧w.heap.size≤M1∧M1≠M2∧M0≠M1∧Seen 54 encT TpW wr M1 []))) (fun i _ => 2 - (intOf i).toNat)
     case atStart => exact ⟨0,_,_,Nat.zero_le _,rfl,HC0,fun _ => ⟨rfl,rfl⟩,fun h => absurd h (by decide)⟩
     case round =>
      clear HC0
      obtain ⟨k,mv0,mv1,hk,rfl,HC,hk0,hk1⟩:=hrel
      have hz:=HC.bel.size
      have lG:=HC.lG
      have lM:=HC.lM
      have hMl:=HC.sa.lt
      by_cases hlt:k < 2
      ·have LBm:=(Below.refl wr.heap.size wr).alloc (Nat.le_refl _) (.map #[] 0)
       have HCa:=HC.call LBm
       have HSn:=Seen.made (T:=54) (enc:=encT) (ok:=TpW) wr
       have hGl:=HC.box.lt
       rcases Nat.eq_zero_or_pos k with rfl | hkp
       ·obtain ⟨rfl,rfl⟩:=hk0 rfl
        have q11:=HCa.box.cell 11
        have f11:=HCa.box.frozen 11
        have HCs:=HCa.setG 11 (.map (some wr.heap.size))
        have HSs:=HSn.setCell (a:=⟨G,11,none⟩) (by show wr.heap.size≠G; omega) (.map (some wr.heap.size))
        have hne:wr.heap.size≠M2:=by omega
        rw [World.setCell_alloc_past _ _ _ _ hGl] at HCs HSs
        clear hk0 hk1 HC LBm HCa HSn
        go_wp2
        go_roundw
        case rel => exact ⟨1,_,_,by decide,rfl,HCs,fun h => absurd h (by decide),fun _ => ⟨_,rfl,hz,hne,HSs,fun _ => rfl,fun h => absurd h (by decide)⟩⟩
        case measure => decide
       ·obtain rfl:k = 1:=by omega
        obtain ⟨M0,rfl,lM0,nM0,HS0,hm1,_⟩:=hk1 (Nat.le_refl _)
        obtain rfl:=hm1 rfl
        have hM0:=HS0.lt
        have q12:=HCa.box.cell 12
        have f12:=HCa.box.frozen 12
        have HCs:=HCa.setG 12 (.map (some wr.heap.size))
        have HSs:=HSn.setCell (a:=⟨G,12,none⟩) (by show wr.heap.size≠G; omega) (.map (some wr.heap.size))
        have HS0s:=(HS0.below LBm (Nat.le_refl _)).setCell (a:=⟨G,12,none⟩) (fun e => HS0.blk_ne HC.box e.symm) (.map (some wr.heap.size))
        have hne:wr.heap.size≠M2:=by omega
        have hne2:M0≠wr.heap.size:=by omega
        rw [World.setCell_alloc_past _ _ _ _ hGl] at HCs HSs HS0s
        clear hk0 hk1 HC LBm HCa HSn hm1 HS0
        go_wp2
        go_roundw
        case rel => exact ⟨2,_,_,by decide,rfl,HCs,fun h => absurd h (by decide),fun _ => ⟨_,rfl,lM0,nM0,HS0s,fun h => absurd h (by decide),fun _ => ⟨_,rfl,hz,hne,hne2,HSs⟩⟩⟩
        case measure => decide
      ·obtain rfl:k = 2:=by omega
       obtain ⟨M0,rfl,lM0,nM0,HS0,_,hk2⟩:=hk1 (by decide)
       obtain ⟨M1,rfl,lM1,nM1,n01,HS1⟩:=hk2 (Nat.le_refl _)
       clear hk0 hk1 hk2 hz hMl lM lG
       have p2:=HC.jb.cell 2
       have HGRP:(fun _ => []) = endS b.ends 0:=by funext t; rfl
       rw [HGRP] at HC
       clear HGRP
       go_wp2
       clear p2
       rw [show ((2:Nat):Int) = (2:Int) from rfl]
       go_loopw [51] (fun i wr => ∃ (k:Nat) (ves:List Value),k≤m2∧i = .int .i64 ((k:Nat):Int)∧CmW w wr G L E M2 n base w2.heap.size #[.int .i64 a.n,.slice A1 n1 c1,.slice A2 n2 c2,.slice A3 n3 c3] #[.int .i64 b.n,.slice D1 m1 e1,.slice D2 m2 e2,.slice D3 m3 e3] #[.int .i64 a.n,.slice A1 n1 c1,.slice A2 n2 c2,.slice A3 n3 c3,.int .i64 b.n,.slice D1 m1 e1,.slice D2 m2 e2,.slice D3 m3 e3,.slice (some ⟨L,0,none⟩) n n,.slice (some ⟨E,0,none⟩) n n,.map (some M2),.map (some M0),.map (some M1),.int .i64 0,.slice none 0 0,.slice none 0 0,.slice none 0 0,.bool false] vs ves (leavS b.arcs m3) (endS b.ends k)∧Seen 54 encT TpW wr M0 []∧Seen 54 encT TpW wr M1 []) (fun i _ => m2 - (intOf i).toNat)
       case atStart => exact ⟨0,_,Nat.zero_le _,rfl,HC,HS0,HS1⟩
       case round =>
        clear HC HS0 HS1
        obtain ⟨k,ves,hk,rfl,HC,HS0,HS1⟩:=hrel
        have lG:=HC.lG
        by_cases hlt:k < m2
        ·have hi1:(0:Int)≤(k:Int):=by omega
         have hi2:(k:Int) < (m2:Int):=by omega
         obtain ⟨gz,oz,rfl,hgz,t0,t1⟩:=tip_cell (Q2.below (HC.bel.mono hB)) k hlt
         have hkl:k < b.ends.length:=by have:=HLB.out.2.1; omega
         have hzb:=HPB.out.2.2.2.1.2 _ (getD_in b.ends tp0 k hkl)
         have hsucc:=Lib.hid (endS_succ b.ends k hkl)
         have hrl:∀ s,(endS b.ends k s).length≤1024:=fun s => Nat.le_trans (List.length_filter_le _ _) (by rw [List.length_take]; have:=HPB.out.2.2.2.1.1; omega)
         generalize b.ends.getD k tp0 = z at *
         obtain ⟨zs,zo⟩:=z
         simp only at t0 t1 hzb
         obtain ⟨s,rfl⟩:∃ s:Nat,zs = (s:Int):=⟨_,(Int.toNat_of_nonneg hzb.1).symm⟩
         have hsn:s < n:=by have:=HBN.out; omega
         have hs1:(0:Int)≤(s:Int):=by omega
         have hs2:(s:Int) < (n:Int):=by omega
         have hrs:=hrl s
         clear hrl
         generalize endS b.ends k = rows at *
         have LB:=(Below.refl wr.heap.size wr).alloc (Nat.le_refl _) (.cells #[.int .i64 (s:Int),.string zo] 54)
         have HCa:=HC.call LB
         have HGz:=Blk.new wr 54 #[.int .i64 (s:Int),.string zo]
         have HS0a:=HS0.below LB (Nat.le_refl _)
         have HS1a:=HS1.below LB (Nat.le_refl _)
         have hrow:=HCa.ge.row s hsn
         obtain ⟨Av,cv,hv,hv1,hv2,hv3⟩:=own_form hrow
         have hcl:=own_cellAt HCa.ge.own s hsn nilV
         rw [hv] at hcl
         have hngz:(ves.getD s nilV).ownBlock≠some wr.heap.size:=fun e => by have:=(own_lt (HC.ge.row s hsn) _ e).2; omega
         rw [hv] at hngz
         obtain ⟨Sx,hSdef⟩:∃ Sx:World→Prop,Sx = fun W => Blk W wr.heap.size 54 #[.int .i64 (s:Int),.string zo]∧Blk W G 73 #[.int .i64 a.n,.slice A1 n1 c1,.slice A2 n2 c2,.slice A3 n3 c3,.int .i64 b.n,.slice D1 m1 e1,.slice (some ⟨gz,oz,none⟩) m2 e2,.slice D3 m3 e3,.slice (some ⟨L,0,none⟩) n n,.slice (some ⟨E,0,none⟩) n n,.map (some M2),.map (some M0),.map (some M1),.int .i64 0,.slice none 0 0,.slice none 0 0,.slice none 0 0,.bool false]∧W.cell? ⟨E,s,none⟩ = some (.slice Av (rows s).length cv):=⟨_,rfl⟩
         have hSi:=fun W x1 x2 x3 => show Sx W by rw [hSdef]; exact ⟨x1,x2,x3⟩
         have hSo:=fun W (h:Sx W) => show Blk W wr.heap.size 54 #[.int .i64 (s:Int),.string zo]∧Blk W G 73 #[.int .i64 a.n,.slice A1 n1 c1,.slice A2 n2 c2,.slice A3 n3 c3,.int .i64 b.n,.slice D1 m1 e1,.slice (some ⟨gz,oz,none⟩) m2 e2,.slice D3 m3 e3,.slice (some ⟨L,0,none⟩) n n,.slice (some ⟨E,0,none⟩) n n,.map (some M2),.map (some M0),.map (some M1),.int .i64 0,.slice none 0 0,.slice none 0 0,.slice none 0 0,.bool false]∧W.cell? ⟨E,s,none⟩ = some (.slice Av (rows s).length cv) by rw [hSdef] at h; exact h
         have y0:=fun p:Held Sx => (hSo p.w p.2).1.cell 0
         have y1:=fun p:Held Sx => (hSo p.w p.2).1.cell 1
         have y9:=fun p:Held Sx => (hSo p.w p.2).2.1.cell 9
         have yE:=fun p:Held Sx => (hSo p.w p.2).2.2
         have hS0x:Sx (wr.alloc (.cells #[.int .i64 (s:Int),.string zo] 54)).drew:=hSi _ HGz HCa.box hcl
         clear hSdef
         have:Nonempty (Held Sx):=⟨⟨_,hS0x⟩⟩
         go_wp2
         clear t0 t1
         refine wp_region_hold_at Sx 17 [0,1,2,3,4,5,6,7,8,9,10,11,12,13,14] [15,16] (by kernel_rfl) (by kernel_rfl) rfl (by kernel_rfl) hS0x ?_
         simp only [pickOps,List.getElem?_cons_zero,List.getElem?_cons_succ,List.drop_succ_cons,List.drop_zero]
         repeat (go_big_quiet_step (fail))
         refine wpQuiet_nil ?_
         clear y0 y1 y9 yE
         refine wpForce_step rfl (fun KK hKK => ?_)
         go_simp
         generalize hwa:wr.alloc (.cells #[.int .i64 (s:Int),.string zo] 54) = wa at *
         have hsa:wa.heap.size = wr.heap.size + 1:=by rw [← hwa]; simp
         have LA:Below wa.heap.size wa (wa.drew.alloc (.cells #[.int .i64 (s:Int),.string zo] 54)):=(Below.refl _ wa).drew.alloc (Nat.le_refl _) _
         have HGz2:=HGz.below LA HGz.lt
         have HC2:=HCa.call LA
         have HS02:=HS0a.below LA (Nat.le_refl _)
         have HS12:=HS1a.below LA (Nat.le_refl _)
         have hcl2:=own_cellAt HC2.ge.own s hsn nilV
         rw [hv] at hcl2
         refine hKK _ _ (HeldIn.of (hSi _ HGz2 HC2.box hcl2)) ?_
         clear hKK KK
         have hrd:=reads_allocK wa.drew [.int .i64 (s:Int),.string zo] 54 2 1 rfl
         rw [show wa.drew.heap.size = wr.heap.size + 1 from hsa] at hrd
         have hrow2:=HC2.ge.row s hsn
         rw [hv] at hrow2
         have hone:=encT_one ⟨(s:Int),zo⟩
         have h63:(rows s).length + 1≤maxLen:=by unfold maxLen; omega
         have hby:((rows s).length + 1) * 24≤140737488355328:=by omega
         have hbs:w2.heap.size≤(wa.drew.alloc (.cells #[.int .i64 (s:Int),.string zo] 54)).heap.size:=by
          have:=(own_lt HC2.ge.own E rfl)
          omega
         obtain ⟨ia,hia,hya0,hya1,hya2⟩:=info_parts tip_info
         refine wpForce_step rfl (fun KK hKK => ?_)
         refine wp_append_any _ _ _ 29 rfl w2.heap.size 54 ia _ 2 24 Tryz.underlying29 hia hya0 hya1 hya2 rfl (by decide) _ _ _ rfl hrow2 _ (some ⟨wr.heap.size + 1,0,none⟩) 1 1 [.int .i64 (s:Int),.string zo] rfl hrd hone h63 hby hbs ?_
         intro v' w5 hown hgrow hloc
         have hgrow':=hgrow
         rw [← hv] at hgrow'
         have HW:=HC2.putE s hsn ⟨(s:Int),zo⟩ hgrow' hown (by rw [hv]; exact hloc)
         have k5:=HC2.ge.own.kept hgrow' (apart_types HC2.ge.own (HC2.ge.row s hsn) (by decide)).or_none
         have hcl5:=own_cellAt k5 s hsn nilV
         have hfz5:=own_frozenAt k5 s
         rw [hv] at hcl5
         have HG5:=blk_keep HGz2 hgrow hngz
         have HX5:=blk_keep HC2.box hgrow' (own_blk (HC2.ge.row s hsn) HC2.box (by decide))
         have HS05:=HS02.kept hgrow' (HS02.ne (HC2.ge.row s hsn))
         have HS15:=HS12.kept hgrow' (HS12.ne (HC2.ge.row s hsn))
         have HS06:=HS05.setCell (a:=⟨E,s,none⟩) (fun e => HS05.ne k5 (congrArg some e)) v'
         have HS16:=HS15.setCell (a:=⟨E,s,none⟩) (fun e => HS15.ne k5 (congrArg some e)) v'
         refine hKK _ _ (HeldIn.of (hSi _ HG5 HX5 hcl5)) ?_
         clear hKK KK
         obtain ⟨Av2,cv2,rfl,_,_,_⟩:=own_form hown
         clear hown hgrow hgrow' hloc hrd hrow2 HGz2 HG5 HGz HC2 HCa HC hSi hSo hS0x k5 LA hcl hcl2 HX5 HS05 HS15 HS02 HS12 HS0a HS1a HS0 HS1 LB
         refine wpForce_nil ?_
         go_wp2
         refine NoPanic.normal ?_
         go_wp2
         go_roundw
         case rel =>
          refine ⟨k + 1,ves.set s (.slice Av2 ((rows s).length + 1) cv2),by omega,by go_num,?_,HS06,HS16⟩
          have e:endS b.ends (k + 1) = fun u => if u = s then rows s ++ [(⟨(s:Int),zo⟩:Tp)] else rows u:=by
           funext u
           rw [hsucc.out u]
           by_cases hu:u = s
           ·subst hu; rw [if_pos rfl,if_pos rfl]
           ·rw [if_neg (show ¬ ((u:Int) = (s:Int)) by omega),if_neg hu]
          rw [e]
          exact HW
         case measure => simp [intOf]; omega
        ·obtain rfl:k = m2:=by omega
         have p0:=HC.ja.cell 0
         have q0:=HC.jb.cell 0
         have b13:=HC.box.cell 13
         have f13:=HC.box.frozen 13
         have hmf:∀ (fn:Fn) (first cap:Array Value) (w:World),(Instr.makeFunc fn first cap).run Tryz.prog w = .ok (.func fn first cap) w:=fun _ _ _ _ => rfl
         have HC1:=(HC.setG 13 (.int .i64 (a.n * b.n)))
         have HS01:=HS0.setCell (a:=⟨G,13,none⟩) (fun e => HS0.blk_ne HC.box e.symm) (.int .i64 (a.n * b.n))
         have HS11:=HS1.setCell (a:=⟨G,13,none⟩) (fun e => HS1.blk_ne HC.box e.symm) (.int .i64 (a.n * b.n))
         clear HC HS0 HS1
         go_wp2
         clear p0 q0 b13 f13
         generalize hwf:(wr.setCell ⟨G,13,none⟩ (.int .i64 (a.n * b.n))) = wf at *
         have hwfs:wf.heap.size = wr.heap.size:=by rw [← hwf]; simp
         have LBf:=(Below.refl wf.heap.size wf).alloc (Nat.le_refl _) (.cells #[.func (.func 24) #[.pointer (some ⟨G,0,none⟩)] #[],.func (.func 25) #[.pointer (some ⟨G,0,none⟩)] #[],.func (.func 26) #[.pointer (some ⟨G,0,none⟩)] #[]] 1)
         have HC2:=HC1.call LBf
         have HS02:=HS01.below LBf (Nat.le_refl _)
         have HS12:=HS11.below LBf (Nat.le_refl _)
         have HFb:=Blk.new wf 1 #[.func (.func 24) #[.pointer (some ⟨G,0,none⟩)] #[],.func (.func 25) #[.pointer (some ⟨G,0,none⟩)] #[],.func (.func 26) #[.pointer (some ⟨G,0,none⟩)] #[]]
         rw [hwfs] at HFb
         have hGf:=HC1.box.lt
         have hM0f:=HS01.lt
         have hM1f:=HS11.lt
         have hM2f:=HC1.sa.lt
         have lM2:=HC1.lM
         have hwz:=HC1.bel.size
         obtain ⟨c,hc⟩:∃ c:Ch,c = ⟨wf.alloc (.cells #[.func (.func 24) #[.pointer (some ⟨G,0,none⟩)] #[],.func (.func 25) #[.pointer (some ⟨G,0,none⟩)] #[],.func (.func 26) #[.pointer (some ⟨G,0,none⟩)] #[]] 1),G,M0,M1,M2,L,E,n,a.n,b.n,.slice A1 n1 c1,.slice A2 n2 c2,.slice A3 n3 c3,.slice D1 m1 e1,.slice D2 k e2,.slice D3 m3 e3⟩:=⟨_,rfl⟩
         have hcG:c.G = G:=by rw [hc]
         have hcw:c.w = wf.alloc (.cells #[.func (.func 24) #[.pointer (some ⟨G,0,none⟩)] #[],.func (.func 25) #[.pointer (some ⟨G,0,none⟩)] #[],.func (.func 26) #[.pointer (some ⟨G,0,none⟩)] #[]] 1):=by rw [hc]
         have HW0:ChW c (wf.alloc (.cells #[.func (.func 24) #[.pointer (some ⟨G,0,none⟩)] #[],.func (.func 25) #[.pointer (some ⟨G,0,none⟩)] #[],.func (.func 26) #[.pointer (some ⟨G,0,none⟩)] #[]] 1)) (.slice none 0 0) (.slice none 0 0) (.slice none 0 0) [] [] [] false:=by
          subst hc
          exact ⟨HC2.box,World.ownsRow_nil _ _ _ _,World.ownsRow_nil _ _ _ _,World.ownsRow_nil _ _ _ _,(fun g h => by cases h),HS02,HS12,HC2.sa,HC2.box.lt,HS02.lt,HS12.lt,HC2.sa.lt,n01,nM0,nM1,Nat.le_refl _,rfl,rfl,rfl,fun _ _ => rfl⟩
         have hPl:∀ x,x < w.heap.size→c.P x:=by
          have l0:w.heap.size≤M0:=lM0
          have l1:w.heap.size≤M1:=lM1
          subst hc
          intro x hx
          exact ⟨by show x < (wf.alloc _).heap.size; rw [World.size_alloc]; omega,by show x≠G; omega,by show x≠M0; omega,by show x≠M1; omega,by show x≠M2; omega⟩
         have hPr:c.P (w.heap.size + 1 + 1):=by
          have n0:=HS02.blk_ne HC2.jr
          have n1:=HS12.blk_ne HC2.jr
          have n2:=HC2.sa.blk_ne HC2.jr
          have hl:=HC2.jr.lt
          subst hc
          exact ⟨hl,by show w.heap.size + 1 + 1≠G; omega,n0,n1,n2⟩
         have HE:ChE c a b:=by
          obtain ⟨la1,la2,la3⟩:=HLA.out
          obtain ⟨lb1,lb2,lb3⟩:=HLB.out
          have hga:=HC2.grpA HS02 HS12
          have hge:=HC2.grpE HS02 HS12
          have rd:∀ {A0:Option Addr} {size m:Nat} {xs:List Value},Reads w B size A0 m xs→ReadsP c.P c.w size A0 m xs:=fun {A0 size m xs} h => ReadsP.of_reads (by rw [hcw]; exact h.below (HC2.bel.mono hB)) fun k hk => hPl k (Nat.lt_of_lt_of_le hk hB)
          obtain ⟨pa1,pa2,pa3,pa4,pa5⟩:=HPA.out
          obtain ⟨pb1,pb2,pb3,pb4,pb5⟩:=HPB.out
          have hA3:=HW3.out
          have hX3:=HX3.out
          have hbn:=HBN.out
          refine ⟨by rw [hc],by rw [hc],by rw [hc]; exact hbn,by rw [hc]; exact hn1024,pa1,hbig2,⟨A1,c1,by rw [hc,la1],by rw [la1]; exact rd R1⟩,⟨A2,c2,by rw [hc,la2],by rw [la2]; exact rd R2⟩,⟨A3,c3,by rw [hc,la3],by rw [la3]; exact rd R3⟩,⟨D1,e1,by rw [hc,lb1],by rw [lb1]; exact rd Q1⟩,⟨by rw [la1]; exact pa3.1,pa3.2⟩,⟨by rw [la2]; exact pa4.1,pa4.2⟩,⟨by rw [la3]; exact pa5.1,fun x hx => ?_⟩,pb3,pb4,⟨pb5.1,fun x hx => ?_⟩,?_,?_⟩
          ·obtain ⟨y1,y2,y3,y4,y5,y6⟩:=pa5.2 x hx
           exact ⟨y1,y2,y3,y4,y5,(hA3 x hx).2.2.2.2.1,y6⟩
          ·obtain ⟨y1,y2,y3,y4,y5,y6⟩:=pb5.2 x hx
           refine ⟨hX3 x hx,y3,?_,y5⟩
           rw [hc]
           show x.to < (n:Int)
           omega
          ·subst hc
           rw [lb3]
           exact hga
          ·subst hc
           rw [lb2]
           exact hge
         have hFP:c.P wr.heap.size:=by
          subst hc
          exact ⟨by show wr.heap.size < (wf.alloc _).heap.size; rw [World.size_alloc]; omega,by show wr.heap.size≠G; omega,by show wr.heap.size≠M0; omega,by show wr.heap.size≠M1; omega,by show wr.heap.size≠M2; omega⟩
         have HFc:=HFb
         rw [← hcw] at HFc
         have HRb:=HC2.jr
         rw [← hcw] at HRb
         have hbw:=HC2.bel
         rw [← hcw] at hbw
         have HCW:=Lib.hid hcw
         have HCG:=Lib.hid hcG
         clear hc HC1 HC2 HS01 HS11 HS02 HS12 HFb hwf LBf hmf hmm0 hwfs hGf hM0f hM1f hM2f hwz
         generalize wr.heap.size = F at *
         go_loopw [91] (fun i wr => ∃ (k:Nat) (vS vE vA:Value) (S E':List Tp) (A:List Ar),k≤3∧i = .int .i64 ((k:Nat):Int)∧ChW c wr vS vE vA S E' A false∧(k≤0→S = [])∧(k≤1→E' = [])∧(k≤2→A = [])∧(1≤k→Puts S false (startsL a b))∧TipsB (a.n * b.n) S∧(2≤k→Puts E' false (endsL a b c.n))∧TipsB (a.n * b.n) E'∧(3≤k→Puts A false (arcsL a b c.n))∧ArcsB (a.n * b.n) A) (fun i _ => 3 - (intOf i).toNat)
         case atStart => exact ⟨0,_,_,_,[],[],[],by decide,rfl,HW0,fun _ => rfl,fun _ => rfl,fun _ => rfl,fun h => absurd h (by decide),⟨Nat.zero_le _,fun _ h => (List.not_mem_nil h).elim⟩,fun h => absurd h (by decide),⟨Nat.zero_le _,fun _ h => (List.not_mem_nil h).elim⟩,fun h => absurd h (by decide),⟨Nat.zero_le _,fun _ h => (List.not_mem_nil h).elim⟩⟩
         case round =>
          clear HW0
          obtain ⟨q,vS,vE,vA,S,E',A,hq,rfl,HW,z1,z2,z3,z4,z5,z6,z7,z8,z9⟩:=hrel
          have HFr:Blk wr F 1 _:=(HW.keep _ hFP).trans HFc
          by_cases hlt:q < 3
          ·have hq1:(0:Int)≤(q:Int):=by omega
           have hq2:(q:Int) < (3:Int):=by omega
           rcases Nat.eq_zero_or_pos q with rfl | hqp
           ·obtain rfl:=z1 (Nat.le_refl _)
            have g0:wr.cell? ⟨F,0,none⟩ = some (.func (.func 24) #[.pointer (some ⟨G,0,none⟩)] #[]):=HFr.cell 0
            have hC:=starts_any c a b HE wr vS vE vA E' A HW
            rw [HCG.out] at hC
            go_wp2_with fail
            refine hC.mono ?_
            rintro e w3 ⟨rfl,vS1,S1,ov,HW1,hp1,ht1⟩
            have k17:w3.cell? ⟨c.G,17,none⟩ = some (.bool ov):=HW1.box.cell 17
            rw [HCG.out] at k17
            have Hp1:=Lib.hid hp1
            have Ht1:=Lib.hid ht1
            clear hC g0 hp1 ht1
            rcases ov with _ | _
            ·go_wp2
             go_roundw
             case rel => exact ⟨1,vS1,vE,vA,S1,E',A,by decide,rfl,HW1,(fun h => absurd h (by decide)),(fun _ => z2 (by decide)),(fun _ => z3 (by decide)),(fun _ => Hp1.out),Ht1.out,(fun h => absurd h (by decide)),z7,(fun h => absurd h (by decide)),z9⟩
             case measure => decide
            ·have Jrx:Blk _ (w.heap.size + 1 + 1) 32 #[.int .i64 0,.slice none 0 0,.slice none 0 0,.slice none 0 0]:=(HW1.keep _ hPr).trans HRb
             have hbx:=HW1.below hbw hPl
             have q0:=Blk.cell Jrx 0
             have q1:=Blk.cell Jrx 1
             have q2:=Blk.cell Jrx 2
             have q3:=Blk.cell Jrx 3
             have f0:=Blk.frozen Jrx 0
             have f1:=Blk.frozen Jrx 1
             have f2:=Blk.frozen Jrx 2
             have f3:=Blk.frozen Jrx 3
             go_wp2
             refine bodyPost_ret (v:=.tuple #[.agg #[.int .i64 0,.slice none 0 0,.slice none 0 0,.slice none 0 0],.int .i64 2]) (by simp [results,Tryz.results9,go_sem,q0,q1,q2,q3]) rfl (HEND.out 2 _ (by decide) hbx Jrx)
           ·rcases Nat.lt_or_ge 1 q with hq3 | hq3
            ·obtain rfl:q = 2:=by omega
             obtain rfl:=z3 (Nat.le_refl _)
             have g0:wr.cell? ⟨F,2,none⟩ = some (.func (.func 26) #[.pointer (some ⟨G,0,none⟩)] #[]):=HFr.cell 2
             have hC:=steps_any c a b HE wr vS vE vA S E' HW
             rw [HCG.out] at hC
             go_wp2_with fail
             refine hC.mono ?_
             rintro e w3 ⟨rfl,vA1,A1',ov,HW1,hp1,ht1⟩
             have k17:w3.cell? ⟨c.G,17,none⟩ = some (.bool ov):=HW1.box.cell 17
             rw [HCG.out] at k17
             have Hp1:=Lib.hid hp1
             have Ht1:=Lib.hid ht1
             clear hC g0 hp1 ht1
             rcases ov with _ | _
             ·go_wp2
              go_roundw
              case rel => exact ⟨3,vS,vE,vA1,S,E',A1',by decide,rfl,HW1,(fun h => absurd h (by decide)),(fun h => absurd h (by decide)),(fun h => absurd h (by decide)),(fun _ => z4 (by decide)),z5,(fun _ => z6 (by decide)),z7,(fun _ => Hp1.out),Ht1.out⟩
              case measure => decide
             ·have Jrx:Blk _ (w.heap.size + 1 + 1) 32 #[.int .i64 0,.slice none 0 0,.slice none 0 0,.slice none 0 0]:=(HW1.keep _ hPr).trans HRb
              have hbx:=HW1.below hbw hPl
              have q0:=Blk.cell Jrx 0
              have q1:=Blk.cell Jrx 1
              have q2:=Blk.cell Jrx 2
              have q3:=Blk.cell Jrx 3
              have f0:=Blk.frozen Jrx 0
              have f1:=Blk.frozen Jrx 1
              have f2:=Blk.frozen Jrx 2
              have f3:=Blk.frozen Jrx 3
              go_wp2
              refine bodyPost_ret (v:=.tuple #[.agg #[.int .i64 0,.slice none 0 0,.slice none 0 0,.slice none 0 0],.int .i64 2]) (by simp [results,Tryz.results9,go_sem,q0,q1,q2,q3]) rfl (HEND.out 2 _ (by decide) hbx Jrx)
            ·obtain rfl:q = 1:=by omega
             obtain rfl:=z2 (Nat.le_refl _)
             have g0:wr.cell? ⟨F,1,none⟩ = some (.func (.func 25) #[.pointer (some ⟨G,0,none⟩)] #[]):=HFr.cell 1
             have hC:=stops_any c a b HE wr vS vE vA S A HW
             rw [HCG.out] at hC
             go_wp2_with fail
             refine hC.mono ?_
             rintro e w3 ⟨rfl,vE1,E1,ov,HW1,hp1,ht1⟩
             have k17:w3.cell? ⟨c.G,17,none⟩ = some (.bool ov):=HW1.box.cell 17
             rw [HCG.out] at k17
             have Hp1:=Lib.hid hp1
             have Ht1:=Lib.hid ht1
             clear hC g0 hp1 ht1
             rcases ov with _ | _
             ·go_wp2
              go_roundw
              case rel => exact ⟨2,vS,vE1,vA,S,E1,A,by decide,rfl,HW1,(fun h => absurd h (by decide)),(fun h => absurd h (by decide)),(fun _ => z3 (by decide)),(fun _ => z4 (by decide)),z5,(fun _ => Hp1.out),Ht1.out,(fun h => absurd h (by decide)),z9⟩
              case measure => decide
             ·have Jrx:Blk _ (w.heap.size + 1 + 1) 32 #[.int .i64 0,.slice none 0 0,.slice none 0 0,.slice none 0 0]:=(HW1.keep _ hPr).trans HRb
              have hbx:=HW1.below hbw hPl
              have q0:=Blk.cell Jrx 0
              have q1:=Blk.cell Jrx 1
              have q2:=Blk.cell Jrx 2
              have q3:=Blk.cell Jrx 3
              have f0:=Blk.frozen Jrx 0
              have f1:=Blk.frozen Jrx 1
              have f2:=Blk.frozen Jrx 2
              have f3:=Blk.frozen Jrx 3
              go_wp2
              refine bodyPost_ret (v:=.tuple #[.agg #[.int .i64 0,.slice none 0 0,.slice none 0 0,.slice none 0 0],.int .i64 2]) (by simp [results,Tryz.results9,go_sem,q0,q1,q2,q3]) rfl (HEND.out 2 _ (by decide) hbx Jrx)
          ·obtain rfl:q = 3:=by omega
           obtain ⟨AS,cS,rfl,_,_,_⟩:=own_form HW.oS
           obtain ⟨AE,cE,rfl,_,_,_⟩:=own_form HW.oE
           obtain ⟨AA,cA,rfl,_,_,_⟩:=own_form HW.oA
           have hnm:0≤a.n * b.n∧a.n * b.n≤1024:=⟨hmm,hbig2⟩
           have HF:=HW.fst hnm z5 z7 z9
           have hck:=fckB_of hnm z5 z7 z9
           have hSo:=fstSort_any ⟨a.n * b.n,S,E',A⟩ _ wr.heap.size wr HF (Nat.le_refl _)
           rw [hck,if_pos rfl] at hSo
           replace hSo:Calls Tryz.prog 21 #[.agg #[.int .i64 (a.n * b.n),.slice AS S.length cS,.slice AE E'.length cE,.slice AA A.length cA]] wr (GF (sortF ⟨a.n * b.n,S,E',A⟩) 0 wr):=hSo
           have HCh:=Lib.hid (chain_of (N:=a.n * b.n) (fckB_right HFB.out) (n:=c.n) (by rw [← HE.n]) (z4 (by decide)) (z6 (by decide)) (z8 (Nat.le_refl _)))
           have HRt:=Lib.hid (right_sortF hck)
           have g13:wr.cell? ⟨c.G,13,none⟩ = some (.int .i64 (a.n * b.n)):=by
            have e:wr.cell? ⟨c.G,13,none⟩ = some (.int .i64 (c.an * c.bn)):=HW.box.cell 13
            rw [e,HE.an,HE.bn]
           have g14:wr.cell? ⟨c.G,14,none⟩ = some (.slice AS S.length cS):=HW.box.cell 14
           have g15:wr.cell? ⟨c.G,15,none⟩ = some (.slice AE E'.length cE):=HW.box.cell 15
           have g16:wr.cell? ⟨c.G,16,none⟩ = some (.slice AA A.length cA):=HW.box.cell 16
           rw [HCG.out] at g13 g14 g15 g16
           have Jrx:Blk _ (w.heap.size + 1 + 1) 32 #[.int .i64 0,.slice none 0 0,.slice none 0 0,.slice none 0 0]:=(HW.keep _ hPr).trans HRb
           have hbx:=HW.below hbw hPl
           clear HF hck z1 z2 z3 z4 z5 z6 z7 z8 z9 HFr
           go_wp2_with fail
           refine hSo.mono ?_
           rintro e w7 ⟨v7,rfl,HF7,HN7,HB7⟩
           obtain ⟨N7,Y1,y1,u1,Y2,y2,u2,Y3,y3,u3,hv7,_,_,_⟩:=id HN7
           subst hv7
           have Jr7:=Jrx.below HB7 Jrx.lt
           have hb7:=hbx.trans (HB7.mono hbx.size)
           have hlt7:=Jrx.lt
           have q0:=Jr7.cell 0
           have q1:=Jr7.cell 1
           have q2:=Jr7.cell 2
           have q3:=Jr7.cell 3
           have f0:=Jr7.frozen 0
           have f1:=Jr7.frozen 1
           have f2:=Jr7.frozen 2
           have f3:=Jr7.frozen 3
           have HEs:=Lib.hid (HF7.freshSet4 HN7 (g:=w.heap.size + 1 + 1) hlt7 (.int .i64 N7) (.slice Y1 y1 u1) (.slice Y2 y2 u2) (.slice Y3 y3 u3))
           have HNl:=Lib.hid (HN7.less (B':=w.heap.size) (by omega))
           have hpost:=Lib.hid (fun e w' (h:GF (sortF ⟨a.n * b.n,S,E',A⟩) 0 w e w') => show ComposePost a b w e w' from ⟨_,0,h,fun _ => ⟨HFA.out,HFB.out,HCh.out,HRt.out⟩⟩)
           clear HF7 HN7 g13 g14 g15 g16 hSo
           go_wp2
           refine bodyPost_ret (v:=.tuple #[.agg #[.int .i64 N7,.slice Y1 y1 u1,.slice Y2 y2 u2,.slice Y3 y3 u3],.int .i64 0]) (by simp [results,Tryz.results9,go_sem,q0,q1,q2,q3]) rfl (hpost.out _ _ ⟨_,rfl,HEs.out,HNl.out,below_set4 hb7 (by omega) _ _ _ _⟩)
end Go.Proofs.YtcondkihpmmnnaaGreatDoor
