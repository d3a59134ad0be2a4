/- Lemmas, part 33 of 39. No condition. -/
import Derived.Test.YtcondkihpmmnnaaGreatDoorUniqueP29
import Derived.Test.YtcondkihpmmnnaaGreatDoorUniqueP11
import Derived.Test.YtcondkihpmmnnaaGreatDoorUniqueP23
import Derived.Test.YtcondkihpmmnnaaGreatDoorUniqueP31
import Derived.Test.YtcondkihpmmnnaaGreatDoorUniqueP32
import Derived.Test.YtcondkihpmmnnaaGreatDoorUniqueP30
import Derived.Test.YtcondkihpmmnnaaGreatDoorUniqueP27
namespace Go.Proofs.YtcondkihpmmnnaaGreatDoor
open Go.RowKit Go.Sort
set_option maxRecDepth 100000 in
set_option maxHeartbeats 8000000 in
theorem seqOf_any (t:Fs) (vt:Value) (B:Nat) (most:Int) (w:World) (HSt:FstAt w B t vt) (hB:B≤w.heap.size) (hP:Pow w w.heap.size) (hmo:-9223372036854775808≤most∧most≤9223372036854775807) :
    Calls Tryz.prog 10 #[vt,.int .i64 most] w (OfPost t most w):=by
 have HSt':=HSt
 obtain ⟨A1,c1,A2,c2,A3,c3,rfl,h1,h2,h3,h4,h5,h6,h7,h8,R1,W1,R2,W2,R3,W3⟩:=HSt
 have B0:Below w.heap.size w ((w.alloc (.cells #[.int .i64 t.n,.slice A1 t.starts.length c1,.slice A2 t.ends.length c2,.slice A3 t.arcs.length c3] 32)).alloc (.cells #[.string ⟨#[]⟩,.slice none 0 0,.slice none 0 0,.slice none 0 0,.slice none 0 0] 27)) :=
  ((Below.refl _ w).alloc (Nat.le_refl _) _).alloc (by simp) _
 have Ja:=(Blk.new w 32 #[.int .i64 t.n,.slice A1 t.starts.length c1,.slice A2 t.ends.length c2,.slice A3 t.arcs.length c3]).alloc (.cells #[.string ⟨#[]⟩,.slice none 0 0,.slice none 0 0,.slice none 0 0,.slice none 0 0] 27)
 have Jr:=Blk.new (w.alloc (.cells #[.int .i64 t.n,.slice A1 t.starts.length c1,.slice A2 t.ends.length c2,.slice A3 t.arcs.length c3] 32)) 27 #[.string ⟨#[]⟩,.slice none 0 0,.slice none 0 0,.slice none 0 0,.slice none 0 0]
 simp only [World.size_alloc] at Jr
 have hcka:=fun W (hb:Below w.heap.size w W) => fstCheck_any t _ B W (HSt'.below (hb.mono hB)) (Nat.le_trans hB hb.size)
 have hcka1:=hcka _ B0
 have hBad:=Lib.hid (fun (w':World) (hb:Below w.heap.size w w') (hn:¬ (fckB t = true∧1≤most∧most≤1024)) => show OfPost t most w (.returned (.tuple #[.agg #[.string ⟨#[]⟩,.slice none 0 0,.slice none 0 0,.slice none 0 0,.slice none 0 0],.int .i64 1])) w' from
  ⟨hb,_,seq0,1,rfl,seqNew_nil _ _,fun _ => rfl,fun _ => rfl,fun a b c => (hn ⟨a,b,c⟩).elim⟩)
 have j0:=Ja.cell 0
 have j1:=Ja.cell 1
 have j2:=Ja.cell 2
 have j3:=Ja.cell 3
 clear R1 R2 R3 W1 W2 W3
 rcases hck:fckB t with _ | _
 ·rw [hck] at hcka1
  have HC:=Lib.hid hcka1
  go_enter Tryz.func10,Tryz.ntmps10
  go_wp2_with fail
  refine HC.out.mono ?_
  rintro e w1 ⟨rfl,hb1⟩
  have Jr1:=Jr.below hb1 Jr.lt
  have r0:=Jr1.cell 0
  have r1:=Jr1.cell 1
  have r2:=Jr1.cell 2
  have r3:=Jr1.cell 3
  have r4:=Jr1.cell 4
  have g0:=Jr1.frozen 0
  have g1:=Jr1.frozen 1
  have g2:=Jr1.frozen 2
  have g3:=Jr1.frozen 3
  have g4:=Jr1.frozen 4
  have hok:okE false = 1:=rfl
  go_wp2_with fail
  exact of_ret rfl rfl (blk_set5 Jr1 _ _ _ _ _) (hBad.out _ (below_set5 (B0.trans (hb1.mono (by simp; omega))) (by omega) _ _ _ _ _) (by rw [hck]; rintro ⟨h,_⟩; cases h))
 ·rw [hck] at hcka1
  have HC:=Lib.hid hcka1
  have hok:okE true = 0:=rfl
  by_cases hm1:most < 1
  ·go_enter Tryz.func10,Tryz.ntmps10
   go_wp2_with fail
   refine HC.out.mono ?_
   rintro e w1 ⟨rfl,hb1⟩
   have Jr1:=Jr.below hb1 Jr.lt
   have r0:=Jr1.cell 0
   have r1:=Jr1.cell 1
   have r2:=Jr1.cell 2
   have r3:=Jr1.cell 3
   have r4:=Jr1.cell 4
   have g0:=Jr1.frozen 0
   have g1:=Jr1.frozen 1
   have g2:=Jr1.frozen 2
   have g3:=Jr1.frozen 3
   have g4:=Jr1.frozen 4
   go_wp2_with fail
   exact of_ret rfl rfl (blk_set5 Jr1 _ _ _ _ _) (hBad.out _ (below_set5 (B0.trans (hb1.mono (by simp; omega))) (by omega) _ _ _ _ _) (by omega))
  by_cases hm2:most > 1024
  ·have hm1':¬ most < 1:=hm1
   go_enter Tryz.func10,Tryz.ntmps10
   go_wp2_with fail
   refine HC.out.mono ?_
   rintro e w1 ⟨rfl,hb1⟩
   have Jr1:=Jr.below hb1 Jr.lt
   have r0:=Jr1.cell 0
   have r1:=Jr1.cell 1
   have r2:=Jr1.cell 2
   have r3:=Jr1.cell 3
   have r4:=Jr1.cell 4
   have g0:=Jr1.frozen 0
   have g1:=Jr1.frozen 1
   have g2:=Jr1.frozen 2
   have g3:=Jr1.frozen 3
   have g4:=Jr1.frozen 4
   go_wp2_with fail
   exact of_ret rfl rfl (blk_set5 Jr1 _ _ _ _ _) (hBad.out _ (below_set5 (B0.trans (hb1.mono (by simp; omega))) (by omega) _ _ _ _ _) (by omega))
  ·obtain ⟨mo,rfl⟩:=Int.eq_ofNat_of_zero_le (show 0≤most by omega)
   have HTr:=Lib.hid (fun W (hb:Below w.heap.size w W) => trim_any t _ B W (HSt'.below (hb.mono hB)) (Nat.le_trans hB hb.size))
   go_enter Tryz.func10,Tryz.ntmps10
   go_wp2_with fail
   refine HC.out.mono ?_
   rintro e w1 ⟨rfl,hb1⟩
   have Ja1:=Ja.below hb1 Ja.lt
   have Jr1:=Jr.below hb1 Jr.lt
   have hbb1:=B0.trans (hb1.mono (by simp; omega))
   have j0:=Ja1.cell 0
   have j1:=Ja1.cell 1
   have j2:=Ja1.cell 2
   have j3:=Ja1.cell 3
   clear Ja Jr
   go_wp2_with fail
   refine (HTr.out w1 hbb1).mono ?_
   rintro e w2 ⟨u,r,⟨vu,rfl,hU,hnew,hb2⟩,hr1,_,hr3⟩
   obtain rfl:=hr3 hck
   obtain ⟨_,hcku,f,htr⟩:=hr1 rfl
   obtain ⟨B1,d1,B2,d2,B3,d3,rfl,e1,e2,e3,e4,e5,e6,e7,e8,U1,V1,U2,V2,U3,V3⟩:=hU
   obtain ⟨_,D1,nn1,_,D2,nn2,_,D3,nn3,_,hv0,f1,f2,f3⟩:=hnew
   have hv0:B1 = D1∧B2 = D2∧B3 = D3∧u.starts.length = nn1∧u.ends.length = nn2∧u.arcs.length = nn3:=by simp at hv0; obtain ⟨_,⟨a,b,_⟩,⟨c,d,_⟩,e,f,_⟩:=hv0; exact ⟨a,c,e,b,d,f⟩
   obtain ⟨rfl,rfl,rfl,rfl,rfl,rfl⟩:=hv0
   obtain ⟨s1,s2,s3,s4,s5,s6,s7,s8⟩:=fck_nums hcku
   obtain ⟨n,hn⟩:∃ n:Nat,u.n = (n:Int):=⟨u.n.toNat,(Int.toNat_of_nonneg s1).symm⟩
   have hlt1:w.heap.size < w1.heap.size:=Ja1.lt
   have Ja2:=Ja1.below hb2 Ja1.lt
   have Jr2:=Jr1.below hb2 Jr1.lt
   have hbb2:=hbb1.trans (hb2.mono hbb1.size)
   have k0:=Ja2.cell 0
   have k1:=Ja2.cell 1
   have k2:=Ja2.cell 2
   have k3:=Ja2.cell 3
   have l0:=Ja2.frozen 0
   have l1:=Ja2.frozen 1
   have l2:=Ja2.frozen 2
   have l3:=Ja2.frozen 3
   have hmm:=@run_makeMap Tryz.prog
   go_upto_region 7 with (fail)
   have hz4:((((w2.setCell ⟨w.heap.size,0,none⟩ (.int .i64 (n:Int))).setCell ⟨w.heap.size,1,none⟩ (.slice B1 u.starts.length d1)).setCell ⟨w.heap.size,2,none⟩ (.slice B2 u.ends.length d2)).setCell ⟨w.heap.size,3,none⟩ (.slice B3 u.arcs.length d3)).heap.size = w2.heap.size:=by simp
   have Ja4:Blk ((((w2.setCell ⟨w.heap.size,0,none⟩ (.int .i64 (n:Int))).setCell ⟨w.heap.size,1,none⟩ (.slice B1 u.starts.length d1)).setCell ⟨w.heap.size,2,none⟩ (.slice B2 u.ends.length d2)).setCell ⟨w.heap.size,3,none⟩ (.slice B3 u.arcs.length d3)) w.heap.size 32 #[.int .i64 (n:Int),.slice B1 u.starts.length d1,.slice B2 u.ends.length d2,.slice B3 u.arcs.length d3]:=(((Ja2.set_ 0 _).set_ 1 _).set_ 2 _).set_ 3 _
   have hqn:w.heap.size + 1≠w.heap.size:=by omega
   have Jr4:=(((Jr2.far (p:=⟨w.heap.size,0,none⟩) hqn (.int .i64 (n:Int))).far (p:=⟨w.heap.size,1,none⟩) hqn (.slice B1 u.starts.length d1)).far (p:=⟨w.heap.size,2,none⟩) hqn (.slice B2 u.ends.length d2)).far (p:=⟨w.heap.size,3,none⟩) hqn (.slice B3 u.arcs.length d3)
   have hbb4:=(((hbb2.setCell (p:=⟨w.heap.size,0,none⟩) (Nat.le_refl _) (.int .i64 (n:Int))).setCell (p:=⟨w.heap.size,1,none⟩) (Nat.le_refl _) (.slice B1 u.starts.length d1)).setCell (p:=⟨w.heap.size,2,none⟩) (Nat.le_refl _) (.slice B2 u.ends.length d2)).setCell (p:=⟨w.heap.size,3,none⟩) (Nat.le_refl _) (.slice B3 u.arcs.length d3)
   have U1':=(((U1.freshSet f1 (p:=⟨w.heap.size,0,none⟩) hlt1 (.int .i64 (n:Int))).freshSet f1 (p:=⟨w.heap.size,1,none⟩) hlt1 (.slice B1 u.starts.length d1)).freshSet f1 (p:=⟨w.heap.size,2,none⟩) hlt1 (.slice B2 u.ends.length d2)).freshSet f1 (p:=⟨w.heap.size,3,none⟩) hlt1 (.slice B3 u.arcs.length d3)
   have U2':=(((U2.freshSet f2 (p:=⟨w.heap.size,0,none⟩) hlt1 (.int .i64 (n:Int))).freshSet f2 (p:=⟨w.heap.size,1,none⟩) hlt1 (.slice B1 u.starts.length d1)).freshSet f2 (p:=⟨w.heap.size,2,none⟩) hlt1 (.slice B2 u.ends.length d2)).freshSet f2 (p:=⟨w.heap.size,3,none⟩) hlt1 (.slice B3 u.arcs.length d3)
   have U3':=(((U3.freshSet f3 (p:=⟨w.heap.size,0,none⟩) hlt1 (.int .i64 (n:Int))).freshSet f3 (p:=⟨w.heap.size,1,none⟩) hlt1 (.slice B1 u.starts.length d1)).freshSet f3 (p:=⟨w.heap.size,2,none⟩) hlt1 (.slice B2 u.ends.length d2)).freshSet f3 (p:=⟨w.heap.size,3,none⟩) hlt1 (.slice B3 u.arcs.length d3)
   clear k0 k1 k2 k3 l0 l1 l2 l3 Ja1 Jr1 Ja2 Jr2 hbb1 hbb2 U1 U2 U3 f1 f2 f3 hb1 hb2 hcka hcka1 HC B0
   generalize ((((w2.setCell ⟨w.heap.size,0,none⟩ (.int .i64 (n:Int))).setCell ⟨w.heap.size,1,none⟩ (.slice B1 u.starts.length d1)).setCell ⟨w.heap.size,2,none⟩ (.slice B2 u.ends.length d2)).setCell ⟨w.heap.size,3,none⟩ (.slice B3 u.arcs.length d3)) = W4 at *
   generalize w2.heap.size = K at *
   have HV:=Lib.hid (And.intro V1 (And.intro V2 V3))
   have HS:=Lib.hid (And.intro s6 (And.intro s7 s8))
   clear V1 V2 V3 s6 s7 s8
   obtain ⟨Sx,hSdef⟩:∃ Sx:World→Prop,Sx = fun W => Blk W w.heap.size 32 #[.int .i64 (n:Int),.slice B1 u.starts.length d1,.slice B2 u.ends.length d2,.slice B3 u.arcs.length d3]:=⟨_,rfl⟩
   have hSi:=fun W x1 => show Sx W by rw [hSdef]; exact x1
   have hSo:=fun W (h:Sx W) => show Blk W w.heap.size 32 #[.int .i64 (n:Int),.slice B1 u.starts.length d1,.slice B2 u.ends.length d2,.slice B3 u.arcs.length d3] by rw [hSdef] at h; exact h
   have y0:=fun p:Held Sx => (hSo p.w p.2).cell 0
   clear hSdef
   have hKw:w.heap.size + 1 < K:=by have:=Jr4.lt; omega
   have LBm:=(Below.refl K W4).alloc (by omega) (.map #[] 0)
   have LBm2:=LBm.alloc (by simp; omega) (.cells (mk0 nilV (mo:Int) K) 78)
   have hbox:Blk ((W4.alloc (.map #[] 0)).alloc (.cells (mk0 nilV (mo:Int) K) 78)) (K + 1) 78 (mk0 nilV (mo:Int) K):=by
    have:=Blk.new (W4.alloc (.map #[] 0)) 78 (mk0 nilV (mo:Int) K)
    rw [World.size_alloc,hz4] at this
    exact this
   have hnum:Num ((W4.alloc (.map #[] 0)).alloc (.cells (mk0 nilV (mo:Int) K) 78)) K []:=by
    have:=(Num.made W4).below ((Below.refl _ (W4.alloc (.map #[] 0))).alloc (Nat.le_refl _) (.cells (mk0 nilV (mo:Int) K) 78)) (Nat.le_refl _)
    rw [hz4] at this
    exact this
   have hS0:Sx ((W4.alloc (.map #[] 0)).alloc (.cells (mk0 nilV (mo:Int) K) 78)).drew:=hSi _ ((Ja4.alloc _).alloc _)
   have hNe:Nonempty (Held Sx):=⟨⟨_,hS0⟩⟩
   obtain ⟨iA,a1,a2,a3,a4⟩:=info_parts slArc_info
   obtain ⟨iE,b1,b2,b3,b4⟩:=info_parts slS_info
   have hn1024:n≤1024:=by omega
   refine fields_below (B0:=K) (G:=K + 1) (MB:=K) (n:=n) (most:=(mo:Int)) Sx (by kernel_rfl) (by kernel_rfl) a1 a2 a3 a4 b1 b2 b3 b4 hn1024 rfl rfl rfl rfl rfl rfl rfl rfl rfl ?_ ?_ ?_ hS0 (fun W W' h hb => hSi _ ((hSo _ h).below hb (hSo _ h).lt)) (fun W v h => hSi _ ((hSo _ h).far (p:=⟨K + 1,0,none⟩) (by show w.heap.size≠K + 1; omega) v)) ?_
   ·intro a W KK ha hk
    unfold Oper.wp
    simp only [execOp,ha]
    simp [go_sem]
    exact hk
   ·intro a W KK ha hk
    unfold Oper.wp
    simp only [execOp,ha]
    simp [go_sem]
    exact hk
   ·intro a W KK LA ha hb hc hf hk
    unfold Oper.wp
    simp only [execOp,ha,hb]
    simp [go_sem,hc,hf]
    exact hk
   ·simp only [pickOps,List.getElem?_cons_zero,List.getElem?_cons_succ]
    repeat (go_big_quiet_step (fail))
    refine wpQuiet_nil ?_
    clear y0
    refine FldGoal.start _ ⟨by show 46 < 107; decide,rfl,rfl,rfl⟩ (Nat.le_succ _) hbox hS0 ?_
    intro LA LE W hbW hszW hkW hoA hoE hbxW
    have hzm:((W4.alloc (.map #[] 0)).alloc (.cells (mk0 nilV (mo:Int) K) 78)).heap.size = K + 1 + 1:=by simp; omega
    rw [hzm] at hoA hoE hszW
    have hne1:LE≠K + 1:=by have:=(own_lt hoE LE rfl).1; omega
    have hne2:LA≠K + 1:=by have:=(own_lt hoA LA rfl).1; omega
    have hbx5:=hbxW.set_ 1 (.slice (some ⟨LE,0,none⟩) n n)
    have hW:Below W4.heap.size W4 W:=by rw [hz4]; exact LBm2.trans hbW
    have hnumW:Num W K []:=hnum.kept (row:=some (K + 1)) ⟨hbW.os,hbW.tape,hbW.output,by rw [hzm]; exact hszW,fun g hg hn => hkW g hg (fun e => hn (congrArg some e))⟩ (fun e => by have:=Option.some.inj e; omega)
    have HO0:OfW W4 (W.setCell ⟨K + 1,1,none⟩ (.slice (some ⟨LE,0,none⟩) n n)) (K + 1) K LA LE n (mo:Int) (List.replicate n nilV) (List.replicate n nilV) (arcsK u.arcs 0) (endsK u.ends 0):={
     box:=hbx5
     num:=hnumW.setCell (p:=⟨K + 1,1,none⟩) (by show K + 1≠K; omega) _
     gA:=grp_nils (own_base (own_setCell hoA (p:=⟨K + 1,1,none⟩) (fun e => hne2 (Option.some.inj e)) _) (by omega)) (fun _ => rfl)
     gE:=grp_nils (own_base (own_setCell hoE (p:=⟨K + 1,1,none⟩) (fun e => hne1 (Option.some.inj e)) _) (by omega)) (fun _ => rfl)
     lG:=by omega
     lM:=by omega
     bel:=hW.setCell (p:=⟨K + 1,1,none⟩) (by show W4.heap.size≤K + 1; omega) _ }
    have m1':=hbxW.cell 1
    have m2':=hbxW.frozen 1
    have hJa:=Ja4.below HO0.bel Ja4.lt
    have k3:=hJa.cell 3
    have HO0':=Lib.hid HO0
    clear hbx5 hnumW hW hbW hkW hoA hoE hszW hbxW HO0 hbox hnum LBm LBm2 hJa hS0 hSi hSo hNe a1 a2 a3 a4 b1 b2 b3 b4
    simp only [Act.put]
    go_wp2
    refine NoPanic.normal ?_
    generalize W.setCell ⟨K + 1,1,none⟩ (.slice (some ⟨LE,0,none⟩) n n) = W5 at *
    clear m1' m2'
    generalize hla:u.arcs.length = na at *
    have HLA:=Lib.hid hla
    clear hla
    generalize hle:u.ends.length = ne at *
    have HLE:=Lib.hid hle
    clear hle
    go_wp2
    clear k3
    go_loopw [52] (fun i wr => ∃ (k:Nat) (vA vE:List Value),k≤na∧i = .int .i64 ((k:Nat):Int)∧OfW W4 wr (K + 1) K LA LE n (mo:Int) vA vE (arcsK u.arcs k) (endsK u.ends 0)) (fun i _ => na - (intOf i).toNat)
    case atStart => exact ⟨0,_,_,Nat.zero_le _,rfl,HO0'.out⟩
    case round =>
     clear HO0'
     obtain ⟨k,vA,vE,hk,rfl,HO⟩:=hrel
     by_cases hlt:k < na
     ·have hi1:(0:Int)≤(k:Int):=by omega
      have hi2:(k:Int) < (na:Int):=by omega
      obtain ⟨g3,o3,rfl,hg3,a0,a1,a2,a3,a4,a5,a6,a7⟩:=arc_cell (U3'.below (HO.bel.mono (by omega))) k hlt
      have hkl:k < u.arcs.length:=by have:=HLA.out; omega
      have hx:=HS.out.2.2 _ (getD_in u.arcs ar0 k hkl)
      obtain ⟨s,hs⟩:∃ s:Nat,(u.arcs.getD k ar0).fr = (s:Int):=⟨_,(Int.toNat_of_nonneg hx.1).symm⟩
      have hsn:s < n:=by omega
      have hsucc:=Lib.hid (arcsK_succ u.arcs k hkl)
      have hrl:(arcsK u.arcs k s).length≤16384:=Nat.le_trans (arcsK_len u.arcs k s) (by have:=HLA.out; omega)
      clear hx
      generalize arcsK u.arcs k = rows at *
      generalize u.arcs.getD k ar0 = x at *
      obtain ⟨fr,tt,⟨s1',s2',s3',s4'⟩,q,cp⟩:=x
      simp only at hs a0 a1 a2 a3 a4 a5 a6 a7
      subst hs
      have hi3:(0:Int)≤(s:Int):=by omega
      have hi4:(s:Int) < (n:Int):=by omega
      have HBa:=HO.call ((Below.refl wr.heap.size wr).alloc (Nat.le_refl _) (.cells #[.int .i64 (s:Int),.int .i64 tt,.int .u64 s1',.int .u64 s2',.int .u64 s3',.int .u64 s4',.string q,.bool cp] 61))
      have HG:=Blk.new wr 61 #[.int .i64 (s:Int),.int .i64 tt,.int .u64 s1',.int .u64 s2',.int .u64 s3',.int .u64 s4',.string q,.bool cp]
      have hszr:=HO.bel.size
      have hvlt:=fun g (e:(vA.getD s nilV).ownBlock = some g) => (own_lt (HO.gA.row s hsn) g e).2
      clear HO
      go_wp2
      clear a0 a1 a2 a3 a4 a5 a6 a7
      generalize hgx:wr.heap.size = gx at *
      have hsa:(wr.alloc (.cells #[.int .i64 (s:Int),.int .i64 tt,.int .u64 s1',.int .u64 s2',.int .u64 s3',.int .u64 s4',.string q,.bool cp] 61)).heap.size = gx + 1:=by rw [World.size_alloc,hgx]
      generalize (wr.alloc (.cells #[.int .i64 (s:Int),.int .i64 tt,.int .u64 s1',.int .u64 s2',.int .u64 s3',.int .u64 s4',.string q,.bool cp] 61)) = wa at *
      have hrow:=HBa.gA.row s hsn
      obtain ⟨Av,cv,hv,hv1,hv2,hv3⟩:=own_form hrow
      have hcl:=own_cellAt HBa.gA.own s hsn nilV
      rw [hv] at hcl
      obtain ⟨S,hSdef⟩:∃ S:World→Prop,S = fun W => Blk W gx 61 #[.int .i64 (s:Int),.int .i64 tt,.int .u64 s1',.int .u64 s2',.int .u64 s3',.int .u64 s4',.string q,.bool cp]∧Blk W (K + 1) 78 (mkCells (.slice (some ⟨LA,0,none⟩) n n) (.slice (some ⟨LE,0,none⟩) n n) (mo:Int) K ⟨#[]⟩ nilV nilV nilV nilV nilV)∧W.cell? ⟨LA,s,none⟩ = some (.slice Av (rows s).length cv):=⟨_,rfl⟩
      have hSi:=fun W h1 h2 h3 => show S W by rw [hSdef]; exact ⟨h1,h2,h3⟩
      have hSo:=fun W (h:S W) => show Blk W gx 61 #[.int .i64 (s:Int),.int .i64 tt,.int .u64 s1',.int .u64 s2',.int .u64 s3',.int .u64 s4',.string q,.bool cp]∧Blk W (K + 1) 78 (mkCells (.slice (some ⟨LA,0,none⟩) n n) (.slice (some ⟨LE,0,none⟩) n n) (mo:Int) K ⟨#[]⟩ nilV nilV nilV nilV nilV)∧W.cell? ⟨LA,s,none⟩ = some (.slice Av (rows s).length cv) by rw [hSdef] at h; exact h
      have z0:=fun p:Held S => (hSo p.w p.2).1.cell 0
      have z1:=fun p:Held S => (hSo p.w p.2).1.cell 1
      have z2:=fun p:Held S => (hSo p.w p.2).1.cell 2
      have z3:=fun p:Held S => (hSo p.w p.2).1.cell 3
      have z4:=fun p:Held S => (hSo p.w p.2).1.cell 4
      have z5:=fun p:Held S => (hSo p.w p.2).1.cell 5
      have z6:=fun p:Held S => (hSo p.w p.2).1.cell 6
      have z7:=fun p:Held S => (hSo p.w p.2).1.cell 7
      have zG:=fun p:Held S => (hSo p.w p.2).2.1.cell 0
      have zL:=fun p:Held S => (hSo p.w p.2).2.2
      have hS0:S wa.drew:=hSi _ HG HBa.box hcl
      clear hSdef
      have hNe:Nonempty (Held S):=⟨⟨_,hS0⟩⟩
      go_wp2
      refine wp_region_hold_at S 17 [0,1,2,3,4,5,6,7,8,9,10,11,12,13,14] [15,16] (by kernel_rfl) (by kernel_rfl) rfl (by kernel_rfl) hS0 ?_
      simp only [pickOps,List.getElem?_cons_zero,List.getElem?_cons_succ,List.drop_succ_cons,List.drop_zero]
      repeat (go_big_quiet_step (fail))
      refine wpQuiet_nil ?_
      clear z0 z1 z2 z3 z4 z5 z6 z7 zL zG
      refine wpForce_step rfl (fun KK hKK => ?_)
      go_simp
      have LA2:Below wa.heap.size wa (wa.drew.alloc (.cells #[.int .i64 (s:Int),.int .i64 tt,.int .u64 s1',.int .u64 s2',.int .u64 s3',.int .u64 s4',.string q,.bool cp] 61)):=(Below.refl _ wa).drew.alloc (Nat.le_refl _) _
      have HG2:=HG.below LA2 (by omega)
      have HB2:=HBa.call LA2
      have hcl2:=own_cellAt HB2.gA.own s hsn nilV
      rw [hv] at hcl2
      refine hKK _ _ (HeldIn.of (hSi _ HG2 HB2.box hcl2)) ?_
      clear hKK KK
      have hrd:=reads_allocK wa.drew [.int .i64 (s:Int),.int .i64 tt,.int .u64 s1',.int .u64 s2',.int .u64 s3',.int .u64 s4',.string q,.bool cp] 61 8 1 rfl
      rw [show wa.drew.heap.size = gx + 1 from hsa] at hrd
      have hrow2:=HB2.gA.row s hsn
      rw [hv] at hrow2
      have hone:=encA_one ⟨(s:Int),tt,⟨s1',s2',s3',s4'⟩,q,cp⟩
      have h63:(rows s).length + 1≤maxLen:=by unfold maxLen; omega
      have hby:((rows s).length + 1) * 72≤140737488355328:=by omega
      have hbs:W4.heap.size≤(wa.drew.alloc (.cells #[.int .i64 (s:Int),.int .i64 tt,.int .u64 s1',.int .u64 s2',.int .u64 s3',.int .u64 s4',.string q,.bool cp] 61)).heap.size:=HB2.bel.size
      obtain ⟨ia,hia,hya0,hya1,hya2⟩:=info_parts arc_info
      refine wpForce_step rfl (fun KK hKK => ?_)
      refine wp_append_any _ _ _ 30 rfl W4.heap.size 61 ia _ 8 72 Tryz.underlying30 hia hya0 hya1 hya2 rfl (by decide) _ _ _ rfl hrow2 _ (some ⟨gx + 1,0,none⟩) 1 1 [.int .i64 (s:Int),.int .i64 tt,.int .u64 s1',.int .u64 s2',.int .u64 s3',.int .u64 s4',.string q,.bool cp] rfl hrd hone h63 hby hbs ?_
      intro v' w5 hown hgrow hloc
      have hgrow':=hgrow
      rw [← hv] at hgrow'
      have HW:=HB2.putA s hsn ⟨(s:Int),tt,⟨s1',s2',s3',s4'⟩,q,cp⟩ hgrow' hown (by rw [hv]; exact hloc)
      have k5:=HB2.gA.own.kept hgrow' (apart_types HB2.gA.own (HB2.gA.row s hsn) (by decide)).or_none
      have hcl5:=own_cellAt k5 s hsn nilV
      have hfz5:=own_frozenAt k5 s
      rw [hv] at hcl5
      have HG5:=blk_keep HG2 hgrow (fun e => by have:=hvlt gx (by rw [hv]; exact e); omega)
      have HM5:=blk_keep HB2.box hgrow' (own_blk (HB2.gA.row s hsn) HB2.box (by decide))
      refine hKK _ _ (HeldIn.of (hSi _ HG5 HM5 hcl5)) ?_
      clear hKK KK
      obtain ⟨Av2,cv2,rfl,_,_,_⟩:=own_form hown
      clear hown hgrow hgrow' hloc hrd hrow2 HG2 HG5 HG HB2 HBa hSi hSo hS0 k5 LA2 hcl hcl2 HM5 hvlt
      refine wpForce_nil ?_
      go_wp2
      refine NoPanic.normal ?_
      clear hcl5 hfz5
      go_wp2
      go_roundw
      case rel =>
       refine ⟨k + 1,vA.set s (.slice Av2 ((rows s).length + 1) cv2),vE,by omega,by go_num,?_⟩
       have e:arcsK u.arcs (k + 1) = fun z => if z = s then rows s ++ [(⟨(s:Int),tt,⟨s1',s2',s3',s4'⟩,q,cp⟩:Ar)] else rows z:=by
        funext z
        rw [hsucc.out z]
        by_cases hu:z = s
        ·subst hu; rw [if_pos rfl,if_pos rfl]
        ·rw [if_neg (show ¬ ((z:Int) = (s:Int)) by omega),if_neg hu]
       rw [e]
       exact HW
      case measure => simp [intOf]; omega
     ·obtain rfl:na = k:=by omega
      have hAll:arcsK u.arcs na = arcsO u.arcs:=by rw [← HLA.out]; exact arcsK_all _
      rw [hAll] at HO
      have HO1:=Lib.hid HO
      have hJa:=Ja4.below HO.bel Ja4.lt
      have k2:=hJa.cell 2
      clear hAll hJa HO
      go_wp2
      clear k2
      go_loopw [78] (fun i wr => ∃ (k:Nat) (vA vE:List Value),k≤ne∧i = .int .i64 ((k:Nat):Int)∧OfW W4 wr (K + 1) K LA LE n (mo:Int) vA vE (arcsO u.arcs) (endsK u.ends k)) (fun i _ => ne - (intOf i).toNat)
      case atStart => exact ⟨0,_,_,Nat.zero_le _,rfl,HO1.out⟩
      case round =>
       clear HO1 vA vE
       obtain ⟨k,vA,vE,hk,rfl,HO⟩:=hrel
       by_cases hlt:k < ne
       ·have hi1:(0:Int)≤(k:Int):=by omega
        have hi2:(k:Int) < (ne:Int):=by omega
        obtain ⟨g3,o3,rfl,hg3,a0,a1⟩:=tip_cell (U2'.below (HO.bel.mono (by omega))) k hlt
        have hkl:k < u.ends.length:=by have:=HLE.out; omega
        have hx:=HS.out.2.1 _ (getD_in u.ends tp0 k hkl)
        obtain ⟨s,hs⟩:∃ s:Nat,(u.ends.getD k tp0).st = (s:Int):=⟨_,(Int.toNat_of_nonneg hx.1).symm⟩
        have hsn:s < n:=by omega
        have hsucc:=Lib.hid (endsK_succ u.ends k hkl)
        have hrl:(endsK u.ends k s).length≤1024:=Nat.le_trans (endsK_len u.ends k s) (by have:=HLE.out; omega)
        clear hx
        generalize endsK u.ends k = rows at *
        generalize u.ends.getD k tp0 = x at *
        obtain ⟨fr,q⟩:=x
        simp only at hs a0 a1
        subst hs
        have hi3:(0:Int)≤(s:Int):=by omega
        have hi4:(s:Int) < (n:Int):=by omega
        have HBa:=HO.call ((Below.refl wr.heap.size wr).alloc (Nat.le_refl _) (.cells #[.int .i64 (s:Int),.string q] 54))
        have HG:=Blk.new wr 54 #[.int .i64 (s:Int),.string q]
        have hszr:=HO.bel.size
        have hvlt:=fun g (e:(vE.getD s nilV).ownBlock = some g) => (own_lt (HO.gE.row s hsn) g e).2
        clear HO
        go_wp2
        clear a0 a1
        generalize hgx:wr.heap.size = gx at *
        have hsa:(wr.alloc (.cells #[.int .i64 (s:Int),.string q] 54)).heap.size = gx + 1:=by rw [World.size_alloc,hgx]
        generalize (wr.alloc (.cells #[.int .i64 (s:Int),.string q] 54)) = wa at *
        have hrow:=HBa.gE.row s hsn
        obtain ⟨Av,cv,hv,hv1,hv2,hv3⟩:=own_form hrow
        have hcl:=own_cellAt HBa.gE.own s hsn nilV
        rw [hv] at hcl
        obtain ⟨S,hSdef⟩:∃ S:World→Prop,S = fun W => Blk W gx 54 #[.int .i64 (s:Int),.string q]∧Blk W (K + 1) 78 (mkCells (.slice (some ⟨LA,0,none⟩) n n) (.slice (some ⟨LE,0,none⟩) n n) (mo:Int) K ⟨#[]⟩ nilV nilV nilV nilV nilV)∧W.cell? ⟨LE,s,none⟩ = some (.slice Av (rows s).length cv):=⟨_,rfl⟩
        have hSi:=fun W h1 h2 h3 => show S W by rw [hSdef]; exact ⟨h1,h2,h3⟩
        have hSo:=fun W (h:S W) => show Blk W gx 54 #[.int .i64 (s:Int),.string q]∧Blk W (K + 1) 78 (mkCells (.slice (some ⟨LA,0,none⟩) n n) (.slice (some ⟨LE,0,none⟩) n n) (mo:Int) K ⟨#[]⟩ nilV nilV nilV nilV nilV)∧W.cell? ⟨LE,s,none⟩ = some (.slice Av (rows s).length cv) by rw [hSdef] at h; exact h
        have z0:=fun p:Held S => (hSo p.w p.2).1.cell 0
        have z1:=fun p:Held S => (hSo p.w p.2).1.cell 1
        have zG:=fun p:Held S => (hSo p.w p.2).2.1.cell 1
        have zL:=fun p:Held S => (hSo p.w p.2).2.2
        have hS0:S wa.drew:=hSi _ HG HBa.box hcl
        clear hSdef
        have hNe:Nonempty (Held S):=⟨⟨_,hS0⟩⟩
        go_wp2
        refine wp_region_hold_at S 18 [0,1,2,3,4,5,6,7,8,9,10,11,12,13,14,15] [16,17] (by kernel_rfl) (by kernel_rfl) rfl (by kernel_rfl) hS0 ?_
        simp only [pickOps,List.getElem?_cons_zero,List.getElem?_cons_succ,List.drop_succ_cons,List.drop_zero]
        repeat (go_big_quiet_step (fail))
        refine wpQuiet_nil ?_
        clear z0 z1 zL zG
        refine wpForce_step rfl (fun KK hKK => ?_)
        go_simp
        have LA2:Below wa.heap.size wa (wa.drew.alloc (.cells #[.string q] 9)):=(Below.refl _ wa).drew.alloc (Nat.le_refl _) _
        have HG2:=HG.below LA2 (by omega)
        have HB2:=HBa.call LA2
        have hcl2:=own_cellAt HB2.gE.own s hsn nilV
        rw [hv] at hcl2
        refine hKK _ _ (HeldIn.of (hSi _ HG2 HB2.box hcl2)) ?_
        clear hKK KK
        have hrd:=reads_allocK wa.drew [.string q] 9 1 1 rfl
        rw [show wa.drew.heap.size = gx + 1 from hsa] at hrd
        have hrow2:=HB2.gE.row s hsn
        rw [hv] at hrow2
        have hone:=encO_one q
        have h63:(rows s).length + 1≤maxLen:=by unfold maxLen; omega
        have hby:((rows s).length + 1) * 16≤140737488355328:=by omega
        have hbs:W4.heap.size≤(wa.drew.alloc (.cells #[.string q] 9)).heap.size:=HB2.bel.size
        obtain ⟨ia,hia,hya0,hya1,hya2⟩:=info_parts str_infoS
        refine wpForce_step rfl (fun KK hKK => ?_)
        refine wp_append_any _ _ _ 25 rfl W4.heap.size 9 ia _ 1 16 Tryz.underlying25 hia hya0 hya1 hya2 rfl (by decide) _ _ _ rfl hrow2 _ (some ⟨gx + 1,0,none⟩) 1 1 [.string q] rfl hrd hone h63 hby hbs ?_
        intro v' w5 hown hgrow hloc
        have hgrow':=hgrow
        rw [← hv] at hgrow'
        have HW:=HB2.putE s hsn q hgrow' hown (by rw [hv]; exact hloc)
        have k5:=HB2.gE.own.kept hgrow' (apart_types HB2.gE.own (HB2.gE.row s hsn) (by decide)).or_none
        have hcl5:=own_cellAt k5 s hsn nilV
        have hfz5:=own_frozenAt k5 s
        rw [hv] at hcl5
        have HG5:=blk_keep HG2 hgrow' (own_blk (HB2.gE.row s hsn) HG2 (by decide))
        have HM5:=blk_keep HB2.box hgrow' (own_blk (HB2.gE.row s hsn) HB2.box (by decide))
        refine hKK _ _ (HeldIn.of (hSi _ HG5 HM5 hcl5)) ?_
        clear hKK KK
        obtain ⟨Av2,cv2,rfl,_,_,_⟩:=own_form hown
        clear hown hgrow hgrow' hloc hrd hrow2 HG2 HG5 HG HB2 HBa hSi hSo hS0 k5 LA2 hcl hcl2 HM5 hvlt
        refine wpForce_nil ?_
        go_wp2
        refine NoPanic.normal ?_
        clear hcl5 hfz5
        go_wp2
        go_roundw
        case rel =>
         refine ⟨k + 1,vA,vE.set s (.slice Av2 ((rows s).length + 1) cv2),by omega,by go_num,?_⟩
         have e:endsK u.ends (k + 1) = fun z => if z = s then rows s ++ [q] else rows z:=by
          funext z
          rw [hsucc.out z]
          by_cases hu:z = s
          ·subst hu; rw [if_pos rfl,if_pos rfl]
          ·rw [if_neg (show ¬ ((z:Int) = (s:Int)) by omega),if_neg hu]
         rw [e]
         exact HW
        case measure => simp [intOf]; omega
       ·obtain rfl:ne = k:=by omega
        have hE:endsK u.ends ne = endO u.ends:=by rw [← HLE.out]; exact endsK_all _
        rw [hE] at HO
        have hsb:=HO.bel.size
        have hJa:=Ja4.below HO.bel Ja4.lt
        have hJr:=Jr4.below HO.bel Jr4.lt
        have hS1:=HS.out.1
        have hall:=all_any (most:=mo) u LA LE n u.starts.length ne na d1 d2 d3 B1 B2 B3 wr HO.box HO.num (Nat.le_succ _) (Nat.le_refl _) ((U1'.below (HO.bel.mono (by omega))).more (by omega)) HO.pA HO.pE
         (((hP.below hbb4).mono (show w.heap.size≤K by omega)).below (HO.bel.mono (by omega))) (htr.right (fckB_right hck)) (by omega) (by omega) hn1024
         ⟨s4,fun x hx => ⟨(hS1 x hx).1,by have:=(hS1 x hx).2.1; omega,(hS1 x hx).2.2⟩⟩
         ⟨by rw [HLA.out]; exact s3,fun x hx => ⟨(HS.out.2.2 x hx).2.2.2.2,(HV.out.2.2 x hx).2.2.2.2.1,(HS.out.2.2 x hx).2.2.1,by have:=(HS.out.2.2 x hx).2.2.2.1; omega⟩⟩
         ⟨by rw [HLE.out]; exact s5,fun x hx => (HS.out.2.1 x hx).2.2⟩
        have HAll:=Lib.hid hall
        have hbw:=hbb4.trans (HO.bel.mono (by have:=hbb4.size; omega))
        have k0:=hJa.cell 0
        have k1:=hJa.cell 1
        have k2:=hJa.cell 2
        have k3:=hJa.cell 3
        clear hall hE HO hS1
        have hKq:w.heap.size + 1 < K:=hKw
        have HT:=Lib.hid (And.intro htr hcku)
        clear htr hcku hr1 hr3
        go_wp2_with fail
        refine HAll.out.mono ?_
        rintro e w9 ⟨hb9,hsp⟩
        have Jr9:=hJr.below hb9 hKq
        have r0:=Jr9.cell 0
        have r1:=Jr9.cell 1
        have r2:=Jr9.cell 2
        have r3:=Jr9.cell 3
        have r4:=Jr9.cell 4
        have g0:=Jr9.frozen 0
        have g1:=Jr9.frozen 1
        have g2:=Jr9.frozen 2
        have g3':=Jr9.frozen 3
        have g4:=Jr9.frozen 4
        have hbw9:=hbw.trans (hb9.mono (by omega))
        rcases haf:allF u mo with ek | q
        ·rw [haf] at hsp
         subst hsp
         have hfin:=Lib.hid (fun (W':World) (hb:Below w.heap.size w W') => show OfPost t (mo:Int) w (.returned (.tuple #[.agg #[.string ⟨#[]⟩,.slice none 0 0,.slice none 0 0,.slice none 0 0,.slice none 0 0],.int .i64 ek])) W' from
          ⟨hb,_,seq0,ek,rfl,seqNew_nil _ _,fun _ => rfl,fun hn => (hn ⟨hck,hm1,by omega⟩).elim,fun _ _ _ => ⟨u,f,HT.out.1,HT.out.2,by rw [Int.toNat_natCast,haf]⟩⟩)
         clear haf
         go_wp2
         exact of_ret rfl rfl (blk_set5 Jr9 _ _ _ _ _) (hfin.out _ (below_set5 hbw9 (by omega) _ _ _ _ _))
        ·rw [haf] at hsp
         obtain ⟨v,rfl,hq⟩:=hsp
         obtain ⟨Q1,y1,Q2,y2,Q3,y3,Q4,y4,rfl,_⟩:=hq.at_
         have hfin:=Lib.hid (fun (W':World) (hb:Below w.heap.size w W') (hq':SeqNew w.heap.size W' q (.agg #[.string q.front,.slice Q1 q.next.length y1,.slice Q2 q.outs.length y2,.slice Q3 q.ends.length y3,.slice Q4 q.tail.length y4])) => show OfPost t (mo:Int) w (.returned (.tuple #[.agg #[.string q.front,.slice Q1 q.next.length y1,.slice Q2 q.outs.length y2,.slice Q3 q.ends.length y3,.slice Q4 q.tail.length y4],.int .i64 0])) W' from
          ⟨hb,_,q,0,rfl,hq',fun h => (h rfl).elim,fun hn => (hn ⟨hck,hm1,by omega⟩).elim,fun _ _ _ => ⟨u,f,HT.out.1,HT.out.2,by rw [Int.toNat_natCast,haf]; exact ⟨rfl,rfl⟩⟩⟩)
         have HQ:=Lib.hid hq
         clear haf hq
         generalize q.front = qf at *
         generalize q.next.length = q1 at *
         generalize q.outs.length = q2 at *
         generalize q.ends.length = q3 at *
         generalize q.tail.length = q4 at *
         go_wp2
         refine of_ret rfl rfl (blk_set5 Jr9 _ _ _ _ _) (hfin.out _ (below_set5 hbw9 (by omega) _ _ _ _ _) ?_)
         have hlt9:w.heap.size + 1 < wr.heap.size:=by omega
         exact (((((HQ.out.setCell (p:=⟨w.heap.size + 1,0,none⟩) hlt9 _).setCell (p:=⟨w.heap.size + 1,1,none⟩) hlt9 _).setCell (p:=⟨w.heap.size + 1,2,none⟩) hlt9 _).setCell (p:=⟨w.heap.size + 1,3,none⟩) hlt9 _).setCell (p:=⟨w.heap.size + 1,4,none⟩) hlt9 _).mono (by omega)
end Go.Proofs.YtcondkihpmmnnaaGreatDoor
namespace Go.Proofs.YtcondkihpmmnnaaGreatDoor
open Go.RowKit Go.Sort
def SmallB (n:Nat) (w:World) (e:Ending) (w':World):Prop:=∃ b,e = .returned (.bool b)∧Below w.heap.size w w'∧(b = true→n≤8)
set_option maxRecDepth 100000 in
set_option maxHeartbeats 4000000 in
theorem small_any (t:Fs) (v:Value) (B:Nat) (w:World) (HS:FstAt w B t v) (hB:B≤w.heap.size) :
    Calls Tryz.prog 12 #[v] w (SmallB t.arcs.length w):=by
 have HS0:=Lib.hid (fun W (hb:Below w.heap.size w W) => few19_any t v B W (HS.below (hb.mono hB)) (Nat.le_trans hB hb.size))
 obtain ⟨A1,c1,A2,c2,A3,c3,rfl,l1,l2,l3,m1,m2,m3,hn1,hn2,R1,W1,R2,W2,R3,W3⟩:=HS
 have HR3:=Lib.hid R3
 have HW3:=Lib.hid (fun (k:Nat) (hk:k < t.arcs.length) => W3 (t.arcs.getD k ar0) (by rw [List.getD_eq_getElem?_getD,List.getElem?_eq_getElem hk]; exact List.getElem_mem _))
 have HP:=Lib.hid (fun (b:Bool) (W:World) (h:Below w.heap.size w W) (hn:b = true→t.arcs.length≤8) => show SmallB t.arcs.length w (.returned (.bool b)) W from ⟨b,rfl,h,hn⟩)
 clear R1 R2 R3 W1 W2 W3
 have K:=Blk.new w 32 #[.int .i64 t.n,.slice A1 t.starts.length c1,.slice A2 t.ends.length c2,.slice A3 t.arcs.length c3]
 have LB:=(Below.refl w.heap.size w).alloc (Nat.le_refl _) (.cells #[.int .i64 t.n,.slice A1 t.starts.length c1,.slice A2 t.ends.length c2,.slice A3 t.arcs.length c3] 32)
 unfold maxLen at *
 generalize t.n = tn at *
 generalize t.starts.length = n1 at *
 generalize t.ends.length = n2 at *
 generalize t.arcs.length = n3 at *
 have f0:=K.cell 0
 have f1:=K.cell 1
 have f2:=K.cell 2
 have f3:=K.cell 3
 have HF:=Lib.hid (HS0.out _ LB)
 have HKh:=Lib.hid (fun (W:World) (hb:Below w.heap.size w W) => hb)
 have hK0:=K
 have hL0:=LB
 clear K LB
 go_enter Tryz.func12,Tryz.ntmps12
 go_wp2_with fail
 refine HF.out.mono ?_
 clear f0 f1 f2 f3 HF HS0
 rintro e w1 ⟨b1,rfl,hb1⟩
 have hK1:=hK0.below (hb1.mono (by simp)) hK0.lt
 have hL1:=hL0.trans (hb1.mono hL0.size)
 clear hb1 hK0 hL0
 have f0:=hK1.cell 0
 have f3:=hK1.cell 3
 have HK:=Lib.hid (And.intro hK1 hL1)
 clear hK1 hL1
 rcases b1 with _ | _
 ·go_wp2
  exact bodyPost_ret (v:=.bool false) (by simp [results,Tryz.results12,go_sem]) rfl (HP.out _ _ HK.out.2 (fun h => by cases h))
 by_cases d1:(4:Int) < tn∧tn≤1024
 ·obtain ⟨d1,d2⟩:=d1
  go_wp2
  exact bodyPost_ret (v:=.bool false) (by simp [results,Tryz.results12,go_sem]) rfl (HP.out _ _ HK.out.2 (fun h => by cases h))
 have hex:(¬ (4:Int) < tn)∨((4:Int) < tn∧¬ tn≤1024):=by omega
 clear d1
 by_cases d8:(8:Int) < (n3:Int)
 ·rcases hex with d1 | ⟨d1,d2⟩
  all_goals
   go_wp2
   exact bodyPost_ret (v:=.bool false) (by simp [results,Tryz.results12,go_sem]) rfl (HP.out _ _ HK.out.2 (fun h => by cases h))
 rcases hex with d1 | ⟨d1,d2⟩
 all_goals
  go_wp2
  clear f0 f3
  go_loopw [3] (fun i wr => ∃ (k:Nat),k≤n3∧i = .int .i64 (k:Int)∧Blk wr w.heap.size 32 #[.int .i64 tn,.slice A1 n1 c1,.slice A2 n2 c2,.slice A3 n3 c3]∧Below w.heap.size w wr) (fun i _ => n3 - (intOf i).toNat)
  case atStart => exact ⟨0,Nat.zero_le _,rfl,HK.out.1,HK.out.2⟩
  case round =>
   clear HK
   obtain ⟨k,hk,rfl,hK,hb⟩:=hrel
   have f3:=hK.cell 3
   have HK:=Lib.hid (And.intro hK hb)
   by_cases hlt:k < n3
   ·have hi1:(0:Int)≤(k:Int):=by omega
    have hi2:(k:Int) < (n3:Int):=by omega
    obtain ⟨g3,o3,rfl,hg3,a0,a1,a2,a3,a4,a5,a6,a7⟩:=arc_cell (HR3.out.below (hb.mono hB)) k hlt
    have HSt:=Lib.hid (HW3.out k hlt).2.2.2.2.1
    generalize (t.arcs.getD k ar0) = x at *
    obtain ⟨x1,x2,⟨s1,s2,s3,s4⟩,x3,x4⟩:=x
    have HSz:=Lib.hid (fun W => sizeS_any ⟨s1,s2,s3,s4⟩ HSt.out W)
    simp only at HSz a0 a1 a2 a3 a4 a5 a6 a7
    generalize sSize _ = sz at *
    clear hK hb
    go_wp2_with fail
    refine (HSz.out _).mono ?_
    rintro e w2 ⟨rfl,hb2⟩
    have HK1:=Lib.hid (And.intro (HK.out.1.below hb2 HK.out.1.lt) (HK.out.2.trans (hb2.mono HK.out.2.size)))
    clear a0 a1 a2 a3 a4 a5 a6 a7 f3 hb2
    by_cases d3:(3:Int) < (sz:Int)
    ·go_wp2
     exact bodyPost_ret (v:=.bool false) (by simp [results,Tryz.results12,go_sem]) rfl (HP.out _ _ HK1.out.2 (fun h => by cases h))
    ·go_wp2
     go_roundw
     case rel => exact ⟨k + 1,by omega,by go_num,HK1.out.1,HK1.out.2⟩
     case measure => simp [intOf]; omega
   ·obtain rfl:n3 = k:=by omega
    clear hK hb
    go_wp2
    exact bodyPost_ret (v:=.bool true) (by simp [results,Tryz.results12,go_sem]) rfl (HP.out _ _ HK.out.2 (fun _ => by omega))
end Go.Proofs.YtcondkihpmmnnaaGreatDoor
namespace Go.Proofs.YtcondkihpmmnnaaGreatDoor
open Go.RowKit Go.Sort
set_option maxRecDepth 100000 in
set_option maxHeartbeats 4000000 in
theorem put_any (w wr:World) (acc:List UInt8) (t:ByteArray) (HK:KeyW w wr acc) (hP:Pow w w.heap.size) (ht:t.size≤4096) (ha:acc.length≤100000000) :
    Calls Tryz.prog 102 #[.string t,.pointer (some ⟨w.heap.size,0,none⟩)] wr fun e w' => e = .returned (.tuple #[])∧KeyW w w' (acc ++ putT t):=by
 have hPw:=hP
 go_enter Tryz.func102,Tryz.ntmps102
 go_wp2_with fail
 refine (itoa_any t.size (by omega) _ (hPw.below HK.bel)).mono ?_
 rintro e w8 ⟨rfl,hb8⟩
 have HK8:=HK.call hb8
 have hs2:(ByteArray.mk (Lib.decDigits t.size).toArray).size≤5000:=by
  have:=dec_len (u:=t.size) (by omega)
  show (Lib.decDigits t.size).toArray.size≤_
  rw [List.size_toArray]; omega
 have hfin:=Lib.hid (show acc ++ putT t = acc ++ bl (ByteArray.mk (Lib.decDigits t.size).toArray) ++ [58] ++ bl t by rw [bl_mkl]; unfold putT; simp)
 clear HK hb8
 generalize hD2:(ByteArray.mk (Lib.decDigits t.size).toArray) = s2 at *
 go_wp2_with fail
 refine (writeString_any w.heap.size w.heap.size (Lib.byteCells acc) s2 _ HK8.bld (by rw [Lib.byteCells_length]; omega) HK8.bel.size).mono ?_
 rintro e w9 ⟨rfl,hbd,hbw,hkp⟩
 have HK9:=HK8.write s2 hbd hbw
 clear HK8 hbd hbw hkp
 go_wp2_with fail
 refine (writeByte_any w.heap.size w.heap.size (Lib.byteCells (acc ++ bl s2)) 58 _ HK9.bld (by rw [Lib.byteCells_length]; simp only [List.length_append,bl_len]; omega) HK9.bel.size).mono ?_
 rintro e w10 ⟨rfl,hbd,hbw,hkp⟩
 have HK10:=HK9.byte 58 hbd hbw
 clear HK9 hbd hbw hkp
 go_wp2_with fail
 refine (writeString_any w.heap.size w.heap.size (Lib.byteCells (acc ++ bl s2 ++ [58])) t _ HK10.bld (by rw [Lib.byteCells_length]; simp only [List.length_append,bl_len,List.length_singleton]; omega) HK10.bel.size).mono ?_
 rintro e w11 ⟨rfl,hbd,hbw,_⟩
 have HK11:=HK10.write t hbd hbw
 clear HK10 hbd hbw
 rw [← hfin.out] at HK11
 go_wp2
 go_end0
 exact ⟨rfl,HK11⟩
theorem putW (b:Nat) (w wr:World) (acc:List UInt8) (t:ByteArray) (hb:w.heap.size = b) (HK:KeyW w wr acc) (hP:Pow w w.heap.size) (ht:t.size≤4096) (ha:acc.length≤100000000) :
    Calls Tryz.prog 102 #[.string t,.pointer (some ⟨b,0,none⟩)] wr fun e w' => e = .returned (.tuple #[])∧KeyW w w' (acc ++ putT t):=by
 subst hb; exact put_any w wr acc t HK hP ht ha
theorem byteW (b:Nat) (w wr:World) (acc:List UInt8) (c:UInt8) (ci:Int) (hc:ci = (c.toNat:Int)) (hb:w.heap.size = b) (HK:KeyW w wr acc) (ha:acc.length≤100000000) :
    Calls Tryz.prog 104 #[.pointer (some ⟨b,0,none⟩),.int .u8 ci] wr fun e w' => e = .returned .nilIface∧KeyW w w' (acc ++ [c]):=by
 subst hb hc
 refine (writeByte_any w.heap.size w.heap.size (Lib.byteCells acc) (c.toNat:Int) _ HK.bld (by rw [Lib.byteCells_length]; omega) HK.bel.size).mono ?_
 rintro e w' ⟨rfl,hbd,hbw,_⟩
 exact ⟨rfl,HK.byte c hbd hbw⟩
theorem textW (b:Nat) (w wr:World) (acc:List UInt8) (t:ByteArray) (hb:w.heap.size = b) (HK:KeyW w wr acc) (ht:t.size≤100000000) (ha:acc.length≤100000000) :
    Calls Tryz.prog 29 #[.pointer (some ⟨b,0,none⟩),.string t] wr fun e w' => e = .returned (.tuple #[.int .i64 t.size,.nilIface])∧KeyW w w' (acc ++ bl t):=by
 subst hb
 refine (writeString_any w.heap.size w.heap.size (Lib.byteCells acc) t _ HK.bld (by rw [Lib.byteCells_length]; omega) HK.bel.size).mono ?_
 rintro e w' ⟨rfl,hbd,hbw,_⟩
 exact ⟨rfl,HK.write t hbd hbw⟩
theorem allW (b:Nat) (w wr:World) (acc:List UInt8) (hb:w.heap.size = b) (HK:KeyW w wr acc) :
    Calls Tryz.prog 30 #[.pointer (some ⟨b,0,none⟩)] wr fun e w' => e = .returned (.string ⟨acc.toArray⟩)∧Below w.heap.size w w':=by
 subst hb
 refine (Tryz.Builder_String_any_k w.heap.size w.heap.size acc _ HK.bld HK.bel.size).mono ?_
 rintro e w8 ⟨rfl,_,hbw,_⟩
 exact ⟨rfl,HK.bel.trans hbw⟩
end Go.Proofs.YtcondkihpmmnnaaGreatDoor
namespace Go.Proofs.YtcondkihpmmnnaaGreatDoor
structure OrdI (q:SeqM) (n c:Nat) (m:Nat→Nat) (xs:List Nat) (pl:Nat→Int) (i b:Nat):Prop where
 first:xs[0]? = some 0
 lt:∀ j s:Nat,xs[j]? = some s→s < n∧pl (m s) = (j:Int)
 plc:∀ p,p < c→pl p = -1∨∃ j s:Nat,xs[j]? = some s∧m s = p∧pl p = (j:Int)
 done:∀ j s b':Nat,xs[j]? = some s→b' < 256→(j < i∨j = i∧b' < b)→0≤q.nx s b'→0≤pl (m (q.nx s b').toNat)
 ord:∀ k s:Nat,0 < k→xs[k]? = some s→∃ j t b':Nat,xs[j]? = some t∧j < k∧(j < i∨j = i∧b' < b)∧b' < 256∧0≤q.nx t b'∧pl (m (q.nx t b').toNat) = (k:Int) ∧
  ∀ j' t' b'':Nat,xs[j']? = some t'→b'' < 256→(j' < j∨j' = j∧b'' < b')→0≤q.nx t' b''→pl (m (q.nx t' b'').toNat) < (k:Int)
theorem some_lt {α:Type} {l:List α} {i:Nat} {x:α} (h:l[i]? = some x):i < l.length:=by
 rcases Nat.lt_or_ge i l.length with e | e
 ·exact e
 ·rw [List.getElem?_eq_none e] at h; cases h
theorem snoc_some {l:List Nat} {z i x:Nat} (h:(l ++ [z])[i]? = some x):l[i]? = some x∨(i = l.length∧x = z):=by
 rcases Nat.lt_trichotomy i l.length with e | e | e
 ·rw [List.getElem?_append_left e] at h; exact .inl h
 ·rw [List.getElem?_append_right (by omega),e] at h
  simp at h
  exact .inr ⟨e,h.symm⟩
 ·rw [List.getElem?_eq_none (by simp; omega)] at h; cases h
section
variable {q:SeqM} {n c:Nat} {m:Nat→Nat} {xs:List Nat} {pl:Nat→Int} {i b:Nat}
theorem OrdI.start (_hm0:m 0 < c) (hn:0 < n):OrdI q n c m [0] (fun p => if p = m 0 then 0 else -1) 0 0:=by
 refine ⟨rfl,fun j s h => ?_,fun p hp => ?_,fun j s b' h hb hl => ?_,fun k s hk h => ?_⟩
 ·have:=some_lt h
  have e:j = 0:=by simp at this; exact this
  subst e
  have e2:s = 0:=by simpa using h.symm
  subst e2
  exact ⟨hn,by simp⟩
 ·by_cases e:p = m 0
  ·right; exact ⟨0,0,rfl,e.symm,by simp [e]⟩
  ·left; simp [e]
 ·omega
 ·have:=some_lt h
  simp at this; omega
theorem OrdI.mono (h:OrdI q n c m xs pl i b) {i' b':Nat} (hle:∀ j b'',b'' < 256→(j < i∨j = i∧b'' < b)→(j < i'∨j = i'∧b'' < b'))
    (hd:∀ j s b'':Nat,xs[j]? = some s→b'' < 256→(j < i'∨j = i'∧b'' < b')→¬ (j < i∨j = i∧b'' < b)→0≤q.nx s b''→0≤pl (m (q.nx s b'').toNat)):OrdI q n c m xs pl i' b':=by
 refine ⟨h.first,h.lt,h.plc,fun j s b'' hj hb hl h0 => ?_,fun k s hk hs => ?_⟩
 ·by_cases e:j < i∨j = i∧b'' < b
  ·exact h.done j s b'' hj hb e h0
  ·exact hd j s b'' hj hb hl e h0
 ·obtain ⟨j,t,b1,h1,h2,h3,h4,h5⟩:=h.ord k s hk hs
  exact ⟨j,t,b1,h1,h2,hle j b1 h4 h3,h4,h5⟩
theorem OrdI.next (h:OrdI q n c m xs pl i 256):OrdI q n c m xs pl (i + 1) 0 :=
 h.mono (fun j b'' hb hl => by omega) fun j s b'' _ hb hl hn => by omega
theorem OrdI.pass (h:OrdI q n c m xs pl i b) {s:Nat} (hs:xs[i]? = some s) (hp:0≤q.nx s b→0≤pl (m (q.nx s b).toNat)):OrdI q n c m xs pl i (b + 1):=by
 refine h.mono (fun j b'' hb hl => by omega) fun j t b'' ht hb hl hn h0 => ?_
 have e1:j = i:=by omega
 have e2:b'' = b:=by omega
 subst e1 e2
 rw [hs] at ht
 obtain rfl:=Option.some.inj ht
 exact hp h0
theorem OrdI.put (h:OrdI q n c m xs pl i b) {s z:Nat} (hs:xs[i]? = some s) (hb:b < 256) (hz:q.nx s b = (z:Int)) (hzn:z < n) (hpz:pl (m z) < 0) (hcl:∀ t b:Nat,t < n→b < 256→0≤q.nx t b→m (q.nx t b).toNat < c) :
    OrdI q n c m (xs ++ [z]) (fun p => if p = m z then (xs.length:Int) else pl p) i (b + 1):=by
 have hil:=some_lt hs
 have hold:∀ j t:Nat,xs[j]? = some t→m t≠m z:=fun j t ht e => by
  have:=(h.lt j t ht).2
  rw [e] at this; omega
 refine ⟨?_,fun j t hj => ?_,fun p hp => ?_,fun j t b' hj hb' hl h0 => ?_,fun k t hk ht => ?_⟩
 ·rw [List.getElem?_append_left (by omega)]; exact h.first
 ·rcases snoc_some hj with hj | ⟨rfl,rfl⟩
  ·refine ⟨(h.lt j t hj).1,?_⟩
   rw [if_neg (hold j t hj)]
   exact (h.lt j t hj).2
  ·exact ⟨hzn,by simp⟩
 ·by_cases e:p = m z
  ·right
   exact ⟨xs.length,z,by simp,e.symm,by simp [e]⟩
  ·rcases h.plc p hp with h1 | ⟨j,t,h1,h2,h3⟩
   ·left; rw [if_neg e]; exact h1
   ·right
    exact ⟨j,t,by rw [List.getElem?_append_left (some_lt h1)]; exact h1,h2,by rw [if_neg e]; exact h3⟩
 ·by_cases e:m (q.nx t b').toNat = m z
  ·simp only [e,if_true]; omega
  ·simp only [e,if_false]
   rcases snoc_some hj with hj | ⟨rfl,rfl⟩
   ·by_cases e2:j < i∨j = i∧b' < b
    ·exact h.done j t b' hj hb' e2 h0
    ·have e3:j = i:=by omega
     have e4:b' = b:=by omega
     subst e3 e4
     rw [hs] at hj
     obtain rfl:=Option.some.inj hj
     rw [hz,Int.toNat_natCast] at e
     exact absurd rfl e
   ·omega
 ·rcases snoc_some ht with ht | ⟨rfl,htz⟩
  ·obtain ⟨j,u,b1,h1,h2,h3,h4,h5,h6,h7⟩:=h.ord k t hk ht
   refine ⟨j,u,b1,by rw [List.getElem?_append_left (some_lt h1)]; exact h1,h2,by omega,h4,h5,?_,fun j' t' b'' hj' hb'' hl' h0 => ?_⟩
   ·have e:m (q.nx u b1).toNat≠m z:=fun e => by rw [e] at h6; omega
    rw [if_neg e]; exact h6
   ·rcases snoc_some hj' with hj' | ⟨rfl,rfl⟩
    ·have hd:=h.done j' t' b'' hj' hb'' (by omega) h0
     have e:m (q.nx t' b'').toNat≠m z:=fun e => by rw [e] at hd; omega
     rw [if_neg e]
     exact h7 j' t' b'' hj' hb'' hl' h0
    ·have:=some_lt h1
     omega
  ·refine ⟨i,s,b,by rw [List.getElem?_append_left hil]; exact hs,hil,by omega,hb,by omega,?_,fun j' t' b'' hj' hb'' hl' h0 => ?_⟩
   ·rw [hz,Int.toNat_natCast,if_pos rfl]
   ·rcases snoc_some hj' with hj' | ⟨rfl,rfl⟩
    ·have hd:=h.done j' t' b'' hj' hb'' hl' h0
     have e:m (q.nx t' b'').toNat≠m z:=fun e => by rw [e] at hd; omega
     rw [if_neg e]
     rcases h.plc _ (hcl t' b'' (h.lt j' t' hj').1 hb'' h0) with h1 | ⟨j,t,h1,h2,h3⟩
     ·omega
     ·have:=some_lt h1; omega
    ·omega
theorem OrdI.len (h:OrdI q n c m xs pl i b) (hm:∀ s,s < n→m s < c):xs.length≤c:=by
 have hnd:(xs.map m).Nodup:=by
  unfold List.Nodup
  rw [List.pairwise_iff_getElem]
  intro j k hj hk hjk e
  rw [List.length_map] at hj hk
  rw [List.getElem_map,List.getElem_map] at e
  have h1:=(h.lt j _ (List.getElem?_eq_getElem (show j < xs.length by omega))).2
  have h2:=(h.lt k _ (List.getElem?_eq_getElem hk)).2
  rw [e] at h1; omega
 have hsub:xs.map m ⊆ List.range c:=fun p hp => by
  obtain ⟨s,hs,rfl⟩:=List.mem_map.1 hp
  obtain ⟨j,hj⟩:=List.getElem?_of_mem hs
  exact List.mem_range.2 (hm s (h.lt j s hj).1)
 have:=hnd.length_le_of_subset hsub
 simpa using this
end
def minRow (q:SeqM) (m:Nat→Nat) (pl:Nat→Int) (s b:Nat):Int:=if q.nx s b < 0 then q.nx s b else pl (m (q.nx s b).toNat)
def minM (q:SeqM) (m:Nat→Nat) (pl:Nat→Int) (xs:List Nat):SeqM :=
 ⟨q.front,xs.map (fun s => (List.range 256).map (minRow q m pl s)),xs.map (fun s => q.outs.getD s []),xs.map q.en,xs.map q.tl⟩
theorem getD_mapR {α:Type} (g:Nat→α) (d:α) {n b:Nat} (hb:b < n):((List.range n).map g).getD b d = g b:=by
 rw [List.getD_eq_getElem?_getD,List.getElem?_map,List.getElem?_range hb]; rfl
theorem getD_mapA {α:Type} (g:Nat→α) (d:α) {us:List Nat} {i s:Nat} (h:us[i]? = some s):(us.map g).getD i d = g s:=by
 rw [List.getD_eq_getElem?_getD,List.getElem?_map,h]; rfl
section
variable {q:SeqM} {n c:Nat} {m:Nat→Nat} {xs:List Nat} {pl:Nat→Int} {i s b:Nat}
theorem minM_nx (h:xs[i]? = some s) (hb:b < 256):(minM q m pl xs).nx i b = minRow q m pl s b:=by
 unfold SeqM.nx minM
 simp only
 rw [getD_mapA (fun s => (List.range 256).map (minRow q m pl s)) [] h]
 exact getD_mapR _ _ hb
theorem minM_os (h:xs[i]? = some s):(minM q m pl xs).os i b = q.os s b:=by
 unfold SeqM.os minM
 simp only
 rw [getD_mapA (fun s => q.outs.getD s []) [] h]
theorem minM_en (h:xs[i]? = some s):(minM q m pl xs).en i = q.en s:=by
 unfold SeqM.en minM
 simp only
 exact getD_mapA q.en false h
theorem minM_tl (h:xs[i]? = some s):(minM q m pl xs).tl i = q.tl s:=by
 unfold SeqM.tl minM
 simp only
 exact getD_mapA q.tl _ h
theorem minM_len:(minM q m pl xs).next.length = xs.length:=by unfold minM; simp
section
variable (hck:ckB q = true) (hn:q.next.length = n) (hP:PartsOk q n m c) (hO:OrdI q n c m xs pl xs.length 0)
include hck hn hP hO
theorem min_step (hi:xs[i]? = some s) (hb:b < 256) (h0:0≤q.nx s b):∃ j t:Nat,xs[j]? = some t∧pl (m (q.nx s b).toNat) = (j:Int)∧SameOn q t (q.nx s b).toNat:=by
 have hs:=(hO.lt i s hi).1
 have hz:=(ckB_nx hck (s:=s) (by rw [hn]; exact hs) hb).2.1
 rw [hn] at hz
 have hd:=hO.done i s b hi hb (.inl (some_lt hi)) h0
 rcases hO.plc _ (hP.lt (q.nx s b).toNat (by omega)) with h1 | ⟨j,t,h1,h2,h3⟩
 ·omega
 ·exact ⟨j,t,h1,h3,(hP.eq t _ (hO.lt j t h1).1 (by omega)).1 h2⟩
theorem min_runL:∀ (w:List UInt8) (i s:Nat),xs[i]? = some s→(minM q m pl xs).runL i w = q.runL s w
 | [],i,s,hi => by
  unfold SeqM.runL
  rw [minM_en hi,minM_tl hi]
 | a :: w,i,s,hi => by
  unfold SeqM.runL
  rw [minM_nx hi a.toNat_lt,minM_os hi]
  unfold minRow
  by_cases h0:q.nx s a.toNat < 0
  ·rw [if_pos h0,if_pos h0,if_pos h0]
  ·obtain ⟨j,t,h1,h2,h3⟩:=min_step hck hn hP hO hi a.toNat_lt (by omega)
   rw [if_neg h0,if_neg h0,h2,if_neg (by omega),Int.toNat_natCast,min_runL w j t h1,h3 w]
theorem min_run (w:List UInt8):(minM q m pl xs).run w = q.run w:=by
 have h1:=some_lt hO.first
 have h2:=(hO.lt 0 0 hO.first).1
 unfold SeqM.run
 rw [minM_len,if_neg (by omega),if_neg (by omega),min_runL hck hn hP hO w 0 0 hO.first]
 rfl
theorem min_canon (hT:Tight q):Canon (minM q m pl xs):=by
 obtain ⟨p1,p2,p3,p4,p5,p6⟩:=ck_parts hck
 have hlen:=hO.len hP.lt
 have hg:∀ i,i < (minM q m pl xs).next.length→∃ s,xs[i]? = some s∧s < n:=fun i hi => by
  rw [minM_len] at hi
  have:=List.getElem?_eq_getElem hi
  exact ⟨_,this,(hO.lt i _ this).1⟩
 have hnx:∀ i b,i < (minM q m pl xs).next.length→b < 256→(minM q m pl xs).nx i b < ((minM q m pl xs).next.length:Int):=fun i b hi hb => by
  obtain ⟨s,hs,hsn⟩:=hg i hi
  rw [minM_nx hs hb,minM_len]
  unfold minRow
  split
  ·omega
  ·obtain ⟨j,t,h1,h2,_⟩:=min_step hck hn hP hO hs hb (by omega)
   have:=some_lt h1
   omega
 refine ⟨⟨fun i hi => ?_,fun i hi u hu => ?_,hnx⟩,by rw [minM_len]; exact some_lt hO.first,by unfold minM; simp,fun i hi => ?_,fun i b hi hb h0 => ?_,fun i hi he => ?_,fun i j hi hj h => ?_,fun i h0 hi => ?_⟩
 ·obtain ⟨s,hs,hsn⟩:=hg i hi
  obtain ⟨o,w,ho⟩:=hT.live s (by omega)
  exact ⟨o,w,by rw [min_runL hck hn hP hO w i s hs]; exact ho⟩
 ·obtain ⟨s,hs,hsn⟩:=hg i hi
  exact hT.none s (by omega) u fun o ⟨w,ho⟩ => hu o ⟨w,by rw [min_runL hck hn hP hO w i s hs]; exact ho⟩
 ·obtain ⟨s,hs,hsn⟩:=hg i hi
  unfold minM
  simp only
  rw [getD_mapA _ [] hs,getD_mapA _ [] hs]
  exact ⟨by simp,(p6 s (by omega)).2⟩
 ·obtain ⟨s,hs,hsn⟩:=hg i hi
  rw [minM_nx hs hb] at h0 ⊢
  rw [minM_os hs]
  have hz:=ckB_nx hck (s:=s) (by rw [hn]; exact hsn) hb
  unfold minRow at h0 ⊢
  by_cases e:q.nx s b < 0
  ·rw [if_pos e]
   exact ⟨by omega,hz.2.2.2.1 (by omega)⟩
  ·obtain ⟨j,t,h1,h2,_⟩:=min_step hck hn hP hO hs hb (by omega)
   rw [if_neg e,h2] at h0; omega
 ·obtain ⟨s,hs,hsn⟩:=hg i hi
  rw [minM_en hs] at he
  rw [minM_tl hs]
  exact (ckB_nx hck (s:=s) (b:=0) (by rw [hn]; exact hsn) (by decide)).2.2.2.2.2 he
 ·obtain ⟨s,hs,hsn⟩:=hg i hi
  obtain ⟨t,ht,htn⟩:=hg j hj
  have:m s = m t:=(hP.eq s t hsn htn).2 fun w => by rw [← min_runL hck hn hP hO w i s hs,← min_runL hck hn hP hO w j t ht]; exact h w
  have h1:=(hO.lt i s hs).2
  have h2:=(hO.lt j t ht).2
  rw [this] at h1; omega
 ·obtain ⟨s,hs,hsn⟩:=hg i hi
  obtain ⟨j,t,b,h1,h2,_,h4,h5,h6,h7⟩:=hO.ord i s h0 hs
  refine ⟨j,b,h2,h4,?_,fun j' b' hb' hl => ?_⟩
  ·rw [minM_nx h1 h4]
   unfold minRow
   rw [if_neg (by omega)]; exact h6
  ·have hj':j' < (minM q m pl xs).next.length:=by omega
   obtain ⟨t',ht',_⟩:=hg j' hj'
   rw [minM_nx ht' hb']
   unfold minRow
   split
   ·omega
   ·exact h7 j' t' b' ht' hb' hl (by omega)
theorem min_small:xs.length≤n∧∀ i,i < xs.length→((minM q m pl xs).tail.getD i ByteArray.empty).size≤4096∧((minM q m pl xs).next.getD i []).length = 256∧((minM q m pl xs).outs.getD i []).length = 256 ∧
    ∀ b,b < 256→-1≤((minM q m pl xs).next.getD i []).getD b 0∧((minM q m pl xs).next.getD i []).getD b 0 < (xs.length:Int)∧(((minM q m pl xs).outs.getD i []).getD b ByteArray.empty).size≤4096:=by
 obtain ⟨p1,p2,p3,p4,p5,p6⟩:=ck_parts hck
 refine ⟨Nat.le_trans (hO.len hP.lt) (onto_le hP.onto),fun i hi => ?_⟩
 have hs:=List.getElem?_eq_getElem hi
 generalize xs[i] = s at hs
 have hsn:=(hO.lt i s hs).1
 refine ⟨?_,?_,?_,fun b hb => ?_⟩
 ·have:=minM_tl (q:=q) (m:=m) (pl:=pl) hs
  show ((minM q m pl xs).tl i).size≤4096
  rw [this]
  exact (ckB_nx hck (s:=s) (b:=0) (by rw [hn]; exact hsn) (by decide)).2.2.2.2.1
 ·unfold minM
  simp only
  rw [getD_mapA _ [] hs]; simp
 ·unfold minM
  simp only
  rw [getD_mapA _ [] hs]
  exact (p6 s (by omega)).2
 ·have hz:=ckB_nx hck (s:=s) (by rw [hn]; exact hsn) hb
  have e1:((minM q m pl xs).next.getD i []).getD b 0 = minRow q m pl s b:=minM_nx hs hb
  have e2:((minM q m pl xs).outs.getD i []).getD b ByteArray.empty = q.os s b:=minM_os hs
  rw [e1,e2]
  refine ⟨?_,?_,hz.2.2.1⟩
  ·unfold minRow
   split
   ·omega
   ·obtain ⟨j,t,h1,h2,_⟩:=min_step hck hn hP hO hs hb (by omega)
    omega
  ·unfold minRow
   split
   ·omega
   ·obtain ⟨j,t,h1,h2,_⟩:=min_step hck hn hP hO hs hb (by omega)
    have:=some_lt h1
    omega
end
end
end Go.Proofs.YtcondkihpmmnnaaGreatDoor
