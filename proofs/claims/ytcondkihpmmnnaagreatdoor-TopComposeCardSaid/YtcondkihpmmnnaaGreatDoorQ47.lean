/- Lemmas, part 47 of 50. No condition. -/
import Derived.Test.YtcondkihpmmnnaaGreatDoorQ46
namespace Go.Proofs.YtcondkihpmmnnaaGreatDoor
open Go.RowKit Go.Sort
theorem far_set5 {gq g:Nat} {W:World} {T:TypeId} {cs:Array Value} (h:Blk W g T cs) (hn:g≠gq) (v0 v1 v2 v3 v4:Value):Blk (((((W.setCell ⟨gq,0,none⟩ v0).setCell ⟨gq,1,none⟩ v1).setCell ⟨gq,2,none⟩ v2).setCell ⟨gq,3,none⟩ v3).setCell ⟨gq,4,none⟩ v4) g T cs :=
 ((((h.far (p:=⟨gq,0,none⟩) hn v0).far (p:=⟨gq,1,none⟩) hn v1).far (p:=⟨gq,2,none⟩) hn v2).far (p:=⟨gq,3,none⟩) hn v3).far (p:=⟨gq,4,none⟩) hn v4
theorem own_set5 {gq base n size:Nat} {W:World} {e:TypeId} {v:Value} {xs:List Value} (h:W.ownsRow base e size v n xs) (hn:v.ownBlock≠some gq) (v0 v1 v2 v3 v4:Value):(((((W.setCell ⟨gq,0,none⟩ v0).setCell ⟨gq,1,none⟩ v1).setCell ⟨gq,2,none⟩ v2).setCell ⟨gq,3,none⟩ v3).setCell ⟨gq,4,none⟩ v4).ownsRow base e size v n xs :=
 own_setCell (own_setCell (own_setCell (own_setCell (own_setCell h hn v0) hn v1) hn v2) hn v3) hn v4
theorem seqNew_set5 {B gq:Nat} {W:World} {q:SeqM} {v:Value} (h:SeqNew B W q v) (hp:gq < B) (v0 v1 v2 v3 v4:Value):SeqNew B (((((W.setCell ⟨gq,0,none⟩ v0).setCell ⟨gq,1,none⟩ v1).setCell ⟨gq,2,none⟩ v2).setCell ⟨gq,3,none⟩ v3).setCell ⟨gq,4,none⟩ v4) q v :=
 ((((h.setCell (p:=⟨gq,0,none⟩) hp v0).setCell (p:=⟨gq,1,none⟩) hp v1).setCell (p:=⟨gq,2,none⟩) hp v2).setCell (p:=⟨gq,3,none⟩) hp v3).setCell (p:=⟨gq,4,none⟩) hp v4
set_option maxRecDepth 100000 in
set_option maxHeartbeats 8000000 in
theorem min_any (q:SeqM) (v:Value) (B:Nat) (w:World) (HS:SeqAt w B q v) (hB:B≤w.heap.size) (hP:Pow w w.heap.size) :
    Calls Tryz.prog 13 #[v] w (MinPost q w):=by
 have HSat:=Lib.hid (fun W (hb:Below w.heap.size w W) => (HS.below (hb.mono hB)).more (Nat.le_trans hB hb.size))
 obtain ⟨A1,c1,A2,c2,A3,c3,A4,c4,rfl,hf,l1,l2,l3,l4,m1,m2,m3,m4,R1,hz,R2,hsz,R3,R4,htl⟩:=HS
 have hpush:=Lib.hid (fun W hb => push_any q _ W.heap.size W (HSat.out W hb) (Nat.le_refl _))
 have hfin:=Lib.hid (fun (W:World) (hb:Below w.heap.size w W) (c:Int) (h:(ckB q = false∧c = 1)∨(ckB q = true∧((c = 2∧∃ k,Fronts q k∧LongQ q k)∨(c = 0∧∀ x,q.run x = none)))) => show MinPost q w (.returned (.tuple #[.agg #[.string ⟨#[]⟩,.slice none 0 0,.slice none 0 0,.slice none 0 0,.slice none 0 0],.int .i64 c])) W from
  ⟨hb,_,seq0,c,rfl,seqNew_nil _ _,by
   rcases h with ⟨h1,h2⟩ | ⟨h1,⟨h2,h3⟩ | ⟨h2,h3⟩⟩
   ·exact .inl ⟨h1,h2,rfl⟩
   ·exact .inr ⟨h1,.inl ⟨h2,rfl,h3⟩⟩
   ·exact .inr ⟨h1,.inr ⟨h2,.inl ⟨rfl,h3⟩⟩⟩⟩)
 clear R1 R2 R3 R4 hz hsz htl HSat l1 l2 l3 l4 m1 m2 m3 m4
 generalize q.front = fr at *
 generalize q.next.length = n1 at *
 generalize q.outs.length = n2 at *
 generalize q.ends.length = n3 at *
 generalize q.tail.length = n4 at *
 have B0:Below w.heap.size w ((w.alloc (.cells #[.string fr,.slice A1 n1 c1,.slice A2 n2 c2,.slice A3 n3 c3,.slice A4 n4 c4] 27)).alloc (.cells #[.string ⟨#[]⟩,.slice none 0 0,.slice none 0 0,.slice none 0 0,.slice none 0 0] 27)) :=
  ((Below.refl _ w).alloc (Nat.le_refl _) _).alloc (by simp) _
 have Ja:=(Blk.new w 27 #[.string fr,.slice A1 n1 c1,.slice A2 n2 c2,.slice A3 n3 c3,.slice A4 n4 c4]).alloc (.cells #[.string ⟨#[]⟩,.slice none 0 0,.slice none 0 0,.slice none 0 0,.slice none 0 0] 27)
 have Jr:=Blk.new (w.alloc (.cells #[.string fr,.slice A1 n1 c1,.slice A2 n2 c2,.slice A3 n3 c3,.slice A4 n4 c4] 27)) 27 #[.string ⟨#[]⟩,.slice none 0 0,.slice none 0 0,.slice none 0 0,.slice none 0 0]
 simp only [World.size_alloc] at Jr
 have j0:=Ja.cell 0
 have j1:=Ja.cell 1
 have j2:=Ja.cell 2
 have j3:=Ja.cell 3
 have j4:=Ja.cell 4
 go_enter Tryz.func13,Tryz.ntmps13
 go_wp2_with fail
 refine (hpush.out _ B0).mono ?_
 rintro e w1 ⟨hb1,v1,r,c,rfl,hq1,hcase⟩
 simp only [World.size_alloc] at hq1 hb1
 have hqn:w.heap.size + 1≠w.heap.size:=by omega
 have Ja1:=Ja.below (hb1.mono (by simp)) Ja.lt
 have Jr1:=Jr.below (hb1.mono (by simp)) Jr.lt
 have B1:=B0.trans (hb1.mono (by omega))
 have hlt1:=Jr1.lt
 clear B0 Ja Jr hb1
 have j0:=Ja1.cell 0
 have j1:=Ja1.cell 1
 have j2:=Ja1.cell 2
 have j3:=Ja1.cell 3
 have j4:=Ja1.cell 4
 have l0:=Ja1.frozen 0
 have l1:=Ja1.frozen 1
 have l2:=Ja1.frozen 2
 have l3:=Ja1.frozen 3
 have l4:=Ja1.frozen 4
 have r0:=Jr1.cell 0
 have r1:=Jr1.cell 1
 have r2:=Jr1.cell 2
 have r3:=Jr1.cell 3
 have r4:=Jr1.cell 4
 have g0:=Jr1.frozen 0
 have g1:=Jr1.frozen 1
 have g2:=Jr1.frozen 2
 have g3:=Jr1.frozen 3
 have g4:=Jr1.frozen 4
 rcases hcase with ⟨hck,rfl,rfl⟩ | ⟨hck,k,hfr,⟨rfl,rfl,hno⟩ | ⟨rfl,rfl,hlg⟩ | ⟨rfl,hckr,us,hpu⟩⟩
 ·have HF:=Lib.hid (fun W hb => hfin.out W hb 1 (.inl ⟨hck,rfl⟩))
  clear hck
  obtain ⟨D1,d1,D2,d2,D3,d3,D4,d4,hv,_⟩:=hq1.at_
  have hv:v1 = .agg #[.string ⟨#[]⟩,.slice D1 0 d1,.slice D2 0 d2,.slice D3 0 d3,.slice D4 0 d4]:=hv
  subst hv
  clear hq1
  go_wp2_with fail
  exact min_ret rfl rfl (blk_set5 (far_set5 Jr1 hqn _ _ _ _ _) _ _ _ _ _) (HF.out _ (below_set5 (below_set5 B1 (Nat.le_refl _) _ _ _ _ _) (by omega) _ _ _ _ _))
 ·have HF:=Lib.hid (fun W hb => hfin.out W hb 0 (.inr ⟨hck,.inr ⟨rfl,run_none hfr hno⟩⟩))
  clear hck hno hfr
  obtain ⟨D1,d1,D2,d2,D3,d3,D4,d4,hv,_⟩:=hq1.at_
  have hv:v1 = .agg #[.string ⟨#[]⟩,.slice D1 0 d1,.slice D2 0 d2,.slice D3 0 d3,.slice D4 0 d4]:=hv
  subst hv
  clear hq1
  go_wp2_with fail
  exact min_ret rfl rfl (blk_set5 (far_set5 Jr1 hqn _ _ _ _ _) _ _ _ _ _) (HF.out _ (below_set5 (below_set5 B1 (Nat.le_refl _) _ _ _ _ _) (by omega) _ _ _ _ _))
 ·have HF:=Lib.hid (fun W hb => hfin.out W hb 2 (.inr ⟨hck,.inl ⟨rfl,k,hfr,hlg⟩⟩))
  clear hck hlg hfr
  obtain ⟨D1,d1,D2,d2,D3,d3,D4,d4,hv,_⟩:=hq1.at_
  have hv:v1 = .agg #[.string ⟨#[]⟩,.slice D1 0 d1,.slice D2 0 d2,.slice D3 0 d3,.slice D4 0 d4]:=hv
  subst hv
  clear hq1
  go_wp2_with fail
  exact min_ret rfl rfl (blk_set5 (far_set5 Jr1 hqn _ _ _ _ _) _ _ _ _ _) (HF.out _ (below_set5 (below_set5 B1 (Nat.le_refl _) _ _ _ _ _) (by omega) _ _ _ _ _))
 ·obtain ⟨p1,p2,p3,p4,p5,p6⟩:=ck_parts hckr
  have hrz:∀ s b,s < q.next.length→b < 256→q.nx s b < (q.next.length:Int):=fun s b hs hb => (ckB_nx hck hs hb).2.1
  have hT:=hpu.tight hfr hrz
  have hrun:=Lib.hid (hpu.run hfr hrz)
  have hn0:0 < r.next.length:=by
   have:=some_lt hpu.first
   have:=hpu.n
   omega
  obtain ⟨n,hn⟩:∃ n,r.next.length = n:=⟨_,rfl⟩
  have hfin2:=Lib.hid (fun (W:World) (hb:Below w.heap.size w W) (v:Value) (m':SeqM) (hq:SeqNew w.heap.size W m' v) (hc:Canon m') (hk:ckB m' = true) (hr:∀ x,m'.run x = r.run x) => show MinPost q w (.returned (.tuple #[v,.int .i64 0])) W from
   ⟨hb,v,m',0,rfl,hq,.inr ⟨hck,.inr ⟨rfl,.inr ⟨hc,hk,fun x => (hr x).trans (hrun.out x)⟩⟩⟩⟩)
  obtain ⟨D1,d1,D2,d2,D3,d3,D4,d4,rfl,hfm,o1,o2,o3,o4,M1,M2,M3,M4,_⟩:=hq1.at_
  rw [p2,p3,p4,hn] at hq1 ⊢
  rw [hn] at p1 hn0 o1 p6
  rw [p2,hn] at o2
  rw [p3,hn] at o3
  rw [p4,hn] at o4
  have HR:=Lib.hid (And.intro hckr (And.intro hn (And.intro p2 (And.intro p3 (And.intro p4 (And.intro hT p6))))))
  generalize hrfe:r.front = rf at *
  have Hrf:=Lib.hid hrfe
  clear hck hpu hfr hrz hrun hckr hT hn p2 p3 p4 p5 p6 hfin hrfe us k
  go_upto_region 2 with (fail)
  have Ja2:=blk_set5 Ja1 (.string rf) (.slice D1 n d1) (.slice D2 n d2) (.slice D3 n d3) (.slice D4 n d4)
  have Jr2:=far_set5 Jr1 hqn (.string rf) (.slice D1 n d1) (.slice D2 n d2) (.slice D3 n d3) (.slice D4 n d4)
  have B2:=below_set5 B1 (Nat.le_refl _) (.string rf) (.slice D1 n d1) (.slice D2 n d2) (.slice D3 n d3) (.slice D4 n d4)
  have hq2:=seqNew_set5 hq1 (show w.heap.size < w.heap.size + 1 + 1 by omega) (.string rf) (.slice D1 n d1) (.slice D2 n d2) (.slice D3 n d3) (.slice D4 n d4)
  clear j0 j1 j2 j3 j4 l0 l1 l2 l3 l4 r0 r1 r2 r3 r4 g0 g1 g2 g3 g4 Ja1 Jr1 B1 hq1
  generalize ((((((w1.setCell ⟨w.heap.size,0,none⟩ (.string rf)).setCell ⟨w.heap.size,1,none⟩ (.slice D1 n d1)).setCell ⟨w.heap.size,2,none⟩ (.slice D2 n d2)).setCell ⟨w.heap.size,3,none⟩ (.slice D3 n d3)).setCell ⟨w.heap.size,4,none⟩ (.slice D4 n d4))) = W1 at *
  have hpa:=Lib.hid (parts_any r _ W1.heap.size n W1 hq2.at_ (Nat.le_refl _) HR.out.1 HR.out.2.1 ((hP.below B2).mono B2.size) HR.out.2.2.2.2.2.1)
  have hne:((n:Int) == 0) = false:=by simp; omega
  have k0:=Ja2.cell 0
  have k1:=Ja2.cell 1
  have k2:=Ja2.cell 2
  have k3:=Ja2.cell 3
  have k4:=Ja2.cell 4
  go_wp2_with fail
  refine hpa.out.mono ?_
  rintro e w2 ⟨gm,m,cc,rfl,HM,hgm,hb2,hPO⟩
  have Ja3:=Ja2.below hb2 Ja2.lt
  have Jr3:=Jr2.below hb2 Jr2.lt
  have B3:=B2.trans (hb2.mono B2.size)
  have hq3:=hq2.below hb2
  have hor:=Lib.hid (order_any r _ w2.heap.size n cc gm m w2 hq3.at_ (Nat.le_refl _) HR.out.1 HR.out.2.1 hn0 HM hPO)
  have HPO:=Lib.hid hPO
  clear hpa hPO Ja2 Jr2 B2 hq2 k0 k1 k2 k3 k4 hgm
  have k0:=Ja3.cell 0
  have k1:=Ja3.cell 1
  have k2:=Ja3.cell 2
  have k3:=Ja3.cell 3
  have k4:=Ja3.cell 4
  go_wp2_with fail
  refine hor.out.mono ?_
  rintro e w3 ⟨vS,xs,gP,pl,rfl,HO,HPl,hgP,hb3,hOr⟩
  obtain ⟨As,cs,rfl,hs1,hs2,hs3⟩:=own_form HO
  have Ja4:=Ja3.below hb3 Ja3.lt
  have Jr4:=Jr3.below hb3 Jr3.lt
  have B4:=B3.trans (hb3.mono B3.size)
  have HM4:=HM.below hb3 HM.lt
  have hq4:=hq3.below hb3
  obtain ⟨E1,t1,E2,t2,E3,t3,E4,t4,hve,_,_,_,_,_,_,_,_,_,R1,_,R2,_,R3,R4,_⟩:=hq4.at_
  have hve:(D1 = E1∧d1 = t1)∧(D2 = E2∧d2 = t2)∧(D3 = E3∧d3 = t3)∧(D4 = E4∧d4 = t4):=by
   simp only [Value.agg.injEq,Array.mk.injEq,List.cons.injEq,Value.slice.injEq,and_true] at hve
   exact ⟨⟨hve.2.1.1,hve.2.1.2.2⟩,⟨hve.2.2.1.1,hve.2.2.1.2.2⟩,⟨hve.2.2.2.1.1,hve.2.2.2.1.2.2⟩,⟨hve.2.2.2.2.1,hve.2.2.2.2.2.2⟩⟩
  obtain ⟨⟨rfl,rfl⟩,⟨rfl,rfl⟩,⟨rfl,rfl⟩,⟨rfl,rfl⟩⟩:=hve
  rw [HR.out.2.1] at R1
  rw [HR.out.2.2.1,HR.out.2.1] at R2
  rw [HR.out.2.2.2.1,HR.out.2.1] at R3
  rw [HR.out.2.2.2.2.1,HR.out.2.1] at R4
  have hxc:=hOr.len HPO.out.lt
  have hccn:cc≤n:=onto_le HPO.out.onto
  have HXs:=Reads.of_own HO
  have hpos:0 < xs.length:=some_lt hOr.first
  have hxn:∀ x∈xs,x < n:=fun x hx => by
   obtain ⟨j,hj⟩:=List.getElem?_of_mem hx
   exact (hOr.lt j x hj).1
  have hpB:=Lib.hid (fun (W:World) (hb:Below w3.heap.size w3 W) => pickB_any r.ends xs D3 As n d3 xs.length cs w3.heap.size W (R3.below hb) (HXs.below hb) hb.size hxn (by omega) p1 (by omega) hs1)
  have hpS:=Lib.hid (fun (W:World) (hb:Below w3.heap.size w3 W) => pickS_any r.tail xs D4 As n d4 xs.length cs w3.heap.size W (R4.below hb) (HXs.below hb) hb.size hxn (by omega) p1 (by omega) hs1)
  have hza:∀ W,(Instr.alloc 27 true (.tuple #[])).run Tryz.prog W = .ok (.pointer (some ⟨W.heap.size,0,none⟩)) (W.alloc (.cells #[.string ⟨#[]⟩,.slice none 0 0,.slice none 0 0,.slice none 0 0,.slice none 0 0] 27)):=fun W => by simp [go_sem]
  have HXr:=Lib.hid (And.intro R1 (And.intro R2 (And.intro HXs (And.intro HM4 HPl))))
  have HOr:=Lib.hid (And.intro hOr hxn)
  have HJ:=Lib.hid (And.intro Ja4 (And.intro Jr4 B4))
  have x0:=cell_regrown (Ja4.cell 0)
  have x3:=cell_regrown (Ja4.cell 3)
  have x4:=cell_regrown (Ja4.cell 4)
  have hz3:=B4.size
  have hlt4:=Jr4.lt
  clear R1 R2 R3 R4 HXs HO HM HM4 HPl hq3 hb2 hb3 Ja3 Jr3 B3 k0 k1 k2 k3 k4 hs2 hs3 Ja4 Jr4 B4 hgP hor hq4 hxn hOr
  generalize hxl:xs.length = xl at *
  have HXL:=Lib.hid hxl
  go_wp2
  refine four_below (mk:=fun x y => .agg #[.string rf,.slice none 0 0,.slice none 0 0,x,y]) (d0:=48) (d1:=52) (d2:=53) (d3:=9)
   (F0:=fun v W => ∃ g,v = .slice (some ⟨g,0,none⟩) xl xl∧w3.heap.size≤g∧Blk W g 4 (bV (fun i => r.ends.getD (xs.getD i 0) false) xl))
   (F1:=fun v W => ∃ g,v = .slice (some ⟨g,0,none⟩) xl xl∧w3.heap.size≤g∧Blk W g 9 (strsV (fun i => r.tail.getD (xs.getD i 0) ByteArray.empty) xl))
   (F3:=fun v W => ∃ g,v = .pointer (some ⟨g,0,none⟩)∧w3.drew.heap.size≤g∧Blk W g 27 #[.string ⟨#[]⟩,.slice none 0 0,.slice none 0 0,.slice none 0 0,.slice none 0 0])
   12 [0,1,2,3,4,6,7,8] 5 9 10 11 (by kernel_rfl) (by kernel_rfl) rfl (by kernel_rfl) (by decide) rfl rfl rfl rfl (by decide) ?_
  simp only [pickOps,List.getElem?_cons_zero,List.getElem?_cons_succ]
  repeat (go_big_quiet_step (fail))
  refine wpQuiet_nil ?_
  refine four_start (by decide) ⟨⟨by show 48 < 110; decide,by show 52 < 110; decide⟩,?_,?_,maker_alloc rfl rfl 27 _ rfl hza,rfl,?_,?_⟩
  ·refine maker_call2 rfl rfl 46 47 (by decide) (by decide) 36 _ rfl eg_pickB ?_ ?_
   ·rintro v W W' ⟨g,rfl,h1,h2⟩ hb
    exact ⟨g,rfl,h1,h2.below hb h2.lt⟩
   ·intro W hb
    refine Calls.mono (hpB.out W ((Below.refl _ w3).drew.trans hb)) ?_
    rintro e W' ⟨g,rfl,h1,h2,h3⟩
    exact ⟨_,rfl,h3,g,rfl,Nat.le_trans hb.size h2,h1⟩
  ·refine maker_call2 rfl rfl 50 51 (by decide) (by decide) 37 _ rfl eg_pickS ?_ ?_
   ·rintro v W W' ⟨g,rfl,h1,h2⟩ hb
    exact ⟨g,rfl,h1,h2.below hb h2.lt⟩
   ·intro W hb
    refine Calls.mono (hpS.out W ((Below.refl _ w3).drew.trans hb)) ?_
    rintro e W' ⟨g,rfl,h1,h2,h3⟩
    exact ⟨_,rfl,h3,g,rfl,Nat.le_trans hb.size h2,h1⟩
  ·rintro a W v0 v1 K ⟨gE,rfl,_,_⟩ ⟨gT,rfl,_,_⟩ e0 e1 hag hK
   have e4:a.eval (.tmp 44) = .string rf:=(hag 44 (by decide)).trans rfl
   change Oper.wp Tryz.prog (⟨some 53,Op.build 27 #[(0,.tmp 44),(3,.tmp 48),(4,.tmp 52)],_,_,_,none⟩:Oper) a W K _
   unfold Oper.wp
   simp only [execOp,List.map_toArray,List.map_cons,List.map_nil,e0,e1,e4]
   simp [go_sem]
   exact hK
  ·rintro v0 v1 v3 W5 hb5 ⟨gE,rfl,hgE,hE⟩ ⟨gT,rfl,hgT,hT⟩ ⟨gr,rfl,hgr,hR⟩
   simp only [Act.put,List.drop_succ_cons,List.drop_zero]
   have hgr':w3.heap.size≤gr:=hgr
   have q0:=hR.cell 0
   have q1:=hR.cell 1
   have q2:=hR.cell 2
   have q3:=hR.cell 3
   have q4:=hR.cell 4
   have f0:=hR.frozen 0
   have f1:=hR.frozen 1
   have f2:=hR.frozen 2
   have f3:=hR.frozen 3
   have f4:=hR.frozen 4
   have hEl:(xs.map r.en).length = xl:=by rw [List.length_map]; exact hxl
   have hTl:(xs.map r.tl).length = xl:=by rw [List.length_map]; exact hxl
   have oE:W5.ownsRow w3.heap.size 4 1 (.slice (some ⟨gE,0,none⟩) xl xl) xl ((xs.map r.en).map Value.bool):=by
    have e:bV (fun i => r.ends.getD (xs.getD i 0) false) xl = ((xs.map r.en).map Value.bool).toArray:=by
     unfold bV; rw [rowV_maps,hxl]; rfl
    rw [e] at hE
    have:=own_ofBlk (base:=w3.heap.size) hgE hE (by rw [List.length_map,hEl]; unfold maxLen; omega)
    rwa [List.length_map,hEl] at this
   have oT:W5.ownsRow w3.heap.size 9 1 (.slice (some ⟨gT,0,none⟩) xl xl) xl ((xs.map r.tl).map Value.string):=by
    have e:strsV (fun i => r.tail.getD (xs.getD i 0) ByteArray.empty) xl = ((xs.map r.tl).map Value.string).toArray:=by
     unfold strsV; rw [rowV_maps,hxl]; rfl
    rw [e] at hT
    have:=own_ofBlk (base:=w3.heap.size) hgT hT (by rw [List.length_map,hTl]; unfold maxLen; omega)
    rwa [List.length_map,hTl] at this
   have oE':W5.ownsRow w3.heap.size 4 1 (.slice (some ⟨gE,0,none⟩) xl xl) (xs.map r.en).length ((xs.map r.en).map Value.bool):=by rw [hEl]; exact oE
   have oT':W5.ownsRow w3.heap.size 9 1 (.slice (some ⟨gT,0,none⟩) xl xl) (xs.map r.tl).length ((xs.map r.tl).map Value.string):=by rw [hTl]; exact oT
   have HB:=SqB.ofE (W0:=w3) (blk_set5 hR (.string rf) nilV nilV (.slice (some ⟨gE,0,none⟩) xl xl) (.slice (some ⟨gT,0,none⟩) xl xl)) hgr' (below_set5 hb5 hgr' _ _ _ _ _)
    (own_set5 oE' (own_blk oE' hR (by decide)) _ _ _ _ _) (own_set5 oT' (own_blk oT' hR (by decide)) _ _ _ _ _)
   have HBh:=Lib.hid HB
   clear hR hE hT oE oT oE' oT' HB
   go_wp2
   refine NoPanic.normal ?_
   go_wp2
   clear q0 q1 q2 q3 q4 f0 f1 f2 f3 f4
   go_loopw [56] (fun i wq => ∃ (k:Nat) (vN vO:Value) (nv ov:List Value) (N:List (List Int)) (O:List (List ByteArray)),k≤xl∧i = .int .i64 (k:Int)∧SqB w3 wq gr rf vN vO (.slice (some ⟨gE,0,none⟩) xl xl) (.slice (some ⟨gT,0,none⟩) xl xl) nv ov N O (xs.map r.en) (xs.map r.tl)∧MinRows r m pl xs k N O) (fun i _ => xl - (intOf i).toNat)
   case atStart => exact ⟨0,nilV,nilV,[],[],[],[],Nat.zero_le _,rfl,HBh.out,MinRows.start⟩
   case round =>
    clear HBh hEl hTl
    obtain ⟨k,vN,vO,nv,ov,N,O,hk,rfl,HB,hM⟩:=hrel
    obtain ⟨An,cn,rfl,vn1,vn2,_⟩:=own_form HB.oN
    obtain ⟨Ao,co,rfl,vo1,vo2,_⟩:=own_form HB.oO
    have HLn:=Lib.hid (show N.length≤1024∧O.length≤1024 by have:=hM.len; omega)
    have hwz:=HB.bel.size
    by_cases hlt:k < xl
    ·obtain ⟨s,hs⟩:∃ s,xs[k]? = some s:=⟨_,List.getElem?_eq_getElem (by omega)⟩
     have hsn:=(HOr.out.1.lt k s hs).1
     have hget:xs.getD k 0 = s:=by rw [List.getD_eq_getElem?_getD,hs]; rfl
     obtain ⟨ga,oa,rfl,hga,a1⟩:=cell_at (d:=0) (enc:=fun z:Nat => Value.int .i64 (z:Int)) (show Reads w3 w3.heap.size 1 As xl (xs.map fun z:Nat => Value.int .i64 (z:Int)) from HXr.out.2.2.1) k hlt
     rw [hget] at a1
     obtain ⟨g1,o1',A1',e1',rfl,hg1,x1,Q1,y1,z1⟩:=HXr.out.1.at_ s hsn
     obtain ⟨g2,o2',A2',e2',rfl,hg2,x2,Q2,y2,z2⟩:=HXr.out.2.1.at_ s hsn
     have en1:(r.next.map fun r => r.map (Value.int .i64)).getD s [] = (r.next.getD s []).map (Value.int .i64):=by
      rw [List.getD_eq_getElem?_getD,List.getD_eq_getElem?_getD,List.getElem?_map]
      cases r.next[s]? <;> rfl
     have en2:(r.outs.map fun r => r.map Value.string).getD s [] = (r.outs.getD s []).map Value.string:=by
      rw [List.getD_eq_getElem?_getD,List.getD_eq_getElem?_getD,List.getElem?_map]
      cases r.outs[s]? <;> rfl
     rw [en1] at x1 Q1 y1
     rw [en2] at x2 Q2 y2
     simp only [List.length_map] at x1 Q1 y1 x2 Q2 y2
     obtain ⟨hl1,hl2⟩:=HR.out.2.2.2.2.2.2 s hsn
     rw [hl1] at x1 Q1 y1
     rw [hl2] at x2 Q2 y2
     obtain ⟨ad1,rfl,had1,hc1⟩:=Q1.2 (by decide)
     obtain ⟨ad2,rfl,had2,hc2⟩:=Q2.2 (by decide)
     rw [map_row (Value.int .i64) 0 hl1] at hc1
     rw [map_row Value.string ByteArray.empty hl2] at hc2
     have HSrc:=Lib.hid (fun (W:World) (hb:Below w3.heap.size w3 W) => And.intro (fun (j:Nat) (u:Value) (h:(rowV (fun b => Value.int .i64 (r.nx s b)) 256)[j]? = some u) => (hb.cell (p:=ad1.add j) (by rw [show (ad1.add j).block = ad1.block from by unfold Addr.add; split <;> rfl]; exact had1)).trans (hc1 j u h)) (fun (j:Nat) (u:Value) (h:(rowV (fun b => Value.string (r.os s b)) 256)[j]? = some u) => (hb.cell (p:=ad2.add j) (by rw [show (ad2.add j).block = ad2.block from by unfold Addr.add; split <;> rfl]; exact had2)).trans (hc2 j u h)))
     have HX12:=Lib.hid (And.intro x1 x2)
     have HO2:=Lib.hid (map_row Value.string ByteArray.empty hl2)
     have Hs:=Lib.hid hs
     have hi1:(0:Int)≤(k:Int):=by omega
     have hi2:(k:Int) < (xl:Int):=by omega
     have hi3:(0:Int)≤(s:Int):=by omega
     have hi4:(s:Int) < (n:Int):=by omega
     have a2:=(HB.bel.cell (p:=⟨ga,oa + k,none⟩) (by show ga < _; exact hga)).trans a1
     obtain ⟨iN,hiN,hN0,hN1,hN2⟩:=info_parts int_infoS
     obtain ⟨iO,hiO,hO0,hO1,hO2⟩:=info_parts str_infoS
     have HBh:=Lib.hid HB
     have HMh:=Lib.hid hM
     clear hc1 hc2 Q1 Q2 x1 x2 en1 en2 hget hs a1 hM hl1 hl2 y1 y2 z1 z2
     obtain ⟨Wk,hWk⟩:∃ Wk,Wk = wr:=⟨_,rfl⟩
     subst hWk
     go_wp2
     clear a2
     refine pair_below (d0:=60) (d1:=61) (e0:=12) (by kernel_rfl) (by kernel_rfl) (by decide) (by decide) (by decide) ⟨by show 60 < 110; decide,by show 61 < 110; decide⟩
      (maker_sliceC rfl rfl 256 55 rfl 3 iN _ 1 Tryz.underlying55 hiN hN0 hN1 (by rw [hN2]; decide) (by unfold maxLen; decide))
      (maker_sliceC rfl rfl 256 25 rfl 9 iO _ 1 Tryz.underlying25 hiO hO0 hO1 (by rw [hO2]; decide) (by unfold maxLen; decide)) rfl rfl rfl ?_
     rintro vi vj w6 hb6' ⟨gN,rfl,gN1,hoN⟩ ⟨gO,rfl,gO1,hoO⟩
     rw [show (Value.int .i64 0).cells = #[Value.int .i64 0] from rfl,Nat.mul_one,toList_madeCells_one,rowV_const] at hoN
     rw [show (Value.string ByteArray.empty).cells = #[Value.string ByteArray.empty] from rfl,Nat.mul_one,toList_madeCells_one,rowV_const] at hoO
     have HT0:TrnW Wk w6 gN gO (fun _ => 0) (fun _ => ByteArray.empty):=⟨blk_of_made hoN,blk_of_made hoO,gN1,gO1,hb6'⟩
     have hbw6:=HBh.out.bel.trans (hb6'.mono HBh.out.bel.size)
     have c1:=(HJ.out.1.below hbw6 HJ.out.1.lt).cell 1
     have c2:=(hbw6.cell (p:=⟨g1,o1' + s,none⟩) (by show g1 < _; exact hg1)).trans HX12.out.1
     have hszi:(Tryz.prog.info? 3).map (·.size) = some 1:=by rw [hiN]; simp [hN1]
     have hszs:(Tryz.prog.info? 9).map (·.size) = some 1:=by rw [hiO]; simp [hO1]
     have hsr1:=(HSrc.out w6 hbw6).1
     have HT:=HT0.n
     have hT0:=Lib.hid HT0
     have hone1:∀ v∈rowV (fun b => Value.int .i64 (r.nx s b)) 256,v.oneCell' = true:=fun v hv => by
      unfold rowV at hv
      obtain ⟨b,_,rfl⟩:=List.mem_map.1 hv
      rfl
     have hone2:∀ v∈rowV (fun b => Value.string (r.os s b)) 256,v.oneCell' = true:=fun v hv => by
      unfold rowV at hv
      obtain ⟨b,_,rfl⟩:=List.mem_map.1 hv
      rfl
     have hcl:(intsV (fun _ => 0) 256).size = 256:=by unfold intsV; rw [List.size_toArray,rowV_len]
     clear hoN hoO gN1 gO1 hb6' HT0 hiN hN0 hN1 hN2 hiO hO0 hO1 hO2
     simp only [Act.put]
     go_wp2
     refine NoPanic.normal ?_
     go_upto_region 12 with (with_reducible refine wpList_copy_full (o:=⟨some 68,_,_,_,_,_⟩) rfl (.tmp 62) (.tmp 67) 55 55 rfl 3 Tryz.underlying55 hszi gN 256 256 e1' ad1 rfl rfl _ _ HT hcl (rowV (fun b => Value.int .i64 (r.nx s b)) 256) (rowV_len _ _) hsr1 hone1 ?_; intro w7 hb7 hg7)
     have HT7:=hT0.out.putN (fn':=fun b => r.nx s b) (show Blk w7 gN 3 (intsV (fun b => r.nx s b) 256) from hb7.out) hg7
     have hbw7:=HBh.out.bel.trans (HT7.bel.mono HBh.out.bel.size)
     have c3:=(HJ.out.1.below hbw7 HJ.out.1.lt).cell 2
     have c4:=(hbw7.cell (p:=⟨g2,o2' + s,none⟩) (by show g2 < _; exact hg2)).trans HX12.out.2
     have hsr2:=(HSrc.out w7 hbw7).2
     have HTo:=HT7.o
     have hT7:=Lib.hid HT7
     have hcl2:(strsV (fun _ => ByteArray.empty) 256).size = 256:=by unfold strsV; rw [List.size_toArray,rowV_len]
     clear c1 c2 hsr1 HT hone1 hcl hb7 hg7 HT7 hT0
     go_upto_region 13 with (with_reducible refine wpList_copy_full (o:=⟨some 75,_,_,_,_,_⟩) rfl (.tmp 69) (.tmp 74) 25 25 rfl 9 Tryz.underlying25 hszs gO 256 256 e2' ad2 rfl rfl _ _ HTo hcl2 (rowV (fun b => Value.string (r.os s b)) 256) (rowV_len _ _) hsr2 hone2 ?_; intro w8 hb8 hg8)
     have HT8:=Lib.hid (hT7.out.putO (fo':=fun b => r.os s b) (show Blk w8 gO 9 (strsV (fun b => r.os s b) 256) from hb8.out) hg8)
     clear c3 c4 hsr2 HTo hone2 hcl2 hb8 hg8 hT7
     go_wp2
     go_loopw [78] (fun i wq => ∃ (b:Nat) (fn:Nat→Int),b≤256∧i = .int .i64 (b:Int)∧TrnW Wk wq gN gO fn (fun b => r.os s b)∧∀ j,j < 256→fn j = if j < b then minRow r m pl s j else r.nx s j) (fun i _ => 256 - (intOf i).toNat)
     case atStart => exact ⟨0,_,Nat.zero_le _,rfl,HT8.out,fun j _ => by rw [if_neg (Nat.not_lt_zero _)]⟩
     case round =>
      clear HT8
      obtain ⟨b,fn,hb,rfl,HW,hfn⟩:=hrel
      have Hfn:=Lib.hid hfn
      clear hfn
      by_cases hltb:b < 256
      ·have hb1:(0:Int)≤(b:Int):=by omega
       have hb2:(b:Int) < 256:=by omega
       have hfb:fn b = r.nx s b:=by rw [Hfn.out b hltb,if_neg (Nat.lt_irrefl _)]
       have u1:=(HW.n.cell b).trans (intsV_at _ hltb)
       have u2:=HW.n.frozen b
       rw [hfb] at u1
       have hzz:=ckB_nx HR.out.1 (s:=s) (by rw [HR.out.2.1]; exact hsn) hltb
       rw [HR.out.2.1] at hzz
       have hz1:=hzz.1
       have hz2:=hzz.2.1
       clear hzz
       by_cases hneg:r.nx s b < 0
       ·have HN:=Lib.hid (show ∀ j,j < 256→fn j = if j < b + 1 then minRow r m pl s j else r.nx s j from fun j hj => by
          rw [Hfn.out j hj]
          by_cases e:j = b
          ·subst e
           rw [if_neg (Nat.lt_irrefl _),if_pos (by omega)]
           unfold minRow; rw [if_pos hneg]
          ·by_cases e2:j < b
           ·rw [if_pos e2,if_pos (by omega)]
           ·rw [if_neg e2,if_neg (by omega)])
        have HWh:=Lib.hid HW
        have hge:¬ r.nx s b ≥ 0:=by omega
        clear HW hfb
        generalize r.nx s b = z at *
        go_wp2
        go_roundw
        case rel => exact ⟨b + 1,fn,by omega,by go_num,HWh.out,HN.out⟩
        case measure => simp [intOf]; omega
       ·obtain ⟨z,hz⟩:∃ z:Nat,r.nx s b = (z:Int):=⟨_,(Int.toNat_of_nonneg (by omega)).symm⟩
        have hzn:z < n:=by omega
        have hmz:=HPO.out.lt z hzn
        have hbwq:=HBh.out.bel.trans (HW.bel.mono HBh.out.bel.size)
        have a1:=((HXr.out.2.2.2.1.below hbwq HXr.out.2.2.2.1.lt).cell z).trans (iV_at m hzn)
        have a2:=((HXr.out.2.2.2.2.below hbwq HXr.out.2.2.2.2.lt).cell (m z)).trans (intsV_at pl hmz)
        have HN:=Lib.hid (show ∀ j,j < 256→(if j = b then pl (m z) else fn j) = if j < b + 1 then minRow r m pl s j else r.nx s j from fun j hj => by
         by_cases e:j = b
         ·subst e
          rw [if_pos rfl,if_pos (by omega)]
          unfold minRow; rw [if_neg hneg,hz,Int.toNat_natCast]
         ·rw [if_neg e,Hfn.out j hj]
          by_cases e2:j < b
          ·rw [if_pos e2,if_pos (by omega)]
          ·rw [if_neg e2,if_neg (by omega)])
        have HWh:=Lib.hid (HW.setN b hltb (pl (m z)))
        have hzi1:(0:Int)≤(z:Int):=by omega
        have hzi2:(z:Int) < (n:Int):=by omega
        have hge:(z:Int) ≥ 0:=by omega
        have hmi1:(0:Int)≤(m z:Int):=by omega
        have hmi2:(m z:Int) < (cc:Int):=by omega
        rw [hz] at u1 hneg
        clear HW hfb hz hz1 hz2
        generalize m z = mz at *
        generalize pl mz = pz at *
        go_wp2
        go_roundw
        case rel => exact ⟨b + 1,_,by omega,by go_num,HWh.out,HN.out⟩
        case measure => simp [intOf]; omega
      ·obtain rfl:b = 256:=by omega
       have hbN:Blk wr gN 3 (intsV (minRow r m pl s) 256):=by
        have:intsV fn 256 = intsV (minRow r m pl s) 256:=by
         unfold intsV
         rw [rowV_congr (fun j hj => by rw [Hfn.out j hj,if_pos hj])]
        rw [← this]; exact HW.n
       have hwz6:=HBh.out.bel.size
       have HrN:RowB w3.heap.size wr 3 (.slice (some ⟨gN,0,none⟩) 256 256) (((List.range 256).map (minRow r m pl s)).map (Value.int .i64)):=rowB_ints hbN (by have:=HW.bn; omega)
       have HrO:RowB w3.heap.size wr 9 (.slice (some ⟨gO,0,none⟩) 256 256) ((r.outs.getD s []).map Value.string):=by
        rw [HO2.out]
        exact ⟨gO,rfl,by have:=HW.bo; omega,HW.o,rowV_len _ _⟩
       have haO:∀ g,(Value.slice (some ⟨gT,0,none⟩) xl xl).ownBlock = some g→(Value.slice (some ⟨gO,0,none⟩) 256 256).ownBlock≠some g:=fun g e e2 => by
        have h1:=(own_lt HBh.out.oT g e).2
        have h2:gO = g:=Option.some.inj e2
        have:=HW.bo
        omega
       have HMp:=Lib.hid (HMh.out.put Hs.out)
       have HB6:=HBh.out.call HW.bel
       clear HW hbN HBh HMh
       obtain ⟨w6,hw6⟩:∃ w6,w6 = wr:=⟨_,rfl⟩
       subst hw6
       go_upto_region 19 with (fail)
       obtain ⟨iN,hiN,y0N,y1N,y2N⟩:=info_parts slI_info
       have qN:=HB6.box.cell 1
       have fN:=HB6.box.frozen 1
       have LBN:=(Below.refl w6.heap.size w6).alloc (Nat.le_refl _) (.cells #[.slice (some ⟨gN,0,none⟩) 256 256] 55)
       have HBN:=HB6.call LBN
       have hoN:=HBN.oN
       have hbzN:=HBN.box
       have hneN:=own_blk hoN hbzN (by decide)
       have hrdN:=reads_allocK w6 [.slice (some ⟨gN,0,none⟩) 256 256] 55 1 1 rfl
       have h63N:N.length + 1≤maxLen:=by have:=HLn.out; unfold maxLen; omega
       have hbyN:(N.length + 1) * 24≤140737488355328:=by have:=HLn.out; omega
       have honeN:∀ u∈[Value.slice (some ⟨gN,0,none⟩) 256 256],u.oneCell' = true:=fun u hu => by rw [List.mem_singleton] at hu; subst hu; rfl
       have hbsN:=HBN.bel.size
       have HrN7:=HrN.call LBN
       have HrO7:=HrO.call LBN
       clear HB6 HrN HrO
       go_upto_region 20 with (at_builtin; refine wpList_append_any _ rfl _ _ 22 rfl w3.heap.size 55 iN _ 1 24 Tryz.underlying22 hiN y0N y1N y2N rfl (by decide) _ _ _ rfl hoN _ (some ⟨w6.heap.size,0,none⟩) 1 1 [.slice (some ⟨gN,0,none⟩) 256 256] rfl hrdN honeN h63N hbyN hbsN ?_; intro vN' wN hownN hgrN hlocN; obtain ⟨A9N,c9N,rfl,_,_,_⟩:=own_form hownN; have e3N:=(blk_keep hbzN hgrN hneN).cell 1; have e4N:=(blk_keep hbzN hgrN hneN).frozen 1)
       have HB7:=HBN.putN hgrN hownN HrN7
       have HrO8:=(HrO7.kept hgrN (HrO7.ne_own hoN (by decide))).set (blk_keep hbzN hgrN hneN) (by decide) 1 (.slice A9N (N.length + 1) c9N)
       clear qN fN e3N e4N LBN hbzN hneN hrdN honeN h63N hbyN hbsN hoN hownN hgrN hlocN HBN HrN7 HrO7 hiN y0N y1N y2N
       generalize wN.setCell ⟨gr,1,none⟩ (.slice A9N (N.length + 1) c9N) = w7 at *
       obtain ⟨iO,hiO,y0O,y1O,y2O⟩:=info_parts slS_info
       have qO:=HB7.box.cell 2
       have fO:=HB7.box.frozen 2
       have LBO:=(Below.refl w7.heap.size w7).alloc (Nat.le_refl _) (.cells #[.slice (some ⟨gO,0,none⟩) 256 256] 25)
       have HBO:=HB7.call LBO
       have hoO:=HBO.oO
       have hbzO:=HBO.box
       have hneO:=own_blk hoO hbzO (by decide)
       have hrdO:=reads_allocK w7 [.slice (some ⟨gO,0,none⟩) 256 256] 25 1 1 rfl
       have h63O:O.length + 1≤maxLen:=by have:=HLn.out; unfold maxLen; omega
       have hbyO:(O.length + 1) * 24≤140737488355328:=by have:=HLn.out; omega
       have honeO:∀ u∈[Value.slice (some ⟨gO,0,none⟩) 256 256],u.oneCell' = true:=fun u hu => by rw [List.mem_singleton] at hu; subst hu; rfl
       have hbsO:=HBO.bel.size
       have HrO9:=HrO8.call LBO
       clear HB7 HrO8
       go_wp2_with (at_builtin; refine wpList_append_any _ rfl _ _ 23 rfl w3.heap.size 25 iO _ 1 24 Tryz.underlying23 hiO y0O y1O y2O rfl (by decide) _ _ _ rfl hoO _ (some ⟨w7.heap.size,0,none⟩) 1 1 [.slice (some ⟨gO,0,none⟩) 256 256] rfl hrdO honeO h63O hbyO hbsO ?_; intro vO' wO hownO hgrO hlocO; obtain ⟨A9O,c9O,rfl,_,_,_⟩:=own_form hownO; have e3O:=(blk_keep hbzO hgrO hneO).cell 2; have e4O:=(blk_keep hbzO hgrO hneO).frozen 2)
       have HB8:=Lib.hid (HBO.putO hgrO hownO HrO9 haO)
       clear qO fO e3O e4O LBO hbzO hneO hrdO honeO h63O hbyO hbsO hoO hownO hgrO hlocO HBO HrO9 haO hiO y0O y1O y2O
       go_roundw
       case rel => exact ⟨k + 1,_,_,_,_,_,_,by omega,by go_num,HB8.out,HMp.out⟩
       case measure => simp [intOf]; omega
    ·obtain rfl:xl = k:=by omega
     have hO1:=HOr.out.1
     rw [← HXL.out] at hO1 hM
     have hsq:=hM.seq
     rw [Hrf.out] at hsq
     have hsm:=min_small HR.out.1 HR.out.2.1 HPO.out hO1
     have hcn:=min_canon HR.out.1 HR.out.2.1 HPO.out hO1 HR.out.2.2.2.2.2.1
     have hkk:=min_ck HR.out.1 HR.out.2.1 HPO.out hO1 HR.out.2.2.2.2.2.1
     have hru:=min_run HR.out.1 HR.out.2.1 HPO.out hO1
     have hml0:=minM_len (q:=r) (m:=m) (xs:=xs) (pl:=pl)
     rw [hsq] at hsm hcn hkk hru hml0
     have hml:N.length = xs.length:=hml0
     have hfs:=(ck_parts HR.out.1).2.2.2.2.1
     rw [Hrf.out] at hfs
     have hln:=hcn.lens
     have hq:=HB.seqNew (m:=1024) (Nat.le_refl _) ⟨by rw [hml]; omega,hln.1,hln.2.1,hln.2.2,by omega,fun i hi => by
      rw [hml] at hi ⊢
      exact hsm.2 i hi⟩
     have hbq:=HB.bel
     have Jr9:=HJ.out.2.1.below hbq HJ.out.2.1.lt
     have hb99:=HJ.out.2.2.trans (hbq.mono hz3)
     have HFn:=Lib.hid (fun (W:World) (hb:Below w.heap.size w W) (v:Value) (hq:SeqNew w.heap.size W ⟨rf,N,O,xs.map r.en,xs.map r.tl⟩ v) => hfin2.out W hb v _ hq hcn hkk hru)
     have HQ:=Lib.hid hq
     have k0:=HB.box.cell 0
     have k1:=HB.box.cell 1
     have k2:=HB.box.cell 2
     have k3:=HB.box.cell 3
     have k4:=HB.box.cell 4
     have r0:=Jr9.cell 0
     have r1:=Jr9.cell 1
     have r2:=Jr9.cell 2
     have r3:=Jr9.cell 3
     have r4:=Jr9.cell 4
     have g0:=Jr9.frozen 0
     have g1:=Jr9.frozen 1
     have g2:=Jr9.frozen 2
     have g3:=Jr9.frozen 3
     have g4:=Jr9.frozen 4
     clear HB hM hO1 hsq hsm hcn hkk hru hml hml0 hfs hln hq
     generalize N.length = nl at *
     generalize O.length = ol at *
     go_wp2_with fail
     exact min_ret rfl rfl (blk_set5 Jr9 _ _ _ _ _) (HFn.out _ (below_set5 hb99 (by omega) _ _ _ _ _) _ ((seqNew_set5 HQ.out (show w.heap.size + 1 < w3.heap.size from hlt4) _ _ _ _ _).mono (by omega)))
end Go.Proofs.YtcondkihpmmnnaaGreatDoor
