/- Lemmas, part 48 of 50. No condition. -/
import Derived.Test.YtcondkihpmmnnaaGreatDoorQ44
import Derived.Test.YtcondkihpmmnnaaGreatDoorQ47
import Derived.Test.YtcondkihpmmnnaaGreatDoorQ35
import Derived.Test.YtcondkihpmmnnaaGreatDoorQ18
import Derived.Test.YtcondkihpmmnnaaGreatDoorQ27
import Derived.Test.YtcondkihpmmnnaaGreatDoorQ15
namespace Go.Proofs.YtcondkihpmmnnaaGreatDoor
open Go.RowKit Go.Sort
def OnePost (w:World) (e:Ending) (w':World):Prop:=∃ vt,e = .returned vt∧FstAt w' w'.heap.size oneT vt∧Below w.heap.size w w'
set_option maxRecDepth 100000 in
theorem one_ret {R:Ending→World→Prop} {tmps:Array Value} {gq:Nat} {c0 c1 c2 c3:Value} {W:World} (h4:tmps[4]? = some (.pointer (some ⟨gq,0,none⟩)))
    (hq:Blk W gq 32 #[c0,c1,c2,c3]) (h:R (.returned (.agg #[c0,c1,c2,c3])) W):bodyPost Tryz.prog Tryz.f22 R Exit.ret ⟨tmps,[]⟩ W:=by
 have q0:=hq.cell 0
 have q1:=hq.cell 1
 have q2:=hq.cell 2
 have q3:=hq.cell 3
 exact bodyPost_ret (v:=.agg #[c0,c1,c2,c3]) (by simp [results,Tryz.results22,go_sem,q0,q1,q2,q3,h4]) rfl h
theorem reads_ofBlk {w:World} {g k n:Nat} {T:TypeId} {xs:List Value} (h:Blk w g T xs.toArray) (hn:xs.length = n * k):Reads w w.heap.size k (some ⟨g,0,none⟩) n xs :=
 ⟨hn,fun _ => ⟨_,rfl,h.lt,fun j u hj => by rw [add_mk,Nat.zero_add,h.cell]; simpa using hj⟩⟩
theorem blk_set4 {gq:Nat} {W:World} {T:TypeId} {c0 c1 c2 c3:Value} (h:Blk W gq T #[c0,c1,c2,c3]) (v0 v1 v2 v3:Value):Blk ((((W.setCell ⟨gq,0,none⟩ v0).setCell ⟨gq,1,none⟩ v1).setCell ⟨gq,2,none⟩ v2).setCell ⟨gq,3,none⟩ v3) gq T #[v0,v1,v2,v3] :=
 (((h.set_ 0 v0).set_ 1 v1).set_ 2 v2).set_ 3 v3
theorem far_set4 {gq g:Nat} {W:World} {T:TypeId} {cs:Array Value} (h:Blk W g T cs) (hn:g≠gq) (v0 v1 v2 v3:Value):Blk ((((W.setCell ⟨gq,0,none⟩ v0).setCell ⟨gq,1,none⟩ v1).setCell ⟨gq,2,none⟩ v2).setCell ⟨gq,3,none⟩ v3) g T cs :=
 (((h.far (p:=⟨gq,0,none⟩) hn v0).far (p:=⟨gq,1,none⟩) hn v1).far (p:=⟨gq,2,none⟩) hn v2).far (p:=⟨gq,3,none⟩) hn v3
set_option maxRecDepth 100000 in
set_option maxHeartbeats 4000000 in
theorem one_any (w:World):Calls Tryz.prog 22 #[.int .u8 97,.string xyB] w (OnePost w):=by
 have hof:=fun (W:World) (g:Nat) (HRW:Reads W W.heap.size 1 (some ⟨g,0,none⟩) 1 (byteVals [97])) => of_any (some ⟨g,0,none⟩) 1 1 _ [97] W HRW (Nat.le_refl _) (by decide) (Nat.le_refl _) (by decide)
 have HXY:=Lib.hid (Eq.refl xyB)
 generalize hxy:xyB = xy at *
 have L0:=(Below.refl w.heap.size w).alloc (Nat.le_refl _) (.cells #[.int .i64 0,.slice none 0 0,.slice none 0 0,.slice none 0 0] 32)
 go_enter Tryz.func22,Tryz.ntmps22
 go_wp2_with fail
 have K0:=Blk.new w 32 #[.int .i64 0,.slice none 0 0,.slice none 0 0,.slice none 0 0]
 generalize hw1:w.alloc (.cells #[.int .i64 0,.slice none 0 0,.slice none 0 0,.slice none 0 0] 32) = w1 at *
 have z1:w1.heap.size = w.heap.size + 1:=by rw [← hw1,World.size_alloc]
 have L1:=(Below.refl w1.heap.size w1).alloc (Nat.le_refl _) (.cells #[.int .i64 0,.string ⟨#[]⟩] 54)
 have K1:=Blk.new w1 54 #[.int .i64 0,.string ⟨#[]⟩]
 generalize hw2:w1.alloc (.cells #[.int .i64 0,.string ⟨#[]⟩] 54) = w2 at *
 have z2:w2.heap.size = w.heap.size + 1 + 1:=by rw [← hw2,World.size_alloc,z1]
 have L2:=(Below.refl w2.heap.size w2).alloc (Nat.le_refl _) (.cells #[.int .i64 1,.string ⟨#[]⟩] 54)
 have K2:=Blk.new w2 54 #[.int .i64 1,.string ⟨#[]⟩]
 generalize hw3:w2.alloc (.cells #[.int .i64 1,.string ⟨#[]⟩] 54) = w3 at *
 have z3:w3.heap.size = w.heap.size + 1 + 1 + 1:=by rw [← hw3,World.size_alloc,z2]
 have L3:=(Below.refl w3.heap.size w3).alloc (Nat.le_refl _) (.cells #[.int .u8 97] 5)
 have R3:=reads_ofBlk (k:=1) (n:=1) (xs:=byteVals [97]) (Blk.new w3 5 #[.int .u8 97]) rfl
 rw [z3] at R3
 have hc:=hof _ _ R3
 generalize hw4:w3.alloc (.cells #[.int .u8 97] 5) = w4 at *
 refine hc.mono ?_
 rintro e w5 ⟨rfl,hb5⟩
 have z4:=hb5.size
 have z34:=L3.size
 have B5:Below w1.heap.size w1 w5:=L1.trans ((L2.trans ((L3.trans (hb5.mono L3.size)).mono L2.size)).mono L1.size)
 have B52:Below w2.heap.size w2 w5:=L2.trans ((L3.trans (hb5.mono L3.size)).mono L2.size)
 have B53:Below w3.heap.size w3 w5:=L3.trans (hb5.mono L3.size)
 have J0:=K0.below B5 K0.lt
 have J1:=K1.below B52 K1.lt
 have J2:=K2.below B53 K2.lt
 rw [z1] at J1
 rw [z2] at J2
 have k0:=J0.cell 0
 have k1:=J0.cell 1
 have k2:=J0.cell 2
 have k3:=J0.cell 3
 have f0:=J0.frozen 0
 have f1:=J0.frozen 1
 have f2:=J0.frozen 2
 have f3:=J0.frozen 3
 have BW:=L0.trans (B5.mono (by omega))
 have hz5:w.heap.size + 1 + 1 + 1≤w5.heap.size:=by omega
 clear hc hof L0 L1 L2 L3 K0 K1 K2 R3 hb5 B5 B52 B53 z4 z34 hw1 hw2 hw3 hw4 z1 z2 z3
 have hl:=J0.lt
 have n1:w.heap.size + 1≠w.heap.size:=by omega
 have n2:w.heap.size + 1 + 1≠w.heap.size:=by omega
 have BW6:∀ v0 v1 v2 v3:Value,Below w.heap.size w ((((w5.setCell ⟨w.heap.size,0,none⟩ v0).setCell ⟨w.heap.size,1,none⟩ v1).setCell ⟨w.heap.size,2,none⟩ v2).setCell ⟨w.heap.size,3,none⟩ v3):=fun v0 v1 v2 v3 =>
  (((BW.setCell (p:=⟨w.heap.size,0,none⟩) (Nat.le_refl _) v0).setCell (p:=⟨w.heap.size,1,none⟩) (Nat.le_refl _) v1).setCell (p:=⟨w.heap.size,2,none⟩) (Nat.le_refl _) v2).setCell (p:=⟨w.heap.size,3,none⟩) (Nat.le_refl _) v3
 have HF:=Lib.hid (fun v0 v1 v2 v3:Value => And.intro (blk_set4 J0 v0 v1 v2 v3) (And.intro (far_set4 J1 n1 v0 v1 v2 v3) (far_set4 J2 n2 v0 v1 v2 v3)))
 have HW:=Lib.hid BW6
 clear J0 J1 J2 BW BW6
 go_wp2_with fail
 have hsz:((((w5.setCell ⟨w.heap.size,0,none⟩ (.int .i64 2)).setCell ⟨w.heap.size,1,none⟩ (.slice (some ⟨w.heap.size + 1,0,none⟩) 1 1)).setCell ⟨w.heap.size,2,none⟩ (.slice (some ⟨w.heap.size + 1 + 1,0,none⟩) 1 1)).setCell ⟨w.heap.size,3,none⟩ (.slice (some ⟨w5.heap.size,0,none⟩) 1 1)).heap.size = w5.heap.size:=by simp
 obtain ⟨J0,J1,J2⟩:=HF.out (.int .i64 2) (.slice (some ⟨w.heap.size + 1,0,none⟩) 1 1) (.slice (some ⟨w.heap.size + 1 + 1,0,none⟩) 1 1) (.slice (some ⟨w5.heap.size,0,none⟩) 1 1)
 have HB:=HW.out (.int .i64 2) (.slice (some ⟨w.heap.size + 1,0,none⟩) 1 1) (.slice (some ⟨w.heap.size + 1 + 1,0,none⟩) 1 1) (.slice (some ⟨w5.heap.size,0,none⟩) 1 1)
 generalize ((((w5.setCell ⟨w.heap.size,0,none⟩ (.int .i64 2)).setCell ⟨w.heap.size,1,none⟩ (.slice (some ⟨w.heap.size + 1,0,none⟩) 1 1)).setCell ⟨w.heap.size,2,none⟩ (.slice (some ⟨w.heap.size + 1 + 1,0,none⟩) 1 1)).setCell ⟨w.heap.size,3,none⟩ (.slice (some ⟨w5.heap.size,0,none⟩) 1 1)) = w6 at *
 have J3:=Blk.new w6 61 #[.int .i64 0,.int .i64 1,.int .u64 ((word (sOf [97]) 0:Nat):Int),.int .u64 ((word (sOf [97]) 1:Nat):Int),.int .u64 ((word (sOf [97]) 2:Nat):Int),.int .u64 ((word (sOf [97]) 3:Nat):Int),.string xy,.bool false]
 rw [hsz] at J3
 subst hxy
 refine one_ret rfl (J0.alloc _) ⟨_,rfl,⟨_,1,_,1,_,1,rfl,?_⟩,HB.alloc HB.size _⟩
 refine ⟨Nat.le_refl _,Nat.le_refl _,Nat.le_refl _,by unfold maxLen; decide,by unfold maxLen; decide,by unfold maxLen; decide,by decide,by decide,reads_ofBlk (J1.alloc _) rfl,fun x hx => ?_,reads_ofBlk (J2.alloc _) rfl,fun x hx => ?_,reads_ofBlk J3 rfl,fun x hx => ?_⟩
 ·obtain rfl:=List.mem_singleton.1 hx
  exact ⟨by decide,by decide,by unfold maxLen; decide⟩
 ·obtain rfl:=List.mem_singleton.1 hx
  exact ⟨by decide,by decide,by unfold maxLen; decide⟩
 ·obtain rfl:=List.mem_singleton.1 hx
  refine ⟨by decide,by decide,by decide,by decide,?_,by unfold maxLen; decide⟩
  unfold StW aS
  decide +kernel
end Go.Proofs.YtcondkihpmmnnaaGreatDoor
namespace Go.Proofs.YtcondkihpmmnnaaGreatDoor
open Go.RowKit Go.Sort
theorem oneT_ck:fckB oneT = true:=by decide +kernel
theorem xy_of {o:ByteArray} (h:bl o = [120,121]):o = ⟨#[120,121]⟩:=bl_inj h
set_option maxRecDepth 100000 in
set_option maxHeartbeats 4000000 in
theorem made_any (w:World) (hP:Pow w w.heap.size):Calls Tryz.prog 8 #[] w (Gives (.bool true) w):=by
 have h1:Calls Tryz.prog 22 #[.int .u8 97,.string ⟨#[120,121]⟩] w (OnePost w):=one_any w
 have H1:=Lib.hid h1
 clear h1
 go_enter Tryz.func8,Tryz.ntmps8
 go_wp2_with fail
 refine H1.out.mono ?_
 clear H1
 rintro e w1 ⟨vt,rfl,hT,hb1⟩
 have hof:=Lib.hid (seqOf_any oneT vt w1.heap.size 5 w1 hT (Nat.le_refl _) ((hP.below hb1).mono hb1.size) (by decide))
 clear hT
 go_wp2_with fail
 refine hof.out.mono ?_
 clear hof
 rintro e w2 ⟨hb2,v2,q,k,rfl,hq,_,_,h5⟩
 obtain ⟨u,f,htr,_,h6⟩:=h5 oneT_ck (by decide) (by decide)
 rw [show (5:Int).toNat = 5 from rfl,(one_of htr).all] at h6
 obtain ⟨rfl,rfl⟩:=h6
 obtain ⟨A1,c1,A2,c2,A3,c3,A4,c4,rfl,_⟩:=hq.at_
 have B2:=hb1.trans (hb2.mono hb1.size)
 have hz1:=hb1.size
 have hz2:=hb2.size
 clear h5 htr hb1 hb2
 generalize hfe:q1.front = fr at *
 generalize hn1:q1.next.length = n1 at *
 generalize hn2:q1.outs.length = n2 at *
 generalize hn3:q1.ends.length = n3 at *
 generalize hn4:q1.tail.length = n4 at *
 clear hfe hn1 hn2 hn3 hn4
 have K2:=(Blk.new w2 27 #[.string fr,.slice A1 n1 c1,.slice A2 n2 c2,.slice A3 n3 c3,.slice A4 n4 c4])
 have L2:=(Below.refl w2.heap.size w2).alloc (Nat.le_refl _) (.cells #[.string fr,.slice A1 n1 c1,.slice A2 n2 c2,.slice A3 n3 c3,.slice A4 n4 c4] 27)
 have hq3:=hq.below L2
 have B3:=B2.trans (L2.mono B2.size)
 have hmi:=Lib.hid (min_any q1 _ _ _ hq3.at_ (Nat.le_refl _) ((hP.below B3).mono B3.size))
 clear hq hq3
 go_wp2_with fail
 refine hmi.out.mono ?_
 clear hmi
 rintro e w4 ⟨hb4,v4,r,k,rfl,hr,hcase⟩
 have hgood:k = 0∧Canon r∧ckB r = true∧∀ x,r.run x = q1.run x:=by
  rcases hcase with ⟨h,_⟩ | ⟨_,⟨_,_,k',hf,hl⟩ | ⟨h1,⟨_,h2⟩ | ⟨h2,h3,h4⟩⟩⟩
  ·rw [q1_ck] at h; cases h
  ·exact absurd hl (q1_short hf)
  ·have:=h2 [97]
   rw [q1_run] at this; cases this
  ·exact ⟨h1,h2,h3,h4⟩
 obtain ⟨rfl,hcn,hck,hrn⟩:=hgood
 have hfront:=made_front hcn hrn
 obtain ⟨D1,d1,D2,d2,D3,d3,D4,d4,rfl,_⟩:=hr.at_
 have hrun:=hrn [97]
 rw [q1_run] at hrun
 rw [hfront] at hr ⊢
 have B4:=B3.trans (hb4.mono B3.size)
 clear hcase hcn hrn hfront K2 L2 B3 B2 hb4
 have K4:=(Blk.new w4 27 #[.string ⟨#[120,121]⟩,.slice D1 r.next.length d1,.slice D2 r.outs.length d2,.slice D3 r.ends.length d3,.slice D4 r.tail.length d4])
 have L4:=(Below.refl w4.heap.size w4).alloc (Nat.le_refl _) (.cells #[.string ⟨#[120,121]⟩,.slice D1 r.next.length d1,.slice D2 r.outs.length d2,.slice D3 r.ends.length d3,.slice D4 r.tail.length d4] 27)
 have hr5:=hr.below L4
 have B5:=B4.trans (L4.mono B4.size)
 have hap:=Lib.hid (apply_any r _ _ ⟨#[97]⟩ _ hr5.at_ (Nat.le_refl _) (by decide))
 have HRun:=Lib.hid (And.intro hck hrun)
 have hxy:Value.string xyB = Value.string ⟨#[120,121]⟩:=rfl
 rw [hxy] at hap ⊢
 clear hr hr5 hck hrun hxy
 generalize r.next.length = m1 at *
 generalize r.outs.length = m2 at *
 generalize r.ends.length = m3 at *
 generalize r.tail.length = m4 at *
 go_wp2_with fail
 refine hap.out.mono ?_
 clear hap
 rintro e w6 ⟨o,k',b,rr,rfl,hb6,_,_,h2,_⟩
 obtain ⟨rfl,h3⟩:=h2 HRun.out.1
 rw [show bl ⟨#[97]⟩ = [97] from rfl,HRun.out.2] at h3
 have hb:b = true:=by
  rcases b with _ | _
  ·cases h3
  ·rfl
 subst hb
 have h3:some [120,121] = some (bl o):=h3
 obtain rfl:=xy_of (Option.some.inj h3).symm
 have q0:=(K4.below hb6 K4.lt).cell 0
 have HB:=Lib.hid (show Gives (.bool true) w (.returned (.bool true)) w6 from ⟨rfl,B5.trans (hb6.mono B5.size)⟩)
 clear h2 h3 HRun L4 K4 B4 B5 hb6
 go_wp2_with fail
 exact bodyPost_ret (v:=.bool true) (by simp [results,Tryz.results8,go_sem]) rfl HB.out
end Go.Proofs.YtcondkihpmmnnaaGreatDoor
