/- Lemmas, part 49 of 50. No condition. -/
import Derived.Test.YtcondkihpmmnnaaGreatDoorQ48
import Derived.Test.YtcondkihpmmnnaaGreatDoorQ13
import Derived.Test.YtcondkihpmmnnaaGreatDoorQ09
namespace Go.Proofs.YtcondkihpmmnnaaGreatDoor
open Go.RowKit Go.Sort
theorem ck_of_all {u:Fs} {most:Nat} {q:SeqM} (hr:Right u) (hm:most≤1024) (h:allF u most = .ok q):ckB q = true:=by
 obtain ⟨a1,a2,a3,a4,a5,a6,a7⟩:=allF_right hr h
 unfold ckB
 simp only [Bool.and_eq_true,Bool.or_eq_true,decide_eq_true_eq,List.all_eq_true]
 refine ⟨⟨⟨⟨⟨⟨by omega,a2⟩,a3⟩,a4⟩,a5⟩,?_⟩,fun i hi => ?_⟩
 ·by_cases h0:q.next.length = 0
  ·right; rw [a6 h0]; rfl
  ·exact .inl h0
 ·have hi:=List.mem_range.1 hi
  obtain ⟨t1,t2,t3,t4,t5⟩:=a7 i hi
  unfold stB rowB entB
  simp only [Bool.and_eq_true,Bool.or_eq_true,decide_eq_true_eq,List.all_eq_true]
  refine ⟨⟨t1,?_⟩,⟨t3,t4⟩,fun b hb => ?_⟩
  ·rcases he:q.en i with _ | _
   ·right
    show (q.tl i).size = 0
    rw [t2 he]; rfl
   ·left; exact he
  ·have hb:=List.mem_range.1 hb
   obtain ⟨u1,u2,u3,u4⟩:=t5 b hb
   refine ⟨⟨⟨u1,u2⟩,u3⟩,?_⟩
   by_cases h0:q.nx i b = -1
   ·right
    show (q.os i b).size = 0
    rw [u4 h0]; rfl
   ·exact .inl h0
theorem top_plain {p q r:SeqM} {t o1 o2 o3:ByteArray} {b1 b2 b3:Bool} (h:∀ w o,r.run w = some o↔∃ m,p.run w = some m∧q.run m = some o)
    (h1:p.run (bl t) = if b1 = true then some (bl o1) else none) (h2:q.run (bl o1) = if b2 = true then some (bl o2) else none) (h3:r.run (bl t) = if b3 = true then some (bl o3) else none) :
    (b3 = if b1 = true then b2 else false)∧(b3 = true→o2 = o3):=by
 have hh:=h (bl t)
 rcases b1 with _ | _
 ·rw [if_neg (by decide)] at h1
  rw [if_neg (by decide)]
  rcases b3 with _ | _
  ·exact ⟨rfl,fun h => by cases h⟩
  ·rw [if_pos rfl] at h3
   obtain ⟨m,k1,_⟩:=(hh _).1 h3
   rw [h1] at k1; cases k1
 ·rw [if_pos rfl] at h1 ⊢
  rcases b2 with _ | _
  ·rw [if_neg (by decide)] at h2
   rcases b3 with _ | _
   ·exact ⟨rfl,fun h => by cases h⟩
   ·rw [if_pos rfl] at h3
    obtain ⟨m,k1,k2⟩:=(hh _).1 h3
    rw [h1] at k1
    obtain rfl:=Option.some.inj k1
    rw [h2] at k2; cases k2
  ·rw [if_pos rfl] at h2
   have:=(hh (bl o2)).2 ⟨_,h1,h2⟩
   rw [this] at h3
   rcases b3 with _ | _
   ·cases h3
   ·rw [if_pos rfl] at h3
    exact ⟨rfl,fun _ => bl_inj (Option.some.inj h3)⟩
set_option maxRecDepth 100000 in
set_option maxHeartbeats 16000000 in
theorem top_walk (p q:SeqM) (v1 v2:Value) (most:Int) (t:ByteArray) (w:World) (HS1:SeqAt w w.heap.size p v1) (HS2:SeqAt w w.heap.size q v2) (hmo:-9223372036854775808≤most∧most≤9223372036854775807) (hP:Pow w w.heap.size) :
    Calls Tryz.prog 3 #[v1,v2,.int .i64 most,.string t] w (Gives (.bool true) w):=by
 have HSp:=Lib.hid (fun W (hb:Below w.heap.size w W) => (HS1.below hb).more hb.size)
 have HSq:=Lib.hid (fun W (hb:Below w.heap.size w W) => (HS2.below hb).more hb.size)
 have HPw:=Lib.hid (fun W (hb:Below w.heap.size w W) => (hP.below hb).mono hb.size)
 obtain ⟨A1,c1,A2,c2,A3,c3,A4,c4,rfl,hf,_⟩:=HS1
 obtain ⟨D1,d1,D2,d2,D3,d3,D4,d4,rfl,hg,_⟩:=HS2
 have Hfp:=Lib.hid (fun W (hb:Below w.heap.size w W) => few_any p _ W.heap.size W (HSp.out W hb) (Nat.le_refl _))
 have Hfq:=Lib.hid (fun W (hb:Below w.heap.size w W) => few_any q _ W.heap.size W (HSq.out W hb) (Nat.le_refl _))
 have Hbp:=Lib.hid (fun W (hb:Below w.heap.size w W) => seqBack_any p _ W.heap.size W (HSp.out W hb) (Nat.le_refl _))
 have Hbq:=Lib.hid (fun W (hb:Below w.heap.size w W) => seqBack_any q _ W.heap.size W (HSq.out W hb) (Nat.le_refl _))
 have Hap:=Lib.hid (fun W (hb:Below w.heap.size w W) (x:ByteArray) (hx:x.size≤100000000) => apply_any p _ W.heap.size x W (HSp.out W hb) (Nat.le_refl _) hx)
 have Haq:=Lib.hid (fun W (hb:Below w.heap.size w W) (x:ByteArray) (hx:x.size≤100000000) => apply_any q _ W.heap.size x W (HSq.out W hb) (Nat.le_refl _) hx)
 have Hmd:=Lib.hid (fun W (hb:Below w.heap.size w W) => made_any W (HPw.out W hb))
 have HG:=Lib.hid (fun (W:World) (hb:Below w.heap.size w W) => show Gives (.bool true) w (.returned (.bool true)) W from ⟨rfl,hb⟩)
 clear hf hg HSp HSq
 generalize p.front = fr at *
 generalize p.next.length = n1 at *
 generalize p.outs.length = n2 at *
 generalize p.ends.length = n3 at *
 generalize p.tail.length = n4 at *
 generalize q.front = gr at *
 generalize q.next.length = m1 at *
 generalize q.outs.length = m2 at *
 generalize q.ends.length = m3 at *
 generalize q.tail.length = m4 at *
 have B0:Below w.heap.size w ((w.alloc (.cells #[.string fr,.slice A1 n1 c1,.slice A2 n2 c2,.slice A3 n3 c3,.slice A4 n4 c4] 27)).alloc (.cells #[.string gr,.slice D1 m1 d1,.slice D2 m2 d2,.slice D3 m3 d3,.slice D4 m4 d4] 27)):=((Below.refl _ w).alloc (Nat.le_refl _) _).alloc (by simp) _
 have Kp:=(Blk.new w 27 #[.string fr,.slice A1 n1 c1,.slice A2 n2 c2,.slice A3 n3 c3,.slice A4 n4 c4]).alloc (.cells #[.string gr,.slice D1 m1 d1,.slice D2 m2 d2,.slice D3 m3 d3,.slice D4 m4 d4] 27)
 have Kq:=Blk.new (w.alloc (.cells #[.string fr,.slice A1 n1 c1,.slice A2 n2 c2,.slice A3 n3 c3,.slice A4 n4 c4] 27)) 27 #[.string gr,.slice D1 m1 d1,.slice D2 m2 d2,.slice D3 m3 d3,.slice D4 m4 d4]
 simp only [World.size_alloc] at Kq
 have HK:=Lib.hid (fun (W:World) (hb:Below (w.heap.size + 2) ((w.alloc (.cells #[.string fr,.slice A1 n1 c1,.slice A2 n2 c2,.slice A3 n3 c3,.slice A4 n4 c4] 27)).alloc (.cells #[.string gr,.slice D1 m1 d1,.slice D2 m2 d2,.slice D3 m3 d3,.slice D4 m4 d4] 27)) W) => And.intro (Kp.below hb (by omega)) (And.intro (Kq.below hb (by omega)) (B0.trans (hb.mono (by omega)))))
 go_enter Tryz.func3,Tryz.ntmps3
 have j0:=Kp.cell 0
 have j1:=Kp.cell 1
 have j2:=Kp.cell 2
 have j3:=Kp.cell 3
 have j4:=Kp.cell 4
 clear Kp Kq
 go_wp2_with fail
 have hz0:((w.alloc (.cells #[.string fr,.slice A1 n1 c1,.slice A2 n2 c2,.slice A3 n3 c3,.slice A4 n4 c4] 27)).alloc (.cells #[.string gr,.slice D1 m1 d1,.slice D2 m2 d2,.slice D3 m3 d3,.slice D4 m4 d4] 27)).heap.size = w.heap.size + 2:=by simp
 clear j0 j1 j2 j3 j4
 generalize ((w.alloc (.cells #[.string fr,.slice A1 n1 c1,.slice A2 n2 c2,.slice A3 n3 c3,.slice A4 n4 c4] 27)).alloc (.cells #[.string gr,.slice D1 m1 d1,.slice D2 m2 d2,.slice D3 m3 d3,.slice D4 m4 d4] 27)) = W0 at *
 refine (Hfp.out W0 B0).mono ?_
 rintro e w1 ⟨bp,rfl,hb1,hbp⟩
 rw [hz0] at hb1
 obtain ⟨k1,k2,k3⟩:=HK.out w1 hb1
 have j0:=k2.cell 0
 have j1:=k2.cell 1
 have j2:=k2.cell 2
 have j3:=k2.cell 3
 have j4:=k2.cell 4
 clear k1 k2
 rcases bp with _ | _
 ·go_wp2_with fail
  exact bodyPost_ret (v:=.bool true) (by simp [results,Tryz.results3,go_sem]) rfl (HG.out _ k3)
 go_wp2_with fail
 refine (Hfq.out w1 k3).mono ?_
 rintro e w2 ⟨bq,rfl,hb2,hbq⟩
 have hb02:=hb1.trans (hb2.mono (by have:=hb1.size; omega))
 clear j0 j1 j2 j3 j4 hb1 hb2 k3
 obtain ⟨k1,k2,k3⟩:=HK.out w2 hb02
 have i1:=k1.cell 1
 have j1:=k2.cell 1
 rcases bq with _ | _
 ·clear k1 k2
  go_wp2_with fail
  exact bodyPost_ret (v:=.bool true) (by simp [results,Tryz.results3,go_sem]) rfl (HG.out _ k3)
 have hn12:n1≤12:=by simpa using hbp
 have hm12:m1≤12:=by simpa using hbq
 clear hbp hbq
 by_cases d1:(8:Int) < (n1:Int) + (m1:Int)
 ·clear k1 k2
  go_wp2_with fail
  exact bodyPost_ret (v:=.bool true) (by simp [results,Tryz.results3,go_sem]) rfl (HG.out _ k3)
 by_cases d2:(40:Int) < most
 ·clear k1 k2
  go_wp2_with fail
  exact bodyPost_ret (v:=.bool true) (by simp [results,Tryz.results3,go_sem]) rfl (HG.out _ k3)
 by_cases d3:(5:Int) < (t.size:Int)
 ·clear k1 k2
  go_wp2_with fail
  exact bodyPost_ret (v:=.bool true) (by simp [results,Tryz.results3,go_sem]) rfl (HG.out _ k3)
 have j0:=k1.cell 0
 have j2:=k1.cell 2
 have j3:=k1.cell 3
 have j4:=k1.cell 4
 clear k1 k2
 go_wp2_with fail
 refine (Hbp.out w2 k3).mono ?_
 clear i1 j0 j1 j2 j3 j4 k3
 rintro e w3 ⟨a,ra,⟨va,rfl,hta,_,hb3⟩,hra⟩
 have hz2:w.heap.size + 2≤w2.heap.size:=by have:=hb02.size; omega
 have hb03:=hb02.trans (hb3.mono hz2)
 have hz3:w.heap.size + 2≤w3.heap.size:=by have:=hb3.size; omega
 clear hb3 hb02 hz2
 have hta0:=hta
 obtain ⟨E1,e1,E2,e2,E3,e3,rfl,hta'⟩:=hta
 have HTa:=Lib.hid (fun (W:World) (hb:Below w3.heap.size w3 W) => show FstAt W W.heap.size a (.agg #[.int .i64 a.n,.slice E1 a.starts.length e1,.slice E2 a.ends.length e2,.slice E3 a.arcs.length e3]) from (hta0.below hb).more hb.size)
 have ham:ra = 0→a.arcs.length≤16384:=fun h => by
  obtain ⟨_,h2,h3⟩:=hra h
  rw [h3]
  exact Nat.le_trans (ordA_len _) (fck_nums h2).2.2.1
 clear hta' hta0
 have HRa:=Lib.hid hra
 clear hra
 have Ka:=Blk.new w3 32 #[.int .i64 a.n,.slice E1 a.starts.length e1,.slice E2 a.ends.length e2,.slice E3 a.arcs.length e3]
 have La:=(Below.refl w3.heap.size w3).alloc (Nat.le_refl _) (.cells #[.int .i64 a.n,.slice E1 a.starts.length e1,.slice E2 a.ends.length e2,.slice E3 a.arcs.length e3] 32)
 generalize a.n = an at *
 generalize a.starts.length = ast at *
 generalize a.ends.length = aen at *
 generalize haa:a.arcs.length = aar at *
 have hb04:=hb03.trans (La.mono hz3)
 obtain ⟨k1,k2,k3⟩:=HK.out _ hb04
 have j0:=k2.cell 0
 have j1:=k2.cell 1
 have j2:=k2.cell 2
 have j3:=k2.cell 3
 have j4:=k2.cell 4
 clear k1 k2 haa
 go_wp2_with fail
 refine (Hbq.out _ k3).mono ?_
 clear j0 j1 j2 j3 j4 k3
 rintro e w5 ⟨b,rb,⟨vb,rfl,htb,_,hb5⟩,hrb⟩
 have hb45:Below w3.heap.size w3 w5:=La.trans (hb5.mono La.size)
 have Ka5:=Ka.below hb5 Ka.lt
 have hb05:=hb03.trans (hb45.mono hz3)
 clear hb5 hb04 La Ka
 have htb0:=htb
 obtain ⟨F1,f1,F2,f2,F3,f3,rfl,htb'⟩:=htb
 have HTb:=Lib.hid (fun (W:World) (hb:Below w5.heap.size w5 W) => show FstAt W W.heap.size b (.agg #[.int .i64 b.n,.slice F1 b.starts.length f1,.slice F2 b.ends.length f2,.slice F3 b.arcs.length f3]) from (htb0.below hb).more hb.size)
 have hbm:rb = 0→b.arcs.length≤16384:=fun h => by
  obtain ⟨_,h2,h3⟩:=hrb h
  rw [h3]
  exact Nat.le_trans (ordA_len _) (fck_nums h2).2.2.1
 clear htb' htb0
 have HRb:=Lib.hid hrb
 clear hrb
 have Kb:=Blk.new w5 32 #[.int .i64 b.n,.slice F1 b.starts.length f1,.slice F2 b.ends.length f2,.slice F3 b.arcs.length f3]
 have Lb:=(Below.refl w5.heap.size w5).alloc (Nat.le_refl _) (.cells #[.int .i64 b.n,.slice F1 b.starts.length f1,.slice F2 b.ends.length f2,.slice F3 b.arcs.length f3] 32)
 generalize b.n = bn at *
 generalize b.starts.length = bst at *
 generalize b.ends.length = ben at *
 generalize hbb:b.arcs.length = bar at *
 have hz5:=hb45.size
 have hb06:=hb05.trans (Lb.mono (by omega))
 have hbw6:=(HK.out _ hb06).2.2
 have Ka6:=Ka5.below Lb Ka5.lt
 have x3:=Ka6.cell 3
 have y3:=Kb.cell 3
 clear hbb
 by_cases hra0:ra = 0
 case neg =>
  clear x3 y3 ham hbm
  go_wp2_with fail
  refine (Hmd.out _ hbw6).mono ?_
  rintro e w9 ⟨rfl,hb9⟩
  have hbw9:=hbw6.trans (hb9.mono hbw6.size)
  go_wp2_with fail
  exact bodyPost_ret (v:=.bool true) (by simp [results,Tryz.results3,go_sem]) rfl (HG.out _ hbw9)
 by_cases hrb0:rb = 0
 case neg =>
  subst hra0
  clear x3 y3 ham hbm
  go_wp2_with fail
  refine (Hmd.out _ hbw6).mono ?_
  rintro e w9 ⟨rfl,hb9⟩
  have hbw9:=hbw6.trans (hb9.mono hbw6.size)
  go_wp2_with fail
  exact bodyPost_ret (v:=.bool true) (by simp [results,Tryz.results3,go_sem]) rfl (HG.out _ hbw9)
 subst hra0 hrb0
 have ham0:=ham rfl
 have hbm0:=hbm rfl
 clear ham hbm
 by_cases hsum:(40:Int) < (aar:Int) + (bar:Int)
 case pos =>
  go_wp2_with fail
  refine (Hmd.out _ hbw6).mono ?_
  rintro e w9 ⟨rfl,hb9⟩
  have hbw9:=hbw6.trans (hb9.mono hbw6.size)
  go_wp2_with fail
  exact bodyPost_ret (v:=.bool true) (by simp [results,Tryz.results3,go_sem]) rfl (HG.out _ hbw9)
 clear x3 y3
 have x0:=Ka6.cell 0
 have x1:=Ka6.cell 1
 have x2:=Ka6.cell 2
 have x3:=Ka6.cell 3
 have y0:=Kb.cell 0
 have y1:=Kb.cell 1
 have y2:=Kb.cell 2
 have y3:=Kb.cell 3
 have hcm:=Lib.hid (compose_any a b _ _ _ _ (HTa.out _ (hb45.trans (Lb.mono hz5))) (HTb.out _ Lb) (Nat.le_refl _))
 go_wp2_with fail
 refine hcm.out.mono ?_
 clear hcm x0 x1 x2 x3 y0 y1 y2 y3 Ka6 Kb
 rintro e w7 ⟨tt,rc,⟨vt,rfl,htt,_,hb7⟩,hrc⟩
 have hz6:w.heap.size + 2≤(w5.alloc (.cells #[.int .i64 bn,.slice F1 bst f1,.slice F2 ben f2,.slice F3 bar f3] 32)).heap.size:=by simp; omega
 have hb07:=hb06.trans (hb7.mono hz6)
 have hz7:w.heap.size + 2≤w7.heap.size:=Nat.le_trans hz6 hb7.size
 clear hb7 hz6 hb06 hbw6 Lb hb45 hz5 hb05
 have htt0:=htt
 obtain ⟨G1,g1,G2,g2,G3,g3,rfl,_⟩:=htt
 have HTt:=Lib.hid (fun (W:World) (hb:Below w7.heap.size w7 W) => show FstAt W W.heap.size tt (.agg #[.int .i64 tt.n,.slice G1 tt.starts.length g1,.slice G2 tt.ends.length g2,.slice G3 tt.arcs.length g3]) from (htt0.below hb).more hb.size)
 clear htt0
 have HRc:=Lib.hid hrc
 clear hrc
 have Kt:=Blk.new w7 32 #[.int .i64 tt.n,.slice G1 tt.starts.length g1,.slice G2 tt.ends.length g2,.slice G3 tt.arcs.length g3]
 have Lt:=(Below.refl w7.heap.size w7).alloc (Nat.le_refl _) (.cells #[.int .i64 tt.n,.slice G1 tt.starts.length g1,.slice G2 tt.ends.length g2,.slice G3 tt.arcs.length g3] 32)
 have hof:=Lib.hid (seqOf_any tt _ _ most _ (HTt.out _ Lt) (Nat.le_refl _) (HPw.out _ (HK.out _ (hb07.trans (Lt.mono hz7))).2.2) hmo)
 generalize tt.n = tn at *
 generalize tt.starts.length = tst at *
 generalize tt.ends.length = ten at *
 generalize tt.arcs.length = tar at *
 have hb08:=hb07.trans (Lt.mono hz7)
 have hbw8:=(HK.out _ hb08).2.2
 by_cases hrc0:rc = 0
 case neg =>
  clear hof
  go_wp2_with fail
  refine (Hmd.out _ hbw8).mono ?_
  rintro e w9 ⟨rfl,hb9⟩
  have hbw9:=hbw8.trans (hb9.mono hbw8.size)
  go_wp2_with fail
  exact bodyPost_ret (v:=.bool true) (by simp [results,Tryz.results3,go_sem]) rfl (HG.out _ hbw9)
 subst hrc0
 have x0:=Kt.cell 0
 have x1:=Kt.cell 1
 have x2:=Kt.cell 2
 have x3:=Kt.cell 3
 go_wp2_with fail
 refine hof.out.mono ?_
 clear hof x0 x1 x2 x3 Kt HTt
 rintro e w9 ⟨hb9,vr,r,h,rfl,hrq,hne,hbad,hgood⟩
 have hz8:w.heap.size + 2≤(w7.alloc (.cells #[.int .i64 tn,.slice G1 tst g1,.slice G2 ten g2,.slice G3 tar g3] 32)).heap.size:=by simp; omega
 have hb09:=hb08.trans (hb9.mono hz8)
 have hz9:w.heap.size + 2≤w9.heap.size:=Nat.le_trans hz8 hb9.size
 clear hb9 hz8 hb08 hbw8 Lt hz7 hb07
 have HOf:=Lib.hid (And.intro hne (And.intro hbad hgood))
 clear hne hbad hgood
 obtain ⟨R1,r1,R2,r2,R3,r3,R4,r4,rfl,hrf,_⟩:=hrq.at_
 have HSr:=Lib.hid (fun (W:World) (hb:Below w9.heap.size w9 W) => (hrq.below hb).at_)
 have Har:=Lib.hid (fun W (hb:Below w9.heap.size w9 W) (x:ByteArray) (hx:x.size≤100000000) => apply_any r _ W.heap.size x W (HSr.out W hb) (Nat.le_refl _) hx)
 clear hrq HSr hrf
 have Kr:=Blk.new w9 27 #[.string r.front,.slice R1 r.next.length r1,.slice R2 r.outs.length r2,.slice R3 r.ends.length r3,.slice R4 r.tail.length r4]
 have Lr:=(Below.refl w9.heap.size w9).alloc (Nat.le_refl _) (.cells #[.string r.front,.slice R1 r.next.length r1,.slice R2 r.outs.length r2,.slice R3 r.ends.length r3,.slice R4 r.tail.length r4] 27)
 generalize r.front = rf at *
 generalize r.next.length = rn at *
 generalize r.outs.length = ro at *
 generalize r.ends.length = re at *
 generalize r.tail.length = rt at *
 have hb10:=hb09.trans (Lr.mono hz9)
 obtain ⟨k1,k2,k3⟩:=HK.out _ hb10
 have j0:=k1.cell 0
 have j1:=k1.cell 1
 have j2:=k1.cell 2
 have j3:=k1.cell 3
 have j4:=k1.cell 4
 clear k1 k2
 go_wp2_with fail
 refine (Hap.out _ k3 t (by omega)).mono ?_
 clear j0 j1 j2 j3 j4 k3
 rintro e w11 ⟨o1,z1,b1,s1,rfl,hb11,ho1,hc1,hd1,he1⟩
 have hz10:w.heap.size + 2≤(w9.alloc (.cells #[.string rf,.slice R1 rn r1,.slice R2 ro r2,.slice R3 re r3,.slice R4 rt r4] 27)).heap.size:=by simp; omega
 have hb012:=hb10.trans (hb11.mono hz10)
 have hL11:Below w9.heap.size w9 w11:=Lr.trans (hb11.mono Lr.size)
 have Kr11:=Kr.below hb11 Kr.lt
 clear Kr Lr hb11 hb10 hz10
 obtain ⟨k1,k2,k3⟩:=HK.out _ hb012
 have j0:=k2.cell 0
 have j1:=k2.cell 1
 have j2:=k2.cell 2
 have j3:=k2.cell 3
 have j4:=k2.cell 4
 clear k1 k2
 go_wp2_with fail
 refine (Haq.out _ k3 o1 (by omega)).mono ?_
 clear j0 j1 j2 j3 j4 k3
 rintro e w12 ⟨o2,z2,b2,s2,rfl,hb12,ho2,hc2,hd2,he2⟩
 have hz11:w.heap.size + 2≤w11.heap.size:=Nat.le_trans hz9 hL11.size
 have hb013:=hb012.trans (hb12.mono hz11)
 have hL12:Below w9.heap.size w9 w12:=hL11.trans (hb12.mono hL11.size)
 have Kr12:=Kr11.below hb12 Kr11.lt
 clear Kr11 hb12 hb012 hz11 hL11
 have j0:=Kr12.cell 0
 have j1:=Kr12.cell 1
 have j2:=Kr12.cell 2
 have j3:=Kr12.cell 3
 have j4:=Kr12.cell 4
 have k3:=(HK.out _ hb013).2.2
 go_wp2_with fail
 refine (Har.out _ hL12 t (by omega)).mono ?_
 clear j0 j1 j2 j3 j4 k3
 rintro e w13 ⟨o3,z3,b3,s3,rfl,hb13,ho3,hc3,hd3,he3⟩
 have hb014:=hb013.trans (hb13.mono (Nat.le_trans hz9 hL12.size))
 have hbw:=(HK.out _ hb014).2.2
 have hRa:ckB p = true∧fckB (back0 p) = true∧a = sortF (back0 p):=by simpa using HRa.out
 have hRb:ckB q = true∧fckB (back0 q) = true∧b = sortF (back0 q):=by simpa using HRb.out
 have hRc:fckB a = true∧fckB b = true∧Chain a b tt∧Right tt:=by simpa using HRc.out
 obtain ⟨cp,_,ha⟩:=hRa
 obtain ⟨cq,_,hb⟩:=hRb
 obtain ⟨fa,fb,hch,hrt⟩:=hRc
 obtain ⟨rfl,hr1⟩:=hd1 cp
 obtain ⟨rfl,hr2⟩:=hd2 cq
 have hp:=fun (s b:Nat) (hs:s < p.next.length) (hb:b < 256) => (ckB_nx cp hs hb).2.1
 have hq:=fun (s b:Nat) (hs:s < q.next.length) (hb:b < 256) => (ckB_nx cq hs hb).2.1
 have hba:Backs p a:=ha ▸ backs_of p
 have hbb:Backs q b:=hb ▸ backs_of q
 have hmade:=Lib.hid (Hmd.out w13 hbw)
 have hfinal:=Lib.hid (fun (W:World) (h:Below w13.heap.size w13 W) => HG.out W (hbw.trans (h.mono hbw.size)))
 obtain ⟨hne,hbad,hgood⟩:=HOf.out
 clear HRa HRb HRc HTa HTb Hfp Hfq Hbp Hbq Hap Haq Hmd HG HOf Har HPw HK hP hd1 hc1 he1 hd2 hc2 he2 hc3 he3 ha hb hb014 hbw hb13 hb013 hL12 Kr12 hz9 hb09 hz0 B0
 by_cases hh:h = 0
 ·subst hh
  have hok:fckB tt = true∧1≤most∧most≤1024:=by
   apply Decidable.byContradiction
   intro hn
   have:=hbad hn
   omega
  obtain ⟨u,f,htr,hcu,hm⟩:=hgood hok.1 hok.2.1 hok.2.2
  rcases haf:allF u most.toNat with ek | r'
  ·rw [haf] at hm
   rcases allF_err (htr.right hrt) (htr.useful hrt) haf with h9 | ⟨h9,_⟩ <;> (exfalso; simp only at hm; omega)
  ·rw [haf] at hm
   obtain ⟨_,rfl⟩:=hm
   obtain ⟨rfl,hr3⟩:=hd3 (ck_of_all (htr.right hrt) (by omega) haf)
   obtain ⟨e1',e2'⟩:=top_plain (compose_law hp hq hba hbb (fckB_right fa) (fckB_right fb) hch hrt htr haf) hr1 hr2 hr3
   clear hr1 hr2 hr3 haf htr hcu hok hbad hgood hne hd3 hp hq hba hbb cp cq fa fb hch hrt
   rcases b3 with _ | _
   ·rcases b1 with _ | _
    ·clear e1' e2'
     go_wp2_with fail
     refine hmade.out.mono ?_
     rintro e w14 ⟨rfl,hb14⟩
     go_wp2_with fail
     exact bodyPost_ret (v:=.bool true) (by simp [results,Tryz.results3,go_sem]) rfl (hfinal.out _ hb14)
    ·have hb2:b2 = false:=by simpa using e1'.symm
     subst hb2
     clear e1' e2'
     go_wp2_with fail
     refine hmade.out.mono ?_
     rintro e w14 ⟨rfl,hb14⟩
     go_wp2_with fail
     exact bodyPost_ret (v:=.bool true) (by simp [results,Tryz.results3,go_sem]) rfl (hfinal.out _ hb14)
   ·obtain rfl:=e2' rfl
    rcases b1 with _ | _
    ·simp at e1'
    ·have hb2:b2 = true:=by simpa using e1'.symm
     subst hb2
     clear e1' e2'
     go_wp2_with fail
     refine hmade.out.mono ?_
     rintro e w14 ⟨rfl,hb14⟩
     go_wp2_with fail
     exact bodyPost_ret (v:=.bool true) (by simp [results,Tryz.results3,go_sem]) rfl (hfinal.out _ hb14)
 ·have h12:¬ h = 12:=by
    intro e12
    by_cases hok:fckB tt = true∧1≤most∧most≤1024
    ·obtain ⟨u,f,htr,hcu,hm⟩:=hgood hok.1 hok.2.1 hok.2.2
     rcases haf:allF u most.toNat with ek | r'
     ·rw [haf] at hm
      have hm:h = ek:=hm
      exact compose_many hp hq hba hbb (fckB_right fa) (fckB_right fb) hch hrt htr (by rw [haf,← hm,e12])
     ·rw [haf] at hm
      exact hh hm.1
    ·have:=hbad hok
     omega
  clear hr1 hr2 hbad hgood hne hd3 hp hq hba hbb cp cq fa fb hch hrt
  go_wp2_with fail
  refine hmade.out.mono ?_
  rintro e w14 ⟨rfl,hb14⟩
  go_wp2_with fail
  exact bodyPost_ret (v:=.bool true) (by simp [results,Tryz.results3,go_sem,h12]) rfl (hfinal.out _ hb14)
end Go.Proofs.YtcondkihpmmnnaaGreatDoor
