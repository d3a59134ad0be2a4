/- TopUnique returns true for any three transducers and any number, and the input reads as it did. Conditions: the row's own (three laid tables; the card ties them). -/
import Derived.Test.YtcondkihpmmnnaaGreatDoorUniqueP37
import Derived.Test.YtcondkihpmmnnaaGreatDoorUniqueP38
import Derived.Test.YtcondkihpmmnnaaGreatDoorUniqueP33
import Derived.Test.YtcondkihpmmnnaaGreatDoorUniqueP36
import Derived.Test.YtcondkihpmmnnaaGreatDoorUniqueP24
namespace Go.Proofs.YtcondkihpmmnnaaGreatDoor
open Go.RowKit Go.Sort
theorem seq0_ck:ckB seq0 = true:=by decide
set_option maxRecDepth 100000 in
set_option maxHeartbeats 16000000 in
theorem unique_walk (a b c:Fs) (v1 v2 v3:Value) (most:Int) (w:World) (HS1:FstAt w w.heap.size a v1) (HS2:FstAt w w.heap.size b v2) (HS3:FstAt w w.heap.size c v3) (hmo:-9223372036854775808≤most∧most≤9223372036854775807) (hP:Pow w w.heap.size) :
    Calls Tryz.prog 4 #[v1,v2,v3,.int .i64 most] w (Gives (.bool true) w):=by
 have HSa:=Lib.hid (fun W (hb:Below w.heap.size w W) => (HS1.below hb).more hb.size)
 have HSb:=Lib.hid (fun W (hb:Below w.heap.size w W) => (HS2.below hb).more hb.size)
 have HSc:=Lib.hid (fun W (hb:Below w.heap.size w W) => (HS3.below hb).more hb.size)
 have HPw:=Lib.hid (fun W (hb:Below w.heap.size w W) => (hP.below hb).mono hb.size)
 obtain ⟨AA1,ak1,AA2,ak2,AA3,ak3,rfl,_⟩:=HS1
 obtain ⟨BA1,bk1,BA2,bk2,BA3,bk3,rfl,_⟩:=HS2
 obtain ⟨CA1,ck1,CA2,ck2,CA3,ck3,rfl,_⟩:=HS3
 have Hsa:=Lib.hid (fun W (hb:Below w.heap.size w W) => small_any a _ W.heap.size W (HSa.out W hb) (Nat.le_refl _))
 have Hsb:=Lib.hid (fun W (hb:Below w.heap.size w W) => small_any b _ W.heap.size W (HSb.out W hb) (Nat.le_refl _))
 have Hsc:=Lib.hid (fun W (hb:Below w.heap.size w W) => small_any c _ W.heap.size W (HSc.out W hb) (Nat.le_refl _))
 have Hmd:=Lib.hid (fun W (hb:Below w.heap.size w W) => made_any W (HPw.out W hb))
 have HG:=Lib.hid (fun (W:World) (hb:Below w.heap.size w W) => show Gives (.bool true) w (.returned (.bool true)) W from ⟨rfl,hb⟩)
 generalize a.n = a_n at *
 generalize a.starts.length = a_s at *
 generalize a.ends.length = a_e at *
 generalize har:a.arcs.length = a_r at *
 generalize b.n = b_n at *
 generalize b.starts.length = b_s at *
 generalize b.ends.length = b_e at *
 generalize hbr:b.arcs.length = b_r at *
 generalize c.n = c_n at *
 generalize c.starts.length = c_s at *
 generalize c.ends.length = c_e at *
 generalize hcr:c.arcs.length = c_r at *
 clear har hbr hcr hP
 have B0:Below w.heap.size w (((w.alloc (.cells #[.int .i64 a_n,.slice AA1 a_s ak1,.slice AA2 a_e ak2,.slice AA3 a_r ak3] 32)).alloc (.cells #[.int .i64 b_n,.slice BA1 b_s bk1,.slice BA2 b_e bk2,.slice BA3 b_r bk3] 32)).alloc (.cells #[.int .i64 c_n,.slice CA1 c_s ck1,.slice CA2 c_e ck2,.slice CA3 c_r ck3] 32)):=(((Below.refl _ w).alloc (Nat.le_refl _) _).alloc (by simp) _).alloc (by simp; omega) _
 have Ka0:=((Blk.new w 32 #[.int .i64 a_n,.slice AA1 a_s ak1,.slice AA2 a_e ak2,.slice AA3 a_r ak3]).alloc (.cells #[.int .i64 b_n,.slice BA1 b_s bk1,.slice BA2 b_e bk2,.slice BA3 b_r bk3] 32)).alloc (.cells #[.int .i64 c_n,.slice CA1 c_s ck1,.slice CA2 c_e ck2,.slice CA3 c_r ck3] 32)
 have Kb0:=(Blk.new (w.alloc (.cells #[.int .i64 a_n,.slice AA1 a_s ak1,.slice AA2 a_e ak2,.slice AA3 a_r ak3] 32)) 32 #[.int .i64 b_n,.slice BA1 b_s bk1,.slice BA2 b_e bk2,.slice BA3 b_r bk3]).alloc (.cells #[.int .i64 c_n,.slice CA1 c_s ck1,.slice CA2 c_e ck2,.slice CA3 c_r ck3] 32)
 have Kc0:=Blk.new ((w.alloc (.cells #[.int .i64 a_n,.slice AA1 a_s ak1,.slice AA2 a_e ak2,.slice AA3 a_r ak3] 32)).alloc (.cells #[.int .i64 b_n,.slice BA1 b_s bk1,.slice BA2 b_e bk2,.slice BA3 b_r bk3] 32)) 32 #[.int .i64 c_n,.slice CA1 c_s ck1,.slice CA2 c_e ck2,.slice CA3 c_r ck3]
 simp only [World.size_alloc] at Kb0 Kc0
 go_enter Tryz.func4,Tryz.ntmps4
 have ca0:=Ka0.cell 0
 have ca1:=Ka0.cell 1
 have ca2:=Ka0.cell 2
 have ca3:=Ka0.cell 3
 have cb0:=Kb0.cell 0
 have cb1:=Kb0.cell 1
 have cb2:=Kb0.cell 2
 have cb3:=Kb0.cell 3
 have cc0:=Kc0.cell 0
 have cc1:=Kc0.cell 1
 have cc2:=Kc0.cell 2
 have cc3:=Kc0.cell 3
 go_wp2_with fail
 clear ca0 ca1 ca2 ca3 cb0 cb1 cb2 cb3 cc0 cc1 cc2 cc3
 have HK:=Lib.hid (fun (W:World) (hb:Below ((((w.alloc (.cells #[.int .i64 a_n,.slice AA1 a_s ak1,.slice AA2 a_e ak2,.slice AA3 a_r ak3] 32)).alloc (.cells #[.int .i64 b_n,.slice BA1 b_s bk1,.slice BA2 b_e bk2,.slice BA3 b_r bk3] 32)).alloc (.cells #[.int .i64 c_n,.slice CA1 c_s ck1,.slice CA2 c_e ck2,.slice CA3 c_r ck3] 32))).heap.size (((w.alloc (.cells #[.int .i64 a_n,.slice AA1 a_s ak1,.slice AA2 a_e ak2,.slice AA3 a_r ak3] 32)).alloc (.cells #[.int .i64 b_n,.slice BA1 b_s bk1,.slice BA2 b_e bk2,.slice BA3 b_r bk3] 32)).alloc (.cells #[.int .i64 c_n,.slice CA1 c_s ck1,.slice CA2 c_e ck2,.slice CA3 c_r ck3] 32)) W) => And.intro (Ka0.below hb Ka0.lt) (And.intro (Kb0.below hb Kb0.lt) (And.intro (Kc0.below hb Kc0.lt) (B0.trans (hb.mono B0.size)))))
 clear Ka0 Kb0 Kc0
 generalize (((w.alloc (.cells #[.int .i64 a_n,.slice AA1 a_s ak1,.slice AA2 a_e ak2,.slice AA3 a_r ak3] 32)).alloc (.cells #[.int .i64 b_n,.slice BA1 b_s bk1,.slice BA2 b_e bk2,.slice BA3 b_r bk3] 32)).alloc (.cells #[.int .i64 c_n,.slice CA1 c_s ck1,.slice CA2 c_e ck2,.slice CA3 c_r ck3] 32)) = W0 at *
 refine (Hsa.out W0 B0).mono ?_
 clear B0
 rintro e u1 ⟨sa,rfl,hb,hsa⟩
 have HK:=Lib.hid (fun (W:World) (h:Below u1.heap.size u1 W) => HK.out W (hb.trans (h.mono hb.size)))
 clear hb
 obtain ⟨Ka,Kb,Kc,BW⟩:=HK.out u1 (Below.refl _ _)
 rcases sa with _ | _
 ·clear Ka Kb Kc
  go_wp2_with fail
  exact bodyPost_ret (v:=.bool true) (by simp [results,Tryz.results4,go_sem]) rfl (HG.out _ BW)
 have cb0:=Kb.cell 0
 have cb1:=Kb.cell 1
 have cb2:=Kb.cell 2
 have cb3:=Kb.cell 3
 clear Ka Kb Kc
 go_wp2_with fail
 refine (Hsb.out _ BW).mono ?_
 clear BW cb0 cb1 cb2 cb3
 rintro e u2 ⟨sb,rfl,hb,hsb⟩
 have HK:=Lib.hid (fun (W:World) (h:Below u2.heap.size u2 W) => HK.out W (hb.trans (h.mono hb.size)))
 clear hb
 obtain ⟨Ka,Kb,Kc,BW⟩:=HK.out u2 (Below.refl _ _)
 rcases sb with _ | _
 ·clear Ka Kb Kc
  go_wp2_with fail
  exact bodyPost_ret (v:=.bool true) (by simp [results,Tryz.results4,go_sem]) rfl (HG.out _ BW)
 have cc0:=Kc.cell 0
 have cc1:=Kc.cell 1
 have cc2:=Kc.cell 2
 have cc3:=Kc.cell 3
 clear Ka Kb Kc
 go_wp2_with fail
 refine (Hsc.out _ BW).mono ?_
 clear BW cc0 cc1 cc2 cc3
 rintro e u3 ⟨sc,rfl,hb,hsc⟩
 have HK:=Lib.hid (fun (W:World) (h:Below u3.heap.size u3 W) => HK.out W (hb.trans (h.mono hb.size)))
 clear hb
 obtain ⟨Ka,Kb,Kc,BW⟩:=HK.out u3 (Below.refl _ _)
 rcases sc with _ | _
 ·clear Ka Kb Kc
  go_wp2_with fail
  exact bodyPost_ret (v:=.bool true) (by simp [results,Tryz.results4,go_sem]) rfl (HG.out _ BW)
 have ha8:a_r≤8:=hsa (by simp)
 have hb8:b_r≤8:=hsb (by simp)
 have hc8:c_r≤8:=hsc (by simp)
 clear hsa hsb hsc
 have ca3:=Ka.cell 3
 have cb3:=Kb.cell 3
 have cc3:=Kc.cell 3
 by_cases d1:(15:Int) < (a_r:Int) + (b_r:Int) + (c_r:Int)
 ·clear Ka Kb Kc
  go_wp2_with fail
  exact bodyPost_ret (v:=.bool true) (by simp [results,Tryz.results4,go_sem]) rfl (HG.out _ BW)
 by_cases d2:(20:Int) < most
 ·clear Ka Kb Kc
  go_wp2_with fail
  exact bodyPost_ret (v:=.bool true) (by simp [results,Tryz.results4,go_sem]) rfl (HG.out _ BW)
 have ca0:=Ka.cell 0
 have ca1:=Ka.cell 1
 have ca2:=Ka.cell 2
 have cb0:=Kb.cell 0
 have cb1:=Kb.cell 1
 have cb2:=Kb.cell 2
 clear Ka Kb Kc
 go_wp2_with fail
 refine (compose_any a b _ _ _ _ (HSa.out _ BW) (HSb.out _ BW) (Nat.le_refl _)).mono ?_
 rintro e wx ⟨x,rx,⟨vx,rfl,hat,_,hb⟩,hrx⟩
 clear BW ca0 ca1 ca2 ca3 cb0 cb1 cb2 cb3 cc3
 have HK:=Lib.hid (fun (W:World) (h:Below wx.heap.size wx W) => HK.out W (hb.trans (h.mono hb.size)))
 clear hb
 have hat0:=hat
 obtain ⟨XA1,xk1,XA2,xk2,XA3,xk3,rfl,_⟩:=hat
 have hmx:rx = 0→x.arcs.length≤16384:=fun h => (hrx h).2.2.2.2
 have HRx:=Lib.hid hrx
 clear hrx
 have Kn:=Blk.new wx 32 #[.int .i64 x.n,.slice XA1 x.starts.length xk1,.slice XA2 x.ends.length xk2,.slice XA3 x.arcs.length xk3]
 have Ln:=(Below.refl wx.heap.size wx).alloc (Nat.le_refl _) (.cells #[.int .i64 x.n,.slice XA1 x.starts.length xk1,.slice XA2 x.ends.length xk2,.slice XA3 x.arcs.length xk3] 32)
 have HK:=Lib.hid (fun (W:World) (h:Below (wx.alloc (.cells #[.int .i64 x.n,.slice XA1 x.starts.length xk1,.slice XA2 x.ends.length xk2,.slice XA3 x.arcs.length xk3] 32)).heap.size (wx.alloc (.cells #[.int .i64 x.n,.slice XA1 x.starts.length xk1,.slice XA2 x.ends.length xk2,.slice XA3 x.arcs.length xk3] 32)) W) => And.intro (Kn.below h Kn.lt) (And.intro (show FstAt W W.heap.size x (.agg #[.int .i64 x.n,.slice XA1 x.starts.length xk1,.slice XA2 x.ends.length xk2,.slice XA3 x.arcs.length xk3]) from (hat0.below (Ln.trans (h.mono Ln.size))).more (Ln.trans (h.mono Ln.size)).size) (HK.out W (Ln.trans (h.mono Ln.size)))))
 clear Kn Ln hat0
 generalize x.n = x_n at *
 generalize x.starts.length = x_s at *
 generalize x.ends.length = x_e at *
 generalize x.arcs.length = x_r at *
 obtain ⟨_,_,_,Kb,Kc,BW⟩:=HK.out _ (Below.refl (wx.alloc (.cells #[.int .i64 x_n,.slice XA1 x_s xk1,.slice XA2 x_e xk2,.slice XA3 x_r xk3] 32)).heap.size (wx.alloc (.cells #[.int .i64 x_n,.slice XA1 x_s xk1,.slice XA2 x_e xk2,.slice XA3 x_r xk3] 32)))
 have cb0:=Kb.cell 0
 have cb1:=Kb.cell 1
 have cb2:=Kb.cell 2
 have cb3:=Kb.cell 3
 have cc0:=Kc.cell 0
 have cc1:=Kc.cell 1
 have cc2:=Kc.cell 2
 have cc3:=Kc.cell 3
 clear Kb Kc
 go_wp2_with fail
 generalize (wx.alloc (.cells #[.int .i64 x_n,.slice XA1 x_s xk1,.slice XA2 x_e xk2,.slice XA3 x_r xk3] 32)) = W1 at *
 refine (compose_any b c _ _ _ _ (HSb.out _ BW) (HSc.out _ BW) (Nat.le_refl _)).mono ?_
 rintro e wy ⟨y,ry,⟨vy,rfl,hat,_,hb⟩,hry⟩
 clear BW cb0 cb1 cb2 cb3 cc0 cc1 cc2 cc3
 have HK:=Lib.hid (fun (W:World) (h:Below wy.heap.size wy W) => HK.out W (hb.trans (h.mono hb.size)))
 clear hb
 have hat0:=hat
 obtain ⟨YA1,yk1,YA2,yk2,YA3,yk3,rfl,_⟩:=hat
 have hmy:ry = 0→y.arcs.length≤16384:=fun h => (hry h).2.2.2.2
 have HRy:=Lib.hid hry
 clear hry
 have Kn:=Blk.new wy 32 #[.int .i64 y.n,.slice YA1 y.starts.length yk1,.slice YA2 y.ends.length yk2,.slice YA3 y.arcs.length yk3]
 have Ln:=(Below.refl wy.heap.size wy).alloc (Nat.le_refl _) (.cells #[.int .i64 y.n,.slice YA1 y.starts.length yk1,.slice YA2 y.ends.length yk2,.slice YA3 y.arcs.length yk3] 32)
 have HK:=Lib.hid (fun (W:World) (h:Below (wy.alloc (.cells #[.int .i64 y.n,.slice YA1 y.starts.length yk1,.slice YA2 y.ends.length yk2,.slice YA3 y.arcs.length yk3] 32)).heap.size (wy.alloc (.cells #[.int .i64 y.n,.slice YA1 y.starts.length yk1,.slice YA2 y.ends.length yk2,.slice YA3 y.arcs.length yk3] 32)) W) => And.intro (Kn.below h Kn.lt) (And.intro (show FstAt W W.heap.size y (.agg #[.int .i64 y.n,.slice YA1 y.starts.length yk1,.slice YA2 y.ends.length yk2,.slice YA3 y.arcs.length yk3]) from (hat0.below (Ln.trans (h.mono Ln.size))).more (Ln.trans (h.mono Ln.size)).size) (HK.out W (Ln.trans (h.mono Ln.size)))))
 clear Kn Ln hat0
 generalize y.n = y_n at *
 generalize y.starts.length = y_s at *
 generalize y.ends.length = y_e at *
 generalize y.arcs.length = y_r at *
 obtain ⟨Ky,_,Kx,_,_,_,_,BW⟩:=HK.out _ (Below.refl (wy.alloc (.cells #[.int .i64 y_n,.slice YA1 y_s yk1,.slice YA2 y_e yk2,.slice YA3 y_r yk3] 32)).heap.size (wy.alloc (.cells #[.int .i64 y_n,.slice YA1 y_s yk1,.slice YA2 y_e yk2,.slice YA3 y_r yk3] 32)))
 by_cases hx0:rx = 0
 case neg =>
  clear Kx Ky hmx hmy
  go_wp2_with fail
  refine (Hmd.out _ BW).mono ?_
  rintro e w9 ⟨rfl,hb9⟩
  have BW:=BW.trans (hb9.mono BW.size)
  go_wp2_with fail
  exact bodyPost_ret (v:=.bool true) (by simp [results,Tryz.results4,go_sem]) rfl (HG.out _ BW)
 by_cases hy0:ry = 0
 case neg =>
  subst hx0
  clear Kx Ky hmx hmy
  go_wp2_with fail
  refine (Hmd.out _ BW).mono ?_
  rintro e w9 ⟨rfl,hb9⟩
  have BW:=BW.trans (hb9.mono BW.size)
  go_wp2_with fail
  exact bodyPost_ret (v:=.bool true) (by simp [results,Tryz.results4,go_sem]) rfl (HG.out _ BW)
 subst hx0 hy0
 have hmx0:=hmx rfl
 have hmy0:=hmy rfl
 clear hmx hmy
 have cx3:=Kx.cell 3
 have cy3:=Ky.cell 3
 clear Kx Ky
 by_cases d3:(100:Int) < (x_r:Int) + (y_r:Int)
 case pos =>
  go_wp2_with fail
  refine (Hmd.out _ BW).mono ?_
  rintro e w9 ⟨rfl,hb9⟩
  have BW:=BW.trans (hb9.mono BW.size)
  go_wp2_with fail
  exact bodyPost_ret (v:=.bool true) (by simp [results,Tryz.results4,go_sem]) rfl (HG.out _ BW)
 clear cx3 cy3 BW
 obtain ⟨Ky,_,Kx,Fx,_,_,Kc,BW⟩:=HK.out _ (Below.refl (wy.alloc (.cells #[.int .i64 y_n,.slice YA1 y_s yk1,.slice YA2 y_e yk2,.slice YA3 y_r yk3] 32)).heap.size (wy.alloc (.cells #[.int .i64 y_n,.slice YA1 y_s yk1,.slice YA2 y_e yk2,.slice YA3 y_r yk3] 32)))
 have cx0:=Kx.cell 0
 have cx1:=Kx.cell 1
 have cx2:=Kx.cell 2
 have cx3:=Kx.cell 3
 have cc0:=Kc.cell 0
 have cc1:=Kc.cell 1
 have cc2:=Kc.cell 2
 have cc3:=Kc.cell 3
 have cy3:=Ky.cell 3
 clear Kx Kc Ky
 go_wp2_with fail
 generalize (wy.alloc (.cells #[.int .i64 y_n,.slice YA1 y_s yk1,.slice YA2 y_e yk2,.slice YA3 y_r yk3] 32)) = W2 at *
 refine (compose_any x c _ _ _ _ (Fx) (HSc.out _ BW) (Nat.le_refl _)).mono ?_
 rintro e wl ⟨l,rl,⟨vl,rfl,hat,_,hb⟩,hrl⟩
 clear BW cx0 cx1 cx2 cx3 cc0 cc1 cc2 cc3 cy3 Fx
 have HK:=Lib.hid (fun (W:World) (h:Below wl.heap.size wl W) => HK.out W (hb.trans (h.mono hb.size)))
 clear hb
 have hat0:=hat
 obtain ⟨LA1,lk1,LA2,lk2,LA3,lk3,rfl,_⟩:=hat
 have hml:rl = 0→l.arcs.length≤16384:=fun h => (hrl h).2.2.2.2
 have HRl:=Lib.hid hrl
 clear hrl
 have Kn:=Blk.new wl 32 #[.int .i64 l.n,.slice LA1 l.starts.length lk1,.slice LA2 l.ends.length lk2,.slice LA3 l.arcs.length lk3]
 have Ln:=(Below.refl wl.heap.size wl).alloc (Nat.le_refl _) (.cells #[.int .i64 l.n,.slice LA1 l.starts.length lk1,.slice LA2 l.ends.length lk2,.slice LA3 l.arcs.length lk3] 32)
 have HK:=Lib.hid (fun (W:World) (h:Below (wl.alloc (.cells #[.int .i64 l.n,.slice LA1 l.starts.length lk1,.slice LA2 l.ends.length lk2,.slice LA3 l.arcs.length lk3] 32)).heap.size (wl.alloc (.cells #[.int .i64 l.n,.slice LA1 l.starts.length lk1,.slice LA2 l.ends.length lk2,.slice LA3 l.arcs.length lk3] 32)) W) => And.intro (Kn.below h Kn.lt) (And.intro (show FstAt W W.heap.size l (.agg #[.int .i64 l.n,.slice LA1 l.starts.length lk1,.slice LA2 l.ends.length lk2,.slice LA3 l.arcs.length lk3]) from (hat0.below (Ln.trans (h.mono Ln.size))).more (Ln.trans (h.mono Ln.size)).size) (HK.out W (Ln.trans (h.mono Ln.size)))))
 clear Kn Ln hat0
 generalize l.n = l_n at *
 generalize l.starts.length = l_s at *
 generalize l.ends.length = l_e at *
 generalize l.arcs.length = l_r at *
 obtain ⟨_,_,Ky,Fy,_,_,Ka,_,_,BW⟩:=HK.out _ (Below.refl (wl.alloc (.cells #[.int .i64 l_n,.slice LA1 l_s lk1,.slice LA2 l_e lk2,.slice LA3 l_r lk3] 32)).heap.size (wl.alloc (.cells #[.int .i64 l_n,.slice LA1 l_s lk1,.slice LA2 l_e lk2,.slice LA3 l_r lk3] 32)))
 have ca0:=Ka.cell 0
 have ca1:=Ka.cell 1
 have ca2:=Ka.cell 2
 have ca3:=Ka.cell 3
 have cy0:=Ky.cell 0
 have cy1:=Ky.cell 1
 have cy2:=Ky.cell 2
 have cy3:=Ky.cell 3
 clear Ka Ky
 go_wp2_with fail
 generalize (wl.alloc (.cells #[.int .i64 l_n,.slice LA1 l_s lk1,.slice LA2 l_e lk2,.slice LA3 l_r lk3] 32)) = W3 at *
 refine (compose_any a y _ _ _ _ (HSa.out _ BW) (Fy) (Nat.le_refl _)).mono ?_
 rintro e wr ⟨r,rr,⟨vr,rfl,hat,_,hb⟩,hrr⟩
 clear BW ca0 ca1 ca2 ca3 cy0 cy1 cy2 cy3 Fy
 have HK:=Lib.hid (fun (W:World) (h:Below wr.heap.size wr W) => HK.out W (hb.trans (h.mono hb.size)))
 clear hb
 have hat0:=hat
 obtain ⟨RA1,rk1,RA2,rk2,RA3,rk3,rfl,_⟩:=hat
 have hmr:rr = 0→r.arcs.length≤16384:=fun h => (hrr h).2.2.2.2
 have HRr:=Lib.hid hrr
 clear hrr
 have Kn:=Blk.new wr 32 #[.int .i64 r.n,.slice RA1 r.starts.length rk1,.slice RA2 r.ends.length rk2,.slice RA3 r.arcs.length rk3]
 have Ln:=(Below.refl wr.heap.size wr).alloc (Nat.le_refl _) (.cells #[.int .i64 r.n,.slice RA1 r.starts.length rk1,.slice RA2 r.ends.length rk2,.slice RA3 r.arcs.length rk3] 32)
 have HK:=Lib.hid (fun (W:World) (h:Below (wr.alloc (.cells #[.int .i64 r.n,.slice RA1 r.starts.length rk1,.slice RA2 r.ends.length rk2,.slice RA3 r.arcs.length rk3] 32)).heap.size (wr.alloc (.cells #[.int .i64 r.n,.slice RA1 r.starts.length rk1,.slice RA2 r.ends.length rk2,.slice RA3 r.arcs.length rk3] 32)) W) => And.intro (Kn.below h Kn.lt) (And.intro (show FstAt W W.heap.size r (.agg #[.int .i64 r.n,.slice RA1 r.starts.length rk1,.slice RA2 r.ends.length rk2,.slice RA3 r.arcs.length rk3]) from (hat0.below (Ln.trans (h.mono Ln.size))).more (Ln.trans (h.mono Ln.size)).size) (HK.out W (Ln.trans (h.mono Ln.size)))))
 clear Kn Ln hat0
 generalize r.n = r_n at *
 generalize r.starts.length = r_s at *
 generalize r.ends.length = r_e at *
 generalize r.arcs.length = r_r at *
 obtain ⟨Kr,_,Kl,_,_,_,_,_,_,_,_,BW⟩:=HK.out _ (Below.refl (wr.alloc (.cells #[.int .i64 r_n,.slice RA1 r_s rk1,.slice RA2 r_e rk2,.slice RA3 r_r rk3] 32)).heap.size (wr.alloc (.cells #[.int .i64 r_n,.slice RA1 r_s rk1,.slice RA2 r_e rk2,.slice RA3 r_r rk3] 32)))
 by_cases hl0:rl = 0
 case neg =>
  clear Kl Kr hml hmr
  go_wp2_with fail
  refine (Hmd.out _ BW).mono ?_
  rintro e w9 ⟨rfl,hb9⟩
  have BW:=BW.trans (hb9.mono BW.size)
  go_wp2_with fail
  exact bodyPost_ret (v:=.bool true) (by simp [results,Tryz.results4,go_sem]) rfl (HG.out _ BW)
 by_cases hr0:rr = 0
 case neg =>
  subst hl0
  clear Kl Kr hml hmr
  go_wp2_with fail
  refine (Hmd.out _ BW).mono ?_
  rintro e w9 ⟨rfl,hb9⟩
  have BW:=BW.trans (hb9.mono BW.size)
  go_wp2_with fail
  exact bodyPost_ret (v:=.bool true) (by simp [results,Tryz.results4,go_sem]) rfl (HG.out _ BW)
 subst hl0 hr0
 have hml0:=hml rfl
 have hmr0:=hmr rfl
 clear hml hmr
 have cl3:=Kl.cell 3
 have cr3:=Kr.cell 3
 clear Kl Kr
 by_cases d4:(300:Int) < (l_r:Int) + (r_r:Int)
 case pos =>
  go_wp2_with fail
  refine (Hmd.out _ BW).mono ?_
  rintro e w9 ⟨rfl,hb9⟩
  have BW:=BW.trans (hb9.mono BW.size)
  go_wp2_with fail
  exact bodyPost_ret (v:=.bool true) (by simp [results,Tryz.results4,go_sem]) rfl (HG.out _ BW)
 clear cl3 cr3 BW
 obtain ⟨Kr,_,Kl,Fl,_,_,_,_,_,_,_,BW⟩:=HK.out _ (Below.refl (wr.alloc (.cells #[.int .i64 r_n,.slice RA1 r_s rk1,.slice RA2 r_e rk2,.slice RA3 r_r rk3] 32)).heap.size (wr.alloc (.cells #[.int .i64 r_n,.slice RA1 r_s rk1,.slice RA2 r_e rk2,.slice RA3 r_r rk3] 32)))
 have cl0:=Kl.cell 0
 have cl1:=Kl.cell 1
 have cl2:=Kl.cell 2
 have cl3:=Kl.cell 3
 have cr3:=Kr.cell 3
 clear Kl Kr
 go_wp2_with fail
 generalize (wr.alloc (.cells #[.int .i64 r_n,.slice RA1 r_s rk1,.slice RA2 r_e rk2,.slice RA3 r_r rk3] 32)) = W4 at *
 refine (seqOf_any l _ _ most _ Fl (Nat.le_refl _) (HPw.out _ BW) hmo).mono ?_
 rintro e wp ⟨hb,vp,p,kp,rfl,hq,hrp⟩
 clear BW cl0 cl1 cl2 cl3 cr3 Fl
 have HRp:=Lib.hid hrp
 clear hrp
 have HK:=Lib.hid (fun (W:World) (h:Below wp.heap.size wp W) => HK.out W (hb.trans (h.mono hb.size)))
 clear hb
 obtain ⟨PA1,pk1,PA2,pk2,PA3,pk3,PA4,pk4,rfl,_⟩:=hq.at_
 have Kn:=Blk.new wp 27 #[.string p.front,.slice PA1 p.next.length pk1,.slice PA2 p.outs.length pk2,.slice PA3 p.ends.length pk3,.slice PA4 p.tail.length pk4]
 have Ln:=(Below.refl wp.heap.size wp).alloc (Nat.le_refl _) (.cells #[.string p.front,.slice PA1 p.next.length pk1,.slice PA2 p.outs.length pk2,.slice PA3 p.ends.length pk3,.slice PA4 p.tail.length pk4] 27)
 have HK:=Lib.hid (fun (W:World) (h:Below (wp.alloc (.cells #[.string p.front,.slice PA1 p.next.length pk1,.slice PA2 p.outs.length pk2,.slice PA3 p.ends.length pk3,.slice PA4 p.tail.length pk4] 27)).heap.size (wp.alloc (.cells #[.string p.front,.slice PA1 p.next.length pk1,.slice PA2 p.outs.length pk2,.slice PA3 p.ends.length pk3,.slice PA4 p.tail.length pk4] 27)) W) => And.intro (Kn.below h Kn.lt) (And.intro (show SeqAt W W.heap.size p (.agg #[.string p.front,.slice PA1 p.next.length pk1,.slice PA2 p.outs.length pk2,.slice PA3 p.ends.length pk3,.slice PA4 p.tail.length pk4]) from (hq.below (Ln.trans (h.mono Ln.size))).at_) (HK.out W (Ln.trans (h.mono Ln.size)))))
 clear Kn Ln hq
 generalize p.front = p_f at *
 generalize p.next.length = p_n at *
 generalize p.outs.length = p_o at *
 generalize p.ends.length = p_e at *
 generalize p.tail.length = p_t at *
 obtain ⟨_,_,Kr,Fr,_,_,_,_,_,_,_,_,_,BW⟩:=HK.out _ (Below.refl (wp.alloc (.cells #[.string p_f,.slice PA1 p_n pk1,.slice PA2 p_o pk2,.slice PA3 p_e pk3,.slice PA4 p_t pk4] 27)).heap.size (wp.alloc (.cells #[.string p_f,.slice PA1 p_n pk1,.slice PA2 p_o pk2,.slice PA3 p_e pk3,.slice PA4 p_t pk4] 27)))
 have cr0:=Kr.cell 0
 have cr1:=Kr.cell 1
 have cr2:=Kr.cell 2
 have cr3:=Kr.cell 3
 clear Kr
 go_wp2_with fail
 generalize (wp.alloc (.cells #[.string p_f,.slice PA1 p_n pk1,.slice PA2 p_o pk2,.slice PA3 p_e pk3,.slice PA4 p_t pk4] 27)) = W5 at *
 refine (seqOf_any r _ _ most _ Fr (Nat.le_refl _) (HPw.out _ BW) hmo).mono ?_
 rintro e wq ⟨hb,vq,q,kq,rfl,hq,hrq⟩
 clear BW cr0 cr1 cr2 cr3 Fr
 have HRq:=Lib.hid hrq
 clear hrq
 have HK:=Lib.hid (fun (W:World) (h:Below wq.heap.size wq W) => HK.out W (hb.trans (h.mono hb.size)))
 clear hb
 obtain ⟨QA1,qk1,QA2,qk2,QA3,qk3,QA4,qk4,rfl,_⟩:=hq.at_
 have Kn:=Blk.new wq 27 #[.string q.front,.slice QA1 q.next.length qk1,.slice QA2 q.outs.length qk2,.slice QA3 q.ends.length qk3,.slice QA4 q.tail.length qk4]
 have Ln:=(Below.refl wq.heap.size wq).alloc (Nat.le_refl _) (.cells #[.string q.front,.slice QA1 q.next.length qk1,.slice QA2 q.outs.length qk2,.slice QA3 q.ends.length qk3,.slice QA4 q.tail.length qk4] 27)
 have HK:=Lib.hid (fun (W:World) (h:Below (wq.alloc (.cells #[.string q.front,.slice QA1 q.next.length qk1,.slice QA2 q.outs.length qk2,.slice QA3 q.ends.length qk3,.slice QA4 q.tail.length qk4] 27)).heap.size (wq.alloc (.cells #[.string q.front,.slice QA1 q.next.length qk1,.slice QA2 q.outs.length qk2,.slice QA3 q.ends.length qk3,.slice QA4 q.tail.length qk4] 27)) W) => And.intro (Kn.below h Kn.lt) (And.intro (show SeqAt W W.heap.size q (.agg #[.string q.front,.slice QA1 q.next.length qk1,.slice QA2 q.outs.length qk2,.slice QA3 q.ends.length qk3,.slice QA4 q.tail.length qk4]) from (hq.below (Ln.trans (h.mono Ln.size))).at_) (HK.out W (Ln.trans (h.mono Ln.size)))))
 clear Kn Ln hq
 generalize q.front = q_f at *
 generalize q.next.length = q_n at *
 generalize q.outs.length = q_o at *
 generalize q.ends.length = q_e at *
 generalize q.tail.length = q_t at *
 obtain ⟨_,_,_,Fp,_,_,_,_,_,_,_,_,_,_,_,BW⟩:=HK.out _ (Below.refl (wq.alloc (.cells #[.string q_f,.slice QA1 q_n qk1,.slice QA2 q_o qk2,.slice QA3 q_e qk3,.slice QA4 q_t qk4] 27)).heap.size (wq.alloc (.cells #[.string q_f,.slice QA1 q_n qk1,.slice QA2 q_o qk2,.slice QA3 q_e qk3,.slice QA4 q_t qk4] 27)))
 clear Fp
 by_cases hp0:kp = 0
 case neg =>
  go_wp2_with fail
  refine (Hmd.out _ BW).mono ?_
  rintro e w9 ⟨rfl,hb9⟩
  have BW:=BW.trans (hb9.mono BW.size)
  go_wp2_with fail
  exact bodyPost_ret (v:=.bool true) (by simp [results,Tryz.results4,go_sem]) rfl (HG.out _ BW)
 by_cases hq0:kq = 0
 case neg =>
  subst hp0
  go_wp2_with fail
  refine (Hmd.out _ BW).mono ?_
  rintro e w9 ⟨rfl,hb9⟩
  have BW:=BW.trans (hb9.mono BW.size)
  go_wp2_with fail
  exact bodyPost_ret (v:=.bool true) (by simp [results,Tryz.results4,go_sem]) rfl (HG.out _ BW)
 subst hp0 hq0
 clear BW
 obtain ⟨_,_,Kp,Fp,_,_,_,_,_,_,_,_,_,_,_,BW⟩:=HK.out _ (Below.refl (wq.alloc (.cells #[.string q_f,.slice QA1 q_n qk1,.slice QA2 q_o qk2,.slice QA3 q_e qk3,.slice QA4 q_t qk4] 27)).heap.size (wq.alloc (.cells #[.string q_f,.slice QA1 q_n qk1,.slice QA2 q_o qk2,.slice QA3 q_e qk3,.slice QA4 q_t qk4] 27)))
 have cp0:=Kp.cell 0
 have cp1:=Kp.cell 1
 have cp2:=Kp.cell 2
 have cp3:=Kp.cell 3
 have cp4:=Kp.cell 4
 clear Kp
 go_wp2_with fail
 generalize (wq.alloc (.cells #[.string q_f,.slice QA1 q_n qk1,.slice QA2 q_o qk2,.slice QA3 q_e qk3,.slice QA4 q_t qk4] 27)) = W6 at *
 refine (min_any p _ _ _ Fp (Nat.le_refl _) (HPw.out _ BW)).mono ?_
 rintro e wm ⟨hb,vm,m,km,rfl,hq,hrm⟩
 clear BW cp0 cp1 cp2 cp3 cp4 Fp
 have HRm:=Lib.hid hrm
 clear hrm
 have HK:=Lib.hid (fun (W:World) (h:Below wm.heap.size wm W) => HK.out W (hb.trans (h.mono hb.size)))
 clear hb
 obtain ⟨MA1,mk1,MA2,mk2,MA3,mk3,MA4,mk4,rfl,_⟩:=hq.at_
 have Kn:=Blk.new wm 27 #[.string m.front,.slice MA1 m.next.length mk1,.slice MA2 m.outs.length mk2,.slice MA3 m.ends.length mk3,.slice MA4 m.tail.length mk4]
 have Ln:=(Below.refl wm.heap.size wm).alloc (Nat.le_refl _) (.cells #[.string m.front,.slice MA1 m.next.length mk1,.slice MA2 m.outs.length mk2,.slice MA3 m.ends.length mk3,.slice MA4 m.tail.length mk4] 27)
 have HK:=Lib.hid (fun (W:World) (h:Below (wm.alloc (.cells #[.string m.front,.slice MA1 m.next.length mk1,.slice MA2 m.outs.length mk2,.slice MA3 m.ends.length mk3,.slice MA4 m.tail.length mk4] 27)).heap.size (wm.alloc (.cells #[.string m.front,.slice MA1 m.next.length mk1,.slice MA2 m.outs.length mk2,.slice MA3 m.ends.length mk3,.slice MA4 m.tail.length mk4] 27)) W) => And.intro (Kn.below h Kn.lt) (And.intro (show SeqAt W W.heap.size m (.agg #[.string m.front,.slice MA1 m.next.length mk1,.slice MA2 m.outs.length mk2,.slice MA3 m.ends.length mk3,.slice MA4 m.tail.length mk4]) from (hq.below (Ln.trans (h.mono Ln.size))).at_) (HK.out W (Ln.trans (h.mono Ln.size)))))
 clear Kn Ln hq
 generalize m.front = m_f at *
 generalize m.next.length = m_n at *
 generalize m.outs.length = m_o at *
 generalize m.ends.length = m_e at *
 generalize m.tail.length = m_t at *
 obtain ⟨_,_,Kq,Fq,_,_,_,_,_,_,_,_,_,_,_,_,_,BW⟩:=HK.out _ (Below.refl (wm.alloc (.cells #[.string m_f,.slice MA1 m_n mk1,.slice MA2 m_o mk2,.slice MA3 m_e mk3,.slice MA4 m_t mk4] 27)).heap.size (wm.alloc (.cells #[.string m_f,.slice MA1 m_n mk1,.slice MA2 m_o mk2,.slice MA3 m_e mk3,.slice MA4 m_t mk4] 27)))
 have cq0:=Kq.cell 0
 have cq1:=Kq.cell 1
 have cq2:=Kq.cell 2
 have cq3:=Kq.cell 3
 have cq4:=Kq.cell 4
 clear Kq
 go_wp2_with fail
 generalize (wm.alloc (.cells #[.string m_f,.slice MA1 m_n mk1,.slice MA2 m_o mk2,.slice MA3 m_e mk3,.slice MA4 m_t mk4] 27)) = W7 at *
 refine (min_any q _ _ _ Fq (Nat.le_refl _) (HPw.out _ BW)).mono ?_
 rintro e wn ⟨hb,vn,n,kn,rfl,hq,hrn⟩
 clear BW cq0 cq1 cq2 cq3 cq4 Fq
 have HRn:=Lib.hid hrn
 clear hrn
 have HK:=Lib.hid (fun (W:World) (h:Below wn.heap.size wn W) => HK.out W (hb.trans (h.mono hb.size)))
 clear hb
 obtain ⟨NA1,nk1,NA2,nk2,NA3,nk3,NA4,nk4,rfl,_⟩:=hq.at_
 have Kn:=Blk.new wn 27 #[.string n.front,.slice NA1 n.next.length nk1,.slice NA2 n.outs.length nk2,.slice NA3 n.ends.length nk3,.slice NA4 n.tail.length nk4]
 have Ln:=(Below.refl wn.heap.size wn).alloc (Nat.le_refl _) (.cells #[.string n.front,.slice NA1 n.next.length nk1,.slice NA2 n.outs.length nk2,.slice NA3 n.ends.length nk3,.slice NA4 n.tail.length nk4] 27)
 have HK:=Lib.hid (fun (W:World) (h:Below (wn.alloc (.cells #[.string n.front,.slice NA1 n.next.length nk1,.slice NA2 n.outs.length nk2,.slice NA3 n.ends.length nk3,.slice NA4 n.tail.length nk4] 27)).heap.size (wn.alloc (.cells #[.string n.front,.slice NA1 n.next.length nk1,.slice NA2 n.outs.length nk2,.slice NA3 n.ends.length nk3,.slice NA4 n.tail.length nk4] 27)) W) => And.intro (Kn.below h Kn.lt) (And.intro (show SeqAt W W.heap.size n (.agg #[.string n.front,.slice NA1 n.next.length nk1,.slice NA2 n.outs.length nk2,.slice NA3 n.ends.length nk3,.slice NA4 n.tail.length nk4]) from (hq.below (Ln.trans (h.mono Ln.size))).at_) (HK.out W (Ln.trans (h.mono Ln.size)))))
 clear Kn Ln hq
 generalize n.front = n_f at *
 generalize n.next.length = n_n at *
 generalize n.outs.length = n_o at *
 generalize n.ends.length = n_e at *
 generalize n.tail.length = n_t at *
 obtain ⟨_,_,_,_,_,_,_,_,_,_,_,_,_,_,_,_,_,_,_,BW⟩:=HK.out _ (Below.refl (wn.alloc (.cells #[.string n_f,.slice NA1 n_n nk1,.slice NA2 n_o nk2,.slice NA3 n_e nk3,.slice NA4 n_t nk4] 27)).heap.size (wn.alloc (.cells #[.string n_f,.slice NA1 n_n nk1,.slice NA2 n_o nk2,.slice NA3 n_e nk3,.slice NA4 n_t nk4] 27)))
 by_cases hj:km = 0∧kn = 0
 case neg =>
  have hex:(¬ km = 0)∨(km = 0∧¬ kn = 0):=by omega
  go_wp2_with fail
  refine (Hmd.out _ BW).mono ?_
  rintro e w9 ⟨rfl,hb9⟩
  have BW:=BW.trans (hb9.mono BW.size)
  rcases hex with d5 | ⟨rfl,d5⟩
  ·go_wp2_with fail
   exact bodyPost_ret (v:=.bool true) (by simp [results,Tryz.results4,go_sem]) rfl (HG.out _ BW)
  ·go_wp2_with fail
   exact bodyPost_ret (v:=.bool true) (by simp [results,Tryz.results4,go_sem]) rfl (HG.out _ BW)
 obtain ⟨rfl,rfl⟩:=hj
 have hsame:m = n∧ckB n = true:=by
  obtain ⟨gxa,gxb,gx,gxr,_⟩:=HRx.out (by simp)
  obtain ⟨gya,gyb,gy,gyr,_⟩:=HRy.out (by simp)
  obtain ⟨gla,glb,gl,glr,_⟩:=HRl.out (by simp)
  obtain ⟨gra,grb,gr,grr,_⟩:=HRr.out (by simp)
  have hok:1≤most∧most≤1024:=by
   obtain ⟨_,hbad,_⟩:=HRp.out
   apply Decidable.byContradiction
   intro hn
   have:=hbad fun h => hn h.2
   omega
  have hfl:fckB l = true:=by
   obtain ⟨_,hbad,_⟩:=HRp.out
   apply Decidable.byContradiction
   intro hn
   have:=hbad fun h => hn h.1
   omega
  have hfr:fckB r = true:=by
   obtain ⟨_,hbad,_⟩:=HRq.out
   apply Decidable.byContradiction
   intro hn
   have:=hbad fun h => hn h.1
   omega
  obtain ⟨u,f,htu,_,hpu⟩:=HRp.out.2.2 hfl hok.1 hok.2
  obtain ⟨v,g,htv,_,hqv⟩:=HRq.out.2.2 hfr hok.1 hok.2
  rcases hau:allF u most.toNat with ek | p'
  ·rw [hau] at hpu
   rcases allF_err (htu.right glr) (htu.useful glr) hau with h9 | ⟨h9,_⟩ <;> (exfalso; simp only at hpu; omega)
  rcases hav:allF v most.toNat with ek | q'
  ·rw [hav] at hqv
   rcases allF_err (htv.right grr) (htv.useful grr) hav with h9 | ⟨h9,_⟩ <;> (exfalso; simp only at hqv; omega)
  rw [hau] at hpu
  rw [hav] at hqv
  obtain ⟨_,rfl⟩:=hpu
  obtain ⟨_,rfl⟩:=hqv
  have hrun:=unique_run glr grr (unique_rel (fckB_right gxa) (fckB_right gxb) (fckB_right gyb) gxr gyr gx gy gl gr) htu htv hau hav
  have hm':(m = seq0∧∀ x,p.run x = none)∨(Canon m∧ckB m = true∧∀ x,m.run x = p.run x):=by
   rcases HRm.out with ⟨_,h,_⟩ | ⟨_,⟨h,_⟩ | ⟨_,h⟩⟩
   ·cases h
   ·cases h
   ·exact h
  have hn':(n = seq0∧∀ x,q.run x = none)∨(Canon n∧ckB n = true∧∀ x,n.run x = q.run x):=by
   rcases HRn.out with ⟨_,h,_⟩ | ⟨_,⟨h,_⟩ | ⟨_,h⟩⟩
   ·cases h
   ·cases h
   ·exact h
  refine ⟨unique_min hrun hm' hn',?_⟩
  rcases hn' with ⟨rfl,_⟩ | ⟨_,h,_⟩
  ·exact seq0_ck
  ·exact h
 clear HRx HRy HRl HRr HRp HRq HRm HRn
 go_wp2_with fail
 generalize (wn.alloc (.cells #[.string n_f,.slice NA1 n_n nk1,.slice NA2 n_o nk2,.slice NA3 n_e nk3,.slice NA4 n_t nk4] 27)) = W8 at *
 refine (Hmd.out _ BW).mono ?_
 clear BW
 rintro e w9 ⟨rfl,hb9⟩
 obtain ⟨Kn,Fn,Km,Fm,_,_,_,_,_,_,_,_,_,_,_,_,_,_,_,BW⟩:=HK.out w9 hb9
 have cm0:=Km.cell 0
 have cm1:=Km.cell 1
 have cm2:=Km.cell 2
 have cm3:=Km.cell 3
 have cm4:=Km.cell 4
 have cn0:=Kn.cell 0
 have cn1:=Kn.cell 1
 have cn2:=Kn.cell 2
 have cn3:=Kn.cell 3
 have cn4:=Kn.cell 4
 clear Km Kn HK hb9
 go_wp2_with fail
 obtain ⟨rfl,hck⟩:=hsame
 refine (same21_any m _ _ _ _ Fm Fn (Nat.le_refl _) hck).mono ?_
 rintro e w10 ⟨rfl,hb10⟩
 have BW:=BW.trans (hb10.mono BW.size)
 clear cm0 cm1 cm2 cm3 cm4 cn0 cn1 cn2 cn3 cn4 Fm Fn hb10
 go_wp2_with fail
 exact bodyPost_ret (v:=.bool true) (by simp [results,Tryz.results4,go_sem]) rfl (HG.out _ BW)
end Go.Proofs.YtcondkihpmmnnaaGreatDoor
namespace Go.Proofs.YtcondkihpmmnnaaGreatDoor.TopUnique
open Go.ChangeShapes Go.WideShapes Go.ChangeAt Go.RowKit
open Go.ChangeMaps (open_string shut_string)
set_option maxRecDepth 100000 in
theorem lifted (os:Os) (started:os.Started) (H:Type) (enc:TypeId × Value→H) :
    ReturnsInHanded {} Tryz.checked os 4 .any (fun w args => (Rows.topUniqueSpec.pre enc Tryz.prog Tryz.f4 [] false w args∧laidMetH Tryz.prog laidL w)∧sizedMet enc Tryz.prog Tryz.f4 (OpenSpec.ofChange Rows.topUniqueSpec) false w args) (Rows.topUniqueSpec.post enc Tryz.prog Tryz.f4 false true false false):=by
 refine law_lifted_laid (tb:=4) started (by kernel_rfl) Tryz.func4 rfl ?_ rfl Tryz.underlying4 (by kernel_rfl)
  (ChangeSpec.witness_shaped (enc:=enc) (C:=Tryz.checked) (os:=os) (X:=fun w _ => laidMetH Tryz.prog laidL w) false (World.doorLaid Tryz.prog 14 os) #[.agg #[.int .i64 0,.slice none 0 0,.slice none 0 0,.slice none 0 0],.agg #[.int .i64 0,.slice none 0 0,.slice none 0 0,.slice none 0 0],.agg #[.int .i64 0,.slice none 0 0,.slice none 0 0,.slice none 0 0],.int .i64 0] 8 rfl (World.shaped_of_RefB (by kernel_rfl) (by kernel_rfl)) (by kernel_rfl) (by kernel_rfl) (by kernel_rfl) (door_met os _)) ?_
 ·intro ds hl
  match ds,hl with
  | [_,_,_,_],_ => rfl
 intro W base args ds before hval0 hA0 hlt hsz0 hTab
 have hval:∀ (j:Nat) t v,Tryz.f4.params[j]? = some t→args[j]? = some v→Value.okWide Tryz.prog W .any base t v:=hval0
 have hA:DataW.TrodAll enc Tryz.prog W 0 (fun _ => true) true Tryz.f4.params.toList args.toList ds before:=hA0
 have hsz:(DataW.weightsEach Tryz.prog Tryz.f4.params.toList ds).all (·≤reachBytes) = true:=hsz0
 rw [Tryz.params4] at hA hval hsz
 obtain ⟨v0,vs0,d0,ds0,p0,q0,hargs,rfl,rfl,h0,r0⟩:=trodAll_cons hA
 obtain ⟨v1,vs1,d1,ds1,p1,q1,rfl,rfl,rfl,h1,r1⟩:=trodAll_cons r0
 obtain ⟨v2,vs2,d2,ds2,p2,q2,rfl,rfl,rfl,h2,r2⟩:=trodAll_cons r1
 obtain ⟨v3,vs3,d3,ds3,p3,q3,rfl,rfl,rfl,h3,r3⟩:=trodAll_cons r2
 obtain ⟨rfl,rfl,rfl⟩:=trodAll_nil r3
 obtain rfl:args = #[v0,v1,v2,v3]:=by cases args; simp_all
 obtain ⟨M0,R0⟩:=open_fst (hval 0 32 v0 rfl rfl) h0 (fun x hx => hlt x (by simp [hx]))
 obtain ⟨M1,R1⟩:=open_fst (hval 1 32 v1 rfl rfl) h1 (fun x hx => hlt x (by simp [hx]))
 obtain ⟨M2,R2⟩:=open_fst (hval 2 32 v2 rfl rfl) h2 (fun x hx => hlt x (by simp [hx]))
 obtain ⟨a3,rfl,rfl,rfl,w3⟩:=open_int Tryz.underlying3 (hval 3 3 v3 rfl rfl) h3
 exact unique_walk M0 M1 M2 v0 v1 v2 a3 W R0 R1 R2 (bounds_i64 w3) hTab
theorem proved:Rows.TopUniqueSaid :=
 OpenClaim.holds_of_wide 4 Tryz.f4 rfl rfl rfl rfl rfl rfl rfl ⟨rfl,rfl,rfl,rfl,rfl⟩ rfl rfl rfl rfl rfl (by kernel_rfl) Tryz.func4 (by kernel_rfl)
  (of_decide_eq_true (by kernel_rfl)) (by unfold Func.isWrapper; first | (rw [if_pos (by decide +kernel)]; kernel_rfl) | (rw [if_neg (by decide +kernel)]; exact ⟨rfl,rfl⟩))
  (fun os started H enc _ => lifted os started H enc)
theorem card_holds:Rows.TopUniqueCardSaid :=
 Claim7.holds_tied_plain_at .later [] [.data,.data,.data] true (true,"4ff8601192a1eb7c5d33e08d581ce744d95b93651d2c8e99f0954c8a855d605d") true
  proved (fun _ h => by cases h) (by kernel_rfl) (fun _ h => by cases h) topUnique_row_tie rfl ⟨rfl,rfl⟩ (by kernel_rfl) rfl
  (fun f fn hf hfn => by
   obtain rfl:f = 4:=Option.some.inj ((show Tryz.prog.funcNamed "whittle/whittletop.TopUnique" = some 4 by kernel_rfl).symm.trans hf) |>.symm
   obtain rfl:fn = Tryz.f4:=(Option.some.inj (Tryz.func4.symm.trans hfn)).symm
   exact ⟨by kernel_rfl,fun j t ht => by
    rw [Tryz.params4] at ht
    have hm:t∈[32,32,32,3]:=by simpa using Array.mem_of_getElem? ht
    have hall:([32,32,32,3].all fun u => !Tryz.prog.wantsStandIn u) = true:=by kernel_rfl
    exact (show Tryz.prog.wantsStandIn t = false by simpa using List.all_eq_true.1 hall t hm)⟩)
  (by kernel_rfl)
#print axioms card_holds
end Go.Proofs.YtcondkihpmmnnaaGreatDoor.TopUnique
