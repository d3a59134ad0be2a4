/- Lemmas, part 9 of 50. No condition. -/
import Derived.Test.YtcondkihpmmnnaaGreatDoorQ02
import Derived.Test.YtcondkihpmmnnaaGreatDoorQ04
import Derived.Test.YtcondkihpmmnnaaGreatDoorQ06
import Derived.Test.YtcondkihpmmnnaaGreatDoorQ03
import Derived.Test.YtcondkihpmmnnaaGreatDoorQ08
import Derived.Lib.ItoaNum
import Derived.OpenShut
import Derived.Lib.SmallJoins
import Derived.Deep.Slices
import Derived.Deep.Fields
import Derived.Deep.Grids
import Derived.ChangeSame
import Derived.Test.YtcondkihpmmnnaaGreatDoorQ07
import Derived.Test.YtcondkihpmmnnaaGreatDoorQ05
namespace Go.Proofs.YtcondkihpmmnnaaGreatDoor
open Go.RowKit Go.Sort
theorem state_any (s n:Int) (w:World):Calls Tryz.prog 49 #[.int .i64 s,.int .i64 n] w (fun e w' => e = .returned (.bool (stB' s n))∧w = w'):=by
 by_cases h1:0≤s
 ·by_cases h2:s < n
  ·have e:stB' s n = true:=by unfold stB'; simp [h1,h2]
   rw [e]
   go_enter Tryz.func49,Tryz.ntmps49
   go_wp2
   go_ret
   exact ⟨rfl,rfl⟩
  ·have e:stB' s n = false:=by unfold stB'; simp [h2]
   rw [e]
   go_enter Tryz.func49,Tryz.ntmps49
   go_wp2
   go_ret
   exact ⟨rfl,rfl⟩
 ·have e:stB' s n = false:=by unfold stB'; simp [h1]
  rw [e]
  go_enter Tryz.func49,Tryz.ntmps49
  go_wp2
  go_ret
  exact ⟨rfl,rfl⟩
set_option maxRecDepth 100000 in
set_option maxHeartbeats 4000000 in
theorem rightTips_any (A:Option Addr) (n c B:Nat) (l:List Tp) (s:Int) (w:World) (HR0:Reads w B 2 A n (encs encT l)) (hB:B≤w.heap.size) (hn:n≤maxLen) (hW:∀ x∈l,TpW x) :
    Calls Tryz.prog 48 #[.slice A n c,.int .i64 s] w (Gives (.bool (tipsB l s)) w):=by
 have HR:=HR0.more hB
 clear HR0
 have hl:=reads_len encT_len (by decide) HR
 unfold maxLen at hn
 by_cases h0:1024 < n
 ·have e:tipsB l s = false:=by unfold tipsB; rw [hl,decide_eq_false (by omega)]; rfl
  rw [e]
  go_enter Tryz.func48,Tryz.ntmps48
  go_wp2
  go_ret
  exact ⟨rfl,Below.refl _ _⟩
 ·go_enter Tryz.func48,Tryz.ntmps48
  go_wp2
  go_loopw [12] (fun i wr => ∃ k:Nat,k≤n∧i = .int .i64 k∧Below w.heap.size w wr∧(l.take k).all (tipB s) = true) (fun i _ => n - (intOf i).toNat)
  case atStart => exact ⟨0,by omega,rfl,Below.refl _ _,rfl⟩
  case round =>
   obtain ⟨k,hk,rfl,HB,ha⟩:=hrel
   have hsz:=HB.size
   by_cases hlt:k < n
   ·have hi1:(0:Int)≤(k:Int):=by omega
    have hi2:(k:Int) < (n:Int):=by omega
    obtain ⟨g,o,rfl,hgB,c0,c1⟩:=tip_cell (HR.below HB) k hlt
    have hbad:tipB s (l.getD k tp0) = false→tipsB l s = false:=fun h => by unfold tipsB; rw [all_fail tp0 k (by omega) h,Bool.and_false]
    have hgood:tipB s (l.getD k tp0) = true→(l.take (k + 1)).all (tipB s) = true:=fun h => all_next tp0 k (by omega) h ha
    have hx:TpW (l.getD k tp0):=hW _ (by rw [List.getD_eq_getElem?_getD,List.getElem?_eq_getElem (by omega)]; exact List.getElem_mem _)
    obtain ⟨x1,x2,x3⟩:=hx
    unfold maxLen at x3
    unfold tipB at hbad hgood
    generalize (l.getD k tp0).st = z at *
    generalize (l.getD k tp0).out = q at *
    have Hb:=Lib.hid hbad; clear hbad
    have Hg:=Lib.hid hgood; clear hgood
    clear ha hW
    rcases hst:stB' z s with _ | _
    ·have hs:∀ W,Calls Tryz.prog 49 #[.int .i64 z,.int .i64 s] W (fun e w' => e = .returned (.bool false)∧W = w'):=fun W => by rw [← hst]; exact state_any z s W
     have e:=Hb.out (by rw [hst]; rfl)
     rw [e]
     clear hst e Hb Hg
     go_wp2_with (go_at_call 49; refine (hs _).mono ?_; rintro e w1 ⟨rfl,rfl⟩)
     go_ret
     exact ⟨rfl,HB.alloc (by omega) _⟩
    ·have hs:∀ W,Calls Tryz.prog 49 #[.int .i64 z,.int .i64 s] W (fun e w' => e = .returned (.bool true)∧W = w'):=fun W => by rw [← hst]; exact state_any z s W
     by_cases h1:(1024:Int) < (q.size:Int)
     ·have e:=Hb.out (by rw [hst,decide_eq_false (by omega)]; rfl)
      rw [e]
      clear hst e Hb Hg
      go_wp2_with (go_at_call 49; refine (hs _).mono ?_; rintro e w1 ⟨rfl,rfl⟩)
      go_ret
      exact ⟨rfl,HB.alloc (by omega) _⟩
     ·have e:=Hg.out (by rw [hst,decide_eq_true (by omega)]; rfl)
      have E:=Lib.hid e
      clear hst e Hb Hg
      go_wp2_with (go_at_call 49; refine (hs _).mono ?_; rintro e w1 ⟨rfl,rfl⟩)
      go_roundw
      case rel => exact ⟨k + 1,by omega,by go_num,HB.alloc (by omega) _,E.out⟩
      case measure => simp [intOf]; omega
   ·have e:k = n:=by omega
    subst e
    have er:tipsB l s = true:=by
     unfold tipsB
     rw [← hl,List.take_length] at ha
     rw [ha,decide_eq_true (by omega)]; rfl
    have Er:=Lib.hid er
    clear er ha
    go_wp2
    go_ret
    refine ⟨?_,HB⟩
    rw [Er.out]
    rfl
end Go.Proofs.YtcondkihpmmnnaaGreatDoor
namespace Go.Proofs.YtcondkihpmmnnaaGreatDoor
open Go.RowKit Go.Sort
theorem fck_no {t:Fs} (h:¬ (0≤t.n∧t.n≤1024∧t.arcs.length≤16384∧tipsB t.starts t.n = true∧tipsB t.ends t.n = true)):okE (fckB t) = 1:=by
 have:fckB t = false:=by
  rw [← Bool.not_eq_true]
  intro h2
  apply h
  unfold fckB at h2
  simp only [Bool.and_eq_true,decide_eq_true_eq] at h2
  exact ⟨h2.1.1.1.1.1,h2.1.1.1.1.2,h2.1.1.1.2,h2.1.1.2,h2.1.2⟩
 rw [this]; rfl
theorem fck_arc {t:Fs} (k:Nat) (hk:k < t.arcs.length) (h:arcB t.n (t.arcs.getD k ar0) = false):okE (fckB t) = 1:=by
 have:fckB t = false:=by unfold fckB; rw [all_fail ar0 k hk h,Bool.and_false]
 rw [this]; rfl
theorem fck_yes {t:Fs} (h:0≤t.n∧t.n≤1024∧t.arcs.length≤16384∧tipsB t.starts t.n = true∧tipsB t.ends t.n = true) (ha:t.arcs.all (arcB t.n) = true):okE (fckB t) = 0:=by
 have:fckB t = true:=by
  unfold fckB
  simp only [Bool.and_eq_true,decide_eq_true_eq]
  exact ⟨⟨⟨⟨⟨h.1,h.2.1⟩,h.2.2.1⟩,h.2.2.2.1⟩,h.2.2.2.2⟩,ha⟩
 rw [this]; rfl
set_option maxRecDepth 100000 in
set_option maxHeartbeats 8000000 in
theorem fstCheck_any (t:Fs) (v:Value) (B:Nat) (w:World) (HS:FstAt w B t v) (hB:B≤w.heap.size) :
    Calls Tryz.prog 20 #[v] w (Gives (.int .i64 (okE (fckB t))) w):=by
 obtain ⟨A1,c1,A2,c2,A3,c3,rfl,h1,h2,h3,h4,h5,h6,h7,h8,R1,W1,R2,W2,R3,W3⟩:=HS
 have hno:=Lib.hid (@fck_no t)
 have harc:=Lib.hid (fun k => @fck_arc t k)
 have hyes:=Lib.hid (@fck_yes t)
 have R1':=R1.more hB
 have R2':=R2.more hB
 have R3':=R3.more hB
 clear R1 R2 R3
 have T1:∀ W,Below w.heap.size w W→Calls Tryz.prog 48 #[.slice A1 t.starts.length c1,.int .i64 t.n] W (Gives (.bool (tipsB t.starts t.n)) W):=fun W hb => rightTips_any A1 _ c1 w.heap.size t.starts t.n W (R1'.below hb) hb.size (by omega) W1
 have T2:∀ W,Below w.heap.size w W→Calls Tryz.prog 48 #[.slice A2 t.ends.length c2,.int .i64 t.n] W (Gives (.bool (tipsB t.ends t.n)) W):=fun W hb => rightTips_any A2 _ c2 w.heap.size t.ends t.n W (R2'.below hb) hb.size (by omega) W2
 clear R1' R2' W1 W2
 unfold maxLen at *
 generalize okE (fckB t) = r at *
 generalize t.starts.length = n1 at *
 generalize t.ends.length = n2 at *
 generalize tipsB t.starts t.n = b1 at *
 generalize tipsB t.ends t.n = b2 at *
 by_cases d1:t.n < 0
 ·obtain rfl:r = 1:=hno.out (by omega)
  generalize t.n = N at *
  clear hno harc hyes T1 T2 W3
  go_enter Tryz.func20,Tryz.ntmps20
  go_wp2
  go_ret
  exact ⟨rfl,(Below.refl _ _).alloc (Nat.le_refl _) _⟩
 by_cases d2:1024 < t.n
 ·obtain rfl:r = 1:=hno.out (by omega)
  generalize t.n = N at *
  clear hno harc hyes T1 T2 W3
  go_enter Tryz.func20,Tryz.ntmps20
  go_wp2
  go_ret
  exact ⟨rfl,(Below.refl _ _).alloc (Nat.le_refl _) _⟩
 by_cases d3:16384 < t.arcs.length
 ·obtain rfl:r = 1:=hno.out (by omega)
  generalize t.n = N at *
  generalize hm:t.arcs.length = m at *
  clear hno harc hyes T1 T2 W3 hm R3'
  go_enter Tryz.func20,Tryz.ntmps20
  go_wp2
  go_ret
  exact ⟨rfl,(Below.refl _ _).alloc (Nat.le_refl _) _⟩
 rcases b1 with _ | _
 ·obtain rfl:r = 1:=hno.out (by simp)
  generalize t.n = N at *
  generalize hm:t.arcs.length = m at *
  clear hno harc hyes T2 W3 hm R3'
  go_enter Tryz.func20,Tryz.ntmps20
  go_wp2_with (go_at_call 48; refine (T1 _ ((Below.refl _ _).alloc (Nat.le_refl _) _)).mono ?_; rintro e w1 ⟨rfl,HB1⟩)
  go_ret
  exact ⟨rfl,((Below.refl _ _).alloc (Nat.le_refl _) _).trans (HB1.mono (by simp))⟩
 rcases b2 with _ | _
 ·obtain rfl:r = 1:=hno.out (by simp)
  generalize t.n = N at *
  generalize hm:t.arcs.length = m at *
  clear hno harc hyes W3 hm R3'
  have B0:=(Below.refl w.heap.size w).alloc (Nat.le_refl _) (.cells #[.int .i64 N,.slice A1 n1 c1,.slice A2 n2 c2,.slice A3 m c3] 32)
  have K0:=Blk.new w 32 #[.int .i64 N,.slice A1 n1 c1,.slice A2 n2 c2,.slice A3 m c3]
  go_enter Tryz.func20,Tryz.ntmps20
  go_wp2_with fail
  refine (T1 _ B0).mono ?_
  rintro e w1 ⟨rfl,HB1⟩
  have B1:=B0.trans (HB1.mono (by simp))
  have K1:=K0.below HB1 (by simp)
  have k0:=K1.cell 0
  have k2:=K1.cell 2
  go_wp2_with fail
  refine (T2 _ B1).mono ?_
  rintro e w2 ⟨rfl,HB2⟩
  go_wp2
  go_ret
  exact ⟨rfl,B1.trans (HB2.mono B1.size)⟩
 have hA:=Lib.hid (fun ha => hyes.out ⟨by omega,by omega,by omega,rfl,rfl⟩ ha)
 clear hno hyes
 have B0:=(Below.refl w.heap.size w).alloc (Nat.le_refl _) (.cells #[.int .i64 t.n,.slice A1 n1 c1,.slice A2 n2 c2,.slice A3 t.arcs.length c3] 32)
 have K0:=Blk.new w 32 #[.int .i64 t.n,.slice A1 n1 c1,.slice A2 n2 c2,.slice A3 t.arcs.length c3]
 have hlen:t.arcs.length≤16384:=by omega
 generalize t.n = N at *
 generalize t.arcs = L at *
 generalize hm:L.length = m at *
 have Hm:=Lib.hid hm
 clear hm
 go_enter Tryz.func20,Tryz.ntmps20
 go_wp2_with fail
 refine (T1 _ B0).mono ?_
 rintro e w1 ⟨rfl,HB1⟩
 have B1:=B0.trans (HB1.mono (by simp))
 have K1:=K0.below HB1 (by simp)
 have k0:=K1.cell 0
 have k2:=K1.cell 2
 go_wp2_with fail
 refine (T2 _ B1).mono ?_
 rintro e w2 ⟨rfl,HB2⟩
 have B2:=B1.trans (HB2.mono B1.size)
 have K2:=K1.below HB2 (by have:=HB1.size; simp at this; omega)
 have z2:w.heap.size < w2.heap.size:=by have:=HB1.size; have:=HB2.size; simp at *; omega
 clear T1 T2 k0 k2 K1 K0 B0 B1 HB1 HB2
 have k3:=K2.cell 3
 go_wp2
 clear k3
 go_loopw [36] (fun i wr => ∃ k:Nat,k≤m∧i = .int .i64 k∧Below w.heap.size w wr∧Blk wr w.heap.size 32 #[.int .i64 N,.slice A1 n1 c1,.slice A2 n2 c2,.slice A3 m c3]∧w.heap.size < wr.heap.size∧(L.take k).all (arcB N) = true) (fun i _ => m - (intOf i).toNat)
 case atStart => exact ⟨0,by omega,rfl,B2,K2,z2,rfl⟩
 case round =>
  clear B2 K2 z2
  obtain ⟨k,hk,rfl,HB,HK,hsz,ha⟩:=hrel
  by_cases hlt:k < m
  ·have hi1:(0:Int)≤(k:Int):=by omega
   have hi2:(k:Int) < (m:Int):=by omega
   obtain ⟨g,o,rfl,hgB,a0,a1,a2,a3,a4,a5,a6,a7⟩:=arc_cell (R3'.below HB) k hlt
   have hbad:arcB N (L.getD k ar0) = false→r = 1:=fun h => harc.out k hlt h
   have hgood:arcB N (L.getD k ar0) = true→(L.take (k + 1)).all (arcB N) = true:=fun h => all_next ar0 k (by have:=Hm.out; omega) h ha
   have hx:ArW (L.getD k ar0):=W3 _ (by rw [List.getD_eq_getElem?_getD,List.getElem?_eq_getElem (by have:=Hm.out; omega)]; exact List.getElem_mem _)
   have x6:(L.getD k ar0).out.size≤9223372036854775807:=by have:=hx.2.2.2.2.2; unfold maxLen at this; exact this
   have he:=fun W => eql_words W ((L.getD k ar0).set.a:Int) ((L.getD k ar0).set.b:Int) ((L.getD k ar0).set.c:Int) ((L.getD k ar0).set.d:Int) 0 0 0 0
   have he2:((((L.getD k ar0).set.a:Int) == 0) && ((((L.getD k ar0).set.b:Int) == 0) && ((((L.getD k ar0).set.c:Int) == 0) && (((L.getD k ar0).set.d:Int) == 0)))) = !((L.getD k ar0).set != St.none):=by
    rw [Bool.eq_iff_iff]
    obtain ⟨s1,s2,s3,s4⟩:=(L.getD k ar0).set
    simp [St.none]
   rw [he2] at he
   unfold arcB at hbad hgood
   clear he2 hx ha
   have sf:=fun W => state_any (L.getD k ar0).fr N W
   have st:=fun W => state_any (L.getD k ar0).to N W
   generalize (L.getD k ar0).fr = fr at *
   generalize (L.getD k ar0).to = to at *
   generalize ((L.getD k ar0).set != St.none) = sb at *
   generalize (L.getD k ar0).set.a = s1 at *
   generalize (L.getD k ar0).set.b = s2 at *
   generalize (L.getD k ar0).set.c = s3 at *
   generalize (L.getD k ar0).set.d = s4 at *
   generalize (L.getD k ar0).out = q at *
   generalize (L.getD k ar0).cp = cp at *
   generalize stB' fr N = p1 at *
   generalize stB' to N = p2 at *
   have Hb:=Lib.hid hbad; clear hbad
   have Hg:=Lib.hid hgood; clear hgood
   have HKa:=HK.alloc (.cells #[.int .i64 fr,.int .i64 to,.int .u64 s1,.int .u64 s2,.int .u64 s3,.int .u64 s4,.string q,.bool cp] 61)
   have k0:=HKa.cell 0
   rcases p1 with _ | _
   ·obtain rfl:r = 1:=Hb.out rfl
    clear Hb Hg st he
    go_wp2_with (go_at_call 49; refine (sf _).mono ?_; rintro e w1 ⟨rfl,rfl⟩)
    go_ret
    exact ⟨rfl,HB.alloc (by omega) _⟩
   rcases p2 with _ | _
   ·obtain rfl:r = 1:=Hb.out rfl
    clear Hb Hg he
    go_wp2_with fail
    refine (sf _).mono ?_
    rintro e w1 ⟨rfl,rfl⟩
    go_wp2_with fail
    refine (st _).mono ?_
    rintro e w1 ⟨rfl,rfl⟩
    go_wp2
    go_ret
    exact ⟨rfl,HB.alloc (by omega) _⟩
   rcases sb with _ | _
   ·obtain rfl:r = 1:=Hb.out rfl
    clear Hb Hg
    go_wp2_with fail
    refine (sf _).mono ?_
    rintro e w1 ⟨rfl,rfl⟩
    go_wp2_with fail
    refine (st _).mono ?_
    rintro e w1 ⟨rfl,rfl⟩
    go_wp2
    go_ret
    exact ⟨rfl,HB.alloc (by omega) _⟩
   by_cases h1:(1024:Int) < (q.size:Int)
   ·obtain rfl:r = 1:=Hb.out (by simp; omega)
    clear Hb Hg
    go_wp2_with fail
    refine (sf _).mono ?_
    rintro e w1 ⟨rfl,rfl⟩
    go_wp2_with fail
    refine (st _).mono ?_
    rintro e w1 ⟨rfl,rfl⟩
    go_wp2
    go_ret
    exact ⟨rfl,HB.alloc (by omega) _⟩
   ·have E:=Lib.hid (Hg.out (by simp; omega))
    clear Hb Hg
    go_wp2_with fail
    refine (sf _).mono ?_
    rintro e w1 ⟨rfl,rfl⟩
    go_wp2_with fail
    refine (st _).mono ?_
    rintro e w1 ⟨rfl,rfl⟩
    go_wp2
    go_roundw
    case rel => exact ⟨k + 1,by omega,by go_num,HB.alloc (by omega) _,HKa,by simp; omega,E.out⟩
    case measure => simp [intOf]; omega
  ·have e:k = m:=by omega
   subst e
   obtain rfl:r = 0:=hA.out (by rw [← Hm.out,List.take_length] at ha; exact ha)
   clear ha
   go_wp2
   go_ret
   exact ⟨rfl,HB⟩
end Go.Proofs.YtcondkihpmmnnaaGreatDoor
namespace Go.Proofs.YtcondkihpmmnnaaGreatDoor
section
variable {p q r:SeqM} {a b t u:Fs} {f:Int→Int} {most:Nat}
 (hp:∀ s b,s < p.next.length→b < 256→p.nx s b < p.next.length) (hq:∀ s b,s < q.next.length→b < 256→q.nx s b < q.next.length)
 (ha:Backs p a) (hb:Backs q b) (ra:Right a) (rb:Right b) (hc:Chain a b t) (rt:Right t) (ht:Trims t u f)
include hp hq ha hb ra rb hc rt ht
theorem compose_rel (w o:List UInt8):Rel u w o↔∃ m,p.run w = some m∧q.run m = some o:=by
 rw [ht.rel rt,rel_of_chain ra rb hc]
 constructor
 ·rintro ⟨m,h1,h2⟩; exact ⟨m,(rel_of_back ha hp w m).1 h1,(rel_of_back hb hq m o).1 h2⟩
 ·rintro ⟨m,h1,h2⟩; exact ⟨m,(rel_of_back ha hp w m).2 h1,(rel_of_back hb hq m o).2 h2⟩
theorem compose_law (h:allF u most = .ok r) (w o:List UInt8):r.run w = some o↔∃ m,p.run w = some m∧q.run m = some o:=by
 rw [allF_run (ht.right rt) h]
 exact compose_rel hp hq ha hb ra rb hc rt ht w o
theorem compose_many:allF u most≠.error 12:=by
 intro h
 rcases allF_err (ht.right rt) (ht.useful rt) h with h | ⟨_,w,o1,o2,hne,h1,h2⟩
 ·exact absurd h (by decide)
 ·obtain ⟨m1,a1,b1⟩:=(compose_rel hp hq ha hb ra rb hc rt ht w o1).1 h1
  obtain ⟨m2,a2,b2⟩:=(compose_rel hp hq ha hb ra rb hc rt ht w o2).1 h2
  rw [a1] at a2
  injection a2 with a2
  subst a2
  rw [b1] at b2
  injection b2 with b2
  exact hne b2
end
end Go.Proofs.YtcondkihpmmnnaaGreatDoor
namespace Go.Proofs.YtcondkihpmmnnaaGreatDoor
def put1 (acc:Option (List Tp)) (q:Tp):Option (List Tp):=acc.bind fun l => if q∈l then some l else if 4096≤l.length then none else some (l ++ [q])
def puts (l:List Tp):Option (List Tp):=l.foldl put1 (some [])
theorem puts_nil:puts [] = some []:=rfl
theorem puts_snoc (l:List Tp) (q:Tp):puts (l ++ [q]) = put1 (puts l) q:=by unfold puts; rw [List.foldl_append]; rfl
theorem put_none (l:List Tp):l.foldl put1 none = none:=by
 induction l with
 | nil => rfl
 | cons q l ih => exact ih
theorem puts_none {l:List Tp} (h:puts l = none) (l':List Tp):puts (l ++ l') = none:=by
 unfold puts at *
 rw [List.foldl_append,h]
 exact put_none l'
theorem puts_mem:∀ (n:Nat) (l r:List Tp),l.length = n→puts l = some r→(∀ q,q∈r↔q∈l)∧r.Nodup∧r.length≤4096
 | 0,l,r,hn,h => by
  obtain rfl:=List.eq_nil_of_length_eq_zero hn
  rw [puts_nil] at h
  cases h
  exact ⟨fun _ => Iff.rfl,List.nodup_nil,Nat.zero_le _⟩
 | n + 1,l,r,hn,h => by
  rcases List.eq_nil_or_concat l with rfl | ⟨l',q,rfl⟩
  ·cases hn
  ·rw [List.concat_eq_append] at *
   rw [puts_snoc] at h
   rcases h1:puts l' with _ | r'
   ·rw [h1] at h; cases h
   ·obtain ⟨a1,a2,a3⟩:=puts_mem n l' r' (by simpa using hn) h1
    rw [h1] at h
    unfold put1 at h
    simp only [Option.bind_some] at h
    split at h
    ·cases h
     refine ⟨fun u => ?_,a2,a3⟩
     rw [List.mem_append,List.mem_singleton,a1]
     constructor
     ·exact .inl
     ·rintro (h | rfl)
      ·exact h
      ·rw [← a1]; assumption
    ·split at h
     ·cases h
     ·rename_i hq hl
      cases h
      refine ⟨fun u => by rw [List.mem_append,List.mem_append,a1],?_,by rw [List.length_append,List.length_singleton]; omega⟩
      rw [List.nodup_append]
      refine ⟨a2,by simp,?_⟩
      intro x hx y hy
      rw [List.mem_singleton] at hy
      subst hy
      intro e
      exact hq (e ▸ hx)
def nxT (p:Tp) (x:Ar) (b:UInt8):Tp:=⟨x.to,if x.cp = true then p.out ++ x.out ++ ⟨#[b]⟩ else p.out ++ x.out⟩
def outsA (b:UInt8) (p:Tp) (xs:List Ar):List Tp:=(xs.filter fun x => x.set.m b.toNat).map fun x => nxT p x b
def outsP (arcs:List Ar) (b:UInt8) (now:List Tp):List Tp:=now.flatMap fun p => outsA b p (arcs.filter fun x => decide (x.fr = p.st))
def waysF (arcs:List Ar) (s:Int) (w:List UInt8):Option (List Tp):=w.foldl (fun acc b => acc.bind fun now => puts (outsP arcs b now)) (some [⟨s,ByteArray.empty⟩])
theorem waysF_snoc (arcs:List Ar) (s:Int) (w:List UInt8) (b:UInt8):waysF arcs s (w ++ [b]) = (waysF arcs s w).bind fun now => puts (outsP arcs b now):=by
 unfold waysF; rw [List.foldl_append]; rfl
theorem bl_nxT (p:Tp) (x:Ar) (b:UInt8):bl (nxT p x b).out = bl p.out ++ x.put b:=by
 have e:(⟨#[b]⟩:ByteArray).data.toList = [b]:=rfl
 unfold nxT Ar.put
 by_cases h:x.cp = true
 ·simp only [h,if_true]
  rw [bl_app,bl_app,List.append_assoc]
 ·simp only [h]
  show bl (p.out ++ x.out) = _
  rw [bl_app]
  simp [bl]
theorem mem_outsP {arcs:List Ar} {b:UInt8} {now:List Tp} {q:Tp}:q∈outsP arcs b now↔∃ p∈now,∃ x∈arcs,x.fr = p.st∧x.set.m b.toNat = true∧nxT p x b = q:=by
 unfold outsP outsA
 simp only [List.mem_flatMap,List.mem_map,List.mem_filter,decide_eq_true_eq]
 constructor
 ·rintro ⟨p,hp,x,⟨⟨h1,h2⟩,h3⟩,h4⟩
  exact ⟨p,hp,x,h1,h2,h3,h4⟩
 ·rintro ⟨p,hp,x,h1,h2,h3,h4⟩
  exact ⟨p,hp,x,⟨⟨h1,h2⟩,h3⟩,h4⟩
theorem ways_mem (arcs:List Ar) (s:Int):∀ (n:Nat) (w:List UInt8) (l:List Tp),w.length = n→waysF arcs s w = some l→∀ q,q∈l↔Way arcs s w (bl q.out) q.st
 | 0,w,l,hn,h => by
  obtain rfl:=List.eq_nil_of_length_eq_zero hn
  cases h
  intro q
  rw [List.mem_singleton,Way.nil_iff]
  constructor
  ·rintro rfl; exact ⟨rfl,rfl⟩
  ·rintro ⟨h1,h2⟩
   obtain ⟨st,out⟩:=q
   have:=bl_inj (h1.trans bl_nil.symm)
   simp only at this h2
   rw [this,h2]
 | n + 1,w,l,hn,h => by
  rcases List.eq_nil_or_concat w with rfl | ⟨w',b,rfl⟩
  ·cases hn
  ·rw [List.concat_eq_append] at *
   rw [waysF_snoc] at h
   rcases h1:waysF arcs s w' with _ | now
   ·rw [h1] at h; cases h
   ·have ih:=ways_mem arcs s n w' now (by simpa using hn) h1
    rw [h1] at h
    have hm:=(puts_mem _ _ _ rfl (show puts (outsP arcs b now) = some l from h)).1
    intro q
    rw [hm,mem_outsP,Way.snoc_iff]
    constructor
    ·rintro ⟨p,hp,x,hx,h1,h2,rfl⟩
     exact ⟨p.st,bl p.out,(ih p).1 hp,x,hx,h1,h2,rfl,bl_nxT p x b⟩
    ·rintro ⟨y,o1,hw,x,hx,h1,h2,h3,h4⟩
     refine ⟨⟨y,⟨o1.toArray⟩⟩,(ih _).2 (by simpa [bl] using hw),x,hx,h1,h2,?_⟩
     obtain ⟨st,out⟩:=q
     simp only at h3 h4
     have e:bl (nxT ⟨y,⟨o1.toArray⟩⟩ x b).out = bl out:=by rw [bl_nxT,h4]
     have:=bl_inj e
     unfold nxT at this ⊢
     simp only at this ⊢
     rw [this,h3]
theorem nxT_size (p:Tp) (x:Ar) (b:UInt8):(nxT p x b).out.size≤p.out.size + x.out.size + 1:=by
 have h:=congrArg List.length (bl_nxT p x b)
 rw [bl_len,List.length_append,bl_len] at h
 rw [h]
 unfold Ar.put
 rw [List.length_append]
 have e:x.out.data.toList.length = x.out.size:=rfl
 split <;> simp [e] <;> omega
end Go.Proofs.YtcondkihpmmnnaaGreatDoor
namespace Go.Proofs.YtcondkihpmmnnaaGreatDoor
def outsJ (arcs:List Ar) (b:UInt8) (now:List Tp) (xs:List Ar) (j k:Nat):List Tp:=outsP arcs b (now.take j) ++ outsA b (now.getD j tp0) (xs.take k)
theorem outsJ_zero (arcs:List Ar) (b:UInt8) (now:List Tp) (xs:List Ar) (j:Nat):outsJ arcs b now xs j 0 = outsP arcs b (now.take j):=by
 unfold outsJ outsA; simp
theorem take_next {α:Type} (l:List α) (d:α) (k:Nat) (hk:k < l.length):l.take (k + 1) = l.take k ++ [l.getD k d]:=by
 rw [List.take_succ_eq_append_getElem hk,List.getD_eq_getElem?_getD,List.getElem?_eq_getElem hk]
 rfl
theorem outsA_next (b:UInt8) (p:Tp) (xs:List Ar) (k:Nat) (hk:k < xs.length) :
    outsA b p (xs.take (k + 1)) = outsA b p (xs.take k) ++ if (xs.getD k ar0).set.m b.toNat = true then [nxT p (xs.getD k ar0) b] else []:=by
 unfold outsA
 rw [take_next xs ar0 k hk,List.filter_append,List.map_append]
 by_cases h:(xs.getD k ar0).set.m b.toNat = true
 ·rw [if_pos h,List.filter_cons_of_pos (by simpa using h)]; rfl
 ·rw [if_neg h,List.filter_cons_of_neg (by simpa using h)]; simp
theorem outsJ_next (arcs:List Ar) (b:UInt8) (now:List Tp) (xs:List Ar) (j k:Nat) (hk:k < xs.length) :
    outsJ arcs b now xs j (k + 1) = outsJ arcs b now xs j k ++ if (xs.getD k ar0).set.m b.toNat = true then [nxT (now.getD j tp0) (xs.getD k ar0) b] else []:=by
 unfold outsJ
 rw [outsA_next b _ xs k hk,List.append_assoc]
theorem outsP_next (arcs:List Ar) (b:UInt8) (now:List Tp) (s j:Nat) (hj:j < now.length) (hs:(now.getD j tp0).st = (s:Int)) :
    outsP arcs b (now.take (j + 1)) = outsJ arcs b now (leavS arcs arcs.length s) j (leavS arcs arcs.length s).length:=by
 unfold outsJ
 rw [take_next now tp0 j hj,List.take_length]
 unfold outsP
 rw [List.flatMap_append]
 congr 1
 rw [List.flatMap_singleton,hs]
 unfold leavS
 rw [List.take_length]
theorem outsJ_pre (arcs:List Ar) (b:UInt8) (now:List Tp) (s j k:Nat) (hj:j < now.length) (hs:(now.getD j tp0).st = (s:Int)):∃ r,outsP arcs b now = outsJ arcs b now (leavS arcs arcs.length s) j k ++ r:=by
 have e1:outsP arcs b now = outsP arcs b (now.take (j + 1)) ++ outsP arcs b (now.drop (j + 1)):=by
  unfold outsP
  rw [← List.flatMap_append,List.take_append_drop]
 have e2:outsJ arcs b now (leavS arcs arcs.length s) j (leavS arcs arcs.length s).length = outsJ arcs b now (leavS arcs arcs.length s) j k ++ outsA b (now.getD j tp0) ((leavS arcs arcs.length s).drop k):=by
  unfold outsJ
  rw [List.take_length,List.append_assoc]
  congr 1
  unfold outsA
  rw [← List.map_append,← List.filter_append,List.take_append_drop]
 rw [e1,outsP_next arcs b now s j hj hs,e2,List.append_assoc]
 exact ⟨_,rfl⟩
theorem waysF_app_none (arcs:List Ar) (s:Int):∀ (w' w:List UInt8),waysF arcs s w = none→waysF arcs s (w ++ w') = none
 | [],w,h => by rw [List.append_nil]; exact h
 | b :: w',w,h => by
  rw [show w ++ b :: w' = (w ++ [b]) ++ w' by simp]
  refine waysF_app_none arcs s w' _ ?_
  rw [waysF_snoc,h]; rfl
theorem ways_fail {arcs:List Ar} {s:Int} {w:List UInt8} {k:Nat} {now l r:List Tp} {b:UInt8} (h:waysF arcs s (w.take k) = some now) (hk:w[k]? = some b) (hn:puts l = none) (e:outsP arcs b now = l ++ r):waysF arcs s w = none:=by
 have hlt:k < w.length:=by
  rcases Nat.lt_or_ge k w.length with h | h
  ·exact h
  ·rw [List.getElem?_eq_none h] at hk; cases hk
 have hb:w[k] = b:=by rw [List.getElem?_eq_getElem hlt] at hk; exact Option.some.inj hk
 rw [← List.take_append_drop (k + 1) w]
 refine waysF_app_none arcs s _ _ ?_
 rw [List.take_succ_eq_append_getElem hlt,waysF_snoc,h,hb]
 show puts (outsP arcs b now) = none
 rw [e]
 exact puts_none hn r
theorem ways_round {arcs:List Ar} {s:Int} {w:List UInt8} {k:Nat} {now next:List Tp} {b:UInt8} (h:waysF arcs s (w.take k) = some now) (hk:w[k]? = some b) (hn:puts (outsP arcs b now) = some next):waysF arcs s (w.take (k + 1)) = some next:=by
 have hlt:k < w.length:=by
  rcases Nat.lt_or_ge k w.length with h | h
  ·exact h
  ·rw [List.getElem?_eq_none h] at hk; cases hk
 have hb:w[k] = b:=by rw [List.getElem?_eq_getElem hlt] at hk; exact Option.some.inj hk
 rw [List.take_succ_eq_append_getElem hlt,waysF_snoc,h,hb]
 exact hn
theorem puts_step {l next:List Tp} (h:puts l = some next) (q:Tp) :
    (q∈next→puts (l ++ [q]) = some next)∧(q ∉ next→4096≤next.length→puts (l ++ [q]) = none)∧(q ∉ next→next.length < 4096→puts (l ++ [q]) = some (next ++ [q])):=by
 rw [puts_snoc,h]
 unfold put1
 simp only [Option.bind_some]
 refine ⟨fun h => by rw [if_pos h],fun h h2 => by rw [if_neg h,if_pos h2],fun h h2 => by rw [if_neg h,if_neg (by omega)]⟩
end Go.Proofs.YtcondkihpmmnnaaGreatDoor
namespace Go.Proofs.YtcondkihpmmnnaaGreatDoor
open Go.RowKit Go.Sort
section
variable {P:Program} {ops:Array Oper} {md:Region.Mode} {S:World→Prop} {Q:Exit→Act→World→Prop}
def fanGB (md:Region.Mode) (ops:Array Oper) (n g:Nat) (dep:Nat→List Nat):Nat→List Nat→Array Bool→Bool
 | 0,is,listed => is.isEmpty && Region.seqB md ops g n listed
 | k + 1,is,listed => !(Region.ready md ops listed).isEmpty && (Region.ready md ops listed).all fun i => decide (i < n) && is.contains i && (dep i).all (fun j => !is.contains j) && fanGB md ops n g dep k (is.erase i) (listed.setIfInBounds i true)
theorem headH_fanG {n g:Nat} {tail:List Oper} {dep:Nat→List Nat} (hL:(ops.toList.drop n) = tail) (Inv:List Nat→Act→World→Prop)
    (hstep:∀ is a W,Inv is a W→∀ i∈is,(∀ j∈dep i,j ∉ is)→∃ o,ops[i]? = some o∧o.guard = none∧o.wp P a W (fun a' W' => S W'∧Inv (is.erase i) a' W') Q)
    (hend:∀ a W,Inv [] a W→wpList P ops Q tail a W) :
    ∀ (k:Nat) (is:List Nat) (listed:Array Bool) (a:Act) (w:World),fanGB md ops n g dep k is listed = true→Inv is a w →
    headH P md ops Q S n (fun listed' a' w' => Region.seqB md ops g n listed' = true∧wpList P ops Q tail a' w') k listed a w
 | 0,is,_,a,w,hB,h => by
  simp only [fanGB,Bool.and_eq_true,List.isEmpty_iff] at hB
  rw [hB.1] at h
  exact ⟨hB.2,hend a w h⟩
 | k + 1,is,listed,a,w,hB,h => by
  simp only [fanGB,Bool.and_eq_true,decide_eq_true_eq,List.all_eq_true,List.contains_iff_mem,Bool.not_eq_true'] at hB
  obtain ⟨hne,hall⟩:=hB
  refine ⟨by intro e; rw [e] at hne; simp at hne,fun j hj => ?_⟩
  obtain ⟨⟨⟨hjn,hji⟩,hjd⟩,hjB⟩:=hall j hj
  obtain ⟨o,ho,hg,hw⟩:=hstep is a w h j hji (fun d hd hm => by
   have h1:=hjd d hd
   have h2:is.contains d = true:=List.contains_iff_mem.2 hm
   rw [h2] at h1; cases h1)
  refine ⟨hjn,?_⟩
  unfold wpOp
  simp only [ho]
  have hwa:Region.wanted o (yielded ops a.tmps) = true:=by simp [Region.wanted,hg]
  rw [if_pos hwa]
  exact .inl (Oper.wp_mono (fun a' w' h' => ⟨h'.1,headH_fanG hL Inv hstep hend k _ _ a' w' hjB h'.2⟩) hw)
def holdGB (md:Region.Mode) (ops:Array Oper) (n:Nat) (qs is:List Nat) (dep:Nat→List Nat):Bool :=
 Region.noSelect ops && decide (n < ops.size) && Region.sinkB md ops n && Region.chainB md ops n && takesB md ops n qs (Array.replicate ops.size false) &&
  fanGB md ops n (ops.size - n) dep is.length is (listedBy qs (Array.replicate ops.size false))
theorem wp_region_fanG {id:Nat} {a:Act} {w:World} {l:List Oper} (S:World→Prop) (n:Nat) (qs is:List Nat) (dep:Nat→List Nat) (lq:List Oper) (hm:P.follows .mixedOrders = true) (hB:holdGB .any l.toArray n qs is dep = true)
    (hlen:qs.length + is.length = n) (hq:qs.map (fun i => l.toArray[i]?) = lq.map some)
    (hQ:∀ c a d v w,Q (.panic c) (a.put d v) w→Q (.panic c) a w) (hS:S w.drew) (Inv:List Nat→Act→World→Prop)
    (hstep:∀ is a W,Inv is a W→∀ i∈is,(∀ j∈dep i,j ∉ is)→∃ o,l.toArray[i]? = some o∧o.guard = none∧o.wp P a W (fun a' W' => S W'∧Inv (is.erase i) a' W') Q)
    (hend:∀ a W,Inv [] a W→wpList P l.toArray Q (l.drop n) a W)
    (h:wpQuiet P l.toArray S (fun a' => Inv is a' w.drew) lq a):(Code.region id l.toArray true).wp P Q a w:=by
 simp only [holdGB,Bool.and_eq_true,decide_eq_true_eq] at hB
 obtain ⟨⟨⟨⟨⟨hsel,hn⟩,hs⟩,hc⟩,htk⟩,hfc⟩:=hB
 have hdl:(l.drop n).length = l.toArray.size - n:=by simp
 have inv0:HeadInv .any l.toArray n (Array.replicate l.toArray.size false) :=
  ⟨by simp,fun j oj _ hl => (by rw [getD_replicate_false] at hl; cases hl),fun t _ ht => getD_in (by simpa using ht) (getD_replicate_false _ _)⟩
 have H:=headH_take (P:=P) (S:=S) (md:=.any) (g:=l.toArray.size - n) (tail:=l.drop n) (m:=is.length) hsel hs hc hn hQ hS (fun a' ha' => headH_fanG rfl Inv hstep hend is.length is _ a' _ hfc ha') qs lq _ a hq inv0 htk rfl h
 refine wp_region_any hm ?_
 have:=any_of_headH (P:=P) (S:=S) (g:=l.toArray.size - n) (fun listed a' w' hL => by
  have:=wpAny_of_seq (md:=.any) (Q':=Q) (l.drop n) n listed a' w' (fun j => by simp [List.getElem?_drop]) (by rw [hdl]; exact hL.1) hL.2
  rwa [hdl] at this) _ _ _ _ H
 have hn':n < l.toArray.size:=hn
 rw [hlen,show n + (l.toArray.size - n) = l.toArray.size by omega] at this
 exact this
theorem wp_region_fanG_below {id:Nat} {a:Act} {w:World} {l:List Oper} (n:Nat) (qs is:List Nat) (dep:Nat→List Nat) (hm:P.follows .mixedOrders = true) (hB:holdGB .any l.toArray n qs is dep = true)
    (hlen:qs.length + is.length = n) (hin:(qs.all fun i => decide (i < l.length)) = true) (Inv:List Nat→Act→World→Prop)
    (hstep:∀ is a W,Inv is a W→∀ i∈is,(∀ j∈dep i,j ∉ is)→∃ o,l.toArray[i]? = some o∧o.guard = none∧o.wp P a W (fun a' W' => (∃ p:Regrown,W' = grow (redrawn w p.d) p.os)∧Inv (is.erase i) a' W') (NoPanic Q))
    (hend:∀ a W,Inv [] a W→wpList P l.toArray (NoPanic Q) (l.drop n) a W)
    (h:wpQuiet P l.toArray (fun w' => ∃ p:Regrown,w' = grow (redrawn w p.d) p.os) (fun a' => Inv is a' w.drew) (pickOps l qs) a) :
    (Code.region id l.toArray true).wp P Q a w:=by
 refine wp_region_noPanic ?_
 exact wp_region_fanG (fun w' => ∃ p:Regrown,w' = grow (redrawn w p.d) p.os) n qs is dep _ hm hB hlen (pickOps_map l qs hin) (fun _ _ _ _ _ h => h) ⟨⟨w.drawn + 1,#[]⟩,by rw [grow_empty]; rfl⟩ Inv hstep hend h
end
end Go.Proofs.YtcondkihpmmnnaaGreatDoor
namespace Go.Proofs.YtcondkihpmmnnaaGreatDoor
def valD (l:List UInt8):Nat:=l.foldl (fun a c => a * 10 + (c.toNat - 48)) 0
theorem decDigits_val (u:Nat):valD (Lib.decDigits u) = u∧(58:UInt8) ∉ Lib.decDigits u:=by
 induction u using Nat.strongRecOn with
 | _ u ih =>
  have hd:∀ i,i < 10→(UInt8.ofNat (48 + i)).toNat = 48 + i:=fun i hi => by simp; omega
  have hc:∀ i,i < 10→(58:UInt8)≠UInt8.ofNat (48 + i):=fun i hi e => by
   have:=congrArg UInt8.toNat e
   rw [hd i hi] at this
   have h58:(58:UInt8).toNat = 58:=rfl
   omega
  rw [Lib.decDigits]
  split
  ·rename_i h
   exact ⟨by unfold valD; simp only [List.foldl_cons,List.foldl_nil]; rw [hd u h]; omega,by rw [List.mem_singleton]; exact hc u h⟩
  ·rename_i h
   obtain ⟨h1,h2⟩:=ih (u / 10) (by omega)
   have hm:u % 10 < 10:=Nat.mod_lt _ (by decide)
   refine ⟨?_,?_⟩
   ·unfold valD at h1 ⊢
    rw [List.foldl_append,h1]
    simp only [List.foldl_cons,List.foldl_nil]
    rw [hd _ hm]
    omega
   ·rw [List.mem_append,List.mem_singleton]
    exact fun h => h.elim h2 (hc _ hm)
theorem decDigits_inj {u v:Nat} (h:Lib.decDigits u = Lib.decDigits v):u = v:=by
 rw [← (decDigits_val u).1,← (decDigits_val v).1,h]
theorem colon_split:∀ {a b x y:List UInt8},(58:UInt8) ∉ a→(58:UInt8) ∉ b→a ++ 58 :: x = b ++ 58 :: y→a = b∧x = y
 | [],[],_,_,_,_,h => ⟨rfl,by injection h⟩
 | [],c :: b,_,_,_,hb,h => by injection h with h _; exact (hb (by rw [h]; exact List.mem_cons_self)).elim
 | c :: a,[],_,_,ha,_,h => by injection h with h _; exact (ha (by rw [← h]; exact List.mem_cons_self)).elim
 | c :: a,d :: b,x,y,ha,hb,h => by
  injection h with h1 h2
  obtain ⟨e1,e2⟩:=colon_split (fun h => ha (List.mem_cons_of_mem _ h)) (fun h => hb (List.mem_cons_of_mem _ h)) h2
  exact ⟨by rw [h1,e1],e2⟩
def keyT1 (x:Tp):List UInt8:=Lib.decDigits x.st.toNat ++ 58 :: (Lib.decDigits x.out.size ++ 58 :: bl x.out)
def keyR (l:List Tp):List UInt8:=l.flatMap keyT1
theorem keyR_inj:∀ {l m:List Tp},(∀ x∈l,0≤x.st)→(∀ x∈m,0≤x.st)→keyR l = keyR m→l = m
 | [],[],_,_,_ => rfl
 | [],y :: m,_,_,h => by
  have:=congrArg List.length h
  simp [keyR,keyT1] at this
 | x :: l,[],_,_,h => by
  have:=congrArg List.length h
  simp [keyR,keyT1] at this
 | x :: l,y :: m,hl,hm,h => by
  have h':keyT1 x ++ keyR l = keyT1 y ++ keyR m:=h
  unfold keyT1 at h'
  simp only [List.append_assoc,List.cons_append] at h'
  obtain ⟨e1,h2⟩:=colon_split (decDigits_val _).2 (decDigits_val _).2 h'
  obtain ⟨e2,h3⟩:=colon_split (decDigits_val _).2 (decDigits_val _).2 h2
  have s1:=decDigits_inj e1
  have s2:=decDigits_inj e2
  obtain ⟨e3,e4⟩:=List.append_inj h3 (by rw [bl_len,bl_len]; exact s2)
  have hx:=hl x List.mem_cons_self
  have hy:=hm y List.mem_cons_self
  have e5:=keyR_inj (fun z hz => hl z (List.mem_cons_of_mem _ hz)) (fun z hz => hm z (List.mem_cons_of_mem _ hz)) e4
  obtain ⟨xs,xo⟩:=x
  obtain ⟨ys,yo⟩:=y
  simp only at s1 hx hy
  have e6:xs = ys:=by omega
  have e7:xo = yo:=bl_inj e3
  rw [e5,e6,e7]
end Go.Proofs.YtcondkihpmmnnaaGreatDoor
namespace Go.Proofs.YtcondkihpmmnnaaGreatDoor
def lcp2 (a b:ByteArray):ByteArray:=a.extract 0 (lcpN a.data.toList b.data.toList)
theorem lcpN_take:∀ a b:List UInt8,a.take (lcpN a b) = b.take (lcpN a b)
 | [],b => by simp [lcpN]
 | _ :: _,[] => by simp [lcpN]
 | x :: a,y :: b => by
  unfold lcpN
  split
  ·rename_i h
   subst h
   simp [lcpN_take a b]
  ·simp
theorem lcpN_great:∀ (m a b:List UInt8),m <+: a→m <+: b→m.length≤lcpN a b
 | [],_,_,_,_ => Nat.zero_le _
 | x :: m,a,b,⟨u,hu⟩,⟨v,hv⟩ => by
  subst hu hv
  show _≤lcpN (x :: (m ++ u)) (x :: (m ++ v))
  unfold lcpN
  rw [if_pos rfl]
  have:=lcpN_great m (m ++ u) (m ++ v) ⟨u,rfl⟩ ⟨v,rfl⟩
  simp; omega
theorem bl_ext0 (a:ByteArray) (k:Nat):bl (a.extract 0 k) = (bl a).take k:=by
 unfold bl; simp [ByteArray.extract,ByteArray.copySlice]
theorem lcp2_left (a b:ByteArray):bl (lcp2 a b) <+: bl a:=by
 unfold lcp2; rw [bl_ext0]; exact List.take_prefix _ _
theorem lcp2_right (a b:ByteArray):bl (lcp2 a b) <+: bl b:=by
 unfold lcp2; rw [bl_ext0]
 show (bl a).take (lcpN (bl a) (bl b)) <+: bl b
 rw [lcpN_take]; exact List.take_prefix _ _
theorem lcp2_great {m:List UInt8} {a b:ByteArray} (h1:m <+: bl a) (h2:m <+: bl b):m <+: bl (lcp2 a b):=by
 unfold lcp2; rw [bl_ext0]
 have:=lcpN_great m _ _ h1 h2
 exact List.prefix_take_iff.2 ⟨h1,this⟩
theorem lcpB_prefix (s:ByteArray):∀ l:List ByteArray,(∀ m,m <+: bl (lcpB s l)↔m <+: bl s∧∀ x∈l,m <+: bl x):=by
 intro l
 induction l generalizing s with
 | nil => intro m; simp [lcpB]
 | cons y l ih =>
  intro m
  have e:lcpB s (y :: l) = lcpB (lcp2 s y) l:=rfl
  rw [e,ih]
  constructor
  ·rintro ⟨h1,h2⟩
   refine ⟨h1.trans (lcp2_left _ _),fun x hx => ?_⟩
   rcases List.mem_cons.1 hx with rfl | hx
   ·exact h1.trans (lcp2_right _ _)
   ·exact h2 x hx
  ·rintro ⟨h1,h2⟩
   exact ⟨lcp2_great h1 (h2 y List.mem_cons_self),fun x hx => h2 x (List.mem_cons_of_mem _ hx)⟩
theorem lcpA_prefix {l:List ByteArray} (h:l≠[]) (m:List UInt8):m <+: bl (lcpA l)↔∀ x∈l,m <+: bl x:=by
 cases l with
 | nil => exact absurd rfl h
 | cons s l =>
  show m <+: bl (lcpB s l)↔_
  rw [lcpB_prefix]
  simp
theorem lcpA_snoc (l:List ByteArray) (x:ByteArray):lcpA (l ++ [x]) = if l = [] then x else lcp2 (lcpA l) x:=by
 cases l with
 | nil => simp [lcpA,lcpB]
 | cons s l =>
  simp only [List.cons_append,lcpA,lcpB_snoc]
  rfl
structure Frt where
 l:Nat→ByteArray
 some:Nat→Bool
def candB (q:SeqM) (k:Frt) (s b:Nat):List ByteArray:=if q.nx s b < 0∨k.some (q.nx s b).toNat = false then [] else [q.os s b ++ k.l (q.nx s b).toNat]
def candE (q:SeqM) (s:Nat):List ByteArray:=if q.en s = true then [q.tl s] else []
def candN (q:SeqM) (k:Frt) (s n:Nat):List ByteArray:=candE q s ++ (List.range n).flatMap (candB q k s)
def cand (q:SeqM) (k:Frt) (s:Nat):List ByteArray:=candN q k s 256
theorem candN_next (q:SeqM) (k:Frt) (s n:Nat):candN q k s (n + 1) = candN q k s n ++ candB q k s n:=by
 unfold candN; rw [List.range_succ,List.flatMap_append,List.append_assoc]; simp
theorem cand_mem {q:SeqM} {k:Frt} {s:Nat} {x:ByteArray}:x∈cand q k s↔(q.en s = true∧x = q.tl s)∨∃ b,b < 256∧0≤q.nx s b∧k.some (q.nx s b).toNat = true∧x = q.os s b ++ k.l (q.nx s b).toNat:=by
 unfold cand candN
 rw [List.mem_append,List.mem_flatMap]
 apply or_congr
 ·unfold candE; split <;> simp_all
 ·constructor
  ·rintro ⟨b,hb,hx⟩
   unfold candB at hx
   split at hx
   ·cases hx
   ·rename_i h
    rw [List.mem_singleton] at hx
    rw [not_or] at h
    exact ⟨b,List.mem_range.1 hb,by omega,by simpa using h.2,hx⟩
  ·rintro ⟨b,hb,h1,h2,rfl⟩
   refine ⟨b,List.mem_range.2 hb,?_⟩
   unfold candB
   rw [if_neg (by rw [not_or]; exact ⟨by omega,by simp [h2]⟩)]
   exact List.mem_singleton.2 rfl
def Outs (q:SeqM) (s:Nat) (o:List UInt8):Prop:=∃ w,q.runL s w = Option.some o
def Beg (q:SeqM) (s:Nat) (m:List UInt8):Prop:=∀ o,Outs q s o→m <+: o
theorem outs_end {q:SeqM} {s:Nat} (h:q.en s = true):Outs q s (bl (q.tl s)):=⟨[],by unfold SeqM.runL; rw [if_pos h]⟩
theorem outs_step {q:SeqM} {s b:Nat} (hb:b < 256) (h:0≤q.nx s b) {o:List UInt8} (ho:Outs q (q.nx s b).toNat o):Outs q s (bl (q.os s b) ++ o):=by
 obtain ⟨w,hw⟩:=ho
 refine ⟨UInt8.ofNat b :: w,?_⟩
 have e:(UInt8.ofNat b).toNat = b:=by simp; omega
 unfold SeqM.runL
 rw [e,if_neg (by omega),hw]
 rfl
theorem outs_inv {q:SeqM} {s:Nat} {o:List UInt8} (h:Outs q s o):(q.en s = true∧o = bl (q.tl s))∨∃ b o',b < 256∧0≤q.nx s b∧Outs q (q.nx s b).toNat o'∧o = bl (q.os s b) ++ o':=by
 obtain ⟨w,hw⟩:=h
 cases w with
 | nil =>
  unfold SeqM.runL at hw
  split at hw
  ·rename_i h
   injection hw with hw
   exact .inl ⟨h,hw.symm⟩
  ·cases hw
 | cons c w =>
  unfold SeqM.runL at hw
  split at hw
  ·cases hw
  ·rename_i h
   rw [Option.map_eq_some_iff] at hw
   obtain ⟨o',h1,h2⟩:=hw
   exact .inr ⟨c.toNat,o',c.toNat_lt,by omega,⟨w,h1⟩,h2.symm⟩
structure FrOk (q:SeqM) (n:Nat) (k:Frt):Prop where
 live:∀ s,k.some s = true→s < n∧∃ o,Outs q s o
 up:∀ s,k.some s = true→∀ m,Beg q s m→m <+: bl (k.l s)
 down:∀ s,k.some s = true→cand q k s≠[]∧bl (lcpA (cand q k s)) <+: bl (k.l s)
 none:∀ s,k.some s = false→k.l s = ByteArray.empty
def Frt.put (k:Frt) (s:Nat) (f:ByteArray):Frt:=⟨fun t => if t = s then f else k.l t,fun t => if t = s then true else k.some t⟩
theorem beg_cand {q:SeqM} {n:Nat} {k:Frt} (h:FrOk q n k) {s:Nat} {m:List UInt8} (hm:Beg q s m):∀ x∈cand q k s,m <+: bl x:=by
 intro x hx
 rcases cand_mem.1 hx with ⟨he,rfl⟩ | ⟨b,hb,h0,hs,rfl⟩
 ·exact hm _ (outs_end he)
 ·obtain ⟨_,o,ho⟩:=h.live _ hs
  rw [bl_app]
  rcases Nat.le_total m.length (bl (q.os s b)).length with hl | hl
  ·exact (List.prefix_of_prefix_length_le (hm _ (outs_step hb h0 ho)) (List.prefix_append _ _) hl).trans (List.prefix_append _ _)
  ·have hp:bl (q.os s b) <+: m:=List.prefix_of_prefix_length_le (List.prefix_append _ o) (hm _ (outs_step hb h0 ho)) hl
   obtain ⟨m',rfl⟩:=hp
   rw [List.prefix_append_right_inj]
   exact h.up _ hs m' fun o' ho' => (List.prefix_append_right_inj _).1 (hm _ (outs_step hb h0 ho'))
theorem lcpA_mono {l m:List ByteArray} (hl:l≠[]) (h:∀ x∈l,∃ y∈m,bl y <+: bl x) (hm:m≠[]):bl (lcpA m) <+: bl (lcpA l):=by
 rw [lcpA_prefix hl]
 intro x hx
 obtain ⟨y,hy,hp⟩:=h x hx
 exact ((lcpA_prefix hm _).1 (List.prefix_refl _) y hy).trans hp
theorem cand_put {q:SeqM} {k:Frt} {s:Nat} {f:ByteArray} (hf:k.some s = true→bl f <+: bl (k.l s)) (t:Nat):∀ x∈cand q k t,∃ y∈cand q (k.put s f) t,bl y <+: bl x:=by
 intro x hx
 rcases cand_mem.1 hx with ⟨he,rfl⟩ | ⟨b,hb,h0,hs,rfl⟩
 ·exact ⟨_,cand_mem.2 (.inl ⟨he,rfl⟩),List.prefix_refl _⟩
 ·refine ⟨_,cand_mem.2 (.inr ⟨b,hb,h0,?_,rfl⟩),?_⟩
  ·unfold Frt.put; simp only; split <;> simp [hs]
  ·rw [bl_app,bl_app,List.prefix_append_right_inj]
   unfold Frt.put
   simp only
   split
   ·rename_i e; rw [e] at hs; rw [e]; exact hf hs
   ·exact List.prefix_refl _
theorem FrOk.put {q:SeqM} {n:Nat} {k:Frt} (h:FrOk q n k) {s:Nat} (hs:s < n) (hc:cand q k s≠[]):FrOk q n (k.put s (lcpA (cand q k s))):=by
 have hf:k.some s = true→bl (lcpA (cand q k s)) <+: bl (k.l s):=fun e => (h.down s e).2
 have hne:∀ t,cand q k t≠[]→cand q (k.put s (lcpA (cand q k s))) t≠[]:=fun t ht e => by
  obtain ⟨x,hx⟩:=List.exists_mem_of_ne_nil _ ht
  obtain ⟨y,hy,_⟩:=cand_put hf t x hx
  rw [e] at hy; cases hy
 have hlive:∃ o,Outs q s o:=by
  obtain ⟨x,hx⟩:=List.exists_mem_of_ne_nil _ hc
  rcases cand_mem.1 hx with ⟨he,_⟩ | ⟨b,hb,h0,hs',_⟩
  ·exact ⟨_,outs_end he⟩
  ·obtain ⟨_,o,ho⟩:=h.live _ hs'
   exact ⟨_,outs_step hb h0 ho⟩
 refine ⟨fun t ht => ?_,fun t ht m hm => ?_,fun t ht => ?_,fun t ht => ?_⟩
 ·unfold Frt.put at ht
  simp only at ht
  split at ht
  ·rename_i e; subst e; exact ⟨hs,hlive⟩
  ·exact h.live t ht
 ·unfold Frt.put at ht ⊢
  simp only at ht ⊢
  split at ht
  ·rename_i e
   subst e
   rw [if_pos rfl,lcpA_prefix hc]
   exact beg_cand h hm
  ·rename_i e
   rw [if_neg e]
   exact h.up t ht m hm
 ·by_cases e:t = s
  ·subst e
   refine ⟨hne t hc,?_⟩
   have:(k.put t (lcpA (cand q k t))).l t = lcpA (cand q k t):=by unfold Frt.put; simp
   rw [this]
   exact lcpA_mono hc (cand_put hf t) (hne t hc)
  ·have ht':k.some t = true:=by unfold Frt.put at ht; simpa [e] using ht
   have:(k.put s (lcpA (cand q k s))).l t = k.l t:=by unfold Frt.put; simp [e]
   rw [this]
   obtain ⟨h1,h2⟩:=h.down t ht'
   exact ⟨hne t h1,(lcpA_mono h1 (cand_put hf t) (hne t h1)).trans h2⟩
 ·unfold Frt.put at ht ⊢
  simp only at ht ⊢
  split at ht
  ·cases ht
  ·rename_i e
   rw [if_neg e]
   exact h.none t ht
theorem FrOk.start (q:SeqM) (n:Nat):FrOk q n ⟨fun _ => ByteArray.empty,fun _ => false⟩ :=
 ⟨fun _ h => (by cases h),fun _ h => (by cases h),fun _ h => (by cases h),fun _ _ => rfl⟩
theorem FrOk.full {q:SeqM} {n:Nat} {k:Frt} (hq:∀ s b,s < n→b < 256→q.nx s b < (n:Int)) (_h:FrOk q n k) (hd:∀ s,s < n→(cand q k s≠[]→k.some s = true)∧(k.some s = true→bl (k.l s) = bl (lcpA (cand q k s)))) :
    ∀ (w:List UInt8) (s:Nat) (o:List UInt8),s < n→q.runL s w = Option.some o→k.some s = true∧bl (k.l s) <+: o:=by
 intro w
 induction w with
 | nil =>
  intro s o hs hw
  unfold SeqM.runL at hw
  split at hw
  ·rename_i he
   injection hw with hw
   subst hw
   have hm:q.tl s∈cand q k s:=cand_mem.2 (.inl ⟨he,rfl⟩)
   have hk:=(hd s hs).1 (List.ne_nil_of_mem hm)
   refine ⟨hk,?_⟩
   rw [(hd s hs).2 hk]
   exact (lcpA_prefix (List.ne_nil_of_mem hm) _).1 (List.prefix_refl _) _ hm
  ·cases hw
 | cons c w ih =>
  intro s o hs hw
  unfold SeqM.runL at hw
  split at hw
  ·cases hw
  ·rename_i h0
   rw [Option.map_eq_some_iff] at hw
   obtain ⟨o',h1,h2⟩:=hw
   have hz:=hq s c.toNat hs c.toNat_lt
   obtain ⟨i1,i2⟩:=ih _ o' (by omega) h1
   have hm:q.os s c.toNat ++ k.l (q.nx s c.toNat).toNat∈cand q k s:=cand_mem.2 (.inr ⟨_,c.toNat_lt,by omega,i1,rfl⟩)
   have hk:=(hd s hs).1 (List.ne_nil_of_mem hm)
   refine ⟨hk,?_⟩
   rw [(hd s hs).2 hk]
   refine ((lcpA_prefix (List.ne_nil_of_mem hm) _).1 (List.prefix_refl _) _ hm).trans ?_
   rw [bl_app,← h2]
   exact (List.prefix_append_right_inj _).2 i2
structure Fronts (q:SeqM) (k:Frt):Prop where
 live:∀ s,s < q.next.length→(k.some s = true↔∃ o,Outs q s o)
 beg:∀ s,s < q.next.length→k.some s = true→Beg q s (bl (k.l s))
 most:∀ s,s < q.next.length→k.some s = true→∀ m,Beg q s m→m <+: bl (k.l s)
theorem FrOk.fronts {q:SeqM} {k:Frt} (hq:∀ s b,s < q.next.length→b < 256→q.nx s b < (q.next.length:Int)) (h:FrOk q q.next.length k) (hd:∀ s,s < q.next.length→(cand q k s≠[]→k.some s = true)∧(k.some s = true→bl (k.l s) = bl (lcpA (cand q k s)))):Fronts q k :=
 ⟨fun s hs => ⟨fun e => (h.live s e).2,fun ⟨o,w,ho⟩ => (h.full hq hd w s o hs ho).1⟩,
  fun s hs _ o ⟨w,ho⟩ => (h.full hq hd w s o hs ho).2,
  fun s _ e => h.up s e⟩
end Go.Proofs.YtcondkihpmmnnaaGreatDoor
namespace Go.Proofs.YtcondkihpmmnnaaGreatDoor
structure Pushes (q:SeqM) (k:Frt) (r:SeqM) (us:List Nat):Prop where
 n:r.next.length = us.length
 first:us[0]? = some 0
 front:r.front = q.front ++ k.l 0
 state:∀ (i s:Nat),us[i]? = some s→s < q.next.length∧k.some s = true∧r.en i = q.en s∧(q.en s = true→bl (q.tl s) = bl (k.l s) ++ bl (r.tl i)) ∧
  ∀ b,b < 256→((q.nx s b < 0∨k.some (q.nx s b).toNat = false)∧r.nx i b < 0) ∨
   (0≤q.nx s b∧∃ j:Nat,us[j]? = some (q.nx s b).toNat∧r.nx i b = (j:Int)∧bl (q.os s b) ++ bl (k.l (q.nx s b).toNat) = bl (k.l s) ++ bl (r.os i b))
theorem Pushes.runL {q r:SeqM} {k:Frt} {us:List Nat} (h:Pushes q k r us) (hf:Fronts q k) (hq:∀ s b,s < q.next.length→b < 256→q.nx s b < (q.next.length:Int)) :
    ∀ (w:List UInt8) (i s:Nat),us[i]? = some s→q.runL s w = (r.runL i w).map (bl (k.l s) ++ ·):=by
 intro w
 induction w with
 | nil =>
  intro i s hi
  obtain ⟨_,_,he,ht,_⟩:=h.state i s hi
  unfold SeqM.runL
  rw [he]
  by_cases e:q.en s = true
  ·rw [if_pos e,if_pos e]
   show some (bl (q.tl s)) = some (bl (k.l s) ++ bl (r.tl i))
   rw [ht e]
  ·rw [if_neg e,if_neg e]; rfl
 | cons c w ih =>
  intro i s hi
  obtain ⟨hs,_,_,_,hb⟩:=h.state i s hi
  have hz:=hq s c.toNat hs c.toNat_lt
  unfold SeqM.runL
  rcases hb c.toNat c.toNat_lt with ⟨h1,h2⟩ | ⟨h1,j,h2,h3,h4⟩
  ·rw [if_pos h2]
   by_cases h0:q.nx s c.toNat < 0
   ·rw [if_pos h0]; rfl
   ·rw [if_neg h0]
    have hk:=h1.resolve_left h0
    have:q.runL (q.nx s c.toNat).toNat w = none:=by
     rcases hr:q.runL (q.nx s c.toNat).toNat w with _ | o
     ·rfl
     ·have:=(hf.live (q.nx s c.toNat).toNat (by omega)).2 ⟨o,w,hr⟩
      rw [hk] at this; cases this
    rw [this]; rfl
  ·rw [if_neg (by omega),if_neg (by omega),h3,Int.toNat_natCast,ih j _ h2,Option.map_map,Option.map_map]
   congr 1
   funext o
   show bl (q.os s c.toNat) ++ (bl (k.l (q.nx s c.toNat).toNat) ++ o) = bl (k.l s) ++ (bl (r.os i c.toNat) ++ o)
   rw [← List.append_assoc,h4,List.append_assoc]
structure Tight (r:SeqM):Prop where
 live:∀ i,i < r.next.length→∃ o,Outs r i o
 none:∀ i,i < r.next.length→∀ m,Beg r i m→m = []
 nx:∀ i b,i < r.next.length→b < 256→r.nx i b < (r.next.length:Int)
theorem Pushes.tight {q r:SeqM} {k:Frt} {us:List Nat} (h:Pushes q k r us) (hf:Fronts q k) (hq:∀ s b,s < q.next.length→b < 256→q.nx s b < (q.next.length:Int)):Tight r:=by
 have hg:∀ i,i < r.next.length→∃ s,us[i]? = some s:=fun i hi => ⟨us[i]'(by rw [← h.n]; exact hi),List.getElem?_eq_getElem _⟩
 refine ⟨fun i hi => ?_,fun i hi m hm => ?_,fun i b hi hb => ?_⟩
 ·obtain ⟨s,hs⟩:=hg i hi
  obtain ⟨hsn,hk,_⟩:=h.state i s hs
  obtain ⟨o,w,ho⟩:=(hf.live s hsn).1 hk
  rw [h.runL hf hq w i s hs,Option.map_eq_some_iff] at ho
  obtain ⟨o',h1,_⟩:=ho
  exact ⟨o',w,h1⟩
 ·obtain ⟨s,hs⟩:=hg i hi
  obtain ⟨hsn,hk,_⟩:=h.state i s hs
  have:bl (k.l s) ++ m <+: bl (k.l s):=by
   refine hf.most s hsn hk _ fun o ⟨w,ho⟩ => ?_
   rw [h.runL hf hq w i s hs,Option.map_eq_some_iff] at ho
   obtain ⟨o',h1,rfl⟩:=ho
   exact (List.prefix_append_right_inj _).2 (hm o' ⟨w,h1⟩)
  have:=this.length_le
  rw [List.length_append] at this
  exact List.eq_nil_of_length_eq_zero (by omega)
 ·obtain ⟨s,hs⟩:=hg i hi
  obtain ⟨_,_,_,_,hbb⟩:=h.state i s hs
  rcases hbb b hb with ⟨_,h2⟩ | ⟨_,j,h2,h3,_⟩
  ·omega
  ·rw [h3,h.n]
   have:j < us.length:=by
    rcases Nat.lt_or_ge j us.length with h | h
    ·exact h
    ·rw [List.getElem?_eq_none h] at h2; cases h2
   omega
theorem Pushes.run {q r:SeqM} {k:Frt} {us:List Nat} (h:Pushes q k r us) (hf:Fronts q k) (hq:∀ s b,s < q.next.length→b < 256→q.nx s b < (q.next.length:Int)) (w:List UInt8):r.run w = q.run w:=by
 have h0:=h.state 0 0 h.first
 have hu:0 < us.length:=by
  rcases Nat.eq_zero_or_pos us.length with e | e
  ·have:=h.first; rw [List.getElem?_eq_none (by omega)] at this; cases this
  ·exact e
 unfold SeqM.run
 rw [if_neg (by rw [h.n]; omega),if_neg (by omega),h.runL hf hq w 0 0 h.first,Option.map_map,h.front]
 congr 1
 funext o
 show bl (q.front ++ k.l 0) ++ o = bl q.front ++ (bl (k.l 0) ++ o)
 rw [bl_app,List.append_assoc]
def SameOn (r:SeqM) (i j:Nat):Prop:=∀ w,r.runL i w = r.runL j w
theorem alike_step {r t:SeqM} (hr:Tight r) (ht:Tight t) {i j:Nat} (hi:i < r.next.length) (hj:j < t.next.length) (h:∀ w,r.runL i w = t.runL j w) :
    r.en i = t.en j∧(r.en i = true→r.tl i = t.tl j)∧∀ b,b < 256→(r.nx i b < 0↔t.nx j b < 0)∧(0≤r.nx i b→r.os i b = t.os j b∧∀ w,r.runL (r.nx i b).toNat w = t.runL (t.nx j b).toNat w):=by
 have h0:=h []
 unfold SeqM.runL at h0
 have he:r.en i = t.en j:=by
  rcases e1:r.en i with _ | _ <;> rcases e2:t.en j with _ | _ <;> rw [e1,e2] at h0 <;> first | rfl | cases h0
 refine ⟨he,fun e => ?_,fun b hb => ?_⟩
 ·rw [if_pos e,if_pos (he ▸ e)] at h0
  injection h0 with h0
  exact bl_inj h0
 ·have e8:(UInt8.ofNat b).toNat = b:=by simp; omega
  have hw:∀ w,(if r.nx i b < 0 then none else (r.runL (r.nx i b).toNat w).map (bl (r.os i b) ++ ·)) = (if t.nx j b < 0 then none else (t.runL (t.nx j b).toNat w).map (bl (t.os j b) ++ ·)):=fun w => by
   have:=h (UInt8.ofNat b :: w)
   unfold SeqM.runL at this
   rw [e8] at this
   exact this
  have hrz:=hr.nx i b hi hb
  have htz:=ht.nx j b hj hb
  have hneg:r.nx i b < 0↔t.nx j b < 0:=by
   constructor
   ·intro e
    apply Decidable.byContradiction
    intro e'
    obtain ⟨o,w,ho⟩:=ht.live (t.nx j b).toNat (by omega)
    have:=hw w
    rw [if_pos e,if_neg e',ho] at this
    cases this
   ·intro e
    apply Decidable.byContradiction
    intro e'
    obtain ⟨o,w,ho⟩:=hr.live (r.nx i b).toNat (by omega)
    have:=hw w
    rw [if_neg e',if_pos e,ho] at this
    cases this
  refine ⟨hneg,fun h0 => ?_⟩
  have hn1:¬ r.nx i b < 0:=by omega
  have hn2:¬ t.nx j b < 0:=fun e => hn1 (hneg.2 e)
  have hw':∀ w,(r.runL (r.nx i b).toNat w).map (bl (r.os i b) ++ ·) = (t.runL (t.nx j b).toNat w).map (bl (t.os j b) ++ ·):=fun w => by
   have:=hw w
   rwa [if_neg hn1,if_neg hn2] at this
  obtain ⟨o1,w1,ho1⟩:=hr.live (r.nx i b).toNat (by omega)
  have hout:r.os i b = t.os j b:=by
   have key:∀ (r t:SeqM) (zi zj:Nat) (a c:List UInt8),Tight t→zj < t.next.length→(∀ w,(r.runL zi w).map (a ++ ·) = (t.runL zj w).map (c ++ ·))→(∃ o,Outs r zi o)→c.length≤a.length→a = c:=by
    intro r t zi zj a c ht hzj hw ⟨o,w,ho⟩ hl
    have h1:=hw w
    rw [ho,Option.map_some] at h1
    obtain ⟨o',h2,h3⟩:=Option.map_eq_some_iff.1 h1.symm
    have hp:c <+: a:=List.prefix_of_prefix_length_le (h3 ▸ List.prefix_append c o') (List.prefix_append a o) hl
    obtain ⟨m,rfl⟩:=hp
    have:m = []:=by
     refine ht.none zj hzj m fun o2 ⟨w2,ho2⟩ => ?_
     have h4:=hw w2
     rw [ho2,Option.map_some] at h4
     obtain ⟨o3,h5,h6⟩:=Option.map_eq_some_iff.1 h4
     simp only [List.append_assoc] at h6
     exact ⟨o3,List.append_cancel_left h6⟩
    rw [this,List.append_nil]
   rcases Nat.le_total (bl (t.os j b)).length (bl (r.os i b)).length with hl | hl
   ·exact bl_inj (key r t _ _ _ _ ht (by omega) hw' ⟨o1,w1,ho1⟩ hl)
   ·exact (bl_inj (key t r _ _ _ _ hr (by omega) (fun w => (hw' w).symm) (ht.live _ (by omega)) hl)).symm
  refine ⟨hout,fun w => ?_⟩
  have:=hw' w
  rw [hout] at this
  rcases e1:r.runL (r.nx i b).toNat w with _ | x <;> rcases e2:t.runL (t.nx j b).toNat w with _ | y <;> rw [e1,e2] at this
  ·cases this
  ·cases this
  ·simp only [Option.map_some,Option.some.injEq] at this
   rw [List.append_cancel_left this]
structure Canon (m:SeqM):Prop where
 tight:Tight m
 pos:0 < m.next.length
 lens:m.outs.length = m.next.length∧m.ends.length = m.next.length∧m.tail.length = m.next.length
 row:∀ i,i < m.next.length→(m.next.getD i []).length = 256∧(m.outs.getD i []).length = 256
 no:∀ i b,i < m.next.length→b < 256→m.nx i b < 0→m.nx i b = -1∧m.os i b = ByteArray.empty
 open_:∀ i,i < m.next.length→m.en i = false→m.tl i = ByteArray.empty
 diff:∀ i j,i < m.next.length→j < m.next.length→SameOn m i j→i = j
 order:∀ i,0 < i→i < m.next.length→∃ j b,j < i∧b < 256∧m.nx j b = (i:Int)∧∀ j' b',b' < 256→(j' < j∨j' = j∧b' < b)→m.nx j' b' < (i:Int)
theorem canon_alike {m t:SeqM} (hm:Canon m) (ht:Canon t) (h0:∀ w,m.runL 0 w = t.runL 0 w):∀ i,i < m.next.length→i < t.next.length∧∀ w,m.runL i w = t.runL i w:=by
 intro i
 induction i using Nat.strongRecOn with
 | _ i ih =>
  intro hi
  rcases Nat.eq_zero_or_pos i with rfl | hp
  ·exact ⟨ht.pos,h0⟩
  obtain ⟨j,b,hj,hb,h1,h2⟩:=hm.order i hp hi
  obtain ⟨hjt,hjr⟩:=ih j hj (by omega)
  have hst:=(alike_step hm.tight ht.tight (by omega) hjt hjr).2.2 b hb
  have hpos:0≤t.nx j b:=by
   have:=hst.1
   omega
  have hnr:=(hst.2 (by omega)).2
  rw [h1,Int.toNat_natCast] at hnr
  have htz:=ht.tight.nx j b hjt hb
  obtain ⟨z,hz⟩:∃ z:Nat,t.nx j b = (z:Int):=⟨_,(Int.toNat_of_nonneg hpos).symm⟩
  rw [hz,Int.toNat_natCast] at hnr
  have hzn:z < t.next.length:=by omega
  have hzi:¬ z < i:=fun hzi => by
   obtain ⟨_,h4⟩:=ih z hzi (by omega)
   have:i = z:=hm.diff i z hi (by omega) fun w => by rw [hnr,h4]
   omega
  have hit:i < t.next.length:=by omega
  obtain ⟨j2,b2,hj2,hb2,k1,k2⟩:=ht.order i hp hit
  have hlt:∀ j' b',b' < 256→(j' < j∨j' = j∧b' < b)→t.nx j' b' < (i:Int):=fun j' b' hb' hlt => by
   have hj':j' < i:=by omega
   obtain ⟨g1,g2⟩:=ih j' hj' (by omega)
   have gst:=(alike_step hm.tight ht.tight (by omega) g1 g2).2.2 b' hb'
   have g3:=h2 j' b' hb' hlt
   by_cases g0:m.nx j' b' < 0
   ·have:=gst.1.1 g0; omega
   ·have g4:=(gst.2 (by omega)).2
    have g5:=ht.tight.nx j' b' g1 hb'
    have g6:0≤t.nx j' b':=by have:=gst.1; omega
    obtain ⟨_,g7⟩:=ih (m.nx j' b').toNat (by omega) (by omega)
    obtain ⟨g8,_⟩:=ih (m.nx j' b').toNat (by omega) (by omega)
    have:(m.nx j' b').toNat = (t.nx j' b').toNat:=ht.diff _ _ g8 (by omega) fun w => by rw [← g7,g4]
    omega
  have hnot:¬ (j2 < j∨j2 = j∧b2 < b):=fun e => by have:=hlt j2 b2 hb2 e; omega
  have hnot2:¬ (j < j2∨j = j2∧b < b2):=fun e => by have:=k2 j b hb e; omega
  have e1:j2 = j:=by omega
  have e2:b2 = b:=by omega
  subst e1 e2
  have:z = i:=by omega
  subst this
  exact ⟨hit,hnr⟩
theorem getD_ext {α:Type} {d:α} {l m:List α} (hl:l.length = m.length) (h:∀ i,i < l.length→l.getD i d = m.getD i d):l = m:=by
 apply List.ext_getElem hl
 intro i h1 h2
 have:=h i h1
 rwa [List.getD_eq_getElem?_getD,List.getD_eq_getElem?_getD,List.getElem?_eq_getElem h1,List.getElem?_eq_getElem h2] at this
theorem canon_one {m t:SeqM} (hm:Canon m) (ht:Canon t) (h:∀ w,m.run w = t.run w):m = t:=by
 have hrun:∀ w,(m.runL 0 w).map (bl m.front ++ ·) = (t.runL 0 w).map (bl t.front ++ ·):=fun w => by
  have:=h w
  unfold SeqM.run at this
  have p1:=hm.pos
  have p2:=ht.pos
  rwa [if_neg (by omega),if_neg (by omega)] at this
 have key:∀ (m t:SeqM),Canon m→Canon t→(∀ w,(m.runL 0 w).map (bl m.front ++ ·) = (t.runL 0 w).map (bl t.front ++ ·))→(bl t.front).length≤(bl m.front).length→bl m.front = bl t.front:=by
  intro m t hm ht hrun hl
  obtain ⟨o,w,ho⟩:=hm.tight.live 0 hm.pos
  have h1:=hrun w
  rw [ho,Option.map_some] at h1
  obtain ⟨o',h2,h3⟩:=Option.map_eq_some_iff.1 h1.symm
  have hp:bl t.front <+: bl m.front:=List.prefix_of_prefix_length_le (h3 ▸ List.prefix_append _ o') (List.prefix_append _ o) hl
  obtain ⟨x,hx⟩:=hp
  have:x = []:=by
   refine ht.tight.none 0 ht.pos x fun o2 ⟨w2,ho2⟩ => ?_
   have h4:=hrun w2
   rw [ho2,Option.map_some] at h4
   obtain ⟨o3,h5,h6⟩:=Option.map_eq_some_iff.1 h4
   replace h6:bl m.front ++ o3 = bl t.front ++ o2:=h6
   rw [← hx,List.append_assoc] at h6
   exact ⟨o3,List.append_cancel_left h6⟩
  rw [← hx,this,List.append_nil]
 have hfront:m.front = t.front:=by
  rcases Nat.le_total (bl t.front).length (bl m.front).length with hl | hl
  ·exact bl_inj (key m t hm ht hrun hl)
  ·exact (bl_inj (key t m ht hm (fun w => (hrun w).symm) hl)).symm
 have h0:∀ w,m.runL 0 w = t.runL 0 w:=fun w => by
  have:=hrun w
  rw [hfront] at this
  rcases e1:m.runL 0 w with _ | x <;> rcases e2:t.runL 0 w with _ | y <;> rw [e1,e2] at this
  ·cases this
  ·cases this
  ·simp only [Option.map_some,Option.some.injEq] at this
   rw [List.append_cancel_left this]
 have a1:=canon_alike hm ht h0
 have a2:=canon_alike ht hm (fun w => (h0 w).symm)
 have hn:m.next.length = t.next.length:=by
  rcases Nat.lt_trichotomy m.next.length t.next.length with e | e | e
  ·have:=(a2 m.next.length e).1; omega
  ·exact e
  ·have:=(a1 t.next.length e).1; omega
 have step:∀ i,i < m.next.length→m.en i = t.en i∧m.tl i = t.tl i∧∀ b,b < 256→m.nx i b = t.nx i b∧m.os i b = t.os i b:=fun i hi => by
  obtain ⟨hit,hr⟩:=a1 i hi
  obtain ⟨s1,s2,s3⟩:=alike_step hm.tight ht.tight hi hit hr
  refine ⟨s1,?_,fun b hb => ?_⟩
  ·rcases e:m.en i with _ | _
   ·rw [hm.open_ i hi e,ht.open_ i hit (by rw [← s1]; exact e)]
   ·exact s2 e
  ·obtain ⟨u1,u2⟩:=s3 b hb
   by_cases g:m.nx i b < 0
   ·obtain ⟨v1,v2⟩:=hm.no i b hi hb g
    obtain ⟨v3,v4⟩:=ht.no i b hit hb (u1.1 g)
    exact ⟨by rw [v1,v3],by rw [v2,v4]⟩
   ·obtain ⟨u3,u4⟩:=u2 (by omega)
    refine ⟨?_,u3⟩
    have z1:=hm.tight.nx i b hi hb
    have z2:=ht.tight.nx i b hit hb
    have z3:0≤t.nx i b:=by omega
    obtain ⟨y1,y2⟩:=a1 (m.nx i b).toNat (by omega)
    have:(m.nx i b).toNat = (t.nx i b).toNat:=ht.diff _ _ y1 (by omega) fun w => by rw [← y2,u4]
    omega
 obtain ⟨l1,l2,l3⟩:=hm.lens
 obtain ⟨l4,l5,l6⟩:=ht.lens
 have enx:m.next = t.next:=getD_ext (d:=[]) hn fun i hi => by
  have r1:=(hm.row i hi).1
  have r2:=(ht.row i (hn ▸ hi)).1
  exact getD_ext (d:=0) (by rw [r1,r2]) fun b hb => ((step i hi).2.2 b (by omega)).1
 have eos:m.outs = t.outs:=getD_ext (d:=[]) (by omega) fun i hi => by
  have r1:=(hm.row i (by omega)).2
  have r2:=(ht.row i (by omega)).2
  exact getD_ext (d:=ByteArray.empty) (by rw [r1,r2]) fun b hb => ((step i (by omega)).2.2 b (by omega)).2
 have een:m.ends = t.ends:=getD_ext (d:=false) (by omega) fun i hi => (step i (by omega)).1
 have etl:m.tail = t.tail:=getD_ext (d:=ByteArray.empty) (by omega) fun i hi => (step i (by omega)).2.1
 obtain ⟨f1,n1,o1,e1,t1⟩:=m
 obtain ⟨f2,n2,o2,e2,t2⟩:=t
 simp only at hfront enx eos een etl
 rw [hfront,enx,eos,een,etl]
end Go.Proofs.YtcondkihpmmnnaaGreatDoor
namespace Go.Proofs.YtcondkihpmmnnaaGreatDoor
open Go.ChangeShapes Go.WideShapes Go.ChangeAt Go.RowKit Go.Joins Go.Deep
section
variable {H:Type} {enc:TypeId × Value→H} {P:Program} {W:World}
theorem trod_ints {t e:TypeId} {fuel:Nat} {v:Value} {y:DataW H × List MemPlace} (ht:P.underlying t = some (.slice e)) (he:P.underlying e = some (.int .i64)) (hc:P.cellsOf e = 1)
    (hf:DataW.trod enc P W 0 (fun _ => true) true fuel t [v] = some y) (hlt:∀ x∈y.2,x.block < W.heap.size) :
    ∃ (A:Option Addr) (c:Nat) (l:List Int),v = .slice A l.length c∧Reads W W.heap.size 1 A l.length (l.map (Value.int .i64))∧l.length≤c∧c≤maxLen∧∀ z∈l,-9223372036854775808≤z∧z≤9223372036854775807:=by
 rcases open_ints ht he hc hf with ⟨hcs,hx⟩ | ⟨a,len',cap',zs,hcs,_,hl,hm,hz,hx,hcell,hws⟩
 ·simp at hcs
  subst hcs
  exact ⟨none,0,[],rfl,Reads.none_,Nat.le_refl _,Nat.zero_le _,by simp⟩
 ·simp at hcs
  subst hcs
  simp only [if_true] at hz
  subst hx
  have hlen:(zs.take len').length = len':=by rw [List.length_take]; omega
  refine ⟨some a,cap',zs.take len',by rw [hlen],⟨by simp,fun h0 => ⟨a,rfl,row_block hlt (by omega),fun j u hu => ?_⟩⟩,by omega,hm,fun z hz => bounds_i64 (hws z (List.mem_of_mem_take hz))⟩
  have hj:j < len':=by
   have:=(List.getElem?_eq_some_iff.1 hu).1
   simp at this; omega
  rw [hcell j (by omega)]
  have hjz:j < zs.length:=by omega
  simp only [List.getElem?_map,List.getElem?_take,hj,if_true,List.getElem?_eq_getElem hjz,Option.map_some,Option.some.injEq] at hu
  rw [← hu,List.getD_eq_getElem?_getD,List.getElem?_eq_getElem hjz]
  rfl
theorem trod_strs {t e:TypeId} {fuel:Nat} {v:Value} {y:DataW H × List MemPlace} (ht:P.underlying t = some (.slice e)) (he:P.underlying e = some .string) (hc:P.cellsOf e = 1)
    (hf:DataW.trod enc P W 0 (fun _ => true) true fuel t [v] = some y) (hlt:∀ x∈y.2,x.block < W.heap.size) :
    ∃ (A:Option Addr) (c:Nat) (l:List ByteArray),v = .slice A l.length c∧Reads W W.heap.size 1 A l.length (l.map Value.string)∧l.length≤c∧c≤maxLen∧∀ z∈l,z.size≤maxLen:=by
 rcases open_strings ht he hc hf with ⟨hcs,hx⟩ | ⟨a,len',cap',zs,hcs,_,hl,hm,hz,hx,hcell,hws⟩
 ·simp at hcs
  subst hcs
  exact ⟨none,0,[],rfl,Reads.none_,Nat.le_refl _,Nat.zero_le _,by simp⟩
 ·simp at hcs
  subst hcs
  simp only [if_true] at hz
  subst hx
  have hlen:(zs.take len').length = len':=by rw [List.length_take]; omega
  refine ⟨some a,cap',zs.take len',by rw [hlen],⟨by simp,fun h0 => ⟨a,rfl,row_block hlt (by omega),fun j u hu => ?_⟩⟩,by omega,hm,fun z hz => hws z (List.mem_of_mem_take hz)⟩
  have hj:j < len':=by
   have:=(List.getElem?_eq_some_iff.1 hu).1
   simp at this; omega
  rw [hcell j (by omega)]
  have hjz:j < zs.length:=by omega
  simp only [List.getElem?_map,List.getElem?_take,hj,if_true,List.getElem?_eq_getElem hjz,Option.map_some,Option.some.injEq] at hu
  rw [← hu,List.getD_eq_getElem?_getD,List.getElem?_eq_getElem hjz]
  rfl
theorem trod_bools {t e:TypeId} {fuel:Nat} {v:Value} {y:DataW H × List MemPlace} (ht:P.underlying t = some (.slice e)) (he:P.underlying e = some .bool) (hc:P.cellsOf e = 1)
    (hf:DataW.trod enc P W 0 (fun _ => true) true fuel t [v] = some y) (hlt:∀ x∈y.2,x.block < W.heap.size) :
    ∃ (A:Option Addr) (c:Nat) (l:List Bool),v = .slice A l.length c∧Reads W W.heap.size 1 A l.length (l.map Value.bool)∧l.length≤c∧c≤maxLen:=by
 rcases open_bools ht he hc hf with ⟨hcs,hx⟩ | ⟨a,len',cap',B,hcs,_,hl,hm,hx,hcell⟩
 ·simp at hcs
  subst hcs
  exact ⟨none,0,[],rfl,Reads.none_,Nat.le_refl _,Nat.zero_le _⟩
 ·simp at hcs
  subst hcs
  subst hx
  refine ⟨some a,cap',(List.range len').map B,by simp,⟨by simp,fun h0 => ⟨a,rfl,row_block hlt (by simp at h0; omega),fun j u hu => ?_⟩⟩,by simpa using hl,hm⟩
  have hj:j < len':=by
   have:=(List.getElem?_eq_some_iff.1 hu).1
   simpa using this
  rw [hcell j (by omega)]
  simp only [List.getElem?_map,List.getElem?_range hj,Option.map_some,Option.some.injEq] at hu
  rw [← hu]
theorem trod_rows {α:Type} (f:α→Value) (ok:α→Prop) {t e:TypeId} {fuel:Nat} {v:Value} {y:DataW H × List MemPlace} (ht:P.underlying t = some (.slice e)) (hc:P.cellsOf e = 1)
    (hrow:∀ {fuel:Nat} {v:Value} {y:DataW H × List MemPlace},DataW.trod enc P W 0 (fun _ => true) true fuel e [v] = some y→(∀ x∈y.2,x.block < W.heap.size) →
     ∃ (A:Option Addr) (c:Nat) (l:List α),v = .slice A l.length c∧Reads W W.heap.size 1 A l.length (l.map f)∧l.length≤c∧c≤maxLen∧∀ z∈l,ok z)
    (hf:DataW.trod enc P W 0 (fun _ => true) true fuel t [v] = some y) (hlt:∀ x∈y.2,x.block < W.heap.size) :
    ∃ (A:Option Addr) (c:Nat) (L:List (List α)),v = .slice A L.length c∧Rows2 W W.heap.size A L.length (L.map fun r => r.map f)∧L.length≤c∧c≤maxLen∧∀ r∈L,∀ z∈r,ok z:=by
 rcases open_slice1 ht hc hf with ⟨hcs,hx⟩ | ⟨a,len,cap,m,n,V,D,Pl,hcs,_,hl,hm,hmm,hx,hi⟩
 ·simp at hcs
  subst hcs
  exact ⟨none,0,[],rfl,⟨[],rfl,Reads.none_,fun x hx => (List.not_mem_nil hx).elim⟩,Nat.le_refl _,Nat.zero_le _,by simp⟩
 ·simp at hcs
  subst hcs
  simp only [if_true] at hmm
  subst hmm
  subst hx
  have hR:∀ i:Nat,∃ x:Option Addr × Nat × List α,i < m→V i = .slice x.1 x.2.2.length x.2.1∧W.cell? (a.add i) = some (V i)∧Reads W W.heap.size 1 x.1 x.2.2.length (x.2.2.map f)∧x.2.2.length≤x.2.1∧x.2.1≤maxLen∧∀ z∈x.2.2,ok z:=fun i => by
   by_cases him:i < m
   ·obtain ⟨hcell,htr⟩:=hi i him
    obtain ⟨A,c,l,h1,h2,h3,h4,h5⟩:=hrow htr (fun x hx => hlt x (List.mem_append_right _ (List.mem_flatMap.2 ⟨i,List.mem_range.2 him,hx⟩)))
    exact ⟨⟨A,c,l⟩,fun _ => ⟨h1,hcell,h2,h3,h4,h5⟩⟩
   ·exact ⟨⟨none,0,[]⟩,fun h => absurd h him⟩
  obtain ⟨F,hF⟩:=Classical.axiomOfChoice hR
  have hz:List.zip ((List.range len).map fun i => ((F i).1,(F i).2.1)) (((List.range len).map fun i => (F i).2.2).map fun r => r.map f) = (List.range len).map fun i => (((F i).1,(F i).2.1),(F i).2.2.map f):=by
   rw [List.map_map]
   apply List.ext_getElem
   ·simp
   intro i h1 h2
   simp
  refine ⟨some a,m,(List.range len).map fun i => (F i).2.2,by simp,⟨(List.range len).map fun i => ((F i).1,(F i).2.1),by simp,?_,fun x hx => ?_⟩,by simpa using hl,hm,fun r hr z hz => ?_⟩
  ·rw [hz]
   refine ⟨by simp,fun h0 => ⟨a,rfl,row_block (n:=m) (fun x hx => hlt x (List.mem_append_left _ hx)) (by simp at h0; omega),fun j u hu => ?_⟩⟩
   have hj:j < len:=by
    have:=(List.getElem?_eq_some_iff.1 hu).1
    simpa using this
   simp only [List.getElem?_map,List.getElem?_range hj,Option.map_some,Option.some.injEq] at hu
   obtain ⟨h1,h2,_⟩:=hF j (by omega)
   rw [h2,h1,← hu,List.length_map]
  ·rw [hz] at hx
   obtain ⟨i,hi,rfl⟩:=List.mem_map.1 hx
   have hi:=List.mem_range.1 hi
   obtain ⟨_,_,h3,h4,h5,_⟩:=hF i (by omega)
   simp only [List.length_map]
   exact ⟨h3,h4,h5⟩
  ·obtain ⟨i,hi,rfl⟩:=List.mem_map.1 hr
   have hi:=List.mem_range.1 hi
   exact (hF i (by omega)).2.2.2.2.2 z hz
end
section
variable {H:Type} {enc:TypeId × Value→H} {W:World}
theorem open_agg5 {P:Program} {base:Nat} {spare:Nat→Bool} {held:Bool} {r:Reach} {b0:Nat} {t:TypeId} {f0 f1 f2 f3 f4:Field} {v:Value} {d:DataW H} {p:List MemPlace} (hs:P.underlying t = some (.struct #[f0,f1,f2,f3,f4])) (hone:oneCellFields P #[f0,f1,f2,f3,f4] = true) (hC:P.cellsOf t = 5)
    (hv:Value.okWide P W r b0 t v) (h:DataW.Trod enc P W base spare held t v d p) :
    ∃ (v0 v1 v2 v3 v4:Value) (y0 y1 y2 y3 y4:DataW H × List MemPlace) (n:Nat),v = .agg #[v0,v1,v2,v3,v4]∧p = y0.2 ++ (y1.2 ++ (y2.2 ++ (y3.2 ++ y4.2))) ∧
     DataW.trod enc P W base spare held n f0.type [v0] = some y0∧DataW.trod enc P W base spare held n f1.type [v1] = some y1∧DataW.trod enc P W base spare held n f2.type [v2] = some y2∧DataW.trod enc P W base spare held n f3.type [v3] = some y3∧DataW.trod enc P W base spare held n f4.type [v4] = some y4:=by
 obtain ⟨cs,rfl,hsz⟩:=okWide_struct hs hv
 obtain ⟨l⟩:=cs
 match l,hsz.trans hC with
 | [c0,c1,c2,c3,c4],_ =>
  obtain ⟨fuel,hf⟩:=h
  obtain ⟨xs,n,_,hx,_,hlen,hg⟩:=DataW.trod_struct hs hf
  obtain ⟨o0,k0⟩:=hone_of hone 0 f0 rfl
  obtain ⟨o1,k1⟩:=hone_of hone 1 f1 rfl
  obtain ⟨o2,k2⟩:=hone_of hone 2 f2 rfl
  obtain ⟨o3,k3⟩:=hone_of hone 3 f3 rfl
  obtain ⟨o4,k4⟩:=hone_of hone 4 f4 rfl
  match xs,hlen with
  | [y0,y1,y2,y3,y4],_ =>
   simp only [Prod.mk.injEq] at hx
   exact ⟨c0,c1,c2,c3,c4,y0,y1,y2,y3,y4,n,rfl,by simpa using hx.2,by simpa [Value.cells,o0,k0] using hg 0 f0 rfl,by simpa [Value.cells,o1,k1] using hg 1 f1 rfl,by simpa [Value.cells,o2,k2] using hg 2 f2 rfl,by simpa [Value.cells,o3,k3] using hg 3 f3 rfl,by simpa [Value.cells,o4,k4] using hg 4 f4 rfl⟩
set_option maxRecDepth 100000 in
theorem open_seq {r:Reach} {b:Nat} {v:Value} {d:DataW H} {ps:List MemPlace} (hval:Value.okWide Tryz.prog W r b 27 v) (hd:DataW.Trod enc Tryz.prog W 0 (fun _ => true) true 27 v d ps) (hlt:∀ x∈ps,x.block < W.heap.size) :
    ∃ q:SeqM,SeqAt W W.heap.size q v:=by
 obtain ⟨v0,v1,v2,v3,v4,y0,y1,y2,y3,y4,n,rfl,rfl,h0,h1,h2,h3,h4⟩:=open_agg5 Tryz.underlying27 (by kernel_rfl) (by kernel_rfl) hval hd
 obtain ⟨s,e0,_,hs⟩:=DataW.trod_string Tryz.underlying9 h0
 simp at e0
 subst e0
 obtain ⟨A1,c1,N,rfl,R1,k1,m1,z1⟩:=trod_rows (Value.int .i64) (fun z => -9223372036854775808≤z∧z≤9223372036854775807) Tryz.underlying22 (by kernel_rfl) (fun hf hl => trod_ints Tryz.underlying55 Tryz.underlying3 (by kernel_rfl) hf hl) h1 (fun x hx => hlt x (by simp [hx]))
 obtain ⟨A2,c2,O,rfl,R2,k2,m2,z2⟩:=trod_rows Value.string (fun z => z.size≤maxLen) Tryz.underlying23 (by kernel_rfl) (fun hf hl => trod_strs Tryz.underlying25 Tryz.underlying9 (by kernel_rfl) hf hl) h2 (fun x hx => hlt x (by simp [hx]))
 obtain ⟨A3,c3,E,rfl,R3,k3,m3⟩:=trod_bools Tryz.underlying24 Tryz.underlying4 (by kernel_rfl) h3 (fun x hx => hlt x (by simp [hx]))
 obtain ⟨A4,c4,T,rfl,R4,k4,m4,z4⟩:=trod_strs Tryz.underlying25 Tryz.underlying9 (by kernel_rfl) h4 (fun x hx => hlt x (by simp [hx]))
 exact ⟨⟨s,N,O,E,T⟩,A1,c1,A2,c2,A3,c3,A4,c4,rfl,hs,k1,k2,k3,k4,m1,m2,m3,m4,R1,z1,R2,z2,R3,R4,z4⟩
end
end Go.Proofs.YtcondkihpmmnnaaGreatDoor
namespace Go.Proofs.YtcondkihpmmnnaaGreatDoor
open Go.RowKit Go.Sort
def faultE (k:Int):Ending:=.panicked [{ v:=.iface 130 (.agg #[.int .i64 k]),recovered:=false }]
theorem short_no (s:ByteArray) (w:World) (_hs:s.size≤maxLen) (h:¬ s.size≤4096) :
    Calls Tryz.prog 95 #[.string s] w (fun e w' => e = faultE 2∧w' = w):=by
 have hz:(s.size:Int) > 4096:=by omega
 unfold maxLen at _hs
 go_enter Tryz.func95,Tryz.ntmps95
 go_wp2
 exact ⟨rfl,rfl,rfl⟩
theorem short_yes (s:ByteArray) (w:World) (h:s.size≤4096) :
    Calls Tryz.prog 95 #[.string s] w (fun e w' => e = .returned (.tuple #[])∧w' = w):=by
 have hz:¬ (s.size:Int) > 4096:=by omega
 have hz2:(s.size:Int)≤4096:=by omega
 go_enter Tryz.func95,Tryz.ntmps95
 go_wp2
 go_end0
 exact ⟨rfl,rfl⟩
end Go.Proofs.YtcondkihpmmnnaaGreatDoor
namespace Go.Proofs.YtcondkihpmmnnaaGreatDoor
open Go.RowKit Go.Sort
theorem str_infoS:(Tryz.prog.info? 9).map (fun i => (i.zero,i.size,i.bytes)) = some (some (.string ByteArray.empty),1,16):=by kernel_rfl
theorem eg_seqC:∀ args w,(callFunc 93 args).run Tryz.prog w = .ok (.enter 93 args) w:=enters_of Tryz.func93 (by kernel_rfl) rfl
def outsV (r:List Tp) (m k:Nat):Array Value:=((List.range m).map fun j => Value.string (if j < k then (r.getD j tp0).out else ByteArray.empty)).toArray
theorem outsV_zero (r:List Tp) (m:Nat):outsV r m 0 = (List.replicate m (Value.string ByteArray.empty)).toArray:=by
 unfold outsV
 congr 1
 apply List.ext_getElem?
 intro j
 rw [List.getElem?_map,List.getElem?_replicate]
 by_cases hj:j < m
 ·rw [List.getElem?_range hj]; simp [hj]
 ·rw [List.getElem?_eq_none (by simpa using hj)]; simp [hj]
theorem outsV_set (r:List Tp) (m k:Nat):(outsV r m k).setIfInBounds k (.string (r.getD k tp0).out) = outsV r m (k + 1):=by
 unfold outsV
 rw [List.setIfInBounds_toArray]
 congr 1
 apply List.ext_getElem?
 intro j
 rw [List.getElem?_set,List.getElem?_map,List.getElem?_map]
 by_cases hj:j < m
 ·rw [List.getElem?_range hj]
  by_cases hx:k = j
  ·subst hx
   simp only [List.length_map,List.length_range,hj,if_true,Option.map_some,Nat.lt_succ_self]
  ·have:(j < k + 1)↔(j < k):=by omega
   simp only [hx,if_false,Option.map_some,this]
 ·have e:(List.range m)[j]? = none:=List.getElem?_eq_none (by simpa using hj)
  rw [e]
  by_cases hx:k = j
  ·subst hx; simp [hj]
  ·simp [hx]
theorem outsV_all (r:List Tp):outsV r r.length r.length = ((r.map Tp.out).map Value.string).toArray:=by
 unfold outsV
 congr 1
 rw [List.map_map]
 apply List.ext_getElem?
 intro j
 rw [List.getElem?_map,List.getElem?_map]
 by_cases hj:j < r.length
 ·rw [List.getElem?_range hj,List.getElem?_eq_getElem hj]
  simp [hj]
 ·rw [List.getElem?_eq_none (by simpa using hj),List.getElem?_eq_none (by omega)]; rfl
theorem twin1_iff:∀ r:List Tp,twin1 r = true↔∃ j,0 < j∧j < r.length∧(r.getD (j - 1) tp0).st = (r.getD j tp0).st
 | [] => Iff.intro (fun h => Bool.noConfusion h) (fun ⟨j,_,h,_⟩ => absurd h (Nat.not_lt_zero _))
 | [x] => Iff.intro (fun h => Bool.noConfusion h) (fun ⟨j,h0,h,_⟩ => by simp at h; omega)
 | x :: y :: l => by
  unfold twin1
  rw [Bool.or_eq_true,beq_iff_eq,twin1_iff (y :: l)]
  constructor
  ·rintro (h | ⟨j,h0,hl,he⟩)
   ·exact ⟨1,by omega,by simp,h⟩
   ·refine ⟨j + 1,by omega,by simp at hl ⊢; omega,?_⟩
    obtain ⟨i,rfl⟩:∃ i,j = i + 1:=⟨j - 1,by omega⟩
    simpa using he
  ·rintro ⟨j,h0,hl,he⟩
   obtain ⟨i,rfl⟩:∃ i,j = i + 1:=⟨j - 1,by omega⟩
   rcases Nat.eq_zero_or_pos i with h | h
   ·subst h; left; simpa using he
   ·right
    obtain ⟨i',rfl⟩:∃ i',i = i' + 1:=⟨i - 1,by omega⟩
    exact ⟨i' + 1,by omega,by simp at hl ⊢; omega,by simpa using he⟩
def cutM (r:List Tp) (n k a:Nat):Tp:=if a < k then cutT n (r.getD a tp0) else r.getD a tp0
theorem cutM_set {w:World} {g m:Nat} {r:List Tp} {n k:Nat} (h:RowM encT 2 w g m (cutM r n k)) (hk:k < m) :
    RowM encT 2 (w.setCell ⟨g,k * 2 + 1,none⟩ (.string (cutT n (r.getD k tp0)).out)) g m (cutM r n (k + 1)):=by
 refine ⟨fun a i u ha hu => ?_,fun x hx => by rw [World.frozen?_setCell]; exact h.2 x hx⟩
 have hi:i < 2:=by
  rcases Nat.lt_or_ge i 2 with h | h
  ·exact h
  ·rw [List.getElem?_eq_none (by rw [encT_len]; exact h)] at hu; cases hu
 by_cases hak:a = k
 ·subst hak
  have e:cutM r n (a + 1) a = cutT n (r.getD a tp0):=if_pos (Nat.lt_succ_self a)
  rw [e] at hu
  have e0:cutM r n a a = r.getD a tp0:=if_neg (Nat.lt_irrefl a)
  match i,hi with
  | 0,_ =>
   rw [World.cell?_setCell_other _ _ _ _ (fun e => by injection e with _ e; omega)]
   refine h.1 a 0 u ha ?_
   rw [e0]
   exact hu
  | 1,_ =>
   have hu':u = .string (cutT n (r.getD a tp0)).out:=(Option.some.inj hu).symm
   subst hu'
   have hc:∃ v,w.cell? ⟨g,a * 2 + 1,none⟩ = some v:=⟨_,h.1 a 1 (.string (r.getD a tp0).out) ha (by rw [e0]; rfl)⟩
   obtain ⟨v,hv⟩:=hc
   exact World.cell?_setCell_same _ _ _ hv
 ·have e:cutM r n (k + 1) a = cutM r n k a:=by
    unfold cutM
    have:(a < k + 1)↔(a < k):=by omega
    simp only [this]
  rw [e] at hu
  rw [World.cell?_setCell_other _ _ _ _ (fun e => by injection e with _ e; omega)]
  exact h.1 a i u ha hu
end Go.Proofs.YtcondkihpmmnnaaGreatDoor
