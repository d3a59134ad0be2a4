/- Lemmas, part 32 of 39. No condition. -/
import Derived.Test.YtcondkihpmmnnaaGreatDoorUniqueP15
import Derived.Test.YtcondkihpmmnnaaGreatDoorUniqueP29
import Derived.Test.YtcondkihpmmnnaaGreatDoorUniqueP06
import Derived.Test.YtcondkihpmmnnaaGreatDoorUniqueP16
namespace Go.Proofs.YtcondkihpmmnnaaGreatDoor
open Go.RowKit Go.Sort
theorem bytesS_any (s:St) (h:StW s) (w:World) :
    Calls Tryz.prog 66 #[.agg #[.int .u64 (s.a:Int),.int .u64 (s.b:Int),.int .u64 (s.c:Int),.int .u64 (s.d:Int)]] w fun e W' => ∃ A n c,e = .returned (.slice A n c)∧n≤256∧Below w.heap.size w W':=by
 obtain ⟨e1,e2,e3,e4⟩:=St.word_m s h
 have:=bytesN_any s.m w
 rw [← e1,← e2,← e3,← e4] at this
 exact this
theorem sizeS_any (s:St) (h:StW s) (w:World) :
    Calls Tryz.prog 32 #[.agg #[.int .u64 (s.a:Int),.int .u64 (s.b:Int),.int .u64 (s.c:Int),.int .u64 (s.d:Int)]] w (Gives (.int .i64 ((sSize s.m:Nat):Int)) w):=by
 obtain ⟨e1,e2,e3,e4⟩:=St.word_m s h
 have:=size_any s.m w
 rw [← e1,← e2,← e3,← e4] at this
 exact this
set_option maxRecDepth 100000 in
set_option maxHeartbeats 4000000 in
theorem few19_any (t:Fs) (v:Value) (B:Nat) (w:World) (HS:FstAt w B t v) (hB:B≤w.heap.size) :
    Calls Tryz.prog 31 #[v] w (FewB w):=by
 have HS0:=Lib.hid (fun W (hb:Below w.heap.size w W) => few15_any t v B W (HS.below (hb.mono hB)) (Nat.le_trans hB hb.size))
 obtain ⟨A1,c1,A2,c2,A3,c3,rfl,l1,l2,l3,m1,m2,m3,hn1,hn2,R1,W1,R2,W2,R3,W3⟩:=HS
 have HR3:=Lib.hid R3
 have HW3:=Lib.hid (fun (k:Nat) (hk:k < t.arcs.length) => W3 (t.arcs.getD k ar0) (by rw [List.getD_eq_getElem?_getD,List.getElem?_eq_getElem hk]; exact List.getElem_mem _))
 have HP:=Lib.hid (fun (b:Bool) (W:World) (h:Below w.heap.size w W) => show FewB w (.returned (.bool b)) W from ⟨b,rfl,h⟩)
 clear R1 R2 R3 W1 W2 W3
 have K:=Blk.new w 32 #[.int .i64 t.n,.slice A1 t.starts.length c1,.slice A2 t.ends.length c2,.slice A3 t.arcs.length c3]
 have LB:=(Below.refl w.heap.size w).alloc (Nat.le_refl _) (.cells #[.int .i64 t.n,.slice A1 t.starts.length c1,.slice A2 t.ends.length c2,.slice A3 t.arcs.length c3] 32)
 unfold maxLen at *
 generalize t.n = tn at *
 generalize t.starts.length = n1 at *
 generalize t.ends.length = n2 at *
 generalize t.arcs.length = n3 at *
 have f0:=K.cell 0
 have f1:=K.cell 1
 have f2:=K.cell 2
 have f3:=K.cell 3
 have HK:=Lib.hid (And.intro K LB)
 clear K LB
 go_enter Tryz.func31,Tryz.ntmps31
 go_wp2
 clear f0 f1 f2 f3
 go_loopw [3,4] (fun a i wr => ∃ (m:Int) (k:Nat),k≤n3∧i = .int .i64 (k:Int)∧a = .int .i64 m∧Blk wr w.heap.size 32 #[.int .i64 tn,.slice A1 n1 c1,.slice A2 n2 c2,.slice A3 n3 c3]∧Below w.heap.size w wr) (fun _ i _ => n3 - (intOf i).toNat)
 case atStart => exact ⟨_,0,Nat.zero_le _,rfl,rfl,HK.out.1,HK.out.2⟩
 case round =>
  clear HK
  obtain ⟨m,k,hk,rfl,rfl,hK,hb⟩:=hrel
  have f0:=hK.cell 0
  have f1:=hK.cell 1
  have f2:=hK.cell 2
  have f3:=hK.cell 3
  have HK:=Lib.hid (And.intro hK hb)
  by_cases hgo:k < n3∧m≤40
  ·obtain ⟨hlt,h60⟩:=hgo
   have hi1:(0:Int)≤(k:Int):=by omega
   have hi2:(k:Int) < (n3:Int):=by omega
   obtain ⟨g3,o3,rfl,hg3,a0,a1,a2,a3,a4,a5,a6,a7⟩:=arc_cell (HR3.out.below (hb.mono hB)) k hlt
   have HSt:=Lib.hid (HW3.out k hlt).2.2.2.2.1
   generalize (t.arcs.getD k ar0) = x at *
   obtain ⟨x1,x2,⟨s1,s2,s3,s4⟩,x3,x4⟩:=x
   have HBy:=Lib.hid (fun W => bytesS_any ⟨s1,s2,s3,s4⟩ HSt.out W)
   simp only at HBy a0 a1 a2 a3 a4 a5 a6 a7
   clear hK hb
   go_wp2_with fail
   refine (HBy.out _).mono ?_
   rintro e w1 ⟨Ab,nb,cb,rfl,hnb,hb1⟩
   have HK1:=Lib.hid (And.intro (HK.out.1.below hb1 HK.out.1.lt) (HK.out.2.trans (hb1.mono HK.out.2.size)))
   clear a0 a1 a2 a3 a4 a5 a6 a7 f0 f1 f2 f3 hb1
   go_wp2
   go_roundw
   case rel => exact ⟨_,k + 1,by omega,by go_num,rfl,HK1.out.1,HK1.out.2⟩
   case measure => simp [intOf]; omega
  ·have hex:(¬ k < n3)∨(k < n3∧¬ m≤40):=by omega
   clear hK hb hgo
   rcases hex with hlt | ⟨hlt,h60⟩
   ·go_wp2_with fail
    refine (HS0.out _ HK.out.2).mono ?_
    rintro e w1 ⟨b1,rfl,hb1⟩
    have hK1:=HK.out.1.below hb1 HK.out.1.lt
    have HB1:=Lib.hid (HK.out.2.trans (hb1.mono HK.out.2.size))
    clear f0 f1 f2 f3 hb1
    have f0:=hK1.cell 0
    have f3:=hK1.cell 3
    clear hK1
    rcases b1 with _ | _
    ·go_wp2
     exact bodyPost_ret (v:=.bool false) (by simp [results,Tryz.results31,go_sem]) rfl (HP.out _ _ HB1.out)
    by_cases d4:m≤40
    ·by_cases d1:(n3:Int)≤14
     ·by_cases d2:tn≤5
      ·go_wp2
       exact bodyPost_ret (v:=.bool true) (by simp [results,Tryz.results31,go_sem]) rfl (HP.out _ _ HB1.out)
      ·by_cases d3:(1024:Int) < tn
       ·go_wp2
        exact bodyPost_ret (v:=.bool true) (by simp [results,Tryz.results31,go_sem]) rfl (HP.out _ _ HB1.out)
       ·go_wp2
        exact bodyPost_ret (v:=.bool false) (by simp [results,Tryz.results31,go_sem]) rfl (HP.out _ _ HB1.out)
     ·go_wp2
      exact bodyPost_ret (v:=.bool false) (by simp [results,Tryz.results31,go_sem]) rfl (HP.out _ _ HB1.out)
    ·by_cases d1:(n3:Int)≤14
     ·by_cases d2:tn≤5
      ·go_wp2
       exact bodyPost_ret (v:=.bool false) (by simp [results,Tryz.results31,go_sem]; omega) rfl (HP.out _ _ HB1.out)
      ·by_cases d3:(1024:Int) < tn
       ·go_wp2
        exact bodyPost_ret (v:=.bool false) (by simp [results,Tryz.results31,go_sem]; omega) rfl (HP.out _ _ HB1.out)
       ·go_wp2
        exact bodyPost_ret (v:=.bool false) (by simp [results,Tryz.results31,go_sem]) rfl (HP.out _ _ HB1.out)
     ·go_wp2
      exact bodyPost_ret (v:=.bool false) (by simp [results,Tryz.results31,go_sem]) rfl (HP.out _ _ HB1.out)
   ·go_wp2_with fail
    refine (HS0.out _ HK.out.2).mono ?_
    rintro e w1 ⟨b1,rfl,hb1⟩
    have hK1:=HK.out.1.below hb1 HK.out.1.lt
    have HB1:=Lib.hid (HK.out.2.trans (hb1.mono HK.out.2.size))
    clear f0 f1 f2 f3 hb1
    have f0:=hK1.cell 0
    have f3:=hK1.cell 3
    clear hK1
    rcases b1 with _ | _
    ·go_wp2
     exact bodyPost_ret (v:=.bool false) (by simp [results,Tryz.results31,go_sem]) rfl (HP.out _ _ HB1.out)
    by_cases d1:(n3:Int)≤14
    ·by_cases d2:tn≤5
     ·go_wp2
      exact bodyPost_ret (v:=.bool false) (by simp [results,Tryz.results31,go_sem]; omega) rfl (HP.out _ _ HB1.out)
     ·by_cases d3:(1024:Int) < tn
      ·go_wp2
       exact bodyPost_ret (v:=.bool false) (by simp [results,Tryz.results31,go_sem]; omega) rfl (HP.out _ _ HB1.out)
      ·go_wp2
       exact bodyPost_ret (v:=.bool false) (by simp [results,Tryz.results31,go_sem]) rfl (HP.out _ _ HB1.out)
    ·go_wp2
     exact bodyPost_ret (v:=.bool false) (by simp [results,Tryz.results31,go_sem]) rfl (HP.out _ _ HB1.out)
end Go.Proofs.YtcondkihpmmnnaaGreatDoor
