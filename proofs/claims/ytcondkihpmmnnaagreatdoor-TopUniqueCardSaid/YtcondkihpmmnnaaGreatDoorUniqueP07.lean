/- Lemmas, part 7 of 39. No condition. -/
import Derived.Test.YtcondkihpmmnnaaGreatDoorUniqueP04
import Derived.Lib.Bytealg
import Derived.Lib.Small
import Derived.Test.YtcondkihpmmnnaaGreatDoorUniqueP06
import Derived.Test.YtcondkihpmmnnaaGreatDoorUniqueP05
namespace Go.Proofs.YtcondkihpmmnnaaGreatDoor
open Go.RowKit Go.Sort
theorem cmpInt_any (x y:Int) (w:World):Calls Tryz.prog 83 #[.int .i64 x,.int .i64 y] w (fun e w' => e = .returned (.int .i64 (Lib.compareInt x y))∧w = w'):=by
 unfold Lib.compareInt
 by_cases h1:x < y
 ·rw [if_pos h1]
  go_enter Tryz.func83,Tryz.ntmps83
  go_wp2
  go_ret
  exact ⟨rfl,rfl⟩
 ·rw [if_neg h1]
  by_cases h2:x > y
  ·rw [if_pos h2]
   go_enter Tryz.func83,Tryz.ntmps83
   go_wp2
   go_ret
   exact ⟨rfl,rfl⟩
  ·rw [if_neg h2]
   go_enter Tryz.func83,Tryz.ntmps83
   go_wp2
   go_ret
   exact ⟨rfl,rfl⟩
theorem cmpWord_any (x y:Int) (w:World):Calls Tryz.prog 117 #[.int .u64 x,.int .u64 y] w (fun e w' => e = .returned (.int .i64 (Lib.compareInt x y))∧w = w'):=by
 unfold Lib.compareInt
 by_cases h1:x < y
 ·rw [if_pos h1]
  go_enter Tryz.func117,Tryz.ntmps117
  go_wp2
  go_ret
  exact ⟨rfl,rfl⟩
 ·rw [if_neg h1]
  by_cases h2:x > y
  ·rw [if_pos h2]
   go_enter Tryz.func117,Tryz.ntmps117
   go_wp2
   go_ret
   exact ⟨rfl,rfl⟩
  ·rw [if_neg h2]
   go_enter Tryz.func117,Tryz.ntmps117
   go_wp2
   go_ret
   exact ⟨rfl,rfl⟩
theorem cmpB_cases:∀ a b:List UInt8,(Lib.compareBytes a b = -1∧Op.bytesLess a b = true∧Op.bytesLess b a = false∧(a == b) = false)∨(Lib.compareBytes a b = 0∧Op.bytesLess a b = false∧Op.bytesLess b a = false∧(a == b) = true)∨(Lib.compareBytes a b = 1∧Op.bytesLess a b = false∧Op.bytesLess b a = true∧(a == b) = false)
 | [],[] => .inr (.inl ⟨rfl,rfl,rfl,rfl⟩)
 | [],_ :: _ => .inl ⟨rfl,rfl,rfl,rfl⟩
 | _ :: _,[] => .inr (.inr ⟨rfl,rfl,rfl,rfl⟩)
 | x :: a,y :: b => by
  have ih:=cmpB_cases a b
  unfold Lib.compareBytes Op.bytesLess
  rw [List.cons_beq_cons]
  by_cases h1:x < y
  ·have h2:¬ y < x:=UInt8.lt_asymm h1
   have h3:(y == x) = false:=by rw [beq_eq_false_iff_ne]; rintro rfl; exact UInt8.lt_irrefl _ h1
   have h4:(x == y) = false:=by rw [beq_eq_false_iff_ne]; rintro rfl; exact UInt8.lt_irrefl _ h1
   simp [h1,h2,h3,h4]
  ·by_cases h2:y < x
   ·have h3:(x == y) = false:=by rw [beq_eq_false_iff_ne]; rintro rfl; exact UInt8.lt_irrefl _ h2
    simp [h1,h2,h3]
   ·have h3:x = y:=UInt8.le_antisymm (UInt8.not_lt.1 h2) (UInt8.not_lt.1 h1)
    subst h3
    simpa [h1] using ih
def cmpS (a b:ByteArray):Int:=Lib.compareBytes a.data.toList b.data.toList
theorem cmpText_any (x y:ByteArray) (w:World):Calls Tryz.prog 120 #[.string x,.string y] w (fun e w' => e = .returned (.int .i64 (cmpS x y))∧w = w'):=by
 have h:=cmpB_cases x.data.toList y.data.toList
 unfold cmpS
 rw [← Lib.toList_data,← Lib.toList_data] at h ⊢
 generalize Lib.compareBytes x.toList y.toList = r at *
 rcases h with ⟨rfl,h1,h2,h3⟩ | ⟨rfl,h1,h2,h3⟩ | ⟨rfl,h1,h2,h3⟩
 all_goals
  go_enter Tryz.func120,Tryz.ntmps120
  go_wp2
  go_ret
  exact ⟨rfl,rfl⟩
def orL:List Int→Int
 | [] => 0
 | x :: l => if x≠0 then x else orL l
theorem orL_zero:∀ (l:List Int) (k:Nat),(∀ x∈l.take k,x = 0)→orL l = orL (l.drop k)
 | l,0,_ => rfl
 | [],k + 1,_ => rfl
 | x :: l,k + 1,h => by
  rw [List.drop_succ_cons,← orL_zero l k fun y hy => h y (by simp [hy])]
  show (if x≠0 then x else orL l) = _
  rw [if_neg (by simpa using h x (by simp))]
theorem or_any (A:Option Addr) (n c B:Nat) (l:List Int) (w:World) (HR:Reads w B 1 A n (l.map (Value.int .i64))) (hn:n≤1000) :
    Calls Tryz.prog 82 #[.slice A n c] w (fun e w' => e = .returned (.int .i64 (orL l))∧w = w'):=by
 have hl:l.length = n:=by have:=HR.1; simpa using this
 go_enter Tryz.func82,Tryz.ntmps82
 go_wp2
 go_loop [8] (fun i => ∃ k:Nat,k≤n∧i = .int .i64 k∧∀ x∈l.take k,x = 0) (fun i => n - (intOf i).toNat)
 case atStart => exact ⟨0,by omega,rfl,fun x hx => by simp at hx⟩
 case round =>
  obtain ⟨k,hk,rfl,ha⟩:=hrel
  by_cases hlt:k < n
  ·have hi1:(0:Int)≤(k:Int):=by omega
   have hi2:(k:Int) < (n:Int):=by omega
   obtain ⟨g,o,rfl,hgB,c0⟩:=cell_at (d:=0) HR k hlt
   have hz:=orL_zero l k ha
   have hd:l.drop k = l.getD k 0 :: l.drop (k + 1):=by
    rw [List.getD_eq_getElem?_getD,List.getElem?_eq_getElem (by omega)]
    exact List.drop_eq_getElem_cons (by omega)
   rw [hd] at hz
   have hs:l.getD k 0 = 0→∀ x∈l.take (k + 1),x = 0:=fun h0 x hx => by
    rw [List.take_succ_eq_append_getElem (by omega),List.mem_append] at hx
    rcases hx with hx | hx
    ·exact ha x hx
    ·rw [List.getD_eq_getElem?_getD,List.getElem?_eq_getElem (by omega)] at h0
     simp at hx
     rw [hx]; exact h0
   clear hd ha
   generalize l.getD k 0 = x at *
   by_cases h0:x = 0
   ·have HS:=Lib.hid (hs h0)
    clear hz hs
    subst h0
    go_wp2
    go_round
    case rel => exact ⟨k + 1,by omega,by go_num,HS.out⟩
    case measure => simp [intOf]; omega
   ·have hz2:orL l = x:=by rw [hz]; unfold orL; rw [if_pos h0]
    have HZ:=Lib.hid hz2
    clear hz hz2 hs
    go_wp2
    go_ret
    refine ⟨?_,rfl⟩
    rw [HZ.out]; rfl
  ·have e:k = n:=by omega
   subst e
   have hz:orL l = 0:=by rw [orL_zero l k ha,List.drop_of_length_le (by omega)]; rfl
   have HZ:=Lib.hid hz
   clear hz ha
   go_wp2
   go_ret
   refine ⟨?_,rfl⟩
   rw [HZ.out]; rfl
def numB (b:Bool):Int:=if b then 1 else 0
theorem number_any (b:Bool) (w:World):Calls Tryz.prog 89 #[.bool b] w (fun e w' => e = .returned (.int .i64 (numB b))∧w = w'):=by
 cases b
 all_goals
  go_enter Tryz.func89,Tryz.ntmps89
  go_wp2
  go_ret
  exact ⟨rfl,rfl⟩
def cmpL (l m:List Int):Int:=orL (List.zipWith Lib.compareInt l m)
theorem cmpInt_range (x y:Int):-1≤Lib.compareInt x y∧Lib.compareInt x y≤1:=by
 unfold Lib.compareInt
 split
 ·omega
 ·split <;> omega
set_option maxHeartbeats 1000000 in
theorem cmpWords_any (A A':Option Addr) (n c c' B:Nat) (l m:List Int) (w:World) (HR:Reads w B 1 A n (l.map (Value.int .u64))) (HR':Reads w B 1 A' n (m.map (Value.int .u64))) (hn:n≤1000) :
    Calls Tryz.prog 88 #[.slice A n c,.slice A' n c'] w (fun e w' => e = .returned (.int .i64 (cmpL l m))∧w = w'):=by
 have hl:l.length = n:=by have:=HR.1; simpa using this
 have hm:m.length = n:=by have:=HR'.1; simpa using this
 go_enter Tryz.func88,Tryz.ntmps88
 go_wp2
 go_loop [11] (fun i => ∃ k:Nat,k≤n∧i = .int .i64 k∧∀ x∈(List.zipWith Lib.compareInt l m).take k,x = 0) (fun i => n - (intOf i).toNat)
 case atStart => exact ⟨0,by omega,rfl,fun x hx => by simp at hx⟩
 case round =>
  obtain ⟨k,hk,rfl,ha⟩:=hrel
  have hzl:(List.zipWith Lib.compareInt l m).length = n:=by rw [List.length_zipWith,hl,hm]; omega
  by_cases hlt:k < n
  ·have hi1:(0:Int)≤(k:Int):=by omega
   have hi2:(k:Int) < (n:Int):=by omega
   have hi3:¬ n≤k:=by omega
   obtain ⟨g,o,rfl,hgB,c0⟩:=cell_at (d:=0) HR k hlt
   obtain ⟨g',o',rfl,hgB',d0⟩:=cell_at (d:=0) HR' k hlt
   have hz:=orL_zero _ k ha
   have hg:(List.zipWith Lib.compareInt l m)[k]'(by omega) = Lib.compareInt (l.getD k 0) (m.getD k 0):=by
    rw [List.getElem_zipWith,List.getD_eq_getElem?_getD,List.getD_eq_getElem?_getD,List.getElem?_eq_getElem (by omega),List.getElem?_eq_getElem (by omega)]
    rfl
   have hd:(List.zipWith Lib.compareInt l m).drop k = Lib.compareInt (l.getD k 0) (m.getD k 0) :: (List.zipWith Lib.compareInt l m).drop (k + 1):=by
    rw [← hg]
    exact List.drop_eq_getElem_cons (by omega)
   rw [hd] at hz
   have hs:Lib.compareInt (l.getD k 0) (m.getD k 0) = 0→∀ x∈(List.zipWith Lib.compareInt l m).take (k + 1),x = 0:=fun h0 x hx => by
    rw [List.take_succ_eq_append_getElem (by omega),List.mem_append] at hx
    rcases hx with hx | hx
    ·exact ha x hx
    ·simp only [hg,List.mem_singleton] at hx
     rw [hx]; exact h0
   have hc:=fun W => cmpWord_any (l.getD k 0) (m.getD k 0) W
   have hrg:=cmpInt_range (l.getD k 0) (m.getD k 0)
   clear hd ha hg hzl
   generalize Lib.compareInt (l.getD k 0) (m.getD k 0) = r at *
   generalize l.getD k 0 = x at *
   generalize m.getD k 0 = y at *
   by_cases h0:r = 0
   ·have HS:=Lib.hid (hs h0)
    clear hz hs
    subst h0
    go_wp2_with (go_at_call 117; refine (hc _).mono ?_; rintro e w1 ⟨rfl,rfl⟩)
    go_round
    case rel => exact ⟨k + 1,by omega,by go_num,HS.out⟩
    case measure => simp [intOf]; omega
   ·have hz2:cmpL l m = r:=by unfold cmpL; rw [hz]; unfold orL; rw [if_pos h0]
    have HZ:=Lib.hid hz2
    have hb:((r:Int) != 0) = true:=by simpa using h0
    clear hz hz2 hs
    go_wp2_with (go_at_call 117; refine (hc _).mono ?_; rintro e w1 ⟨rfl,rfl⟩)
    go_ret
    refine ⟨?_,rfl⟩
    rw [HZ.out]; rfl
  ·have e:k = n:=by omega
   subst e
   have hz:cmpL l m = 0:=by unfold cmpL; rw [orL_zero _ k ha,List.drop_of_length_le (by omega)]; rfl
   have HZ:=Lib.hid hz
   clear hz ha
   go_wp2
   go_ret
   refine ⟨?_,rfl⟩
   rw [HZ.out]; rfl
end Go.Proofs.YtcondkihpmmnnaaGreatDoor
namespace Go.Proofs.YtcondkihpmmnnaaGreatDoor
open Go.RowKit Go.Sort
theorem state_any (s n:Int) (w:World):Calls Tryz.prog 49 #[.int .i64 s,.int .i64 n] w (fun e w' => e = .returned (.bool (stB' s n))∧w = w'):=by
 by_cases h1:0≤s
 ·by_cases h2:s < n
  ·have e:stB' s n = true:=by unfold stB'; simp [h1,h2]
   rw [e]
   go_enter Tryz.func49,Tryz.ntmps49
   go_wp2
   go_ret
   exact ⟨rfl,rfl⟩
  ·have e:stB' s n = false:=by unfold stB'; simp [h2]
   rw [e]
   go_enter Tryz.func49,Tryz.ntmps49
   go_wp2
   go_ret
   exact ⟨rfl,rfl⟩
 ·have e:stB' s n = false:=by unfold stB'; simp [h1]
  rw [e]
  go_enter Tryz.func49,Tryz.ntmps49
  go_wp2
  go_ret
  exact ⟨rfl,rfl⟩
set_option maxRecDepth 100000 in
set_option maxHeartbeats 4000000 in
theorem rightTips_any (A:Option Addr) (n c B:Nat) (l:List Tp) (s:Int) (w:World) (HR0:Reads w B 2 A n (encs encT l)) (hB:B≤w.heap.size) (hn:n≤maxLen) (hW:∀ x∈l,TpW x) :
    Calls Tryz.prog 48 #[.slice A n c,.int .i64 s] w (Gives (.bool (tipsB l s)) w):=by
 have HR:=HR0.more hB
 clear HR0
 have hl:=reads_len encT_len (by decide) HR
 unfold maxLen at hn
 by_cases h0:1024 < n
 ·have e:tipsB l s = false:=by unfold tipsB; rw [hl,decide_eq_false (by omega)]; rfl
  rw [e]
  go_enter Tryz.func48,Tryz.ntmps48
  go_wp2
  go_ret
  exact ⟨rfl,Below.refl _ _⟩
 ·go_enter Tryz.func48,Tryz.ntmps48
  go_wp2
  go_loopw [12] (fun i wr => ∃ k:Nat,k≤n∧i = .int .i64 k∧Below w.heap.size w wr∧(l.take k).all (tipB s) = true) (fun i _ => n - (intOf i).toNat)
  case atStart => exact ⟨0,by omega,rfl,Below.refl _ _,rfl⟩
  case round =>
   obtain ⟨k,hk,rfl,HB,ha⟩:=hrel
   have hsz:=HB.size
   by_cases hlt:k < n
   ·have hi1:(0:Int)≤(k:Int):=by omega
    have hi2:(k:Int) < (n:Int):=by omega
    obtain ⟨g,o,rfl,hgB,c0,c1⟩:=tip_cell (HR.below HB) k hlt
    have hbad:tipB s (l.getD k tp0) = false→tipsB l s = false:=fun h => by unfold tipsB; rw [all_fail tp0 k (by omega) h,Bool.and_false]
    have hgood:tipB s (l.getD k tp0) = true→(l.take (k + 1)).all (tipB s) = true:=fun h => all_next tp0 k (by omega) h ha
    have hx:TpW (l.getD k tp0):=hW _ (by rw [List.getD_eq_getElem?_getD,List.getElem?_eq_getElem (by omega)]; exact List.getElem_mem _)
    obtain ⟨x1,x2,x3⟩:=hx
    unfold maxLen at x3
    unfold tipB at hbad hgood
    generalize (l.getD k tp0).st = z at *
    generalize (l.getD k tp0).out = q at *
    have Hb:=Lib.hid hbad; clear hbad
    have Hg:=Lib.hid hgood; clear hgood
    clear ha hW
    rcases hst:stB' z s with _ | _
    ·have hs:∀ W,Calls Tryz.prog 49 #[.int .i64 z,.int .i64 s] W (fun e w' => e = .returned (.bool false)∧W = w'):=fun W => by rw [← hst]; exact state_any z s W
     have e:=Hb.out (by rw [hst]; rfl)
     rw [e]
     clear hst e Hb Hg
     go_wp2_with (go_at_call 49; refine (hs _).mono ?_; rintro e w1 ⟨rfl,rfl⟩)
     go_ret
     exact ⟨rfl,HB.alloc (by omega) _⟩
    ·have hs:∀ W,Calls Tryz.prog 49 #[.int .i64 z,.int .i64 s] W (fun e w' => e = .returned (.bool true)∧W = w'):=fun W => by rw [← hst]; exact state_any z s W
     by_cases h1:(1024:Int) < (q.size:Int)
     ·have e:=Hb.out (by rw [hst,decide_eq_false (by omega)]; rfl)
      rw [e]
      clear hst e Hb Hg
      go_wp2_with (go_at_call 49; refine (hs _).mono ?_; rintro e w1 ⟨rfl,rfl⟩)
      go_ret
      exact ⟨rfl,HB.alloc (by omega) _⟩
     ·have e:=Hg.out (by rw [hst,decide_eq_true (by omega)]; rfl)
      have E:=Lib.hid e
      clear hst e Hb Hg
      go_wp2_with (go_at_call 49; refine (hs _).mono ?_; rintro e w1 ⟨rfl,rfl⟩)
      go_roundw
      case rel => exact ⟨k + 1,by omega,by go_num,HB.alloc (by omega) _,E.out⟩
      case measure => simp [intOf]; omega
   ·have e:k = n:=by omega
    subst e
    have er:tipsB l s = true:=by
     unfold tipsB
     rw [← hl,List.take_length] at ha
     rw [ha,decide_eq_true (by omega)]; rfl
    have Er:=Lib.hid er
    clear er ha
    go_wp2
    go_ret
    refine ⟨?_,HB⟩
    rw [Er.out]
    rfl
end Go.Proofs.YtcondkihpmmnnaaGreatDoor
namespace Go.Proofs.YtcondkihpmmnnaaGreatDoor
open Go.RowKit Go.Sort
theorem fck_no {t:Fs} (h:¬ (0≤t.n∧t.n≤1024∧t.arcs.length≤16384∧tipsB t.starts t.n = true∧tipsB t.ends t.n = true)):okE (fckB t) = 1:=by
 have:fckB t = false:=by
  rw [← Bool.not_eq_true]
  intro h2
  apply h
  unfold fckB at h2
  simp only [Bool.and_eq_true,decide_eq_true_eq] at h2
  exact ⟨h2.1.1.1.1.1,h2.1.1.1.1.2,h2.1.1.1.2,h2.1.1.2,h2.1.2⟩
 rw [this]; rfl
theorem fck_arc {t:Fs} (k:Nat) (hk:k < t.arcs.length) (h:arcB t.n (t.arcs.getD k ar0) = false):okE (fckB t) = 1:=by
 have:fckB t = false:=by unfold fckB; rw [all_fail ar0 k hk h,Bool.and_false]
 rw [this]; rfl
theorem fck_yes {t:Fs} (h:0≤t.n∧t.n≤1024∧t.arcs.length≤16384∧tipsB t.starts t.n = true∧tipsB t.ends t.n = true) (ha:t.arcs.all (arcB t.n) = true):okE (fckB t) = 0:=by
 have:fckB t = true:=by
  unfold fckB
  simp only [Bool.and_eq_true,decide_eq_true_eq]
  exact ⟨⟨⟨⟨⟨h.1,h.2.1⟩,h.2.2.1⟩,h.2.2.2.1⟩,h.2.2.2.2⟩,ha⟩
 rw [this]; rfl
set_option maxRecDepth 100000 in
set_option maxHeartbeats 8000000 in
theorem fstCheck_any (t:Fs) (v:Value) (B:Nat) (w:World) (HS:FstAt w B t v) (hB:B≤w.heap.size) :
    Calls Tryz.prog 20 #[v] w (Gives (.int .i64 (okE (fckB t))) w):=by
 obtain ⟨A1,c1,A2,c2,A3,c3,rfl,h1,h2,h3,h4,h5,h6,h7,h8,R1,W1,R2,W2,R3,W3⟩:=HS
 have hno:=Lib.hid (@fck_no t)
 have harc:=Lib.hid (fun k => @fck_arc t k)
 have hyes:=Lib.hid (@fck_yes t)
 have R1':=R1.more hB
 have R2':=R2.more hB
 have R3':=R3.more hB
 clear R1 R2 R3
 have T1:∀ W,Below w.heap.size w W→Calls Tryz.prog 48 #[.slice A1 t.starts.length c1,.int .i64 t.n] W (Gives (.bool (tipsB t.starts t.n)) W):=fun W hb => rightTips_any A1 _ c1 w.heap.size t.starts t.n W (R1'.below hb) hb.size (by omega) W1
 have T2:∀ W,Below w.heap.size w W→Calls Tryz.prog 48 #[.slice A2 t.ends.length c2,.int .i64 t.n] W (Gives (.bool (tipsB t.ends t.n)) W):=fun W hb => rightTips_any A2 _ c2 w.heap.size t.ends t.n W (R2'.below hb) hb.size (by omega) W2
 clear R1' R2' W1 W2
 unfold maxLen at *
 generalize okE (fckB t) = r at *
 generalize t.starts.length = n1 at *
 generalize t.ends.length = n2 at *
 generalize tipsB t.starts t.n = b1 at *
 generalize tipsB t.ends t.n = b2 at *
 by_cases d1:t.n < 0
 ·obtain rfl:r = 1:=hno.out (by omega)
  generalize t.n = N at *
  clear hno harc hyes T1 T2 W3
  go_enter Tryz.func20,Tryz.ntmps20
  go_wp2
  go_ret
  exact ⟨rfl,(Below.refl _ _).alloc (Nat.le_refl _) _⟩
 by_cases d2:1024 < t.n
 ·obtain rfl:r = 1:=hno.out (by omega)
  generalize t.n = N at *
  clear hno harc hyes T1 T2 W3
  go_enter Tryz.func20,Tryz.ntmps20
  go_wp2
  go_ret
  exact ⟨rfl,(Below.refl _ _).alloc (Nat.le_refl _) _⟩
 by_cases d3:16384 < t.arcs.length
 ·obtain rfl:r = 1:=hno.out (by omega)
  generalize t.n = N at *
  generalize hm:t.arcs.length = m at *
  clear hno harc hyes T1 T2 W3 hm R3'
  go_enter Tryz.func20,Tryz.ntmps20
  go_wp2
  go_ret
  exact ⟨rfl,(Below.refl _ _).alloc (Nat.le_refl _) _⟩
 rcases b1 with _ | _
 ·obtain rfl:r = 1:=hno.out (by simp)
  generalize t.n = N at *
  generalize hm:t.arcs.length = m at *
  clear hno harc hyes T2 W3 hm R3'
  go_enter Tryz.func20,Tryz.ntmps20
  go_wp2_with (go_at_call 48; refine (T1 _ ((Below.refl _ _).alloc (Nat.le_refl _) _)).mono ?_; rintro e w1 ⟨rfl,HB1⟩)
  go_ret
  exact ⟨rfl,((Below.refl _ _).alloc (Nat.le_refl _) _).trans (HB1.mono (by simp))⟩
 rcases b2 with _ | _
 ·obtain rfl:r = 1:=hno.out (by simp)
  generalize t.n = N at *
  generalize hm:t.arcs.length = m at *
  clear hno harc hyes W3 hm R3'
  have B0:=(Below.refl w.heap.size w).alloc (Nat.le_refl _) (.cells #[.int .i64 N,.slice A1 n1 c1,.slice A2 n2 c2,.slice A3 m c3] 32)
  have K0:=Blk.new w 32 #[.int .i64 N,.slice A1 n1 c1,.slice A2 n2 c2,.slice A3 m c3]
  go_enter Tryz.func20,Tryz.ntmps20
  go_wp2_with fail
  refine (T1 _ B0).mono ?_
  rintro e w1 ⟨rfl,HB1⟩
  have B1:=B0.trans (HB1.mono (by simp))
  have K1:=K0.below HB1 (by simp)
  have k0:=K1.cell 0
  have k2:=K1.cell 2
  go_wp2_with fail
  refine (T2 _ B1).mono ?_
  rintro e w2 ⟨rfl,HB2⟩
  go_wp2
  go_ret
  exact ⟨rfl,B1.trans (HB2.mono B1.size)⟩
 have hA:=Lib.hid (fun ha => hyes.out ⟨by omega,by omega,by omega,rfl,rfl⟩ ha)
 clear hno hyes
 have B0:=(Below.refl w.heap.size w).alloc (Nat.le_refl _) (.cells #[.int .i64 t.n,.slice A1 n1 c1,.slice A2 n2 c2,.slice A3 t.arcs.length c3] 32)
 have K0:=Blk.new w 32 #[.int .i64 t.n,.slice A1 n1 c1,.slice A2 n2 c2,.slice A3 t.arcs.length c3]
 have hlen:t.arcs.length≤16384:=by omega
 generalize t.n = N at *
 generalize t.arcs = L at *
 generalize hm:L.length = m at *
 have Hm:=Lib.hid hm
 clear hm
 go_enter Tryz.func20,Tryz.ntmps20
 go_wp2_with fail
 refine (T1 _ B0).mono ?_
 rintro e w1 ⟨rfl,HB1⟩
 have B1:=B0.trans (HB1.mono (by simp))
 have K1:=K0.below HB1 (by simp)
 have k0:=K1.cell 0
 have k2:=K1.cell 2
 go_wp2_with fail
 refine (T2 _ B1).mono ?_
 rintro e w2 ⟨rfl,HB2⟩
 have B2:=B1.trans (HB2.mono B1.size)
 have K2:=K1.below HB2 (by have:=HB1.size; simp at this; omega)
 have z2:w.heap.size < w2.heap.size:=by have:=HB1.size; have:=HB2.size; simp at *; omega
 clear T1 T2 k0 k2 K1 K0 B0 B1 HB1 HB2
 have k3:=K2.cell 3
 go_wp2
 clear k3
 go_loopw [36] (fun i wr => ∃ k:Nat,k≤m∧i = .int .i64 k∧Below w.heap.size w wr∧Blk wr w.heap.size 32 #[.int .i64 N,.slice A1 n1 c1,.slice A2 n2 c2,.slice A3 m c3]∧w.heap.size < wr.heap.size∧(L.take k).all (arcB N) = true) (fun i _ => m - (intOf i).toNat)
 case atStart => exact ⟨0,by omega,rfl,B2,K2,z2,rfl⟩
 case round =>
  clear B2 K2 z2
  obtain ⟨k,hk,rfl,HB,HK,hsz,ha⟩:=hrel
  by_cases hlt:k < m
  ·have hi1:(0:Int)≤(k:Int):=by omega
   have hi2:(k:Int) < (m:Int):=by omega
   obtain ⟨g,o,rfl,hgB,a0,a1,a2,a3,a4,a5,a6,a7⟩:=arc_cell (R3'.below HB) k hlt
   have hbad:arcB N (L.getD k ar0) = false→r = 1:=fun h => harc.out k hlt h
   have hgood:arcB N (L.getD k ar0) = true→(L.take (k + 1)).all (arcB N) = true:=fun h => all_next ar0 k (by have:=Hm.out; omega) h ha
   have hx:ArW (L.getD k ar0):=W3 _ (by rw [List.getD_eq_getElem?_getD,List.getElem?_eq_getElem (by have:=Hm.out; omega)]; exact List.getElem_mem _)
   have x6:(L.getD k ar0).out.size≤9223372036854775807:=by have:=hx.2.2.2.2.2; unfold maxLen at this; exact this
   have he:=fun W => eql_words W ((L.getD k ar0).set.a:Int) ((L.getD k ar0).set.b:Int) ((L.getD k ar0).set.c:Int) ((L.getD k ar0).set.d:Int) 0 0 0 0
   have he2:((((L.getD k ar0).set.a:Int) == 0) && ((((L.getD k ar0).set.b:Int) == 0) && ((((L.getD k ar0).set.c:Int) == 0) && (((L.getD k ar0).set.d:Int) == 0)))) = !((L.getD k ar0).set != St.none):=by
    rw [Bool.eq_iff_iff]
    obtain ⟨s1,s2,s3,s4⟩:=(L.getD k ar0).set
    simp [St.none]
   rw [he2] at he
   unfold arcB at hbad hgood
   clear he2 hx ha
   have sf:=fun W => state_any (L.getD k ar0).fr N W
   have st:=fun W => state_any (L.getD k ar0).to N W
   generalize (L.getD k ar0).fr = fr at *
   generalize (L.getD k ar0).to = to at *
   generalize ((L.getD k ar0).set != St.none) = sb at *
   generalize (L.getD k ar0).set.a = s1 at *
   generalize (L.getD k ar0).set.b = s2 at *
   generalize (L.getD k ar0).set.c = s3 at *
   generalize (L.getD k ar0).set.d = s4 at *
   generalize (L.getD k ar0).out = q at *
   generalize (L.getD k ar0).cp = cp at *
   generalize stB' fr N = p1 at *
   generalize stB' to N = p2 at *
   have Hb:=Lib.hid hbad; clear hbad
   have Hg:=Lib.hid hgood; clear hgood
   have HKa:=HK.alloc (.cells #[.int .i64 fr,.int .i64 to,.int .u64 s1,.int .u64 s2,.int .u64 s3,.int .u64 s4,.string q,.bool cp] 61)
   have k0:=HKa.cell 0
   rcases p1 with _ | _
   ·obtain rfl:r = 1:=Hb.out rfl
    clear Hb Hg st he
    go_wp2_with (go_at_call 49; refine (sf _).mono ?_; rintro e w1 ⟨rfl,rfl⟩)
    go_ret
    exact ⟨rfl,HB.alloc (by omega) _⟩
   rcases p2 with _ | _
   ·obtain rfl:r = 1:=Hb.out rfl
    clear Hb Hg he
    go_wp2_with fail
    refine (sf _).mono ?_
    rintro e w1 ⟨rfl,rfl⟩
    go_wp2_with fail
    refine (st _).mono ?_
    rintro e w1 ⟨rfl,rfl⟩
    go_wp2
    go_ret
    exact ⟨rfl,HB.alloc (by omega) _⟩
   rcases sb with _ | _
   ·obtain rfl:r = 1:=Hb.out rfl
    clear Hb Hg
    go_wp2_with fail
    refine (sf _).mono ?_
    rintro e w1 ⟨rfl,rfl⟩
    go_wp2_with fail
    refine (st _).mono ?_
    rintro e w1 ⟨rfl,rfl⟩
    go_wp2
    go_ret
    exact ⟨rfl,HB.alloc (by omega) _⟩
   by_cases h1:(1024:Int) < (q.size:Int)
   ·obtain rfl:r = 1:=Hb.out (by simp; omega)
    clear Hb Hg
    go_wp2_with fail
    refine (sf _).mono ?_
    rintro e w1 ⟨rfl,rfl⟩
    go_wp2_with fail
    refine (st _).mono ?_
    rintro e w1 ⟨rfl,rfl⟩
    go_wp2
    go_ret
    exact ⟨rfl,HB.alloc (by omega) _⟩
   ·have E:=Lib.hid (Hg.out (by simp; omega))
    clear Hb Hg
    go_wp2_with fail
    refine (sf _).mono ?_
    rintro e w1 ⟨rfl,rfl⟩
    go_wp2_with fail
    refine (st _).mono ?_
    rintro e w1 ⟨rfl,rfl⟩
    go_wp2
    go_roundw
    case rel => exact ⟨k + 1,by omega,by go_num,HB.alloc (by omega) _,HKa,by simp; omega,E.out⟩
    case measure => simp [intOf]; omega
  ·have e:k = m:=by omega
   subst e
   obtain rfl:r = 0:=hA.out (by rw [← Hm.out,List.take_length] at ha; exact ha)
   clear ha
   go_wp2
   go_ret
   exact ⟨rfl,HB⟩
end Go.Proofs.YtcondkihpmmnnaaGreatDoor
namespace Go.Proofs.YtcondkihpmmnnaaGreatDoor
section
variable {p q r:SeqM} {a b t u:Fs} {f:Int→Int} {most:Nat}
 (hp:∀ s b,s < p.next.length→b < 256→p.nx s b < p.next.length) (hq:∀ s b,s < q.next.length→b < 256→q.nx s b < q.next.length)
 (ha:Backs p a) (hb:Backs q b) (ra:Right a) (rb:Right b) (hc:Chain a b t) (rt:Right t) (ht:Trims t u f)
include hp hq ha hb ra rb hc rt ht
end
end Go.Proofs.YtcondkihpmmnnaaGreatDoor
namespace Go.Proofs.YtcondkihpmmnnaaGreatDoor
def put1 (acc:Option (List Tp)) (q:Tp):Option (List Tp):=acc.bind fun l => if q∈l then some l else if 4096≤l.length then none else some (l ++ [q])
def puts (l:List Tp):Option (List Tp):=l.foldl put1 (some [])
theorem puts_nil:puts [] = some []:=rfl
theorem puts_snoc (l:List Tp) (q:Tp):puts (l ++ [q]) = put1 (puts l) q:=by unfold puts; rw [List.foldl_append]; rfl
theorem put_none (l:List Tp):l.foldl put1 none = none:=by
 induction l with
 | nil => rfl
 | cons q l ih => exact ih
theorem puts_none {l:List Tp} (h:puts l = none) (l':List Tp):puts (l ++ l') = none:=by
 unfold puts at *
 rw [List.foldl_append,h]
 exact put_none l'
theorem puts_mem:∀ (n:Nat) (l r:List Tp),l.length = n→puts l = some r→(∀ q,q∈r↔q∈l)∧r.Nodup∧r.length≤4096
 | 0,l,r,hn,h => by
  obtain rfl:=List.eq_nil_of_length_eq_zero hn
  rw [puts_nil] at h
  cases h
  exact ⟨fun _ => Iff.rfl,List.nodup_nil,Nat.zero_le _⟩
 | n + 1,l,r,hn,h => by
  rcases List.eq_nil_or_concat l with rfl | ⟨l',q,rfl⟩
  ·cases hn
  ·rw [List.concat_eq_append] at *
   rw [puts_snoc] at h
   rcases h1:puts l' with _ | r'
   ·rw [h1] at h; cases h
   ·obtain ⟨a1,a2,a3⟩:=puts_mem n l' r' (by simpa using hn) h1
    rw [h1] at h
    unfold put1 at h
    simp only [Option.bind_some] at h
    split at h
    ·cases h
     refine ⟨fun u => ?_,a2,a3⟩
     rw [List.mem_append,List.mem_singleton,a1]
     constructor
     ·exact .inl
     ·rintro (h | rfl)
      ·exact h
      ·rw [← a1]; assumption
    ·split at h
     ·cases h
     ·rename_i hq hl
      cases h
      refine ⟨fun u => by rw [List.mem_append,List.mem_append,a1],?_,by rw [List.length_append,List.length_singleton]; omega⟩
      rw [List.nodup_append]
      refine ⟨a2,by simp,?_⟩
      intro x hx y hy
      rw [List.mem_singleton] at hy
      subst hy
      intro e
      exact hq (e ▸ hx)
def nxT (p:Tp) (x:Ar) (b:UInt8):Tp:=⟨x.to,if x.cp = true then p.out ++ x.out ++ ⟨#[b]⟩ else p.out ++ x.out⟩
def outsA (b:UInt8) (p:Tp) (xs:List Ar):List Tp:=(xs.filter fun x => x.set.m b.toNat).map fun x => nxT p x b
def outsP (arcs:List Ar) (b:UInt8) (now:List Tp):List Tp:=now.flatMap fun p => outsA b p (arcs.filter fun x => decide (x.fr = p.st))
def waysF (arcs:List Ar) (s:Int) (w:List UInt8):Option (List Tp):=w.foldl (fun acc b => acc.bind fun now => puts (outsP arcs b now)) (some [⟨s,ByteArray.empty⟩])
theorem waysF_snoc (arcs:List Ar) (s:Int) (w:List UInt8) (b:UInt8):waysF arcs s (w ++ [b]) = (waysF arcs s w).bind fun now => puts (outsP arcs b now):=by
 unfold waysF; rw [List.foldl_append]; rfl
theorem bl_nxT (p:Tp) (x:Ar) (b:UInt8):bl (nxT p x b).out = bl p.out ++ x.put b:=by
 have e:(⟨#[b]⟩:ByteArray).data.toList = [b]:=rfl
 unfold nxT Ar.put
 by_cases h:x.cp = true
 ·simp only [h,if_true]
  rw [bl_app,bl_app,List.append_assoc]
 ·simp only [h]
  show bl (p.out ++ x.out) = _
  rw [bl_app]
  simp [bl]
theorem mem_outsP {arcs:List Ar} {b:UInt8} {now:List Tp} {q:Tp}:q∈outsP arcs b now↔∃ p∈now,∃ x∈arcs,x.fr = p.st∧x.set.m b.toNat = true∧nxT p x b = q:=by
 unfold outsP outsA
 simp only [List.mem_flatMap,List.mem_map,List.mem_filter,decide_eq_true_eq]
 constructor
 ·rintro ⟨p,hp,x,⟨⟨h1,h2⟩,h3⟩,h4⟩
  exact ⟨p,hp,x,h1,h2,h3,h4⟩
 ·rintro ⟨p,hp,x,h1,h2,h3,h4⟩
  exact ⟨p,hp,x,⟨⟨h1,h2⟩,h3⟩,h4⟩
theorem ways_mem (arcs:List Ar) (s:Int):∀ (n:Nat) (w:List UInt8) (l:List Tp),w.length = n→waysF arcs s w = some l→∀ q,q∈l↔Way arcs s w (bl q.out) q.st
 | 0,w,l,hn,h => by
  obtain rfl:=List.eq_nil_of_length_eq_zero hn
  cases h
  intro q
  rw [List.mem_singleton,Way.nil_iff]
  constructor
  ·rintro rfl; exact ⟨rfl,rfl⟩
  ·rintro ⟨h1,h2⟩
   obtain ⟨st,out⟩:=q
   have:=bl_inj (h1.trans bl_nil.symm)
   simp only at this h2
   rw [this,h2]
 | n + 1,w,l,hn,h => by
  rcases List.eq_nil_or_concat w with rfl | ⟨w',b,rfl⟩
  ·cases hn
  ·rw [List.concat_eq_append] at *
   rw [waysF_snoc] at h
   rcases h1:waysF arcs s w' with _ | now
   ·rw [h1] at h; cases h
   ·have ih:=ways_mem arcs s n w' now (by simpa using hn) h1
    rw [h1] at h
    have hm:=(puts_mem _ _ _ rfl (show puts (outsP arcs b now) = some l from h)).1
    intro q
    rw [hm,mem_outsP,Way.snoc_iff]
    constructor
    ·rintro ⟨p,hp,x,hx,h1,h2,rfl⟩
     exact ⟨p.st,bl p.out,(ih p).1 hp,x,hx,h1,h2,rfl,bl_nxT p x b⟩
    ·rintro ⟨y,o1,hw,x,hx,h1,h2,h3,h4⟩
     refine ⟨⟨y,⟨o1.toArray⟩⟩,(ih _).2 (by simpa [bl] using hw),x,hx,h1,h2,?_⟩
     obtain ⟨st,out⟩:=q
     simp only at h3 h4
     have e:bl (nxT ⟨y,⟨o1.toArray⟩⟩ x b).out = bl out:=by rw [bl_nxT,h4]
     have:=bl_inj e
     unfold nxT at this ⊢
     simp only at this ⊢
     rw [this,h3]
theorem nxT_size (p:Tp) (x:Ar) (b:UInt8):(nxT p x b).out.size≤p.out.size + x.out.size + 1:=by
 have h:=congrArg List.length (bl_nxT p x b)
 rw [bl_len,List.length_append,bl_len] at h
 rw [h]
 unfold Ar.put
 rw [List.length_append]
 have e:x.out.data.toList.length = x.out.size:=rfl
 split <;> simp [e] <;> omega
end Go.Proofs.YtcondkihpmmnnaaGreatDoor
namespace Go.Proofs.YtcondkihpmmnnaaGreatDoor
def outsJ (arcs:List Ar) (b:UInt8) (now:List Tp) (xs:List Ar) (j k:Nat):List Tp:=outsP arcs b (now.take j) ++ outsA b (now.getD j tp0) (xs.take k)
theorem outsJ_zero (arcs:List Ar) (b:UInt8) (now:List Tp) (xs:List Ar) (j:Nat):outsJ arcs b now xs j 0 = outsP arcs b (now.take j):=by
 unfold outsJ outsA; simp
theorem take_next {α:Type} (l:List α) (d:α) (k:Nat) (hk:k < l.length):l.take (k + 1) = l.take k ++ [l.getD k d]:=by
 rw [List.take_succ_eq_append_getElem hk,List.getD_eq_getElem?_getD,List.getElem?_eq_getElem hk]
 rfl
theorem outsA_next (b:UInt8) (p:Tp) (xs:List Ar) (k:Nat) (hk:k < xs.length) :
    outsA b p (xs.take (k + 1)) = outsA b p (xs.take k) ++ if (xs.getD k ar0).set.m b.toNat = true then [nxT p (xs.getD k ar0) b] else []:=by
 unfold outsA
 rw [take_next xs ar0 k hk,List.filter_append,List.map_append]
 by_cases h:(xs.getD k ar0).set.m b.toNat = true
 ·rw [if_pos h,List.filter_cons_of_pos (by simpa using h)]; rfl
 ·rw [if_neg h,List.filter_cons_of_neg (by simpa using h)]; simp
theorem outsJ_next (arcs:List Ar) (b:UInt8) (now:List Tp) (xs:List Ar) (j k:Nat) (hk:k < xs.length) :
    outsJ arcs b now xs j (k + 1) = outsJ arcs b now xs j k ++ if (xs.getD k ar0).set.m b.toNat = true then [nxT (now.getD j tp0) (xs.getD k ar0) b] else []:=by
 unfold outsJ
 rw [outsA_next b _ xs k hk,List.append_assoc]
theorem outsP_next (arcs:List Ar) (b:UInt8) (now:List Tp) (s j:Nat) (hj:j < now.length) (hs:(now.getD j tp0).st = (s:Int)) :
    outsP arcs b (now.take (j + 1)) = outsJ arcs b now (leavS arcs arcs.length s) j (leavS arcs arcs.length s).length:=by
 unfold outsJ
 rw [take_next now tp0 j hj,List.take_length]
 unfold outsP
 rw [List.flatMap_append]
 congr 1
 rw [List.flatMap_singleton,hs]
 unfold leavS
 rw [List.take_length]
theorem outsJ_pre (arcs:List Ar) (b:UInt8) (now:List Tp) (s j k:Nat) (hj:j < now.length) (hs:(now.getD j tp0).st = (s:Int)):∃ r,outsP arcs b now = outsJ arcs b now (leavS arcs arcs.length s) j k ++ r:=by
 have e1:outsP arcs b now = outsP arcs b (now.take (j + 1)) ++ outsP arcs b (now.drop (j + 1)):=by
  unfold outsP
  rw [← List.flatMap_append,List.take_append_drop]
 have e2:outsJ arcs b now (leavS arcs arcs.length s) j (leavS arcs arcs.length s).length = outsJ arcs b now (leavS arcs arcs.length s) j k ++ outsA b (now.getD j tp0) ((leavS arcs arcs.length s).drop k):=by
  unfold outsJ
  rw [List.take_length,List.append_assoc]
  congr 1
  unfold outsA
  rw [← List.map_append,← List.filter_append,List.take_append_drop]
 rw [e1,outsP_next arcs b now s j hj hs,e2,List.append_assoc]
 exact ⟨_,rfl⟩
theorem waysF_app_none (arcs:List Ar) (s:Int):∀ (w' w:List UInt8),waysF arcs s w = none→waysF arcs s (w ++ w') = none
 | [],w,h => by rw [List.append_nil]; exact h
 | b :: w',w,h => by
  rw [show w ++ b :: w' = (w ++ [b]) ++ w' by simp]
  refine waysF_app_none arcs s w' _ ?_
  rw [waysF_snoc,h]; rfl
theorem ways_fail {arcs:List Ar} {s:Int} {w:List UInt8} {k:Nat} {now l r:List Tp} {b:UInt8} (h:waysF arcs s (w.take k) = some now) (hk:w[k]? = some b) (hn:puts l = none) (e:outsP arcs b now = l ++ r):waysF arcs s w = none:=by
 have hlt:k < w.length:=by
  rcases Nat.lt_or_ge k w.length with h | h
  ·exact h
  ·rw [List.getElem?_eq_none h] at hk; cases hk
 have hb:w[k] = b:=by rw [List.getElem?_eq_getElem hlt] at hk; exact Option.some.inj hk
 rw [← List.take_append_drop (k + 1) w]
 refine waysF_app_none arcs s _ _ ?_
 rw [List.take_succ_eq_append_getElem hlt,waysF_snoc,h,hb]
 show puts (outsP arcs b now) = none
 rw [e]
 exact puts_none hn r
theorem ways_round {arcs:List Ar} {s:Int} {w:List UInt8} {k:Nat} {now next:List Tp} {b:UInt8} (h:waysF arcs s (w.take k) = some now) (hk:w[k]? = some b) (hn:puts (outsP arcs b now) = some next):waysF arcs s (w.take (k + 1)) = some next:=by
 have hlt:k < w.length:=by
  rcases Nat.lt_or_ge k w.length with h | h
  ·exact h
  ·rw [List.getElem?_eq_none h] at hk; cases hk
 have hb:w[k] = b:=by rw [List.getElem?_eq_getElem hlt] at hk; exact Option.some.inj hk
 rw [List.take_succ_eq_append_getElem hlt,waysF_snoc,h,hb]
 exact hn
theorem puts_step {l next:List Tp} (h:puts l = some next) (q:Tp) :
    (q∈next→puts (l ++ [q]) = some next)∧(q ∉ next→4096≤next.length→puts (l ++ [q]) = none)∧(q ∉ next→next.length < 4096→puts (l ++ [q]) = some (next ++ [q])):=by
 rw [puts_snoc,h]
 unfold put1
 simp only [Option.bind_some]
 refine ⟨fun h => by rw [if_pos h],fun h h2 => by rw [if_neg h,if_pos h2],fun h h2 => by rw [if_neg h,if_neg (by omega)]⟩
end Go.Proofs.YtcondkihpmmnnaaGreatDoor
