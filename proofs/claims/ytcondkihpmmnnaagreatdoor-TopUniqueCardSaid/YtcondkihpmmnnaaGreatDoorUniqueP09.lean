/- Lemmas, part 9 of 39. No condition. -/
import Derived.Test.YtcondkihpmmnnaaGreatDoorUniqueP07
import Derived.Test.YtcondkihpmmnnaaGreatDoorUniqueP04
import Derived.Test.YtcondkihpmmnnaaGreatDoorUniqueP05
import Derived.Shelf.SlSortCmp.QuietGrown
import Derived.Shelf.SlSortCmp.NoneTotal
import Derived.Test.YtcondkihpmmnnaaGreatDoorUniqueP03
import Derived.Lib.OwnBridge
import Derived.Laws.IdiomCopy
import Derived.Lib.SlBuf
import Derived.Test.YtcondkihpmmnnaaGreatDoorUniqueP06
namespace Go.Proofs.YtcondkihpmmnnaaGreatDoor
open Go.RowKit Go.Sort
theorem cmpT_or (x y:Tp):orL [Lib.compareInt x.st y.st,cmpS x.out y.out] = cmpT x y:=by
 unfold cmpT Lib.compareInt cmpS orL
 by_cases h1:x.st < y.st
 ·simp [h1]
 ·by_cases h2:y.st < x.st
  ·simp [h1,h2]
  ·simp only [h1,h2,if_false]
   unfold orL orL
   simp only [ne_eq,not_true,if_false]
   split <;> simp_all
def Grew (w w':World):Prop:=∃ q os,w' = grow (w.drewN q) os
theorem Grew.below {w w':World} (h:Grew w w'):Below w.heap.size w w':=by
 obtain ⟨q,os,rfl⟩:=h
 have:grow (w.drewN q) os = grow (redrawn w (w.drawn + q)) os:=rfl
 rw [this]
 exact below_regrown _ _ _
theorem or2_any (x y:Int) (V:World):Calls Tryz.prog 82 #[.slice (some ⟨V.heap.size,0,none⟩) 2 2] (V.alloc (.cells #[.int .i64 x,.int .i64 y] 3))
    (fun e w' => e = .returned (.int .i64 (orL [x,y]))∧V.alloc (.cells #[.int .i64 x,.int .i64 y] 3) = w') :=
 or_any _ 2 2 _ [x,y] _ (reads_alloc V [.int .i64 x,.int .i64 y] 3 (by simp)) (by decide)
theorem same_grown {f:FuncId} {args:Array Value} {W:World} {v:Value} (h:Calls Tryz.prog f args W fun e w' => e = .returned v∧W = w') :
    Calls Tryz.prog f args W fun e w' => e = .returned v∧∃ q os',w' = grow (W.drewN q) os' :=
 h.mono fun _ _ ⟨he,hw⟩ => ⟨he,0,#[],by rw [← hw,grow_empty]; rfl⟩
set_option maxRecDepth 100000 in
set_option maxHeartbeats 2000000 in
theorem compCompare_any (x y:Tp) (w:World):Calls Tryz.prog 118 #[.agg (encT x).toArray,.agg (encT y).toArray] w (fun e w' => e = .returned (.int .i64 (cmpT x y))∧Grew w w'):=by
 obtain ⟨a,s⟩:=x
 obtain ⟨b,t⟩:=y
 have hr:=cmpT_or ⟨a,s⟩ ⟨b,t⟩
 generalize cmpT ⟨a,s⟩ ⟨b,t⟩ = r at *
 have HR:=Lib.hid hr
 clear hr
 show Calls Tryz.prog 118 #[.agg #[.int .i64 a,.string s],.agg #[.int .i64 b,.string t]] w _
 go_enter Tryz.func118,Tryz.ntmps118
 go_wp2
 have k0:((w.alloc (.cells #[.int .i64 a,.string s] 54)).alloc (.cells #[.int .i64 b,.string t] 54)).cell? ⟨w.heap.size,0,none⟩ = some (.int .i64 a):=((Blk.new w _ _).alloc _).cell 0
 have k1:((w.alloc (.cells #[.int .i64 a,.string s] 54)).alloc (.cells #[.int .i64 b,.string t] 54)).cell? ⟨w.heap.size,1,none⟩ = some (.string s):=((Blk.new w _ _).alloc _).cell 1
 have k2:((w.alloc (.cells #[.int .i64 a,.string s] 54)).alloc (.cells #[.int .i64 b,.string t] 54)).cell? ⟨w.heap.size + 1,0,none⟩ = some (.int .i64 b):=by
  have:=(Blk.new (w.alloc (.cells #[.int .i64 a,.string s] 54)) 54 #[.int .i64 b,.string t]).cell 0
  rwa [World.size_alloc] at this
 have k3:((w.alloc (.cells #[.int .i64 a,.string s] 54)).alloc (.cells #[.int .i64 b,.string t] 54)).cell? ⟨w.heap.size + 1,1,none⟩ = some (.string t):=by
  have:=(Blk.new (w.alloc (.cells #[.int .i64 a,.string s] 54)) 54 #[.int .i64 b,.string t]).cell 1
  rwa [World.size_alloc] at this
 have hW:Grew w ((w.alloc (.cells #[.int .i64 a,.string s] 54)).alloc (.cells #[.int .i64 b,.string t] 54)):=⟨0,_,by rw [alloc_eq_grow,alloc_eq_grow,grow_grow]; rfl⟩
 have hz:w.heap.size + 1 < ((w.alloc (.cells #[.int .i64 a,.string s] 54)).alloc (.cells #[.int .i64 b,.string t] 54)).heap.size:=by simp
 generalize ((w.alloc (.cells #[.int .i64 a,.string s] 54)).alloc (.cells #[.int .i64 b,.string t] 54)) = W at *
 have g0:=fun n os => cell_grown (w:=W) (by simp; omega) k0 n os
 have g1:=fun n os => cell_grown (w:=W) (by simp; omega) k1 n os
 have g2:=fun n os => cell_grown (w:=W) (by simp; omega) k2 n os
 have g3:=fun n os => cell_grown (w:=W) (by simp; omega) k3 n os
 clear k0 k1 k2 k3
 refine wp_region_quiet_tail (C:=fun w' => ∃ p:GrownBy,w' = grow (W.drewN p.n) p.os) 10 (by kernel_rfl) (by kernel_rfl) ⟨⟨1,#[]⟩,by rw [grow_empty]; rfl⟩ ?_
 simp only [List.take_succ_cons,List.take_zero,List.drop_succ_cons,List.drop_zero]
 repeat (go_big_quiet_step ((first
  | (go_at_call 83; exact Calls.grown_of (same_grown (cmpInt_any _ _ _)))
  | (go_at_call 120; exact Calls.grown_of (same_grown (cmpText_any _ _ _))))))
 refine wpQuiet_nil ?_
 rintro w5 ⟨⟨nq,osq⟩,rfl⟩
 have hW5:Grew w (grow (W.drewN nq) osq):=by
  obtain ⟨q0,os0,rfl⟩:=hW
  exact ⟨q0 + nq,os0 ++ osq,by rw [← grow_grow,← World.drewN_drewN]; rfl⟩
 clear g0 g1 g2 g3 hW hz
 generalize grow (W.drewN nq) osq = V at *
 go_wp2_with (go_at_call 82; refine (or2_any _ _ V).mono ?_; rintro e w' ⟨rfl,rfl⟩)
 go_ret
 refine ⟨by rw [HR.out]; rfl,?_⟩
 obtain ⟨q0,os0,rfl⟩:=hW5
 exact ⟨q0,os0 ++ #[_],by rw [alloc_eq_grow,grow_grow]⟩
set_option maxRecDepth 100000 in
set_option maxHeartbeats 2000000 in
theorem seqCompare_any (x y:Tp) (w:World):Calls Tryz.prog 93 #[.agg (encT x).toArray,.agg (encT y).toArray] w (fun e w' => e = .returned (.int .i64 (cmpT x y))∧Grew w w'):=by
 obtain ⟨a,s⟩:=x
 obtain ⟨b,t⟩:=y
 have hr:=cmpT_or ⟨a,s⟩ ⟨b,t⟩
 generalize cmpT ⟨a,s⟩ ⟨b,t⟩ = r at *
 have HR:=Lib.hid hr
 clear hr
 show Calls Tryz.prog 93 #[.agg #[.int .i64 a,.string s],.agg #[.int .i64 b,.string t]] w _
 go_enter Tryz.func93,Tryz.ntmps93
 go_wp2
 have k0:((w.alloc (.cells #[.int .i64 a,.string s] 54)).alloc (.cells #[.int .i64 b,.string t] 54)).cell? ⟨w.heap.size,0,none⟩ = some (.int .i64 a):=((Blk.new w _ _).alloc _).cell 0
 have k1:((w.alloc (.cells #[.int .i64 a,.string s] 54)).alloc (.cells #[.int .i64 b,.string t] 54)).cell? ⟨w.heap.size,1,none⟩ = some (.string s):=((Blk.new w _ _).alloc _).cell 1
 have k2:((w.alloc (.cells #[.int .i64 a,.string s] 54)).alloc (.cells #[.int .i64 b,.string t] 54)).cell? ⟨w.heap.size + 1,0,none⟩ = some (.int .i64 b):=by
  have:=(Blk.new (w.alloc (.cells #[.int .i64 a,.string s] 54)) 54 #[.int .i64 b,.string t]).cell 0
  rwa [World.size_alloc] at this
 have k3:((w.alloc (.cells #[.int .i64 a,.string s] 54)).alloc (.cells #[.int .i64 b,.string t] 54)).cell? ⟨w.heap.size + 1,1,none⟩ = some (.string t):=by
  have:=(Blk.new (w.alloc (.cells #[.int .i64 a,.string s] 54)) 54 #[.int .i64 b,.string t]).cell 1
  rwa [World.size_alloc] at this
 have hW:Grew w ((w.alloc (.cells #[.int .i64 a,.string s] 54)).alloc (.cells #[.int .i64 b,.string t] 54)):=⟨0,_,by rw [alloc_eq_grow,alloc_eq_grow,grow_grow]; rfl⟩
 have hz:w.heap.size + 1 < ((w.alloc (.cells #[.int .i64 a,.string s] 54)).alloc (.cells #[.int .i64 b,.string t] 54)).heap.size:=by simp
 generalize ((w.alloc (.cells #[.int .i64 a,.string s] 54)).alloc (.cells #[.int .i64 b,.string t] 54)) = W at *
 have g0:=fun n os => cell_grown (w:=W) (by simp; omega) k0 n os
 have g1:=fun n os => cell_grown (w:=W) (by simp; omega) k1 n os
 have g2:=fun n os => cell_grown (w:=W) (by simp; omega) k2 n os
 have g3:=fun n os => cell_grown (w:=W) (by simp; omega) k3 n os
 clear k0 k1 k2 k3
 refine wp_region_quiet_tail (C:=fun w' => ∃ p:GrownBy,w' = grow (W.drewN p.n) p.os) 10 (by kernel_rfl) (by kernel_rfl) ⟨⟨1,#[]⟩,by rw [grow_empty]; rfl⟩ ?_
 simp only [List.take_succ_cons,List.take_zero,List.drop_succ_cons,List.drop_zero]
 repeat (go_big_quiet_step ((first
  | (go_at_call 83; exact Calls.grown_of (same_grown (cmpInt_any _ _ _)))
  | (go_at_call 120; exact Calls.grown_of (same_grown (cmpText_any _ _ _))))))
 refine wpQuiet_nil ?_
 rintro w5 ⟨⟨nq,osq⟩,rfl⟩
 have hW5:Grew w (grow (W.drewN nq) osq):=by
  obtain ⟨q0,os0,rfl⟩:=hW
  exact ⟨q0 + nq,os0 ++ osq,by rw [← grow_grow,← World.drewN_drewN]; rfl⟩
 clear g0 g1 g2 g3 hW hz
 generalize grow (W.drewN nq) osq = V at *
 go_wp2_with (go_at_call 82; refine (or2_any _ _ V).mono ?_; rintro e w' ⟨rfl,rfl⟩)
 go_ret
 refine ⟨by rw [HR.out]; rfl,?_⟩
 obtain ⟨q0,os0,rfl⟩:=hW5
 exact ⟨q0,os0 ++ #[_],by rw [alloc_eq_grow,grow_grow]⟩
end Go.Proofs.YtcondkihpmmnnaaGreatDoor
namespace Go.Proofs.YtcondkihpmmnnaaGreatDoor
open Go.Lib Go.Sort
structure Ord3 {α:Type} (f:α→α→Int):Prop where
 sym:∀ x y,f y x = - f x y
 le:∀ x y z,f x y≤0→f y z≤0→f x z≤0
theorem Ord3.refl {α:Type} {f:α→α→Int} (h:Ord3 f) (x:α):f x x = 0:=by have:=h.sym x x; omega
theorem Ord3.then {α:Type} {f g:α→α→Int} (hf:Ord3 f) (hg:Ord3 g):Ord3 fun x y => if f x y≠0 then f x y else g x y:=by
 refine ⟨fun x y => ?_,fun x y z h1 h2 => ?_⟩
 ·have e1:=hf.sym x y
  have e2:=hg.sym x y
  split <;> split <;> omega
 ·have a1:=hf.le x y z
  have a2:=hf.le z x y
  have a3:=hf.le y z x
  have s1:=hf.sym x y
  have s2:=hf.sym y z
  have s3:=hf.sym x z
  have b1:=hg.le x y z
  revert h1 h2
  split <;> split <;> split <;> omega
theorem Ord3.on {α β:Type} {f:β→β→Int} (h:Ord3 f) (p:α→β):Ord3 fun x y => f (p x) (p y) :=
 ⟨fun _x _y => h.sym _ _,fun _x _y _z => h.le _ _ _⟩
theorem ord3_int:Ord3 Lib.compareInt:=by
 refine ⟨fun x y => ?_,fun x y z h1 h2 => ?_⟩
 ·unfold Lib.compareInt
  rcases Int.lt_trichotomy x y with h | h | h
  ·rw [if_neg (by omega),if_pos (by omega),if_pos h]; rfl
  ·subst h; simp
  ·rw [if_pos (by omega),if_neg (by omega),if_pos (by omega)]
 ·unfold Lib.compareInt at *
  split at h1 <;> split at h2 <;> (try split at h1) <;> (try split at h2) <;> split <;> (try split) <;> omega
theorem cmpB_sym:∀ a b:List UInt8,compareBytes b a = - compareBytes a b:=by
 intro a b
 rcases cmpB_cases a b with ⟨h1,h2,h3,h4⟩ | ⟨h1,h2,h3,h4⟩ | ⟨h1,h2,h3,h4⟩ <;> rcases cmpB_cases b a with ⟨k1,k2,k3,k4⟩ | ⟨k1,k2,k3,k4⟩ | ⟨k1,k2,k3,k4⟩ <;> simp_all
theorem cmpB_le_iff (a b:List UInt8):compareBytes a b≤0↔Op.bytesLess b a = false:=by
 rcases cmpB_cases a b with ⟨h1,h2,h3,h4⟩ | ⟨h1,h2,h3,h4⟩ | ⟨h1,h2,h3,h4⟩ <;> simp_all
theorem cmpB_zero (a b:List UInt8) (h:compareBytes a b = 0):a = b:=by
 rcases cmpB_cases a b with ⟨h1,h2,h3,h4⟩ | ⟨h1,h2,h3,h4⟩ | ⟨h1,h2,h3,h4⟩ <;> simp_all
theorem ord3_bytes:Ord3 compareBytes:=by
 refine ⟨cmpB_sym,fun x y z h1 h2 => ?_⟩
 rw [cmpB_le_iff,bytesLess_eq,decide_eq_false_iff_not] at *
 rw [List.not_lt] at *
 exact List.le_trans h1 h2
theorem ord3_text:Ord3 cmpS:=ord3_bytes.on fun s:ByteArray => s.data.toList
theorem cmpS_zero (a b:ByteArray) (h:cmpS a b = 0):a = b:=ByteArray.ext (Array.toList_inj.1 (cmpB_zero _ _ h))
theorem cmpInt_zero (a b:Int) (h:Lib.compareInt a b = 0):a = b:=by
 unfold Lib.compareInt at h
 split at h
 ·omega
 ·split at h <;> omega
theorem swo_of {α:Type} {f:α→α→Int} (h:Ord3 f):SWO (ltOf f) where
 irrefl x:=by unfold ltOf; rw [h.refl]; rfl
 trans x y z h1 h2:=by
  unfold ltOf at *
  rw [decide_eq_true_eq] at *
  have:=h.le x y z (by omega) (by omega)
  have s:=h.sym x z
  have s2:=h.sym x y
  have:=h.le y z x (by omega)
  omega
 ntrans x y z h1 h2:=by
  unfold ltOf at *
  rw [decide_eq_false_iff_not] at *
  have s1:=h.sym x y
  have s2:=h.sym y z
  have s3:=h.sym x z
  have:=h.le z y x (by omega) (by omega)
  omega
theorem total_of {α:Type} {f:α→α→Int} (h:Ord3 f) (hz:∀ x y,f x y = 0→x = y) (x y:α) (h1:ltOf f x y = false) (h2:ltOf f y x = false):x = y:=by
 unfold ltOf at *
 rw [decide_eq_false_iff_not] at *
 have s1:=h.sym x y
 exact hz x y (by omega)
theorem cmpT_eq:cmpT = fun x y => if Lib.compareInt x.st y.st≠0 then Lib.compareInt x.st y.st else cmpS x.out y.out:=by
 funext x y
 rw [← cmpT_or]
 unfold orL orL orL
 split
 ·rfl
 ·split <;> simp_all
theorem ord3_tip:Ord3 cmpT:=by
 rw [cmpT_eq]
 exact (ord3_int.on Tp.st).then (ord3_text.on Tp.out)
theorem cmpT_zero (x y:Tp) (h:cmpT x y = 0):x = y:=by
 rw [cmpT_eq] at h
 simp only at h
 split at h
 ·omega
 ·rename_i h0
  have e1:=cmpInt_zero _ _ (Decidable.not_not.1 h0)
  have e2:=cmpS_zero _ _ h
  cases x; cases y; simp_all
def cmpA (x y:Ar):Int :=
 orL [Lib.compareInt x.fr y.fr,Lib.compareInt x.to y.to,cmpL [(x.set.a:Int),x.set.b,x.set.c,x.set.d] [(y.set.a:Int),y.set.b,y.set.c,y.set.d],cmpS x.out y.out,Lib.compareInt (numB x.cp) (numB y.cp)]
theorem orL_cons (x:Int) (l:List Int):orL (x :: l) = if x≠0 then x else orL l:=rfl
theorem orL_one (x:Int):orL [x] = x:=by unfold orL orL; split <;> simp_all
theorem orL4 (a b c d:Int):orL [a,b,c,d] = if a≠0 then a else if b≠0 then b else if c≠0 then c else d:=by rw [orL_cons,orL_cons,orL_cons,orL_one]
theorem orL5 (a b c d e:Int):orL [a,b,c,d,e] = if a≠0 then a else if b≠0 then b else if c≠0 then c else if d≠0 then d else e:=by rw [orL_cons,orL_cons,orL_cons,orL_cons,orL_one]
theorem cmpA_eq:cmpA = fun x y => if Lib.compareInt x.fr y.fr≠0 then Lib.compareInt x.fr y.fr else if Lib.compareInt x.to y.to≠0 then Lib.compareInt x.to y.to else
    if (if Lib.compareInt x.set.a y.set.a≠0 then Lib.compareInt x.set.a y.set.a else if Lib.compareInt x.set.b y.set.b≠0 then Lib.compareInt x.set.b y.set.b else if Lib.compareInt x.set.c y.set.c≠0 then Lib.compareInt x.set.c y.set.c else Lib.compareInt x.set.d y.set.d)≠0 then
     (if Lib.compareInt x.set.a y.set.a≠0 then Lib.compareInt x.set.a y.set.a else if Lib.compareInt x.set.b y.set.b≠0 then Lib.compareInt x.set.b y.set.b else if Lib.compareInt x.set.c y.set.c≠0 then Lib.compareInt x.set.c y.set.c else Lib.compareInt x.set.d y.set.d)
    else if cmpS x.out y.out≠0 then cmpS x.out y.out else Lib.compareInt (numB x.cp) (numB y.cp):=by
 funext x y
 unfold cmpA cmpL
 simp only [List.zipWith_cons_cons,List.zipWith_nil_left]
 rw [orL5,orL4]
theorem ord3_arc:Ord3 cmpA:=by
 rw [cmpA_eq]
 exact (ord3_int.on Ar.fr).then ((ord3_int.on Ar.to).then (((ord3_int.on fun x:Ar => (x.set.a:Int)).then ((ord3_int.on fun x:Ar => (x.set.b:Int)).then ((ord3_int.on fun x:Ar => (x.set.c:Int)).then (ord3_int.on fun x:Ar => (x.set.d:Int))))).then ((ord3_text.on Ar.out).then (ord3_int.on fun x:Ar => numB x.cp))))
theorem cmpA_zero (x y:Ar) (h:cmpA x y = 0):x = y:=by
 rw [cmpA_eq] at h
 simp only at h
 have e1:Lib.compareInt x.fr y.fr = 0:=by split at h <;> omega
 rw [if_neg (by omega)] at h
 have e2:Lib.compareInt x.to y.to = 0:=by split at h <;> omega
 rw [if_neg (by omega)] at h
 have e3:(if Lib.compareInt (x.set.a:Int) y.set.a≠0 then Lib.compareInt (x.set.a:Int) y.set.a else if Lib.compareInt (x.set.b:Int) y.set.b≠0 then Lib.compareInt (x.set.b:Int) y.set.b else if Lib.compareInt (x.set.c:Int) y.set.c≠0 then Lib.compareInt (x.set.c:Int) y.set.c else Lib.compareInt (x.set.d:Int) y.set.d) = 0:=Decidable.byContradiction fun h0 => by rw [if_pos h0] at h; exact h0 h
 rw [if_neg (by rw [e3]; simp)] at h
 have e4:Lib.compareInt (x.set.a:Int) y.set.a = 0:=by split at e3 <;> omega
 rw [if_neg (by omega)] at e3
 have e5:Lib.compareInt (x.set.b:Int) y.set.b = 0:=by split at e3 <;> omega
 rw [if_neg (by omega)] at e3
 have e6:Lib.compareInt (x.set.c:Int) y.set.c = 0:=by split at e3 <;> omega
 rw [if_neg (by omega)] at e3
 have e7:cmpS x.out y.out = 0:=by split at h <;> omega
 rw [if_neg (by omega)] at h
 have f1:=cmpInt_zero _ _ e1
 have f2:=cmpInt_zero _ _ e2
 have f3:=cmpInt_zero _ _ e4
 have f4:=cmpInt_zero _ _ e5
 have f5:=cmpInt_zero _ _ e6
 have f6:=cmpInt_zero _ _ e3
 have f7:=cmpS_zero _ _ e7
 have f8:=cmpInt_zero _ _ h
 obtain ⟨a,b,⟨s0,s1,s2,s3⟩,o,c⟩:=x
 obtain ⟨a',b',⟨s0',s1',s2',s3'⟩,o',c'⟩:=y
 simp only at f1 f2 f3 f4 f5 f6 f7 f8
 have:c = c':=by cases c <;> cases c' <;> simp_all [numB]
 simp only [Ar.mk.injEq,St.mk.injEq]
 exact ⟨f1,f2,⟨by omega,by omega,by omega,by omega⟩,f7,this⟩
def sortA (l:List Ar):List Ar:=l.mergeSort fun x y => !decide (cmpA y x < 0)
def ordA (l:List Ar):List Ar:=once1 (sortA l)
theorem ordA_mem (z:Ar) (l:List Ar):z∈ordA l↔z∈l:=by unfold ordA; rw [once1_mem]; unfold sortA; exact List.mem_mergeSort
end Go.Proofs.YtcondkihpmmnnaaGreatDoor
namespace Go.Proofs.YtcondkihpmmnnaaGreatDoor
open Go.RowKit Go.Sort
theorem strCmp_any (x y:ByteArray) (w:World):Calls Tryz.prog 84 #[.string x,.string y] w (fun e w' => e = .returned (.int .i64 (cmpS x y))∧w = w') :=
 (Tryz.strings_Compare x y w).mono fun _ _ ⟨he,hw⟩ => ⟨he,hw.symm⟩
set_option maxRecDepth 100000 in
set_option maxHeartbeats 2000000 in
theorem fstCompareT_any (x y:Tp) (w:World):Calls Tryz.prog 51 #[.agg (encT x).toArray,.agg (encT y).toArray] w (fun e w' => e = .returned (.int .i64 (cmpT x y))∧Grew w w'):=by
 obtain ⟨a,s⟩:=x
 obtain ⟨b,t⟩:=y
 have hr:=cmpT_or ⟨a,s⟩ ⟨b,t⟩
 generalize cmpT ⟨a,s⟩ ⟨b,t⟩ = r at *
 have HR:=Lib.hid hr
 clear hr
 show Calls Tryz.prog 51 #[.agg #[.int .i64 a,.string s],.agg #[.int .i64 b,.string t]] w _
 go_enter Tryz.func51,Tryz.ntmps51
 go_wp2
 have k0:((w.alloc (.cells #[.int .i64 a,.string s] 54)).alloc (.cells #[.int .i64 b,.string t] 54)).cell? ⟨w.heap.size,0,none⟩ = some (.int .i64 a):=((Blk.new w _ _).alloc _).cell 0
 have k1:((w.alloc (.cells #[.int .i64 a,.string s] 54)).alloc (.cells #[.int .i64 b,.string t] 54)).cell? ⟨w.heap.size,1,none⟩ = some (.string s):=((Blk.new w _ _).alloc _).cell 1
 have k2:((w.alloc (.cells #[.int .i64 a,.string s] 54)).alloc (.cells #[.int .i64 b,.string t] 54)).cell? ⟨w.heap.size + 1,0,none⟩ = some (.int .i64 b):=by
  have:=(Blk.new (w.alloc (.cells #[.int .i64 a,.string s] 54)) 54 #[.int .i64 b,.string t]).cell 0
  rwa [World.size_alloc] at this
 have k3:((w.alloc (.cells #[.int .i64 a,.string s] 54)).alloc (.cells #[.int .i64 b,.string t] 54)).cell? ⟨w.heap.size + 1,1,none⟩ = some (.string t):=by
  have:=(Blk.new (w.alloc (.cells #[.int .i64 a,.string s] 54)) 54 #[.int .i64 b,.string t]).cell 1
  rwa [World.size_alloc] at this
 have hW:Grew w ((w.alloc (.cells #[.int .i64 a,.string s] 54)).alloc (.cells #[.int .i64 b,.string t] 54)):=⟨0,_,by rw [alloc_eq_grow,alloc_eq_grow,grow_grow]; rfl⟩
 have hz:w.heap.size + 1 < ((w.alloc (.cells #[.int .i64 a,.string s] 54)).alloc (.cells #[.int .i64 b,.string t] 54)).heap.size:=by simp
 generalize ((w.alloc (.cells #[.int .i64 a,.string s] 54)).alloc (.cells #[.int .i64 b,.string t] 54)) = W at *
 have g0:=fun n os => cell_grown (w:=W) (by simp; omega) k0 n os
 have g1:=fun n os => cell_grown (w:=W) (by simp; omega) k1 n os
 have g2:=fun n os => cell_grown (w:=W) (by simp; omega) k2 n os
 have g3:=fun n os => cell_grown (w:=W) (by simp; omega) k3 n os
 clear k0 k1 k2 k3
 refine wp_region_quiet_tail (C:=fun w' => ∃ p:GrownBy,w' = grow (W.drewN p.n) p.os) 10 (by kernel_rfl) (by kernel_rfl) ⟨⟨1,#[]⟩,by rw [grow_empty]; rfl⟩ ?_
 simp only [List.take_succ_cons,List.take_zero,List.drop_succ_cons,List.drop_zero]
 repeat (go_big_quiet_step ((first
  | (go_at_call 83; exact Calls.grown_of (same_grown (cmpInt_any _ _ _)))
  | (go_at_call 84; exact Calls.grown_of (same_grown (strCmp_any _ _ _))))))
 refine wpQuiet_nil ?_
 rintro w5 ⟨⟨nq,osq⟩,rfl⟩
 have hW5:Grew w (grow (W.drewN nq) osq):=by
  obtain ⟨q0,os0,rfl⟩:=hW
  exact ⟨q0 + nq,os0 ++ osq,by rw [← grow_grow,← World.drewN_drewN]; rfl⟩
 clear g0 g1 g2 g3 hW hz
 generalize grow (W.drewN nq) osq = V at *
 go_wp2_with (go_at_call 82; refine (or2_any _ _ V).mono ?_; rintro e w' ⟨rfl,rfl⟩)
 go_ret
 refine ⟨by rw [HR.out]; rfl,?_⟩
 obtain ⟨q0,os0,rfl⟩:=hW5
 exact ⟨q0,os0 ++ #[_],by rw [alloc_eq_grow,grow_grow]⟩
theorem or5_any (a b c d e:Int) (V:World):Calls Tryz.prog 82 #[.slice (some ⟨V.heap.size,0,none⟩) 5 5] (V.alloc (.cells #[.int .i64 a,.int .i64 b,.int .i64 c,.int .i64 d,.int .i64 e] 3))
    (fun e' w' => e' = .returned (.int .i64 (orL [a,b,c,d,e]))∧V.alloc (.cells #[.int .i64 a,.int .i64 b,.int .i64 c,.int .i64 d,.int .i64 e] 3) = w') :=
 or_any _ 5 5 _ [a,b,c,d,e] _ (reads_alloc V [.int .i64 a,.int .i64 b,.int .i64 c,.int .i64 d,.int .i64 e] 3 (by simp)) (by decide)
theorem reads_mid {w:World} {g:Nat} {T:TypeId} {cs:Array Value} (h:Blk w g T cs) (o:Nat) (xs:List Value) (hx:∀ j u,xs[j]? = some u→cs[o + j]? = some u) :
    Reads w (g + 1) 1 (some ⟨g,o,none⟩) xs.length xs:=by
 refine ⟨by simp,fun _ => ⟨_,rfl,by simp,fun j u hu => ?_⟩⟩
 rw [add_mk,h.cell]
 exact hx j u hu
theorem Blk.grown_ {w:World} {g:Nat} {T:TypeId} {cs:Array Value} (h:Blk w g T cs) (n:Nat) (os:Array Obj):Blk (grow (w.drewN n) os) g T cs:=by
 have:grow (w.drewN n) os = grow (redrawn w (w.drawn + n)) os:=rfl
 rw [this]
 exact h.below (below_regrown w _ os) h.lt
set_option maxRecDepth 100000 in
set_option maxHeartbeats 4000000 in
theorem fstCompareA_any (x y:Ar) (w:World):Calls Tryz.prog 53 #[.agg (encA x).toArray,.agg (encA y).toArray] w (fun e w' => e = .returned (.int .i64 (cmpA x y))∧Grew w w'):=by
 obtain ⟨a,b,⟨u0,u1,u2,u3⟩,s,c⟩:=x
 obtain ⟨a',b',⟨v0,v1,v2,v3⟩,s',c'⟩:=y
 have hr:orL [Lib.compareInt a a',Lib.compareInt b b',cmpL [(u0:Int),u1,u2,u3] [(v0:Int),v1,v2,v3],cmpS s s',Lib.compareInt (numB c) (numB c')] = cmpA ⟨a,b,⟨u0,u1,u2,u3⟩,s,c⟩ ⟨a',b',⟨v0,v1,v2,v3⟩,s',c'⟩:=rfl
 generalize cmpA ⟨a,b,⟨u0,u1,u2,u3⟩,s,c⟩ ⟨a',b',⟨v0,v1,v2,v3⟩,s',c'⟩ = r at *
 have HR:=Lib.hid hr
 clear hr
 show Calls Tryz.prog 53 #[.agg #[.int .i64 a,.int .i64 b,.int .u64 (u0:Int),.int .u64 (u1:Int),.int .u64 (u2:Int),.int .u64 (u3:Int),.string s,.bool c],.agg #[.int .i64 a',.int .i64 b',.int .u64 (v0:Int),.int .u64 (v1:Int),.int .u64 (v2:Int),.int .u64 (v3:Int),.string s',.bool c']] w _
 generalize (u0:Int) = U0 at *
 generalize (u1:Int) = U1 at *
 generalize (u2:Int) = U2 at *
 generalize (u3:Int) = U3 at *
 generalize (v0:Int) = V0 at *
 generalize (v1:Int) = V1 at *
 generalize (v2:Int) = V2 at *
 generalize (v3:Int) = V3 at *
 go_enter Tryz.func53,Tryz.ntmps53
 go_wp2
 have K1:Blk ((w.alloc (.cells #[.int .i64 a,.int .i64 b,.int .u64 U0,.int .u64 U1,.int .u64 U2,.int .u64 U3,.string s,.bool c] 61)).alloc (.cells #[.int .i64 a',.int .i64 b',.int .u64 V0,.int .u64 V1,.int .u64 V2,.int .u64 V3,.string s',.bool c'] 61)) w.heap.size 61 #[.int .i64 a,.int .i64 b,.int .u64 U0,.int .u64 U1,.int .u64 U2,.int .u64 U3,.string s,.bool c]:=(Blk.new w _ _).alloc _
 have K2:Blk ((w.alloc (.cells #[.int .i64 a,.int .i64 b,.int .u64 U0,.int .u64 U1,.int .u64 U2,.int .u64 U3,.string s,.bool c] 61)).alloc (.cells #[.int .i64 a',.int .i64 b',.int .u64 V0,.int .u64 V1,.int .u64 V2,.int .u64 V3,.string s',.bool c'] 61)) (w.heap.size + 1) 61 #[.int .i64 a',.int .i64 b',.int .u64 V0,.int .u64 V1,.int .u64 V2,.int .u64 V3,.string s',.bool c']:=by
  have:=Blk.new (w.alloc (.cells #[.int .i64 a,.int .i64 b,.int .u64 U0,.int .u64 U1,.int .u64 U2,.int .u64 U3,.string s,.bool c] 61)) 61 #[.int .i64 a',.int .i64 b',.int .u64 V0,.int .u64 V1,.int .u64 V2,.int .u64 V3,.string s',.bool c']
  rwa [World.size_alloc] at this
 have hW:Grew w ((w.alloc (.cells #[.int .i64 a,.int .i64 b,.int .u64 U0,.int .u64 U1,.int .u64 U2,.int .u64 U3,.string s,.bool c] 61)).alloc (.cells #[.int .i64 a',.int .i64 b',.int .u64 V0,.int .u64 V1,.int .u64 V2,.int .u64 V3,.string s',.bool c'] 61)):=⟨0,_,by rw [alloc_eq_grow,alloc_eq_grow,grow_grow]; rfl⟩
 generalize ((w.alloc (.cells #[.int .i64 a,.int .i64 b,.int .u64 U0,.int .u64 U1,.int .u64 U2,.int .u64 U3,.string s,.bool c] 61)).alloc (.cells #[.int .i64 a',.int .i64 b',.int .u64 V0,.int .u64 V1,.int .u64 V2,.int .u64 V3,.string s',.bool c'] 61)) = W at *
 have G1:=fun n os => K1.grown_ n os
 have G2:=fun n os => K2.grown_ n os
 have g0:=fun n os => (G1 n os).cell 0
 have g1:=fun n os => (G1 n os).cell 1
 have g6:=fun n os => (G1 n os).cell 6
 have g7:=fun n os => (G1 n os).cell 7
 have k0:=fun n os => (G2 n os).cell 0
 have k1:=fun n os => (G2 n os).cell 1
 have k6:=fun n os => (G2 n os).cell 6
 have k7:=fun n os => (G2 n os).cell 7
 have hw:∀ n os,Calls Tryz.prog 88 #[.slice (some ⟨w.heap.size,2,none⟩) 4 4,.slice (some ⟨w.heap.size + 1,2,none⟩) 4 4] (grow (W.drewN n) os) (fun e w' => e = .returned (.int .i64 (cmpL [U0,U1,U2,U3] [V0,V1,V2,V3]))∧grow (W.drewN n) os = w'):=fun n os =>
  cmpWords_any _ _ 4 4 4 _ [U0,U1,U2,U3] [V0,V1,V2,V3] _ ((reads_mid (G1 n os) 2 [.int .u64 U0,.int .u64 U1,.int .u64 U2,.int .u64 U3] (by
   intro j u hj
   match j,hj with
   | 0,hj => simpa using hj
   | 1,hj => simpa using hj
   | 2,hj => simpa using hj
   | 3,hj => simpa using hj)).more (B':=w.heap.size + 2) (by omega)) (reads_mid (G2 n os) 2 [.int .u64 V0,.int .u64 V1,.int .u64 V2,.int .u64 V3] (by
   intro j u hj
   match j,hj with
   | 0,hj => simpa using hj
   | 1,hj => simpa using hj
   | 2,hj => simpa using hj
   | 3,hj => simpa using hj)) (by decide)
 have hi0:(0:Int)≤4:=by decide
 clear K1 K2
 have HG1:=Lib.hid G1
 have HG2:=Lib.hid G2
 clear G1 G2
 refine wp_region_quiet_tail (C:=fun w' => ∃ p:GrownBy,w' = grow (W.drewN p.n) p.os) 27 (by kernel_rfl) (by kernel_rfl) ⟨⟨1,#[]⟩,by rw [grow_empty]; rfl⟩ ?_
 simp only [List.take_succ_cons,List.take_zero,List.drop_succ_cons,List.drop_zero]
 repeat (go_big_quiet_step ((first
  | (go_at_call 83; exact Calls.grown_of (same_grown (cmpInt_any _ _ _)))
  | (go_at_call 88; exact Calls.grown_of (same_grown (hw _ _)))
  | (go_at_call 89; exact Calls.grown_of (same_grown (number_any _ _)))
  | (go_at_call 84; exact Calls.grown_of (same_grown (strCmp_any _ _ _))))))
 refine wpQuiet_nil ?_
 rintro w5 ⟨⟨nq,osq⟩,rfl⟩
 have hW5:Grew w (grow (W.drewN nq) osq):=by
  obtain ⟨q0,os0,rfl⟩:=hW
  exact ⟨q0 + nq,os0 ++ osq,by rw [← grow_grow,← World.drewN_drewN]; rfl⟩
 clear g0 g1 g6 g7 k0 k1 k6 k7 hw HG1 HG2 hW
 generalize grow (W.drewN nq) osq = V at *
 go_wp2_with (go_at_call 82; refine (or5_any _ _ _ _ _ V).mono ?_; rintro e w' ⟨rfl,rfl⟩)
 go_ret
 refine ⟨by rw [HR.out]; rfl,?_⟩
 obtain ⟨q0,os0,rfl⟩:=hW5
 exact ⟨q0,os0 ++ #[_],by rw [alloc_eq_grow,grow_grow]⟩
end Go.Proofs.YtcondkihpmmnnaaGreatDoor
namespace Go.Proofs.YtcondkihpmmnnaaGreatDoor
open Go.RowKit Go.Sort Go.Lib
section
variable {α:Type} {enc:α→List Value} {k:Nat}
def RowM (enc:α→List Value) (k:Nat) (w:World) (g n:Nat) (M:Nat→α):Prop :=
 (∀ a i u,a < n→(enc (M a))[i]? = some u→w.cell? ⟨g,a * k + i,none⟩ = some u)∧∀ x,x < n * k→w.frozen? ⟨g,x,none⟩ = false
theorem RowM.congr {w:World} {g n:Nat} {M M':Nat→α} (h:RowM enc k w g n M) (he:∀ a,a < n→M a = M' a):RowM enc k w g n M' :=
 ⟨fun a i u ha hu => h.1 a i u ha (by rw [he a ha]; exact hu),h.2⟩
theorem RowM.holds [Inhabited α] (hk:∀ x,(enc x).length = k) (h0:0 < k) {w:World} {g:Nat} {l:List α} {d:α} (h:RowM enc k w g l.length fun a => l.getD a d):HoldsK enc k w g 0 l.toArray:=by
 intro j hj
 rw [size_flatK] at hj
 simp only [List.size_toArray] at hj
 have hq:j / k < l.length:=Nat.div_lt_of_lt_mul (by rw [Nat.mul_comm]; exact hj)
 have hm:j % k < k:=Nat.mod_lt _ h0
 refine ⟨?_,by rw [Nat.zero_add]; exact h.2 j hj⟩
 rw [get_flatK _ _ _ _ (by simpa using hj),Nat.zero_add]
 have e:l.toArray[j / k]! = l.getD (j / k) d:=by
  rw [getElem!_pos _ _ (by simpa using hq),List.getD_eq_getElem?_getD,List.getElem?_eq_getElem hq]
  simp
 rw [e]
 have hlen:j % k < (enc (l.getD (j / k) d)).length:=by rw [hk]; exact hm
 have:=h.1 (j / k) (j % k) _ hq (List.getElem?_eq_getElem hlen)
 rw [Nat.div_add_mod'] at this
 rw [this,getElem!_pos (enc (l.getD (j / k) d)) (j % k) hlen]
 rfl
theorem RowM.of_holds [Inhabited α] (hk:∀ x,(enc x).length = k) (h0:0 < k) {w:World} {g:Nat} {l:List α} (d:α) (h:HoldsK enc k w g 0 l.toArray):RowM enc k w g l.length fun a => l.getD a d:=by
 have hsz:(flatK enc k l.toArray).size = l.length * k:=by rw [size_flatK]; simp
 refine ⟨fun a i u ha hu => ?_,fun x hx => ?_⟩
 ·have hi:i < k:=by
    rcases Nat.lt_or_ge i (enc (l.getD a d)).length with h | h
    ·rw [hk] at h; exact h
    ·rw [List.getElem?_eq_none h] at hu; cases hu
  have hlt:a * k + i < l.length * k:=by
   have:(a + 1) * k≤l.length * k:=Nat.mul_le_mul_right _ ha
   rw [Nat.succ_mul] at this
   omega
  have:=(h (a * k + i) (by rw [hsz]; exact hlt)).1
  rw [Nat.zero_add,get_flatK _ _ _ _ (by simpa using hlt)] at this
  have e1:(a * k + i) / k = a:=by rw [Nat.mul_comm,Nat.mul_add_div h0,Nat.div_eq_of_lt hi,Nat.add_zero]
  have e2:(a * k + i) % k = i:=by rw [Nat.mul_comm,Nat.mul_add_mod,Nat.mod_eq_of_lt hi]
  rw [e1,e2] at this
  have e:l.toArray[a]! = l.getD a d:=by
   rw [getElem!_pos _ _ (by simpa using ha),List.getD_eq_getElem?_getD,List.getElem?_eq_getElem ha]
   simp
  rw [e] at this
  rw [this]
  have hlen:i < (enc (l.getD a d)).length:=by rw [hk]; exact hi
  rw [getElem!_pos (enc (l.getD a d)) i hlen]
  rw [List.getElem?_eq_getElem hlen] at hu
  exact hu
 ·have:=(h x (by rw [hsz]; exact hx)).2
  rwa [Nat.zero_add] at this
theorem below_sortWorldK [Inhabited α] {B:Nat} {w0 w:World} {g:Nat} (h:Below B w0 w) (hg:B≤g) (hs:B≤w.heap.size) (n:Nat) (d:Array α) (os:Array Obj):Below B w0 (sortWorldK enc k w g 0 n d os):=by
 unfold sortWorldK putRowK
 have h1:=Lib.below_putRow (enc:=id) (q:=n) (d:=flatK enc k d) h hg
 have hsz:(putRow id (Sort.ahead w n) g 0 (flatK enc k d)).heap.size = w.heap.size:=by
  unfold putRow mapBlock Sort.ahead
  simp
 generalize putRow id (Sort.ahead w n) g 0 (flatK enc k d) = W at *
 refine ⟨h1.os,h1.tape,h1.output,?_,fun j hj => ?_⟩
 ·have:=h1.size
  simp [grow]
  omega
 ·rw [← h1.block j hj]
  simp only [grow,Array.getElem?_append]
  rw [if_pos (by omega)]
theorem RowM.reads (hk:∀ x,(enc x).length = k) (h0:0 < k) {w:World} {g n B:Nat} {l:List α} (d:α) (h:RowM enc k w g n fun a => l.getD a d) (hl:l.length≤n) (hg:g < B):Reads w B k (some ⟨g,0,none⟩) l.length (encs enc l):=by
 refine ⟨encs_length hk l,fun _ => ⟨_,rfl,hg,fun j u hu => ?_⟩⟩
 rw [add_mk,Nat.zero_add]
 have hlt:j < (encs enc l).length:=by
  rcases Nat.lt_or_ge j (encs enc l).length with h | h
  ·exact h
  ·rw [List.getElem?_eq_none h] at hu; cases hu
 rw [encs_length hk] at hlt
 have hq:j / k < l.length:=Nat.div_lt_of_lt_mul (by rw [Nat.mul_comm]; exact hlt)
 have hm:j % k < k:=Nat.mod_lt _ h0
 have e:=encs_get hk l d (j / k) (j % k) hq hm
 rw [Nat.div_add_mod'] at e
 rw [e] at hu
 have:=h.1 (j / k) (j % k) u (by omega) hu
 rwa [Nat.div_add_mod'] at this
theorem RowM.of_own (hk:∀ x,(enc x).length = k) {w:World} {base n:Nat} {e:TypeId} {v:Value} {l:List α} (d:α) (h:w.ownsRow base e k v n (encs enc l)) (hn:l.length = n) (h1:0 < n) :
    ∃ g cap,v = .slice (some ⟨g,0,none⟩) n cap∧base≤g∧g < w.heap.size∧n≤cap∧cap≤maxLen∧RowM enc k w g n fun a => l.getD a d:=by
 obtain ⟨hl,h | ⟨g,cap,cur,hv,hb,hh,hc,hm,hsz,ht⟩⟩:=h
 ·omega
 have hlt:g < w.heap.size:=by
  rcases Nat.lt_or_ge g w.heap.size with h | h
  ·exact h
  ·rw [Array.getElem?_eq_none h] at hh; cases hh
 have hle:n * k≤cur.size:=by rw [hsz]; exact Nat.mul_le_mul_right _ hc
 refine ⟨g,cap,hv,hb,hlt,hc,hm,fun a i u ha hu => ?_,fun x hx => ?_⟩
 ·have hi:i < k:=by
    rcases Nat.lt_or_ge i (enc (l.getD a d)).length with h | h
    ·rw [hk] at h; exact h
    ·rw [List.getElem?_eq_none h] at hu; cases hu
  have e:=encs_get hk l d a i (by omega) hi
  rw [hu,← ht] at e
  rw [cell_of_row w g _ cur _ (0,0) hh,← Array.getElem?_toList]
  rw [List.getElem?_take] at e
  split at e
  ·exact e
  ·cases e
 ·simp [World.frozen?,hh]
end
instance:Inhabited Tp:=⟨tp0⟩
instance:Inhabited Ar:=⟨ar0⟩
theorem isAgg_tip:∀ w,(isAgg 54).run Tryz.prog w = .ok true w:=Tryz.isAgg54
theorem sizeOf_tip:∀ w,(Go.sizeOf 54).run Tryz.prog w = .ok 2 w:=Tryz.sizeOf54
theorem isAgg_arc:∀ w,(isAgg 61).run Tryz.prog w = .ok true w:=Tryz.isAgg61
theorem sizeOf_arc:∀ w,(Go.sizeOf 61).run Tryz.prog w = .ok 8 w:=Tryz.sizeOf61
theorem sortTip_any (F:Nat) (eg:∀ args w,(callFunc F args).run Tryz.prog w = .ok (.enter F args) w)
    (hF:∀ (x y:Tp) (W:World),Calls Tryz.prog F #[.agg (encT x).toArray,.agg (encT y).toArray] W fun e w' => e = .returned (.int .i64 (cmpT x y))∧Grew W w')
    (g c:Nat) (l:List Tp) (w:World) (HM:RowM encT 2 w g l.length fun a => l.getD a tp0) (hg:g < w.heap.size) (hn:l.length≤1000000) :
    Calls Tryz.prog 80 #[.slice (some ⟨g,0,none⟩) l.length c,.func (.func F) #[] #[]] w fun e w' => e = .returned (.tuple #[])∧RowM encT 2 w' g (sortT l).length (fun a => (sortT l).getD a tp0)∧(∀ B,B≤g→Below B w w'):=by
 have hH:=HM.holds encT_len (by decide)
 have h:=AnyQ.slices_SortFunc_total Tryz.sortTip 2 isAgg_tip sizeOf_tip encT encT_len encT_one cmpT (swo_of ord3_tip) F #[] g 0 c l.toArray w eg
  (fun m os dk _ x y => (hF x y _).mono fun _ _ ⟨he,q,os',hw⟩ => ⟨he,q,os',hw⟩) hH hg (by simp; omega) (total_of ord3_tip cmpT_zero)
 rw [List.size_toArray] at h
 refine h.mono ?_
 rintro e w' ⟨he,n,os,rfl⟩
 have hs:(sortT l) = l.mergeSort fun x y => !(ltOf cmpT) y x:=rfl
 rw [← hs]
 have hlen:(sortT l).length = l.length:=by rw [hs]; exact List.length_mergeSort _
 refine ⟨he,RowM.of_holds encT_len (by decide) tp0 (holdsK_sortWorldK encT 2 w g 0 n l.toArray (sortT l).toArray os hg hH (by simp [hlen])),fun B hB => below_sortWorldK (Below.refl B w) hB (by omega) n _ os⟩
theorem sortArc_any (F:Nat) (eg:∀ args w,(callFunc F args).run Tryz.prog w = .ok (.enter F args) w)
    (hF:∀ (x y:Ar) (W:World),Calls Tryz.prog F #[.agg (encA x).toArray,.agg (encA y).toArray] W fun e w' => e = .returned (.int .i64 (cmpA x y))∧Grew W w')
    (g c:Nat) (l:List Ar) (w:World) (HM:RowM encA 8 w g l.length fun a => l.getD a ar0) (hg:g < w.heap.size) (hn:l.length≤1000000) :
    Calls Tryz.prog 86 #[.slice (some ⟨g,0,none⟩) l.length c,.func (.func F) #[] #[]] w fun e w' => e = .returned (.tuple #[])∧RowM encA 8 w' g (sortA l).length (fun a => (sortA l).getD a ar0)∧(∀ B,B≤g→Below B w w'):=by
 have hH:=HM.holds encA_len (by decide)
 have h:=AnyQ.slices_SortFunc_total Tryz.sortArc 8 isAgg_arc sizeOf_arc encA encA_len encA_one cmpA (swo_of ord3_arc) F #[] g 0 c l.toArray w eg
  (fun m os dk _ x y => (hF x y _).mono fun _ _ ⟨he,q,os',hw⟩ => ⟨he,q,os',hw⟩) hH hg (by simp; omega) (total_of ord3_arc cmpA_zero)
 rw [List.size_toArray] at h
 refine h.mono ?_
 rintro e w' ⟨he,n,os,rfl⟩
 have hs:(sortA l) = l.mergeSort fun x y => !(ltOf cmpA) y x:=rfl
 rw [← hs]
 have hlen:(sortA l).length = l.length:=by rw [hs]; exact List.length_mergeSort _
 refine ⟨he,RowM.of_holds encA_len (by decide) ar0 (holdsK_sortWorldK encA 8 w g 0 n l.toArray (sortA l).toArray os hg hH (by simp [hlen])),fun B hB => below_sortWorldK (Below.refl B w) hB (by omega) n _ os⟩
theorem tip_info:(Tryz.prog.info? 54).map (fun i => (i.zero,i.size,i.bytes)) = some (some (.agg #[.int .i64 0,.string ByteArray.empty]),2,24):=by kernel_rfl
theorem arc_info:(Tryz.prog.info? 61).map (fun i => (i.zero,i.size,i.bytes)) = some (some (.agg #[.int .i64 0,.int .i64 0,.int .u64 0,.int .u64 0,.int .u64 0,.int .u64 0,.string ByteArray.empty,.bool false]),8,72):=by kernel_rfl
end Go.Proofs.YtcondkihpmmnnaaGreatDoor
namespace Go.Proofs.YtcondkihpmmnnaaGreatDoor
open Go.RowKit Go.Sort Go.Lib
theorem zeroCells_len (z:Array Value) (n:Nat):(Builtin.zeroCells z n).toList.length = n * z.size:=by
 unfold Builtin.zeroCells; simp
theorem zeroCells_one (z:Array Value) (n:Nat) (h0:0 < z.size) (h:∀ v∈z.toList,v.oneCell' = true):∀ v∈(Builtin.zeroCells z n).toList,v.oneCell' = true:=by
 unfold Builtin.zeroCells
 intro v hv
 rw [Array.toList_map,List.mem_map] at hv
 obtain ⟨i,_,rfl⟩:=hv
 have hm:i % z.size < z.size:=Nat.mod_lt _ h0
 rw [getElem!_pos z (i % z.size) hm]
 exact h _ (Array.getElem_mem_toList _)
theorem run_clear_K {P:Program} (w:World) (t e ty:TypeId) (z:Value) (k:Nat) (ht:P.underlying t = some (.slice e)) (hv:∀ w,(zeroValue e).run P w = .ok z w) (hzs:z.cells.size = k) (hk:0 < k)
    (h1:∀ v∈z.cells.toList,v.oneCell' = true) (b o n c:Nat) (hn:0 < n)
    (hc:∀ j,j < n * k→(w.cell? ⟨b,o + j,none⟩).isSome = true) (hf:∀ j,j < n * k→w.frozen? ⟨b,o + j,none⟩ = false) :
    (Builtin.clear_ #[t] ty #[.slice (some ⟨b,o,none⟩) n c]).run P w = .ok (.tuple #[]) (w.setCells b o (Builtin.zeroCells z.cells n).toList):=by
 have hlen:(Builtin.zeroCells z.cells n).toList.length = n * k:=by rw [zeroCells_len,hzs]
 have hst:=run_storeCells_cells (P:=P) b o (Builtin.zeroCells z.cells n).toList 0 w (by rw [hlen]; simpa using hc) (by rw [hlen]; simpa using hf) (zeroCells_one _ _ (by omega) h1)
 simp only [Nat.add_zero] at hst
 obtain ⟨m,rfl⟩:∃ m,n = m + 1:=⟨n - 1,by omega⟩
 simp only [Builtin.clear_]
 simp [run_underlying ht,hv,hst]
section
variable {α:Type} {enc:α→List Value} {k:Nat}
theorem RowM.sub {w:World} {g n m:Nat} {M:Nat→α} (h:RowM enc k w g n M) (hm:m≤n):RowM enc k w g m M :=
 ⟨fun a i u ha hu => h.1 a i u (by omega) hu,fun x hx => h.2 x (Nat.lt_of_lt_of_le hx (Nat.mul_le_mul_right _ hm))⟩
theorem RowM.drewN {w:World} {g n:Nat} {M:Nat→α} (h:RowM enc k w g n M) (q:Nat):RowM enc k (w.drewN q) g n M:=h
theorem RowM.below {w w':World} {g n B:Nat} {M:Nat→α} (h:RowM enc k w g n M) (hb:Below B w w') (hg:g < B):RowM enc k w' g n M :=
 ⟨fun a i u ha hu => (hb.cell (p:=⟨g,a * k + i,none⟩) hg).trans (h.1 a i u ha hu),fun x hx => (hb.frozen (p:=⟨g,x,none⟩) hg).trans (h.2 x hx)⟩
theorem RowM.cellAt (hk:∀ x,(enc x).length = k) {w:World} {g n:Nat} {M:Nat→α} (h:RowM enc k w g n M) (x:Nat) (hx:x < n * k) (h0:0 < k):(w.cell? ⟨g,x,none⟩).isSome = true:=by
 have hm:x % k < k:=Nat.mod_lt _ h0
 have hq:x / k < n:=Nat.div_lt_of_lt_mul (by rw [Nat.mul_comm]; exact hx)
 have hlen:x % k < (enc (M (x / k))).length:=by rw [hk]; exact hm
 have:=h.1 (x / k) (x % k) _ hq (List.getElem?_eq_getElem hlen)
 rw [Nat.div_add_mod'] at this
 rw [this]
 rfl
theorem RowM.put (hk:∀ x,(enc x).length = k) (h0:0 < k) {w:World} {g n:Nat} {M:Nat→α} (h:RowM enc k w g n M) (q:Nat) (hq:q < n) (x:α) :
    RowM enc k (w.setCells g (q * k) (enc x)) g n fun a => if a = q then x else M a:=by
 have hle:(q + 1) * k≤n * k:=Nat.mul_le_mul_right _ hq
 rw [Nat.succ_mul] at hle
 refine ⟨fun a i u ha hu => ?_,fun y hy => by rw [World.frozen?_setCells]; exact h.2 y hy⟩
 by_cases e:a = q
 ·subst e
  replace hu:(enc (if a = a then x else M a))[i]? = some u:=hu
  rw [if_pos rfl] at hu
  have hi:i < (enc x).length:=by
   rcases Nat.lt_or_ge i (enc x).length with h | h
   ·exact h
   ·rw [List.getElem?_eq_none h] at hu; cases hu
  rw [World.cell?_setCells_in g (enc x) (a * k) w (fun j hj => h.cellAt hk _ (by rw [hk] at hj; omega) h0) i hi]
  rw [List.getElem?_eq_getElem hi] at hu
  exact hu
 ·replace hu:(enc (if a = q then x else M a))[i]? = some u:=hu
  rw [if_neg e] at hu
  have hi:i < k:=by
   rcases Nat.lt_or_ge i (enc (M a)).length with h | h
   ·rw [hk] at h; exact h
   ·rw [List.getElem?_eq_none h] at hu; cases hu
  rw [World.cell?_setCells_out]
  ·exact h.1 a i u ha hu
  ·intro _ _
   rw [hk]
   rcases Nat.lt_or_ge a q with hlt | hge
   ·left
    have:(a + 1) * k≤q * k:=Nat.mul_le_mul_right _ hlt
    rw [Nat.succ_mul] at this
    show a * k + i < q * k
    omega
   ·right
    have:(q + 1) * k≤a * k:=Nat.mul_le_mul_right _ (by omega)
    rw [Nat.succ_mul] at this
    show q * k + k≤a * k + i
    omega
theorem RowM.ahead (hk:∀ x,(enc x).length = k) {w:World} {g n:Nat} {M:Nat→α} (h:RowM enc k w g n M) (q:Nat) (vs:List Value):RowM enc k (w.setCells g (q * k) vs) g (min q n) M:=by
 refine ⟨fun a i u ha hu => ?_,fun y hy => by rw [World.frozen?_setCells]; exact h.2 y (Nat.lt_of_lt_of_le hy (Nat.mul_le_mul_right _ (Nat.min_le_right _ _)))⟩
 have hi:i < k:=by
  rcases Nat.lt_or_ge i (enc (M a)).length with h | h
  ·rw [hk] at h; exact h
  ·rw [List.getElem?_eq_none h] at hu; cases hu
 rw [World.cell?_setCells_out]
 ·exact h.1 a i u (by omega) hu
 ·intro _ _
  left
  have:(a + 1) * k≤q * k:=Nat.mul_le_mul_right _ (by omega)
  rw [Nat.succ_mul] at this
  show a * k + i < q * k
  omega
end
section
variable {α:Type} [DecidableEq α]
theorem once1_two (x y:α) (l:List α):once1 (x :: y :: l) = if x = y then once1 (y :: l) else x :: once1 (y :: l):=rfl
theorem once1_snoc:∀ (l:List α) (x y:α),once1 (l ++ [x,y]) = if x = y then once1 (l ++ [x]) else once1 (l ++ [x]) ++ [y]
 | [],x,y => by
  show once1 (x :: y :: []) = if x = y then [x] else [x] ++ [y]
  rw [once1_two]
  by_cases h:x = y
  ·subst h; simp [once1]
  ·simp [h,once1]
 | [z],x,y => by
  show once1 (z :: x :: [y]) = if x = y then once1 (z :: x :: []) else once1 (z :: x :: []) ++ [y]
  rw [once1_two,once1_two,once1_two]
  by_cases h:x = y <;> by_cases h2:z = x <;> simp [h,h2,once1]
 | z :: z' :: l,x,y => by
  have ih:=once1_snoc (z' :: l) x y
  show once1 (z :: z' :: (l ++ [x,y])) = if x = y then once1 (z :: z' :: (l ++ [x])) else once1 (z :: z' :: (l ++ [x])) ++ [y]
  rw [once1_two,once1_two]
  have e1:z' :: (l ++ [x,y]) = (z' :: l) ++ [x,y]:=rfl
  have e2:z' :: (l ++ [x]) = (z' :: l) ++ [x]:=rfl
  rw [e1,e2,ih]
  by_cases h:x = y <;> by_cases h2:z = z' <;> simp [h,h2]
omit [DecidableEq α] in
theorem take_two (l:List α) (d:α) (p:Nat) (h:p < l.length) (h1:1≤p):l.take (p + 1) = l.take (p - 1) ++ [l.getD (p - 1) d,l.getD p d]∧l.take p = l.take (p - 1) ++ [l.getD (p - 1) d]:=by
 have e1:l.take p = l.take (p - 1) ++ [l.getD (p - 1) d]:=by
  have:=List.take_succ_eq_append_getElem (l:=l) (i:=p - 1) (by omega)
  rw [show p - 1 + 1 = p by omega] at this
  rw [this,List.getD_eq_getElem?_getD,List.getElem?_eq_getElem (by omega)]
  rfl
 refine ⟨?_,e1⟩
 rw [List.take_succ_eq_append_getElem h,e1,List.getD_eq_getElem?_getD (i:=p),List.getElem?_eq_getElem h,List.append_assoc]
 rfl
theorem once1_next (l:List α) (d:α) (p:Nat) (h:p < l.length) (h1:1≤p):once1 (l.take (p + 1)) = if l.getD (p - 1) d = l.getD p d then once1 (l.take p) else once1 (l.take p) ++ [l.getD p d]:=by
 obtain ⟨e1,e2⟩:=take_two l d p h h1
 rw [e1,e2]
 exact once1_snoc _ _ _
theorem once1_len (l:List α):∀ p,(once1 (l.take p)).length≤p
 | 0 => by simp [once1]
 | 1 => by
  cases l with
  | nil => simp [once1]
  | cons x l => simp [once1]
 | p + 2 => by
  have ih:=once1_len l (p + 1)
  rcases Nat.lt_or_ge (p + 1) l.length with h | h
  ·rw [once1_next l (l[p + 1]) (p + 1) h (by omega)]
   split
   ·omega
   ·simp; omega
  ·rw [List.take_of_length_le (by omega)]
   rw [List.take_of_length_le (by omega)] at ih
   omega
end
end Go.Proofs.YtcondkihpmmnnaaGreatDoor
namespace Go.Proofs.YtcondkihpmmnnaaGreatDoor
open Go.RowKit Go.Sort
set_option maxRecDepth 100000 in
set_option maxHeartbeats 8000000 in
theorem compactT_any (g c:Nat) (l:List Tp) (w:World) (HM:RowM encT 2 w g l.length fun a => l.getD a tp0) (hg:g < w.heap.size) (hc:l.length≤c) (_hm:c≤maxLen) (hn:l.length≤1000000) :
    Calls Tryz.prog 81 #[.slice (some ⟨g,0,none⟩) l.length c] w fun e w' => e = .returned (.slice (some ⟨g,0,none⟩) (once1 l).length c)∧RowM encT 2 w' g (once1 l).length (fun a => (once1 l).getD a tp0)∧(∀ B,B≤g→Below B w w'):=by
 unfold maxLen at _hm
 by_cases h2:l.length < 2
 ·have e:once1 l = l:=by
    match l,h2 with
    | [],_ => rfl
    | [x],_ => rfl
  rw [e]
  have HM2:=Lib.hid HM
  clear HM e
  generalize l.length = n at *
  go_enter Tryz.func81,Tryz.ntmps81
  go_wp2
  go_ret
  exact ⟨rfl,HM2.out,fun B _ => Below.refl B _⟩
 generalize hln:l.length = n at *
 have Hln:=Lib.hid hln
 clear hln
 have HT:=Lib.hid HM
 clear HM
 generalize hrl:once1 l = rl at *
 have Hrl:=Lib.hid hrl
 clear hrl
 go_enter Tryz.func81,Tryz.ntmps81
 go_wp2
 go_loopw [3] (fun i wr => ∃ k:Nat,1≤k∧k≤n∧i = .int .i64 k∧RowM encT 2 wr g n (fun a => l.getD a tp0)∧(∀ B,B≤g→Below B w wr)∧g < wr.heap.size∧once1 (l.take k) = l.take k) (fun i _ => n - (intOf i).toNat)
 case atStart => exact ⟨1,by omega,by omega,rfl,HT.out,fun B _ => Below.refl B _,hg,by cases l <;> rfl⟩
 case round =>
  obtain ⟨k,hk1,hkn,rfl,HM,HB,hsz,ho⟩:=hrel
  by_cases hlt:k < n
  ·have hi1:(0:Int)≤(k:Int):=by omega
   have hi2:(k:Int) < (n:Int):=by omega
   have hi3:(0:Int)≤(k:Int) - 1:=by omega
   have hi4:(k:Int) - 1 < (n:Int):=by omega
   have hi5:((k:Int) - 1).toNat = k - 1:=by omega
   have hstep:=once1_next l tp0 k (by have:=Hln.out; omega) hk1
   have hcell:∀ a i u,a < n→(encT (l.getD a tp0))[i]? = some u→wr.cell? ⟨g,a * 2 + i,none⟩ = some u:=HM.1
   have x0:=cell_regrown (show wr.cell? ⟨g,k * 2,none⟩ = some (.int .i64 (l.getD k tp0).st) from hcell k 0 _ hlt rfl)
   have x1:=cell_regrown (show wr.cell? ⟨g,k * 2 + 1,none⟩ = some (.string (l.getD k tp0).out) from hcell k 1 _ hlt rfl)
   have y0:=cell_regrown (show wr.cell? ⟨g,(k - 1) * 2,none⟩ = some (.int .i64 (l.getD (k - 1) tp0).st) from hcell (k - 1) 0 _ (by omega) rfl)
   have y1:=cell_regrown (show wr.cell? ⟨g,(k - 1) * 2 + 1,none⟩ = some (.string (l.getD (k - 1) tp0).out) from hcell (k - 1) 1 _ (by omega) rfl)
   have he:∀ W,(binOp .eql 54 (.agg #[.int .i64 (l.getD k tp0).st,.string (l.getD k tp0).out]) (.agg #[.int .i64 (l.getD (k - 1) tp0).st,.string (l.getD (k - 1) tp0).out])).run Tryz.prog W = .ok (.bool (decide (l.getD k tp0 = l.getD (k - 1) tp0))) W:=fun W => eql_tip W (l.getD k tp0) (l.getD (k - 1) tp0)
   have HM2:=Lib.hid HM
   have HB2:=Lib.hid HB
   have Ho:=Lib.hid ho
   have Hstep:=Lib.hid hstep
   clear HM HB ho hstep hcell
   generalize hx:l.getD k tp0 = x at *
   generalize hy:l.getD (k - 1) tp0 = y at *
   have Hx:=Lib.hid hx
   have Hy:=Lib.hid hy
   clear hx hy
   by_cases hxy:x = y
   ·have hd:decide (x = y) = true:=decide_eq_true hxy
    rw [hd] at he
    clear hd
    have Hxy:=Lib.hid hxy
    clear hxy
    go_wp2
    refine wp_region_quiet_below (by kernel_rfl) (by kernel_rfl) ?_
    repeat (go_big_quiet_step (fail))
    refine wpQuiet_nil ?_
    intro w5 hw5
    have HB5:=below_of hw5
    have HM5:=HM2.out.below HB5 hsz
    have L5:∀ B,B≤g→Below B w w5:=fun B hB => (HB2.out B hB).trans (HB5.mono (by omega))
    have hsz5:g < w5.heap.size:=Nat.lt_of_lt_of_le hsz HB5.size
    clear x0 y0
    clear x1 y1
    clear hw5 HB5 he
    have HM6:=Lib.hid HM5
    have L6:=Lib.hid L5
    clear HM5 L5
    have hck:¬ c = k:=by omega
    have Hck:=Lib.hid hck
    clear hck
    have hck:¬ c = k:=by omega
    go_wp2
    go_loopw [5,3] (fun k2 i wr => ∃ t q:Nat,1≤t∧k + t≤n∧k2 = .int .i64 t∧i = .int .i64 q∧q + 1≤k + t∧q = (once1 (l.take (k + t))).length∧RowM encT 2 wr g n (fun a => if a < q then (once1 (l.take (k + t))).getD a tp0 else l.getD a tp0)∧(∀ B,B≤g→Below B w wr)∧g < wr.heap.size) (fun k2 _ _ => n - k - (intOf k2).toNat)
    case atStart =>
     have e1:=Hstep.out
     rw [if_pos Hxy.out.symm,Ho.out] at e1
     have hl:=Hln.out
     refine ⟨1,k,by omega,by omega,rfl,rfl,by omega,by rw [e1,List.length_take]; omega,HM6.out.congr fun a ha => ?_,L6.out,hsz5⟩
     rw [e1]
     split
     ·rename_i hak
      rw [List.getD_eq_getElem?_getD,List.getD_eq_getElem?_getD,List.getElem?_take,if_pos hak]
     ·rfl
    case round =>
     clear HM6 L6 hsz5 Hstep Hx Hy Ho Hxy HM2 HB2 hsz
     obtain ⟨t,q,ht1,htn,rfl,rfl,hqt,hq,HM,HB,hsz⟩:=hrel
     by_cases hlt2:k + t < n
     ·have hj1:(0:Int)≤(t:Int):=by omega
      have hj2:(t:Int) < ((n - k:Nat):Int):=by omega
      have hj3:(0:Int)≤(t:Int) - 1:=by omega
      have hj4:(t:Int) - 1 < ((n - k:Nat):Int):=by omega
      have hj5:((t:Int) - 1).toNat = t - 1:=by omega
      have hj6:t < n - k:=by omega
      have hj7:(t:Int) < (n:Int) - (k:Int):=by omega
      have hj8:(t:Int) - 1 < (n:Int) - (k:Int):=by omega
      have hstep:=once1_next l tp0 (k + t) (by have:=Hln.out; omega) (by omega)
      have hcell:∀ a i u,q≤a→a < n→(encT (l.getD a tp0))[i]? = some u→wr.cell? ⟨g,a * 2 + i,none⟩ = some u:=fun a i u hqa ha hu => HM.1 a i u ha (by simp only [if_neg (Nat.not_lt.2 hqa)]; exact hu)
      have x0:=cell_regrown (show wr.cell? ⟨g,k * 2 + t * 2,none⟩ = some (.int .i64 (l.getD (k + t) tp0).st) from by have:=hcell (k + t) 0 _ (by omega) hlt2 rfl; rw [Nat.add_mul] at this; exact this)
      have x1:=cell_regrown (show wr.cell? ⟨g,k * 2 + t * 2 + 1,none⟩ = some (.string (l.getD (k + t) tp0).out) from by have:=hcell (k + t) 1 _ (by omega) hlt2 rfl; rw [Nat.add_mul] at this; exact this)
      have y0:=cell_regrown (show wr.cell? ⟨g,k * 2 + (t - 1) * 2,none⟩ = some (.int .i64 (l.getD (k + t - 1) tp0).st) from by have:=hcell (k + t - 1) 0 _ (by omega) (by omega) rfl; rw [show k + t - 1 = k + (t - 1) by omega,Nat.add_mul] at this; rw [show k + (t - 1) = k + t - 1 by omega] at this; exact this)
      have y1:=cell_regrown (show wr.cell? ⟨g,k * 2 + (t - 1) * 2 + 1,none⟩ = some (.string (l.getD (k + t - 1) tp0).out) from by have:=hcell (k + t - 1) 1 _ (by omega) (by omega) rfl; rw [show k + t - 1 = k + (t - 1) by omega,Nat.add_mul] at this; rw [show k + (t - 1) = k + t - 1 by omega] at this; exact this)
      have he:∀ W,(binOp .neq 54 (.agg #[.int .i64 (l.getD (k + t) tp0).st,.string (l.getD (k + t) tp0).out]) (.agg #[.int .i64 (l.getD (k + t - 1) tp0).st,.string (l.getD (k + t - 1) tp0).out])).run Tryz.prog W = .ok (.bool (!decide (l.getD (k + t) tp0 = l.getD (k + t - 1) tp0))) W:=fun W => neq_tip W (l.getD (k + t) tp0) (l.getD (k + t - 1) tp0)
      have HM2:=Lib.hid HM
      have HB2:=Lib.hid HB
      have Hq:=Lib.hid hq
      have Hstep:=Lib.hid hstep
      clear HM HB hstep hcell hq
      generalize hx:l.getD (k + t) tp0 = x at *
      generalize hy:l.getD (k + t - 1) tp0 = y at *
      have Hx:=Lib.hid hx
      have Hy:=Lib.hid hy
      clear hx hy
      by_cases hxy:x = y
      ·have hd:(!decide (x = y)) = false:=by rw [decide_eq_true hxy]; rfl
       rw [hd] at he
       clear hd
       have Hxy:=Lib.hid hxy
       clear hxy
       go_wp2
       refine wp_region_quiet_below (by kernel_rfl) (by kernel_rfl) ?_
       repeat (go_big_quiet_step (fail))
       refine wpQuiet_nil ?_
       intro w6 hw6
       have HB5:=below_of hw6
       have HM5:=Lib.hid (HM2.out.below HB5 hsz)
       have L5:=Lib.hid (show ∀ B,B≤g→Below B w w6 from fun B hB => (HB2.out B hB).trans (HB5.mono (by omega)))
       have hsz5:g < w6.heap.size:=Nat.lt_of_lt_of_le hsz HB5.size
       clear x0 y0
       clear x1 y1
       clear hw6 HB5 he
       go_wp2
       go_roundw
       case rel =>
        have e1:=Hstep.out
        rw [if_pos Hxy.out.symm] at e1
        refine ⟨t + 1,q,by omega,by omega,by go_num,rfl,by omega,?_,?_,L5.out,hsz5⟩
        ·rw [← Nat.add_assoc,e1]; exact Hq.out
        ·rw [← Nat.add_assoc,e1]; exact HM5.out
       case measure => simp [intOf]; omega
      ·have hd:(!decide (x = y)) = true:=by rw [decide_eq_false hxy]; rfl
       rw [hd] at he
       clear hd
       have Hxy:=Lib.hid hxy
       clear hxy
       go_wp2
       refine wp_region_quiet_below (by kernel_rfl) (by kernel_rfl) ?_
       repeat (go_big_quiet_step (fail))
       refine wpQuiet_nil ?_
       intro w6 hw6
       have HB5:=below_of hw6
       have HM5:=HM2.out.below HB5 hsz
       have L5:=Lib.hid (show ∀ B,B≤g→Below B w w6 from fun B hB => (HB2.out B hB).trans (HB5.mono (by omega)))
       have hsz5:g < w6.heap.size:=Nat.lt_of_lt_of_le hsz HB5.size
       clear x0 y0
       clear x1 y1
       have x0:=(show w6.cell? ⟨g,k * 2 + t * 2,none⟩ = some (.int .i64 x.st) from by have:=HM5.1 (k + t) 0 _ hlt2 (by simp only [if_neg (show ¬ k + t < q by omega)]; rfl); rw [Hx.out,Nat.add_mul] at this; exact this)
       have x1:=(show w6.cell? ⟨g,k * 2 + t * 2 + 1,none⟩ = some (.string x.out) from by have:=HM5.1 (k + t) 1 _ hlt2 (by simp only [if_neg (show ¬ k + t < q by omega)]; rfl); rw [Hx.out,Nat.add_mul] at this; exact this)
       obtain ⟨v0,z0⟩:=Option.isSome_iff_exists.1 (HM5.cellAt encT_len (q * 2 + 0) (by omega) (by decide))
       have f0:=HM5.2 (q * 2 + 0) (by omega)
       obtain ⟨v1,z1⟩:=Option.isSome_iff_exists.1 (HM5.cellAt encT_len (q * 2 + 1) (by omega) (by decide))
       have f1:=HM5.2 (q * 2 + 1) (by omega)
       simp only [Nat.add_zero] at z0 f0
       have HP:=Lib.hid (HM5.put encT_len (by decide) q (by omega) x)
       have HM6:=Lib.hid HM5
       clear hw6 HB5 he HM5
       have hq1:(0:Int)≤(q:Int):=by omega
       have hq2:(q:Int) < (n:Int):=by omega
       go_wp2
       go_roundw
       case rel =>
        have e1:=Hstep.out
        rw [if_neg (fun h => Hxy.out h.symm)] at e1
        refine ⟨t + 1,q + 1,by omega,by omega,by go_num,by go_num,by omega,?_,?_,?_,?_⟩
        ·rw [← Nat.add_assoc,e1,List.length_append,← Hq.out]; rfl
        ·rw [← Nat.add_assoc,e1]
         refine HP.out.congr fun a ha => ?_
         have hq:=Hq.out
         by_cases h1:a = q
         ·rw [if_pos h1,if_pos (by omega),h1,List.getD_eq_getElem?_getD,List.getElem?_append_right (by omega),← hq]; simp
         ·rw [if_neg h1]
          by_cases h2:a < q
          ·rw [if_pos h2,if_pos (by omega),List.getD_eq_getElem?_getD,List.getD_eq_getElem?_getD,List.getElem?_append_left (by omega)]
          ·rw [if_neg h2,if_neg (by omega)]
        ·exact fun B hB => Go.Lib.below_setCells g hB (encT x) (q * 2) (L5.out B hB)
        ·simpa using hsz5
       case measure => simp [intOf]; omega
     ·have e:k + t = n:=by omega
      have hq1:(0:Int)≤(q:Int):=by omega
      have hq2:(q:Int)≤(n:Int):=by omega
      have hq3:(q:Int)≤(c:Int):=by omega
      have hcq:¬ c = q:=by omega
      have hrun:∀ ty,(Builtin.clear_ #[29] ty #[.slice (some ⟨g,q * 2,none⟩) (n - q) (c - q)]).run Tryz.prog wr = .ok (.tuple #[]) (wr.setCells g (q * 2) (Builtin.zeroCells (Value.cells (.agg #[.int .i64 0,.string ByteArray.empty])) (n - q)).toList):=fun ty =>
       run_clear_K wr 29 54 ty (.agg #[.int .i64 0,.string ByteArray.empty]) 2 Tryz.underlying29 Tryz.zeroValue54 rfl (by decide) (by intro v hv; simp [Value.cells] at hv; rcases hv with rfl | rfl <;> rfl) g (q * 2) (n - q) (c - q) (by omega)
        (fun j hj => HM.cellAt encT_len _ (by rw [Nat.mul_sub_right_distrib] at hj; omega) (by decide)) (fun j hj => HM.2 _ (by rw [Nat.mul_sub_right_distrib] at hj; omega))
      generalize (Builtin.zeroCells (Value.cells (.agg #[.int .i64 0,.string ByteArray.empty])) (n - q)).toList = Z at hrun
      have HA:=HM.ahead encT_len q Z
      rw [Nat.min_eq_left (show q≤n by omega)] at HA
      have e2:once1 (l.take (k + t)) = rl:=by rw [e,← Hrl.out,← Hln.out,List.take_length]
      rw [e2] at HA hq
      have HA2:=Lib.hid (HA.congr (M':=fun a => rl.getD a tp0) fun a ha => by rw [if_pos ha])
      have HB2:=Lib.hid (show ∀ B,B≤g→Below B w (wr.setCells g (q * 2) Z) from fun B hB => Go.Lib.below_setCells g hB Z (q * 2) (HB B hB))
      clear HA HM HB e2
      subst hq
      go_wp2
      go_ret
      exact ⟨rfl,HA2.out,HB2.out⟩
   ·have hd:decide (x = y) = false:=decide_eq_false hxy
    rw [hd] at he
    clear hd
    have Hxy:=Lib.hid hxy
    clear hxy
    go_wp2
    refine wp_region_quiet_below (by kernel_rfl) (by kernel_rfl) ?_
    repeat (go_big_quiet_step (fail))
    refine wpQuiet_nil ?_
    intro w5 hw5
    have HB5:=below_of hw5
    have HM5:=HM2.out.below HB5 hsz
    have L5:∀ B,B≤g→Below B w w5:=fun B hB => (HB2.out B hB).trans (HB5.mono (by omega))
    have hsz5:g < w5.heap.size:=Nat.lt_of_lt_of_le hsz HB5.size
    clear x0 y0
    clear x1 y1
    clear hw5 HB5 he
    have HM6:=Lib.hid HM5
    have L6:=Lib.hid L5
    clear HM5 L5
    go_wp2
    go_roundw
    case rel =>
     refine ⟨k + 1,by omega,by omega,by go_num,HM6.out,L6.out,hsz5,?_⟩
     have e1:=Hstep.out
     rw [if_neg (fun h => Hxy.out h.symm),Ho.out] at e1
     rw [e1,← Hx.out]
     have hl:=Hln.out
     rw [List.getD_eq_getElem?_getD,List.getElem?_eq_getElem (by omega),List.take_succ_eq_append_getElem (by omega)]
     rfl
    case measure => simp [intOf]; omega
  ·have e:k = n:=by omega
   subst e
   have e1:rl = l:=by
    have h1:=Hrl.out
    rw [← Hln.out,List.take_length] at ho
    rw [← h1,ho]
   have HM2:=Lib.hid HM
   have HB2:=Lib.hid HB
   have E1:=Lib.hid e1
   clear HM HB ho e1
   go_wp2
   go_ret
   rw [E1.out,Hln.out]
   exact ⟨rfl,HM2.out,HB2.out⟩
set_option maxRecDepth 100000 in
set_option maxHeartbeats 8000000 in
theorem compactA_any (g c:Nat) (l:List Ar) (w:World) (HM:RowM encA 8 w g l.length fun a => l.getD a ar0) (hg:g < w.heap.size) (hc:l.length≤c) (_hm:c≤maxLen) (hn:l.length≤1000000) :
    Calls Tryz.prog 87 #[.slice (some ⟨g,0,none⟩) l.length c] w fun e w' => e = .returned (.slice (some ⟨g,0,none⟩) (once1 l).length c)∧RowM encA 8 w' g (once1 l).length (fun a => (once1 l).getD a ar0)∧(∀ B,B≤g→Below B w w'):=by
 unfold maxLen at _hm
 by_cases h2:l.length < 2
 ·have e:once1 l = l:=by
    match l,h2 with
    | [],_ => rfl
    | [x],_ => rfl
  rw [e]
  have HM2:=Lib.hid HM
  clear HM e
  generalize l.length = n at *
  go_enter Tryz.func87,Tryz.ntmps87
  go_wp2
  go_ret
  exact ⟨rfl,HM2.out,fun B _ => Below.refl B _⟩
 generalize hln:l.length = n at *
 have Hln:=Lib.hid hln
 clear hln
 have HT:=Lib.hid HM
 clear HM
 generalize hrl:once1 l = rl at *
 have Hrl:=Lib.hid hrl
 clear hrl
 go_enter Tryz.func87,Tryz.ntmps87
 go_wp2
 go_loopw [3] (fun i wr => ∃ k:Nat,1≤k∧k≤n∧i = .int .i64 k∧RowM encA 8 wr g n (fun a => l.getD a ar0)∧(∀ B,B≤g→Below B w wr)∧g < wr.heap.size∧once1 (l.take k) = l.take k) (fun i _ => n - (intOf i).toNat)
 case atStart => exact ⟨1,by omega,by omega,rfl,HT.out,fun B _ => Below.refl B _,hg,by cases l <;> rfl⟩
 case round =>
  obtain ⟨k,hk1,hkn,rfl,HM,HB,hsz,ho⟩:=hrel
  by_cases hlt:k < n
  ·have hi1:(0:Int)≤(k:Int):=by omega
   have hi2:(k:Int) < (n:Int):=by omega
   have hi3:(0:Int)≤(k:Int) - 1:=by omega
   have hi4:(k:Int) - 1 < (n:Int):=by omega
   have hi5:((k:Int) - 1).toNat = k - 1:=by omega
   have hstep:=once1_next l ar0 k (by have:=Hln.out; omega) hk1
   have hcell:∀ a i u,a < n→(encA (l.getD a ar0))[i]? = some u→wr.cell? ⟨g,a * 8 + i,none⟩ = some u:=HM.1
   have x0:=cell_regrown (show wr.cell? ⟨g,k * 8,none⟩ = some (.int .i64 (l.getD k ar0).fr) from hcell k 0 _ hlt rfl)
   have x1:=cell_regrown (show wr.cell? ⟨g,k * 8 + 1,none⟩ = some (.int .i64 (l.getD k ar0).to) from hcell k 1 _ hlt rfl)
   have x2:=cell_regrown (show wr.cell? ⟨g,k * 8 + 2,none⟩ = some (.int .u64 ((l.getD k ar0).set.a:Int)) from hcell k 2 _ hlt rfl)
   have x3:=cell_regrown (show wr.cell? ⟨g,k * 8 + 3,none⟩ = some (.int .u64 ((l.getD k ar0).set.b:Int)) from hcell k 3 _ hlt rfl)
   have x4:=cell_regrown (show wr.cell? ⟨g,k * 8 + 4,none⟩ = some (.int .u64 ((l.getD k ar0).set.c:Int)) from hcell k 4 _ hlt rfl)
   have x5:=cell_regrown (show wr.cell? ⟨g,k * 8 + 5,none⟩ = some (.int .u64 ((l.getD k ar0).set.d:Int)) from hcell k 5 _ hlt rfl)
   have x6:=cell_regrown (show wr.cell? ⟨g,k * 8 + 6,none⟩ = some (.string (l.getD k ar0).out) from hcell k 6 _ hlt rfl)
   have x7:=cell_regrown (show wr.cell? ⟨g,k * 8 + 7,none⟩ = some (.bool (l.getD k ar0).cp) from hcell k 7 _ hlt rfl)
   have y0:=cell_regrown (show wr.cell? ⟨g,(k - 1) * 8,none⟩ = some (.int .i64 (l.getD (k - 1) ar0).fr) from hcell (k - 1) 0 _ (by omega) rfl)
   have y1:=cell_regrown (show wr.cell? ⟨g,(k - 1) * 8 + 1,none⟩ = some (.int .i64 (l.getD (k - 1) ar0).to) from hcell (k - 1) 1 _ (by omega) rfl)
   have y2:=cell_regrown (show wr.cell? ⟨g,(k - 1) * 8 + 2,none⟩ = some (.int .u64 ((l.getD (k - 1) ar0).set.a:Int)) from hcell (k - 1) 2 _ (by omega) rfl)
   have y3:=cell_regrown (show wr.cell? ⟨g,(k - 1) * 8 + 3,none⟩ = some (.int .u64 ((l.getD (k - 1) ar0).set.b:Int)) from hcell (k - 1) 3 _ (by omega) rfl)
   have y4:=cell_regrown (show wr.cell? ⟨g,(k - 1) * 8 + 4,none⟩ = some (.int .u64 ((l.getD (k - 1) ar0).set.c:Int)) from hcell (k - 1) 4 _ (by omega) rfl)
   have y5:=cell_regrown (show wr.cell? ⟨g,(k - 1) * 8 + 5,none⟩ = some (.int .u64 ((l.getD (k - 1) ar0).set.d:Int)) from hcell (k - 1) 5 _ (by omega) rfl)
   have y6:=cell_regrown (show wr.cell? ⟨g,(k - 1) * 8 + 6,none⟩ = some (.string (l.getD (k - 1) ar0).out) from hcell (k - 1) 6 _ (by omega) rfl)
   have y7:=cell_regrown (show wr.cell? ⟨g,(k - 1) * 8 + 7,none⟩ = some (.bool (l.getD (k - 1) ar0).cp) from hcell (k - 1) 7 _ (by omega) rfl)
   have he:∀ W,(binOp .eql 61 (.agg #[.int .i64 (l.getD k ar0).fr,.int .i64 (l.getD k ar0).to,.int .u64 ((l.getD k ar0).set.a:Int),.int .u64 ((l.getD k ar0).set.b:Int),.int .u64 ((l.getD k ar0).set.c:Int),.int .u64 ((l.getD k ar0).set.d:Int),.string (l.getD k ar0).out,.bool (l.getD k ar0).cp]) (.agg #[.int .i64 (l.getD (k - 1) ar0).fr,.int .i64 (l.getD (k - 1) ar0).to,.int .u64 ((l.getD (k - 1) ar0).set.a:Int),.int .u64 ((l.getD (k - 1) ar0).set.b:Int),.int .u64 ((l.getD (k - 1) ar0).set.c:Int),.int .u64 ((l.getD (k - 1) ar0).set.d:Int),.string (l.getD (k - 1) ar0).out,.bool (l.getD (k - 1) ar0).cp])).run Tryz.prog W = .ok (.bool (decide (l.getD k ar0 = l.getD (k - 1) ar0))) W:=fun W => eql_arc W (l.getD k ar0) (l.getD (k - 1) ar0)
   have HM2:=Lib.hid HM
   have HB2:=Lib.hid HB
   have Ho:=Lib.hid ho
   have Hstep:=Lib.hid hstep
   clear HM HB ho hstep hcell
   generalize hx:l.getD k ar0 = x at *
   generalize hy:l.getD (k - 1) ar0 = y at *
   have Hx:=Lib.hid hx
   have Hy:=Lib.hid hy
   clear hx hy
   by_cases hxy:x = y
   ·have hd:decide (x = y) = true:=decide_eq_true hxy
    rw [hd] at he
    clear hd
    have Hxy:=Lib.hid hxy
    clear hxy
    go_wp2
    refine wp_region_quiet_below (by kernel_rfl) (by kernel_rfl) ?_
    repeat (go_big_quiet_step (fail))
    refine wpQuiet_nil ?_
    intro w5 hw5
    have HB5:=below_of hw5
    have HM5:=HM2.out.below HB5 hsz
    have L5:∀ B,B≤g→Below B w w5:=fun B hB => (HB2.out B hB).trans (HB5.mono (by omega))
    have hsz5:g < w5.heap.size:=Nat.lt_of_lt_of_le hsz HB5.size
    clear x0 y0
    clear x1 y1
    clear x2 y2
    clear x3 y3
    clear x4 y4
    clear x5 y5
    clear x6 y6
    clear x7 y7
    clear hw5 HB5 he
    have HM6:=Lib.hid HM5
    have L6:=Lib.hid L5
    clear HM5 L5
    have hck:¬ c = k:=by omega
    have Hck:=Lib.hid hck
    clear hck
    have hck:¬ c = k:=by omega
    go_wp2
    go_loopw [5,3] (fun k2 i wr => ∃ t q:Nat,1≤t∧k + t≤n∧k2 = .int .i64 t∧i = .int .i64 q∧q + 1≤k + t∧q = (once1 (l.take (k + t))).length∧RowM encA 8 wr g n (fun a => if a < q then (once1 (l.take (k + t))).getD a ar0 else l.getD a ar0)∧(∀ B,B≤g→Below B w wr)∧g < wr.heap.size) (fun k2 _ _ => n - k - (intOf k2).toNat)
    case atStart =>
     have e1:=Hstep.out
     rw [if_pos Hxy.out.symm,Ho.out] at e1
     have hl:=Hln.out
     refine ⟨1,k,by omega,by omega,rfl,rfl,by omega,by rw [e1,List.length_take]; omega,HM6.out.congr fun a ha => ?_,L6.out,hsz5⟩
     rw [e1]
     split
     ·rename_i hak
      rw [List.getD_eq_getElem?_getD,List.getD_eq_getElem?_getD,List.getElem?_take,if_pos hak]
     ·rfl
    case round =>
     clear HM6 L6 hsz5 Hstep Hx Hy Ho Hxy HM2 HB2 hsz
     obtain ⟨t,q,ht1,htn,rfl,rfl,hqt,hq,HM,HB,hsz⟩:=hrel
     by_cases hlt2:k + t < n
     ·have hj1:(0:Int)≤(t:Int):=by omega
      have hj2:(t:Int) < ((n - k:Nat):Int):=by omega
      have hj3:(0:Int)≤(t:Int) - 1:=by omega
      have hj4:(t:Int) - 1 < ((n - k:Nat):Int):=by omega
      have hj5:((t:Int) - 1).toNat = t - 1:=by omega
      have hj6:t < n - k:=by omega
      have hj7:(t:Int) < (n:Int) - (k:Int):=by omega
      have hj8:(t:Int) - 1 < (n:Int) - (k:Int):=by omega
      have hstep:=once1_next l ar0 (k + t) (by have:=Hln.out; omega) (by omega)
      have hcell:∀ a i u,q≤a→a < n→(encA (l.getD a ar0))[i]? = some u→wr.cell? ⟨g,a * 8 + i,none⟩ = some u:=fun a i u hqa ha hu => HM.1 a i u ha (by simp only [if_neg (Nat.not_lt.2 hqa)]; exact hu)
      have x0:=cell_regrown (show wr.cell? ⟨g,k * 8 + t * 8,none⟩ = some (.int .i64 (l.getD (k + t) ar0).fr) from by have:=hcell (k + t) 0 _ (by omega) hlt2 rfl; rw [Nat.add_mul] at this; exact this)
      have x1:=cell_regrown (show wr.cell? ⟨g,k * 8 + t * 8 + 1,none⟩ = some (.int .i64 (l.getD (k + t) ar0).to) from by have:=hcell (k + t) 1 _ (by omega) hlt2 rfl; rw [Nat.add_mul] at this; exact this)
      have x2:=cell_regrown (show wr.cell? ⟨g,k * 8 + t * 8 + 2,none⟩ = some (.int .u64 ((l.getD (k + t) ar0).set.a:Int)) from by have:=hcell (k + t) 2 _ (by omega) hlt2 rfl; rw [Nat.add_mul] at this; exact this)
      have x3:=cell_regrown (show wr.cell? ⟨g,k * 8 + t * 8 + 3,none⟩ = some (.int .u64 ((l.getD (k + t) ar0).set.b:Int)) from by have:=hcell (k + t) 3 _ (by omega) hlt2 rfl; rw [Nat.add_mul] at this; exact this)
      have x4:=cell_regrown (show wr.cell? ⟨g,k * 8 + t * 8 + 4,none⟩ = some (.int .u64 ((l.getD (k + t) ar0).set.c:Int)) from by have:=hcell (k + t) 4 _ (by omega) hlt2 rfl; rw [Nat.add_mul] at this; exact this)
      have x5:=cell_regrown (show wr.cell? ⟨g,k * 8 + t * 8 + 5,none⟩ = some (.int .u64 ((l.getD (k + t) ar0).set.d:Int)) from by have:=hcell (k + t) 5 _ (by omega) hlt2 rfl; rw [Nat.add_mul] at this; exact this)
      have x6:=cell_regrown (show wr.cell? ⟨g,k * 8 + t * 8 + 6,none⟩ = some (.string (l.getD (k + t) ar0).out) from by have:=hcell (k + t) 6 _ (by omega) hlt2 rfl; rw [Nat.add_mul] at this; exact this)
      have x7:=cell_regrown (show wr.cell? ⟨g,k * 8 + t * 8 + 7,none⟩ = some (.bool (l.getD (k + t) ar0).cp) from by have:=hcell (k + t) 7 _ (by omega) hlt2 rfl; rw [Nat.add_mul] at this; exact this)
      have y0:=cell_regrown (show wr.cell? ⟨g,k * 8 + (t - 1) * 8,none⟩ = some (.int .i64 (l.getD (k + t - 1) ar0).fr) from by have:=hcell (k + t - 1) 0 _ (by omega) (by omega) rfl; rw [show k + t - 1 = k + (t - 1) by omega,Nat.add_mul] at this; rw [show k + (t - 1) = k + t - 1 by omega] at this; exact this)
      have y1:=cell_regrown (show wr.cell? ⟨g,k * 8 + (t - 1) * 8 + 1,none⟩ = some (.int .i64 (l.getD (k + t - 1) ar0).to) from by have:=hcell (k + t - 1) 1 _ (by omega) (by omega) rfl; rw [show k + t - 1 = k + (t - 1) by omega,Nat.add_mul] at this; rw [show k + (t - 1) = k + t - 1 by omega] at this; exact this)
      have y2:=cell_regrown (show wr.cell? ⟨g,k * 8 + (t - 1) * 8 + 2,none⟩ = some (.int .u64 ((l.getD (k + t - 1) ar0).set.a:Int)) from by have:=hcell (k + t - 1) 2 _ (by omega) (by omega) rfl; rw [show k + t - 1 = k + (t - 1) by omega,Nat.add_mul] at this; rw [show k + (t - 1) = k + t - 1 by omega] at this; exact this)
      have y3:=cell_regrown (show wr.cell? ⟨g,k * 8 + (t - 1) * 8 + 3,none⟩ = some (.int .u64 ((l.getD (k + t - 1) ar0).set.b:Int)) from by have:=hcell (k + t - 1) 3 _ (by omega) (by omega) rfl; rw [show k + t - 1 = k + (t - 1) by omega,Nat.add_mul] at this; rw [show k + (t - 1) = k + t - 1 by omega] at this; exact this)
      have y4:=cell_regrown (show wr.cell? ⟨g,k * 8 + (t - 1) * 8 + 4,none⟩ = some (.int .u64 ((l.getD (k + t - 1) ar0).set.c:Int)) from by have:=hcell (k + t - 1) 4 _ (by omega) (by omega) rfl; rw [show k + t - 1 = k + (t - 1) by omega,Nat.add_mul] at this; rw [show k + (t - 1) = k + t - 1 by omega] at this; exact this)
      have y5:=cell_regrown (show wr.cell? ⟨g,k * 8 + (t - 1) * 8 + 5,none⟩ = some (.int .u64 ((l.getD (k + t - 1) ar0).set.d:Int)) from by have:=hcell (k + t - 1) 5 _ (by omega) (by omega) rfl; rw [show k + t - 1 = k + (t - 1) by omega,Nat.add_mul] at this; rw [show k + (t - 1) = k + t - 1 by omega] at this; exact this)
      have y6:=cell_regrown (show wr.cell? ⟨g,k * 8 + (t - 1) * 8 + 6,none⟩ = some (.string (l.getD (k + t - 1) ar0).out) from by have:=hcell (k + t - 1) 6 _ (by omega) (by omega) rfl; rw [show k + t - 1 = k + (t - 1) by omega,Nat.add_mul] at this; rw [show k + (t - 1) = k + t - 1 by omega] at this; exact this)
      have y7:=cell_regrown (show wr.cell? ⟨g,k * 8 + (t - 1) * 8 + 7,none⟩ = some (.bool (l.getD (k + t - 1) ar0).cp) from by have:=hcell (k + t - 1) 7 _ (by omega) (by omega) rfl; rw [show k + t - 1 = k + (t - 1) by omega,Nat.add_mul] at this; rw [show k + (t - 1) = k + t - 1 by omega] at this; exact this)
      have he:∀ W,(binOp .neq 61 (.agg #[.int .i64 (l.getD (k + t) ar0).fr,.int .i64 (l.getD (k + t) ar0).to,.int .u64 ((l.getD (k + t) ar0).set.a:Int),.int .u64 ((l.getD (k + t) ar0).set.b:Int),.int .u64 ((l.getD (k + t) ar0).set.c:Int),.int .u64 ((l.getD (k + t) ar0).set.d:Int),.string (l.getD (k + t) ar0).out,.bool (l.getD (k + t) ar0).cp]) (.agg #[.int .i64 (l.getD (k + t - 1) ar0).fr,.int .i64 (l.getD (k + t - 1) ar0).to,.int .u64 ((l.getD (k + t - 1) ar0).set.a:Int),.int .u64 ((l.getD (k + t - 1) ar0).set.b:Int),.int .u64 ((l.getD (k + t - 1) ar0).set.c:Int),.int .u64 ((l.getD (k + t - 1) ar0).set.d:Int),.string (l.getD (k + t - 1) ar0).out,.bool (l.getD (k + t - 1) ar0).cp])).run Tryz.prog W = .ok (.bool (!decide (l.getD (k + t) ar0 = l.getD (k + t - 1) ar0))) W:=fun W => neq_arc W (l.getD (k + t) ar0) (l.getD (k + t - 1) ar0)
      have HM2:=Lib.hid HM
      have HB2:=Lib.hid HB
      have Hq:=Lib.hid hq
      have Hstep:=Lib.hid hstep
      clear HM HB hstep hcell hq
      generalize hx:l.getD (k + t) ar0 = x at *
      generalize hy:l.getD (k + t - 1) ar0 = y at *
      have Hx:=Lib.hid hx
      have Hy:=Lib.hid hy
      clear hx hy
      by_cases hxy:x = y
      ·have hd:(!decide (x = y)) = false:=by rw [decide_eq_true hxy]; rfl
       rw [hd] at he
       clear hd
       have Hxy:=Lib.hid hxy
       clear hxy
       go_wp2
       refine wp_region_quiet_below (by kernel_rfl) (by kernel_rfl) ?_
       repeat (go_big_quiet_step (fail))
       refine wpQuiet_nil ?_
       intro w6 hw6
       have HB5:=below_of hw6
       have HM5:=Lib.hid (HM2.out.below HB5 hsz)
       have L5:=Lib.hid (show ∀ B,B≤g→Below B w w6 from fun B hB => (HB2.out B hB).trans (HB5.mono (by omega)))
       have hsz5:g < w6.heap.size:=Nat.lt_of_lt_of_le hsz HB5.size
       clear x0 y0
       clear x1 y1
       clear x2 y2
       clear x3 y3
       clear x4 y4
       clear x5 y5
       clear x6 y6
       clear x7 y7
       clear hw6 HB5 he
       go_wp2
       go_roundw
       case rel =>
        have e1:=Hstep.out
        rw [if_pos Hxy.out.symm] at e1
        refine ⟨t + 1,q,by omega,by omega,by go_num,rfl,by omega,?_,?_,L5.out,hsz5⟩
        ·rw [← Nat.add_assoc,e1]; exact Hq.out
        ·rw [← Nat.add_assoc,e1]; exact HM5.out
       case measure => simp [intOf]; omega
      ·have hd:(!decide (x = y)) = true:=by rw [decide_eq_false hxy]; rfl
       rw [hd] at he
       clear hd
       have Hxy:=Lib.hid hxy
       clear hxy
       go_wp2
       refine wp_region_quiet_below (by kernel_rfl) (by kernel_rfl) ?_
       repeat (go_big_quiet_step (fail))
       refine wpQuiet_nil ?_
       intro w6 hw6
       have HB5:=below_of hw6
       have HM5:=HM2.out.below HB5 hsz
       have L5:=Lib.hid (show ∀ B,B≤g→Below B w w6 from fun B hB => (HB2.out B hB).trans (HB5.mono (by omega)))
       have hsz5:g < w6.heap.size:=Nat.lt_of_lt_of_le hsz HB5.size
       clear x0 y0
       clear x1 y1
       clear x2 y2
       clear x3 y3
       clear x4 y4
       clear x5 y5
       clear x6 y6
       clear x7 y7
       have x0:=(show w6.cell? ⟨g,k * 8 + t * 8,none⟩ = some (.int .i64 x.fr) from by have:=HM5.1 (k + t) 0 _ hlt2 (by simp only [if_neg (show ¬ k + t < q by omega)]; rfl); rw [Hx.out,Nat.add_mul] at this; exact this)
       have x1:=(show w6.cell? ⟨g,k * 8 + t * 8 + 1,none⟩ = some (.int .i64 x.to) from by have:=HM5.1 (k + t) 1 _ hlt2 (by simp only [if_neg (show ¬ k + t < q by omega)]; rfl); rw [Hx.out,Nat.add_mul] at this; exact this)
       have x2:=(show w6.cell? ⟨g,k * 8 + t * 8 + 2,none⟩ = some (.int .u64 (x.set.a:Int)) from by have:=HM5.1 (k + t) 2 _ hlt2 (by simp only [if_neg (show ¬ k + t < q by omega)]; rfl); rw [Hx.out,Nat.add_mul] at this; exact this)
       have x3:=(show w6.cell? ⟨g,k * 8 + t * 8 + 3,none⟩ = some (.int .u64 (x.set.b:Int)) from by have:=HM5.1 (k + t) 3 _ hlt2 (by simp only [if_neg (show ¬ k + t < q by omega)]; rfl); rw [Hx.out,Nat.add_mul] at this; exact this)
       have x4:=(show w6.cell? ⟨g,k * 8 + t * 8 + 4,none⟩ = some (.int .u64 (x.set.c:Int)) from by have:=HM5.1 (k + t) 4 _ hlt2 (by simp only [if_neg (show ¬ k + t < q by omega)]; rfl); rw [Hx.out,Nat.add_mul] at this; exact this)
       have x5:=(show w6.cell? ⟨g,k * 8 + t * 8 + 5,none⟩ = some (.int .u64 (x.set.d:Int)) from by have:=HM5.1 (k + t) 5 _ hlt2 (by simp only [if_neg (show ¬ k + t < q by omega)]; rfl); rw [Hx.out,Nat.add_mul] at this; exact this)
       have x6:=(show w6.cell? ⟨g,k * 8 + t * 8 + 6,none⟩ = some (.string x.out) from by have:=HM5.1 (k + t) 6 _ hlt2 (by simp only [if_neg (show ¬ k + t < q by omega)]; rfl); rw [Hx.out,Nat.add_mul] at this; exact this)
       have x7:=(show w6.cell? ⟨g,k * 8 + t * 8 + 7,none⟩ = some (.bool x.cp) from by have:=HM5.1 (k + t) 7 _ hlt2 (by simp only [if_neg (show ¬ k + t < q by omega)]; rfl); rw [Hx.out,Nat.add_mul] at this; exact this)
       obtain ⟨v0,z0⟩:=Option.isSome_iff_exists.1 (HM5.cellAt encA_len (q * 8 + 0) (by omega) (by decide))
       have f0:=HM5.2 (q * 8 + 0) (by omega)
       obtain ⟨v1,z1⟩:=Option.isSome_iff_exists.1 (HM5.cellAt encA_len (q * 8 + 1) (by omega) (by decide))
       have f1:=HM5.2 (q * 8 + 1) (by omega)
       obtain ⟨v2,z2⟩:=Option.isSome_iff_exists.1 (HM5.cellAt encA_len (q * 8 + 2) (by omega) (by decide))
       have f2:=HM5.2 (q * 8 + 2) (by omega)
       obtain ⟨v3,z3⟩:=Option.isSome_iff_exists.1 (HM5.cellAt encA_len (q * 8 + 3) (by omega) (by decide))
       have f3:=HM5.2 (q * 8 + 3) (by omega)
       obtain ⟨v4,z4⟩:=Option.isSome_iff_exists.1 (HM5.cellAt encA_len (q * 8 + 4) (by omega) (by decide))
       have f4:=HM5.2 (q * 8 + 4) (by omega)
       obtain ⟨v5,z5⟩:=Option.isSome_iff_exists.1 (HM5.cellAt encA_len (q * 8 + 5) (by omega) (by decide))
       have f5:=HM5.2 (q * 8 + 5) (by omega)
       obtain ⟨v6,z6⟩:=Option.isSome_iff_exists.1 (HM5.cellAt encA_len (q * 8 + 6) (by omega) (by decide))
       have f6:=HM5.2 (q * 8 + 6) (by omega)
       obtain ⟨v7,z7⟩:=Option.isSome_iff_exists.1 (HM5.cellAt encA_len (q * 8 + 7) (by omega) (by decide))
       have f7:=HM5.2 (q * 8 + 7) (by omega)
       simp only [Nat.add_zero] at z0 f0
       have HP:=Lib.hid (HM5.put encA_len (by decide) q (by omega) x)
       have HM6:=Lib.hid HM5
       clear hw6 HB5 he HM5
       have hq1:(0:Int)≤(q:Int):=by omega
       have hq2:(q:Int) < (n:Int):=by omega
       go_wp2
       go_roundw
       case rel =>
        have e1:=Hstep.out
        rw [if_neg (fun h => Hxy.out h.symm)] at e1
        refine ⟨t + 1,q + 1,by omega,by omega,by go_num,by go_num,by omega,?_,?_,?_,?_⟩
        ·rw [← Nat.add_assoc,e1,List.length_append,← Hq.out]; rfl
        ·rw [← Nat.add_assoc,e1]
         refine HP.out.congr fun a ha => ?_
         have hq:=Hq.out
         by_cases h1:a = q
         ·rw [if_pos h1,if_pos (by omega),h1,List.getD_eq_getElem?_getD,List.getElem?_append_right (by omega),← hq]; simp
         ·rw [if_neg h1]
          by_cases h2:a < q
          ·rw [if_pos h2,if_pos (by omega),List.getD_eq_getElem?_getD,List.getD_eq_getElem?_getD,List.getElem?_append_left (by omega)]
          ·rw [if_neg h2,if_neg (by omega)]
        ·exact fun B hB => Go.Lib.below_setCells g hB (encA x) (q * 8) (L5.out B hB)
        ·simpa using hsz5
       case measure => simp [intOf]; omega
     ·have e:k + t = n:=by omega
      have hq1:(0:Int)≤(q:Int):=by omega
      have hq2:(q:Int)≤(n:Int):=by omega
      have hq3:(q:Int)≤(c:Int):=by omega
      have hcq:¬ c = q:=by omega
      have hrun:∀ ty,(Builtin.clear_ #[30] ty #[.slice (some ⟨g,q * 8,none⟩) (n - q) (c - q)]).run Tryz.prog wr = .ok (.tuple #[]) (wr.setCells g (q * 8) (Builtin.zeroCells (Value.cells (.agg #[.int .i64 0,.int .i64 0,.int .u64 0,.int .u64 0,.int .u64 0,.int .u64 0,.string ByteArray.empty,.bool false])) (n - q)).toList):=fun ty =>
       run_clear_K wr 30 61 ty (.agg #[.int .i64 0,.int .i64 0,.int .u64 0,.int .u64 0,.int .u64 0,.int .u64 0,.string ByteArray.empty,.bool false]) 8 Tryz.underlying30 Tryz.zeroValue61 rfl (by decide) (by intro v hv; simp [Value.cells] at hv; rcases hv with rfl | rfl | rfl | rfl | rfl | rfl | rfl | rfl <;> rfl) g (q * 8) (n - q) (c - q) (by omega)
        (fun j hj => HM.cellAt encA_len _ (by rw [Nat.mul_sub_right_distrib] at hj; omega) (by decide)) (fun j hj => HM.2 _ (by rw [Nat.mul_sub_right_distrib] at hj; omega))
      generalize (Builtin.zeroCells (Value.cells (.agg #[.int .i64 0,.int .i64 0,.int .u64 0,.int .u64 0,.int .u64 0,.int .u64 0,.string ByteArray.empty,.bool false])) (n - q)).toList = Z at hrun
      have HA:=HM.ahead encA_len q Z
      rw [Nat.min_eq_left (show q≤n by omega)] at HA
      have e2:once1 (l.take (k + t)) = rl:=by rw [e,← Hrl.out,← Hln.out,List.take_length]
      rw [e2] at HA hq
      have HA2:=Lib.hid (HA.congr (M':=fun a => rl.getD a ar0) fun a ha => by rw [if_pos ha])
      have HB2:=Lib.hid (show ∀ B,B≤g→Below B w (wr.setCells g (q * 8) Z) from fun B hB => Go.Lib.below_setCells g hB Z (q * 8) (HB B hB))
      clear HA HM HB e2
      subst hq
      go_wp2
      go_ret
      exact ⟨rfl,HA2.out,HB2.out⟩
   ·have hd:decide (x = y) = false:=decide_eq_false hxy
    rw [hd] at he
    clear hd
    have Hxy:=Lib.hid hxy
    clear hxy
    go_wp2
    refine wp_region_quiet_below (by kernel_rfl) (by kernel_rfl) ?_
    repeat (go_big_quiet_step (fail))
    refine wpQuiet_nil ?_
    intro w5 hw5
    have HB5:=below_of hw5
    have HM5:=HM2.out.below HB5 hsz
    have L5:∀ B,B≤g→Below B w w5:=fun B hB => (HB2.out B hB).trans (HB5.mono (by omega))
    have hsz5:g < w5.heap.size:=Nat.lt_of_lt_of_le hsz HB5.size
    clear x0 y0
    clear x1 y1
    clear x2 y2
    clear x3 y3
    clear x4 y4
    clear x5 y5
    clear x6 y6
    clear x7 y7
    clear hw5 HB5 he
    have HM6:=Lib.hid HM5
    have L6:=Lib.hid L5
    clear HM5 L5
    go_wp2
    go_roundw
    case rel =>
     refine ⟨k + 1,by omega,by omega,by go_num,HM6.out,L6.out,hsz5,?_⟩
     have e1:=Hstep.out
     rw [if_neg (fun h => Hxy.out h.symm),Ho.out] at e1
     rw [e1,← Hx.out]
     have hl:=Hln.out
     rw [List.getD_eq_getElem?_getD,List.getElem?_eq_getElem (by omega),List.take_succ_eq_append_getElem (by omega)]
     rfl
    case measure => simp [intOf]; omega
  ·have e:k = n:=by omega
   subst e
   have e1:rl = l:=by
    have h1:=Hrl.out
    rw [← Hln.out,List.take_length] at ho
    rw [← h1,ho]
   have HM2:=Lib.hid HM
   have HB2:=Lib.hid HB
   have E1:=Lib.hid e1
   clear HM HB ho e1
   go_wp2
   go_ret
   rw [E1.out,Hln.out]
   exact ⟨rfl,HM2.out,HB2.out⟩
end Go.Proofs.YtcondkihpmmnnaaGreatDoor
