/- Lemmas, part 7 of 50. No condition. -/
import Derived.Test.YtcondkihpmmnnaaGreatDoorQ05
import Derived.Test.YtcondkihpmmnnaaGreatDoorQ04
namespace Go.Proofs.YtcondkihpmmnnaaGreatDoor
open Go.RowKit Go.Sort
set_option maxRecDepth 100000 in
set_option maxHeartbeats 8000000 in
theorem compactT_any (g c:Nat) (l:List Tp) (w:World) (HM:RowM encT 2 w g l.length fun a => l.getD a tp0) (hg:g < w.heap.size) (hc:l.length≤c) (_hm:c≤maxLen) (hn:l.length≤1000000) :
    Calls Tryz.prog 81 #[.slice (some ⟨g,0,none⟩) l.length c] w fun e w' => e = .returned (.slice (some ⟨g,0,none⟩) (once1 l).length c)∧RowM encT 2 w' g (once1 l).length (fun a => (once1 l).getD a tp0)∧(∀ B,B≤g→Below B w w'):=by
 unfold maxLen at _hm
 by_cases h2:l.length < 2
 ·have e:once1 l = l:=by
    match l,h2 with
    | [],_ => rfl
    | [x],_ => rfl
  rw [e]
  have HM2:=Lib.hid HM
  clear HM e
  generalize l.length = n at *
  go_enter Tryz.func81,Tryz.ntmps81
  go_wp2
  go_ret
  exact ⟨rfl,HM2.out,fun B _ => Below.refl B _⟩
 generalize hln:l.length = n at *
 have Hln:=Lib.hid hln
 clear hln
 have HT:=Lib.hid HM
 clear HM
 generalize hrl:once1 l = rl at *
 have Hrl:=Lib.hid hrl
 clear hrl
 go_enter Tryz.func81,Tryz.ntmps81
 go_wp2
 go_loopw [3] (fun i wr => ∃ k:Nat,1≤k∧k≤n∧i = .int .i64 k∧RowM encT 2 wr g n (fun a => l.getD a tp0)∧(∀ B,B≤g→Below B w wr)∧g < wr.heap.size∧once1 (l.take k) = l.take k) (fun i _ => n - (intOf i).toNat)
 case atStart => exact ⟨1,by omega,by omega,rfl,HT.out,fun B _ => Below.refl B _,hg,by cases l <;> rfl⟩
 case round =>
  obtain ⟨k,hk1,hkn,rfl,HM,HB,hsz,ho⟩:=hrel
  by_cases hlt:k < n
  ·have hi1:(0:Int)≤(k:Int):=by omega
   have hi2:(k:Int) < (n:Int):=by omega
   have hi3:(0:Int)≤(k:Int) - 1:=by omega
   have hi4:(k:Int) - 1 < (n:Int):=by omega
   have hi5:((k:Int) - 1).toNat = k - 1:=by omega
   have hstep:=once1_next l tp0 k (by have:=Hln.out; omega) hk1
   have hcell:∀ a i u,a < n→(encT (l.getD a tp0))[i]? = some u→wr.cell? ⟨g,a * 2 + i,none⟩ = some u:=HM.1
   have x0:=cell_regrown (show wr.cell? ⟨g,k * 2,none⟩ = some (.int .i64 (l.getD k tp0).st) from hcell k 0 _ hlt rfl)
   have x1:=cell_regrown (show wr.cell? ⟨g,k * 2 + 1,none⟩ = some (.string (l.getD k tp0).out) from hcell k 1 _ hlt rfl)
   have y0:=cell_regrown (show wr.cell? ⟨g,(k - 1) * 2,none⟩ = some (.int .i64 (l.getD (k - 1) tp0).st) from hcell (k - 1) 0 _ (by omega) rfl)
   have y1:=cell_regrown (show wr.cell? ⟨g,(k - 1) * 2 + 1,none⟩ = some (.string (l.getD (k - 1) tp0).out) from hcell (k - 1) 1 _ (by omega) rfl)
   have he:∀ W,(binOp .eql 54 (.agg #[.int .i64 (l.getD k tp0).st,.string (l.getD k tp0).out]) (.agg #[.int .i64 (l.getD (k - 1) tp0).st,.string (l.getD (k - 1) tp0).out])).run Tryz.prog W = .ok (.bool (decide (l.getD k tp0 = l.getD (k - 1) tp0))) W:=fun W => eql_tip W (l.getD k tp0) (l.getD (k - 1) tp0)
   have HM2:=Lib.hid HM
   have HB2:=Lib.hid HB
   have Ho:=Lib.hid ho
   have Hstep:=Lib.hid hstep
   clear HM HB ho hstep hcell
   generalize hx:l.getD k tp0 = x at *
   generalize hy:l.getD (k - 1) tp0 = y at *
   have Hx:=Lib.hid hx
   have Hy:=Lib.hid hy
   clear hx hy
   by_cases hxy:x = y
   ·have hd:decide (x = y) = true:=decide_eq_true hxy
    rw [hd] at he
    clear hd
    have Hxy:=Lib.hid hxy
    clear hxy
    go_wp2
    refine wp_region_quiet_below (by kernel_rfl) (by kernel_rfl) ?_
    repeat (go_big_quiet_step (fail))
    refine wpQuiet_nil ?_
    intro w5 hw5
    have HB5:=below_of hw5
    have HM5:=HM2.out.below HB5 hsz
    have L5:∀ B,B≤g→Below B w w5:=fun B hB => (HB2.out B hB).trans (HB5.mono (by omega))
    have hsz5:g < w5.heap.size:=Nat.lt_of_lt_of_le hsz HB5.size
    clear x0 y0
    clear x1 y1
    clear hw5 HB5 he
    have HM6:=Lib.hid HM5
    have L6:=Lib.hid L5
    clear HM5 L5
    have hck:¬ c = k:=by omega
    have Hck:=Lib.hid hck
    clear hck
    have hck:¬ c = k:=by omega
    go_wp2
    go_loopw [5,3] (fun k2 i wr => ∃ t q:Nat,1≤t∧k + t≤n∧k2 = .int .i64 t∧i = .int .i64 q∧q + 1≤k + t∧q = (once1 (l.take (k + t))).length∧RowM encT 2 wr g n (fun a => if a < q then (once1 (l.take (k + t))).getD a tp0 else l.getD a tp0)∧(∀ B,B≤g→Below B w wr)∧g < wr.heap.size) (fun k2 _ _ => n - k - (intOf k2).toNat)
    case atStart =>
     have e1:=Hstep.out
     rw [if_pos Hxy.out.symm,Ho.out] at e1
     have hl:=Hln.out
     refine ⟨1,k,by omega,by omega,rfl,rfl,by omega,by rw [e1,List.length_take]; omega,HM6.out.congr fun a ha => ?_,L6.out,hsz5⟩
     rw [e1]
     split
     ·rename_i hak
      rw [List.getD_eq_getElem?_getD,List.getD_eq_getElem?_getD,List.getElem?_take,if_pos hak]
     ·rfl
    case round =>
     clear HM6 L6 hsz5 Hstep Hx Hy Ho Hxy HM2 HB2 hsz
     obtain ⟨t,q,ht1,htn,rfl,rfl,hqt,hq,HM,HB,hsz⟩:=hrel
     by_cases hlt2:k + t < n
     ·have hj1:(0:Int)≤(t:Int):=by omega
      have hj2:(t:Int) < ((n - k:Nat):Int):=by omega
      have hj3:(0:Int)≤(t:Int) - 1:=by omega
      have hj4:(t:Int) - 1 < ((n - k:Nat):Int):=by omega
      have hj5:((t:Int) - 1).toNat = t - 1:=by omega
      have hj6:t < n - k:=by omega
      have hj7:(t:Int) < (n:Int) - (k:Int):=by omega
      have hj8:(t:Int) - 1 < (n:Int) - (k:Int):=by omega
      have hstep:=once1_next l tp0 (k + t) (by have:=Hln.out; omega) (by omega)
      have hcell:∀ a i u,q≤a→a < n→(encT (l.getD a tp0))[i]? = some u→wr.cell? ⟨g,a * 2 + i,none⟩ = some u:=fun a i u hqa ha hu => HM.1 a i u ha (by simp only [if_neg (Nat.not_lt.2 hqa)]; exact hu)
      have x0:=cell_regrown (show wr.cell? ⟨g,k * 2 + t * 2,none⟩ = some (.int .i64 (l.getD (k + t) tp0).st) from by have:=hcell (k + t) 0 _ (by omega) hlt2 rfl; rw [Nat.add_mul] at this; exact this)
      have x1:=cell_regrown (show wr.cell? ⟨g,k * 2 + t * 2 + 1,none⟩ = some (.string (l.getD (k + t) tp0).out) from by have:=hcell (k + t) 1 _ (by omega) hlt2 rfl; rw [Nat.add_mul] at this; exact this)
      have y0:=cell_regrown (show wr.cell? ⟨g,k * 2 + (t - 1) * 2,none⟩ = some (.int .i64 (l.getD (k + t - 1) tp0).st) from by have:=hcell (k + t - 1) 0 _ (by omega) (by omega) rfl; rw [show k + t - 1 = k + (t - 1) by omega,Nat.add_mul] at this; rw [show k + (t - 1) = k + t - 1 by omega] at this; exact this)
      have y1:=cell_regrown (show wr.cell? ⟨g,k * 2 + (t - 1) * 2 + 1,none⟩ = some (.string (l.getD (k + t - 1) tp0).out) from by have:=hcell (k + t - 1) 1 _ (by omega) (by omega) rfl; rw [show k + t - 1 = k + (t - 1) by omega,Nat.add_mul] at this; rw [show k + (t - 1) = k + t - 1 by omega] at this; exact this)
      have he:∀ W,(binOp .neq 54 (.agg #[.int .i64 (l.getD (k + t) tp0).st,.string (l.getD (k + t) tp0).out]) (.agg #[.int .i64 (l.getD (k + t - 1) tp0).st,.string (l.getD (k + t - 1) tp0).out])).run Tryz.prog W = .ok (.bool (!decide (l.getD (k + t) tp0 = l.getD (k + t - 1) tp0))) W:=fun W => neq_tip W (l.getD (k + t) tp0) (l.getD (k + t - 1) tp0)
      have HM2:=Lib.hid HM
      have HB2:=Lib.hid HB
      have Hq:=Lib.hid hq
      have Hstep:=Lib.hid hstep
      clear HM HB hstep hcell hq
      generalize hx:l.getD (k + t) tp0 = x at *
      generalize hy:l.getD (k + t - 1) tp0 = y at *
      have Hx:=Lib.hid hx
      have Hy:=Lib.hid hy
      clear hx hy
      by_cases hxy:x = y
      ·have hd:(!decide (x = y)) = false:=by rw [decide_eq_true hxy]; rfl
       rw [hd] at he
       clear hd
       have Hxy:=Lib.hid hxy
       clear hxy
       go_wp2
       refine wp_region_quiet_below (by kernel_rfl) (by kernel_rfl) ?_
       repeat (go_big_quiet_step (fail))
       refine wpQuiet_nil ?_
       intro w6 hw6
       have HB5:=below_of hw6
       have HM5:=Lib.hid (HM2.out.below HB5 hsz)
       have L5:=Lib.hid (show ∀ B,B≤g→Below B w w6 from fun B hB => (HB2.out B hB).trans (HB5.mono (by omega)))
       have hsz5:g < w6.heap.size:=Nat.lt_of_lt_of_le hsz HB5.size
       clear x0 y0
       clear x1 y1
       clear hw6 HB5 he
       go_wp2
       go_roundw
       case rel =>
        have e1:=Hstep.out
        rw [if_pos Hxy.out.symm] at e1
        refine ⟨t + 1,q,by omega,by omega,by go_num,rfl,by omega,?_,?_,L5.out,hsz5⟩
        ·rw [← Nat.add_assoc,e1]; exact Hq.out
        ·rw [← Nat.add_assoc,e1]; exact HM5.out
       case measure => simp [intOf]; omega
      ·have hd:(!decide (x = y)) = true:=by rw [decide_eq_false hxy]; rfl
       rw [hd] at he
       clear hd
       have Hxy:=Lib.hid hxy
       clear hxy
       go_wp2
       refine wp_region_quiet_below (by kernel_rfl) (by kernel_rfl) ?_
       repeat (go_big_quiet_step (fail))
       refine wpQuiet_nil ?_
       intro w6 hw6
       have HB5:=below_of hw6
       have HM5:=HM2.out.below HB5 hsz
       have L5:=Lib.hid (show ∀ B,B≤g→Below B w w6 from fun B hB => (HB2.out B hB).trans (HB5.mono (by omega)))
       have hsz5:g < w6.heap.size:=Nat.lt_of_lt_of_le hsz HB5.size
       clear x0 y0
       clear x1 y1
       have x0:=(show w6.cell? ⟨g,k * 2 + t * 2,none⟩ = some (.int .i64 x.st) from by have:=HM5.1 (k + t) 0 _ hlt2 (by simp only [if_neg (show ¬ k + t < q by omega)]; rfl); rw [Hx.out,Nat.add_mul] at this; exact this)
       have x1:=(show w6.cell? ⟨g,k * 2 + t * 2 + 1,none⟩ = some (.string x.out) from by have:=HM5.1 (k + t) 1 _ hlt2 (by simp only [if_neg (show ¬ k + t < q by omega)]; rfl); rw [Hx.out,Nat.add_mul] at this; exact this)
       obtain ⟨v0,z0⟩:=Option.isSome_iff_exists.1 (HM5.cellAt encT_len (q * 2 + 0) (by omega) (by decide))
       have f0:=HM5.2 (q * 2 + 0) (by omega)
       obtain ⟨v1,z1⟩:=Option.isSome_iff_exists.1 (HM5.cellAt encT_len (q * 2 + 1) (by omega) (by decide))
       have f1:=HM5.2 (q * 2 + 1) (by omega)
       simp only [Nat.add_zero] at z0 f0
       have HP:=Lib.hid (HM5.put encT_len (by decide) q (by omega) x)
       have HM6:=Lib.hid HM5
       clear hw6 HB5 he HM5
       have hq1:(0:Int)≤(q:Int):=by omega
       have hq2:(q:Int) < (n:Int):=by omega
       go_wp2
       go_roundw
       case rel =>
        have e1:=Hstep.out
        rw [if_neg (fun h => Hxy.out h.symm)] at e1
        refine ⟨t + 1,q + 1,by omega,by omega,by go_num,by go_num,by omega,?_,?_,?_,?_⟩
        ·rw [← Nat.add_assoc,e1,List.length_append,← Hq.out]; rfl
        ·rw [← Nat.add_assoc,e1]
         refine HP.out.congr fun a ha => ?_
         have hq:=Hq.out
         by_cases h1:a = q
         ·rw [if_pos h1,if_pos (by omega),h1,List.getD_eq_getElem?_getD,List.getElem?_append_right (by omega),← hq]; simp
         ·rw [if_neg h1]
          by_cases h2:a < q
          ·rw [if_pos h2,if_pos (by omega),List.getD_eq_getElem?_getD,List.getD_eq_getElem?_getD,List.getElem?_append_left (by omega)]
          ·rw [if_neg h2,if_neg (by omega)]
        ·exact fun B hB => Go.Lib.below_setCells g hB (encT x) (q * 2) (L5.out B hB)
        ·simpa using hsz5
       case measure => simp [intOf]; omega
     ·have e:k + t = n:=by omega
      have hq1:(0:Int)≤(q:Int):=by omega
      have hq2:(q:Int)≤(n:Int):=by omega
      have hq3:(q:Int)≤(c:Int):=by omega
      have hcq:¬ c = q:=by omega
      have hrun:∀ ty,(Builtin.clear_ #[29] ty #[.slice (some ⟨g,q * 2,none⟩) (n - q) (c - q)]).run Tryz.prog wr = .ok (.tuple #[]) (wr.setCells g (q * 2) (Builtin.zeroCells (Value.cells (.agg #[.int .i64 0,.string ByteArray.empty])) (n - q)).toList):=fun ty =>
       run_clear_K wr 29 54 ty (.agg #[.int .i64 0,.string ByteArray.empty]) 2 Tryz.underlying29 Tryz.zeroValue54 rfl (by decide) (by intro v hv; simp [Value.cells] at hv; rcases hv with rfl | rfl <;> rfl) g (q * 2) (n - q) (c - q) (by omega)
        (fun j hj => HM.cellAt encT_len _ (by rw [Nat.mul_sub_right_distrib] at hj; omega) (by decide)) (fun j hj => HM.2 _ (by rw [Nat.mul_sub_right_distrib] at hj; omega))
      generalize (Builtin.zeroCells (Value.cells (.agg #[.int .i64 0,.string ByteArray.empty])) (n - q)).toList = Z at hrun
      have HA:=HM.ahead encT_len q Z
      rw [Nat.min_eq_left (show q≤n by omega)] at HA
      have e2:once1 (l.take (k + t)) = rl:=by rw [e,← Hrl.out,← Hln.out,List.take_length]
      rw [e2] at HA hq
      have HA2:=Lib.hid (HA.congr (M':=fun a => rl.getD a tp0) fun a ha => by rw [if_pos ha])
      have HB2:=Lib.hid (show ∀ B,B≤g→Below B w (wr.setCells g (q * 2) Z) from fun B hB => Go.Lib.below_setCells g hB Z (q * 2) (HB B hB))
      clear HA HM HB e2
      subst hq
      go_wp2
      go_ret
      exact ⟨rfl,HA2.out,HB2.out⟩
   ·have hd:decide (x = y) = false:=decide_eq_false hxy
    rw [hd] at he
    clear hd
    have Hxy:=Lib.hid hxy
    clear hxy
    go_wp2
    refine wp_region_quiet_below (by kernel_rfl) (by kernel_rfl) ?_
    repeat (go_big_quiet_step (fail))
    refine wpQuiet_nil ?_
    intro w5 hw5
    have HB5:=below_of hw5
    have HM5:=HM2.out.below HB5 hsz
    have L5:∀ B,B≤g→Below B w w5:=fun B hB => (HB2.out B hB).trans (HB5.mono (by omega))
    have hsz5:g < w5.heap.size:=Nat.lt_of_lt_of_le hsz HB5.size
    clear x0 y0
    clear x1 y1
    clear hw5 HB5 he
    have HM6:=Lib.hid HM5
    have L6:=Lib.hid L5
    clear HM5 L5
    go_wp2
    go_roundw
    case rel =>
     refine ⟨k + 1,by omega,by omega,by go_num,HM6.out,L6.out,hsz5,?_⟩
     have e1:=Hstep.out
     rw [if_neg (fun h => Hxy.out h.symm),Ho.out] at e1
     rw [e1,← Hx.out]
     have hl:=Hln.out
     rw [List.getD_eq_getElem?_getD,List.getElem?_eq_getElem (by omega),List.take_succ_eq_append_getElem (by omega)]
     rfl
    case measure => simp [intOf]; omega
  ·have e:k = n:=by omega
   subst e
   have e1:rl = l:=by
    have h1:=Hrl.out
    rw [← Hln.out,List.take_length] at ho
    rw [← h1,ho]
   have HM2:=Lib.hid HM
   have HB2:=Lib.hid HB
   have E1:=Lib.hid e1
   clear HM HB ho e1
   go_wp2
   go_ret
   rw [E1.out,Hln.out]
   exact ⟨rfl,HM2.out,HB2.out⟩
set_option maxRecDepth 100000 in
set_option maxHeartbeats 8000000 in
theorem compactA_any (g c:Nat) (l:List Ar) (w:World) (HM:RowM encA 8 w g l.length fun a => l.getD a ar0) (hg:g < w.heap.size) (hc:l.length≤c) (_hm:c≤maxLen) (hn:l.length≤1000000) :
    Calls Tryz.prog 87 #[.slice (some ⟨g,0,none⟩) l.length c] w fun e w' => e = .returned (.slice (some ⟨g,0,none⟩) (once1 l).length c)∧RowM encA 8 w' g (once1 l).length (fun a => (once1 l).getD a ar0)∧(∀ B,B≤g→Below B w w'):=by
 unfold maxLen at _hm
 by_cases h2:l.length < 2
 ·have e:once1 l = l:=by
    match l,h2 with
    | [],_ => rfl
    | [x],_ => rfl
  rw [e]
  have HM2:=Lib.hid HM
  clear HM e
  generalize l.length = n at *
  go_enter Tryz.func87,Tryz.ntmps87
  go_wp2
  go_ret
  exact ⟨rfl,HM2.out,fun B _ => Below.refl B _⟩
 generalize hln:l.length = n at *
 have Hln:=Lib.hid hln
 clear hln
 have HT:=Lib.hid HM
 clear HM
 generalize hrl:once1 l = rl at *
 have Hrl:=Lib.hid hrl
 clear hrl
 go_enter Tryz.func87,Tryz.ntmps87
 go_wp2
 go_loopw [3] (fun i wr => ∃ k:Nat,1≤k∧k≤n∧i = .int .i64 k∧RowM encA 8 wr g n (fun a => l.getD a ar0)∧(∀ B,B≤g→Below B w wr)∧g < wr.heap.size∧once1 (l.take k) = l.take k) (fun i _ => n - (intOf i).toNat)
 case atStart => exact ⟨1,by omega,by omega,rfl,HT.out,fun B _ => Below.refl B _,hg,by cases l <;> rfl⟩
 case round =>
  obtain ⟨k,hk1,hkn,rfl,HM,HB,hsz,ho⟩:=hrel
  by_cases hlt:k < n
  ·have hi1:(0:Int)≤(k:Int):=by omega
   have hi2:(k:Int) < (n:Int):=by omega
   have hi3:(0:Int)≤(k:Int) - 1:=by omega
   have hi4:(k:Int) - 1 < (n:Int):=by omega
   have hi5:((k:Int) - 1).toNat = k - 1:=by omega
   have hstep:=once1_next l ar0 k (by have:=Hln.out; omega) hk1
   have hcell:∀ a i u,a < n→(encA (l.getD a ar0))[i]? = some u→wr.cell? ⟨g,a * 8 + i,none⟩ = some u:=HM.1
   have x0:=cell_regrown (show wr.cell? ⟨g,k * 8,none⟩ = some (.int .i64 (l.getD k ar0).fr) from hcell k 0 _ hlt rfl)
   have x1:=cell_regrown (show wr.cell? ⟨g,k * 8 + 1,none⟩ = some (.int .i64 (l.getD k ar0).to) from hcell k 1 _ hlt rfl)
   have x2:=cell_regrown (show wr.cell? ⟨g,k * 8 + 2,none⟩ = some (.int .u64 ((l.getD k ar0).set.a:Int)) from hcell k 2 _ hlt rfl)
   have x3:=cell_regrown (show wr.cell? ⟨g,k * 8 + 3,none⟩ = some (.int .u64 ((l.getD k ar0).set.b:Int)) from hcell k 3 _ hlt rfl)
   have x4:=cell_regrown (show wr.cell? ⟨g,k * 8 + 4,none⟩ = some (.int .u64 ((l.getD k ar0).set.c:Int)) from hcell k 4 _ hlt rfl)
   have x5:=cell_regrown (show wr.cell? ⟨g,k * 8 + 5,none⟩ = some (.int .u64 ((l.getD k ar0).set.d:Int)) from hcell k 5 _ hlt rfl)
   have x6:=cell_regrown (show wr.cell? ⟨g,k * 8 + 6,none⟩ = some (.string (l.getD k ar0).out) from hcell k 6 _ hlt rfl)
   have x7:=cell_regrown (show wr.cell? ⟨g,k * 8 + 7,none⟩ = some (.bool (l.getD k ar0).cp) from hcell k 7 _ hlt rfl)
   have y0:=cell_regrown (show wr.cell? ⟨g,(k - 1) * 8,none⟩ = some (.int .i64 (l.getD (k - 1) ar0).fr) from hcell (k - 1) 0 _ (by omega) rfl)
   have y1:=cell_regrown (show wr.cell? ⟨g,(k - 1) * 8 + 1,none⟩ = some (.int .i64 (l.getD (k - 1) ar0).to) from hcell (k - 1) 1 _ (by omega) rfl)
   have y2:=cell_regrown (show wr.cell? ⟨g,(k - 1) * 8 + 2,none⟩ = some (.int .u64 ((l.getD (k - 1) ar0).set.a:Int)) from hcell (k - 1) 2 _ (by omega) rfl)
   have y3:=cell_regrown (show wr.cell? ⟨g,(k - 1) * 8 + 3,none⟩ = some (.int .u64 ((l.getD (k - 1) ar0).set.b:Int)) from hcell (k - 1) 3 _ (by omega) rfl)
   have y4:=cell_regrown (show wr.cell? ⟨g,(k - 1) * 8 + 4,none⟩ = some (.int .u64 ((l.getD (k - 1) ar0).set.c:Int)) from hcell (k - 1) 4 _ (by omega) rfl)
   have y5:=cell_regrown (show wr.cell? ⟨g,(k - 1) * 8 + 5,none⟩ = some (.int .u64 ((l.getD (k - 1) ar0).set.d:Int)) from hcell (k - 1) 5 _ (by omega) rfl)
   have y6:=cell_regrown (show wr.cell? ⟨g,(k - 1) * 8 + 6,none⟩ = some (.string (l.getD (k - 1) ar0).out) from hcell (k - 1) 6 _ (by omega) rfl)
   have y7:=cell_regrown (show wr.cell? ⟨g,(k - 1) * 8 + 7,none⟩ = some (.bool (l.getD (k - 1) ar0).cp) from hcell (k - 1) 7 _ (by omega) rfl)
   have he:∀ W,(binOp .eql 61 (.agg #[.int .i64 (l.getD k ar0).fr,.int .i64 (l.getD k ar0).to,.int .u64 ((l.getD k ar0).set.a:Int),.int .u64 ((l.getD k ar0).set.b:Int),.int .u64 ((l.getD k ar0).set.c:Int),.int .u64 ((l.getD k ar0).set.d:Int),.string (l.getD k ar0).out,.bool (l.getD k ar0).cp]) (.agg #[.int .i64 (l.getD (k - 1) ar0).fr,.int .i64 (l.getD (k - 1) ar0).to,.int .u64 ((l.getD (k - 1) ar0).set.a:Int),.int .u64 ((l.getD (k - 1) ar0).set.b:Int),.int .u64 ((l.getD (k - 1) ar0).set.c:Int),.int .u64 ((l.getD (k - 1) ar0).set.d:Int),.string (l.getD (k - 1) ar0).out,.bool (l.getD (k - 1) ar0).cp])).run Tryz.prog W = .ok (.bool (decide (l.getD k ar0 = l.getD (k - 1) ar0))) W:=fun W => eql_arc W (l.getD k ar0) (l.getD (k - 1) ar0)
   have HM2:=Lib.hid HM
   have HB2:=Lib.hid HB
   have Ho:=Lib.hid ho
   have Hstep:=Lib.hid hstep
   clear HM HB ho hstep hcell
   generalize hx:l.getD k ar0 = x at *
   generalize hy:l.getD (k - 1) ar0 = y at *
   have Hx:=Lib.hid hx
   have Hy:=Lib.hid hy
   clear hx hy
   by_cases hxy:x = y
   ·have hd:decide (x = y) = true:=decide_eq_true hxy
    rw [hd] at he
    clear hd
    have Hxy:=Lib.hid hxy
    clear hxy
    go_wp2
    refine wp_region_quiet_below (by kernel_rfl) (by kernel_rfl) ?_
    repeat (go_big_quiet_step (fail))
    refine wpQuiet_nil ?_
    intro w5 hw5
    have HB5:=below_of hw5
    have HM5:=HM2.out.below HB5 hsz
    have L5:∀ B,B≤g→Below B w w5:=fun B hB => (HB2.out B hB).trans (HB5.mono (by omega))
    have hsz5:g < w5.heap.size:=Nat.lt_of_lt_of_le hsz HB5.size
    clear x0 y0
    clear x1 y1
    clear x2 y2
    clear x3 y3
    clear x4 y4
    clear x5 y5
    clear x6 y6
    clear x7 y7
    clear hw5 HB5 he
    have HM6:=Lib.hid HM5
    have L6:=Lib.hid L5
    clear HM5 L5
    have hck:¬ c = k:=by omega
    have Hck:=Lib.hid hck
    clear hck
    have hck:¬ c = k:=by omega
    go_wp2
    go_loopw [5,3] (fun k2 i wr => ∃ t q:Nat,1≤t∧k + t≤n∧k2 = .int .i64 t∧i = .int .i64 q∧q + 1≤k + t∧q = (once1 (l.take (k + t))).length∧RowM encA 8 wr g n (fun a => if a < q then (once1 (l.take (k + t))).getD a ar0 else l.getD a ar0)∧(∀ B,B≤g→Below B w wr)∧g < wr.heap.size) (fun k2 _ _ => n - k - (intOf k2).toNat)
    case atStart =>
     have e1:=Hstep.out
     rw [if_pos Hxy.out.symm,Ho.out] at e1
     have hl:=Hln.out
     refine ⟨1,k,by omega,by omega,rfl,rfl,by omega,by rw [e1,List.length_take]; omega,HM6.out.congr fun a ha => ?_,L6.out,hsz5⟩
     rw [e1]
     split
     ·rename_i hak
      rw [List.getD_eq_getElem?_getD,List.getD_eq_getElem?_getD,List.getElem?_take,if_pos hak]
     ·rfl
    case round =>
     clear HM6 L6 hsz5 Hstep Hx Hy Ho Hxy HM2 HB2 hsz
     obtain ⟨t,q,ht1,htn,rfl,rfl,hqt,hq,HM,HB,hsz⟩:=hrel
     by_cases hlt2:k + t < n
     ·have hj1:(0:Int)≤(t:Int):=by omega
      have hj2:(t:Int) < ((n - k:Nat):Int):=by omega
      have hj3:(0:Int)≤(t:Int) - 1:=by omega
      have hj4:(t:Int) - 1 < ((n - k:Nat):Int):=by omega
      have hj5:((t:Int) - 1).toNat = t - 1:=by omega
      have hj6:t < n - k:=by omega
      have hj7:(t:Int) < (n:Int) - (k:Int):=by omega
      have hj8:(t:Int) - 1 < (n:Int) - (k:Int):=by omega
      have hstep:=once1_next l ar0 (k + t) (by have:=Hln.out; omega) (by omega)
      have hcell:∀ a i u,q≤a→a < n→(encA (l.getD a ar0))[i]? = some u→wr.cell? ⟨g,a * 8 + i,none⟩ = some u:=fun a i u hqa ha hu => HM.1 a i u ha (by simp only [if_neg (Nat.not_lt.2 hqa)]; exact hu)
      have x0:=cell_regrown (show wr.cell? ⟨g,k * 8 + t * 8,none⟩ = some (.int .i64 (l.getD (k + t) ar0).fr) from by have:=hcell (k + t) 0 _ (by omega) hlt2 rfl; rw [Nat.add_mul] at this; exact this)
      have x1:=cell_regrown (show wr.cell? ⟨g,k * 8 + t * 8 + 1,none⟩ = some (.int .i64 (l.getD (k + t) ar0).to) from by have:=hcell (k + t) 1 _ (by omega) hlt2 rfl; rw [Nat.add_mul] at this; exact this)
      have x2:=cell_regrown (show wr.cell? ⟨g,k * 8 + t * 8 + 2,none⟩ = some (.int .u64 ((l.getD (k + t) ar0).set.a:Int)) from by have:=hcell (k + t) 2 _ (by omega) hlt2 rfl; rw [Nat.add_mul] at this; exact this)
      have x3:=cell_regrown (show wr.cell? ⟨g,k * 8 + t * 8 + 3,none⟩ = some (.int .u64 ((l.getD (k + t) ar0).set.b:Int)) from by have:=hcell (k + t) 3 _ (by omega) hlt2 rfl; rw [Nat.add_mul] at this; exact this)
      have x4:=cell_regrown (show wr.cell? ⟨g,k * 8 + t * 8 + 4,none⟩ = some (.int .u64 ((l.getD (k + t) ar0).set.c:Int)) from by have:=hcell (k + t) 4 _ (by omega) hlt2 rfl; rw [Nat.add_mul] at this; exact this)
      have x5:=cell_regrown (show wr.cell? ⟨g,k * 8 + t * 8 + 5,none⟩ = some (.int .u64 ((l.getD (k + t) ar0).set.d:Int)) from by have:=hcell (k + t) 5 _ (by omega) hlt2 rfl; rw [Nat.add_mul] at this; exact this)
      have x6:=cell_regrown (show wr.cell? ⟨g,k * 8 + t * 8 + 6,none⟩ = some (.string (l.getD (k + t) ar0).out) from by have:=hcell (k + t) 6 _ (by omega) hlt2 rfl; rw [Nat.add_mul] at this; exact this)
      have x7:=cell_regrown (show wr.cell? ⟨g,k * 8 + t * 8 + 7,none⟩ = some (.bool (l.getD (k + t) ar0).cp) from by have:=hcell (k + t) 7 _ (by omega) hlt2 rfl; rw [Nat.add_mul] at this; exact this)
      have y0:=cell_regrown (show wr.cell? ⟨g,k * 8 + (t - 1) * 8,none⟩ = some (.int .i64 (l.getD (k + t - 1) ar0).fr) from by have:=hcell (k + t - 1) 0 _ (by omega) (by omega) rfl; rw [show k + t - 1 = k + (t - 1) by omega,Nat.add_mul] at this; rw [show k + (t - 1) = k + t - 1 by omega] at this; exact this)
      have y1:=cell_regrown (show wr.cell? ⟨g,k * 8 + (t - 1) * 8 + 1,none⟩ = some (.int .i64 (l.getD (k + t - 1) ar0).to) from by have:=hcell (k + t - 1) 1 _ (by omega) (by omega) rfl; rw [show k + t - 1 = k + (t - 1) by omega,Nat.add_mul] at this; rw [show k + (t - 1) = k + t - 1 by omega] at this; exact this)
      have y2:=cell_regrown (show wr.cell? ⟨g,k * 8 + (t - 1) * 8 + 2,none⟩ = some (.int .u64 ((l.getD (k + t - 1) ar0).set.a:Int)) from by have:=hcell (k + t - 1) 2 _ (by omega) (by omega) rfl; rw [show k + t - 1 = k + (t - 1) by omega,Nat.add_mul] at this; rw [show k + (t - 1) = k + t - 1 by omega] at this; exact this)
      have y3:=cell_regrown (show wr.cell? ⟨g,k * 8 + (t - 1) * 8 + 3,none⟩ = some (.int .u64 ((l.getD (k + t - 1) ar0).set.b:Int)) from by have:=hcell (k + t - 1) 3 _ (by omega) (by omega) rfl; rw [show k + t - 1 = k + (t - 1) by omega,Nat.add_mul] at this; rw [show k + (t - 1) = k + t - 1 by omega] at this; exact this)
      have y4:=cell_regrown (show wr.cell? ⟨g,k * 8 + (t - 1) * 8 + 4,none⟩ = some (.int .u64 ((l.getD (k + t - 1) ar0).set.c:Int)) from by have:=hcell (k + t - 1) 4 _ (by omega) (by omega) rfl; rw [show k + t - 1 = k + (t - 1) by omega,Nat.add_mul] at this; rw [show k + (t - 1) = k + t - 1 by omega] at this; exact this)
      have y5:=cell_regrown (show wr.cell? ⟨g,k * 8 + (t - 1) * 8 + 5,none⟩ = some (.int .u64 ((l.getD (k + t - 1) ar0).set.d:Int)) from by have:=hcell (k + t - 1) 5 _ (by omega) (by omega) rfl; rw [show k + t - 1 = k + (t - 1) by omega,Nat.add_mul] at this; rw [show k + (t - 1) = k + t - 1 by omega] at this; exact this)
      have y6:=cell_regrown (show wr.cell? ⟨g,k * 8 + (t - 1) * 8 + 6,none⟩ = some (.string (l.getD (k + t - 1) ar0).out) from by have:=hcell (k + t - 1) 6 _ (by omega) (by omega) rfl; rw [show k + t - 1 = k + (t - 1) by omega,Nat.add_mul] at this; rw [show k + (t - 1) = k + t - 1 by omega] at this; exact this)
      have y7:=cell_regrown (show wr.cell? ⟨g,k * 8 + (t - 1) * 8 + 7,none⟩ = some (.bool (l.getD (k + t - 1) ar0).cp) from by have:=hcell (k + t - 1) 7 _ (by omega) (by omega) rfl; rw [show k + t - 1 = k + (t - 1) by omega,Nat.add_mul] at this; rw [show k + (t - 1) = k + t - 1 by omega] at this; exact this)
      have he:∀ W,(binOp .neq 61 (.agg #[.int .i64 (l.getD (k + t) ar0).fr,.int .i64 (l.getD (k + t) ar0).to,.int .u64 ((l.getD (k + t) ar0).set.a:Int),.int .u64 ((l.getD (k + t) ar0).set.b:Int),.int .u64 ((l.getD (k + t) ar0).set.c:Int),.int .u64 ((l.getD (k + t) ar0).set.d:Int),.string (l.getD (k + t) ar0).out,.bool (l.getD (k + t) ar0).cp]) (.agg #[.int .i64 (l.getD (k + t - 1) ar0).fr,.int .i64 (l.getD (k + t - 1) ar0).to,.int .u64 ((l.getD (k + t - 1) ar0).set.a:Int),.int .u64 ((l.getD (k + t - 1) ar0).set.b:Int),.int .u64 ((l.getD (k + t - 1) ar0).set.c:Int),.int .u64 ((l.getD (k + t - 1) ar0).set.d:Int),.string (l.getD (k + t - 1) ar0).out,.bool (l.getD (k + t - 1) ar0).cp])).run Tryz.prog W = .ok (.bool (!decide (l.getD (k + t) ar0 = l.getD (k + t - 1) ar0))) W:=fun W => neq_arc W (l.getD (k + t) ar0) (l.getD (k + t - 1) ar0)
      have HM2:=Lib.hid HM
      have HB2:=Lib.hid HB
      have Hq:=Lib.hid hq
      have Hstep:=Lib.hid hstep
      clear HM HB hstep hcell hq
      generalize hx:l.getD (k + t) ar0 = x at *
      generalize hy:l.getD (k + t - 1) ar0 = y at *
      have Hx:=Lib.hid hx
      have Hy:=Lib.hid hy
      clear hx hy
      by_cases hxy:x = y
      ·have hd:(!decide (x = y)) = false:=by rw [decide_eq_true hxy]; rfl
       rw [hd] at he
       clear hd
       have Hxy:=Lib.hid hxy
       clear hxy
       go_wp2
       refine wp_region_quiet_below (by kernel_rfl) (by kernel_rfl) ?_
       repeat (go_big_quiet_step (fail))
       refine wpQuiet_nil ?_
       intro w6 hw6
       have HB5:=below_of hw6
       have HM5:=Lib.hid (HM2.out.below HB5 hsz)
       have L5:=Lib.hid (show ∀ B,B≤g→Below B w w6 from fun B hB => (HB2.out B hB).trans (HB5.mono (by omega)))
       have hsz5:g < w6.heap.size:=Nat.lt_of_lt_of_le hsz HB5.size
       clear x0 y0
       clear x1 y1
       clear x2 y2
       clear x3 y3
       clear x4 y4
       clear x5 y5
       clear x6 y6
       clear x7 y7
       clear hw6 HB5 he
       go_wp2
       go_roundw
       case rel =>
        have e1:=Hstep.out
        rw [if_pos Hxy.out.symm] at e1
        refine ⟨t + 1,q,by omega,by omega,by go_num,rfl,by omega,?_,?_,L5.out,hsz5⟩
        ·rw [← Nat.add_assoc,e1]; exact Hq.out
        ·rw [← Nat.add_assoc,e1]; exact HM5.out
       case measure => simp [intOf]; omega
      ·have hd:(!decide (x = y)) = true:=by rw [decide_eq_false hxy]; rfl
       rw [hd] at he
       clear hd
       have Hxy:=Lib.hid hxy
       clear hxy
       go_wp2
       refine wp_region_quiet_below (by kernel_rfl) (by kernel_rfl) ?_
       repeat (go_big_quiet_step (fail))
       refine wpQuiet_nil ?_
       intro w6 hw6
       have HB5:=below_of hw6
       have HM5:=HM2.out.below HB5 hsz
       have L5:=Lib.hid (show ∀ B,B≤g→Below B w w6 from fun B hB => (HB2.out B hB).trans (HB5.mono (by omega)))
       have hsz5:g < w6.heap.size:=Nat.lt_of_lt_of_le hsz HB5.size
       clear x0 y0
       clear x1 y1
       clear x2 y2
       clear x3 y3
       clear x4 y4
       clear x5 y5
       clear x6 y6
       clear x7 y7
       have x0:=(show w6.cell? ⟨g,k * 8 + t * 8,none⟩ = some (.int .i64 x.fr) from by have:=HM5.1 (k + t) 0 _ hlt2 (by simp only [if_neg (show ¬ k + t < q by omega)]; rfl); rw [Hx.out,Nat.add_mul] at this; exact this)
       have x1:=(show w6.cell? ⟨g,k * 8 + t * 8 + 1,none⟩ = some (.int .i64 x.to) from by have:=HM5.1 (k + t) 1 _ hlt2 (by simp only [if_neg (show ¬ k + t < q by omega)]; rfl); rw [Hx.out,Nat.add_mul] at this; exact this)
       have x2:=(show w6.cell? ⟨g,k * 8 + t * 8 + 2,none⟩ = some (.int .u64 (x.set.a:Int)) from by have:=HM5.1 (k + t) 2 _ hlt2 (by simp only [if_neg (show ¬ k + t < q by omega)]; rfl); rw [Hx.out,Nat.add_mul] at this; exact this)
       have x3:=(show w6.cell? ⟨g,k * 8 + t * 8 + 3,none⟩ = some (.int .u64 (x.set.b:Int)) from by have:=HM5.1 (k + t) 3 _ hlt2 (by simp only [if_neg (show ¬ k + t < q by omega)]; rfl); rw [Hx.out,Nat.add_mul] at this; exact this)
       have x4:=(show w6.cell? ⟨g,k * 8 + t * 8 + 4,none⟩ = some (.int .u64 (x.set.c:Int)) from by have:=HM5.1 (k + t) 4 _ hlt2 (by simp only [if_neg (show ¬ k + t < q by omega)]; rfl); rw [Hx.out,Nat.add_mul] at this; exact this)
       have x5:=(show w6.cell? ⟨g,k * 8 + t * 8 + 5,none⟩ = some (.int .u64 (x.set.d:Int)) from by have:=HM5.1 (k + t) 5 _ hlt2 (by simp only [if_neg (show ¬ k + t < q by omega)]; rfl); rw [Hx.out,Nat.add_mul] at this; exact this)
       have x6:=(show w6.cell? ⟨g,k * 8 + t * 8 + 6,none⟩ = some (.string x.out) from by have:=HM5.1 (k + t) 6 _ hlt2 (by simp only [if_neg (show ¬ k + t < q by omega)]; rfl); rw [Hx.out,Nat.add_mul] at this; exact this)
       have x7:=(show w6.cell? ⟨g,k * 8 + t * 8 + 7,none⟩ = some (.bool x.cp) from by have:=HM5.1 (k + t) 7 _ hlt2 (by simp only [if_neg (show ¬ k + t < q by omega)]; rfl); rw [Hx.out,Nat.add_mul] at this; exact this)
       obtain ⟨v0,z0⟩:=Option.isSome_iff_exists.1 (HM5.cellAt encA_len (q * 8 + 0) (by omega) (by decide))
       have f0:=HM5.2 (q * 8 + 0) (by omega)
       obtain ⟨v1,z1⟩:=Option.isSome_iff_exists.1 (HM5.cellAt encA_len (q * 8 + 1) (by omega) (by decide))
       have f1:=HM5.2 (q * 8 + 1) (by omega)
       obtain ⟨v2,z2⟩:=Option.isSome_iff_exists.1 (HM5.cellAt encA_len (q * 8 + 2) (by omega) (by decide))
       have f2:=HM5.2 (q * 8 + 2) (by omega)
       obtain ⟨v3,z3⟩:=Option.isSome_iff_exists.1 (HM5.cellAt encA_len (q * 8 + 3) (by omega) (by decide))
       have f3:=HM5.2 (q * 8 + 3) (by omega)
       obtain ⟨v4,z4⟩:=Option.isSome_iff_exists.1 (HM5.cellAt encA_len (q * 8 + 4) (by omega) (by decide))
       have f4:=HM5.2 (q * 8 + 4) (by omega)
       obtain ⟨v5,z5⟩:=Option.isSome_iff_exists.1 (HM5.cellAt encA_len (q * 8 + 5) (by omega) (by decide))
       have f5:=HM5.2 (q * 8 + 5) (by omega)
       obtain ⟨v6,z6⟩:=Option.isSome_iff_exists.1 (HM5.cellAt encA_len (q * 8 + 6) (by omega) (by decide))
       have f6:=HM5.2 (q * 8 + 6) (by omega)
       obtain ⟨v7,z7⟩:=Option.isSome_iff_exists.1 (HM5.cellAt encA_len (q * 8 + 7) (by omega) (by decide))
       have f7:=HM5.2 (q * 8 + 7) (by omega)
       simp only [Nat.add_zero] at z0 f0
       have HP:=Lib.hid (HM5.put encA_len (by decide) q (by omega) x)
       have HM6:=Lib.hid HM5
       clear hw6 HB5 he HM5
       have hq1:(0:Int)≤(q:Int):=by omega
       have hq2:(q:Int) < (n:Int):=by omega
       go_wp2
       go_roundw
       case rel =>
        have e1:=Hstep.out
        rw [if_neg (fun h => Hxy.out h.symm)] at e1
        refine ⟨t + 1,q + 1,by omega,by omega,by go_num,by go_num,by omega,?_,?_,?_,?_⟩
        ·rw [← Nat.add_assoc,e1,List.length_append,← Hq.out]; rfl
        ·rw [← Nat.add_assoc,e1]
         refine HP.out.congr fun a ha => ?_
         have hq:=Hq.out
         by_cases h1:a = q
         ·rw [if_pos h1,if_pos (by omega),h1,List.getD_eq_getElem?_getD,List.getElem?_append_right (by omega),← hq]; simp
         ·rw [if_neg h1]
          by_cases h2:a < q
          ·rw [if_pos h2,if_pos (by omega),List.getD_eq_getElem?_getD,List.getD_eq_getElem?_getD,List.getElem?_append_left (by omega)]
          ·rw [if_neg h2,if_neg (by omega)]
        ·exact fun B hB => Go.Lib.below_setCells g hB (encA x) (q * 8) (L5.out B hB)
        ·simpa using hsz5
       case measure => simp [intOf]; omega
     ·have e:k + t = n:=by omega
      have hq1:(0:Int)≤(q:Int):=by omega
      have hq2:(q:Int)≤(n:Int):=by omega
      have hq3:(q:Int)≤(c:Int):=by omega
      have hcq:¬ c = q:=by omega
      have hrun:∀ ty,(Builtin.clear_ #[30] ty #[.slice (some ⟨g,q * 8,none⟩) (n - q) (c - q)]).run Tryz.prog wr = .ok (.tuple #[]) (wr.setCells g (q * 8) (Builtin.zeroCells (Value.cells (.agg #[.int .i64 0,.int .i64 0,.int .u64 0,.int .u64 0,.int .u64 0,.int .u64 0,.string ByteArray.empty,.bool false])) (n - q)).toList):=fun ty =>
       run_clear_K wr 30 61 ty (.agg #[.int .i64 0,.int .i64 0,.int .u64 0,.int .u64 0,.int .u64 0,.int .u64 0,.string ByteArray.empty,.bool false]) 8 Tryz.underlying30 Tryz.zeroValue61 rfl (by decide) (by intro v hv; simp [Value.cells] at hv; rcases hv with rfl | rfl | rfl | rfl | rfl | rfl | rfl | rfl <;> rfl) g (q * 8) (n - q) (c - q) (by omega)
        (fun j hj => HM.cellAt encA_len _ (by rw [Nat.mul_sub_right_distrib] at hj; omega) (by decide)) (fun j hj => HM.2 _ (by rw [Nat.mul_sub_right_distrib] at hj; omega))
      generalize (Builtin.zeroCells (Value.cells (.agg #[.int .i64 0,.int .i64 0,.int .u64 0,.int .u64 0,.int .u64 0,.int .u64 0,.string ByteArray.empty,.bool false])) (n - q)).toList = Z at hrun
      have HA:=HM.ahead encA_len q Z
      rw [Nat.min_eq_left (show q≤n by omega)] at HA
      have e2:once1 (l.take (k + t)) = rl:=by rw [e,← Hrl.out,← Hln.out,List.take_length]
      rw [e2] at HA hq
      have HA2:=Lib.hid (HA.congr (M':=fun a => rl.getD a ar0) fun a ha => by rw [if_pos ha])
      have HB2:=Lib.hid (show ∀ B,B≤g→Below B w (wr.setCells g (q * 8) Z) from fun B hB => Go.Lib.below_setCells g hB Z (q * 8) (HB B hB))
      clear HA HM HB e2
      subst hq
      go_wp2
      go_ret
      exact ⟨rfl,HA2.out,HB2.out⟩
   ·have hd:decide (x = y) = false:=decide_eq_false hxy
    rw [hd] at he
    clear hd
    have Hxy:=Lib.hid hxy
    clear hxy
    go_wp2
    refine wp_region_quiet_below (by kernel_rfl) (by kernel_rfl) ?_
    repeat (go_big_quiet_step (fail))
    refine wpQuiet_nil ?_
    intro w5 hw5
    have HB5:=below_of hw5
    have HM5:=HM2.out.below HB5 hsz
    have L5:∀ B,B≤g→Below B w w5:=fun B hB => (HB2.out B hB).trans (HB5.mono (by omega))
    have hsz5:g < w5.heap.size:=Nat.lt_of_lt_of_le hsz HB5.size
    clear x0 y0
    clear x1 y1
    clear x2 y2
    clear x3 y3
    clear x4 y4
    clear x5 y5
    clear x6 y6
    clear x7 y7
    clear hw5 HB5 he
    have HM6:=Lib.hid HM5
    have L6:=Lib.hid L5
    clear HM5 L5
    go_wp2
    go_roundw
    case rel =>
     refine ⟨k + 1,by omega,by omega,by go_num,HM6.out,L6.out,hsz5,?_⟩
     have e1:=Hstep.out
     rw [if_neg (fun h => Hxy.out h.symm),Ho.out] at e1
     rw [e1,← Hx.out]
     have hl:=Hln.out
     rw [List.getD_eq_getElem?_getD,List.getElem?_eq_getElem (by omega),List.take_succ_eq_append_getElem (by omega)]
     rfl
    case measure => simp [intOf]; omega
  ·have e:k = n:=by omega
   subst e
   have e1:rl = l:=by
    have h1:=Hrl.out
    rw [← Hln.out,List.take_length] at ho
    rw [← h1,ho]
   have HM2:=Lib.hid HM
   have HB2:=Lib.hid HB
   have E1:=Lib.hid e1
   clear HM HB ho e1
   go_wp2
   go_ret
   rw [E1.out,Hln.out]
   exact ⟨rfl,HM2.out,HB2.out⟩
end Go.Proofs.YtcondkihpmmnnaaGreatDoor
namespace Go.Proofs.YtcondkihpmmnnaaGreatDoor
open Go.RowKit Go.Sort
theorem sortT_len (l:List Tp):(sortT l).length = l.length:=List.length_mergeSort _
theorem sortA_len (l:List Ar):(sortA l).length = l.length:=List.length_mergeSort _
def Fresh (B:Nat) (A:Option Addr) (n:Nat):Prop:=0 < n→∀ ad,A = some ad→B≤ad.block
theorem Fresh.less {B B' n:Nat} {A:Option Addr} (h:Fresh B A n) (hb:B'≤B):Fresh B' A n:=fun hn ad e => Nat.le_trans hb (h hn ad e)
theorem Reads.fresh {w w':World} {B B0 size n:Nat} {A:Option Addr} {xs:List Value} (h:Reads w B size A n xs) (hf:Fresh B0 A n) (hk:∀ p:Addr,B0≤p.block→p.block < B→w'.cell? p = w.cell? p):Reads w' B size A n xs :=
 ⟨h.1,fun hn => by
  obtain ⟨ad,e,hb,hc⟩:=h.2 hn
  exact ⟨ad,e,hb,fun j u hu => (hk _ (by rw [block_of_add]; exact hf hn ad e) (by rw [block_of_add]; exact hb)).trans (hc j u hu)⟩⟩
theorem Reads.freshSet {w:World} {B B0 size n:Nat} {A:Option Addr} {xs:List Value} (h:Reads w B size A n xs) (hf:Fresh B0 A n) {p:Addr} (hp:p.block < B0) (u:Value):Reads (w.setCell p u) B size A n xs :=
 h.fresh hf fun q hq _ => World.cell?_setCell_other w p q u (fun e => by subst e; omega)
def GTips (l:List Tp) (w:World) (e:Ending) (w':World):Prop :=
 ∃ A c,e = .returned (.slice A l.length c)∧Reads w' w'.heap.size 2 A l.length (encs encT l)∧l.length≤c∧c≤maxLen∧Fresh w.heap.size A l.length∧Below w.heap.size w w'
def GArcs (l:List Ar) (w:World) (e:Ending) (w':World):Prop :=
 ∃ A c,e = .returned (.slice A l.length c)∧Reads w' w'.heap.size 8 A l.length (encs encA l)∧l.length≤c∧c≤maxLen∧Fresh w.heap.size A l.length∧Below w.heap.size w w'
theorem eg_T:∀ args w,(callFunc 51 args).run Tryz.prog w = .ok (.enter 51 args) w:=enters_of Tryz.func51 (by kernel_rfl) rfl
set_option maxRecDepth 100000 in
set_option maxHeartbeats 2000000 in
theorem cloneT_any (A:Option Addr) (n c B:Nat) (l:List Tp) (w:World) (HR:Reads w B 2 A n (encs encT l)) (hB:B≤w.heap.size) (hn:n≤1000000) :
    Calls Tryz.prog 62 #[.slice A n c] w fun e w' => ∃ v',e = .returned v'∧w'.ownsRow w.heap.size 54 2 v' n (encs encT l)∧Below w.heap.size w w':=by
 obtain ⟨i0,hi,hz0,hz1,hz2⟩:=info_parts tip_info
 have hl:=HR.1
 have h1:∀ u∈encs encT l,u.oneCell' = true:=fun u hu => by
  unfold encs at hu
  rw [List.mem_flatMap] at hu
  obtain ⟨x,_,hx⟩:=hu
  exact encT_one x u hx
 have q22:∀ (w:World) (a:Option Addr) (n c n' c':Nat),(binOp .eql 29 (.slice a n c) (.slice none n' c')).run Tryz.prog w = .ok (.bool a.isNone) w:=fun w a n c n' c' => Lib.run_eql_slice_nil w _ _ a n c n' c' Tryz.underlying29
 generalize encs encT l = news at *
 rcases A with _ | ad
 ·have h0:n = 0:=by
    rcases Nat.eq_zero_or_pos n with h0 | h0
    ·exact h0
    ·obtain ⟨ad,h,_⟩:=HR.2 h0
     cases h
  subst h0
  have hn0:news = []:=List.eq_nil_of_length_eq_zero (by simpa using hl)
  subst hn0
  go_enter Tryz.func62,Tryz.ntmps62
  go_wp2
  go_ret
  exact ⟨_,rfl,⟨by simp,.inl ⟨rfl,rfl⟩⟩,Below.refl _ _⟩
 ·have HA:=Lib.hid (HR.alloc hB (.cells #[] 54))
  have H1:=Lib.hid h1
  have Hl:=Lib.hid hl
  clear HR h1 hl
  go_enter Tryz.func62,Tryz.ntmps62
  go_wp2_with (at_builtin; refine wpList_append_any _ rfl _ _ 29 rfl w.heap.size 54 i0 _ 2 24 Tryz.underlying29 hi hz0 hz1 hz2 rfl (by decide) _ _ _ rfl (World.ownsRow_made w #[] 0 (Nat.le_refl _) (Nat.zero_le _) (by simp)) B (some ad) n c news rfl HA.out H1.out (by unfold maxLen; omega) (by omega) (by simp) ?_; intro v' w1 hown hgrow hloc)
  go_wp2
  go_ret
  exact ⟨v',rfl,by simpa using hown,((Below.refl _ w).alloc (Nat.le_refl _) _).grown hgrow (by simp) (by intro k hk; have h5:some w.heap.size = some k:=hk; have h6:=Option.some.inj h5; omega)⟩
theorem compactT_void (A:Option Addr) (c:Nat) (w:World):Calls Tryz.prog 81 #[.slice A 0 c] w fun e w' => e = .returned (.slice A 0 c)∧w = w':=by
 go_enter Tryz.func81,Tryz.ntmps81
 go_wp2
 go_ret
 exact ⟨rfl,rfl⟩
theorem sortT_void (A:Option Addr) (c:Nat) (fv:Value) (w:World):Calls Tryz.prog 80 #[.slice A 0 c,fv] w fun e w' => e = .returned (.tuple #[])∧w = w' :=
 (AnyF.slices_SortFunc_none Tryz.sortTip A c fv w).mono fun _ _ ⟨he,hw⟩ => ⟨he,hw.symm⟩
set_option maxRecDepth 100000 in
set_option maxHeartbeats 2000000 in
theorem onceT_any (A:Option Addr) (n c B:Nat) (l:List Tp) (w:World) (HR0:Reads w B 2 A n (encs encT l)) (hB:B≤w.heap.size) (hn:n≤1000000) :
    Calls Tryz.prog 50 #[.slice A n c,.func (.func 51) #[] #[]] w (GTips (ordT l) w):=by
 have hl:=reads_len encT_len (by decide) HR0
 subst hl
 have hC:=cloneT_any A l.length c B l w HR0 hB hn
 clear HR0
 rcases Nat.eq_zero_or_pos l.length with h0 | h0
 ·have e0:l = []:=List.eq_nil_of_length_eq_zero h0
  subst e0
  have e1:ordT [] = []:=by unfold ordT sortT; rw [List.mergeSort_nil]; rfl
  rw [e1]
  clear e1 h0
  show Calls Tryz.prog 50 #[.slice A 0 c,.func (.func 51) #[] #[]] w _
  replace hC:Calls Tryz.prog 62 #[.slice A 0 c] w fun e w' => ∃ v',e = .returned v'∧w'.ownsRow w.heap.size 54 2 v' 0 []∧Below w.heap.size w w':=hC
  go_enter Tryz.func50,Tryz.ntmps50
  go_wp2_with fail
  refine hC.mono ?_
  rintro e w1 ⟨v1,rfl,hown,hb1⟩
  obtain ⟨A1,c1,hv,hc1⟩:∃ A1 c1,v1 = .slice A1 0 c1∧c1≤maxLen:=by
   rcases hown.2 with ⟨h,_⟩ | ⟨g,cap,cur,h,_,_,_,hm,_⟩
   ·exact ⟨none,0,h,Nat.zero_le _⟩
   ·exact ⟨_,cap,h,hm⟩
  clear hown hC
  subst hv
  go_wp2_with fail
  refine (sortT_void A1 c1 _ w1).mono ?_
  rintro e w2 ⟨rfl,rfl⟩
  go_wp2_with fail
  refine (compactT_void A1 c1 w1).mono ?_
  rintro e w2 ⟨rfl,rfl⟩
  go_wp2
  go_ret
  exact ⟨A1,c1,rfl,⟨rfl,fun h => absurd h (Nat.lt_irrefl 0)⟩,Nat.zero_le _,hc1,fun h => absurd h (Nat.lt_irrefl 0),hb1⟩
 ·go_enter Tryz.func50,Tryz.ntmps50
  go_wp2_with fail
  refine hC.mono ?_
  rintro e w1 ⟨v1,rfl,hown,hb1⟩
  obtain ⟨g1,cap,rfl,hg0,hg1,hcap,hcm,HM⟩:=RowM.of_own encT_len tp0 hown rfl h0
  clear hown hC
  go_wp2_with fail
  refine (sortTip_any _ eg_T fstCompareT_any g1 cap l w1 HM hg1 hn).mono ?_
  rintro e w2 ⟨rfl,HM2,hb2⟩
  have hb2':=hb2 w.heap.size hg0
  have hg2:g1 < w2.heap.size:=Nat.lt_of_lt_of_le hg1 (hb2 0 (by omega)).size
  have hcc:=compactT_any g1 cap (sortT l) w2 HM2 hg2 (by rw [sortT_len]; exact hcap) hcm (by rw [sortT_len]; exact hn)
  rw [sortT_len] at hcc
  have hle:=once1_len (sortT l) (sortT l).length
  rw [List.take_length,sortT_len] at hle
  clear HM HM2
  have Hcc:=Lib.hid hcc
  clear hcc
  go_wp2_with fail
  refine Hcc.out.mono ?_
  rintro e w3 ⟨rfl,HM3,hb3⟩
  go_wp2
  go_ret
  have hb3':=hb3 w.heap.size hg0
  have hz3:=(hb3 0 (by omega)).size
  exact ⟨some ⟨g1,0,none⟩,cap,rfl,HM3.reads encT_len (by decide) tp0 (Nat.le_refl _) (by omega),Nat.le_trans hle hcap,hcm,fun _ ad e => by have:=Option.some.inj e; subst this; exact hg0,(hb1.trans hb2').trans hb3'⟩
theorem eg_A:∀ args w,(callFunc 53 args).run Tryz.prog w = .ok (.enter 53 args) w:=enters_of Tryz.func53 (by kernel_rfl) rfl
set_option maxRecDepth 100000 in
set_option maxHeartbeats 2000000 in
theorem cloneA_any (A:Option Addr) (n c B:Nat) (l:List Ar) (w:World) (HR:Reads w B 8 A n (encs encA l)) (hB:B≤w.heap.size) (hn:n≤1000000) :
    Calls Tryz.prog 85 #[.slice A n c] w fun e w' => ∃ v',e = .returned v'∧w'.ownsRow w.heap.size 61 8 v' n (encs encA l)∧Below w.heap.size w w':=by
 obtain ⟨i0,hi,hz0,hz1,hz2⟩:=info_parts arc_info
 have hl:=HR.1
 have h1:∀ u∈encs encA l,u.oneCell' = true:=fun u hu => by
  unfold encs at hu
  rw [List.mem_flatMap] at hu
  obtain ⟨x,_,hx⟩:=hu
  exact encA_one x u hx
 have q22:∀ (w:World) (a:Option Addr) (n c n' c':Nat),(binOp .eql 30 (.slice a n c) (.slice none n' c')).run Tryz.prog w = .ok (.bool a.isNone) w:=fun w a n c n' c' => Lib.run_eql_slice_nil w _ _ a n c n' c' Tryz.underlying30
 generalize encs encA l = news at *
 rcases A with _ | ad
 ·have h0:n = 0:=by
    rcases Nat.eq_zero_or_pos n with h0 | h0
    ·exact h0
    ·obtain ⟨ad,h,_⟩:=HR.2 h0
     cases h
  subst h0
  have hn0:news = []:=List.eq_nil_of_length_eq_zero (by simpa using hl)
  subst hn0
  go_enter Tryz.func85,Tryz.ntmps85
  go_wp2
  go_ret
  exact ⟨_,rfl,⟨by simp,.inl ⟨rfl,rfl⟩⟩,Below.refl _ _⟩
 ·have HA:=Lib.hid (HR.alloc hB (.cells #[] 61))
  have H1:=Lib.hid h1
  have Hl:=Lib.hid hl
  clear HR h1 hl
  go_enter Tryz.func85,Tryz.ntmps85
  go_wp2_with (at_builtin; refine wpList_append_any _ rfl _ _ 30 rfl w.heap.size 61 i0 _ 8 72 Tryz.underlying30 hi hz0 hz1 hz2 rfl (by decide) _ _ _ rfl (World.ownsRow_made w #[] 0 (Nat.le_refl _) (Nat.zero_le _) (by simp)) B (some ad) n c news rfl HA.out H1.out (by unfold maxLen; omega) (by omega) (by simp) ?_; intro v' w1 hown hgrow hloc)
  go_wp2
  go_ret
  exact ⟨v',rfl,by simpa using hown,((Below.refl _ w).alloc (Nat.le_refl _) _).grown hgrow (by simp) (by intro k hk; have h5:some w.heap.size = some k:=hk; have h6:=Option.some.inj h5; omega)⟩
theorem compactA_void (A:Option Addr) (c:Nat) (w:World):Calls Tryz.prog 87 #[.slice A 0 c] w fun e w' => e = .returned (.slice A 0 c)∧w = w':=by
 go_enter Tryz.func87,Tryz.ntmps87
 go_wp2
 go_ret
 exact ⟨rfl,rfl⟩
theorem sortA_void (A:Option Addr) (c:Nat) (fv:Value) (w:World):Calls Tryz.prog 86 #[.slice A 0 c,fv] w fun e w' => e = .returned (.tuple #[])∧w = w' :=
 (AnyF.slices_SortFunc_none Tryz.sortArc A c fv w).mono fun _ _ ⟨he,hw⟩ => ⟨he,hw.symm⟩
set_option maxRecDepth 100000 in
set_option maxHeartbeats 2000000 in
theorem onceA_any (A:Option Addr) (n c B:Nat) (l:List Ar) (w:World) (HR0:Reads w B 8 A n (encs encA l)) (hB:B≤w.heap.size) (hn:n≤1000000) :
    Calls Tryz.prog 52 #[.slice A n c,.func (.func 53) #[] #[]] w (GArcs (ordA l) w):=by
 have hl:=reads_len encA_len (by decide) HR0
 subst hl
 have hC:=cloneA_any A l.length c B l w HR0 hB hn
 clear HR0
 rcases Nat.eq_zero_or_pos l.length with h0 | h0
 ·have e0:l = []:=List.eq_nil_of_length_eq_zero h0
  subst e0
  have e1:ordA [] = []:=by unfold ordA sortA; rw [List.mergeSort_nil]; rfl
  rw [e1]
  clear e1 h0
  show Calls Tryz.prog 52 #[.slice A 0 c,.func (.func 53) #[] #[]] w _
  replace hC:Calls Tryz.prog 85 #[.slice A 0 c] w fun e w' => ∃ v',e = .returned v'∧w'.ownsRow w.heap.size 61 8 v' 0 []∧Below w.heap.size w w':=hC
  go_enter Tryz.func52,Tryz.ntmps52
  go_wp2_with fail
  refine hC.mono ?_
  rintro e w1 ⟨v1,rfl,hown,hb1⟩
  obtain ⟨A1,c1,hv,hc1⟩:∃ A1 c1,v1 = .slice A1 0 c1∧c1≤maxLen:=by
   rcases hown.2 with ⟨h,_⟩ | ⟨g,cap,cur,h,_,_,_,hm,_⟩
   ·exact ⟨none,0,h,Nat.zero_le _⟩
   ·exact ⟨_,cap,h,hm⟩
  clear hown hC
  subst hv
  go_wp2_with fail
  refine (sortA_void A1 c1 _ w1).mono ?_
  rintro e w2 ⟨rfl,rfl⟩
  go_wp2_with fail
  refine (compactA_void A1 c1 w1).mono ?_
  rintro e w2 ⟨rfl,rfl⟩
  go_wp2
  go_ret
  exact ⟨A1,c1,rfl,⟨rfl,fun h => absurd h (Nat.lt_irrefl 0)⟩,Nat.zero_le _,hc1,fun h => absurd h (Nat.lt_irrefl 0),hb1⟩
 ·go_enter Tryz.func52,Tryz.ntmps52
  go_wp2_with fail
  refine hC.mono ?_
  rintro e w1 ⟨v1,rfl,hown,hb1⟩
  obtain ⟨g1,cap,rfl,hg0,hg1,hcap,hcm,HM⟩:=RowM.of_own encA_len ar0 hown rfl h0
  clear hown hC
  go_wp2_with fail
  refine (sortArc_any _ eg_A fstCompareA_any g1 cap l w1 HM hg1 hn).mono ?_
  rintro e w2 ⟨rfl,HM2,hb2⟩
  have hb2':=hb2 w.heap.size hg0
  have hg2:g1 < w2.heap.size:=Nat.lt_of_lt_of_le hg1 (hb2 0 (by omega)).size
  have hcc:=compactA_any g1 cap (sortA l) w2 HM2 hg2 (by rw [sortA_len]; exact hcap) hcm (by rw [sortA_len]; exact hn)
  rw [sortA_len] at hcc
  have hle:=once1_len (sortA l) (sortA l).length
  rw [List.take_length,sortA_len] at hle
  clear HM HM2
  have Hcc:=Lib.hid hcc
  clear hcc
  go_wp2_with fail
  refine Hcc.out.mono ?_
  rintro e w3 ⟨rfl,HM3,hb3⟩
  go_wp2
  go_ret
  have hb3':=hb3 w.heap.size hg0
  have hz3:=(hb3 0 (by omega)).size
  exact ⟨some ⟨g1,0,none⟩,cap,rfl,HM3.reads encA_len (by decide) ar0 (Nat.le_refl _) (by omega),Nat.le_trans hle hcap,hcm,fun _ ad e => by have:=Option.some.inj e; subst this; exact hg0,(hb1.trans hb2').trans hb3'⟩
end Go.Proofs.YtcondkihpmmnnaaGreatDoor
