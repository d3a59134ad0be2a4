/- The walks of set.runs and of set.Rows: a range over a function. -/
import Derived.Test.YtbjgkolldmplkaaSet2
import Derived.Test.YtbjgkolldmplkaaRowsP
import Derived.RangeFuncNested
import Derived.RangeFuncBound
import Derived.RangeFuncCalls
import Derived.RangeFuncLeaves
import Derived.RangeFuncBox
import Derived.Shelf.Abstract
import Derived.Shelf.RegionOpen
import Derived.OwnWalkIn
import Derived.TacticsInMore
import Derived.LoopNIn
import Derived.LoopIn
namespace Go.Proofs.Ytbjgkolldmplkaa
open Go.RowKit Go.Shelf
attribute [local go_sem] Oper.semAt_some

/-- A row as a value. -/
def rowVal (r : Nat × Nat) : Value := .agg #[.int .u8 ((r.1 : Nat) : Int), .int .u8 ((r.2 : Nat) : Int)]

theorem below_grown {w w' : World} (h : Below w.heap.size w w') : w.grownBy w' none := ⟨h.os, h.tape, h.output, h.size, fun k hk _ => h.block k hk⟩

theorem abides_below {β : Type} {B : Nat} {J : β → World → Prop} (hJ : AbidesFrom B J) {s : β} {w w' : World} (h : J s w) (hb : Below w.heap.size w w') : J s w' :=
  hJ s w w' none h (below_grown hb) (fun r e => by cases e)

/-- What a round keeps: the block B. -/
def KeepB (B : Nat) (W W' : World) : Prop := W.heap.size ≤ W'.heap.size ∧ W'.heap[B]? = W.heap[B]?

theorem KeepB.refl (B : Nat) (W : World) : KeepB B W W := ⟨Nat.le_refl _, rfl⟩
theorem KeepB.trans {B : Nat} {X Y Z : World} (h : KeepB B X Y) (k : KeepB B Y Z) : KeepB B X Z := ⟨Nat.le_trans h.1 k.1, k.2.trans h.2⟩
theorem KeepB.of_below {B n : Nat} {X Y : World} (h : Below n X Y) (hB : B < n) : KeepB B X Y := ⟨h.size, h.block B hB⟩
theorem Blk.keepB {B : Nat} {X Y : World} {T : TypeId} {cs : Array Value} (h : Blk X B T cs) (k : KeepB B X Y) : Blk Y B T cs := k.2.trans h

set_option maxRecDepth 100000 in
set_option maxHeartbeats 4000000 in
theorem runs1_in (n : Nat) (hn : 1 ≤ n) (l Bs B0 : Nat) (m : Nat → Bool) (T : TypeId) (J Jx : List (Nat × Nat) → World → Prop) (hJ : AbidesFrom B0 J)
    (hY : ∀ pre x W, J pre W → pre.length < (rowsOf m).length → YieldAt Fence.wide (n - 1) Try.prog l #[.agg #[.int .u8 ((x.1 : Nat) : Int), .int .u8 ((x.2 : Nat) : Int)]] W fun e W' =>
      (e = .returned (.bool true) ∧ J (pre ++ [x]) W' ∧ KeepB Bs W W') ∨ (e = .returned (.bool false) ∧ Jx (pre ++ [x]) W'))
    (W : World) (hs : Blk W Bs T (sCells m)) (h0 : J [] W) :
    CallsIn Fence.wide n Try.prog 43 #[.func (.yield l) #[] #[], .pointer (some ⟨Bs, 0, none⟩)] W fun e W' => (∃ v, e = .returned v) ∧
      ((∃ ys, ys = rowsOf m ∧ J ys W') ∨ (∃ pre, pre <+: rowsOf m ∧ Jx pre W')) := by
  refine callsIn_of_wp Try.func43 rfl trivial ?_ rfl
  simp only [Try.ntmps43, List.size_toArray, List.length_cons, List.length_nil, Nat.reduceAdd, Nat.reduceSub, Array.replicate_succ, Array.replicate_zero, List.push_toArray, List.append_toArray, List.nil_append, List.cons_append]
  gi_wp2
  gi_loopw [3] (fun i wr => ∃ (k : Nat) (pre : List (Nat × Nat)), k ≤ 256 ∧ i = .int .i64 k ∧ rowsOf m = pre ++ rowsFrom m k ∧ J pre wr ∧ KeepB Bs W wr) (fun i _ => 256 - (intOf i).toNat)
  case atStart => exact ⟨0, [], by omega, rfl, rfl, h0, KeepB.refl _ _⟩
  case round =>
    obtain ⟨k, pre, hk, rfl, HX0, HJ0, HB⟩ := hrel
    have HX := Lib.hid HX0
    have HJ := Lib.hid HJ0
    clear HX0 HJ0
    by_cases hlt : k < 256
    · have hbs := hs.keepB HB
      obtain ⟨c0, c1, c2, c3⟩ := hbs.cells4
      cases hm : m k
      · have HM := Lib.hid hm
        clear hm
        gi_wp2_with (refine ⟨trivial, ?_⟩; gi_at_call 15; refine (callsIn_wide.2 (has_any m k _ hlt)).mono ?_; rintro e w1 ⟨rfl, HB1⟩; rw [HM.out])
        go_roundw
        case rel => exact ⟨k + 1, pre, by omega, by go_num, by rw [HX.out, rowsFrom_no m k hlt HM.out], abides_below hJ HJ.out HB1, HB.trans (KeepB.of_below HB1 (Nat.lt_of_lt_of_le hs.lt HB.1))⟩
        case measure => simp [intOf]; omega
      · have HM := Lib.hid hm
        clear hm
        gi_wp2_with (refine ⟨trivial, ?_⟩; gi_at_call 15; refine (callsIn_wide.2 (has_any m k _ hlt)).mono ?_; rintro e w1 ⟨rfl, HB1⟩; rw [HM.out])
        have HBk := HB.trans (KeepB.of_below HB1 (Nat.lt_of_lt_of_le hs.lt HB.1))
        have HJk := Lib.hid (abides_below hJ HJ.out HB1)
        clear HB HJ HB1 hbs c0 c1 c2 c3
        gi_loopw [3] (fun i wr => ∃ j : Nat, k ≤ j ∧ j ≤ 255 ∧ i = .int .i64 j ∧ runE m j = runE m k ∧ J pre wr ∧ KeepB Bs W wr) (fun i _ => 255 - (intOf i).toNat)
        case atStart => exact ⟨k, Nat.le_refl _, by omega, rfl, rfl, HJk.out, HBk⟩
        case round =>
          obtain ⟨j, hkj, hj, rfl, HR0, HJ0, HB⟩ := hrel
          have HR := Lib.hid HR0
          have HJ := Lib.hid HJ0
          clear HR0 HJ0 HJk HBk
          have hbs := hs.keepB HB
          obtain ⟨c0, c1, c2, c3⟩ := hbs.cells4
          by_cases hj2 : j < 255
          · cases hm2 : m (j + 1)
            · have HX2 := Lib.hid (show rowsOf m = pre ++ (k, j) :: rowsFrom m (j + 1) by
                rw [HX.out, rowsFrom_yes m k hlt HM.out, ← HR.out, runE_no m j (by rw [hm2]; simp)])
              have HM2 := Lib.hid hm2
              clear hm2
              gi_wp2_with (refine ⟨trivial, ?_⟩; gi_at_call 15; refine (callsIn_wide.2 (has_any m (j + 1) _ (by omega))).mono ?_; rintro e w1 ⟨rfl, HB1⟩; rw [HM2.out]; have HBW := HB.trans (KeepB.of_below HB1 (Nat.lt_of_lt_of_le hs.lt HB.1)); obtain ⟨fn, tmps, assign, body, hy, hR⟩ := hY pre (k, j) w1 (abides_below hJ HJ.out HB1) (by rw [HX2.out]; simp))
              refine hR.mono ?_
              rintro e W3 (⟨rfl, hJ3, hk3⟩ | ⟨rfl, hJx3⟩)
              · have HJ3 := Lib.hid hJ3
                clear hJ3
                gi_wp2
                go_roundw
                case rel => exact ⟨j + 1, pre ++ [(k, j)], by omega, by go_num, by rw [HX2.out]; simp, HJ3.out, HBW.trans hk3⟩
                case measure => simp [intOf]; omega
              · have HJ3 := Lib.hid hJx3
                clear hJx3
                gi_wp2
                refine bodyPost_ret (results_none rfl _ _ _) rfl ?_
                exact ⟨⟨_, rfl⟩, .inr ⟨pre ++ [(k, j)], ⟨rowsFrom m (j + 1), by rw [HX2.out]; simp⟩, HJ3.out⟩⟩
            · have HM2 := Lib.hid hm2
              clear hm2
              gi_wp2_with (refine ⟨trivial, ?_⟩; gi_at_call 15; refine (callsIn_wide.2 (has_any m (j + 1) _ (by omega))).mono ?_; rintro e w1 ⟨rfl, HB1⟩; rw [HM2.out])
              go_roundw
              case rel => exact ⟨j + 1, by omega, by omega, by go_num, by rw [← runE_yes m j hj2 HM2.out]; exact HR.out, abides_below hJ HJ.out HB1, HB.trans (KeepB.of_below HB1 (Nat.lt_of_lt_of_le hs.lt HB.1))⟩
              case measure => simp [intOf]; omega
          · have HX2 := Lib.hid (show rowsOf m = pre ++ (k, j) :: rowsFrom m (j + 1) by
              rw [HX.out, rowsFrom_yes m k hlt HM.out, ← HR.out, runE_no m j (by omega)])
            have HBW := HB
            obtain ⟨fn, tmps, assign, body, hy, hR⟩ := hY pre (k, j) wr HJ.out (by rw [HX2.out]; simp)
            gi_wp2
            refine ⟨trivial, ?_⟩
            gi_wp2
            refine hR.mono ?_
            rintro e W3 (⟨rfl, hJ3, hk3⟩ | ⟨rfl, hJx3⟩)
            · have HJ3 := Lib.hid hJ3
              clear hJ3
              gi_wp2
              go_roundw
              case rel => exact ⟨j + 1, pre ++ [(k, j)], by omega, by go_num, by rw [HX2.out]; simp, HJ3.out, HBW.trans hk3⟩
              case measure => simp [intOf]; omega
            · have HJ3 := Lib.hid hJx3
              clear hJx3
              gi_wp2
              refine bodyPost_ret (results_none rfl _ _ _) rfl ?_
              exact ⟨⟨_, rfl⟩, .inr ⟨pre ++ [(k, j)], ⟨rowsFrom m (j + 1), by rw [HX2.out]; simp⟩, HJ3.out⟩⟩
    · gi_wp2
      go_end0
      refine ⟨⟨_, rfl⟩, .inl ⟨pre, ?_, HJ.out⟩⟩
      rw [HX.out, rowsFrom_end m k (by omega)]; simp

end Go.Proofs.Ytbjgkolldmplkaa
