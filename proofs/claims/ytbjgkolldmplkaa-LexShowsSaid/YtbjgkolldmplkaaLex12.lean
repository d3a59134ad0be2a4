/- The walk of Text of package lex. -/
import Derived.Test.YtbjgkolldmplkaaLex11
namespace Go.Proofs.Ytbjgkolldmplkaa
open Go.RowKit Go.Sort

/-- Bytes as they are written, one behind the other. -/
def wrAll (l : List UInt8) : List UInt8 := l.flatMap wrL
theorem wrAll_snoc (l : List UInt8) (c : UInt8) : wrAll (l ++ [c]) = wrAll l ++ wrL c := by simp [wrAll]
theorem wrAll_len (l : List UInt8) : (wrAll l).length ≤ 4 * l.length := by
  induction l with
  | nil => simp [wrAll]
  | cons c l ih =>
    have := wrL_len c
    show (wrL c ++ wrAll l).length ≤ _
    rw [List.length_append, List.length_cons]
    omega

theorem take_snocU (s : ByteArray) (k : Nat) (h : k < s.size) : s.data.toList.take (k + 1) = s.data.toList.take k ++ [s[k]] := by
  rw [List.take_succ_eq_append_getElem (by simpa using h)]
  rfl

/-- A text as it is shown. -/
def txL (l : List UInt8) : List UInt8 := [34] ++ wrAll l ++ [34]

set_option maxRecDepth 100000 in
set_option maxHeartbeats 4000000 in
theorem text_any (b : ByteArray) (w : World) (hs : b.size ≤ 1000) :
    Calls Try.prog 26 #[.string b] w (Gives (.string ⟨(txL b.data.toList).toArray⟩) w) := by
  obtain ⟨i0, hi0, hz0, hz1, hz2⟩ := info_parts lx_info
  have hown0 : (w.alloc (.cells #[.int .u8 34] 5)).ownsRow w.heap.size 5 1 (.slice (some ⟨w.heap.size, 0, none⟩) 1 1) 1 (uVals [34]) := ⟨rfl, .inr ⟨w.heap.size, 1, #[.int .u8 34], rfl, Nat.le_refl _, heap_alloc_new w _, Nat.le_refl _, by unfold maxLen; decide, rfl, rfl⟩⟩
  have HB0 : Below w.heap.size w (w.alloc (.cells #[.int .u8 34] 5)) := (Below.refl _ _).alloc (Nat.le_refl _) _
  go_enter Try.func26, Try.ntmps26
  go_wp2
  go_loopw [3, 8] (fun v t wr => ∃ k : Nat, k ≤ b.size ∧ t = .int .i64 k ∧ wr.ownsRow w.heap.size 5 1 v ([34] ++ wrAll (b.data.toList.take k)).length (uVals ([34] ++ wrAll (b.data.toList.take k))) ∧ Below w.heap.size w wr) (fun _ t _ => b.size - (intOf t).toNat)
  case atStart => exact ⟨0, Nat.zero_le _, rfl, hown0, HB0⟩
  case round =>
    clear hown0 HB0
    obtain ⟨k, hk, rfl, hown, HB⟩ := hrel
    obtain ⟨A, c, rfl, _, _, _⟩ := own_reads hown
    have hsz := HB.size
    have hfr := own_base hown
    have hwl := wrAll_len (b.data.toList.take k)
    have htl : (b.data.toList.take k).length ≤ k := List.length_take_le _ _
    have hnn : ([34] ++ wrAll (b.data.toList.take k)).length = 1 + (wrAll (b.data.toList.take k)).length := by simp; omega
    by_cases hlt : k < b.size
    · have hst := take_snocU b k hlt
      have hsn : Unit → [34] ++ wrAll (b.data.toList.take (k + 1)) = ([34] ++ wrAll (b.data.toList.take k)) ++ wrL b[k] := fun _ => by rw [hst, wrAll_snoc, List.append_assoc]
      have HW := Lib.hid (fun W h hb => written_any w.heap.size ([34] ++ wrAll (b.data.toList.take k)).length (uVals ([34] ++ wrAll (b.data.toList.take k))) A c b[k] W h hb (by omega))
      clear hst
      have hln : Unit → ([34] ++ wrAll (b.data.toList.take (k + 1))).length = ([34] ++ wrAll (b.data.toList.take k)).length + (wrL b[k]).length := fun _ => by rw [hsn ()]; exact List.length_append
      have happ : Unit → uVals ([34] ++ wrAll (b.data.toList.take (k + 1))) = uVals ([34] ++ wrAll (b.data.toList.take k)) ++ uVals (wrL b[k]) := fun _ => by rw [hsn (), uVals_app]
      clear hsn hwl htl hnn
      generalize ([34] ++ wrAll (b.data.toList.take k)).length = n at *
      generalize uVals ([34] ++ wrAll (b.data.toList.take k)) = xs at *
      generalize wrL b[k] = ad at *
      go_wp2_with (go_at_call 38; refine (HW.out _ hown hsz).mono ?_; rintro e w1 ⟨v1, rfl, hown1, hg1⟩; have L1 : Below w.heap.size w w1 := HB.grown hg1 hsz hfr)
      go_roundw
      case rel => exact ⟨k + 1, by omega, by go_num, by rw [hln (), happ ()]; exact hown1, L1⟩
      case measure => simp [intOf]; omega
    · obtain rfl : k = b.size := by omega
      have hall : b.data.toList.take b.size = b.data.toList := List.take_of_length_le (by simp)
      rw [hall] at hown hwl hnn ⊢
      clear hfr
      have hfr := own_base hown
      have hlen : b.data.toList.length = b.size := by simp
      have hn : ([34] ++ wrAll b.data.toList).length ≤ 4001 := by omega
      have hsn : Unit → uVals ([34] ++ wrAll b.data.toList) ++ [.int .u8 34] = uVals (txL b.data.toList) := fun _ => by unfold txL; rw [← uVals_app ([34] ++ wrAll b.data.toList) [34]]; rfl
      have hll : Unit → ([34] ++ wrAll b.data.toList).length + 1 = (txL b.data.toList).length := fun _ => by unfold txL; simp
      clear hwl hnn htl hall hlen
      generalize ([34] ++ wrAll b.data.toList).length = n at *
      generalize uVals ([34] ++ wrAll b.data.toList) = xs at *
      go_wp2_with (at_builtin
                   refine wpList_append_any _ rfl (.tmp 17) (.tmp 18) _ rfl w.heap.size 5 i0 _ 1 1 Try.underlying22 hi0 hz0 hz1 hz2 rfl (by omega) _ n _ rfl
                     (hown.alloc _) _ _ 1 1 [.int .u8 34] rfl (reads_blk (xs := [.int .u8 34]) (Blk.new wr _ _)) (by simp [Value.oneCell']) (by simp only [maxLen]; omega) (by omega) (by simp; omega) ?_
                   intro v4 w4 hown4 hg4 hat4
                   have L4 : Below w.heap.size w w4 := (HB.alloc hsz _).grown hg4 (by simp; omega) hfr
                   rw [hsn (), hll ()] at hown4
                   obtain ⟨A4, c4, rfl, _, _, _⟩ := own_reads hown4
                   have hconv := conv_own hown4)
      go_ret
      exact ⟨rfl, L4⟩

end Go.Proofs.Ytbjgkolldmplkaa
