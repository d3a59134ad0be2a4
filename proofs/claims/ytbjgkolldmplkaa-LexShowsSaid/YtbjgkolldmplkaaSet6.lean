/- The walk of awake of layer 1. -/
import Derived.Test.YtbjgkolldmplkaaSet5
import Derived.Test.YtbjgkolldmplkaaSet4
namespace Go.Proofs.Ytbjgkolldmplkaa
open Go.RowKit Go.Sort

theorem own_reads {w : World} {base : Nat} {e : TypeId} {size : Nat} {v : Value} {n : Nat} {xs : List Value} (h : w.ownsRow base e size v n xs) :
    ∃ A c, v = .slice A n c ∧ Reads w w.heap.size size A n xs ∧ n ≤ c ∧ c ≤ maxLen := by
  have h' := h
  obtain ⟨hl, h2⟩ := h
  rcases h2 with ⟨rfl, rfl⟩ | ⟨g, cap, cur, rfl, hb, hh, hn, hc, hs, ht⟩
  · exact ⟨none, 0, rfl, Reads.of_own h', Nat.le_refl _, Nat.zero_le _⟩
  · exact ⟨_, cap, rfl, Reads.of_own h', hn, hc⟩

theorem reads_blkN {w : World} {B : Nat} {T : TypeId} {xs : List Value} {size n : Nat} (h : Blk w B T xs.toArray) (hn : xs.length = n * size) : Reads w w.heap.size size (some ⟨B, 0, none⟩) n xs := by
  refine ⟨hn, fun _ => ⟨_, rfl, h.lt, fun j u hu => ?_⟩⟩
  rw [show (⟨B, 0, none⟩ : Addr).add j = ⟨B, j, none⟩ from by unfold Addr.add; split <;> simp_all, h.cell j]
  simpa using hu

/-- Rows gives a slice that reads as the rows. -/
theorem rows_reads (m : Nat → Bool) (w : World) :
    Calls Try.prog 17 #[.agg #[.int .u64 ((word m 0 : Nat) : Int), .int .u64 ((word m 1 : Nat) : Int), .int .u64 ((word m 2 : Nat) : Int), .int .u64 ((word m 3 : Nat) : Int)]] w fun e W' => ∃ A c, e = .returned (.slice A (rowsOf m).length c) ∧ Reads W' W'.heap.size 2 A (rowsOf m).length (rowCells (rowsOf m)) ∧ (rowsOf m).length ≤ c ∧ c ≤ maxLen ∧ Below w.heap.size w W' :=
  (rows_any m w).mono fun e W' ⟨v, he, ho, hb⟩ => by
    obtain ⟨A, c, rfl, hr, h1, h2⟩ := own_reads ho
    exact ⟨A, c, he, hr, h1, h2, hb⟩

theorem of_awake (w : World) : Calls Try.prog 11 #[.slice (some ⟨w.heap.size, 0, none⟩) 4 4] (w.alloc (.cells #[.int .u8 97, .int .u8 98, .int .u8 0, .int .u8 255] 5))
    (Gives (.agg #[.int .u64 ((word ((sOf [97, 98, 0, 255])) 0 : Nat) : Int), .int .u64 ((word ((sOf [97, 98, 0, 255])) 1 : Nat) : Int), .int .u64 ((word ((sOf [97, 98, 0, 255])) 2 : Nat) : Int), .int .u64 ((word ((sOf [97, 98, 0, 255])) 3 : Nat) : Int)]) (w.alloc (.cells #[.int .u8 97, .int .u8 98, .int .u8 0, .int .u8 255] 5))) :=
  of_any _ 4 4 _ [97, 98, 0, 255] _ (reads_blk (xs := byteVals [97, 98, 0, 255]) (Blk.new w _ _)) (Nat.le_refl _) (by decide) (by decide) (by decide)

theorem of_three (w : World) : Calls Try.prog 11 #[.slice (some ⟨w.heap.size, 0, none⟩) 1 1] (w.alloc (.cells #[.int .u8 3] 5))
    (Gives (.agg #[.int .u64 ((word ((sOf [3])) 0 : Nat) : Int), .int .u64 ((word ((sOf [3])) 1 : Nat) : Int), .int .u64 ((word ((sOf [3])) 2 : Nat) : Int), .int .u64 ((word ((sOf [3])) 3 : Nat) : Int)]) (w.alloc (.cells #[.int .u8 3] 5))) :=
  of_any _ 1 1 _ [3] _ (reads_blk (xs := byteVals [3]) (Blk.new w _ _)) (Nat.le_refl _) (by decide) (by decide) (by decide)

theorem rows_awake : rowsOf (sOf [97, 98, 0, 255]) = [(0, 0), (97, 98), (255, 255)] := by decide +kernel

theorem rows_awake_reads (w : World) :
    Calls Try.prog 17 #[.agg #[.int .u64 ((word ((sOf [97, 98, 0, 255])) 0 : Nat) : Int), .int .u64 ((word ((sOf [97, 98, 0, 255])) 1 : Nat) : Int), .int .u64 ((word ((sOf [97, 98, 0, 255])) 2 : Nat) : Int), .int .u64 ((word ((sOf [97, 98, 0, 255])) 3 : Nat) : Int)]] w fun e W' => ∃ A c, e = .returned (.slice A 3 c) ∧ Reads W' W'.heap.size 2 A 3 (rowCells [(0, 0), (97, 98), (255, 255)]) ∧ 3 ≤ c ∧ c ≤ maxLen ∧ Below w.heap.size w W' := by
  have h := rows_reads (sOf [97, 98, 0, 255]) w
  rw [rows_awake] at h
  exact h

theorem has_three (w : World) : Calls Try.prog 15 #[.agg #[.int .u64 ((word ((sOf [3])) 0 : Nat) : Int), .int .u64 ((word ((sOf [3])) 1 : Nat) : Int), .int .u64 ((word ((sOf [3])) 2 : Nat) : Int), .int .u64 ((word ((sOf [3])) 3 : Nat) : Int)], .int .u8 3] w (Gives (.bool true) w) :=
  has_any (sOf [3]) 3 w (by decide)

set_option maxHeartbeats 1000000 in
theorem awake1_any (w : World) : Calls Try.prog 10 #[] w (Gives (.bool true) w) := by
  go_enter Try.func10, Try.ntmps10
  go_wp2_with fail
  refine (of_awake _).mono ?_; rintro e w1 ⟨rfl, HB1⟩
  have HBw1 := below_then ((Below.refl _ w).alloc (Nat.le_refl _) _) HB1
  go_wp2_with fail
  refine (rows_awake_reads _).mono ?_; rintro e w2 ⟨A, c, rfl, HR, hc, hm, HB2⟩
  have HBw2 := below_then HBw1 HB2
  go_wp2_with fail
  refine (pairs_same A _ 3 c 3 _ _ [(0, 0), (97, 98), (255, 255)] _ (HR.alloc (Nat.le_refl _) _) (reads_blkN (xs := rowCells [(0, 0), (97, 98), (255, 255)]) (Blk.new w2 _ _) rfl) (by simp) (Nat.le_refl _) hc hm).mono ?_; rintro e w3 ⟨rfl, HB3⟩
  have HBw3 := below_then (HBw2.alloc HBw2.size _) HB3
  go_wp2_with fail
  refine (of_three _).mono ?_; rintro e w4 ⟨rfl, HB4⟩
  have HBw4 := below_then (HBw3.alloc HBw3.size _) HB4
  go_wp2_with fail
  refine (has_three _).mono ?_; rintro e w5 ⟨rfl, HB5⟩
  go_wp2_with fail
  go_ret
  exact ⟨rfl, below_then HBw4 HB5⟩

end Go.Proofs.Ytbjgkolldmplkaa
