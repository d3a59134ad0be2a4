/- The walks of the references Bytes and By of layer 1. -/
import Derived.Test.YtbjgkolldmplkaaSet6
import Derived.Test.YtbjgkolldmplkaaOnesP
namespace Go.Proofs.Ytbjgkolldmplkaa
open Go.RowKit Go.Sort

theorem byte_info : (Try.prog.info? 5).map (fun i => (i.zero, i.size, i.bytes)) = some (some (.int .u8 0), 1, 1) := by kernel_rfl

theorem own_base {w : World} {base : Nat} {e : TypeId} {size n : Nat} {v : Value} {xs : List Value} (h : w.ownsRow base e size v n xs) : ∀ g, v.ownBlock = some g → base ≤ g := by
  obtain ⟨_, h2⟩ := h
  rcases h2 with ⟨rfl, _⟩ | ⟨g, cap, cur, rfl, hb, _⟩
  · intro g hg; simp [Value.ownBlock] at hg
  · intro g' hg
    have : g = g' := by simpa [Value.ownBlock] using hg
    omega

theorem own_call {w w' : World} {B e size n : Nat} {v : Value} {xs : List Value} (h : w.ownsRow B e size v n xs) (hb : Below w.heap.size w w') : w'.ownsRow B e size v n xs :=
  h.kept (row := none) ⟨hb.os, hb.tape, hb.output, hb.size, fun k hk _ => hb.block k hk⟩ (by
    cases h1 : v.ownBlock
    · exact .inl rfl
    · exact .inr (by simp))

/-- Those of a set below n, rising. -/
def bytesTo (m : Nat → Bool) : Nat → List Nat
  | 0 => []
  | n + 1 => if m n then bytesTo m n ++ [n] else bytesTo m n

theorem bytesTo_yes (m : Nat → Bool) (n : Nat) (h : m n = true) : bytesTo m (n + 1) = bytesTo m n ++ [n] := by rw [bytesTo, if_pos h]
theorem bytesTo_no (m : Nat → Bool) (n : Nat) (h : m n = false) : bytesTo m (n + 1) = bytesTo m n := by rw [bytesTo, if_neg (by rw [h]; decide)]

theorem bytesTo_length (m : Nat → Bool) : ∀ n, (bytesTo m n).length = cnt m n
  | 0 => rfl
  | n + 1 => by
    rw [bytesTo, cnt]
    cases h : m n <;> simp [bytesTo_length m n]

theorem bytesTo_lt (m : Nat → Bool) : ∀ n, ∀ b ∈ bytesTo m n, b < n ∧ m b = true
  | 0, b, h => by simp [bytesTo] at h
  | n + 1, b, h => by
    rw [bytesTo] at h
    cases hm : m n
    · rw [hm] at h
      have := bytesTo_lt m n b h
      exact ⟨by omega, this.2⟩
    · rw [hm] at h
      rcases List.mem_append.1 h with h | h
      · have := bytesTo_lt m n b h
        exact ⟨by omega, this.2⟩
      · obtain rfl : b = n := by simpa using h
        exact ⟨by omega, hm⟩

/-- The bytes of a set, rising. -/
def bytesOf (m : Nat → Bool) : List Nat := bytesTo m 256

theorem byteVals_snoc (l : List Nat) (b : Nat) : byteVals l ++ [.int .u8 ((b : Nat) : Int)] = byteVals (l ++ [b]) := by simp [byteVals]

set_option maxRecDepth 100000 in
set_option maxHeartbeats 4000000 in
theorem bytes_own (m : Nat → Bool) (w : World) :
    Calls Try.prog 40 #[.agg #[.int .u64 ((word m 0 : Nat) : Int), .int .u64 ((word m 1 : Nat) : Int), .int .u64 ((word m 2 : Nat) : Int), .int .u64 ((word m 3 : Nat) : Int)]] w fun e W' => ∃ v, e = .returned v ∧ W'.ownsRow w.heap.size 5 1 v (bytesOf m).length (byteVals (bytesOf m)) ∧ Below w.heap.size w W' := by
  obtain ⟨i0, hi0, hz0, hz1, hz2⟩ := info_parts byte_info
  have hbk := new_blk w m 25
  go_enter Try.func40, Try.ntmps40
  go_wp2
  go_loopw [3, 4] (fun v i wr => ∃ k : Nat, k ≤ 256 ∧ i = .int .i64 k ∧ wr.ownsRow w.heap.size 5 1 v (bytesTo m k).length (byteVals (bytesTo m k)) ∧ Blk wr w.heap.size 25 (sCells m) ∧ Below w.heap.size w wr) (fun _ i _ => 256 - (intOf i).toNat)
  case atStart => exact ⟨0, by omega, rfl, ⟨rfl, .inl ⟨rfl, rfl⟩⟩, hbk, (Below.refl _ _).alloc (Nat.le_refl _) _⟩
  case round =>
    clear hbk
    obtain ⟨k, hk, rfl, hown, hbs, HB⟩ := hrel
    by_cases hlt : k < 256
    · obtain ⟨c0, c1, c2, c3⟩ := hbs.cells4
      have HC := fun W => rhas_any m k W hlt
      cases hm : m k
      · rw [hm] at HC
        have E := fun _ : Unit => bytesTo_no m k hm
        clear hm
        go_wp2_with (go_at_call 16; refine (HC _).mono ?_; rintro e w1 ⟨rfl, HB1⟩)
        go_roundw
        case rel => exact ⟨k + 1, by omega, by go_num, by rw [E ()]; exact own_call hown HB1, hbs.below HB1 hbs.lt, HB.trans (HB1.mono HB.size)⟩
        case measure => simp [intOf]; omega
      · rw [hm] at HC
        have E := fun _ : Unit => bytesTo_yes m k hm
        have hl : (bytesTo m k).length ≤ 256 := by rw [bytesTo_length]; exact Nat.le_trans (cnt_le m k) hk
        clear hm
        generalize bytesTo m k = l at *
        go_wp2_with (first
          | (go_at_call 16
             refine (HC _).mono ?_
             rintro e w1 ⟨rfl, HB1⟩
             have hown1 := own_call hown HB1
             have hfr := own_base hown1
             have hbs1 := hbs.below HB1 hbs.lt
             have L1 := HB.trans (HB1.mono HB.size))
          | (at_builtin
             refine wpList_append_any _ rfl (.tmp 12) (.tmp 15) _ rfl w.heap.size 5 i0 _ 1 1 Try.underlying22 hi0 hz0 hz1 hz2 rfl (by omega) _ l.length _ rfl
               (hown1.alloc _) _ _ 1 1 [.int .u8 (k : Int)] rfl (reads_blk (xs := [.int .u8 (k : Int)]) (Blk.new w1 _ _)) (by simp [Value.oneCell']) (by simp only [maxLen]; omega) (by omega) (by have := L1.size; simp; omega) ?_
             intro v1 w3 hown3 hg3 hat3
             have HB3 : Below w.heap.size w w3 := (L1.alloc L1.size _).grown hg3 (by have := L1.size; simp; omega) hfr
             have hbs3 := (hbs1.alloc (.cells #[.int .u8 (k : Int)] 5)).grown hg3 (own_blk_ne hown1 hbs1 (by decide)).symm
             rw [byteVals_snoc] at hown3))
        go_roundw
        case rel => exact ⟨k + 1, by omega, by go_num, by rw [E (), List.length_append]; exact hown3, hbs3, HB3⟩
        case measure => simp [intOf]; omega
    · have e : k = 256 := by omega
      subst e
      go_wp2
      go_ret
      exact ⟨_, rfl, hown, HB⟩

theorem bytes_any (m : Nat → Bool) (w : World) :
    Calls Try.prog 40 #[.agg #[.int .u64 ((word m 0 : Nat) : Int), .int .u64 ((word m 1 : Nat) : Int), .int .u64 ((word m 2 : Nat) : Int), .int .u64 ((word m 3 : Nat) : Int)]] w fun e W' => ∃ A c, e = .returned (.slice A (bytesOf m).length c) ∧ Reads W' W'.heap.size 1 A (bytesOf m).length (byteVals (bytesOf m)) ∧ (bytesOf m).length ≤ c ∧ c ≤ maxLen ∧ Below w.heap.size w W' :=
  (bytes_own m w).mono fun e W' ⟨v, he, ho, hb⟩ => by
    obtain ⟨A, c, rfl, hr, h1, h2⟩ := own_reads ho
    exact ⟨A, c, he, hr, h1, h2, hb⟩

end Go.Proofs.Ytbjgkolldmplkaa
