/- TextLcp: the walk of the law. -/
import Derived.Test.YtgaboipigdkefaaText4
namespace Go.Proofs.Ytgaboipigdkefaa.TextLcp
open Go.RowKit Go.Sort

theorem str_info : (Try.prog.info? 9).map (fun i => (i.zero, i.size, i.bytes)) = some (some (.string ByteArray.empty), 1, 16) := by kernel_rfl

theorem one_cell (l : List ByteArray) : ∀ u ∈ l.map Value.string, u.oneCell' = true := by
  intro u hu
  obtain ⟨s, _, rfl⟩ := List.mem_map.1 hu
  rfl

set_option maxHeartbeats 1000000 in
theorem walk_main (A A2 : Option Addr) (n n2 c c2 : Nat) (ls ms : List ByteArray) (f s r r2 t e0 again : ByteArray) (code : Int) (w : World)
    (HA : Reads w w.heap.size 1 A n (ls.map Value.string)) (HA2 : Reads w w.heap.size 1 A2 n2 (ms.map Value.string))
    (hc : n ≤ c) (hm : c ≤ maxLen) (hc2 : n2 ≤ c2) (hm2 : c2 ≤ maxLen) (hs1 : shortB ls = true) (hs2 : shortB ms = true)
    (hf : f.size ≤ 140737488355328) (hs : s.size ≤ 140737488355328) (hle : f.size + s.size ≤ 600)
    (hr : lcpL (ls ++ ms) = r) (hr2 : lcpB (lcpL ls) [lcpL ms] = r2) (hx1 : (lcpL ls).size ≤ maxLen) (hx2 : (lcpL ms).size ≤ maxLen)
    (h1 : ∀ w, Calls Try.prog 15 #[.string f, .string s] w (Gives (.tuple #[.string t, .int .i64 code]) w))
    (h2 : ∀ w, Calls Try.prog 15 #[.string f, .string (f ++ s)] w (Gives (.tuple #[.string s, .int .i64 0]) w))
    (hcase : ((n : Int) == 0) = true ∨ ((n : Int) == 0) = false ∧ ((n2 : Int) == 0) = true ∨ ((n : Int) == 0) = false ∧ ((n2 : Int) == 0) = false ∧ (r.toList == r2.toList) = true)
    (hcode : (code != 0) = true ∨ (code != 0) = false ∧ t.size ≤ 900 ∧ ((f ++ t).toList == s.toList) = true) :
    Calls Try.prog 5 #[.slice A n c, .slice A2 n2 c2, .string f, .string s] w (Gives (.bool true) w) := by
  obtain ⟨i0, hi0, hz0, hz1, hz2⟩ := info_parts str_info
  have hn := HA.1
  have hn2 := HA2.1
  simp only [List.length_map, Nat.mul_one] at hn hn2
  have hb1 : ls.length ≤ 60 := by unfold shortB at hs1; simp at hs1; exact hs1.1
  have hb2 : ms.length ≤ 60 := by unfold shortB at hs2; simp at hs2; exact hs2.1
  have hl1 : ∀ x ∈ ls, x.size ≤ maxLen := fun x hx => by unfold shortB at hs1; simp at hs1; have := hs1.2 x hx; unfold maxLen; omega
  have hl2 : ∀ x ∈ ms, x.size ≤ maxLen := fun x hx => by unfold shortB at hs2; simp at hs2; have := hs2.2 x hx; unfold maxLen; omega
  have H1 := Lib.hid h1
  have H2 := Lib.hid h2
  have HS1 := Lib.hid hs1
  have HS2 := Lib.hid hs2
  have HR := Lib.hid hr
  have HR2 := Lib.hid hr2
  have HC := Lib.hid hcase
  have HD := Lib.hid hcode
  have HL1 := Lib.hid hl1
  have HL2 := Lib.hid hl2
  have HN := Lib.hid hn
  have HN2 := Lib.hid hn2
  have hnn : n ≤ 60 := by omega
  have hnn2 : n2 ≤ 60 := by omega
  clear h1 h2 hs1 hs2 hr hr2 hcase hcode hl1 hl2 hn hn2
  go_enter Try.func5, Try.ntmps5
  go_wp2_with fail
  refine (short_any A c n _ ls _ HA hc hm).mono ?_; rintro e w1 ⟨rfl, HB1⟩; rw [HS1.out]
  go_wp2_with fail
  refine (short_any A2 c2 n2 _ ms _ (HA2.below HB1) hc2 hm2).mono ?_; rintro e w2 ⟨rfl, HB2⟩; rw [HS2.out]
  have HA' := (HA.below HB1).keep (fun p hp => HB2.cell (Nat.lt_of_lt_of_le hp HB1.size))
  have HA2' := (HA2.below HB1).keep (fun p hp => HB2.cell (Nat.lt_of_lt_of_le hp HB1.size))
  have HB := below_then HB1 HB2
  clear HB1 HB2
  go_wp2_with (first
    | (at_builtin
       refine wpList_append_any _ rfl (.tmp 32) (.tmp 33) _ rfl w2.heap.size 9 i0 _ 1 16 Try.underlying25 hi0 hz0 hz1 hz2 rfl (by omega) (.slice none 0 0) 0 [] rfl
         ⟨by simp, .inl ⟨rfl, rfl⟩⟩ w.heap.size A n c (ls.map Value.string) rfl HA' (one_cell ls) (by simp only [maxLen]; omega) (by omega) (Nat.le_refl _) ?_
       intro v1 w3 hown1 hg1 hat1
       have HB3 : Below w2.heap.size w2 w3 := (Below.refl _ _).grown hg1 (Nat.le_refl _) (by simp [Value.ownBlock])
       have HA3 := HA2'.keep (fun p hp => HB3.cell (Nat.lt_of_lt_of_le hp HB.size)))
    | (at_builtin
       refine wpList_append_any _ rfl (.tmp 35) (.tmp 36) _ rfl w2.heap.size 9 i0 _ 1 16 Try.underlying25 hi0 hz0 hz1 hz2 rfl (by omega) v1 (0 + n) ([] ++ ls.map Value.string) rfl
         hown1 w.heap.size A2 n2 c2 (ms.map Value.string) rfl HA3 (one_cell ms) (by simp only [maxLen]; omega) (by omega) HB3.size ?_
       intro v2 w4 hown2 hg2 hat2
       have HB4 : Below w2.heap.size w2 w4 := HB3.grown hg2 HB3.size (fun k hk => by rcases hat1 with e | e <;> rw [e] at hk <;> simp [Value.ownBlock] at hk; omega)
       obtain ⟨A5, c5, rfl, HR5, hc5, hm5⟩ := own_reads hown2))
  simp only [Nat.zero_add, List.nil_append, ← List.map_append] at HR5 hc5
  have hb3 : ∀ x ∈ ls ++ ms, x.size ≤ maxLen := fun x hx => (List.mem_append.1 hx).elim (HL1.out x) (HL2.out x)
  have HL3 := Lib.hid hb3; clear hb3
  have HAw4 := HA'.keep (fun p hp => HB4.cell (Nat.lt_of_lt_of_le hp HB.size))
  have HA2w4 := HA2'.keep (fun p hp => HB4.cell (Nat.lt_of_lt_of_le hp HB.size))
  have HBw4 := below_then HB HB4
  clear HA' HA2' HA3
  refine (lcp_any A5 c5 (n + n2) _ (ls ++ ms) _ HR5 (Nat.le_refl _) HL3.out hc5 hm5).mono ?_; rintro e w5 ⟨rfl, HB5⟩; rw [HR.out]
  have HBw5 := below_then HBw4 HB5
  go_wp2_with fail
  refine (lcp_any A c n _ ls _ (HA.below HBw5) HBw5.size HL1.out hc hm).mono ?_; rintro e w6 ⟨rfl, HB6⟩
  have HBw6 := below_then HBw5 HB6
  go_wp2_with fail
  refine (lcp_any A2 c2 n2 _ ms _ (HA2.below HBw6) HBw6.size HL2.out hc2 hm2).mono ?_; rintro e w7 ⟨rfl, HB7⟩
  have HBw7 := below_then HBw6 HB7
  go_wp2_with fail
  refine (lcp_two w7 _ _ hx1 hx2).mono ?_; rintro e w8 ⟨rfl, HB8⟩; rw [HR2.out]
  have HBw8 := below_then (HBw7.alloc HBw7.size _) HB8
  clear HAw4 HA2w4 HBw4 HB5 HBw5 HB6 HBw6 HB7 HBw7 HB8
  go_wp2_with fail
  refine (H1.out _).mono ?_; rintro e w9 ⟨rfl, HB9⟩
  go_wp2_with fail
  refine (H2.out _).mono ?_; rintro e w10 ⟨rfl, HB10⟩
  go_wp2_with fail
  refine (awake3_any _).mono ?_; rintro e w11 ⟨rfl, HB11⟩
  have HBw11 := below_then (below_then (below_then HBw8 HB9) HB10) HB11
  rcases HC.out with k1 | ⟨k1, k2⟩ | ⟨k1, k2, k3⟩
  all_goals
    rcases HD.out with j1 | ⟨j1, j2, j3⟩
    all_goals
      go_wp2_with fail
      go_ret
      exact ⟨rfl, HBw11⟩

end Go.Proofs.Ytgaboipigdkefaa.TextLcp
