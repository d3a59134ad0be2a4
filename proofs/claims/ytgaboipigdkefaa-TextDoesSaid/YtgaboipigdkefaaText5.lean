/- The walks of the references of layer 3. -/
import Derived.Test.YtgaboipigdkefaaText4
namespace Go.Proofs.Ytgaboipigdkefaa
open Go.RowKit Go.Sort

set_option maxHeartbeats 400000 in
theorem begins_any (p s : ByteArray) (w : World) (hp : p.size ≤ maxLen) (hs : s.size ≤ maxLen) :
    Calls Try.prog 39 #[.string p, .string s] w (Gives (.bool (pre p s)) w) := by
  unfold maxLen at hs hp
  by_cases h : p.size ≤ s.size
  · go_enter Try.func39, Try.ntmps39
    go_wp2
    go_ret
    exact ⟨by simp [pre_yes s p h], Below.refl _ _⟩
  · go_enter Try.func39, Try.ntmps39
    go_wp2
    go_ret
    exact ⟨by simp [pre_no s p h], Below.refl _ _⟩

theorem rstrip_yes (p s : ByteArray) (w : World) (hp : p.size ≤ maxLen) (hs : s.size ≤ maxLen) (h : pre p s = true) :
    Calls Try.prog 21 #[.string p, .string s] w (Gives (.tuple #[.string (s.extract p.size s.size), .int .i64 0]) w) := by
  have hle : p.size ≤ s.size := by
    rcases Nat.lt_or_ge s.size p.size with h1 | h1
    · rw [pre_no s p (by omega)] at h; cases h
    · exact h1
  have hs' := hs
  unfold maxLen at hs'
  have H := Lib.hid h; clear h
  go_enter Try.func21, Try.ntmps21
  go_wp2_with (go_at_call 39; refine (begins_any _ _ _ hp hs).mono ?_; rintro e w' ⟨rfl, HB⟩; rw [H.out])
  go_ret2
  exact ⟨rfl, HB⟩

theorem rstrip_no (p s : ByteArray) (w : World) (hp : p.size ≤ maxLen) (hs : s.size ≤ maxLen) (h : pre p s = false) :
    Calls Try.prog 21 #[.string p, .string s] w (Gives (.tuple #[.string ByteArray.empty, .int .i64 1]) w) := by
  have H := Lib.hid h; clear h
  go_enter Try.func21, Try.ntmps21
  go_wp2_with (go_at_call 39; refine (begins_any _ _ _ hp hs).mono ?_; rintro e w' ⟨rfl, HB⟩; rw [H.out])
  go_ret2
  exact ⟨rfl, HB⟩

set_option maxHeartbeats 400000 in
theorem rcount_any (s p : ByteArray) (w : World) (hs : s.size < maxLen) (hp : p.size ≤ maxLen) :
    Calls Try.prog 26 #[.string s, .string p] w (Gives (.int .i64 (cntTo s p (s.size + 1))) w) := by
  have hs' := hs
  unfold maxLen at hs'
  go_enter Try.func26, Try.ntmps26
  go_wp2
  go_loopw [5, 6] (fun n i wr => ∃ k : Nat, k ≤ s.size + 1 ∧ i = .int .i64 k ∧ n = .int .i64 (cntTo s p k) ∧ Below w.heap.size w wr) (fun _ i _ => s.size + 1 - (intOf i).toNat)
  case atStart => exact ⟨0, by omega, rfl, by simp [cntTo], Below.refl _ _⟩
  case round =>
    obtain ⟨k, hk, rfl, rfl, HB⟩ := hrel
    have hb := cntTo_le s p k
    by_cases hlt : k < s.size + 1
    · have hle : (s.extract k s.size).size ≤ maxLen := by simp only [ByteArray.size_extract]; omega
      have hq := cntTo_succ s p k
      have HQ := Lib.hid hq; clear hq
      cases hb' : pre p (s.extract k s.size)
      all_goals
        have HP := Lib.hid hb'; clear hb'
        go_wp2_with (go_at_call 39; refine (begins_any _ _ _ hp hle).mono ?_; rintro e w' ⟨rfl, HB2⟩; rw [HP.out])
        go_roundw
        case rel => exact ⟨k + 1, by omega, by go_num, by rw [HQ.out, HP.out]; first | rfl | go_num, below_then HB HB2⟩
        case measure => simp [intOf]; omega
    · have : k = s.size + 1 := by omega
      subst this
      go_wp2
      go_ret
      exact ⟨rfl, HB⟩

theorem own_any (A : Option Addr) (n c : Nat) (ls : List ByteArray) (w : World) (HA : Reads w w.heap.size 1 A n (ls.map Value.string)) (hn : n ≤ 60) :
    Calls Try.prog 20 #[.slice A n c] w fun e w' => ∃ A' c', e = .returned (.slice A' n c') ∧ Reads w' w'.heap.size 1 A' n (ls.map Value.string) ∧ n ≤ c' ∧ c' ≤ maxLen ∧ Below w.heap.size w w' := by
  obtain ⟨i0, hi0, hz0, hz1, hz2⟩ := info_parts str_info
  go_enter Try.func20, Try.ntmps20
  go_wp2_with (at_builtin
               refine wpList_append_any _ rfl (.tmp 4) (.tmp 5) _ rfl w.heap.size 9 i0 _ 1 16 Try.underlying25 hi0 hz0 hz1 hz2 rfl (by omega) (.slice none 0 0) 0 [] rfl
                 ⟨by simp, .inl ⟨rfl, rfl⟩⟩ w.heap.size A n c (ls.map Value.string) rfl HA (one_cell ls) (by simp only [maxLen]; omega) (by omega) (Nat.le_refl _) ?_
               intro v1 w3 hown1 hg1 hat1
               have HB3 : Below w.heap.size w w3 := (Below.refl _ _).grown hg1 (Nat.le_refl _) (by simp [Value.ownBlock])
               obtain ⟨A5, c5, rfl, HR5, hc5, hm5⟩ := own_reads hown1)
  simp only [Nat.zero_add, List.nil_append] at HR5 hc5
  go_ret
  exact ⟨A5, c5, by simp, HR5, hc5, hm5, HB3⟩

set_option maxHeartbeats 1000000 in
/-- Two rows that are the same. -/
theorem texts_same (A A2 : Option Addr) (n c c2 B B2 : Nat) (ls : List ByteArray) (w : World) (HA : Reads w B 1 A n (ls.map Value.string)) (HA2 : Reads w B2 1 A2 n (ls.map Value.string)) (hB : B ≤ w.heap.size) (hB2 : B2 ≤ w.heap.size) (hc : n ≤ c) (hm : c ≤ maxLen) :
    Calls Try.prog 27 #[.slice A n c, .slice A2 n c2] w (Gives (.bool true) w) := by
  have hn := HA.1
  simp at hn
  subst hn
  unfold maxLen at hm
  go_enter Try.func27, Try.ntmps27
  go_wp2
  go_loopw [5] (fun i wr => ∃ k : Nat, k ≤ ls.length ∧ i = .int .i64 k ∧ Below w.heap.size w wr) (fun i _ => ls.length - (intOf i).toNat)
  case atStart => exact ⟨0, by omega, rfl, Below.refl _ _⟩
  case round =>
    obtain ⟨k, hk, rfl, HB⟩ := hrel
    by_cases hlt : k < ls.length
    · obtain ⟨ad, rfl, hck⟩ := cell_some ((HA.more hB).below HB) k hlt
      obtain ⟨ad2, rfl, hck2⟩ := cell_some ((HA2.more hB2).below HB) k hlt
      go_wp2
      go_quiet (fail)
      go_wp2
      go_roundw
      case rel => exact ⟨k + 1, by omega, by go_num, below_drewN HB _⟩
      case measure => simp [intOf]; omega
    · go_wp2
      go_ret
      exact ⟨rfl, HB⟩

/-! ### The reference's Lcp -/

theorem take_pre : ∀ (s t : List UInt8) (n : Nat), n ≤ s.length → (s.take n <+: t ↔ n ≤ lcpN s t)
  | s, t, 0, _ => by simp
  | [], _, n + 1, h => by simp at h
  | x :: s, [], n + 1, _ => by simp [lcpN]
  | x :: s, y :: t, n + 1, h => by
    have ih := take_pre s t n (by simpa using h)
    simp only [List.take_succ_cons, List.cons_prefix_cons, lcpN]
    by_cases e : x = y
    · simp [e, ih]
    · simp [e]

/-- All begin with the first n of s just if n is no more than what all begin with. -/
theorem lcpB_pre : ∀ (l : List ByteArray) (s : ByteArray) (n : Nat), n ≤ s.size → ((∀ t ∈ l, s.data.toList.take n <+: t.data.toList) ↔ n ≤ (lcpB s l).size)
  | [], s, n, h => by simpa [lcpB] using h
  | t :: l, s, n, h => by
    have e : lcpB s (t :: l) = lcpB (s.extract 0 (lcpN s.data.toList t.data.toList)) l := rfl
    have hl := lcpN_le_left s.data.toList t.data.toList
    rw [← Lib.size_eq] at hl
    have hz : (s.extract 0 (lcpN s.data.toList t.data.toList)).size = lcpN s.data.toList t.data.toList := by simp only [ByteArray.size_extract]; omega
    rw [e, List.forall_mem_cons, take_pre _ _ _ (by rw [← Lib.size_eq]; exact h)]
    by_cases hn : n ≤ lcpN s.data.toList t.data.toList
    · have ih := lcpB_pre l (s.extract 0 (lcpN s.data.toList t.data.toList)) n (by omega)
      rw [front_list, List.take_take, Nat.min_eq_left hn] at ih
      rw [ih]
      exact ⟨fun h => h.2, fun h => ⟨hn, h⟩⟩
    · have := lcpB_size l (s.extract 0 (lcpN s.data.toList t.data.toList))
      exact ⟨fun h => absurd h.1 hn, fun h => by omega⟩

theorem lcpB_front : ∀ (l : List ByteArray) (s : ByteArray), lcpB s l = s.extract 0 (lcpB s l).size
  | [], s => by simp [lcpB]
  | t :: l, s => by
    have e : lcpB s (t :: l) = lcpB (s.extract 0 (lcpN s.data.toList t.data.toList)) l := rfl
    have h := lcpB_front l (s.extract 0 (lcpN s.data.toList t.data.toList))
    have hl := lcpB_size l (s.extract 0 (lcpN s.data.toList t.data.toList))
    have hz : (s.extract 0 (lcpN s.data.toList t.data.toList)).size ≤ lcpN s.data.toList t.data.toList := by simp only [ByteArray.size_extract]; omega
    rw [e]
    apply WideShapes.bytes_inj
    rw [front_list]
    have h2 := congrArg (·.data.toList) h
    simp only [front_list, List.take_take] at h2
    rw [Nat.min_eq_left (by omega)] at h2
    exact h2

/-- Do all of a row begin with p? -/
def allPre (p : ByteArray) (l : List ByteArray) : Bool := l.all fun t => pre p t

theorem allPre_iff (s : ByteArray) (l : List ByteArray) (n : Nat) (h : n ≤ s.size) : allPre (s.extract 0 n) (s :: l) = true ↔ n ≤ (lcpB s l).size := by
  rw [← lcpB_pre l s n h]
  unfold allPre pre Lib.hasPrefix
  rw [List.all_eq_true]
  simp only [List.isPrefixOf_iff_prefix, front_list, List.forall_mem_cons]
  exact ⟨fun h => h.2, fun h => ⟨List.take_prefix _ _, h⟩⟩

theorem allPre_snoc (p : ByteArray) (l : List ByteArray) (t : ByteArray) : allPre p (l ++ [t]) = (allPre p l && pre p t) := by
  simp [allPre]

theorem rlcp_nil (A : Option Addr) (c : Nat) (w : World) : Calls Try.prog 23 #[.slice A 0 c] w (Gives (.string ByteArray.empty) w) := by
  go_enter Try.func23, Try.ntmps23
  go_wp2
  go_ret
  exact ⟨rfl, Below.refl _ _⟩

set_option maxHeartbeats 4000000 in
theorem rlcp_cons (A : Option Addr) (c B : Nat) (s : ByteArray) (l : List ByteArray) (w : World) (HR0 : Reads w B 1 A (l.length + 1) ((s :: l).map Value.string)) (hB : B ≤ w.heap.size) (hl : ∀ x ∈ s :: l, x.size ≤ maxLen) (hc : l.length + 1 ≤ c) (hm : c ≤ maxLen) :
    Calls Try.prog 23 #[.slice A (l.length + 1 : Nat) c] w (Gives (.string (lcpB s l)) w) := by
  have HR := HR0.more hB
  clear HR0
  obtain ⟨ad, rfl, hc0⟩ := cell_some (ss := s :: l) HR 0 (by simp)
  have hc0 : w.cell? ad = some (.string s) := by simpa [Addr.add] using hc0
  have hs0 : s.size ≤ maxLen := hl s (by simp)
  have hs1 := hs0
  unfold maxLen at hm hs1
  have hle := lcpB_size l s
  have HF := Lib.hid (lcpB_front l s)
  have HI := Lib.hid (allPre_iff s l)
  have HL := Lib.hid hl
  clear hl
  have hz : (((l.length : Nat) : Int) + 1 == 0) = false := by rw [beq_eq_false_iff_ne]; omega
  generalize hr : lcpB s l = r at *
  clear hr
  go_enter Try.func23, Try.ntmps23
  go_wp2
  go_loopw [3] (fun n wr => ∃ k : Nat, k ≤ s.size ∧ r.size ≤ k ∧ n = .int .i64 k ∧ Below w.heap.size w wr) (fun n _ => (intOf n).toNat)
  case atStart => exact ⟨s.size, by omega, hle, rfl, Below.refl _ _⟩
  case round =>
    obtain ⟨k, hk, hrk, rfl, HB⟩ := hrel
    by_cases hlt : 0 < k
    · obtain ⟨wo, rfl⟩ : ∃ wo : World, wo = wr := ⟨_, rfl⟩
      go_wp2
      go_loopw [4, 5] (fun ok i wr => ∃ j : Nat, j ≤ l.length + 1 ∧ i = .int .i64 j ∧ ok = .bool (allPre (s.extract 0 k) ((s :: l).take j)) ∧ Below w.heap.size w wr) (fun _ i _ => l.length + 1 - (intOf i).toNat)
      case atStart => exact ⟨0, by omega, rfl, rfl, HB⟩
      case round =>
        obtain ⟨j, hj, rfl, rfl, HB2⟩ := hrel
        clear HB
        by_cases hlj : j < l.length + 1
        · obtain ⟨_, e, hcj⟩ := cell_some (HR.below HB2) j (by simpa using hlj)
          cases e
          have hcz : wr.cell? ad = some (.string s) := by
            obtain ⟨_, e, h⟩ := cell_some (ss := s :: l) (HR.below HB2) 0 (by simp)
            cases e
            simpa [Addr.add] using h
          have hsz : ((s :: l)[j]'(by simpa using hlj)).size ≤ maxLen := HL.out _ (List.getElem_mem _)
          have hpz : (s.extract 0 k).size ≤ maxLen := by simp only [ByteArray.size_extract]; omega
          have e1 : (s :: l).take (j + 1) = (s :: l).take j ++ [(s :: l)[j]'(by simpa using hlj)] := List.take_succ_eq_append_getElem _
          have e2 : allPre (s.extract 0 k) ((s :: l).take (j + 1)) = (allPre (s.extract 0 k) ((s :: l).take j) && pre (s.extract 0 k) ((s :: l)[j]'(by simpa using hlj))) := by rw [e1, allPre_snoc]
          have E2 := Lib.hid e2
          clear e1 e2
          generalize (s :: l)[j]'(by simpa using hlj) = x at *
          cases hb : allPre (s.extract 0 k) ((s :: l).take j)
          · have HB0 := Lib.hid hb; clear hb
            go_wp2
            refine wp_region_quiet_below (by kernel_rfl) (by kernel_rfl) ?_
            repeat (go_big_quiet_step ((fail)))
            refine wpQuiet_nil ?_
            rintro w5 ⟨p5, rfl⟩
            have HB5 := below_regrown wr p5.d p5.os
            generalize grow (redrawn wr p5.d) p5.os = w5 at *
            go_wp2
            go_roundw
            case rel => exact ⟨j + 1, by omega, by go_num, by rw [E2.out, HB0.out]; rfl, below_then HB2 HB5⟩
            case measure => simp [intOf]; omega
          · have HB0 := Lib.hid hb; clear hb
            have k0 := cell_regrown hcz
            have k1 := cell_regrown hcj
            go_wp2
            refine wp_region_quiet_below (by kernel_rfl) (by kernel_rfl) ?_
            repeat (go_big_quiet_step ((go_at_call 39; exact gives_quiet (begins_any _ _ _ hpz hsz))))
            refine wpQuiet_nil ?_
            rintro w5 ⟨p5, rfl⟩
            have HB5 := below_regrown wr p5.d p5.os
            clear k0 k1
            generalize grow (redrawn wr p5.d) p5.os = w5 at *
            go_wp2
            go_roundw
            case rel => exact ⟨j + 1, by omega, by go_num, by rw [E2.out, HB0.out]; simp, below_then HB2 HB5⟩
            case measure => simp [intOf]; omega
        · have e1 : (s :: l).take j = s :: l := List.take_of_length_le (by simp; omega)
          rw [e1]
          have hi := HI.out k hk
          have hcz : wr.cell? ad = some (.string s) := by
            obtain ⟨_, e, h⟩ := cell_some (ss := s :: l) (HR.below HB2) 0 (by simp)
            cases e
            simpa [Addr.add] using h
          cases hb : allPre (s.extract 0 k) (s :: l)
          · rw [hb] at hi
            have hk2 : r.size ≤ k - 1 := by
              rcases Nat.lt_or_ge r.size k with h | h
              · omega
              · have := hi.2 h; cases this
            clear hb hi
            go_wp2
            go_roundw
            case rel => exact ⟨k - 1, by omega, hk2, by congr 1; omega, HB2⟩
            case measure => simp [intOf]; omega
          · have hk2 : k = r.size := by have := hi.1 hb; omega
            clear hb hi
            go_wp2
            go_ret
            refine ⟨?_, HB2⟩
            rw [HF.out, ← hk2]
            simp [Nat.min_eq_left hk]
    · have hr0 : r.size = 0 := by omega
      go_wp2
      go_ret
      refine ⟨?_, HB⟩
      rw [HF.out, hr0]
      simp; rfl

theorem rlcp_any (A : Option Addr) (c n B : Nat) (ss : List ByteArray) (w : World) (HR : Reads w B 1 A n (ss.map Value.string)) (hB : B ≤ w.heap.size) (hl : ∀ x ∈ ss, x.size ≤ maxLen) (hc : n ≤ c) (hm : c ≤ maxLen) :
    Calls Try.prog 23 #[.slice A n c] w (Gives (.string (lcpL ss)) w) := by
  have hn := HR.1
  simp at hn
  subst hn
  cases ss with
  | nil => exact rlcp_nil A c w
  | cons s l => exact rlcp_cons A c B s l w HR hB hl hc hm

/-- One of a row of two. -/
theorem reads_two (w : World) (x y : ByteArray) : Reads (w.alloc (.cells #[.string x, .string y] 9)) (w.alloc (.cells #[.string x, .string y] 9)).heap.size 1 (some ⟨w.heap.size, 0, none⟩) 2 ([x, y].map Value.string) :=
  reads_new w [.string x, .string y] _ (by simp)

set_option maxHeartbeats 400000 in
theorem rlag_any (a b : ByteArray) (w : World) (ha : a.size ≤ maxLen) (hb : b.size ≤ maxLen) :
    Calls Try.prog 22 #[.string a, .string b] w (Gives (.tuple #[.string (a.extract (lcpN a.data.toList b.data.toList) a.size), .string (b.extract (lcpN a.data.toList b.data.toList) b.size)]) w) := by
  have h1 := lcpN_le_left a.data.toList b.data.toList
  have h2 := lcpN_le_right a.data.toList b.data.toList
  have ha' := ha
  have hb' := hb
  unfold maxLen at ha' hb'
  simp only [Array.length_toList, ByteArray.size_data] at h1 h2
  have hcall : ∀ w : World, Calls Try.prog 23 #[.slice (some ⟨w.heap.size, 0, none⟩) 2 2] (w.alloc (.cells #[.string a, .string b] 9)) (Gives (.string (a.extract 0 (lcpN a.data.toList b.data.toList))) (w.alloc (.cells #[.string a, .string b] 9))) := fun w =>
    rlcp_any (some ⟨w.heap.size, 0, none⟩) 2 2 _ [a, b] _ (reads_two w a b) (Nat.le_refl _) (by simp [ha, hb]) (Nat.le_refl _) (by decide)
  have H := Lib.hid hcall
  clear hcall
  have hz : (a.extract 0 (lcpN a.data.toList b.data.toList)).size = lcpN a.data.toList b.data.toList := by simp only [ByteArray.size_extract]; omega
  have HZ := Lib.hid hz
  clear hz
  generalize a.extract 0 (lcpN a.data.toList b.data.toList) = c at *
  have hz := HZ.out
  generalize lcpN a.data.toList b.data.toList = n at *
  subst hz
  go_enter Try.func22, Try.ntmps22
  go_wp2_with fail
  refine (H.out _).mono ?_; rintro e w' ⟨rfl, HB⟩
  go_wp2_with fail
  go_quiet (fail)
  go_wp2
  go_ret2
  exact ⟨rfl, below_drewN (below_then ((Below.refl _ _).alloc (Nat.le_refl _) _) HB) _⟩

set_option maxHeartbeats 400000 in
theorem rfar_any (a b : ByteArray) (w : World) (ha : a.size ≤ maxLen) (hb : b.size ≤ maxLen) :
    Calls Try.prog 24 #[.string a, .string b] w (Gives (.int .i64 (wrap64 ((a.size - lcpN a.data.toList b.data.toList : Nat) + (b.size - lcpN a.data.toList b.data.toList : Nat)))) w) := by
  go_enter Try.func24, Try.ntmps24
  go_wp2_with (go_at_call 22; refine (rlag_any _ _ _ ha hb).mono ?_; rintro e w' ⟨rfl, HB⟩)
  go_ret
  refine ⟨?_, HB⟩
  simp

end Go.Proofs.Ytgaboipigdkefaa
