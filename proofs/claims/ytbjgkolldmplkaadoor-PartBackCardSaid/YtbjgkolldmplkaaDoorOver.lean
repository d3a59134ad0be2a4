/- The walk of part.Over. -/
import Derived.Test.YtbjgkolldmplkaaDoorClass
namespace Go.Proofs.YtbjgkolldmplkaaDoor
open Go.RowKit Go.Sort

def subB (q m : Nat → Bool) : Bool := (List.range 256).all fun b => !q b || m b
def disB (q m : Nat → Bool) : Bool := (List.range 256).all fun b => !(q b && m b)

theorem words_iff (a b : Nat → Bool) : (word a 0 = word b 0 ∧ word a 1 = word b 1 ∧ word a 2 = word b 2 ∧ word a 3 = word b 3) ↔ ∀ c, c < 256 → a c = b c := by
  constructor
  · rintro ⟨h0, h1, h2, h3⟩ c hc
    have hk : c % 64 < 64 := Nat.mod_lt _ (by decide)
    have e : ∀ i, c / 64 = i → word a i = word b i → a c = b c := fun i hi h => by
      have := word_inj h hk
      rwa [show 64 * i + c % 64 = c by omega] at this
    rcases (by omega : c / 64 = 0 ∨ c / 64 = 1 ∨ c / 64 = 2 ∨ c / 64 = 3) with h | h | h | h
    · exact e 0 h h0
    · exact e 1 h h1
    · exact e 2 h h2
    · exact e 3 h h3
  · intro h
    exact ⟨word_ext fun k hk => h _ (by omega), word_ext fun k hk => h _ (by omega), word_ext fun k hk => h _ (by omega), word_ext fun k hk => h _ (by omega)⟩

/-- Are two sets the same? -/
def eqB (a b : Nat → Bool) : Bool := (List.range 256).all fun c => a c == b c

theorem eqB_iff (a b : Nat → Bool) : eqB a b = true ↔ ∀ c, c < 256 → a c = b c := by
  unfold eqB
  rw [List.all_eq_true]
  constructor
  · intro h c hc
    simpa using h c (List.mem_range.2 hc)
  · intro h c hc
    simpa using h c (List.mem_range.1 hc)

theorem eql_eqB (a b : Nat → Bool) (W : World) : (binOp .eql 35 (.agg #[.int .u64 ((word a 0 : Nat) : Int), .int .u64 ((word a 1 : Nat) : Int), .int .u64 ((word a 2 : Nat) : Int), .int .u64 ((word a 3 : Nat) : Int)]) (.agg #[.int .u64 ((word b 0 : Nat) : Int), .int .u64 ((word b 1 : Nat) : Int), .int .u64 ((word b 2 : Nat) : Int), .int .u64 ((word b 3 : Nat) : Int)])).run Tryd.prog W = .ok (.bool (eqB a b)) W := by
  rw [eql_words]
  congr 2
  rw [Bool.eq_iff_iff, eqB_iff, ← words_iff]
  simp only [Bool.and_eq_true, beq_iff_eq, Int.ofNat_inj]

theorem neq_eqB (a b : Nat → Bool) (W : World) : (binOp .neq 35 (.agg #[.int .u64 ((word a 0 : Nat) : Int), .int .u64 ((word a 1 : Nat) : Int), .int .u64 ((word a 2 : Nat) : Int), .int .u64 ((word a 3 : Nat) : Int)]) (.agg #[.int .u64 ((word b 0 : Nat) : Int), .int .u64 ((word b 1 : Nat) : Int), .int .u64 ((word b 2 : Nat) : Int), .int .u64 ((word b 3 : Nat) : Int)])).run Tryd.prog W = .ok (.bool (!eqB a b)) W := by
  rw [neq_words]
  congr 3
  rw [Bool.eq_iff_iff, eqB_iff, ← words_iff]
  simp only [Bool.and_eq_true, beq_iff_eq, Int.ofNat_inj]

theorem eqB_sub (q m : Nat → Bool) : eqB (sBoth q m) q = subB q m := by
  unfold eqB subB
  congr 1
  funext b
  unfold sBoth
  cases q b <;> cases m b <;> rfl

theorem eqB_dis (q m : Nat → Bool) : eqB (sBoth q m) sNone = disB q m := by
  unfold eqB disB
  congr 1
  funext b
  unfold sBoth sNone
  cases q b <;> cases m b <;> rfl

theorem none_vals : (.agg #[.int .u64 ((word sNone 0 : Nat) : Int), .int .u64 ((word sNone 1 : Nat) : Int), .int .u64 ((word sNone 2 : Nat) : Int), .int .u64 ((word sNone 3 : Nat) : Int)] : Value) = .agg #[.int .u64 0, .int .u64 0, .int .u64 0, .int .u64 0] := by
  rw [word_none sNone 0 (fun _ _ => rfl), word_none sNone 1 (fun _ _ => rfl), word_none sNone 2 (fun _ _ => rfl), word_none sNone 3 (fun _ _ => rfl)]
  rfl

theorem eql_none (a : Nat → Bool) (W : World) : (binOp .eql 35 (.agg #[.int .u64 ((word a 0 : Nat) : Int), .int .u64 ((word a 1 : Nat) : Int), .int .u64 ((word a 2 : Nat) : Int), .int .u64 ((word a 3 : Nat) : Int)]) (.agg #[.int .u64 0, .int .u64 0, .int .u64 0, .int .u64 0])).run Tryd.prog W = .ok (.bool (eqB a sNone)) W := by
  rw [← none_vals]
  exact eql_eqB a sNone W

theorem neq_none (a : Nat → Bool) (W : World) : (binOp .neq 35 (.agg #[.int .u64 ((word a 0 : Nat) : Int), .int .u64 ((word a 1 : Nat) : Int), .int .u64 ((word a 2 : Nat) : Int), .int .u64 ((word a 3 : Nat) : Int)]) (.agg #[.int .u64 0, .int .u64 0, .int .u64 0, .int .u64 0])).run Tryd.prog W = .ok (.bool (!eqB a sNone)) W := by
  rw [← none_vals]
  exact neq_eqB a sNone W

/-- Are the first n sets each within m, or without it? -/
def overOk (L : List (Nat → Bool)) (m : Nat → Bool) : Nat → Bool
  | 0 => true
  | n + 1 => overOk L m n && (subB (L.getD n sNone) m || disB (L.getD n sNone) m)

/-- Those of the first n sets that are within m. -/
def overL (L : List (Nat → Bool)) (m : Nat → Bool) : Nat → List Int
  | 0 => []
  | n + 1 => if subB (L.getD n sNone) m then overL L m n ++ [(n : Int)] else overL L m n

theorem overOk_no {L : List (Nat → Bool)} {m : Nat → Bool} : ∀ (n k : Nat), k < n → subB (L.getD k sNone) m = false → disB (L.getD k sNone) m = false → overOk L m n = false
  | 0, k, h, _, _ => absurd h (by omega)
  | n + 1, k, h, h1, h2 => by
    rw [overOk]
    by_cases e : k = n
    · subst e; rw [h1, h2, Bool.or_false, Bool.and_false]
    · rw [overOk_no n k (by omega) h1 h2]; rfl

theorem overOk_yes {L : List (Nat → Bool)} {m : Nat → Bool} (n : Nat) (h : overOk L m n = true) (h1 : subB (L.getD n sNone) m = true ∨ disB (L.getD n sNone) m = true) : overOk L m (n + 1) = true := by
  rw [overOk, h]
  rcases h1 with h1 | h1
  · rw [h1]; rfl
  · rw [h1, Bool.or_true]; rfl

theorem overL_yes {L : List (Nat → Bool)} {m : Nat → Bool} (n : Nat) (h : subB (L.getD n sNone) m = true) : overL L m (n + 1) = overL L m n ++ [(n : Int)] := by rw [overL, if_pos h]
theorem overL_no {L : List (Nat → Bool)} {m : Nat → Bool} (n : Nat) (h : subB (L.getD n sNone) m = false) : overL L m (n + 1) = overL L m n := by rw [overL, if_neg (by rw [h]; decide)]

theorem overL_length {L : List (Nat → Bool)} {m : Nat → Bool} : ∀ n, (overL L m n).length ≤ n
  | 0 => Nat.le_refl _
  | n + 1 => by
    have := overL_length (L := L) (m := m) n
    rw [overL]
    split
    · rw [List.length_append]; simp; omega
    · omega

/-- What Over gives; b: is the row a partition? -/
def overR (b : Bool) (L : List (Nat → Bool)) (m : Nat → Bool) : List Int := if b && overOk L m L.length then overL L m L.length else []
def overE (b : Bool) (L : List (Nat → Bool)) (m : Nat → Bool) : Int := if b && overOk L m L.length then 0 else 1

theorem over_no {b : Bool} {L : List (Nat → Bool)} {m : Nat → Bool} (h : b = false ∨ overOk L m L.length = false) : overR b L m = [] ∧ overE b L m = 1 := by
  have : (b && overOk L m L.length) = false := by rcases h with h | h <;> simp [h]
  unfold overR overE
  rw [this]
  exact ⟨rfl, rfl⟩

theorem over_yes {b : Bool} {L : List (Nat → Bool)} {m : Nat → Bool} (h : b = true) (h2 : overOk L m L.length = true) : overR b L m = overL L m L.length ∧ overE b L m = 0 := by
  unfold overR overE
  rw [h, h2]
  exact ⟨rfl, rfl⟩

theorem intVals_snoc (l : List Int) (x : Int) : intVals l ++ [.int .i64 x] = intVals (l ++ [x]) := by simp [intVals]

set_option maxRecDepth 100000 in
set_option maxHeartbeats 16000000 in
theorem over_any (L : List (Nat → Bool)) (m : Nat → Bool) (A : Option Addr) (n c B : Nat) (w : World) (HR0 : Reads w B 4 A n (setVals L)) (hB : B ≤ w.heap.size) (hm : n ≤ 100000) (hT : ∀ W, Below w.heap.size w W → TabD W) :
    Calls Tryd.prog 30 #[.slice A n c, .agg #[.int .u64 ((word m 0 : Nat) : Int), .int .u64 ((word m 1 : Nat) : Int), .int .u64 ((word m 2 : Nat) : Int), .int .u64 ((word m 3 : Nat) : Int)]] w (GInts (overR (classB L) L m) (overE (classB L) L m) w) := by
  have HR := HR0.more hB
  have HLN : Unit → L.length = n := fun _ => by
    have := HR.1
    rw [setVals_length] at this
    omega
  obtain ⟨i0, hi0, hz0, hz1, hz2⟩ := info_parts int_info
  have hbs := new_blk w m 35
  have HB0 : Below w.heap.size w (w.alloc (.cells #[.int .u64 ((word m 0 : Nat) : Int), .int .u64 ((word m 1 : Nat) : Int), .int .u64 ((word m 2 : Nat) : Int), .int .u64 ((word m 3 : Nat) : Int)] 35)) := (Below.refl _ _).alloc (Nat.le_refl _) _
  have HC := class_any L A n c _ _ (HR.below HB0) HB0.size (by unfold maxLen; omega) (fun W hW => hT W (HB0.trans (hW.mono HB0.size)))
  clear HR0
  cases hcb : classB L
  · have HNO := fun _ : Unit => over_no (b := false) (L := L) (m := m) (.inl rfl)
    have hce := class_no hcb
    rw [hce.1, hce.2] at HC
    clear hce hcb
    go_enter Tryd.func30, Tryd.ntmps30
    go_wp2_with (go_at_call 11; refine HC.mono ?_; rintro e w1 ⟨A1, c1, rfl, _, _, _, HB1⟩)
    go_ret2
    rw [(HNO ()).1, (HNO ()).2]
    exact gints_none (below_then HB0 HB1)
  · have hce : classE L = 0 := by unfold classE; rw [hcb]; rfl
    rw [hce] at HC
    generalize classR L = CR at *
    clear hce hcb
    go_enter Tryd.func30, Tryd.ntmps30
    go_wp2_with (go_at_call 11; refine HC.mono ?_; rintro e w1 ⟨A1, c1, rfl, _, _, _, HB1⟩; have L1 := below_then HB0 HB1; have hbs1 := hbs.below HB1 hbs.lt)
    clear HC hbs HB0
    go_loopw [8, 21] (fun v i wr => ∃ k : Nat, k ≤ n ∧ i = .int .i64 k ∧ wr.ownsRow w.heap.size 3 1 v (overL L m k).length (intVals (overL L m k)) ∧ overOk L m k = true ∧ Blk wr w.heap.size 35 (sCells m) ∧ Below w.heap.size w wr) (fun _ i _ => n - (intOf i).toNat)
    case atStart => exact ⟨0, by omega, rfl, ⟨rfl, .inl ⟨rfl, rfl⟩⟩, rfl, hbs1, L1⟩
    case round =>
      clear L1 HB1 hbs1
      obtain ⟨k, hk, rfl, hown, hok, hbs, HB⟩ := hrel
      have HOK := fun _ : Unit => hok
      clear hok
      by_cases hlt : k < n
      · obtain ⟨g, o, rfl, hgB, c0, c1, c2, c3⟩ := setsD_cell (HR.below HB) k hlt
        have HNO := fun (_ : Unit) h1 h2 => over_no (b := true) (L := L) (m := m) (.inr (overOk_no L.length k (by rw [HLN ()]; exact hlt) h1 h2))
        have HYE := fun _ : Unit => overOk_yes (L := L) (m := m) k (HOK ())
        have HL1 := fun _ : Unit => overL_yes (L := L) (m := m) k
        have HL0 := fun _ : Unit => overL_no (L := L) (m := m) k
        have hlen := overL_length (L := L) (m := m) k
        have hsz := HB.size
        have hfr := own_base hown
        have hlw := hbs.lt
        generalize L.getD k sNone = q at *
        have hqs := fun W => eql_eqB (sBoth q m) q W
        have hqd := fun W => eql_none (sBoth q m) W
        rw [eqB_sub] at hqs
        rw [eqB_dis] at hqd
        have hbq := new_blk wr q 35
        have hbs2 := hbs.alloc (.cells #[.int .u64 ((word q 0 : Nat) : Int), .int .u64 ((word q 1 : Nat) : Int), .int .u64 ((word q 2 : Nat) : Int), .int .u64 ((word q 3 : Nat) : Int)] 35)
        obtain ⟨d0, d1, d2, d3⟩ := hbs2.cells4
        have L2 := HB.alloc hsz (.cells #[.int .u64 ((word q 0 : Nat) : Int), .int .u64 ((word q 1 : Nat) : Int), .int .u64 ((word q 2 : Nat) : Int), .int .u64 ((word q 3 : Nat) : Int)] 35)
        generalize overL L m k = ol at *
        cases hsub : subB q m
        · rw [hsub] at hqs
          cases hdis : disB q m
          · rw [hdis] at hqd
            have hno := HNO () hsub hdis
            have HN2 := fun _ : Unit => hno
            clear hno HNO HYE HL1 HL0 hsub hdis
            go_wp2_with (go_at_call 16; refine (both_any q m _).mono ?_; rintro e w3 ⟨rfl, HB3⟩; have hbq3 := Blk.below (by exact hbq) HB3 (by simp); obtain ⟨e0, e1, e2, e3⟩ := hbq3.cells4; have L3 := L2.trans (HB3.mono L2.size))
            go_ret2
            rw [(HN2 ()).1, (HN2 ()).2]
            exact gints_none L3
          · rw [hdis] at hqd
            have HY2 := fun _ : Unit => HYE () (.inr hdis)
            have HLL := fun _ : Unit => HL0 () hsub
            clear HNO HYE HL1 HL0 hsub hdis
            go_wp2_with (go_at_call 16; refine (both_any q m _).mono ?_; rintro e w3 ⟨rfl, HB3⟩; have hbq3 := Blk.below (by exact hbq) HB3 (by simp); obtain ⟨e0, e1, e2, e3⟩ := hbq3.cells4; have L3 := L2.trans (HB3.mono L2.size); have hbs3 := Blk.below (by exact hbs2) HB3 (by simp; omega); have hown3 := own_call (hown.alloc _) HB3)
            go_roundw
            case rel => exact ⟨k + 1, by omega, by go_num, by rw [HLL ()]; exact hown3, HY2 (), hbs3, L3⟩
            case measure => simp [intOf]; omega
        · rw [hsub] at hqs
          have HY2 := fun _ : Unit => HYE () (.inl hsub)
          have HLL := fun _ : Unit => HL1 () hsub
          clear HNO HYE HL1 HL0 hsub hqd
          go_wp2_with (first
            | (go_at_call 16
               refine (both_any q m _).mono ?_
               rintro e w3 ⟨rfl, HB3⟩
               have hbq3 := Blk.below (by exact hbq) HB3 (by simp)
               obtain ⟨e0, e1, e2, e3⟩ := hbq3.cells4
               have L3 := L2.trans (HB3.mono L2.size)
               have hbs3 := Blk.below (by exact hbs2) HB3 (by simp; omega)
               have hown3 := own_call (hown.alloc _) HB3
               have hs3 := L3.size)
            | (at_builtin
               refine wpList_append_any _ rfl (.tmp 32) (.tmp 34) _ rfl w.heap.size 3 i0 _ 1 8 Tryd.underlying26 hi0 hz0 hz1 hz2 rfl (by omega) _ ol.length _ rfl
                 (hown3.alloc _) _ _ 1 1 [.int .i64 (k : Int)] rfl (reads_blk (xs := [.int .i64 (k : Int)]) (Blk.new w3 _ _)) (by simp [Value.oneCell']) (by simp only [maxLen]; omega) (by omega) (by simp; omega) ?_
               intro v4 w4 hown4 hg4 hat4
               have L4 : Below w.heap.size w w4 := (L3.alloc hs3 _).grown hg4 (by simp; omega) hfr
               have hbs4 := (hbs3.alloc (.cells #[.int .i64 (k : Int)] 3)).grown hg4 (own_blk_ne hown3 hbs3 (by decide)).symm
               rw [intVals_snoc] at hown4))
          go_roundw
          case rel => exact ⟨k + 1, by omega, by go_num, by rw [HLL (), List.length_append]; exact hown4, HY2 (), hbs4, L4⟩
          case measure => simp [intOf]; omega
      · have e : k = n := by omega
        subst e
        obtain ⟨A5, c5, rfl, hrd, hrc, hrm⟩ := own_reads hown
        have HY := fun _ : Unit => over_yes (b := true) (L := L) (m := m) rfl (by rw [HLN (), HOK ()])
        go_wp2
        go_ret2
        rw [(HY ()).1, (HY ()).2, HLN ()]
        exact ⟨A5, c5, rfl, hrd, hrc, hrm, HB⟩

end Go.Proofs.YtbjgkolldmplkaaDoor
