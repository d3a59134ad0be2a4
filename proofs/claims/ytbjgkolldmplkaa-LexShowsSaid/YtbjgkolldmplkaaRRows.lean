/- The walk of the reference Rows of layer 1. -/
import Derived.Test.YtbjgkolldmplkaaRRowsP
import Derived.Test.YtbjgkolldmplkaaRows2
import Derived.Deep.RegionHeld3
import Derived.Deep.DrawnRows
import Derived.Deep.AppendLies
namespace Go.Proofs.Ytbjgkolldmplkaa
open Go.RowKit Go.Sort
attribute [local go_sem ↓] Go.wp_at_zero Go.wp_at_succ

theorem byte_cellN {w : World} {B n : Nat} {A : Option Addr} {l : List Nat} (HR : Reads w B 1 A n (byteVals l)) (k : Nat) (hk : k < l.length) :
    ∃ g o, A = some ⟨g, o, none⟩ ∧ g < B ∧ w.cell? ⟨g, o + k, none⟩ = some (.int .u8 ((l[k] : Nat) : Int)) := by
  have hn := HR.1
  simp [byteVals] at hn
  obtain ⟨ad, e, hb, hc⟩ := HR.2 (by omega)
  have h0 := hc 0 _ (show (byteVals l)[0]? = some (.int .u8 ((l[0]'(by omega) : Nat) : Int)) by simp [byteVals, show 0 < l.length by omega])
  have h00 : ad.add 0 = ad := by simp [Addr.add]
  rw [h00] at h0
  have es := spot_none h0
  have c1 := hc k _ (show (byteVals l)[k]? = some (.int .u8 ((l[k] : Nat) : Int)) by simp [byteVals, hk])
  rw [es, add_mk] at c1
  exact ⟨ad.block, ad.off, by rw [e, ← es], hb, c1⟩

theorem byte_cellD {w : World} {B n : Nat} {A : Option Addr} {l : List Nat} (HR : Reads w B 1 A n (byteVals l)) (k : Nat) (hk : k < n) :
    ∃ g o, A = some ⟨g, o, none⟩ ∧ g < B ∧ w.cell? ⟨g, o + k, none⟩ = some (.int .u8 ((l.getD k 0 : Nat) : Int)) := by
  have hn := HR.1
  simp [byteVals] at hn
  obtain ⟨g, o, h1, h2, h3⟩ := byte_cellN HR k (by omega)
  exact ⟨g, o, h1, h2, by rw [getD_nat l k (by omega)]; exact h3⟩

/-- What the round keeps. -/
def RRK (w1 : World) (g o k f : Nat) (x1 xf : Nat) (W : World) : Prop :=
  W.cell? ⟨g, o + k, none⟩ = some (.int .u8 (x1 : Int)) ∧ W.cell? ⟨g, o + f, none⟩ = some (.int .u8 (xf : Int))

set_option maxRecDepth 100000 in
set_option maxHeartbeats 8000000 in
theorem rrows_own (m : Nat → Bool) (l : List Nat) (n : Nat) (hln : l.length = n) (hn : n ≤ 256) (hl : ∀ k, l.getD k 0 < 256) (w : World)
    (HBY : ∀ W, Calls Try.prog 40 #[.agg #[.int .u64 ((word m 0 : Nat) : Int), .int .u64 ((word m 1 : Nat) : Int), .int .u64 ((word m 2 : Nat) : Int), .int .u64 ((word m 3 : Nat) : Int)]] W fun e W' => ∃ A c, e = .returned (.slice A n c) ∧ Reads W' W'.heap.size 1 A n (byteVals l) ∧ n ≤ c ∧ c ≤ maxLen ∧ Below W.heap.size W W') :
    Calls Try.prog 42 #[.agg #[.int .u64 ((word m 0 : Nat) : Int), .int .u64 ((word m 1 : Nat) : Int), .int .u64 ((word m 2 : Nat) : Int), .int .u64 ((word m 3 : Nat) : Int)]] w fun e W' => ∃ v b, e = .returned v ∧ W'.ownsRow b 35 2 v (rrSt l n).1.length (rowCells (rrSt l n).1) ∧ Below w.heap.size w W' := by
  obtain ⟨i0, hi0, hz0, hz1, hz2⟩ := info_parts pair_info
  have hbk := new_blk w m 25
  obtain ⟨c0, c1, c2, c3⟩ := hbk.cells4
  have HLN := fun _ : Unit => hln
  have HL := Lib.hid hl
  clear hl hln
  go_enter Try.func42, Try.ntmps42
  go_wp2_with (go_at_call 40; refine (HBY _).mono ?_; rintro e w1 ⟨A, c, rfl, HR, hcn, hcm, HB1⟩; have L1 := below_then ((Below.refl _ w).alloc (Nat.le_refl _) _) HB1)
  unfold maxLen at hcm
  go_loopw [3, 5, 6] (fun v f i wr => ∃ k : Nat, k ≤ n ∧ i = .int .i64 k ∧ f = .int .i64 (((rrSt l k).2 : Nat) : Int) ∧ wr.ownsRow w1.heap.size 35 2 v (rrSt l k).1.length (rowCells (rrSt l k).1) ∧ Below w1.heap.size w1 wr) (fun _ _ i _ => n - (intOf i).toNat)
  case atStart => exact ⟨0, by omega, rfl, rfl, ⟨rfl, .inl ⟨rfl, rfl⟩⟩, Below.refl _ _⟩
  case round =>
    clear c0 c1 c2 c3 hbk
    obtain ⟨k, hk, rfl, rfl, hown, HB⟩ := hrel
    by_cases hlt : k < n
    · obtain ⟨q, hq⟩ : ∃ q, q = k + 1 := ⟨_, rfl⟩
      obtain ⟨hle, hlen⟩ := rrSt_le l k
      have E1 : Unit → rrEnd l k = true → rrSt l q = ((rrSt l k).1 ++ [(l.getD (rrSt l k).2 0, l.getD k 0)], q) := fun _ h => by subst hq; exact rrSt_yes l k h
      have E2 : Unit → rrEnd l k = false → rrSt l q = rrSt l k := fun _ h => by subst hq; exact rrSt_no l k h
      have hx1 := HL.out k
      have hxf := HL.out (rrSt l k).2
      have hx2 := HL.out q
      have hcase : (q = n ∧ rrEnd l k = true) ∨ (q < n ∧ rrEnd l k = true ∧ l.getD q 0 ≠ l.getD k 0 + 1) ∨ (q < n ∧ rrEnd l k = false ∧ l.getD q 0 = l.getD k 0 + 1) := by
        have hll := HLN ()
        subst hq
        unfold rrEnd
        by_cases hqn : k + 1 = n
        · refine .inl ⟨hqn, ?_⟩
          rw [hll, hqn]; simp
        · have e1 : (k + 1 == l.length) = false := by rw [beq_eq_false_iff_ne]; omega
          by_cases hx : l.getD (k + 1) 0 = l.getD k 0 + 1
          · exact .inr (.inr ⟨by omega, by rw [e1, hx]; simp, hx⟩)
          · exact .inr (.inl ⟨by omega, by rw [e1]; simpa using hx, hx⟩)
      obtain ⟨g, o, rfl, hgB, hck⟩ := byte_cellD (HR.below HB) k hlt
      obtain ⟨g', o', eq, _, hcf⟩ := byte_cellD (HR.below HB) (rrSt l k).2 (by omega)
      injection eq with eq
      injection eq with eq1 eq2 eq3
      subst eq1 eq2
      have hcq : q < n → wr.cell? ⟨g, o + q, none⟩ = some (.int .u8 ((l.getD q 0 : Nat) : Int)) := fun h => by
        obtain ⟨g', o', eq, _, hc⟩ := byte_cellD (HR.below HB) q h
        injection eq with eq
        injection eq with eq1 eq2 eq3
        subst eq1 eq2
        exact hc
      have hfr := own_base hown
      have hsz := HB.size
      have hadd : IntKind.i64.wrap ((k : Int) + 1) = (q : Int) := by rw [IntWalk.i64_in _ (by omega)]; omega
      have HQ := fun _ : Unit => hq
      generalize rrEnd l k = en at *
      generalize hs : rrSt l k = s at *
      obtain ⟨out, f⟩ := s
      simp only at *
      generalize l.getD k 0 = x1 at *
      generalize l.getD f 0 = xf at *
      generalize l.getD q 0 = x2 at *
      obtain ⟨y1, hy1⟩ : ∃ y1, y1 = x1 + 1 := ⟨_, rfl⟩
      have hadd1 : IntKind.i64.wrap ((x1 : Int) + 1) = (y1 : Int) := by rw [IntWalk.i64_in _ (by omega)]; omega
      have hw1 : IntKind.i64.wrap (x1 : Int) = (x1 : Int) := IntWalk.i64_in _ (by omega)
      have hw2 : IntKind.i64.wrap (x2 : Int) = (x2 : Int) := IntWalk.i64_in _ (by omega)
      have hfn : f < n := by omega
      clear hs hq
      rcases hcase with ⟨hqn, rfl⟩ | ⟨hqn, rfl, hx⟩ | ⟨hqn, rfl, hx⟩
      · have E := fun _ : Unit => E1 () rfl
        clear E1 E2
        have hd1 : (q == n) = true := by rw [beq_iff_eq]; exact hqn
        have hd2 : ((q : Int) == (n : Int)) = true := by rw [beq_iff_eq]; omega
        clear hqn hy1
        go_wp2
        refine wp_region_quiet_lit (by kernel_rfl) (by kernel_rfl) ?_
        repeat (go_big_quiet_step (fail))
        refine wpQuiet_nil ?_
        intro _ hw'
        obtain ⟨nq, hw''⟩ := hw'
        subst hw''
        have hckq : (wr.drewN nq).cell? ⟨g, o + k, none⟩ = some (.int .u8 (x1 : Int)) := hck
        have hcfq : (wr.drewN nq).cell? ⟨g, o + f, none⟩ = some (.int .u8 (xf : Int)) := hcf
        have hownq : (wr.drewN nq).ownsRow w1.heap.size 35 2 u3 out.length (rowCells out) := own_call hown (below_drewN (Below.refl _ _) nq)
        have HBq := below_drewN HB nq
        clear hcq hck hcf hown HB hd1 hd2
        generalize wr.drewN nq = wq at *
        have hsq := HBq.size
        have hgs : g < wq.heap.size := by omega
        have hi1 : (0 : Int) ≤ (f : Int) := by omega
        have hi2 : (f : Int) < (n : Int) := by omega
        have hi3 : (0 : Int) ≤ (k : Int) := by omega
        have hi4 : (k : Int) < (n : Int) := by omega
        have hgne : u3.ownBlock ≠ some g := fun e => by have := hfr _ e; omega
        go_wp2
        go_region_held3 (fun w' => w'.cell? ⟨g, o + f, none⟩ = some (.int .u8 (xf : Int)) ∧ w'.cell? ⟨g, o + k, none⟩ = some (.int .u8 (x1 : Int)))
          (first
            | go_keep
            | (go_split_ands
               refine ⟨?_, ?_⟩
               · (rw [hg3.cell_far _ (by simp; omega) (Ne.symm hgne)]; assumption)
               · (rw [hg3.cell_far _ (by simp; omega) (Ne.symm hgne)]; assumption)))
          ((refine step_append_any _ (by rfl) (.tmp 35) (.tmp 45) _ (by rfl) w1.heap.size 35 i0 _ 2 2 Try.underlying33 hi0 hz0 hz1 hz2 rfl (by omega) u3 out.length (rowCells out) (by rfl) ((hownq.alloc _).drew)
             _ (some ⟨wq.heap.size, 0, none⟩) 1 1 [.int .u8 (xf : Int), .int .u8 (x1 : Int)] (by rfl) (reads_blkN (xs := [.int .u8 (xf : Int), .int .u8 (x1 : Int)]) (Blk.drew (Blk.new wq _ _)) rfl) (by simp [Value.oneCell']) (by simp only [maxLen]; omega) (by omega) (by simp; omega) ?_; intro v1 w3 hown3 hg3 hat3))
        have HB3 : Below w1.heap.size w1 w3 := ((HBq.alloc hsq _).drew).grown hg3 (by simp; omega) hfr
        go_wp2
        go_roundw
        case rel => exact ⟨q, by have := HQ (); omega, rfl, by rw [E ()], by rw [E (), List.length_append]; have := hown3; rw [← rowCells_snoc out (xf, x1)] at this; exact this, HB3⟩
        case measure => have := HQ (); simp [intOf]; omega
      · have E := fun _ : Unit => E1 () rfl
        clear E1 E2
        have hd1 : (q == n) = false := by rw [beq_eq_false_iff_ne]; omega
        have hd2 : ((q : Int) == (n : Int)) = false := by rw [beq_eq_false_iff_ne]; omega
        have hcq' := hcq hqn
        have hd3 : (x2 != y1) = true := by simp only [bne_iff_ne]; omega
        have hd4 : ((x2 : Int) != (y1 : Int)) = true := by simp only [bne_iff_ne]; omega
        have hd5 : (x2 == y1) = false := by rw [beq_eq_false_iff_ne]; omega
        have hd6 : ((x2 : Int) == (y1 : Int)) = false := by rw [beq_eq_false_iff_ne]; omega
        clear hx hy1
        go_wp2
        refine wp_region_quiet_lit (by kernel_rfl) (by kernel_rfl) ?_
        repeat (go_big_quiet_step (fail))
        refine wpQuiet_nil ?_
        intro _ hw'
        obtain ⟨nq, hw''⟩ := hw'
        subst hw''
        have hckq : (wr.drewN nq).cell? ⟨g, o + k, none⟩ = some (.int .u8 (x1 : Int)) := hck
        have hcfq : (wr.drewN nq).cell? ⟨g, o + f, none⟩ = some (.int .u8 (xf : Int)) := hcf
        have hownq : (wr.drewN nq).ownsRow w1.heap.size 35 2 u3 out.length (rowCells out) := own_call hown (below_drewN (Below.refl _ _) nq)
        have HBq := below_drewN HB nq
        clear hcq hck hcf hown HB hd1 hd2 hd3 hd4 hd5 hd6 hcq' hadd1 hw1 hw2
        generalize wr.drewN nq = wq at *
        have hsq := HBq.size
        have hgs : g < wq.heap.size := by omega
        have hi1 : (0 : Int) ≤ (f : Int) := by omega
        have hi2 : (f : Int) < (n : Int) := by omega
        have hi3 : (0 : Int) ≤ (k : Int) := by omega
        have hi4 : (k : Int) < (n : Int) := by omega
        have hgne : u3.ownBlock ≠ some g := fun e => by have := hfr _ e; omega
        go_wp2
        go_region_held3 (fun w' => w'.cell? ⟨g, o + f, none⟩ = some (.int .u8 (xf : Int)) ∧ w'.cell? ⟨g, o + k, none⟩ = some (.int .u8 (x1 : Int)))
          (first
            | go_keep
            | (go_split_ands
               refine ⟨?_, ?_⟩
               · (rw [hg3.cell_far _ (by simp; omega) (Ne.symm hgne)]; assumption)
               · (rw [hg3.cell_far _ (by simp; omega) (Ne.symm hgne)]; assumption)))
          ((refine step_append_any _ (by rfl) (.tmp 35) (.tmp 45) _ (by rfl) w1.heap.size 35 i0 _ 2 2 Try.underlying33 hi0 hz0 hz1 hz2 rfl (by omega) u3 out.length (rowCells out) (by rfl) ((hownq.alloc _).drew)
             _ (some ⟨wq.heap.size, 0, none⟩) 1 1 [.int .u8 (xf : Int), .int .u8 (x1 : Int)] (by rfl) (reads_blkN (xs := [.int .u8 (xf : Int), .int .u8 (x1 : Int)]) (Blk.drew (Blk.new wq _ _)) rfl) (by simp [Value.oneCell']) (by simp only [maxLen]; omega) (by omega) (by simp; omega) ?_; intro v1 w3 hown3 hg3 hat3))
        have HB3 : Below w1.heap.size w1 w3 := ((HBq.alloc hsq _).drew).grown hg3 (by simp; omega) hfr
        go_wp2
        go_roundw
        case rel => exact ⟨q, by have := HQ (); omega, rfl, by rw [E ()], by rw [E (), List.length_append]; have := hown3; rw [← rowCells_snoc out (xf, x1)] at this; exact this, HB3⟩
        case measure => have := HQ (); simp [intOf]; omega
      · have E := fun _ : Unit => E2 () rfl
        clear E1 E2
        have hd1 : (q == n) = false := by rw [beq_eq_false_iff_ne]; omega
        have hd2 : ((q : Int) == (n : Int)) = false := by rw [beq_eq_false_iff_ne]; omega
        have hcq' := hcq hqn
        have hd3 : (x2 != y1) = false := by simp only [bne_eq_false_iff_eq]; omega
        have hd4 : ((x2 : Int) != (y1 : Int)) = false := by simp only [bne_eq_false_iff_eq]; omega
        have hd5 : (x2 == y1) = true := by rw [beq_iff_eq]; omega
        have hd6 : ((x2 : Int) == (y1 : Int)) = true := by rw [beq_iff_eq]; omega
        clear hx hy1
        go_wp2
        refine wp_region_quiet_lit (by kernel_rfl) (by kernel_rfl) ?_
        repeat (go_big_quiet_step (fail))
        refine wpQuiet_nil ?_
        intro _ hw'
        obtain ⟨nq, hw''⟩ := hw'
        subst hw''
        have hownq : (wr.drewN nq).ownsRow w1.heap.size 35 2 u3 out.length (rowCells out) := own_call hown (below_drewN (Below.refl _ _) nq)
        have HBq := below_drewN HB nq
        clear hadd1 hw1 hw2
        go_wp2
        go_roundw
        case rel => exact ⟨q, by have := HQ (); omega, rfl, by rw [E ()], by rw [E ()]; exact hownq, HBq⟩
        case measure => have := HQ (); simp [intOf]; omega
    · have e : k = n := by omega
      subst e
      go_wp2
      go_ret
      exact ⟨_, _, rfl, hown, L1.trans (HB.mono L1.size)⟩

theorem getD_lt (l : List Nat) (h : ∀ b ∈ l, b < 256) (k : Nat) : l.getD k 0 < 256 := by
  rw [List.getD_eq_getElem?_getD]
  cases hk : l[k]? with
  | none => decide
  | some b => exact h b (List.mem_of_getElem? hk)

theorem rrows_any (m : Nat → Bool) (w : World) :
    Calls Try.prog 42 #[.agg #[.int .u64 ((word m 0 : Nat) : Int), .int .u64 ((word m 1 : Nat) : Int), .int .u64 ((word m 2 : Nat) : Int), .int .u64 ((word m 3 : Nat) : Int)]] w fun e W' => ∃ A c, e = .returned (.slice A (rowsOf m).length c) ∧ Reads W' W'.heap.size 2 A (rowsOf m).length (rowCells (rowsOf m)) ∧ (rowsOf m).length ≤ c ∧ c ≤ maxLen ∧ Below w.heap.size w W' := by
  refine (rrows_own m (bytesOf m) _ rfl ?_ (getD_lt _ fun b hb => (bytesTo_lt m 256 b hb).1) w (bytes_any m)).mono ?_
  · have := cnt_le m 256
    unfold bytesOf
    rw [bytesTo_length]
    exact this
  · rintro e W' ⟨v, b, he, ho, hb⟩
    rw [rr_rows] at ho
    obtain ⟨A, c, rfl, hr, h1, h2⟩ := own_reads ho
    exact ⟨A, c, he, hr, h1, h2, hb⟩

end Go.Proofs.Ytbjgkolldmplkaa
