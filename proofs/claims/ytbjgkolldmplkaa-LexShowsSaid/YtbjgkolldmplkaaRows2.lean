/- The walk of set.Rows. -/
import Derived.Test.YtbjgkolldmplkaaRows1
import Derived.Maps.AppendAt
import Derived.WalkSmall
namespace Go.Proofs.Ytbjgkolldmplkaa
open Go.RowKit Go.Shelf
attribute [local go_sem] Oper.semAt_some

theorem pair_info : (Try.prog.info? 35).map (fun i => (i.zero, i.size, i.bytes)) = some (some (.agg #[.int .u8 0, .int .u8 0]), 2, 2) := by kernel_rfl

/-- Rows as cells, two a row. -/
def rowCells (l : List (Nat × Nat)) : List Value := l.flatMap fun r => [.int .u8 ((r.1 : Nat) : Int), .int .u8 ((r.2 : Nat) : Int)]

theorem rowCells_snoc (l : List (Nat × Nat)) (r : Nat × Nat) : rowCells (l ++ [r]) = rowCells l ++ [.int .u8 ((r.1 : Nat) : Int), .int .u8 ((r.2 : Nat) : Int)] := by
  simp [rowCells]

theorem rowCells_length (l : List (Nat × Nat)) : (rowCells l).length = l.length * 2 := by
  induction l with
  | nil => rfl
  | cons r l ih => simp only [rowCells, List.flatMap_cons, List.length_append, List.length_cons, List.length_nil] at ih ⊢; omega

theorem runs_in (n : Nat) (m : Nat → Bool) (w : World) :
    CallsIn Fence.wide n Try.prog 33 #[.agg #[.int .u64 ((word m 0 : Nat) : Int), .int .u64 ((word m 1 : Nat) : Int), .int .u64 ((word m 2 : Nat) : Int), .int .u64 ((word m 3 : Nat) : Int)]] w fun e w' => e = .returned (.func (.func 43) #[] #[.pointer (some ⟨w.heap.size, 0, none⟩)]) ∧ w' = w.alloc (.cells (sCells m) 25) := by
  refine callsIn_of_wp Try.func33 rfl trivial ?_ rfl
  simp only [Try.ntmps33, List.size_toArray, List.length_cons, List.length_nil, Nat.reduceAdd, Nat.reduceSub, Array.replicate_succ, Array.replicate_zero, List.push_toArray, List.append_toArray, List.nil_append, List.cons_append]
  gi_wp2
  go_ret
  exact ⟨rfl, rfl⟩

theorem runs_stops (n : Nat) (hn : 1 ≤ n) (Bs : Nat) (m : Nat → Bool) (T : TypeId) (w : World) (hs : Blk w Bs T (sCells m)) :
    SeqStopsK Fence.wide n Try.prog 43 #[.pointer (some ⟨Bs, 0, none⟩)] (fun x : Nat × Nat => #[.agg #[.int .u8 ((x.1 : Nat) : Int), .int .u8 ((x.2 : Nat) : Int)]]) (KeepB Bs) (fun ys => ys = rowsOf m) (fun pre => pre <+: rowsOf m) (rowsOf m).length w := fun l J Jx W hW hJ _ hY h0 =>
  runs1_in n hn l Bs W.heap.size m T J Jx hJ hY W (hs.below hW hs.lt) h0

theorem own_blk {β : Type} (B Bs : Nat) (T : TypeId) (cs : Array Value) : OwnFrom B (fun (_ : β) W => Blk W Bs T cs) := fun _ _ _ _ hs hg hr =>
  hs.grown hg (fun e => by obtain ⟨_, o, ho, hc⟩ := hr _ e.symm; unfold Blk at hs; rw [hs] at ho; cases ho; cases hc)

set_option maxRecDepth 100000 in
set_option maxHeartbeats 4000000 in
theorem rows_in (n : Nat) (hn : 3 ≤ n) (m : Nat → Bool) (w : World) :
    CallsIn Fence.wide n Try.prog 17 #[.agg #[.int .u64 ((word m 0 : Nat) : Int), .int .u64 ((word m 1 : Nat) : Int), .int .u64 ((word m 2 : Nat) : Int), .int .u64 ((word m 3 : Nat) : Int)]] w fun e W' => ∃ v, e = .returned v ∧ W'.ownsRow w.heap.size 35 2 v (rowsOf m).length (rowCells (rowsOf m)) ∧ Below w.heap.size w W' := by
  have h1 : 1 ≤ n := by omega
  have hlen : (rowsOf m).length ≤ 256 := rowsFrom_length m 256 0 (by omega)
  obtain ⟨i0, hi, hz0, hz1, hz2⟩ := info_parts pair_info
  refine callsIn_of_wp_marks Try.func17 rfl trivial ?_ rfl
  simp only [Try.ntmps17, List.size_toArray, List.length_cons, List.length_nil, Nat.reduceAdd, Nat.reduceSub, Array.replicate_succ, Array.replicate_zero, List.push_toArray, List.append_toArray, List.nil_append, List.cons_append]
  gi_wp2_with (refine ⟨trivial, ?_⟩; gi_at_call 33; refine (runs_in (n - 1) m _).mono ?_; rintro e w' ⟨rfl, rfl⟩)
  have hbO : Boxed (((w.alloc (.cells (sCells m) 25)).alloc (.cells #[.slice none 0 0] 33)).alloc (.cells (sCells m) 25)) (w.heap.size + 1) 33 (.slice none 0 0) := by
    have := (Boxed.new (w.alloc (.cells (sCells m) 25)) 33 (.slice none 0 0)).alloc (.cells (sCells m) 25)
    rw [World.size_alloc] at this
    exact this
  have hbS : Blk (((w.alloc (.cells (sCells m) 25)).alloc (.cells #[.slice none 0 0] 33)).alloc (.cells (sCells m) 25)) (w.heap.size + 1 + 1) 25 (sCells m) := by
    have := Blk.new ((w.alloc (.cells (sCells m) 25)).alloc (.cells #[.slice none 0 0] 33)) 25 (sCells m)
    rw [World.size_alloc, World.size_alloc] at this
    exact this
  have hB0 : Below w.heap.size w (((w.alloc (.cells (sCells m) 25)).alloc (.cells #[.slice none 0 0] 33)).alloc (.cells (sCells m) 25)) :=
    (((Below.refl _ w).alloc (Nat.le_refl _) _).alloc (by simp) _).alloc (by simp; omega) _
  have hsz : (((w.alloc (.cells (sCells m) 25)).alloc (.cells #[.slice none 0 0] 33)).alloc (.cells (sCells m) 25)).heap.size = w.heap.size + 3 := by simp
  change Code.wpIn _ _ _ _ _ _ (((w.alloc (.cells (sCells m) 25)).alloc (.cells #[.slice none 0 0] 33)).alloc (.cells (sCells m) 25))
  generalize ((w.alloc (.cells (sCells m) 25)).alloc (.cells #[.slice none 0 0] 33)).alloc (.cells (sCells m) 25) = W0 at hbO hbS hB0 hsz ⊢
  refine wpIn_rangeFunc_ownH rfl h1 (gf := 43) (lb := #[.pointer (some ⟨w.heap.size + 1 + 1, 0, none⟩)]) rfl trivial (enters_of Try.func43 (by kernel_rfl) rfl)
    (runs_stops (n - 1) (by omega) (w.heap.size + 1 + 1) m 25 W0 hbS) KeepB.trans
    (fun W l o o' hl _ _ _ => ⟨by simp, World.putObj_heap_other (by omega)⟩) (Below.refl _ _) (fun _ => rfl)
    (fun pre W => ((∃ v, Boxed W (w.heap.size + 1) 33 v ∧ W.ownsRow w.heap.size 35 2 v pre.length (rowCells pre) ∧ True) ∧ Blk W (w.heap.size + 1 + 1) 25 (sCells m)) ∧ Below w.heap.size w W)
    (fun _ _ _ => False)
    (OwnFrom.and (OwnFrom.and (Own.from (holdsRow_own w.heap.size (w.heap.size + 1) 33 35 2 (fun pre => pre.length) rowCells (fun _ _ => True)) _) (own_blk _ _ _ _)) (ownFrom_below (Nat.le_refl _) (by omega)))
    (fun _ _ _ _ _ hs _ _ => hs)
    ⟨⟨⟨_, hbO, World.ownsRow_nil _ _ _ _, trivial⟩, hbS⟩, hB0⟩
    (fun x a' W => ∃ Bx, w.heap.size + 1 + 1 < Bx ∧ Blk W Bx 35 #[.int .u8 ((x.1 : Nat) : Int), .int .u8 ((x.2 : Nat) : Int)] ∧
      a' = { tmps := #[.agg #[.int .u64 ((word m 0 : Nat) : Int), .int .u64 ((word m 1 : Nat) : Int), .int .u64 ((word m 2 : Nat) : Int), .int .u64 ((word m 3 : Nat) : Int)], .pointer (some ⟨w.heap.size, 0, none⟩), .slice none 0 0, .pointer (some ⟨w.heap.size + 1, 0, none⟩), .pointer (some ⟨Bx, 0, none⟩), .agg #[.int .u64 ((word m 0 : Nat) : Int), .int .u64 ((word m 1 : Nat) : Int), .int .u64 ((word m 2 : Nat) : Int), .int .u64 ((word m 3 : Nat) : Int)],
        .func (.func 43) #[] #[.pointer (some ⟨w.heap.size + 1 + 1, 0, none⟩)], .agg #[.int .u8 ((x.1 : Nat) : Int), .int .u8 ((x.2 : Nat) : Int)], undef, undef, undef, undef, undef], defers := [] })
    (fun x a' s A B row hs hg hr => by
      obtain ⟨Bx, hBx, hb, ha⟩ := hs
      exact ⟨Bx, hBx, own_blk (β := Unit) _ Bx _ _ () A B row hb hg hr, ha⟩) ?assign ?body ?done ?stop
  case assign =>
    rintro l pre x W K ⟨⟨⟨v, hv, hrow, _⟩, hbs⟩, hB⟩ hK
    gi_wp2
    exact hK _ _ ((KeepsOthers.alloc _ _).from _) (KeepB.of_below ((Below.refl _ W).alloc (Nat.le_refl _) _) hbs.lt) ⟨⟨⟨v, hv.alloc _, hrow.alloc _, trivial⟩, hbs.alloc _⟩, hB.alloc hB.size _⟩
      ⟨W.heap.size, hbs.lt, Blk.new _ _ _, rfl⟩
  case body =>
    rintro l pre x a' W hl ⟨r, hr⟩ ⟨⟨⟨v, hv, hrow, _⟩, hbs⟩, hB⟩ ⟨Bx, hBx, hbx, rfl⟩ hlt
    have hc := hv.cell
    have hx0 : W.cell? ⟨Bx, 0, none⟩ = some (.int .u8 ((x.1 : Nat) : Int)) := hbx.cell 0
    have hx1 : W.cell? ⟨Bx, 1, none⟩ = some (.int .u8 ((x.2 : Nat) : Int)) := hbx.cell 1
    gi_wp2_with (gi_at_builtin; refine wpListIn_append_own _ rfl _ _ 33 rfl w.heap.size 35 i0 (.agg #[.int .u8 0, .int .u8 0]) 2 2 Try.underlying33 hi hz0 hz1 hz2 rfl (by decide) _ _ _ rfl (hrow.alloc _) ⟨W.heap.size, 0, none⟩ 1 1 [.int .u8 ((x.1 : Nat) : Int), .int .u8 ((x.2 : Nat) : Int)] rfl rfl (cell_two_new _ _ _ _) (by simp [Value.oneCell']) (by unfold maxLen; omega) (by omega) (by have := hB.size; simp; omega) ?_; intro v' w1 hown' hgrow _; obtain ⟨g', cap', rfl⟩ := ownsRow_succ hown'; obtain ⟨hv1, hv2, hr2, hk2, hb2⟩ := hv.appended (by decide) hrow hB.size (by omega) hown' hgrow; have hc1 := hv1.cell; have hf1 := hv1.frozen)
    have hbs1 : Blk w1 (w.heap.size + 1 + 1) 25 (sCells m) := (hbs.alloc _).grown hgrow (own_blk_ne hrow hbs (by decide)).symm
    have hbs2 := hbs1.far (p := ⟨w.heap.size + 1, 0, none⟩) (by simp) (.slice (some ⟨g', 0, none⟩) (pre.length + 1) cap')
    refine ⟨hk2.from _, ⟨hb2.size, ?_⟩, ⟨⟨_, hv2, ?_, trivial⟩, hbs2⟩, hB.trans hb2⟩
    · unfold Blk at hbs hbs2
      rw [hbs2, hbs]
    · rw [rowCells_snoc]
      simpa using hr2
  case done =>
    rintro D ys W hD rfl ⟨⟨⟨v, hv, hrow, _⟩, hbs⟩, hB⟩ hK
    have hc := hv.cell
    gi_wp2
    refine ⟨by simp, .inl ⟨_, _, rfl, run_takeDeferred hK, ?_⟩⟩
    exact ⟨_, results_tmp rfl _ _ _, v, rfl, ownsRow_putObj hrow _ hK rfl, hB.trans (belowK_b (w := w) (Nat.le_refl _) W D _ _ (by omega) hK rfl rfl)⟩
  case stop =>
    rintro D c pre W _ _ h _
    exact h.elim

theorem rows_any (m : Nat → Bool) (w : World) :
    Calls Try.prog 17 #[.agg #[.int .u64 ((word m 0 : Nat) : Int), .int .u64 ((word m 1 : Nat) : Int), .int .u64 ((word m 2 : Nat) : Int), .int .u64 ((word m 3 : Nat) : Int)]] w fun e W' => ∃ v, e = .returned v ∧ W'.ownsRow w.heap.size 35 2 v (rowsOf m).length (rowCells (rowsOf m)) ∧ Below w.heap.size w W' :=
  callsIn_wide.1 (rows_in 3 (Nat.le_refl _) m w)

end Go.Proofs.Ytbjgkolldmplkaa
