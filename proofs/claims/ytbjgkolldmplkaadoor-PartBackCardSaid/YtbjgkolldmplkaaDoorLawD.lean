/- From a walk that ends 'it returns true, and nothing that was there has turned' to a given row that lists the table of math/bits. -/
import Derived.Test.YtbjgkolldmplkaaDoorLaw
import Derived.Test.YtbjgkolldmplkaaDoorFirst
import Derived.Test.YtbjgkolldmplkaaDoorTie
import Derived.Test.YtbjgkolldmplkaaDoorCards
import Derived.LaidMore
import Derived.OpenShut
import Derived.Stop.Joined
import Derived.SevenTiedAt
namespace Go.Proofs.YtbjgkolldmplkaaDoor
open Go.ChangeShapes Go.WideShapes Go.ChangeAt Go.WideMaps Go.WideElems Go.RowKit

theorem gTab : Tryd.prog.globalNamed "math/bits.deBruijn64tab" = some 0 := by kernel_rfl
theorem tTab : (Tryd.prog.globals[0]?).map (·.type) = some 69 := by kernel_rfl
theorem cTab : Tryd.prog.cellsOf 5 = 1 := by kernel_rfl

/-- What the rows list. -/
def laidL : List (String × DataW Unit) := [("math/bits.deBruijn64tab", Rows.laid_math_bits_deBruijn64tab)]

theorem laid_list : (Rows.laid_math_bits_deBruijn64tab : DataW Unit) = .agg (Lib.deBruijn64tab.map fun n => .lit (.int .u8 ((n : Nat) : Int))) := rfl

theorem tab_of_laid {W : World} (h : laidMetH Tryd.prog laidL W) : TabD W := by
  rw [MakeChecks.laidMetH_plain _ _ _ (by kernel_rfl)] at h
  obtain ⟨ps, ⟨g0, t0, cs0, f0, p0, q0, hg0, ht0, hv0, hd0, _⟩, _, _⟩ := h
  obtain rfl := Option.some.inj (gTab.symm.trans hg0)
  obtain rfl := Option.some.inj (tTab.symm.trans ht0)
  obtain ⟨xs, m1, rfl, hx1, hlen, hn3, hel⟩ := DataW.trod_array Tryd.underlying69 hd0
  rw [laid_list] at hx1
  simp only [Prod.mk.injEq, DataW.agg.injEq] at hx1
  intro j hj
  have hjl : j < xs.length := by omega
  have h0 := hel j hj
  rw [List.getElem?_eq_getElem hjl, cTab, Nat.mul_one] at h0
  obtain ⟨k, e1, e2, _⟩ := DataW.trod_int Tryd.underlying5 h0
  have hd : (Lib.deBruijn64tab.map fun n => (DataW.lit (.int .u8 ((n : Nat) : Int)) : DataW Unit))[j]? = some (.lit (.int .u8 k)) := by
    rw [hx1.1, List.getElem?_map, List.getElem?_eq_getElem hjl, e2]
    rfl
  have hjt : j < Lib.deBruijn64tab.length := hj
  rw [List.getElem?_map, List.getElem?_eq_getElem hjt] at hd
  simp only [Option.map_some, Option.some.injEq, DataW.lit.injEq, Lit.int.injEq, true_and] at hd
  have hc := World.var?_cell hg0 hv0 j
  have e3 : cs0[j]? = some (.int .u8 k) := by
    have : (cs0.toList.drop j).head? = some (.int .u8 k) := by
      cases hh : cs0.toList.drop j with
      | nil => rw [hh] at e1; simp at e1
      | cons a t => rw [hh] at e1; simp at e1; simp [e1]
    rw [List.head?_drop] at this
    simpa using this
  rw [hc, e3, ← hd, List.getD_eq_getElem?_getD, List.getElem?_eq_getElem hjt]
  rfl

theorem TabD.below {w w' : World} (h : TabD w) (hb : Below w.heap.size w w') : TabD w' := fun j hj => by
  rw [hb.cell (block_lt_of_cell (h j hj))]
  exact h j hj

/-- The door's own heap meets the condition. -/
theorem door_met (os : Os) (args : Array Value) : laidMetH Tryd.prog laidL ((World.doorLaid Tryd.prog 14 os).forCall (fun _ _ => 0) ⟨#[], args, []⟩).memory :=
  laidMetH_of_parts3 (fuel := 8) (laidMet_of_run' 8 (by kernel_rfl) (by kernel_rfl)) (by kernel_rfl) (by kernel_rfl)

theorem law_lifted_laid {H : Type} {enc : TypeId × Value → H} {os : Os} {f : FuncId} {fn : Func} {s : ChangeSpec} {tb : TypeId} (started : os.Started) (noInit : Tryd.checked.prog.inits.idxOf? f = none) (hfn : Tryd.checked.prog.funcs[f]? = some fn)
    (hv : s.vars = [])
    (hs : ∀ ds : List (DataW H), ds.length = fn.params.size → s.fn H ds = { results := [.lit (.bool true)], args := ds })
    (hr : fn.resultTypes = #[tb]) (htb : Tryd.checked.prog.underlying tb = some .bool) (hp : (fn.params.toList.all fun t => Tryd.checked.prog.readableRec t && decide (t < Tryd.checked.prog.types.size)) = true)
    (witness : ∃ (w : World) (tape : Tape) (i : Input), w.os = os ∧ (w.forCall tape i).Shaped Tryd.checked.prog ∧ i.vars = [] ∧ Input.okWide Tryd.checked.prog (w.forCall tape i) .any w.heap.size f i ∧
      ((s.pre enc Tryd.checked.prog fn [] false (w.forCall tape i).memory i.args ∧ laidMetH Tryd.prog laidL (w.forCall tape i).memory) ∧ sizedMet enc Tryd.checked.prog fn (OpenSpec.ofChange s) false (w.forCall tape i).memory i.args) ∧ ({} : Assume).holds Tryd.checked.prog (lone (Frame.enter Tryd.checked.prog f i.args .normal) [] (w.forCall tape i)))
    (walk : ∀ (W : World) (base : Nat) (args : Array Value) (ds : List (DataW H)) (before : List MemPlace),
      (∀ (j : Nat) t v, fn.params[j]? = some t → args[j]? = some v → Value.okWide Tryd.checked.prog W .any base t v) →
      DataW.TrodAll enc Tryd.checked.prog W 0 (fun _ => true) true fn.params.toList args.toList ds before → (∀ p ∈ before, p.block < W.heap.size) →
      (DataW.weightsEach Tryd.checked.prog fn.params.toList ds).all (· ≤ reachBytes) = true → TabD W →
      Calls Tryd.checked.prog f args W (Gives (.bool true) W)) :
    ReturnsInHanded {} Tryd.checked os f .any (fun w args => (s.pre enc Tryd.checked.prog fn [] false w args ∧ laidMetH Tryd.prog laidL w) ∧ sizedMet enc Tryd.checked.prog fn (OpenSpec.ofChange s) false w args) (s.post enc Tryd.checked.prog fn false true false false) := by
  refine returnsInHanded_of_change_and (C := Tryd.checked) (X := fun w _ => laidMetH Tryd.prog laidL w) (fun _ _ _ hh h => h.of_heap hh) ownNone started noInit hfn witness ?_
  intro W base args ds gs before hval hW _ hsz hL _
  have hl : laidOutB Tryd.checked.prog = true := laidOut
  have hlt : ∀ p ∈ before, p.block < W.heap.size := fun p hp => hW.lt p hp
  have hW' := hW
  rw [hv] at hW'
  obtain ⟨p, q, hA, hV, rfl, _, _⟩ := hW'
  obtain ⟨rfl, rfl⟩ := trodVars_none hV
  simp only [List.append_nil] at hlt
  have hsz' : (DataW.weightsEach Tryd.checked.prog fn.params.toList ds).all (· ≤ reachBytes) = true := by
    have e : s.plain.varTypes Tryd.checked.prog = [] := by
      simp [ChangeSpec.plain, DataSpec.varTypes, hv]
    rw [e] at hsz
    simpa using hsz
  have hlen : ds.length = fn.params.size := by
    have : ∀ {ts : List TypeId} {vs : List Value} {ds : List (DataW H)} {ps : List MemPlace}, DataW.TrodAll enc Tryd.checked.prog W 0 (fun _ => true) true ts vs ds ps → ds.length = ts.length := by
      intro ts
      induction ts with
      | nil => intro vs ds ps h; cases vs <;> cases ds <;> simp_all [DataW.TrodAll]
      | cons t ts ih =>
        intro vs ds ps h
        cases vs with
        | nil => simp [DataW.TrodAll] at h
        | cons v vs =>
          cases ds with
          | nil => simp [DataW.TrodAll] at h
          | cons d ds =>
            obtain ⟨_, _, _, h2, _⟩ := h
            simpa using ih h2
    simpa using this hA
  refine (walk W base args ds p hval hA hlt hsz' (tab_of_laid hL)).mono fun e W' ⟨he, hb⟩ => ⟨_, he, ?_⟩
  have e1 : s.fn H (ds ++ []) = { results := [.lit (.bool true)], args := ds } := by rw [List.append_nil]; exact hs ds hlen
  refine post_of_below (pa := p) (pv := []) hW ?_ ?_ ?_ (by simp) hb (ok_one hr rfl (okWide_bool_mk htb _))
  · intro b sp hd
    rw [e1, hr]
    exact trodAll_mk1 (shut_bool htb _)
  · intro sp hsp
    rw [e1]
    exact trodAll_stays hl hb hp hA hlt (fun x hx => hsp x (by simpa using hx))
  · intro sp _
    rw [e1, hv]
    rfl

end Go.Proofs.YtbjgkolldmplkaaDoor
