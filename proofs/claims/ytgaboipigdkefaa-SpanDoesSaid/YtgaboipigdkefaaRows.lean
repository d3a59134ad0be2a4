/-
  No cell of these rows narrows 'for every input' (looked for: loops, veiled, ifaces, maps, wideKeys, modest, calm, conditions, laid).
  DERIVED. THE GIVEN ROWS OF THIS SEAT. 7 by the template 'for every input the law returns true; each argument reads behind the call as it read before'; 0 by the template 'total and deterministic' (their statements: YtgaboipigdkefaaTotals.lean).
  GIVEN WITH THE SEED: the statements are not yours to turn. If you find one false, say at which input.
  Laid BY PROGRAM, IN A SANDBOX (cutbox-rows.mjs): the forced cells as the released guide's own fill.sh prints them over the translation 22683971e16d87f3… (all of the seat's roots in one cut). By AI agents, Wed Nov 11 2026. No macro, syntax, notation, axiom, sorry.
-/
import Derived.Test.YtgaboipigdkefaaChecked
import GoSem.Claim
import GoSem.ClaimJoined
import GoSem.ClaimMapViews
import Derived.JoinedTies
import Derived.KernelRfl
namespace Go.Proofs.Ytgaboipigdkefaa
/- THE CELL 'sum', in the pinned program and in every row, IS THE sha256 OF THE DUMP (.gsa) THAT YtgaboipigdkefaaProg.lean LOADS. Nothing in Lean hashes anything: it is a label: what it is worth is what the hold of that sum in a sandbox is worth. -/
noncomputable def Try.pinned : Pinned := { name := "ytgaboipigdkefaa", sum := "22683971e16d87f3ad4fb18ee7b506a003ff6881ab026324c3abcd5b64c27213", checked := Try.checked }
namespace Rows
def none {H : Type} : Left H := { results := [], args := [] }

/-- 'whittlelaw03.TextLag': WHATEVER THE INPUT: true; the input reads as it did. -/
def textLagSpec : ChangeSpec := { name := "textLag", fn := fun _ => fun
  | [d1, d2, d3] => { results := [.lit (.bool true)], args := [d1, d2, d3] }
  | _ => none }
def textLagRow : OpenClaim := { program := "ytgaboipigdkefaa", sum := "22683971e16d87f3ad4fb18ee7b506a003ff6881ab026324c3abcd5b64c27213", func := "whittle/whittlelaw03.TextLag", spec := "textLag", apart := false }
def TextLagSaid : Prop := textLagRow.holds Try.pinned (OpenSpec.ofChange textLagSpec)

/-- ITS FALSE NEIGHBOUR: 'it returns false'. Refute it at one input. -/
def textLagWrong : ChangeSpec := { name := "textLag", fn := fun _ => fun
  | [d1, d2, d3] => { results := [.lit (.bool false)], args := [d1, d2, d3] }
  | _ => none }
def TextLagWrongFalsely : Prop := textLagRow.holds Try.pinned (OpenSpec.ofChange textLagWrong)

/-- 'whittlelaw03.TextFar': WHATEVER THE INPUT: true; the input reads as it did. -/
def textFarSpec : ChangeSpec := { name := "textFar", fn := fun _ => fun
  | [d1, d2, d3] => { results := [.lit (.bool true)], args := [d1, d2, d3] }
  | _ => none }
def textFarRow : OpenClaim := { program := "ytgaboipigdkefaa", sum := "22683971e16d87f3ad4fb18ee7b506a003ff6881ab026324c3abcd5b64c27213", func := "whittle/whittlelaw03.TextFar", spec := "textFar", apart := false }
def TextFarSaid : Prop := textFarRow.holds Try.pinned (OpenSpec.ofChange textFarSpec)

/-- ITS FALSE NEIGHBOUR: 'it returns false'. Refute it at one input. -/
def textFarWrong : ChangeSpec := { name := "textFar", fn := fun _ => fun
  | [d1, d2, d3] => { results := [.lit (.bool false)], args := [d1, d2, d3] }
  | _ => none }
def TextFarWrongFalsely : Prop := textFarRow.holds Try.pinned (OpenSpec.ofChange textFarWrong)

/-- 'whittlelaw03.TextLcp': WHATEVER THE INPUT: true; the input reads as it did. -/
def textLcpSpec : ChangeSpec := { name := "textLcp", fn := fun _ => fun
  | [d1, d2, d3, d4] => { results := [.lit (.bool true)], args := [d1, d2, d3, d4] }
  | _ => none }
def textLcpRow : OpenClaim := { program := "ytgaboipigdkefaa", sum := "22683971e16d87f3ad4fb18ee7b506a003ff6881ab026324c3abcd5b64c27213", func := "whittle/whittlelaw03.TextLcp", spec := "textLcp", apart := false }
def TextLcpSaid : Prop := textLcpRow.holds Try.pinned (OpenSpec.ofChange textLcpSpec)

/-- ITS FALSE NEIGHBOUR: 'it returns false'. Refute it at one input. -/
def textLcpWrong : ChangeSpec := { name := "textLcp", fn := fun _ => fun
  | [d1, d2, d3, d4] => { results := [.lit (.bool false)], args := [d1, d2, d3, d4] }
  | _ => none }
def TextLcpWrongFalsely : Prop := textLcpRow.holds Try.pinned (OpenSpec.ofChange textLcpWrong)

/-- 'whittlelaw04.SpanHull': WHATEVER THE INPUT: true; the input reads as it did. -/
def spanHullSpec : ChangeSpec := { name := "spanHull", fn := fun _ => fun
  | [d1, d2, d3] => { results := [.lit (.bool true)], args := [d1, d2, d3] }
  | _ => none }
def spanHullRow : OpenClaim := { program := "ytgaboipigdkefaa", sum := "22683971e16d87f3ad4fb18ee7b506a003ff6881ab026324c3abcd5b64c27213", func := "whittle/whittlelaw04.SpanHull", spec := "spanHull", unfollowed := true, recurses := true, apart := false }
def SpanHullSaid : Prop := spanHullRow.holds Try.pinned (OpenSpec.ofChange spanHullSpec)

/-- ITS FALSE NEIGHBOUR: 'it returns false'. Refute it at one input. -/
def spanHullWrong : ChangeSpec := { name := "spanHull", fn := fun _ => fun
  | [d1, d2, d3] => { results := [.lit (.bool false)], args := [d1, d2, d3] }
  | _ => none }
def SpanHullWrongFalsely : Prop := spanHullRow.holds Try.pinned (OpenSpec.ofChange spanHullWrong)

/-- 'whittlelaw04.SpanThrough': WHATEVER THE INPUT: true; the input reads as it did. -/
def spanThroughSpec : ChangeSpec := { name := "spanThrough", fn := fun _ => fun
  | [d1, d2, d3, d4, d5] => { results := [.lit (.bool true)], args := [d1, d2, d3, d4, d5] }
  | _ => none }
def spanThroughRow : OpenClaim := { program := "ytgaboipigdkefaa", sum := "22683971e16d87f3ad4fb18ee7b506a003ff6881ab026324c3abcd5b64c27213", func := "whittle/whittlelaw04.SpanThrough", spec := "spanThrough", unfollowed := true, recurses := true, apart := false }
def SpanThroughSaid : Prop := spanThroughRow.holds Try.pinned (OpenSpec.ofChange spanThroughSpec)

/-- ITS FALSE NEIGHBOUR: 'it returns false'. Refute it at one input. -/
def spanThroughWrong : ChangeSpec := { name := "spanThrough", fn := fun _ => fun
  | [d1, d2, d3, d4, d5] => { results := [.lit (.bool false)], args := [d1, d2, d3, d4, d5] }
  | _ => none }
def SpanThroughWrongFalsely : Prop := spanThroughRow.holds Try.pinned (OpenSpec.ofChange spanThroughWrong)

/-- 'whittlelaw03.TextDoes': WHATEVER THE INPUT: true; the input reads as it did. -/
def textDoesSpec : ChangeSpec := { name := "textDoes", fn := fun _ => fun
  | [d1, d2, d3] => { results := [.lit (.bool true)], args := [d1, d2, d3] }
  | _ => none }
def textDoesRow : OpenClaim := { program := "ytgaboipigdkefaa", sum := "22683971e16d87f3ad4fb18ee7b506a003ff6881ab026324c3abcd5b64c27213", func := "whittle/whittlelaw03.TextDoes", spec := "textDoes", apart := false }
def TextDoesSaid : Prop := textDoesRow.holds Try.pinned (OpenSpec.ofChange textDoesSpec)

/-- ITS FALSE NEIGHBOUR: 'it returns false'. Refute it at one input. -/
def textDoesWrong : ChangeSpec := { name := "textDoes", fn := fun _ => fun
  | [d1, d2, d3] => { results := [.lit (.bool false)], args := [d1, d2, d3] }
  | _ => none }
def TextDoesWrongFalsely : Prop := textDoesRow.holds Try.pinned (OpenSpec.ofChange textDoesWrong)

/-- 'whittlelaw04.SpanDoes': WHATEVER THE INPUT: true; the input reads as it did. -/
def spanDoesSpec : ChangeSpec := { name := "spanDoes", fn := fun _ => fun
  | [d1, d2, d3, d4] => { results := [.lit (.bool true)], args := [d1, d2, d3, d4] }
  | _ => none }
def spanDoesRow : OpenClaim := { program := "ytgaboipigdkefaa", sum := "22683971e16d87f3ad4fb18ee7b506a003ff6881ab026324c3abcd5b64c27213", func := "whittle/whittlelaw04.SpanDoes", spec := "spanDoes", unfollowed := true, recurses := true, apart := false }
def SpanDoesSaid : Prop := spanDoesRow.holds Try.pinned (OpenSpec.ofChange spanDoesSpec)

/-- ITS FALSE NEIGHBOUR: 'it returns false'. Refute it at one input. -/
def spanDoesWrong : ChangeSpec := { name := "spanDoes", fn := fun _ => fun
  | [d1, d2, d3, d4] => { results := [.lit (.bool false)], args := [d1, d2, d3, d4] }
  | _ => none }
def SpanDoesWrongFalsely : Prop := spanDoesRow.holds Try.pinned (OpenSpec.ofChange spanDoesWrong)

/- THE SECOND FORM. 'bulk': how many values and letters a reading holds, each counted each time it is reached (what is shared counts as often as it is met; a slice's spare places count too). A statement '..UptoSaid' is the law's where the arguments, and the package variables that the reading takes, are together of bulk at most 1048576: NARROWER than '..Said'. Prove '..Said' where nothing that the law and all that it calls make is longer than what came in: it says more and counts as full. Else prove '..UptoSaid'. A law counts once. -/
mutual
def uptoBulk {H : Type} : DataW H → Nat
  | .lit (.string bytes) => bytes.length + 1
  | .lit _ => 1
  | .nil => 1
  | .ptr d => uptoBulk d + 1
  | .slice elems spare => uptoBulkAll elems + uptoBulkAll spare + 1
  | .agg parts => uptoBulkAll parts + 1
  | .iface _ d => uptoBulk d + 1
  | .map entries => uptoBulkEntries entries + 1
  | .held _ => 1
def uptoBulkAll {H : Type} : List (DataW H) → Nat
  | [] => 0
  | d :: r => uptoBulk d + uptoBulkAll r
def uptoBulkEntries {H : Type} : List (Lit × DataW H) → Nat
  | [] => 0
  | x :: r => uptoBulkEntry x + uptoBulkEntries r
def uptoBulkEntry {H : Type} : Lit × DataW H → Nat
  | (.string bytes, d) => bytes.length + uptoBulk d + 1
  | (_, d) => uptoBulk d + 1
 end
def uptoSmall : (H : Type) → List (DataW H) → Bool := fun _ ds => decide (uptoBulkAll ds ≤ 1048576)
def OpenSpec.upto (s : _root_.Go.ChangeSpec) : _root_.Go.OpenSpec := { _root_.Go.OpenSpec.ofChange s with cond := some uptoSmall }

/-- 'whittlelaw03.TextLag', WHERE WHAT IT READS IS OF BULK AT MOST 1048576: true; the input reads as it did. -/
def textLagUptoRow : OpenClaim := { program := "ytgaboipigdkefaa", sum := "22683971e16d87f3ad4fb18ee7b506a003ff6881ab026324c3abcd5b64c27213", func := "whittle/whittlelaw03.TextLag", spec := "textLag", apart := false, narrowed := true }
def TextLagUptoSaid : Prop := textLagUptoRow.holds Try.pinned (OpenSpec.upto textLagSpec)

/-- 'whittlelaw03.TextFar', WHERE WHAT IT READS IS OF BULK AT MOST 1048576: true; the input reads as it did. -/
def textFarUptoRow : OpenClaim := { program := "ytgaboipigdkefaa", sum := "22683971e16d87f3ad4fb18ee7b506a003ff6881ab026324c3abcd5b64c27213", func := "whittle/whittlelaw03.TextFar", spec := "textFar", apart := false, narrowed := true }
def TextFarUptoSaid : Prop := textFarUptoRow.holds Try.pinned (OpenSpec.upto textFarSpec)

/-- 'whittlelaw03.TextLcp', WHERE WHAT IT READS IS OF BULK AT MOST 1048576: true; the input reads as it did. -/
def textLcpUptoRow : OpenClaim := { program := "ytgaboipigdkefaa", sum := "22683971e16d87f3ad4fb18ee7b506a003ff6881ab026324c3abcd5b64c27213", func := "whittle/whittlelaw03.TextLcp", spec := "textLcp", apart := false, narrowed := true }
def TextLcpUptoSaid : Prop := textLcpUptoRow.holds Try.pinned (OpenSpec.upto textLcpSpec)

/-- 'whittlelaw04.SpanHull', WHERE WHAT IT READS IS OF BULK AT MOST 1048576: true; the input reads as it did. -/
def spanHullUptoRow : OpenClaim := { program := "ytgaboipigdkefaa", sum := "22683971e16d87f3ad4fb18ee7b506a003ff6881ab026324c3abcd5b64c27213", func := "whittle/whittlelaw04.SpanHull", spec := "spanHull", unfollowed := true, recurses := true, apart := false, narrowed := true }
def SpanHullUptoSaid : Prop := spanHullUptoRow.holds Try.pinned (OpenSpec.upto spanHullSpec)

/-- 'whittlelaw04.SpanThrough', WHERE WHAT IT READS IS OF BULK AT MOST 1048576: true; the input reads as it did. -/
def spanThroughUptoRow : OpenClaim := { program := "ytgaboipigdkefaa", sum := "22683971e16d87f3ad4fb18ee7b506a003ff6881ab026324c3abcd5b64c27213", func := "whittle/whittlelaw04.SpanThrough", spec := "spanThrough", unfollowed := true, recurses := true, apart := false, narrowed := true }
def SpanThroughUptoSaid : Prop := spanThroughUptoRow.holds Try.pinned (OpenSpec.upto spanThroughSpec)

/-- 'whittlelaw03.TextDoes', WHERE WHAT IT READS IS OF BULK AT MOST 1048576: true; the input reads as it did. -/
def textDoesUptoRow : OpenClaim := { program := "ytgaboipigdkefaa", sum := "22683971e16d87f3ad4fb18ee7b506a003ff6881ab026324c3abcd5b64c27213", func := "whittle/whittlelaw03.TextDoes", spec := "textDoes", apart := false, narrowed := true }
def TextDoesUptoSaid : Prop := textDoesUptoRow.holds Try.pinned (OpenSpec.upto textDoesSpec)

/-- 'whittlelaw04.SpanDoes', WHERE WHAT IT READS IS OF BULK AT MOST 1048576: true; the input reads as it did. -/
def spanDoesUptoRow : OpenClaim := { program := "ytgaboipigdkefaa", sum := "22683971e16d87f3ad4fb18ee7b506a003ff6881ab026324c3abcd5b64c27213", func := "whittle/whittlelaw04.SpanDoes", spec := "spanDoes", unfollowed := true, recurses := true, apart := false, narrowed := true }
def SpanDoesUptoSaid : Prop := spanDoesUptoRow.holds Try.pinned (OpenSpec.upto spanDoesSpec)

end Rows
end Go.Proofs.Ytgaboipigdkefaa
