/-
  NARROWER THAN 'FOR EVERY INPUT', by the rows' own cells (each row's printed sentence says how): PartDoes: laid · PartSame: laid · PartMore: laid · SetTurns: laid · PartSets: laid · PartBack: laid.
  DERIVED. THE GIVEN ROWS OF THIS SEAT. 6 by the template 'for every input the law returns true; each argument reads behind the call as it read before'; 0 by the template 'total and deterministic' (their statements: YtbjgkolldmplkaaDoorTotals.lean).
  GIVEN WITH THE SEED: the statements are not yours to turn. If you find one false, say at which input.
  Laid BY PROGRAM, IN A SANDBOX (cutbox-rows.mjs): the forced cells as the released guide's own fill.sh prints them over the translation 522ff65328de9b1a… (all of the seat's roots in one cut). By AI agents, Wed Nov 11 2026. No macro, syntax, notation, axiom, sorry.
-/
import Derived.Test.YtbjgkolldmplkaaDoorChecked
import GoSem.Claim
import GoSem.ClaimJoined
import GoSem.ClaimMapViews
import Derived.JoinedTies
import Derived.KernelRfl
namespace Go.Proofs.YtbjgkolldmplkaaDoor
/- THE CELL 'sum', in the pinned program and in every row, IS THE sha256 OF THE DUMP (.gsa) THAT YtbjgkolldmplkaaDoorProg.lean LOADS. Nothing in Lean hashes anything: it is a label: what it is worth is what the hold of that sum in a sandbox is worth. -/
noncomputable def Tryd.pinned : Pinned := { name := "ytbjgkolldmplkaadoor", sum := "522ff65328de9b1a18627c4b10f7ecb359f6b216cc3687aad048e775c71ee328", checked := Tryd.checked }
namespace Rows
def none {H : Type} : Left H := { results := [], args := [] }

/- WHAT THE LISTED PACKAGE-LEVEL VARIABLES READ AS WHEN THE CALL BEGINS. Each datum BY PROGRAM (the guide's laid-datum.mjs) off the statement by which the dump's own 'gosem.cut.vars' lays the variable. In a bare row this is a premise. The card (YtbjgkolldmplkaaDoorCards.lean) ties it to the program's text. -/
def laid_math_bits_deBruijn64tab {H : Type} : DataW H := .agg [.lit (.int .u8 0), .lit (.int .u8 1), .lit (.int .u8 56), .lit (.int .u8 2), .lit (.int .u8 57), .lit (.int .u8 49), .lit (.int .u8 28), .lit (.int .u8 3), .lit (.int .u8 61), .lit (.int .u8 58), .lit (.int .u8 42), .lit (.int .u8 50), .lit (.int .u8 38), .lit (.int .u8 29), .lit (.int .u8 17), .lit (.int .u8 4), .lit (.int .u8 62), .lit (.int .u8 47), .lit (.int .u8 59), .lit (.int .u8 36), .lit (.int .u8 45), .lit (.int .u8 43), .lit (.int .u8 51), .lit (.int .u8 22), .lit (.int .u8 53), .lit (.int .u8 39), .lit (.int .u8 33), .lit (.int .u8 30), .lit (.int .u8 24), .lit (.int .u8 18), .lit (.int .u8 12), .lit (.int .u8 5), .lit (.int .u8 63), .lit (.int .u8 55), .lit (.int .u8 48), .lit (.int .u8 27), .lit (.int .u8 60), .lit (.int .u8 41), .lit (.int .u8 37), .lit (.int .u8 16), .lit (.int .u8 46), .lit (.int .u8 35), .lit (.int .u8 44), .lit (.int .u8 21), .lit (.int .u8 52), .lit (.int .u8 32), .lit (.int .u8 23), .lit (.int .u8 11), .lit (.int .u8 54), .lit (.int .u8 26), .lit (.int .u8 40), .lit (.int .u8 15), .lit (.int .u8 34), .lit (.int .u8 20), .lit (.int .u8 31), .lit (.int .u8 10), .lit (.int .u8 25), .lit (.int .u8 14), .lit (.int .u8 19), .lit (.int .u8 9), .lit (.int .u8 13), .lit (.int .u8 8), .lit (.int .u8 7), .lit (.int .u8 6)]

/-- 'whittlelaw02.PartDoes': WHATEVER THE INPUT: true; the input reads as it did. -/
def partDoesSpec : ChangeSpec := { name := "partDoes", fn := fun _ => fun
  | [d] => { results := [.lit (.bool true)], args := [d] }
  | _ => none }
def partDoesRow : OpenClaim := { program := "ytbjgkolldmplkaadoor", sum := "522ff65328de9b1a18627c4b10f7ecb359f6b216cc3687aad048e775c71ee328", func := "whittle/whittlelaw02.PartDoes", spec := "partDoes", named := ["math/bits.deBruijn64tab"], apart := false, laid := [("math/bits.deBruijn64tab", laid_math_bits_deBruijn64tab)] }
def PartDoesSaid : Prop := partDoesRow.holds Tryd.pinned (OpenSpec.ofChange partDoesSpec)

/-- ITS FALSE NEIGHBOUR: 'it returns false'. Refute it at one input. -/
def partDoesWrong : ChangeSpec := { name := "partDoes", fn := fun _ => fun
  | [d] => { results := [.lit (.bool false)], args := [d] }
  | _ => none }
def PartDoesWrongFalsely : Prop := partDoesRow.holds Tryd.pinned (OpenSpec.ofChange partDoesWrong)

/-- 'whittlelaw02.PartSame': WHATEVER THE INPUT: true; the input reads as it did. -/
def partSameSpec : ChangeSpec := { name := "partSame", fn := fun _ => fun
  | [d1, d2] => { results := [.lit (.bool true)], args := [d1, d2] }
  | _ => none }
def partSameRow : OpenClaim := { program := "ytbjgkolldmplkaadoor", sum := "522ff65328de9b1a18627c4b10f7ecb359f6b216cc3687aad048e775c71ee328", func := "whittle/whittlelaw02.PartSame", spec := "partSame", named := ["math/bits.deBruijn64tab"], apart := false, laid := [("math/bits.deBruijn64tab", laid_math_bits_deBruijn64tab)] }
def PartSameSaid : Prop := partSameRow.holds Tryd.pinned (OpenSpec.ofChange partSameSpec)

/-- ITS FALSE NEIGHBOUR: 'it returns false'. Refute it at one input. -/
def partSameWrong : ChangeSpec := { name := "partSame", fn := fun _ => fun
  | [d1, d2] => { results := [.lit (.bool false)], args := [d1, d2] }
  | _ => none }
def PartSameWrongFalsely : Prop := partSameRow.holds Tryd.pinned (OpenSpec.ofChange partSameWrong)

/-- 'whittlelaw02.PartMore': WHATEVER THE INPUT: true; the input reads as it did. -/
def partMoreSpec : ChangeSpec := { name := "partMore", fn := fun _ => fun
  | [d1, d2] => { results := [.lit (.bool true)], args := [d1, d2] }
  | _ => none }
def partMoreRow : OpenClaim := { program := "ytbjgkolldmplkaadoor", sum := "522ff65328de9b1a18627c4b10f7ecb359f6b216cc3687aad048e775c71ee328", func := "whittle/whittlelaw02.PartMore", spec := "partMore", named := ["math/bits.deBruijn64tab"], apart := false, laid := [("math/bits.deBruijn64tab", laid_math_bits_deBruijn64tab)] }
def PartMoreSaid : Prop := partMoreRow.holds Tryd.pinned (OpenSpec.ofChange partMoreSpec)

/-- ITS FALSE NEIGHBOUR: 'it returns false'. Refute it at one input. -/
def partMoreWrong : ChangeSpec := { name := "partMore", fn := fun _ => fun
  | [d1, d2] => { results := [.lit (.bool false)], args := [d1, d2] }
  | _ => none }
def PartMoreWrongFalsely : Prop := partMoreRow.holds Tryd.pinned (OpenSpec.ofChange partMoreWrong)

/-- 'whittlelaw01.SetTurns': WHATEVER THE INPUT: true; the input reads as it did. -/
def setTurnsSpec : ChangeSpec := { name := "setTurns", fn := fun _ => fun
  | [d1, d2] => { results := [.lit (.bool true)], args := [d1, d2] }
  | _ => none }
def setTurnsRow : OpenClaim := { program := "ytbjgkolldmplkaadoor", sum := "522ff65328de9b1a18627c4b10f7ecb359f6b216cc3687aad048e775c71ee328", func := "whittle/whittlelaw01.SetTurns", spec := "setTurns", unfollowed := true, recurses := true, named := ["math/bits.deBruijn64tab"], apart := false, laid := [("math/bits.deBruijn64tab", laid_math_bits_deBruijn64tab)] }
def SetTurnsSaid : Prop := setTurnsRow.holds Tryd.pinned (OpenSpec.ofChange setTurnsSpec)

/-- ITS FALSE NEIGHBOUR: 'it returns false'. Refute it at one input. -/
def setTurnsWrong : ChangeSpec := { name := "setTurns", fn := fun _ => fun
  | [d1, d2] => { results := [.lit (.bool false)], args := [d1, d2] }
  | _ => none }
def SetTurnsWrongFalsely : Prop := setTurnsRow.holds Tryd.pinned (OpenSpec.ofChange setTurnsWrong)

/-- 'whittlelaw02.PartSets': WHATEVER THE INPUT: true; the input reads as it did. -/
def partSetsSpec : ChangeSpec := { name := "partSets", fn := fun _ => fun
  | [d1, d2, d3] => { results := [.lit (.bool true)], args := [d1, d2, d3] }
  | _ => none }
def partSetsRow : OpenClaim := { program := "ytbjgkolldmplkaadoor", sum := "522ff65328de9b1a18627c4b10f7ecb359f6b216cc3687aad048e775c71ee328", func := "whittle/whittlelaw02.PartSets", spec := "partSets", named := ["math/bits.deBruijn64tab"], apart := false, laid := [("math/bits.deBruijn64tab", laid_math_bits_deBruijn64tab)] }
def PartSetsSaid : Prop := partSetsRow.holds Tryd.pinned (OpenSpec.ofChange partSetsSpec)

/-- ITS FALSE NEIGHBOUR: 'it returns false'. Refute it at one input. -/
def partSetsWrong : ChangeSpec := { name := "partSets", fn := fun _ => fun
  | [d1, d2, d3] => { results := [.lit (.bool false)], args := [d1, d2, d3] }
  | _ => none }
def PartSetsWrongFalsely : Prop := partSetsRow.holds Tryd.pinned (OpenSpec.ofChange partSetsWrong)

/-- 'whittlelaw02.PartBack': WHATEVER THE INPUT: true; the input reads as it did. -/
def partBackSpec : ChangeSpec := { name := "partBack", fn := fun _ => fun
  | [d1, d2] => { results := [.lit (.bool true)], args := [d1, d2] }
  | _ => none }
def partBackRow : OpenClaim := { program := "ytbjgkolldmplkaadoor", sum := "522ff65328de9b1a18627c4b10f7ecb359f6b216cc3687aad048e775c71ee328", func := "whittle/whittlelaw02.PartBack", spec := "partBack", named := ["math/bits.deBruijn64tab"], apart := false, laid := [("math/bits.deBruijn64tab", laid_math_bits_deBruijn64tab)] }
def PartBackSaid : Prop := partBackRow.holds Tryd.pinned (OpenSpec.ofChange partBackSpec)

/-- ITS FALSE NEIGHBOUR: 'it returns false'. Refute it at one input. -/
def partBackWrong : ChangeSpec := { name := "partBack", fn := fun _ => fun
  | [d1, d2] => { results := [.lit (.bool false)], args := [d1, d2] }
  | _ => none }
def PartBackWrongFalsely : Prop := partBackRow.holds Tryd.pinned (OpenSpec.ofChange partBackWrong)

/- THE SECOND FORM. 'bulk': how many values and letters a reading holds, each counted each time it is reached (what is shared counts as often as it is met; a slice's spare places count too). A statement '..UptoSaid' is the law's where the arguments, and the package variables that the reading takes, are together of bulk at most 1048576: NARROWER than '..Said'. Prove '..Said' where nothing that the law and all that it calls make is longer than what came in: it says more and counts as full. Else prove '..UptoSaid'. A law counts once. -/
mutual
def uptoBulk {H : Type} : DataW H → Nat
  | .lit (.string bytes) => bytes.length + 1
  | .lit _ => 1
  | .nil => 1
  | .ptr d => uptoBulk d + 1
  | .slice elems spare => uptoBulkAll elems + uptoBulkAll spare + 1
  | .agg parts => uptoBulkAll parts + 1
  | .iface _ d => uptoBulk d + 1
  | .map entries => uptoBulkEntries entries + 1
  | .held _ => 1
def uptoBulkAll {H : Type} : List (DataW H) → Nat
  | [] => 0
  | d :: r => uptoBulk d + uptoBulkAll r
def uptoBulkEntries {H : Type} : List (Lit × DataW H) → Nat
  | [] => 0
  | x :: r => uptoBulkEntry x + uptoBulkEntries r
def uptoBulkEntry {H : Type} : Lit × DataW H → Nat
  | (.string bytes, d) => bytes.length + uptoBulk d + 1
  | (_, d) => uptoBulk d + 1
 end
def uptoSmall : (H : Type) → List (DataW H) → Bool := fun _ ds => decide (uptoBulkAll ds ≤ 1048576)
def OpenSpec.upto (s : _root_.Go.ChangeSpec) : _root_.Go.OpenSpec := { _root_.Go.OpenSpec.ofChange s with cond := some uptoSmall }

/-- 'whittlelaw02.PartDoes', WHERE WHAT IT READS IS OF BULK AT MOST 1048576: true; the input reads as it did. -/
def partDoesUptoRow : OpenClaim := { program := "ytbjgkolldmplkaadoor", sum := "522ff65328de9b1a18627c4b10f7ecb359f6b216cc3687aad048e775c71ee328", func := "whittle/whittlelaw02.PartDoes", spec := "partDoes", named := ["math/bits.deBruijn64tab"], apart := false, laid := [("math/bits.deBruijn64tab", laid_math_bits_deBruijn64tab)], narrowed := true }
def PartDoesUptoSaid : Prop := partDoesUptoRow.holds Tryd.pinned (OpenSpec.upto partDoesSpec)

/-- 'whittlelaw02.PartSame', WHERE WHAT IT READS IS OF BULK AT MOST 1048576: true; the input reads as it did. -/
def partSameUptoRow : OpenClaim := { program := "ytbjgkolldmplkaadoor", sum := "522ff65328de9b1a18627c4b10f7ecb359f6b216cc3687aad048e775c71ee328", func := "whittle/whittlelaw02.PartSame", spec := "partSame", named := ["math/bits.deBruijn64tab"], apart := false, laid := [("math/bits.deBruijn64tab", laid_math_bits_deBruijn64tab)], narrowed := true }
def PartSameUptoSaid : Prop := partSameUptoRow.holds Tryd.pinned (OpenSpec.upto partSameSpec)

/-- 'whittlelaw02.PartMore', WHERE WHAT IT READS IS OF BULK AT MOST 1048576: true; the input reads as it did. -/
def partMoreUptoRow : OpenClaim := { program := "ytbjgkolldmplkaadoor", sum := "522ff65328de9b1a18627c4b10f7ecb359f6b216cc3687aad048e775c71ee328", func := "whittle/whittlelaw02.PartMore", spec := "partMore", named := ["math/bits.deBruijn64tab"], apart := false, laid := [("math/bits.deBruijn64tab", laid_math_bits_deBruijn64tab)], narrowed := true }
def PartMoreUptoSaid : Prop := partMoreUptoRow.holds Tryd.pinned (OpenSpec.upto partMoreSpec)

/-- 'whittlelaw01.SetTurns', WHERE WHAT IT READS IS OF BULK AT MOST 1048576: true; the input reads as it did. -/
def setTurnsUptoRow : OpenClaim := { program := "ytbjgkolldmplkaadoor", sum := "522ff65328de9b1a18627c4b10f7ecb359f6b216cc3687aad048e775c71ee328", func := "whittle/whittlelaw01.SetTurns", spec := "setTurns", unfollowed := true, recurses := true, named := ["math/bits.deBruijn64tab"], apart := false, laid := [("math/bits.deBruijn64tab", laid_math_bits_deBruijn64tab)], narrowed := true }
def SetTurnsUptoSaid : Prop := setTurnsUptoRow.holds Tryd.pinned (OpenSpec.upto setTurnsSpec)

/-- 'whittlelaw02.PartSets', WHERE WHAT IT READS IS OF BULK AT MOST 1048576: true; the input reads as it did. -/
def partSetsUptoRow : OpenClaim := { program := "ytbjgkolldmplkaadoor", sum := "522ff65328de9b1a18627c4b10f7ecb359f6b216cc3687aad048e775c71ee328", func := "whittle/whittlelaw02.PartSets", spec := "partSets", named := ["math/bits.deBruijn64tab"], apart := false, laid := [("math/bits.deBruijn64tab", laid_math_bits_deBruijn64tab)], narrowed := true }
def PartSetsUptoSaid : Prop := partSetsUptoRow.holds Tryd.pinned (OpenSpec.upto partSetsSpec)

/-- 'whittlelaw02.PartBack', WHERE WHAT IT READS IS OF BULK AT MOST 1048576: true; the input reads as it did. -/
def partBackUptoRow : OpenClaim := { program := "ytbjgkolldmplkaadoor", sum := "522ff65328de9b1a18627c4b10f7ecb359f6b216cc3687aad048e775c71ee328", func := "whittle/whittlelaw02.PartBack", spec := "partBack", named := ["math/bits.deBruijn64tab"], apart := false, laid := [("math/bits.deBruijn64tab", laid_math_bits_deBruijn64tab)], narrowed := true }
def PartBackUptoSaid : Prop := partBackUptoRow.holds Tryd.pinned (OpenSpec.upto partBackSpec)

end Rows
end Go.Proofs.YtbjgkolldmplkaaDoor
