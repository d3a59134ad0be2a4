/-
  No cell of these rows narrows 'for every input' (looked for: loops, veiled, ifaces, maps, wideKeys, modest, calm, conditions, laid).
  DERIVED. THE GIVEN ROWS OF THIS SEAT. 7 by the template 'for every input the law returns true; each argument reads behind the call as it read before'; 0 by the template 'total and deterministic' (their statements: YtbjgkolldmplkaaTotals.lean).
  GIVEN WITH THE SEED: the statements are not yours to turn. If you find one false, say at which input.
  Laid BY PROGRAM, IN A SANDBOX (cutbox-rows.mjs): the forced cells as the released guide's own fill.sh prints them over the translation 3394e431e13fcc74… (all of the seat's roots in one cut). By AI agents, Wed Nov 11 2026. No macro, syntax, notation, axiom, sorry.
-/
import Derived.Test.YtbjgkolldmplkaaChecked
import GoSem.Claim
import GoSem.ClaimJoined
import GoSem.ClaimMapViews
import Derived.JoinedTies
import Derived.KernelRfl
namespace Go.Proofs.Ytbjgkolldmplkaa
/- THE CELL 'sum', in the pinned program and in every row, IS THE sha256 OF THE DUMP (.gsa) THAT YtbjgkolldmplkaaProg.lean LOADS. Nothing in Lean hashes anything: it is a label: what it is worth is what the hold of that sum in a sandbox is worth. -/
noncomputable def Try.pinned : Pinned := { name := "ytbjgkolldmplkaa", sum := "3394e431e13fcc74914e501ebd3207a51d73878b67e3c285d45ef92b8efbe09c", checked := Try.checked }
namespace Rows
def none {H : Type} : Left H := { results := [], args := [] }

/-- 'whittlelaw01.SetMakes': WHATEVER THE INPUT: true; the input reads as it did. -/
def setMakesSpec : ChangeSpec := { name := "setMakes", fn := fun _ => fun
  | [d1, d2, d3, d4] => { results := [.lit (.bool true)], args := [d1, d2, d3, d4] }
  | _ => none }
def setMakesRow : OpenClaim := { program := "ytbjgkolldmplkaa", sum := "3394e431e13fcc74914e501ebd3207a51d73878b67e3c285d45ef92b8efbe09c", func := "whittle/whittlelaw01.SetMakes", spec := "setMakes", unfollowed := true, recurses := true, apart := false }
def SetMakesSaid : Prop := setMakesRow.holds Try.pinned (OpenSpec.ofChange setMakesSpec)

/-- ITS FALSE NEIGHBOUR: 'it returns false'. Refute it at one input. -/
def setMakesWrong : ChangeSpec := { name := "setMakes", fn := fun _ => fun
  | [d1, d2, d3, d4] => { results := [.lit (.bool false)], args := [d1, d2, d3, d4] }
  | _ => none }
def SetMakesWrongFalsely : Prop := setMakesRow.holds Try.pinned (OpenSpec.ofChange setMakesWrong)

/-- 'whittlelaw01.SetRows': WHATEVER THE INPUT: true; the input reads as it did. -/
def setRowsSpec : ChangeSpec := { name := "setRows", fn := fun _ => fun
  | [d1, d2, d3] => { results := [.lit (.bool true)], args := [d1, d2, d3] }
  | _ => none }
def setRowsRow : OpenClaim := { program := "ytbjgkolldmplkaa", sum := "3394e431e13fcc74914e501ebd3207a51d73878b67e3c285d45ef92b8efbe09c", func := "whittle/whittlelaw01.SetRows", spec := "setRows", unfollowed := true, recurses := true, apart := false }
def SetRowsSaid : Prop := setRowsRow.holds Try.pinned (OpenSpec.ofChange setRowsSpec)

/-- ITS FALSE NEIGHBOUR: 'it returns false'. Refute it at one input. -/
def setRowsWrong : ChangeSpec := { name := "setRows", fn := fun _ => fun
  | [d1, d2, d3] => { results := [.lit (.bool false)], args := [d1, d2, d3] }
  | _ => none }
def SetRowsWrongFalsely : Prop := setRowsRow.holds Try.pinned (OpenSpec.ofChange setRowsWrong)

/-- 'whittlelaw01.SetLaws': WHATEVER THE INPUT: true; the input reads as it did. -/
def setLawsSpec : ChangeSpec := { name := "setLaws", fn := fun _ => fun
  | [d1, d2] => { results := [.lit (.bool true)], args := [d1, d2] }
  | _ => none }
def setLawsRow : OpenClaim := { program := "ytbjgkolldmplkaa", sum := "3394e431e13fcc74914e501ebd3207a51d73878b67e3c285d45ef92b8efbe09c", func := "whittle/whittlelaw01.SetLaws", spec := "setLaws", unfollowed := true, recurses := true, apart := false }
def SetLawsSaid : Prop := setLawsRow.holds Try.pinned (OpenSpec.ofChange setLawsSpec)

/-- ITS FALSE NEIGHBOUR: 'it returns false'. Refute it at one input. -/
def setLawsWrong : ChangeSpec := { name := "setLaws", fn := fun _ => fun
  | [d1, d2] => { results := [.lit (.bool false)], args := [d1, d2] }
  | _ => none }
def SetLawsWrongFalsely : Prop := setLawsRow.holds Try.pinned (OpenSpec.ofChange setLawsWrong)

/-- 'whittlelaw06.LexWhite': WHATEVER THE INPUT: true; the input reads as it did. -/
def lexWhiteSpec : ChangeSpec := { name := "lexWhite", fn := fun _ => fun
  | [d1, d2, d3] => { results := [.lit (.bool true)], args := [d1, d2, d3] }
  | _ => none }
def lexWhiteRow : OpenClaim := { program := "ytbjgkolldmplkaa", sum := "3394e431e13fcc74914e501ebd3207a51d73878b67e3c285d45ef92b8efbe09c", func := "whittle/whittlelaw06.LexWhite", spec := "lexWhite", inPlace := ["internal/bytealg.IndexByteString"], apart := false }
def LexWhiteSaid : Prop := lexWhiteRow.holds Try.pinned (OpenSpec.ofChange lexWhiteSpec)

/-- ITS FALSE NEIGHBOUR: 'it returns false'. Refute it at one input. -/
def lexWhiteWrong : ChangeSpec := { name := "lexWhite", fn := fun _ => fun
  | [d1, d2, d3] => { results := [.lit (.bool false)], args := [d1, d2, d3] }
  | _ => none }
def LexWhiteWrongFalsely : Prop := lexWhiteRow.holds Try.pinned (OpenSpec.ofChange lexWhiteWrong)

/-- 'whittlelaw06.LexJoin': WHATEVER THE INPUT: true; the input reads as it did. -/
def lexJoinSpec : ChangeSpec := { name := "lexJoin", fn := fun _ => fun
  | [d1, d2] => { results := [.lit (.bool true)], args := [d1, d2] }
  | _ => none }
def lexJoinRow : OpenClaim := { program := "ytbjgkolldmplkaa", sum := "3394e431e13fcc74914e501ebd3207a51d73878b67e3c285d45ef92b8efbe09c", func := "whittle/whittlelaw06.LexJoin", spec := "lexJoin", inPlace := ["internal/bytealg.IndexByteString"], apart := false }
def LexJoinSaid : Prop := lexJoinRow.holds Try.pinned (OpenSpec.ofChange lexJoinSpec)

/-- ITS FALSE NEIGHBOUR: 'it returns false'. Refute it at one input. -/
def lexJoinWrong : ChangeSpec := { name := "lexJoin", fn := fun _ => fun
  | [d1, d2] => { results := [.lit (.bool false)], args := [d1, d2] }
  | _ => none }
def LexJoinWrongFalsely : Prop := lexJoinRow.holds Try.pinned (OpenSpec.ofChange lexJoinWrong)

/-- 'whittlelaw06.LexShows': WHATEVER THE INPUT: true; the input reads as it did. -/
def lexShowsSpec : ChangeSpec := { name := "lexShows", fn := fun _ => fun
  | [d1, d2] => { results := [.lit (.bool true)], args := [d1, d2] }
  | _ => none }
def lexShowsRow : OpenClaim := { program := "ytbjgkolldmplkaa", sum := "3394e431e13fcc74914e501ebd3207a51d73878b67e3c285d45ef92b8efbe09c", func := "whittle/whittlelaw06.LexShows", spec := "lexShows", inPlace := ["internal/bytealg.IndexByteString"], unfollowed := true, recurses := true, apart := false }
def LexShowsSaid : Prop := lexShowsRow.holds Try.pinned (OpenSpec.ofChange lexShowsSpec)

/-- ITS FALSE NEIGHBOUR: 'it returns false'. Refute it at one input. -/
def lexShowsWrong : ChangeSpec := { name := "lexShows", fn := fun _ => fun
  | [d1, d2] => { results := [.lit (.bool false)], args := [d1, d2] }
  | _ => none }
def LexShowsWrongFalsely : Prop := lexShowsRow.holds Try.pinned (OpenSpec.ofChange lexShowsWrong)

/-- 'whittlelaw06.LexBack': WHATEVER THE INPUT: true; the input reads as it did. -/
def lexBackSpec : ChangeSpec := { name := "lexBack", fn := fun _ => fun
  | [d1, d2, d3] => { results := [.lit (.bool true)], args := [d1, d2, d3] }
  | _ => none }
def lexBackRow : OpenClaim := { program := "ytbjgkolldmplkaa", sum := "3394e431e13fcc74914e501ebd3207a51d73878b67e3c285d45ef92b8efbe09c", func := "whittle/whittlelaw06.LexBack", spec := "lexBack", inPlace := ["internal/bytealg.IndexByteString"], unfollowed := true, recurses := true, apart := false }
def LexBackSaid : Prop := lexBackRow.holds Try.pinned (OpenSpec.ofChange lexBackSpec)

/-- ITS FALSE NEIGHBOUR: 'it returns false'. Refute it at one input. -/
def lexBackWrong : ChangeSpec := { name := "lexBack", fn := fun _ => fun
  | [d1, d2, d3] => { results := [.lit (.bool false)], args := [d1, d2, d3] }
  | _ => none }
def LexBackWrongFalsely : Prop := lexBackRow.holds Try.pinned (OpenSpec.ofChange lexBackWrong)

/- THE SECOND FORM. 'bulk': how many values and letters a reading holds, each counted each time it is reached (what is shared counts as often as it is met; a slice's spare places count too). A statement '..UptoSaid' is the law's where the arguments, and the package variables that the reading takes, are together of bulk at most 1048576: NARROWER than '..Said'. Prove '..Said' where nothing that the law and all that it calls make is longer than what came in: it says more and counts as full. Else prove '..UptoSaid'. A law counts once. -/
mutual
def uptoBulk {H : Type} : DataW H → Nat
  | .lit (.string bytes) => bytes.length + 1
  | .lit _ => 1
  | .nil => 1
  | .ptr d => uptoBulk d + 1
  | .slice elems spare => uptoBulkAll elems + uptoBulkAll spare + 1
  | .agg parts => uptoBulkAll parts + 1
  | .iface _ d => uptoBulk d + 1
  | .map entries => uptoBulkEntries entries + 1
  | .held _ => 1
def uptoBulkAll {H : Type} : List (DataW H) → Nat
  | [] => 0
  | d :: r => uptoBulk d + uptoBulkAll r
def uptoBulkEntries {H : Type} : List (Lit × DataW H) → Nat
  | [] => 0
  | x :: r => uptoBulkEntry x + uptoBulkEntries r
def uptoBulkEntry {H : Type} : Lit × DataW H → Nat
  | (.string bytes, d) => bytes.length + uptoBulk d + 1
  | (_, d) => uptoBulk d + 1
 end
def uptoSmall : (H : Type) → List (DataW H) → Bool := fun _ ds => decide (uptoBulkAll ds ≤ 1048576)
def OpenSpec.upto (s : _root_.Go.ChangeSpec) : _root_.Go.OpenSpec := { _root_.Go.OpenSpec.ofChange s with cond := some uptoSmall }

/-- 'whittlelaw01.SetMakes', WHERE WHAT IT READS IS OF BULK AT MOST 1048576: true; the input reads as it did. -/
def setMakesUptoRow : OpenClaim := { program := "ytbjgkolldmplkaa", sum := "3394e431e13fcc74914e501ebd3207a51d73878b67e3c285d45ef92b8efbe09c", func := "whittle/whittlelaw01.SetMakes", spec := "setMakes", unfollowed := true, recurses := true, apart := false, narrowed := true }
def SetMakesUptoSaid : Prop := setMakesUptoRow.holds Try.pinned (OpenSpec.upto setMakesSpec)

/-- 'whittlelaw01.SetRows', WHERE WHAT IT READS IS OF BULK AT MOST 1048576: true; the input reads as it did. -/
def setRowsUptoRow : OpenClaim := { program := "ytbjgkolldmplkaa", sum := "3394e431e13fcc74914e501ebd3207a51d73878b67e3c285d45ef92b8efbe09c", func := "whittle/whittlelaw01.SetRows", spec := "setRows", unfollowed := true, recurses := true, apart := false, narrowed := true }
def SetRowsUptoSaid : Prop := setRowsUptoRow.holds Try.pinned (OpenSpec.upto setRowsSpec)

/-- 'whittlelaw01.SetLaws', WHERE WHAT IT READS IS OF BULK AT MOST 1048576: true; the input reads as it did. -/
def setLawsUptoRow : OpenClaim := { program := "ytbjgkolldmplkaa", sum := "3394e431e13fcc74914e501ebd3207a51d73878b67e3c285d45ef92b8efbe09c", func := "whittle/whittlelaw01.SetLaws", spec := "setLaws", unfollowed := true, recurses := true, apart := false, narrowed := true }
def SetLawsUptoSaid : Prop := setLawsUptoRow.holds Try.pinned (OpenSpec.upto setLawsSpec)

/-- 'whittlelaw06.LexWhite', WHERE WHAT IT READS IS OF BULK AT MOST 1048576: true; the input reads as it did. -/
def lexWhiteUptoRow : OpenClaim := { program := "ytbjgkolldmplkaa", sum := "3394e431e13fcc74914e501ebd3207a51d73878b67e3c285d45ef92b8efbe09c", func := "whittle/whittlelaw06.LexWhite", spec := "lexWhite", inPlace := ["internal/bytealg.IndexByteString"], apart := false, narrowed := true }
def LexWhiteUptoSaid : Prop := lexWhiteUptoRow.holds Try.pinned (OpenSpec.upto lexWhiteSpec)

/-- 'whittlelaw06.LexJoin', WHERE WHAT IT READS IS OF BULK AT MOST 1048576: true; the input reads as it did. -/
def lexJoinUptoRow : OpenClaim := { program := "ytbjgkolldmplkaa", sum := "3394e431e13fcc74914e501ebd3207a51d73878b67e3c285d45ef92b8efbe09c", func := "whittle/whittlelaw06.LexJoin", spec := "lexJoin", inPlace := ["internal/bytealg.IndexByteString"], apart := false, narrowed := true }
def LexJoinUptoSaid : Prop := lexJoinUptoRow.holds Try.pinned (OpenSpec.upto lexJoinSpec)

/-- 'whittlelaw06.LexShows', WHERE WHAT IT READS IS OF BULK AT MOST 1048576: true; the input reads as it did. -/
def lexShowsUptoRow : OpenClaim := { program := "ytbjgkolldmplkaa", sum := "3394e431e13fcc74914e501ebd3207a51d73878b67e3c285d45ef92b8efbe09c", func := "whittle/whittlelaw06.LexShows", spec := "lexShows", inPlace := ["internal/bytealg.IndexByteString"], unfollowed := true, recurses := true, apart := false, narrowed := true }
def LexShowsUptoSaid : Prop := lexShowsUptoRow.holds Try.pinned (OpenSpec.upto lexShowsSpec)

/-- 'whittlelaw06.LexBack', WHERE WHAT IT READS IS OF BULK AT MOST 1048576: true; the input reads as it did. -/
def lexBackUptoRow : OpenClaim := { program := "ytbjgkolldmplkaa", sum := "3394e431e13fcc74914e501ebd3207a51d73878b67e3c285d45ef92b8efbe09c", func := "whittle/whittlelaw06.LexBack", spec := "lexBack", inPlace := ["internal/bytealg.IndexByteString"], unfollowed := true, recurses := true, apart := false, narrowed := true }
def LexBackUptoSaid : Prop := lexBackUptoRow.holds Try.pinned (OpenSpec.upto lexBackSpec)

end Rows
end Go.Proofs.Ytbjgkolldmplkaa
