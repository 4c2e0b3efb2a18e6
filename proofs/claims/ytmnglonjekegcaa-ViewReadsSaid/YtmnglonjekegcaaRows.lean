/-
  No cell of these rows narrows 'for every input' (looked for: loops, veiled, ifaces, maps, wideKeys, modest, calm, conditions, laid).
  DERIVED. THE GIVEN ROWS OF THIS SEAT. 6 by the template 'for every input the law returns true; each argument reads behind the call as it read before'; 0 by the template 'total and deterministic' (their statements: YtmnglonjekegcaaTotals.lean).
  GIVEN WITH THE SEED: the statements are not yours to turn. If you find one false, say at which input.
  Laid BY PROGRAM, IN A SANDBOX (cutbox-rows.mjs): the forced cells as the released guide's own fill.sh prints them over the translation 8fe9c544343c8a2e… (all of the seat's roots in one cut). By AI agents, Wed Nov 11 2026. No macro, syntax, notation, axiom, sorry.
-/
import Derived.Test.YtmnglonjekegcaaChecked
import GoSem.Claim
import GoSem.ClaimJoined
import GoSem.ClaimMapViews
import Derived.JoinedTies
import Derived.KernelRfl
namespace Go.Proofs.Ytmnglonjekegcaa
/- THE CELL 'sum', in the pinned program and in every row, IS THE sha256 OF THE DUMP (.gsa) THAT YtmnglonjekegcaaProg.lean LOADS. Nothing in Lean hashes anything: it is a label: what it is worth is what the hold of that sum in a sandbox is worth. -/
noncomputable def Try.pinned : Pinned := { name := "ytmnglonjekegcaa", sum := "8fe9c544343c8a2ec9e910ea19c6c905e366d5f181673b28213f3ccef99d1bb0", checked := Try.checked }
namespace Rows
def none {H : Type} : Left H := { results := [], args := [] }

/-- 'tidemilllaw11.ViewReads': WHATEVER THE INPUT: true; the input reads as it did. -/
def viewReadsSpec : ChangeSpec := { name := "viewReads", fn := fun _ => fun
  | [d] => { results := [.lit (.bool true)], args := [d] }
  | _ => none }
def viewReadsRow : OpenClaim := { program := "ytmnglonjekegcaa", sum := "8fe9c544343c8a2ec9e910ea19c6c905e366d5f181673b28213f3ccef99d1bb0", func := "tidemill/tidemilllaw11.ViewReads", spec := "viewReads", recurses := true, apart := false }
def ViewReadsSaid : Prop := viewReadsRow.holds Try.pinned (OpenSpec.ofChange viewReadsSpec)

/-- ITS FALSE NEIGHBOUR: 'it returns false'. Refute it at one input. -/
def viewReadsWrong : ChangeSpec := { name := "viewReads", fn := fun _ => fun
  | [d] => { results := [.lit (.bool false)], args := [d] }
  | _ => none }
def ViewReadsWrongFalsely : Prop := viewReadsRow.holds Try.pinned (OpenSpec.ofChange viewReadsWrong)

/-- 'tidemilllaw11.ViewGrows': WHATEVER THE INPUT: true; the input reads as it did. -/
def viewGrowsSpec : ChangeSpec := { name := "viewGrows", fn := fun _ => fun
  | [d1, d2] => { results := [.lit (.bool true)], args := [d1, d2] }
  | _ => none }
def viewGrowsRow : OpenClaim := { program := "ytmnglonjekegcaa", sum := "8fe9c544343c8a2ec9e910ea19c6c905e366d5f181673b28213f3ccef99d1bb0", func := "tidemill/tidemilllaw11.ViewGrows", spec := "viewGrows", recurses := true, apart := false }
def ViewGrowsSaid : Prop := viewGrowsRow.holds Try.pinned (OpenSpec.ofChange viewGrowsSpec)

/-- ITS FALSE NEIGHBOUR: 'it returns false'. Refute it at one input. -/
def viewGrowsWrong : ChangeSpec := { name := "viewGrows", fn := fun _ => fun
  | [d1, d2] => { results := [.lit (.bool false)], args := [d1, d2] }
  | _ => none }
def ViewGrowsWrongFalsely : Prop := viewGrowsRow.holds Try.pinned (OpenSpec.ofChange viewGrowsWrong)

/-- 'tidemilllaw11.ViewFences': WHATEVER THE INPUT: true; the input reads as it did. -/
def viewFencesSpec : ChangeSpec := { name := "viewFences", fn := fun _ => fun
  | [d1, d2, d3, d4] => { results := [.lit (.bool true)], args := [d1, d2, d3, d4] }
  | _ => none }
def viewFencesRow : OpenClaim := { program := "ytmnglonjekegcaa", sum := "8fe9c544343c8a2ec9e910ea19c6c905e366d5f181673b28213f3ccef99d1bb0", func := "tidemill/tidemilllaw11.ViewFences", spec := "viewFences", recurses := true, apart := false }
def ViewFencesSaid : Prop := viewFencesRow.holds Try.pinned (OpenSpec.ofChange viewFencesSpec)

/-- ITS FALSE NEIGHBOUR: 'it returns false'. Refute it at one input. -/
def viewFencesWrong : ChangeSpec := { name := "viewFences", fn := fun _ => fun
  | [d1, d2, d3, d4] => { results := [.lit (.bool false)], args := [d1, d2, d3, d4] }
  | _ => none }
def ViewFencesWrongFalsely : Prop := viewFencesRow.holds Try.pinned (OpenSpec.ofChange viewFencesWrong)

/-- 'tidemilllaw11.ViewAtoms': WHATEVER THE INPUT: true; the input reads as it did. -/
def viewAtomsSpec : ChangeSpec := { name := "viewAtoms", fn := fun _ => fun
  | [d1, d2, d3, d4] => { results := [.lit (.bool true)], args := [d1, d2, d3, d4] }
  | _ => none }
def viewAtomsRow : OpenClaim := { program := "ytmnglonjekegcaa", sum := "8fe9c544343c8a2ec9e910ea19c6c905e366d5f181673b28213f3ccef99d1bb0", func := "tidemill/tidemilllaw11.ViewAtoms", spec := "viewAtoms", recurses := true, apart := false }
def ViewAtomsSaid : Prop := viewAtomsRow.holds Try.pinned (OpenSpec.ofChange viewAtomsSpec)

/-- ITS FALSE NEIGHBOUR: 'it returns false'. Refute it at one input. -/
def viewAtomsWrong : ChangeSpec := { name := "viewAtoms", fn := fun _ => fun
  | [d1, d2, d3, d4] => { results := [.lit (.bool false)], args := [d1, d2, d3, d4] }
  | _ => none }
def ViewAtomsWrongFalsely : Prop := viewAtomsRow.holds Try.pinned (OpenSpec.ofChange viewAtomsWrong)

/-- 'tidemilllaw11.ViewOrder': WHATEVER THE INPUT: true; the input reads as it did. -/
def viewOrderSpec : ChangeSpec := { name := "viewOrder", fn := fun _ => fun
  | [d1, d2] => { results := [.lit (.bool true)], args := [d1, d2] }
  | _ => none }
def viewOrderRow : OpenClaim := { program := "ytmnglonjekegcaa", sum := "8fe9c544343c8a2ec9e910ea19c6c905e366d5f181673b28213f3ccef99d1bb0", func := "tidemill/tidemilllaw11.ViewOrder", spec := "viewOrder", recurses := true, apart := false }
def ViewOrderSaid : Prop := viewOrderRow.holds Try.pinned (OpenSpec.ofChange viewOrderSpec)

/-- ITS FALSE NEIGHBOUR: 'it returns false'. Refute it at one input. -/
def viewOrderWrong : ChangeSpec := { name := "viewOrder", fn := fun _ => fun
  | [d1, d2] => { results := [.lit (.bool false)], args := [d1, d2] }
  | _ => none }
def ViewOrderWrongFalsely : Prop := viewOrderRow.holds Try.pinned (OpenSpec.ofChange viewOrderWrong)

/-- 'tidemilllaw11.ViewInputs': WHATEVER THE INPUT: true; the input reads as it did. -/
def viewInputsSpec : ChangeSpec := { name := "viewInputs", fn := fun _ => fun
  | [d1, d2, d3] => { results := [.lit (.bool true)], args := [d1, d2, d3] }
  | _ => none }
def viewInputsRow : OpenClaim := { program := "ytmnglonjekegcaa", sum := "8fe9c544343c8a2ec9e910ea19c6c905e366d5f181673b28213f3ccef99d1bb0", func := "tidemill/tidemilllaw11.ViewInputs", spec := "viewInputs", recurses := true, apart := false }
def ViewInputsSaid : Prop := viewInputsRow.holds Try.pinned (OpenSpec.ofChange viewInputsSpec)

/-- ITS FALSE NEIGHBOUR: 'it returns false'. Refute it at one input. -/
def viewInputsWrong : ChangeSpec := { name := "viewInputs", fn := fun _ => fun
  | [d1, d2, d3] => { results := [.lit (.bool false)], args := [d1, d2, d3] }
  | _ => none }
def ViewInputsWrongFalsely : Prop := viewInputsRow.holds Try.pinned (OpenSpec.ofChange viewInputsWrong)

/- THE SECOND FORM. 'bulk': how many values and letters a reading holds, each counted each time it is reached (what is shared counts as often as it is met; a slice's spare places count too). A statement '..UptoSaid' is the law's where the arguments, and the package variables that the reading takes, are together of bulk at most 1048576: NARROWER than '..Said'. Prove '..Said' where nothing that the law and all that it calls make is longer than what came in: it says more and counts as full. Else prove '..UptoSaid'. A law counts once. -/
mutual
def uptoBulk {H : Type} : DataW H → Nat
  | .lit (.string bytes) => bytes.length + 1
  | .lit _ => 1
  | .nil => 1
  | .ptr d => uptoBulk d + 1
  | .slice elems spare => uptoBulkAll elems + uptoBulkAll spare + 1
  | .agg parts => uptoBulkAll parts + 1
  | .iface _ d => uptoBulk d + 1
  | .map entries => uptoBulkEntries entries + 1
  | .held _ => 1
def uptoBulkAll {H : Type} : List (DataW H) → Nat
  | [] => 0
  | d :: r => uptoBulk d + uptoBulkAll r
def uptoBulkEntries {H : Type} : List (Lit × DataW H) → Nat
  | [] => 0
  | x :: r => uptoBulkEntry x + uptoBulkEntries r
def uptoBulkEntry {H : Type} : Lit × DataW H → Nat
  | (.string bytes, d) => bytes.length + uptoBulk d + 1
  | (_, d) => uptoBulk d + 1
 end
def uptoSmall : (H : Type) → List (DataW H) → Bool := fun _ ds => decide (uptoBulkAll ds ≤ 1048576)
def OpenSpec.upto (s : _root_.Go.ChangeSpec) : _root_.Go.OpenSpec := { _root_.Go.OpenSpec.ofChange s with cond := some uptoSmall }

/-- 'tidemilllaw11.ViewReads', WHERE WHAT IT READS IS OF BULK AT MOST 1048576: true; the input reads as it did. -/
def viewReadsUptoRow : OpenClaim := { program := "ytmnglonjekegcaa", sum := "8fe9c544343c8a2ec9e910ea19c6c905e366d5f181673b28213f3ccef99d1bb0", func := "tidemill/tidemilllaw11.ViewReads", spec := "viewReads", recurses := true, apart := false, narrowed := true }
def ViewReadsUptoSaid : Prop := viewReadsUptoRow.holds Try.pinned (OpenSpec.upto viewReadsSpec)

/-- 'tidemilllaw11.ViewGrows', WHERE WHAT IT READS IS OF BULK AT MOST 1048576: true; the input reads as it did. -/
def viewGrowsUptoRow : OpenClaim := { program := "ytmnglonjekegcaa", sum := "8fe9c544343c8a2ec9e910ea19c6c905e366d5f181673b28213f3ccef99d1bb0", func := "tidemill/tidemilllaw11.ViewGrows", spec := "viewGrows", recurses := true, apart := false, narrowed := true }
def ViewGrowsUptoSaid : Prop := viewGrowsUptoRow.holds Try.pinned (OpenSpec.upto viewGrowsSpec)

/-- 'tidemilllaw11.ViewFences', WHERE WHAT IT READS IS OF BULK AT MOST 1048576: true; the input reads as it did. -/
def viewFencesUptoRow : OpenClaim := { program := "ytmnglonjekegcaa", sum := "8fe9c544343c8a2ec9e910ea19c6c905e366d5f181673b28213f3ccef99d1bb0", func := "tidemill/tidemilllaw11.ViewFences", spec := "viewFences", recurses := true, apart := false, narrowed := true }
def ViewFencesUptoSaid : Prop := viewFencesUptoRow.holds Try.pinned (OpenSpec.upto viewFencesSpec)

/-- 'tidemilllaw11.ViewAtoms', WHERE WHAT IT READS IS OF BULK AT MOST 1048576: true; the input reads as it did. -/
def viewAtomsUptoRow : OpenClaim := { program := "ytmnglonjekegcaa", sum := "8fe9c544343c8a2ec9e910ea19c6c905e366d5f181673b28213f3ccef99d1bb0", func := "tidemill/tidemilllaw11.ViewAtoms", spec := "viewAtoms", recurses := true, apart := false, narrowed := true }
def ViewAtomsUptoSaid : Prop := viewAtomsUptoRow.holds Try.pinned (OpenSpec.upto viewAtomsSpec)

/-- 'tidemilllaw11.ViewOrder', WHERE WHAT IT READS IS OF BULK AT MOST 1048576: true; the input reads as it did. -/
def viewOrderUptoRow : OpenClaim := { program := "ytmnglonjekegcaa", sum := "8fe9c544343c8a2ec9e910ea19c6c905e366d5f181673b28213f3ccef99d1bb0", func := "tidemill/tidemilllaw11.ViewOrder", spec := "viewOrder", recurses := true, apart := false, narrowed := true }
def ViewOrderUptoSaid : Prop := viewOrderUptoRow.holds Try.pinned (OpenSpec.upto viewOrderSpec)

/-- 'tidemilllaw11.ViewInputs', WHERE WHAT IT READS IS OF BULK AT MOST 1048576: true; the input reads as it did. -/
def viewInputsUptoRow : OpenClaim := { program := "ytmnglonjekegcaa", sum := "8fe9c544343c8a2ec9e910ea19c6c905e366d5f181673b28213f3ccef99d1bb0", func := "tidemill/tidemilllaw11.ViewInputs", spec := "viewInputs", recurses := true, apart := false, narrowed := true }
def ViewInputsUptoSaid : Prop := viewInputsUptoRow.holds Try.pinned (OpenSpec.upto viewInputsSpec)

end Rows
end Go.Proofs.Ytmnglonjekegcaa
