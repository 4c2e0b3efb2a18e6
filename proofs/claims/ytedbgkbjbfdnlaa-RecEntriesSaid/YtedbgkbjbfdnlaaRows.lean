/-
  No cell of these rows narrows 'for every input' (looked for: loops, veiled, ifaces, maps, wideKeys, modest, calm, conditions, laid).
  DERIVED. THE GIVEN ROWS OF THIS SEAT. 6 by the template 'for every input the law returns true; each argument reads behind the call as it read before'; 0 by the template 'total and deterministic' (their statements: YtedbgkbjbfdnlaaTotals.lean).
  GIVEN WITH THE SEED: the statements are not yours to turn. If you find one false, say at which input.
  Laid BY PROGRAM, IN A SANDBOX (cutbox-rows.mjs): the forced cells as the released guide's own fill.sh prints them over the translation c6256b8b5653d823… (all of the seat's roots in one cut). By AI agents, Wed Nov 11 2026. No macro, syntax, notation, axiom, sorry.
-/
import Derived.Test.YtedbgkbjbfdnlaaChecked
import GoSem.Claim
import GoSem.ClaimJoined
import GoSem.ClaimMapViews
import Derived.JoinedTies
import Derived.KernelRfl
namespace Go.Proofs.Ytedbgkbjbfdnlaa
/- THE CELL 'sum', in the pinned program and in every row, IS THE sha256 OF THE DUMP (.gsa) THAT YtedbgkbjbfdnlaaProg.lean LOADS. Nothing in Lean hashes anything: it is a label: what it is worth is what the hold of that sum in a sandbox is worth. -/
noncomputable def Try.pinned : Pinned := { name := "ytedbgkbjbfdnlaa", sum := "c6256b8b5653d823e7cea7a494d9291cd1c9be73a916be7ff21800501cb280ee", checked := Try.checked }
namespace Rows
def none {H : Type} : Left H := { results := [], args := [] }

/-- 'tidemilllaw03.RecKinds': WHATEVER THE INPUT: true; the input reads as it did. -/
def recKindsSpec : ChangeSpec := { name := "recKinds", fn := fun _ => fun
  | [d] => { results := [.lit (.bool true)], args := [d] }
  | _ => none }
def recKindsRow : OpenClaim := { program := "ytedbgkbjbfdnlaa", sum := "c6256b8b5653d823e7cea7a494d9291cd1c9be73a916be7ff21800501cb280ee", func := "tidemill/tidemilllaw03.RecKinds", spec := "recKinds", apart := false }
def RecKindsSaid : Prop := recKindsRow.holds Try.pinned (OpenSpec.ofChange recKindsSpec)

/-- ITS FALSE NEIGHBOUR: 'it returns false'. Refute it at one input. -/
def recKindsWrong : ChangeSpec := { name := "recKinds", fn := fun _ => fun
  | [d] => { results := [.lit (.bool false)], args := [d] }
  | _ => none }
def RecKindsWrongFalsely : Prop := recKindsRow.holds Try.pinned (OpenSpec.ofChange recKindsWrong)

/-- 'tidemilllaw03.RecFences': WHATEVER THE INPUT: true; the input reads as it did. -/
def recFencesSpec : ChangeSpec := { name := "recFences", fn := fun _ => fun
  | [d1, d2, d3] => { results := [.lit (.bool true)], args := [d1, d2, d3] }
  | _ => none }
def recFencesRow : OpenClaim := { program := "ytedbgkbjbfdnlaa", sum := "c6256b8b5653d823e7cea7a494d9291cd1c9be73a916be7ff21800501cb280ee", func := "tidemill/tidemilllaw03.RecFences", spec := "recFences", apart := false }
def RecFencesSaid : Prop := recFencesRow.holds Try.pinned (OpenSpec.ofChange recFencesSpec)

/-- ITS FALSE NEIGHBOUR: 'it returns false'. Refute it at one input. -/
def recFencesWrong : ChangeSpec := { name := "recFences", fn := fun _ => fun
  | [d1, d2, d3] => { results := [.lit (.bool false)], args := [d1, d2, d3] }
  | _ => none }
def RecFencesWrongFalsely : Prop := recFencesRow.holds Try.pinned (OpenSpec.ofChange recFencesWrong)

/-- 'tidemilllaw03.RecRecords': WHATEVER THE INPUT: true; the input reads as it did. -/
def recRecordsSpec : ChangeSpec := { name := "recRecords", fn := fun _ => fun
  | [d1, d2] => { results := [.lit (.bool true)], args := [d1, d2] }
  | _ => none }
def recRecordsRow : OpenClaim := { program := "ytedbgkbjbfdnlaa", sum := "c6256b8b5653d823e7cea7a494d9291cd1c9be73a916be7ff21800501cb280ee", func := "tidemill/tidemilllaw03.RecRecords", spec := "recRecords", apart := false }
def RecRecordsSaid : Prop := recRecordsRow.holds Try.pinned (OpenSpec.ofChange recRecordsSpec)

/-- ITS FALSE NEIGHBOUR: 'it returns false'. Refute it at one input. -/
def recRecordsWrong : ChangeSpec := { name := "recRecords", fn := fun _ => fun
  | [d1, d2] => { results := [.lit (.bool false)], args := [d1, d2] }
  | _ => none }
def RecRecordsWrongFalsely : Prop := recRecordsRow.holds Try.pinned (OpenSpec.ofChange recRecordsWrong)

/-- 'tidemilllaw03.RecEntries': WHATEVER THE INPUT: true; the input reads as it did. -/
def recEntriesSpec : ChangeSpec := { name := "recEntries", fn := fun _ => fun
  | [d1, d2] => { results := [.lit (.bool true)], args := [d1, d2] }
  | _ => none }
def recEntriesRow : OpenClaim := { program := "ytedbgkbjbfdnlaa", sum := "c6256b8b5653d823e7cea7a494d9291cd1c9be73a916be7ff21800501cb280ee", func := "tidemill/tidemilllaw03.RecEntries", spec := "recEntries", apart := false }
def RecEntriesSaid : Prop := recEntriesRow.holds Try.pinned (OpenSpec.ofChange recEntriesSpec)

/-- ITS FALSE NEIGHBOUR: 'it returns false'. Refute it at one input. -/
def recEntriesWrong : ChangeSpec := { name := "recEntries", fn := fun _ => fun
  | [d1, d2] => { results := [.lit (.bool false)], args := [d1, d2] }
  | _ => none }
def RecEntriesWrongFalsely : Prop := recEntriesRow.holds Try.pinned (OpenSpec.ofChange recEntriesWrong)

/-- 'tidemilllaw03.RecBack': WHATEVER THE INPUT: true; the input reads as it did. -/
def recBackSpec : ChangeSpec := { name := "recBack", fn := fun _ => fun
  | [d1, d2, d3] => { results := [.lit (.bool true)], args := [d1, d2, d3] }
  | _ => none }
def recBackRow : OpenClaim := { program := "ytedbgkbjbfdnlaa", sum := "c6256b8b5653d823e7cea7a494d9291cd1c9be73a916be7ff21800501cb280ee", func := "tidemill/tidemilllaw03.RecBack", spec := "recBack", apart := false }
def RecBackSaid : Prop := recBackRow.holds Try.pinned (OpenSpec.ofChange recBackSpec)

/-- ITS FALSE NEIGHBOUR: 'it returns false'. Refute it at one input. -/
def recBackWrong : ChangeSpec := { name := "recBack", fn := fun _ => fun
  | [d1, d2, d3] => { results := [.lit (.bool false)], args := [d1, d2, d3] }
  | _ => none }
def RecBackWrongFalsely : Prop := recBackRow.holds Try.pinned (OpenSpec.ofChange recBackWrong)

/-- 'tidemilllaw03.RecOnes': WHATEVER THE INPUT: true; the input reads as it did. -/
def recOnesSpec : ChangeSpec := { name := "recOnes", fn := fun _ => fun
  | [d] => { results := [.lit (.bool true)], args := [d] }
  | _ => none }
def recOnesRow : OpenClaim := { program := "ytedbgkbjbfdnlaa", sum := "c6256b8b5653d823e7cea7a494d9291cd1c9be73a916be7ff21800501cb280ee", func := "tidemill/tidemilllaw03.RecOnes", spec := "recOnes", apart := false }
def RecOnesSaid : Prop := recOnesRow.holds Try.pinned (OpenSpec.ofChange recOnesSpec)

/-- ITS FALSE NEIGHBOUR: 'it returns false'. Refute it at one input. -/
def recOnesWrong : ChangeSpec := { name := "recOnes", fn := fun _ => fun
  | [d] => { results := [.lit (.bool false)], args := [d] }
  | _ => none }
def RecOnesWrongFalsely : Prop := recOnesRow.holds Try.pinned (OpenSpec.ofChange recOnesWrong)

/- THE SECOND FORM. 'bulk': how many values and letters a reading holds, each counted each time it is reached (what is shared counts as often as it is met; a slice's spare places count too). A statement '..UptoSaid' is the law's where the arguments, and the package variables that the reading takes, are together of bulk at most 1048576: NARROWER than '..Said'. Prove '..Said' where nothing that the law and all that it calls make is longer than what came in: it says more and counts as full. Else prove '..UptoSaid'. A law counts once. -/
mutual
def uptoBulk {H : Type} : DataW H → Nat
  | .lit (.string bytes) => bytes.length + 1
  | .lit _ => 1
  | .nil => 1
  | .ptr d => uptoBulk d + 1
  | .slice elems spare => uptoBulkAll elems + uptoBulkAll spare + 1
  | .agg parts => uptoBulkAll parts + 1
  | .iface _ d => uptoBulk d + 1
  | .map entries => uptoBulkEntries entries + 1
  | .held _ => 1
def uptoBulkAll {H : Type} : List (DataW H) → Nat
  | [] => 0
  | d :: r => uptoBulk d + uptoBulkAll r
def uptoBulkEntries {H : Type} : List (Lit × DataW H) → Nat
  | [] => 0
  | x :: r => uptoBulkEntry x + uptoBulkEntries r
def uptoBulkEntry {H : Type} : Lit × DataW H → Nat
  | (.string bytes, d) => bytes.length + uptoBulk d + 1
  | (_, d) => uptoBulk d + 1
 end
def uptoSmall : (H : Type) → List (DataW H) → Bool := fun _ ds => decide (uptoBulkAll ds ≤ 1048576)
def OpenSpec.upto (s : _root_.Go.ChangeSpec) : _root_.Go.OpenSpec := { _root_.Go.OpenSpec.ofChange s with cond := some uptoSmall }

/-- 'tidemilllaw03.RecKinds', WHERE WHAT IT READS IS OF BULK AT MOST 1048576: true; the input reads as it did. -/
def recKindsUptoRow : OpenClaim := { program := "ytedbgkbjbfdnlaa", sum := "c6256b8b5653d823e7cea7a494d9291cd1c9be73a916be7ff21800501cb280ee", func := "tidemill/tidemilllaw03.RecKinds", spec := "recKinds", apart := false, narrowed := true }
def RecKindsUptoSaid : Prop := recKindsUptoRow.holds Try.pinned (OpenSpec.upto recKindsSpec)

/-- 'tidemilllaw03.RecFences', WHERE WHAT IT READS IS OF BULK AT MOST 1048576: true; the input reads as it did. -/
def recFencesUptoRow : OpenClaim := { program := "ytedbgkbjbfdnlaa", sum := "c6256b8b5653d823e7cea7a494d9291cd1c9be73a916be7ff21800501cb280ee", func := "tidemill/tidemilllaw03.RecFences", spec := "recFences", apart := false, narrowed := true }
def RecFencesUptoSaid : Prop := recFencesUptoRow.holds Try.pinned (OpenSpec.upto recFencesSpec)

/-- 'tidemilllaw03.RecRecords', WHERE WHAT IT READS IS OF BULK AT MOST 1048576: true; the input reads as it did. -/
def recRecordsUptoRow : OpenClaim := { program := "ytedbgkbjbfdnlaa", sum := "c6256b8b5653d823e7cea7a494d9291cd1c9be73a916be7ff21800501cb280ee", func := "tidemill/tidemilllaw03.RecRecords", spec := "recRecords", apart := false, narrowed := true }
def RecRecordsUptoSaid : Prop := recRecordsUptoRow.holds Try.pinned (OpenSpec.upto recRecordsSpec)

/-- 'tidemilllaw03.RecEntries', WHERE WHAT IT READS IS OF BULK AT MOST 1048576: true; the input reads as it did. -/
def recEntriesUptoRow : OpenClaim := { program := "ytedbgkbjbfdnlaa", sum := "c6256b8b5653d823e7cea7a494d9291cd1c9be73a916be7ff21800501cb280ee", func := "tidemill/tidemilllaw03.RecEntries", spec := "recEntries", apart := false, narrowed := true }
def RecEntriesUptoSaid : Prop := recEntriesUptoRow.holds Try.pinned (OpenSpec.upto recEntriesSpec)

/-- 'tidemilllaw03.RecBack', WHERE WHAT IT READS IS OF BULK AT MOST 1048576: true; the input reads as it did. -/
def recBackUptoRow : OpenClaim := { program := "ytedbgkbjbfdnlaa", sum := "c6256b8b5653d823e7cea7a494d9291cd1c9be73a916be7ff21800501cb280ee", func := "tidemill/tidemilllaw03.RecBack", spec := "recBack", apart := false, narrowed := true }
def RecBackUptoSaid : Prop := recBackUptoRow.holds Try.pinned (OpenSpec.upto recBackSpec)

/-- 'tidemilllaw03.RecOnes', WHERE WHAT IT READS IS OF BULK AT MOST 1048576: true; the input reads as it did. -/
def recOnesUptoRow : OpenClaim := { program := "ytedbgkbjbfdnlaa", sum := "c6256b8b5653d823e7cea7a494d9291cd1c9be73a916be7ff21800501cb280ee", func := "tidemill/tidemilllaw03.RecOnes", spec := "recOnes", apart := false, narrowed := true }
def RecOnesUptoSaid : Prop := recOnesUptoRow.holds Try.pinned (OpenSpec.upto recOnesSpec)

end Rows
end Go.Proofs.Ytedbgkbjbfdnlaa
