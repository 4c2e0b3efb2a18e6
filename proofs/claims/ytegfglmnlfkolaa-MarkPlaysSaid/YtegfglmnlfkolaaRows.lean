/-
  No cell of these rows narrows 'for every input' (looked for: loops, veiled, ifaces, maps, wideKeys, modest, calm, conditions, laid).
  DERIVED. THE GIVEN ROWS OF THIS SEAT. 5 by the template 'for every input the law returns true; each argument reads behind the call as it read before'; 0 by the template 'total and deterministic' (their statements: YtegfglmnlfkolaaTotals.lean).
  GIVEN WITH THE SEED: the statements are not yours to turn. If you find one false, say at which input.
  Laid BY PROGRAM, IN A SANDBOX (cutbox-rows.mjs): the forced cells as the released guide's own fill.sh prints them over the translation 26a528490c9892e8… (all of the seat's roots in one cut). By AI agents, Wed Nov 11 2026. No macro, syntax, notation, axiom, sorry.
-/
import Derived.Test.YtegfglmnlfkolaaChecked
import GoSem.Claim
import GoSem.ClaimJoined
import GoSem.ClaimMapViews
import Derived.JoinedTies
import Derived.KernelRfl
namespace Go.Proofs.Ytegfglmnlfkolaa
/- THE CELL 'sum', in the pinned program and in every row, IS THE sha256 OF THE DUMP (.gsa) THAT YtegfglmnlfkolaaProg.lean LOADS. Nothing in Lean hashes anything: it is a label: what it is worth is what the hold of that sum in a sandbox is worth. -/
noncomputable def Try.pinned : Pinned := { name := "ytegfglmnlfkolaa", sum := "26a528490c9892e86cbd56fda233a2330e5618ac80a7571a88609555698c00d7", checked := Try.checked }
namespace Rows
def none {H : Type} : Left H := { results := [], args := [] }

/-- 'tidemilllaw19.MarkRises': WHATEVER THE INPUT: true; the input reads as it did. -/
def markRisesSpec : ChangeSpec := { name := "markRises", fn := fun _ => fun
  | [d1, d2] => { results := [.lit (.bool true)], args := [d1, d2] }
  | _ => none }
def markRisesRow : OpenClaim := { program := "ytegfglmnlfkolaa", sum := "26a528490c9892e86cbd56fda233a2330e5618ac80a7571a88609555698c00d7", func := "tidemill/tidemilllaw19.MarkRises", spec := "markRises", apart := false }
def MarkRisesSaid : Prop := markRisesRow.holds Try.pinned (OpenSpec.ofChange markRisesSpec)

/-- ITS FALSE NEIGHBOUR: 'it returns false'. Refute it at one input. -/
def markRisesWrong : ChangeSpec := { name := "markRises", fn := fun _ => fun
  | [d1, d2] => { results := [.lit (.bool false)], args := [d1, d2] }
  | _ => none }
def MarkRisesWrongFalsely : Prop := markRisesRow.holds Try.pinned (OpenSpec.ofChange markRisesWrong)

/-- 'tidemilllaw19.MarkOrder': WHATEVER THE INPUT: true; the input reads as it did. -/
def markOrderSpec : ChangeSpec := { name := "markOrder", fn := fun _ => fun
  | [d1, d2] => { results := [.lit (.bool true)], args := [d1, d2] }
  | _ => none }
def markOrderRow : OpenClaim := { program := "ytegfglmnlfkolaa", sum := "26a528490c9892e86cbd56fda233a2330e5618ac80a7571a88609555698c00d7", func := "tidemill/tidemilllaw19.MarkOrder", spec := "markOrder", apart := false }
def MarkOrderSaid : Prop := markOrderRow.holds Try.pinned (OpenSpec.ofChange markOrderSpec)

/-- ITS FALSE NEIGHBOUR: 'it returns false'. Refute it at one input. -/
def markOrderWrong : ChangeSpec := { name := "markOrder", fn := fun _ => fun
  | [d1, d2] => { results := [.lit (.bool false)], args := [d1, d2] }
  | _ => none }
def MarkOrderWrongFalsely : Prop := markOrderRow.holds Try.pinned (OpenSpec.ofChange markOrderWrong)

/-- 'tidemilllaw19.MarkOnes': WHATEVER THE INPUT: true; the input reads as it did. -/
def markOnesSpec : ChangeSpec := { name := "markOnes", fn := fun _ => fun
  | [d] => { results := [.lit (.bool true)], args := [d] }
  | _ => none }
def markOnesRow : OpenClaim := { program := "ytegfglmnlfkolaa", sum := "26a528490c9892e86cbd56fda233a2330e5618ac80a7571a88609555698c00d7", func := "tidemill/tidemilllaw19.MarkOnes", spec := "markOnes", apart := false }
def MarkOnesSaid : Prop := markOnesRow.holds Try.pinned (OpenSpec.ofChange markOnesSpec)

/-- ITS FALSE NEIGHBOUR: 'it returns false'. Refute it at one input. -/
def markOnesWrong : ChangeSpec := { name := "markOnes", fn := fun _ => fun
  | [d] => { results := [.lit (.bool false)], args := [d] }
  | _ => none }
def MarkOnesWrongFalsely : Prop := markOnesRow.holds Try.pinned (OpenSpec.ofChange markOnesWrong)

/-- 'tidemilllaw19.MarkPlays': WHATEVER THE INPUT: true; the input reads as it did. -/
def markPlaysSpec : ChangeSpec := { name := "markPlays", fn := fun _ => fun
  | [d1, d2] => { results := [.lit (.bool true)], args := [d1, d2] }
  | _ => none }
def markPlaysRow : OpenClaim := { program := "ytegfglmnlfkolaa", sum := "26a528490c9892e86cbd56fda233a2330e5618ac80a7571a88609555698c00d7", func := "tidemill/tidemilllaw19.MarkPlays", spec := "markPlays", recurses := true, apart := false }
def MarkPlaysSaid : Prop := markPlaysRow.holds Try.pinned (OpenSpec.ofChange markPlaysSpec)

/-- ITS FALSE NEIGHBOUR: 'it returns false'. Refute it at one input. -/
def markPlaysWrong : ChangeSpec := { name := "markPlays", fn := fun _ => fun
  | [d1, d2] => { results := [.lit (.bool false)], args := [d1, d2] }
  | _ => none }
def MarkPlaysWrongFalsely : Prop := markPlaysRow.holds Try.pinned (OpenSpec.ofChange markPlaysWrong)

/-- 'tidemilllaw19.MarkNobody': WHATEVER THE INPUT: true; the input reads as it did. -/
def markNobodySpec : ChangeSpec := { name := "markNobody", fn := fun _ => fun
  | [d1, d2] => { results := [.lit (.bool true)], args := [d1, d2] }
  | _ => none }
def markNobodyRow : OpenClaim := { program := "ytegfglmnlfkolaa", sum := "26a528490c9892e86cbd56fda233a2330e5618ac80a7571a88609555698c00d7", func := "tidemill/tidemilllaw19.MarkNobody", spec := "markNobody", recurses := true, apart := false }
def MarkNobodySaid : Prop := markNobodyRow.holds Try.pinned (OpenSpec.ofChange markNobodySpec)

/-- ITS FALSE NEIGHBOUR: 'it returns false'. Refute it at one input. -/
def markNobodyWrong : ChangeSpec := { name := "markNobody", fn := fun _ => fun
  | [d1, d2] => { results := [.lit (.bool false)], args := [d1, d2] }
  | _ => none }
def MarkNobodyWrongFalsely : Prop := markNobodyRow.holds Try.pinned (OpenSpec.ofChange markNobodyWrong)

/- THE SECOND FORM. 'bulk': how many values and letters a reading holds, each counted each time it is reached (what is shared counts as often as it is met; a slice's spare places count too). A statement '..UptoSaid' is the law's where the arguments, and the package variables that the reading takes, are together of bulk at most 1048576: NARROWER than '..Said'. Prove '..Said' where nothing that the law and all that it calls make is longer than what came in: it says more and counts as full. Else prove '..UptoSaid'. A law counts once. -/
mutual
def uptoBulk {H : Type} : DataW H → Nat
  | .lit (.string bytes) => bytes.length + 1
  | .lit _ => 1
  | .nil => 1
  | .ptr d => uptoBulk d + 1
  | .slice elems spare => uptoBulkAll elems + uptoBulkAll spare + 1
  | .agg parts => uptoBulkAll parts + 1
  | .iface _ d => uptoBulk d + 1
  | .map entries => uptoBulkEntries entries + 1
  | .held _ => 1
def uptoBulkAll {H : Type} : List (DataW H) → Nat
  | [] => 0
  | d :: r => uptoBulk d + uptoBulkAll r
def uptoBulkEntries {H : Type} : List (Lit × DataW H) → Nat
  | [] => 0
  | x :: r => uptoBulkEntry x + uptoBulkEntries r
def uptoBulkEntry {H : Type} : Lit × DataW H → Nat
  | (.string bytes, d) => bytes.length + uptoBulk d + 1
  | (_, d) => uptoBulk d + 1
 end
def uptoSmall : (H : Type) → List (DataW H) → Bool := fun _ ds => decide (uptoBulkAll ds ≤ 1048576)
def OpenSpec.upto (s : _root_.Go.ChangeSpec) : _root_.Go.OpenSpec := { _root_.Go.OpenSpec.ofChange s with cond := some uptoSmall }

/-- 'tidemilllaw19.MarkRises', WHERE WHAT IT READS IS OF BULK AT MOST 1048576: true; the input reads as it did. -/
def markRisesUptoRow : OpenClaim := { program := "ytegfglmnlfkolaa", sum := "26a528490c9892e86cbd56fda233a2330e5618ac80a7571a88609555698c00d7", func := "tidemill/tidemilllaw19.MarkRises", spec := "markRises", apart := false, narrowed := true }
def MarkRisesUptoSaid : Prop := markRisesUptoRow.holds Try.pinned (OpenSpec.upto markRisesSpec)

/-- 'tidemilllaw19.MarkOrder', WHERE WHAT IT READS IS OF BULK AT MOST 1048576: true; the input reads as it did. -/
def markOrderUptoRow : OpenClaim := { program := "ytegfglmnlfkolaa", sum := "26a528490c9892e86cbd56fda233a2330e5618ac80a7571a88609555698c00d7", func := "tidemill/tidemilllaw19.MarkOrder", spec := "markOrder", apart := false, narrowed := true }
def MarkOrderUptoSaid : Prop := markOrderUptoRow.holds Try.pinned (OpenSpec.upto markOrderSpec)

/-- 'tidemilllaw19.MarkOnes', WHERE WHAT IT READS IS OF BULK AT MOST 1048576: true; the input reads as it did. -/
def markOnesUptoRow : OpenClaim := { program := "ytegfglmnlfkolaa", sum := "26a528490c9892e86cbd56fda233a2330e5618ac80a7571a88609555698c00d7", func := "tidemill/tidemilllaw19.MarkOnes", spec := "markOnes", apart := false, narrowed := true }
def MarkOnesUptoSaid : Prop := markOnesUptoRow.holds Try.pinned (OpenSpec.upto markOnesSpec)

/-- 'tidemilllaw19.MarkPlays', WHERE WHAT IT READS IS OF BULK AT MOST 1048576: true; the input reads as it did. -/
def markPlaysUptoRow : OpenClaim := { program := "ytegfglmnlfkolaa", sum := "26a528490c9892e86cbd56fda233a2330e5618ac80a7571a88609555698c00d7", func := "tidemill/tidemilllaw19.MarkPlays", spec := "markPlays", recurses := true, apart := false, narrowed := true }
def MarkPlaysUptoSaid : Prop := markPlaysUptoRow.holds Try.pinned (OpenSpec.upto markPlaysSpec)

/-- 'tidemilllaw19.MarkNobody', WHERE WHAT IT READS IS OF BULK AT MOST 1048576: true; the input reads as it did. -/
def markNobodyUptoRow : OpenClaim := { program := "ytegfglmnlfkolaa", sum := "26a528490c9892e86cbd56fda233a2330e5618ac80a7571a88609555698c00d7", func := "tidemill/tidemilllaw19.MarkNobody", spec := "markNobody", recurses := true, apart := false, narrowed := true }
def MarkNobodyUptoSaid : Prop := markNobodyUptoRow.holds Try.pinned (OpenSpec.upto markNobodySpec)

end Rows
end Go.Proofs.Ytegfglmnlfkolaa
