/-
  NARROWER THAN 'FOR EVERY INPUT', by the rows' own cells (each row's printed sentence says how): FlowApplies: loops · FlowKeeps: loops · FlowChains: loops · FlowSplits: loops.
  DERIVED. THE GIVEN ROWS OF THIS SEAT. 6 by the template 'for every input the law returns true; each argument reads behind the call as it read before'; 0 by the template 'total and deterministic' (their statements: YthkilejcddgodaaTotals.lean).
  GIVEN WITH THE SEED: the statements are not yours to turn. If you find one false, say at which input.
  Laid BY PROGRAM, IN A SANDBOX (cutbox-rows.mjs): the forced cells as the released guide's own fill.sh prints them over the translation ae885d4ab426f5b0… (all of the seat's roots in one cut). By AI agents, Wed Nov 11 2026. No macro, syntax, notation, axiom, sorry.
-/
import Derived.Test.YthkilejcddgodaaChecked
import GoSem.Claim
import GoSem.ClaimJoined
import GoSem.ClaimMapViews
import Derived.JoinedTies
import Derived.KernelRfl
namespace Go.Proofs.Ythkilejcddgodaa
/- THE CELL 'sum', in the pinned program and in every row, IS THE sha256 OF THE DUMP (.gsa) THAT YthkilejcddgodaaProg.lean LOADS. Nothing in Lean hashes anything: it is a label: what it is worth is what the hold of that sum in a sandbox is worth. -/
noncomputable def Try.pinned : Pinned := { name := "ythkilejcddgodaa", sum := "ae885d4ab426f5b0770d03450ac062ea62ce5a88720a4bb69ab2512a17edf2bb", checked := Try.checked }
namespace Rows
def none {H : Type} : Left H := { results := [], args := [] }

/-- 'tidemilllaw17.FlowApplies': WHATEVER THE INPUT: true; the input reads as it did. -/
def flowAppliesSpec : ChangeSpec := { name := "flowApplies", fn := fun _ => fun
  | [d1, d2] => { results := [.lit (.bool true)], args := [d1, d2] }
  | _ => none }
def flowAppliesRow : OpenClaim := { program := "ythkilejcddgodaa", sum := "ae885d4ab426f5b0770d03450ac062ea62ce5a88720a4bb69ab2512a17edf2bb", func := "tidemill/tidemilllaw17.FlowApplies", spec := "flowApplies", unfollowed := true, recurses := true, loops := true, apart := false }
def FlowAppliesSaid : Prop := flowAppliesRow.holds Try.pinned (OpenSpec.ofChange flowAppliesSpec)

/-- ITS FALSE NEIGHBOUR: 'it returns false'. Refute it at one input. -/
def flowAppliesWrong : ChangeSpec := { name := "flowApplies", fn := fun _ => fun
  | [d1, d2] => { results := [.lit (.bool false)], args := [d1, d2] }
  | _ => none }
def FlowAppliesWrongFalsely : Prop := flowAppliesRow.holds Try.pinned (OpenSpec.ofChange flowAppliesWrong)

/-- 'tidemilllaw17.FlowKeeps': WHATEVER THE INPUT: true; the input reads as it did. -/
def flowKeepsSpec : ChangeSpec := { name := "flowKeeps", fn := fun _ => fun
  | [d1, d2] => { results := [.lit (.bool true)], args := [d1, d2] }
  | _ => none }
def flowKeepsRow : OpenClaim := { program := "ythkilejcddgodaa", sum := "ae885d4ab426f5b0770d03450ac062ea62ce5a88720a4bb69ab2512a17edf2bb", func := "tidemill/tidemilllaw17.FlowKeeps", spec := "flowKeeps", unfollowed := true, recurses := true, loops := true, apart := false }
def FlowKeepsSaid : Prop := flowKeepsRow.holds Try.pinned (OpenSpec.ofChange flowKeepsSpec)

/-- ITS FALSE NEIGHBOUR: 'it returns false'. Refute it at one input. -/
def flowKeepsWrong : ChangeSpec := { name := "flowKeeps", fn := fun _ => fun
  | [d1, d2] => { results := [.lit (.bool false)], args := [d1, d2] }
  | _ => none }
def FlowKeepsWrongFalsely : Prop := flowKeepsRow.holds Try.pinned (OpenSpec.ofChange flowKeepsWrong)

/-- 'tidemilllaw17.FlowChains': WHATEVER THE INPUT: true; the input reads as it did. -/
def flowChainsSpec : ChangeSpec := { name := "flowChains", fn := fun _ => fun
  | [d1, d2] => { results := [.lit (.bool true)], args := [d1, d2] }
  | _ => none }
def flowChainsRow : OpenClaim := { program := "ythkilejcddgodaa", sum := "ae885d4ab426f5b0770d03450ac062ea62ce5a88720a4bb69ab2512a17edf2bb", func := "tidemill/tidemilllaw17.FlowChains", spec := "flowChains", unfollowed := true, recurses := true, loops := true, apart := false }
def FlowChainsSaid : Prop := flowChainsRow.holds Try.pinned (OpenSpec.ofChange flowChainsSpec)

/-- ITS FALSE NEIGHBOUR: 'it returns false'. Refute it at one input. -/
def flowChainsWrong : ChangeSpec := { name := "flowChains", fn := fun _ => fun
  | [d1, d2] => { results := [.lit (.bool false)], args := [d1, d2] }
  | _ => none }
def FlowChainsWrongFalsely : Prop := flowChainsRow.holds Try.pinned (OpenSpec.ofChange flowChainsWrong)

/-- 'tidemilllaw17.FlowSplits': WHATEVER THE INPUT: true; the input reads as it did. -/
def flowSplitsSpec : ChangeSpec := { name := "flowSplits", fn := fun _ => fun
  | [d1, d2, d3] => { results := [.lit (.bool true)], args := [d1, d2, d3] }
  | _ => none }
def flowSplitsRow : OpenClaim := { program := "ythkilejcddgodaa", sum := "ae885d4ab426f5b0770d03450ac062ea62ce5a88720a4bb69ab2512a17edf2bb", func := "tidemill/tidemilllaw17.FlowSplits", spec := "flowSplits", unfollowed := true, recurses := true, loops := true, apart := false }
def FlowSplitsSaid : Prop := flowSplitsRow.holds Try.pinned (OpenSpec.ofChange flowSplitsSpec)

/-- ITS FALSE NEIGHBOUR: 'it returns false'. Refute it at one input. -/
def flowSplitsWrong : ChangeSpec := { name := "flowSplits", fn := fun _ => fun
  | [d1, d2, d3] => { results := [.lit (.bool false)], args := [d1, d2, d3] }
  | _ => none }
def FlowSplitsWrongFalsely : Prop := flowSplitsRow.holds Try.pinned (OpenSpec.ofChange flowSplitsWrong)

/-- 'tidemilllaw17.FlowFlats': WHATEVER THE INPUT: true; the input reads as it did. -/
def flowFlatsSpec : ChangeSpec := { name := "flowFlats", fn := fun _ => fun
  | [d1, d2, d3] => { results := [.lit (.bool true)], args := [d1, d2, d3] }
  | _ => none }
def flowFlatsRow : OpenClaim := { program := "ythkilejcddgodaa", sum := "ae885d4ab426f5b0770d03450ac062ea62ce5a88720a4bb69ab2512a17edf2bb", func := "tidemill/tidemilllaw17.FlowFlats", spec := "flowFlats", unfollowed := true, recurses := true, apart := false }
def FlowFlatsSaid : Prop := flowFlatsRow.holds Try.pinned (OpenSpec.ofChange flowFlatsSpec)

/-- ITS FALSE NEIGHBOUR: 'it returns false'. Refute it at one input. -/
def flowFlatsWrong : ChangeSpec := { name := "flowFlats", fn := fun _ => fun
  | [d1, d2, d3] => { results := [.lit (.bool false)], args := [d1, d2, d3] }
  | _ => none }
def FlowFlatsWrongFalsely : Prop := flowFlatsRow.holds Try.pinned (OpenSpec.ofChange flowFlatsWrong)

/-- 'tidemilllaw17.FlowMaps': WHATEVER THE INPUT: true; the input reads as it did. -/
def flowMapsSpec : ChangeSpec := { name := "flowMaps", fn := fun _ => fun
  | [d1, d2, d3] => { results := [.lit (.bool true)], args := [d1, d2, d3] }
  | _ => none }
def flowMapsRow : OpenClaim := { program := "ythkilejcddgodaa", sum := "ae885d4ab426f5b0770d03450ac062ea62ce5a88720a4bb69ab2512a17edf2bb", func := "tidemill/tidemilllaw17.FlowMaps", spec := "flowMaps", unfollowed := true, recurses := true, apart := false }
def FlowMapsSaid : Prop := flowMapsRow.holds Try.pinned (OpenSpec.ofChange flowMapsSpec)

/-- ITS FALSE NEIGHBOUR: 'it returns false'. Refute it at one input. -/
def flowMapsWrong : ChangeSpec := { name := "flowMaps", fn := fun _ => fun
  | [d1, d2, d3] => { results := [.lit (.bool false)], args := [d1, d2, d3] }
  | _ => none }
def FlowMapsWrongFalsely : Prop := flowMapsRow.holds Try.pinned (OpenSpec.ofChange flowMapsWrong)

/- THE SECOND FORM. 'bulk': how many values and letters a reading holds, each counted each time it is reached (what is shared counts as often as it is met; a slice's spare places count too). A statement '..UptoSaid' is the law's where the arguments, and the package variables that the reading takes, are together of bulk at most 1048576: NARROWER than '..Said'. Prove '..Said' where nothing that the law and all that it calls make is longer than what came in: it says more and counts as full. Else prove '..UptoSaid'. A law counts once. -/
mutual
def uptoBulk {H : Type} : DataW H → Nat
  | .lit (.string bytes) => bytes.length + 1
  | .lit _ => 1
  | .nil => 1
  | .ptr d => uptoBulk d + 1
  | .slice elems spare => uptoBulkAll elems + uptoBulkAll spare + 1
  | .agg parts => uptoBulkAll parts + 1
  | .iface _ d => uptoBulk d + 1
  | .map entries => uptoBulkEntries entries + 1
  | .held _ => 1
def uptoBulkAll {H : Type} : List (DataW H) → Nat
  | [] => 0
  | d :: r => uptoBulk d + uptoBulkAll r
def uptoBulkEntries {H : Type} : List (Lit × DataW H) → Nat
  | [] => 0
  | x :: r => uptoBulkEntry x + uptoBulkEntries r
def uptoBulkEntry {H : Type} : Lit × DataW H → Nat
  | (.string bytes, d) => bytes.length + uptoBulk d + 1
  | (_, d) => uptoBulk d + 1
 end
def uptoSmall : (H : Type) → List (DataW H) → Bool := fun _ ds => decide (uptoBulkAll ds ≤ 1048576)
def OpenSpec.upto (s : _root_.Go.ChangeSpec) : _root_.Go.OpenSpec := { _root_.Go.OpenSpec.ofChange s with cond := some uptoSmall }

/-- 'tidemilllaw17.FlowApplies', WHERE WHAT IT READS IS OF BULK AT MOST 1048576: true; the input reads as it did. -/
def flowAppliesUptoRow : OpenClaim := { program := "ythkilejcddgodaa", sum := "ae885d4ab426f5b0770d03450ac062ea62ce5a88720a4bb69ab2512a17edf2bb", func := "tidemill/tidemilllaw17.FlowApplies", spec := "flowApplies", unfollowed := true, recurses := true, loops := true, apart := false, narrowed := true }
def FlowAppliesUptoSaid : Prop := flowAppliesUptoRow.holds Try.pinned (OpenSpec.upto flowAppliesSpec)

/-- 'tidemilllaw17.FlowKeeps', WHERE WHAT IT READS IS OF BULK AT MOST 1048576: true; the input reads as it did. -/
def flowKeepsUptoRow : OpenClaim := { program := "ythkilejcddgodaa", sum := "ae885d4ab426f5b0770d03450ac062ea62ce5a88720a4bb69ab2512a17edf2bb", func := "tidemill/tidemilllaw17.FlowKeeps", spec := "flowKeeps", unfollowed := true, recurses := true, loops := true, apart := false, narrowed := true }
def FlowKeepsUptoSaid : Prop := flowKeepsUptoRow.holds Try.pinned (OpenSpec.upto flowKeepsSpec)

/-- 'tidemilllaw17.FlowChains', WHERE WHAT IT READS IS OF BULK AT MOST 1048576: true; the input reads as it did. -/
def flowChainsUptoRow : OpenClaim := { program := "ythkilejcddgodaa", sum := "ae885d4ab426f5b0770d03450ac062ea62ce5a88720a4bb69ab2512a17edf2bb", func := "tidemill/tidemilllaw17.FlowChains", spec := "flowChains", unfollowed := true, recurses := true, loops := true, apart := false, narrowed := true }
def FlowChainsUptoSaid : Prop := flowChainsUptoRow.holds Try.pinned (OpenSpec.upto flowChainsSpec)

/-- 'tidemilllaw17.FlowSplits', WHERE WHAT IT READS IS OF BULK AT MOST 1048576: true; the input reads as it did. -/
def flowSplitsUptoRow : OpenClaim := { program := "ythkilejcddgodaa", sum := "ae885d4ab426f5b0770d03450ac062ea62ce5a88720a4bb69ab2512a17edf2bb", func := "tidemill/tidemilllaw17.FlowSplits", spec := "flowSplits", unfollowed := true, recurses := true, loops := true, apart := false, narrowed := true }
def FlowSplitsUptoSaid : Prop := flowSplitsUptoRow.holds Try.pinned (OpenSpec.upto flowSplitsSpec)

/-- 'tidemilllaw17.FlowFlats', WHERE WHAT IT READS IS OF BULK AT MOST 1048576: true; the input reads as it did. -/
def flowFlatsUptoRow : OpenClaim := { program := "ythkilejcddgodaa", sum := "ae885d4ab426f5b0770d03450ac062ea62ce5a88720a4bb69ab2512a17edf2bb", func := "tidemill/tidemilllaw17.FlowFlats", spec := "flowFlats", unfollowed := true, recurses := true, apart := false, narrowed := true }
def FlowFlatsUptoSaid : Prop := flowFlatsUptoRow.holds Try.pinned (OpenSpec.upto flowFlatsSpec)

/-- 'tidemilllaw17.FlowMaps', WHERE WHAT IT READS IS OF BULK AT MOST 1048576: true; the input reads as it did. -/
def flowMapsUptoRow : OpenClaim := { program := "ythkilejcddgodaa", sum := "ae885d4ab426f5b0770d03450ac062ea62ce5a88720a4bb69ab2512a17edf2bb", func := "tidemill/tidemilllaw17.FlowMaps", spec := "flowMaps", unfollowed := true, recurses := true, apart := false, narrowed := true }
def FlowMapsUptoSaid : Prop := flowMapsUptoRow.holds Try.pinned (OpenSpec.upto flowMapsSpec)

end Rows
end Go.Proofs.Ythkilejcddgodaa
