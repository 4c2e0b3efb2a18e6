/-
  NARROWER THAN 'FOR EVERY INPUT', by the rows' own cells (each row's printed sentence says how): ExprValues: loops · ExprTotal: loops · ExprBytes: loops · ExprBack: loops.
  DERIVED. THE GIVEN ROWS OF THIS SEAT. 7 by the template 'for every input the law returns true; each argument reads behind the call as it read before'; 0 by the template 'total and deterministic' (their statements: YtpcbcekfakjgkaaTotals.lean).
  GIVEN WITH THE SEED: the statements are not yours to turn. If you find one false, say at which input.
  Laid BY PROGRAM, IN A SANDBOX (cutbox-rows.mjs): the forced cells as the released guide's own fill.sh prints them over the translation 2cd04db800610508… (all of the seat's roots in one cut). By AI agents, Wed Nov 11 2026. No macro, syntax, notation, axiom, sorry.
-/
import Derived.Test.YtpcbcekfakjgkaaChecked
import GoSem.Claim
import GoSem.ClaimJoined
import GoSem.ClaimMapViews
import Derived.JoinedTies
import Derived.KernelRfl
namespace Go.Proofs.Ytpcbcekfakjgkaa
/- THE CELL 'sum', in the pinned program and in every row, IS THE sha256 OF THE DUMP (.gsa) THAT YtpcbcekfakjgkaaProg.lean LOADS. Nothing in Lean hashes anything: it is a label: what it is worth is what the hold of that sum in a sandbox is worth. -/
noncomputable def Try.pinned : Pinned := { name := "ytpcbcekfakjgkaa", sum := "2cd04db800610508dcc4dd448c3c6e81a30a5787dac7e8a69934348ad7a83034", checked := Try.checked }
namespace Rows
def none {H : Type} : Left H := { results := [], args := [] }

/-- 'tidemilllaw04.ExprParts': WHATEVER THE INPUT: true; the input reads as it did. -/
def exprPartsSpec : ChangeSpec := { name := "exprParts", fn := fun _ => fun
  | [d1, d2] => { results := [.lit (.bool true)], args := [d1, d2] }
  | _ => none }
def exprPartsRow : OpenClaim := { program := "ytpcbcekfakjgkaa", sum := "2cd04db800610508dcc4dd448c3c6e81a30a5787dac7e8a69934348ad7a83034", func := "tidemill/tidemilllaw04.ExprParts", spec := "exprParts", unfollowed := true, recurses := true, apart := false }
def ExprPartsSaid : Prop := exprPartsRow.holds Try.pinned (OpenSpec.ofChange exprPartsSpec)

/-- ITS FALSE NEIGHBOUR: 'it returns false'. Refute it at one input. -/
def exprPartsWrong : ChangeSpec := { name := "exprParts", fn := fun _ => fun
  | [d1, d2] => { results := [.lit (.bool false)], args := [d1, d2] }
  | _ => none }
def ExprPartsWrongFalsely : Prop := exprPartsRow.holds Try.pinned (OpenSpec.ofChange exprPartsWrong)

/-- 'tidemilllaw04.ExprDeep': WHATEVER THE INPUT: true; the input reads as it did. -/
def exprDeepSpec : ChangeSpec := { name := "exprDeep", fn := fun _ => fun
  | [d1, d2] => { results := [.lit (.bool true)], args := [d1, d2] }
  | _ => none }
def exprDeepRow : OpenClaim := { program := "ytpcbcekfakjgkaa", sum := "2cd04db800610508dcc4dd448c3c6e81a30a5787dac7e8a69934348ad7a83034", func := "tidemill/tidemilllaw04.ExprDeep", spec := "exprDeep", unfollowed := true, recurses := true, apart := false }
def ExprDeepSaid : Prop := exprDeepRow.holds Try.pinned (OpenSpec.ofChange exprDeepSpec)

/-- ITS FALSE NEIGHBOUR: 'it returns false'. Refute it at one input. -/
def exprDeepWrong : ChangeSpec := { name := "exprDeep", fn := fun _ => fun
  | [d1, d2] => { results := [.lit (.bool false)], args := [d1, d2] }
  | _ => none }
def ExprDeepWrongFalsely : Prop := exprDeepRow.holds Try.pinned (OpenSpec.ofChange exprDeepWrong)

/-- 'tidemilllaw04.ExprIfs': WHATEVER THE INPUT: true; the input reads as it did. -/
def exprIfsSpec : ChangeSpec := { name := "exprIfs", fn := fun _ => fun
  | [d1, d2, d3] => { results := [.lit (.bool true)], args := [d1, d2, d3] }
  | _ => none }
def exprIfsRow : OpenClaim := { program := "ytpcbcekfakjgkaa", sum := "2cd04db800610508dcc4dd448c3c6e81a30a5787dac7e8a69934348ad7a83034", func := "tidemill/tidemilllaw04.ExprIfs", spec := "exprIfs", unfollowed := true, recurses := true, apart := false }
def ExprIfsSaid : Prop := exprIfsRow.holds Try.pinned (OpenSpec.ofChange exprIfsSpec)

/-- ITS FALSE NEIGHBOUR: 'it returns false'. Refute it at one input. -/
def exprIfsWrong : ChangeSpec := { name := "exprIfs", fn := fun _ => fun
  | [d1, d2, d3] => { results := [.lit (.bool false)], args := [d1, d2, d3] }
  | _ => none }
def ExprIfsWrongFalsely : Prop := exprIfsRow.holds Try.pinned (OpenSpec.ofChange exprIfsWrong)

/-- 'tidemilllaw04.ExprValues': WHATEVER THE INPUT: true; the input reads as it did. -/
def exprValuesSpec : ChangeSpec := { name := "exprValues", fn := fun _ => fun
  | [d1, d2, d3, d4] => { results := [.lit (.bool true)], args := [d1, d2, d3, d4] }
  | _ => none }
def exprValuesRow : OpenClaim := { program := "ytpcbcekfakjgkaa", sum := "2cd04db800610508dcc4dd448c3c6e81a30a5787dac7e8a69934348ad7a83034", func := "tidemill/tidemilllaw04.ExprValues", spec := "exprValues", unfollowed := true, recurses := true, loops := true, apart := false }
def ExprValuesSaid : Prop := exprValuesRow.holds Try.pinned (OpenSpec.ofChange exprValuesSpec)

/-- ITS FALSE NEIGHBOUR: 'it returns false'. Refute it at one input. -/
def exprValuesWrong : ChangeSpec := { name := "exprValues", fn := fun _ => fun
  | [d1, d2, d3, d4] => { results := [.lit (.bool false)], args := [d1, d2, d3, d4] }
  | _ => none }
def ExprValuesWrongFalsely : Prop := exprValuesRow.holds Try.pinned (OpenSpec.ofChange exprValuesWrong)

/-- 'tidemilllaw04.ExprTotal': WHATEVER THE INPUT: true; the input reads as it did. -/
def exprTotalSpec : ChangeSpec := { name := "exprTotal", fn := fun _ => fun
  | [d1, d2, d3] => { results := [.lit (.bool true)], args := [d1, d2, d3] }
  | _ => none }
def exprTotalRow : OpenClaim := { program := "ytpcbcekfakjgkaa", sum := "2cd04db800610508dcc4dd448c3c6e81a30a5787dac7e8a69934348ad7a83034", func := "tidemill/tidemilllaw04.ExprTotal", spec := "exprTotal", unfollowed := true, recurses := true, loops := true, apart := false }
def ExprTotalSaid : Prop := exprTotalRow.holds Try.pinned (OpenSpec.ofChange exprTotalSpec)

/-- ITS FALSE NEIGHBOUR: 'it returns false'. Refute it at one input. -/
def exprTotalWrong : ChangeSpec := { name := "exprTotal", fn := fun _ => fun
  | [d1, d2, d3] => { results := [.lit (.bool false)], args := [d1, d2, d3] }
  | _ => none }
def ExprTotalWrongFalsely : Prop := exprTotalRow.holds Try.pinned (OpenSpec.ofChange exprTotalWrong)

/-- 'tidemilllaw04.ExprBytes': WHATEVER THE INPUT: true; the input reads as it did. -/
def exprBytesSpec : ChangeSpec := { name := "exprBytes", fn := fun _ => fun
  | [d1, d2] => { results := [.lit (.bool true)], args := [d1, d2] }
  | _ => none }
def exprBytesRow : OpenClaim := { program := "ytpcbcekfakjgkaa", sum := "2cd04db800610508dcc4dd448c3c6e81a30a5787dac7e8a69934348ad7a83034", func := "tidemill/tidemilllaw04.ExprBytes", spec := "exprBytes", unfollowed := true, recurses := true, loops := true, apart := false }
def ExprBytesSaid : Prop := exprBytesRow.holds Try.pinned (OpenSpec.ofChange exprBytesSpec)

/-- ITS FALSE NEIGHBOUR: 'it returns false'. Refute it at one input. -/
def exprBytesWrong : ChangeSpec := { name := "exprBytes", fn := fun _ => fun
  | [d1, d2] => { results := [.lit (.bool false)], args := [d1, d2] }
  | _ => none }
def ExprBytesWrongFalsely : Prop := exprBytesRow.holds Try.pinned (OpenSpec.ofChange exprBytesWrong)

/-- 'tidemilllaw04.ExprBack': WHATEVER THE INPUT: true; the input reads as it did. -/
def exprBackSpec : ChangeSpec := { name := "exprBack", fn := fun _ => fun
  | [d1, d2] => { results := [.lit (.bool true)], args := [d1, d2] }
  | _ => none }
def exprBackRow : OpenClaim := { program := "ytpcbcekfakjgkaa", sum := "2cd04db800610508dcc4dd448c3c6e81a30a5787dac7e8a69934348ad7a83034", func := "tidemill/tidemilllaw04.ExprBack", spec := "exprBack", unfollowed := true, recurses := true, loops := true, apart := false }
def ExprBackSaid : Prop := exprBackRow.holds Try.pinned (OpenSpec.ofChange exprBackSpec)

/-- ITS FALSE NEIGHBOUR: 'it returns false'. Refute it at one input. -/
def exprBackWrong : ChangeSpec := { name := "exprBack", fn := fun _ => fun
  | [d1, d2] => { results := [.lit (.bool false)], args := [d1, d2] }
  | _ => none }
def ExprBackWrongFalsely : Prop := exprBackRow.holds Try.pinned (OpenSpec.ofChange exprBackWrong)

/- THE SECOND FORM. 'bulk': how many values and letters a reading holds, each counted each time it is reached (what is shared counts as often as it is met; a slice's spare places count too). A statement '..UptoSaid' is the law's where the arguments, and the package variables that the reading takes, are together of bulk at most 1048576: NARROWER than '..Said'. Prove '..Said' where nothing that the law and all that it calls make is longer than what came in: it says more and counts as full. Else prove '..UptoSaid'. A law counts once. -/
mutual
def uptoBulk {H : Type} : DataW H → Nat
  | .lit (.string bytes) => bytes.length + 1
  | .lit _ => 1
  | .nil => 1
  | .ptr d => uptoBulk d + 1
  | .slice elems spare => uptoBulkAll elems + uptoBulkAll spare + 1
  | .agg parts => uptoBulkAll parts + 1
  | .iface _ d => uptoBulk d + 1
  | .map entries => uptoBulkEntries entries + 1
  | .held _ => 1
def uptoBulkAll {H : Type} : List (DataW H) → Nat
  | [] => 0
  | d :: r => uptoBulk d + uptoBulkAll r
def uptoBulkEntries {H : Type} : List (Lit × DataW H) → Nat
  | [] => 0
  | x :: r => uptoBulkEntry x + uptoBulkEntries r
def uptoBulkEntry {H : Type} : Lit × DataW H → Nat
  | (.string bytes, d) => bytes.length + uptoBulk d + 1
  | (_, d) => uptoBulk d + 1
 end
def uptoSmall : (H : Type) → List (DataW H) → Bool := fun _ ds => decide (uptoBulkAll ds ≤ 1048576)
def OpenSpec.upto (s : _root_.Go.ChangeSpec) : _root_.Go.OpenSpec := { _root_.Go.OpenSpec.ofChange s with cond := some uptoSmall }

/-- 'tidemilllaw04.ExprParts', WHERE WHAT IT READS IS OF BULK AT MOST 1048576: true; the input reads as it did. -/
def exprPartsUptoRow : OpenClaim := { program := "ytpcbcekfakjgkaa", sum := "2cd04db800610508dcc4dd448c3c6e81a30a5787dac7e8a69934348ad7a83034", func := "tidemill/tidemilllaw04.ExprParts", spec := "exprParts", unfollowed := true, recurses := true, apart := false, narrowed := true }
def ExprPartsUptoSaid : Prop := exprPartsUptoRow.holds Try.pinned (OpenSpec.upto exprPartsSpec)

/-- 'tidemilllaw04.ExprDeep', WHERE WHAT IT READS IS OF BULK AT MOST 1048576: true; the input reads as it did. -/
def exprDeepUptoRow : OpenClaim := { program := "ytpcbcekfakjgkaa", sum := "2cd04db800610508dcc4dd448c3c6e81a30a5787dac7e8a69934348ad7a83034", func := "tidemill/tidemilllaw04.ExprDeep", spec := "exprDeep", unfollowed := true, recurses := true, apart := false, narrowed := true }
def ExprDeepUptoSaid : Prop := exprDeepUptoRow.holds Try.pinned (OpenSpec.upto exprDeepSpec)

/-- 'tidemilllaw04.ExprIfs', WHERE WHAT IT READS IS OF BULK AT MOST 1048576: true; the input reads as it did. -/
def exprIfsUptoRow : OpenClaim := { program := "ytpcbcekfakjgkaa", sum := "2cd04db800610508dcc4dd448c3c6e81a30a5787dac7e8a69934348ad7a83034", func := "tidemill/tidemilllaw04.ExprIfs", spec := "exprIfs", unfollowed := true, recurses := true, apart := false, narrowed := true }
def ExprIfsUptoSaid : Prop := exprIfsUptoRow.holds Try.pinned (OpenSpec.upto exprIfsSpec)

/-- 'tidemilllaw04.ExprValues', WHERE WHAT IT READS IS OF BULK AT MOST 1048576: true; the input reads as it did. -/
def exprValuesUptoRow : OpenClaim := { program := "ytpcbcekfakjgkaa", sum := "2cd04db800610508dcc4dd448c3c6e81a30a5787dac7e8a69934348ad7a83034", func := "tidemill/tidemilllaw04.ExprValues", spec := "exprValues", unfollowed := true, recurses := true, loops := true, apart := false, narrowed := true }
def ExprValuesUptoSaid : Prop := exprValuesUptoRow.holds Try.pinned (OpenSpec.upto exprValuesSpec)

/-- 'tidemilllaw04.ExprTotal', WHERE WHAT IT READS IS OF BULK AT MOST 1048576: true; the input reads as it did. -/
def exprTotalUptoRow : OpenClaim := { program := "ytpcbcekfakjgkaa", sum := "2cd04db800610508dcc4dd448c3c6e81a30a5787dac7e8a69934348ad7a83034", func := "tidemill/tidemilllaw04.ExprTotal", spec := "exprTotal", unfollowed := true, recurses := true, loops := true, apart := false, narrowed := true }
def ExprTotalUptoSaid : Prop := exprTotalUptoRow.holds Try.pinned (OpenSpec.upto exprTotalSpec)

/-- 'tidemilllaw04.ExprBytes', WHERE WHAT IT READS IS OF BULK AT MOST 1048576: true; the input reads as it did. -/
def exprBytesUptoRow : OpenClaim := { program := "ytpcbcekfakjgkaa", sum := "2cd04db800610508dcc4dd448c3c6e81a30a5787dac7e8a69934348ad7a83034", func := "tidemill/tidemilllaw04.ExprBytes", spec := "exprBytes", unfollowed := true, recurses := true, loops := true, apart := false, narrowed := true }
def ExprBytesUptoSaid : Prop := exprBytesUptoRow.holds Try.pinned (OpenSpec.upto exprBytesSpec)

/-- 'tidemilllaw04.ExprBack', WHERE WHAT IT READS IS OF BULK AT MOST 1048576: true; the input reads as it did. -/
def exprBackUptoRow : OpenClaim := { program := "ytpcbcekfakjgkaa", sum := "2cd04db800610508dcc4dd448c3c6e81a30a5787dac7e8a69934348ad7a83034", func := "tidemill/tidemilllaw04.ExprBack", spec := "exprBack", unfollowed := true, recurses := true, loops := true, apart := false, narrowed := true }
def ExprBackUptoSaid : Prop := exprBackUptoRow.holds Try.pinned (OpenSpec.upto exprBackSpec)

end Rows
end Go.Proofs.Ytpcbcekfakjgkaa
