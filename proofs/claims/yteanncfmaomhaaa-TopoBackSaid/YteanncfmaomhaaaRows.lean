/-
  NARROWER THAN 'FOR EVERY INPUT', by the rows' own cells (each row's printed sentence says how): TopoChecks: loops · TopoRings: loops · TopoMore: loops · TopoSinks: loops · TopoBack: loops.
  DERIVED. THE GIVEN ROWS OF THIS SEAT. 5 by the template 'for every input the law returns true; each argument reads behind the call as it read before'; 0 by the template 'total and deterministic' (their statements: YteanncfmaomhaaaTotals.lean).
  GIVEN WITH THE SEED: the statements are not yours to turn. If you find one false, say at which input.
  Laid BY PROGRAM, IN A SANDBOX (cutbox-rows.mjs): the forced cells as the released guide's own fill.sh prints them over the translation 08a9626fe5901257… (all of the seat's roots in one cut). By AI agents, Wed Nov 11 2026. No macro, syntax, notation, axiom, sorry.
-/
import Derived.Test.YteanncfmaomhaaaChecked
import GoSem.Claim
import GoSem.ClaimJoined
import GoSem.ClaimMapViews
import Derived.JoinedTies
import Derived.KernelRfl
namespace Go.Proofs.Yteanncfmaomhaaa
/- THE CELL 'sum', in the pinned program and in every row, IS THE sha256 OF THE DUMP (.gsa) THAT YteanncfmaomhaaaProg.lean LOADS. Nothing in Lean hashes anything: it is a label: what it is worth is what the hold of that sum in a sandbox is worth. -/
noncomputable def Try.pinned : Pinned := { name := "yteanncfmaomhaaa", sum := "08a9626fe590125703ff5b421e83c3c3797496d361e3781e59278a3ec36fbf1f", checked := Try.checked }
namespace Rows
def none {H : Type} : Left H := { results := [], args := [] }

/-- 'tidemilllaw05.TopoChecks': WHATEVER THE INPUT: true; the input reads as it did. -/
def topoChecksSpec : ChangeSpec := { name := "topoChecks", fn := fun _ => fun
  | [d1, d2] => { results := [.lit (.bool true)], args := [d1, d2] }
  | _ => none }
def topoChecksRow : OpenClaim := { program := "yteanncfmaomhaaa", sum := "08a9626fe590125703ff5b421e83c3c3797496d361e3781e59278a3ec36fbf1f", func := "tidemill/tidemilllaw05.TopoChecks", spec := "topoChecks", unfollowed := true, recurses := true, loops := true, plainKeys := false, apart := false }
def TopoChecksSaid : Prop := topoChecksRow.holds Try.pinned (OpenSpec.ofChange topoChecksSpec)

/-- ITS FALSE NEIGHBOUR: 'it returns false'. Refute it at one input. -/
def topoChecksWrong : ChangeSpec := { name := "topoChecks", fn := fun _ => fun
  | [d1, d2] => { results := [.lit (.bool false)], args := [d1, d2] }
  | _ => none }
def TopoChecksWrongFalsely : Prop := topoChecksRow.holds Try.pinned (OpenSpec.ofChange topoChecksWrong)

/-- 'tidemilllaw05.TopoRings': WHATEVER THE INPUT: true; the input reads as it did. -/
def topoRingsSpec : ChangeSpec := { name := "topoRings", fn := fun _ => fun
  | [d] => { results := [.lit (.bool true)], args := [d] }
  | _ => none }
def topoRingsRow : OpenClaim := { program := "yteanncfmaomhaaa", sum := "08a9626fe590125703ff5b421e83c3c3797496d361e3781e59278a3ec36fbf1f", func := "tidemill/tidemilllaw05.TopoRings", spec := "topoRings", unfollowed := true, recurses := true, loops := true, plainKeys := false, apart := false }
def TopoRingsSaid : Prop := topoRingsRow.holds Try.pinned (OpenSpec.ofChange topoRingsSpec)

/-- ITS FALSE NEIGHBOUR: 'it returns false'. Refute it at one input. -/
def topoRingsWrong : ChangeSpec := { name := "topoRings", fn := fun _ => fun
  | [d] => { results := [.lit (.bool false)], args := [d] }
  | _ => none }
def TopoRingsWrongFalsely : Prop := topoRingsRow.holds Try.pinned (OpenSpec.ofChange topoRingsWrong)

/-- 'tidemilllaw05.TopoMore': WHATEVER THE INPUT: true; the input reads as it did. -/
def topoMoreSpec : ChangeSpec := { name := "topoMore", fn := fun _ => fun
  | [d1, d2] => { results := [.lit (.bool true)], args := [d1, d2] }
  | _ => none }
def topoMoreRow : OpenClaim := { program := "yteanncfmaomhaaa", sum := "08a9626fe590125703ff5b421e83c3c3797496d361e3781e59278a3ec36fbf1f", func := "tidemill/tidemilllaw05.TopoMore", spec := "topoMore", unfollowed := true, recurses := true, loops := true, plainKeys := false, apart := false }
def TopoMoreSaid : Prop := topoMoreRow.holds Try.pinned (OpenSpec.ofChange topoMoreSpec)

/-- ITS FALSE NEIGHBOUR: 'it returns false'. Refute it at one input. -/
def topoMoreWrong : ChangeSpec := { name := "topoMore", fn := fun _ => fun
  | [d1, d2] => { results := [.lit (.bool false)], args := [d1, d2] }
  | _ => none }
def TopoMoreWrongFalsely : Prop := topoMoreRow.holds Try.pinned (OpenSpec.ofChange topoMoreWrong)

/-- 'tidemilllaw05.TopoSinks': WHATEVER THE INPUT: true; the input reads as it did. -/
def topoSinksSpec : ChangeSpec := { name := "topoSinks", fn := fun _ => fun
  | [d1, d2, d3] => { results := [.lit (.bool true)], args := [d1, d2, d3] }
  | _ => none }
def topoSinksRow : OpenClaim := { program := "yteanncfmaomhaaa", sum := "08a9626fe590125703ff5b421e83c3c3797496d361e3781e59278a3ec36fbf1f", func := "tidemill/tidemilllaw05.TopoSinks", spec := "topoSinks", unfollowed := true, recurses := true, loops := true, plainKeys := false, apart := false }
def TopoSinksSaid : Prop := topoSinksRow.holds Try.pinned (OpenSpec.ofChange topoSinksSpec)

/-- ITS FALSE NEIGHBOUR: 'it returns false'. Refute it at one input. -/
def topoSinksWrong : ChangeSpec := { name := "topoSinks", fn := fun _ => fun
  | [d1, d2, d3] => { results := [.lit (.bool false)], args := [d1, d2, d3] }
  | _ => none }
def TopoSinksWrongFalsely : Prop := topoSinksRow.holds Try.pinned (OpenSpec.ofChange topoSinksWrong)

/-- 'tidemilllaw05.TopoBack': WHATEVER THE INPUT: true; the input reads as it did. -/
def topoBackSpec : ChangeSpec := { name := "topoBack", fn := fun _ => fun
  | [d1, d2] => { results := [.lit (.bool true)], args := [d1, d2] }
  | _ => none }
def topoBackRow : OpenClaim := { program := "yteanncfmaomhaaa", sum := "08a9626fe590125703ff5b421e83c3c3797496d361e3781e59278a3ec36fbf1f", func := "tidemill/tidemilllaw05.TopoBack", spec := "topoBack", unfollowed := true, recurses := true, loops := true, plainKeys := false, apart := false }
def TopoBackSaid : Prop := topoBackRow.holds Try.pinned (OpenSpec.ofChange topoBackSpec)

/-- ITS FALSE NEIGHBOUR: 'it returns false'. Refute it at one input. -/
def topoBackWrong : ChangeSpec := { name := "topoBack", fn := fun _ => fun
  | [d1, d2] => { results := [.lit (.bool false)], args := [d1, d2] }
  | _ => none }
def TopoBackWrongFalsely : Prop := topoBackRow.holds Try.pinned (OpenSpec.ofChange topoBackWrong)

/- THE SECOND FORM. 'bulk': how many values and letters a reading holds, each counted each time it is reached (what is shared counts as often as it is met; a slice's spare places count too). A statement '..UptoSaid' is the law's where the arguments, and the package variables that the reading takes, are together of bulk at most 1048576: NARROWER than '..Said'. Prove '..Said' where nothing that the law and all that it calls make is longer than what came in: it says more and counts as full. Else prove '..UptoSaid'. A law counts once. -/
mutual
def uptoBulk {H : Type} : DataW H → Nat
  | .lit (.string bytes) => bytes.length + 1
  | .lit _ => 1
  | .nil => 1
  | .ptr d => uptoBulk d + 1
  | .slice elems spare => uptoBulkAll elems + uptoBulkAll spare + 1
  | .agg parts => uptoBulkAll parts + 1
  | .iface _ d => uptoBulk d + 1
  | .map entries => uptoBulkEntries entries + 1
  | .held _ => 1
def uptoBulkAll {H : Type} : List (DataW H) → Nat
  | [] => 0
  | d :: r => uptoBulk d + uptoBulkAll r
def uptoBulkEntries {H : Type} : List (Lit × DataW H) → Nat
  | [] => 0
  | x :: r => uptoBulkEntry x + uptoBulkEntries r
def uptoBulkEntry {H : Type} : Lit × DataW H → Nat
  | (.string bytes, d) => bytes.length + uptoBulk d + 1
  | (_, d) => uptoBulk d + 1
 end
def uptoSmall : (H : Type) → List (DataW H) → Bool := fun _ ds => decide (uptoBulkAll ds ≤ 1048576)
def OpenSpec.upto (s : _root_.Go.ChangeSpec) : _root_.Go.OpenSpec := { _root_.Go.OpenSpec.ofChange s with cond := some uptoSmall }

/-- 'tidemilllaw05.TopoChecks', WHERE WHAT IT READS IS OF BULK AT MOST 1048576: true; the input reads as it did. -/
def topoChecksUptoRow : OpenClaim := { program := "yteanncfmaomhaaa", sum := "08a9626fe590125703ff5b421e83c3c3797496d361e3781e59278a3ec36fbf1f", func := "tidemill/tidemilllaw05.TopoChecks", spec := "topoChecks", unfollowed := true, recurses := true, loops := true, plainKeys := false, apart := false, narrowed := true }
def TopoChecksUptoSaid : Prop := topoChecksUptoRow.holds Try.pinned (OpenSpec.upto topoChecksSpec)

/-- 'tidemilllaw05.TopoRings', WHERE WHAT IT READS IS OF BULK AT MOST 1048576: true; the input reads as it did. -/
def topoRingsUptoRow : OpenClaim := { program := "yteanncfmaomhaaa", sum := "08a9626fe590125703ff5b421e83c3c3797496d361e3781e59278a3ec36fbf1f", func := "tidemill/tidemilllaw05.TopoRings", spec := "topoRings", unfollowed := true, recurses := true, loops := true, plainKeys := false, apart := false, narrowed := true }
def TopoRingsUptoSaid : Prop := topoRingsUptoRow.holds Try.pinned (OpenSpec.upto topoRingsSpec)

/-- 'tidemilllaw05.TopoMore', WHERE WHAT IT READS IS OF BULK AT MOST 1048576: true; the input reads as it did. -/
def topoMoreUptoRow : OpenClaim := { program := "yteanncfmaomhaaa", sum := "08a9626fe590125703ff5b421e83c3c3797496d361e3781e59278a3ec36fbf1f", func := "tidemill/tidemilllaw05.TopoMore", spec := "topoMore", unfollowed := true, recurses := true, loops := true, plainKeys := false, apart := false, narrowed := true }
def TopoMoreUptoSaid : Prop := topoMoreUptoRow.holds Try.pinned (OpenSpec.upto topoMoreSpec)

/-- 'tidemilllaw05.TopoSinks', WHERE WHAT IT READS IS OF BULK AT MOST 1048576: true; the input reads as it did. -/
def topoSinksUptoRow : OpenClaim := { program := "yteanncfmaomhaaa", sum := "08a9626fe590125703ff5b421e83c3c3797496d361e3781e59278a3ec36fbf1f", func := "tidemill/tidemilllaw05.TopoSinks", spec := "topoSinks", unfollowed := true, recurses := true, loops := true, plainKeys := false, apart := false, narrowed := true }
def TopoSinksUptoSaid : Prop := topoSinksUptoRow.holds Try.pinned (OpenSpec.upto topoSinksSpec)

/-- 'tidemilllaw05.TopoBack', WHERE WHAT IT READS IS OF BULK AT MOST 1048576: true; the input reads as it did. -/
def topoBackUptoRow : OpenClaim := { program := "yteanncfmaomhaaa", sum := "08a9626fe590125703ff5b421e83c3c3797496d361e3781e59278a3ec36fbf1f", func := "tidemill/tidemilllaw05.TopoBack", spec := "topoBack", unfollowed := true, recurses := true, loops := true, plainKeys := false, apart := false, narrowed := true }
def TopoBackUptoSaid : Prop := topoBackUptoRow.holds Try.pinned (OpenSpec.upto topoBackSpec)

end Rows
end Go.Proofs.Yteanncfmaomhaaa
