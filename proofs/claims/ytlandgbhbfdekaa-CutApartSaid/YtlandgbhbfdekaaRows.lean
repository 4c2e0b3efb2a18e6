/-
  NARROWER THAN 'FOR EVERY INPUT', by the rows' own cells (each row's printed sentence says how): CutKeys: loops · CutParts: loops · CutLogs: loops · CutNumbers: loops · CutApart: loops.
  DERIVED. THE GIVEN ROWS OF THIS SEAT. 6 by the template 'for every input the law returns true; each argument reads behind the call as it read before'; 0 by the template 'total and deterministic' (their statements: YtlandgbhbfdekaaTotals.lean).
  GIVEN WITH THE SEED: the statements are not yours to turn. If you find one false, say at which input.
  Laid BY PROGRAM, IN A SANDBOX (cutbox-rows.mjs): the forced cells as the released guide's own fill.sh prints them over the translation 136160be8f170c9d… (all of the seat's roots in one cut). By AI agents, Wed Nov 11 2026. No macro, syntax, notation, axiom, sorry.
-/
import Derived.Test.YtlandgbhbfdekaaChecked
import GoSem.Claim
import GoSem.ClaimJoined
import GoSem.ClaimMapViews
import Derived.JoinedTies
import Derived.KernelRfl
namespace Go.Proofs.Ytlandgbhbfdekaa
/- THE CELL 'sum', in the pinned program and in every row, IS THE sha256 OF THE DUMP (.gsa) THAT YtlandgbhbfdekaaProg.lean LOADS. Nothing in Lean hashes anything: it is a label: what it is worth is what the hold of that sum in a sandbox is worth. -/
noncomputable def Try.pinned : Pinned := { name := "ytlandgbhbfdekaa", sum := "136160be8f170c9db0134f3f314ed2374101e9557b2edd9b9935cd903245c80b", checked := Try.checked }
namespace Rows
def none {H : Type} : Left H := { results := [], args := [] }

/-- 'tidemilllaw16.CutKeys': WHATEVER THE INPUT: true; the input reads as it did. -/
def cutKeysSpec : ChangeSpec := { name := "cutKeys", fn := fun _ => fun
  | [d1, d2] => { results := [.lit (.bool true)], args := [d1, d2] }
  | _ => none }
def cutKeysRow : OpenClaim := { program := "ytlandgbhbfdekaa", sum := "136160be8f170c9db0134f3f314ed2374101e9557b2edd9b9935cd903245c80b", func := "tidemill/tidemilllaw16.CutKeys", spec := "cutKeys", unfollowed := true, recurses := true, loops := true, plainKeys := false, apart := false }
def CutKeysSaid : Prop := cutKeysRow.holds Try.pinned (OpenSpec.ofChange cutKeysSpec)

/-- ITS FALSE NEIGHBOUR: 'it returns false'. Refute it at one input. -/
def cutKeysWrong : ChangeSpec := { name := "cutKeys", fn := fun _ => fun
  | [d1, d2] => { results := [.lit (.bool false)], args := [d1, d2] }
  | _ => none }
def CutKeysWrongFalsely : Prop := cutKeysRow.holds Try.pinned (OpenSpec.ofChange cutKeysWrong)

/-- 'tidemilllaw16.CutSources': WHATEVER THE INPUT: true; the input reads as it did. -/
def cutSourcesSpec : ChangeSpec := { name := "cutSources", fn := fun _ => fun
  | [d1, d2] => { results := [.lit (.bool true)], args := [d1, d2] }
  | _ => none }
def cutSourcesRow : OpenClaim := { program := "ytlandgbhbfdekaa", sum := "136160be8f170c9db0134f3f314ed2374101e9557b2edd9b9935cd903245c80b", func := "tidemill/tidemilllaw16.CutSources", spec := "cutSources", unfollowed := true, recurses := true, plainKeys := false, apart := false }
def CutSourcesSaid : Prop := cutSourcesRow.holds Try.pinned (OpenSpec.ofChange cutSourcesSpec)

/-- ITS FALSE NEIGHBOUR: 'it returns false'. Refute it at one input. -/
def cutSourcesWrong : ChangeSpec := { name := "cutSources", fn := fun _ => fun
  | [d1, d2] => { results := [.lit (.bool false)], args := [d1, d2] }
  | _ => none }
def CutSourcesWrongFalsely : Prop := cutSourcesRow.holds Try.pinned (OpenSpec.ofChange cutSourcesWrong)

/-- 'tidemilllaw16.CutParts': WHATEVER THE INPUT: true; the input reads as it did. -/
def cutPartsSpec : ChangeSpec := { name := "cutParts", fn := fun _ => fun
  | [d1, d2, d3] => { results := [.lit (.bool true)], args := [d1, d2, d3] }
  | _ => none }
def cutPartsRow : OpenClaim := { program := "ytlandgbhbfdekaa", sum := "136160be8f170c9db0134f3f314ed2374101e9557b2edd9b9935cd903245c80b", func := "tidemill/tidemilllaw16.CutParts", spec := "cutParts", unfollowed := true, recurses := true, loops := true, plainKeys := false, apart := false }
def CutPartsSaid : Prop := cutPartsRow.holds Try.pinned (OpenSpec.ofChange cutPartsSpec)

/-- ITS FALSE NEIGHBOUR: 'it returns false'. Refute it at one input. -/
def cutPartsWrong : ChangeSpec := { name := "cutParts", fn := fun _ => fun
  | [d1, d2, d3] => { results := [.lit (.bool false)], args := [d1, d2, d3] }
  | _ => none }
def CutPartsWrongFalsely : Prop := cutPartsRow.holds Try.pinned (OpenSpec.ofChange cutPartsWrong)

/-- 'tidemilllaw16.CutLogs': WHATEVER THE INPUT: true; the input reads as it did. -/
def cutLogsSpec : ChangeSpec := { name := "cutLogs", fn := fun _ => fun
  | [d1, d2, d3, d4, d5] => { results := [.lit (.bool true)], args := [d1, d2, d3, d4, d5] }
  | _ => none }
def cutLogsRow : OpenClaim := { program := "ytlandgbhbfdekaa", sum := "136160be8f170c9db0134f3f314ed2374101e9557b2edd9b9935cd903245c80b", func := "tidemill/tidemilllaw16.CutLogs", spec := "cutLogs", unfollowed := true, recurses := true, loops := true, plainKeys := false, apart := false }
def CutLogsSaid : Prop := cutLogsRow.holds Try.pinned (OpenSpec.ofChange cutLogsSpec)

/-- ITS FALSE NEIGHBOUR: 'it returns false'. Refute it at one input. -/
def cutLogsWrong : ChangeSpec := { name := "cutLogs", fn := fun _ => fun
  | [d1, d2, d3, d4, d5] => { results := [.lit (.bool false)], args := [d1, d2, d3, d4, d5] }
  | _ => none }
def CutLogsWrongFalsely : Prop := cutLogsRow.holds Try.pinned (OpenSpec.ofChange cutLogsWrong)

/-- 'tidemilllaw16.CutNumbers': WHATEVER THE INPUT: true; the input reads as it did. -/
def cutNumbersSpec : ChangeSpec := { name := "cutNumbers", fn := fun _ => fun
  | [d1, d2, d3, d4] => { results := [.lit (.bool true)], args := [d1, d2, d3, d4] }
  | _ => none }
def cutNumbersRow : OpenClaim := { program := "ytlandgbhbfdekaa", sum := "136160be8f170c9db0134f3f314ed2374101e9557b2edd9b9935cd903245c80b", func := "tidemill/tidemilllaw16.CutNumbers", spec := "cutNumbers", unfollowed := true, recurses := true, loops := true, plainKeys := false, apart := false }
def CutNumbersSaid : Prop := cutNumbersRow.holds Try.pinned (OpenSpec.ofChange cutNumbersSpec)

/-- ITS FALSE NEIGHBOUR: 'it returns false'. Refute it at one input. -/
def cutNumbersWrong : ChangeSpec := { name := "cutNumbers", fn := fun _ => fun
  | [d1, d2, d3, d4] => { results := [.lit (.bool false)], args := [d1, d2, d3, d4] }
  | _ => none }
def CutNumbersWrongFalsely : Prop := cutNumbersRow.holds Try.pinned (OpenSpec.ofChange cutNumbersWrong)

/-- 'tidemilllaw16.CutApart': WHATEVER THE INPUT: true; the input reads as it did. -/
def cutApartSpec : ChangeSpec := { name := "cutApart", fn := fun _ => fun
  | [d] => { results := [.lit (.bool true)], args := [d] }
  | _ => none }
def cutApartRow : OpenClaim := { program := "ytlandgbhbfdekaa", sum := "136160be8f170c9db0134f3f314ed2374101e9557b2edd9b9935cd903245c80b", func := "tidemill/tidemilllaw16.CutApart", spec := "cutApart", unfollowed := true, recurses := true, loops := true, plainKeys := false, apart := false }
def CutApartSaid : Prop := cutApartRow.holds Try.pinned (OpenSpec.ofChange cutApartSpec)

/-- ITS FALSE NEIGHBOUR: 'it returns false'. Refute it at one input. -/
def cutApartWrong : ChangeSpec := { name := "cutApart", fn := fun _ => fun
  | [d] => { results := [.lit (.bool false)], args := [d] }
  | _ => none }
def CutApartWrongFalsely : Prop := cutApartRow.holds Try.pinned (OpenSpec.ofChange cutApartWrong)

/- THE SECOND FORM. 'bulk': how many values and letters a reading holds, each counted each time it is reached (what is shared counts as often as it is met; a slice's spare places count too). A statement '..UptoSaid' is the law's where the arguments, and the package variables that the reading takes, are together of bulk at most 1048576: NARROWER than '..Said'. Prove '..Said' where nothing that the law and all that it calls make is longer than what came in: it says more and counts as full. Else prove '..UptoSaid'. A law counts once. -/
mutual
def uptoBulk {H : Type} : DataW H → Nat
  | .lit (.string bytes) => bytes.length + 1
  | .lit _ => 1
  | .nil => 1
  | .ptr d => uptoBulk d + 1
  | .slice elems spare => uptoBulkAll elems + uptoBulkAll spare + 1
  | .agg parts => uptoBulkAll parts + 1
  | .iface _ d => uptoBulk d + 1
  | .map entries => uptoBulkEntries entries + 1
  | .held _ => 1
def uptoBulkAll {H : Type} : List (DataW H) → Nat
  | [] => 0
  | d :: r => uptoBulk d + uptoBulkAll r
def uptoBulkEntries {H : Type} : List (Lit × DataW H) → Nat
  | [] => 0
  | x :: r => uptoBulkEntry x + uptoBulkEntries r
def uptoBulkEntry {H : Type} : Lit × DataW H → Nat
  | (.string bytes, d) => bytes.length + uptoBulk d + 1
  | (_, d) => uptoBulk d + 1
 end
def uptoSmall : (H : Type) → List (DataW H) → Bool := fun _ ds => decide (uptoBulkAll ds ≤ 1048576)
def OpenSpec.upto (s : _root_.Go.ChangeSpec) : _root_.Go.OpenSpec := { _root_.Go.OpenSpec.ofChange s with cond := some uptoSmall }

/-- 'tidemilllaw16.CutKeys', WHERE WHAT IT READS IS OF BULK AT MOST 1048576: true; the input reads as it did. -/
def cutKeysUptoRow : OpenClaim := { program := "ytlandgbhbfdekaa", sum := "136160be8f170c9db0134f3f314ed2374101e9557b2edd9b9935cd903245c80b", func := "tidemill/tidemilllaw16.CutKeys", spec := "cutKeys", unfollowed := true, recurses := true, loops := true, plainKeys := false, apart := false, narrowed := true }
def CutKeysUptoSaid : Prop := cutKeysUptoRow.holds Try.pinned (OpenSpec.upto cutKeysSpec)

/-- 'tidemilllaw16.CutSources', WHERE WHAT IT READS IS OF BULK AT MOST 1048576: true; the input reads as it did. -/
def cutSourcesUptoRow : OpenClaim := { program := "ytlandgbhbfdekaa", sum := "136160be8f170c9db0134f3f314ed2374101e9557b2edd9b9935cd903245c80b", func := "tidemill/tidemilllaw16.CutSources", spec := "cutSources", unfollowed := true, recurses := true, plainKeys := false, apart := false, narrowed := true }
def CutSourcesUptoSaid : Prop := cutSourcesUptoRow.holds Try.pinned (OpenSpec.upto cutSourcesSpec)

/-- 'tidemilllaw16.CutParts', WHERE WHAT IT READS IS OF BULK AT MOST 1048576: true; the input reads as it did. -/
def cutPartsUptoRow : OpenClaim := { program := "ytlandgbhbfdekaa", sum := "136160be8f170c9db0134f3f314ed2374101e9557b2edd9b9935cd903245c80b", func := "tidemill/tidemilllaw16.CutParts", spec := "cutParts", unfollowed := true, recurses := true, loops := true, plainKeys := false, apart := false, narrowed := true }
def CutPartsUptoSaid : Prop := cutPartsUptoRow.holds Try.pinned (OpenSpec.upto cutPartsSpec)

/-- 'tidemilllaw16.CutLogs', WHERE WHAT IT READS IS OF BULK AT MOST 1048576: true; the input reads as it did. -/
def cutLogsUptoRow : OpenClaim := { program := "ytlandgbhbfdekaa", sum := "136160be8f170c9db0134f3f314ed2374101e9557b2edd9b9935cd903245c80b", func := "tidemill/tidemilllaw16.CutLogs", spec := "cutLogs", unfollowed := true, recurses := true, loops := true, plainKeys := false, apart := false, narrowed := true }
def CutLogsUptoSaid : Prop := cutLogsUptoRow.holds Try.pinned (OpenSpec.upto cutLogsSpec)

/-- 'tidemilllaw16.CutNumbers', WHERE WHAT IT READS IS OF BULK AT MOST 1048576: true; the input reads as it did. -/
def cutNumbersUptoRow : OpenClaim := { program := "ytlandgbhbfdekaa", sum := "136160be8f170c9db0134f3f314ed2374101e9557b2edd9b9935cd903245c80b", func := "tidemill/tidemilllaw16.CutNumbers", spec := "cutNumbers", unfollowed := true, recurses := true, loops := true, plainKeys := false, apart := false, narrowed := true }
def CutNumbersUptoSaid : Prop := cutNumbersUptoRow.holds Try.pinned (OpenSpec.upto cutNumbersSpec)

/-- 'tidemilllaw16.CutApart', WHERE WHAT IT READS IS OF BULK AT MOST 1048576: true; the input reads as it did. -/
def cutApartUptoRow : OpenClaim := { program := "ytlandgbhbfdekaa", sum := "136160be8f170c9db0134f3f314ed2374101e9557b2edd9b9935cd903245c80b", func := "tidemill/tidemilllaw16.CutApart", spec := "cutApart", unfollowed := true, recurses := true, loops := true, plainKeys := false, apart := false, narrowed := true }
def CutApartUptoSaid : Prop := cutApartUptoRow.holds Try.pinned (OpenSpec.upto cutApartSpec)

end Rows
end Go.Proofs.Ytlandgbhbfdekaa
