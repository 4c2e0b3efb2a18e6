/-
  No cell of these rows narrows 'for every input' (looked for: loops, veiled, ifaces, maps, wideKeys, modest, calm, conditions, laid).
  DERIVED. THE GIVEN ROWS OF THIS SEAT. 6 by the template 'for every input the law returns true; each argument reads behind the call as it read before'; 0 by the template 'total and deterministic' (their statements: YtlnpnlacalppjaaTotals.lean).
  GIVEN WITH THE SEED: the statements are not yours to turn. If you find one false, say at which input.
  Laid BY PROGRAM, IN A SANDBOX (cutbox-rows.mjs): the forced cells as the released guide's own fill.sh prints them over the translation b5b87a2ad644dc8e… (all of the seat's roots in one cut). By AI agents, Wed Nov 11 2026. No macro, syntax, notation, axiom, sorry.
-/
import Derived.Test.YtlnpnlacalppjaaChecked
import GoSem.Claim
import GoSem.ClaimJoined
import GoSem.ClaimMapViews
import Derived.JoinedTies
import Derived.KernelRfl
namespace Go.Proofs.Ytlnpnlacalppjaa
/- THE CELL 'sum', in the pinned program and in every row, IS THE sha256 OF THE DUMP (.gsa) THAT YtlnpnlacalppjaaProg.lean LOADS. Nothing in Lean hashes anything: it is a label: what it is worth is what the hold of that sum in a sandbox is worth. -/
noncomputable def Try.pinned : Pinned := { name := "ytlnpnlacalppjaa", sum := "b5b87a2ad644dc8eb0deaae5e694a8cecd1d872750e5200fcbbc2051f2a1e3cf", checked := Try.checked }
namespace Rows
def none {H : Type} : Left H := { results := [], args := [] }

/-- 'tidemilllaw12.KvOrder': WHATEVER THE INPUT: true; the input reads as it did. -/
def kvOrderSpec : ChangeSpec := { name := "kvOrder", fn := fun _ => fun
  | [d1, d2] => { results := [.lit (.bool true)], args := [d1, d2] }
  | _ => none }
def kvOrderRow : OpenClaim := { program := "ytlnpnlacalppjaa", sum := "b5b87a2ad644dc8eb0deaae5e694a8cecd1d872750e5200fcbbc2051f2a1e3cf", func := "tidemill/tidemilllaw12.KvOrder", spec := "kvOrder", inPlace := ["slices.overlaps[tidemill/kv.pair]"], unfollowed := true, recurses := true, apart := false }
def KvOrderSaid : Prop := kvOrderRow.holds Try.pinned (OpenSpec.ofChange kvOrderSpec)

/-- ITS FALSE NEIGHBOUR: 'it returns false'. Refute it at one input. -/
def kvOrderWrong : ChangeSpec := { name := "kvOrder", fn := fun _ => fun
  | [d1, d2] => { results := [.lit (.bool false)], args := [d1, d2] }
  | _ => none }
def KvOrderWrongFalsely : Prop := kvOrderRow.holds Try.pinned (OpenSpec.ofChange kvOrderWrong)

/-- 'tidemilllaw12.KvFull': WHATEVER THE INPUT: true; the input reads as it did. -/
def kvFullSpec : ChangeSpec := { name := "kvFull", fn := fun _ => fun
  | [d1, d2] => { results := [.lit (.bool true)], args := [d1, d2] }
  | _ => none }
def kvFullRow : OpenClaim := { program := "ytlnpnlacalppjaa", sum := "b5b87a2ad644dc8eb0deaae5e694a8cecd1d872750e5200fcbbc2051f2a1e3cf", func := "tidemill/tidemilllaw12.KvFull", spec := "kvFull", inPlace := ["slices.overlaps[tidemill/kv.pair]"], unfollowed := true, recurses := true, apart := false }
def KvFullSaid : Prop := kvFullRow.holds Try.pinned (OpenSpec.ofChange kvFullSpec)

/-- ITS FALSE NEIGHBOUR: 'it returns false'. Refute it at one input. -/
def kvFullWrong : ChangeSpec := { name := "kvFull", fn := fun _ => fun
  | [d1, d2] => { results := [.lit (.bool false)], args := [d1, d2] }
  | _ => none }
def KvFullWrongFalsely : Prop := kvFullRow.holds Try.pinned (OpenSpec.ofChange kvFullWrong)

/-- 'tidemilllaw12.KvAgain': WHATEVER THE INPUT: true; the input reads as it did. -/
def kvAgainSpec : ChangeSpec := { name := "kvAgain", fn := fun _ => fun
  | [d] => { results := [.lit (.bool true)], args := [d] }
  | _ => none }
def kvAgainRow : OpenClaim := { program := "ytlnpnlacalppjaa", sum := "b5b87a2ad644dc8eb0deaae5e694a8cecd1d872750e5200fcbbc2051f2a1e3cf", func := "tidemill/tidemilllaw12.KvAgain", spec := "kvAgain", inPlace := ["slices.overlaps[tidemill/kv.pair]"], unfollowed := true, recurses := true, apart := false }
def KvAgainSaid : Prop := kvAgainRow.holds Try.pinned (OpenSpec.ofChange kvAgainSpec)

/-- ITS FALSE NEIGHBOUR: 'it returns false'. Refute it at one input. -/
def kvAgainWrong : ChangeSpec := { name := "kvAgain", fn := fun _ => fun
  | [d] => { results := [.lit (.bool false)], args := [d] }
  | _ => none }
def KvAgainWrongFalsely : Prop := kvAgainRow.holds Try.pinned (OpenSpec.ofChange kvAgainWrong)

/-- 'tidemilllaw12.KvLast': WHATEVER THE INPUT: true; the input reads as it did. -/
def kvLastSpec : ChangeSpec := { name := "kvLast", fn := fun _ => fun
  | [d1, d2, d3, d4] => { results := [.lit (.bool true)], args := [d1, d2, d3, d4] }
  | _ => none }
def kvLastRow : OpenClaim := { program := "ytlnpnlacalppjaa", sum := "b5b87a2ad644dc8eb0deaae5e694a8cecd1d872750e5200fcbbc2051f2a1e3cf", func := "tidemill/tidemilllaw12.KvLast", spec := "kvLast", inPlace := ["slices.overlaps[tidemill/kv.pair]"], unfollowed := true, recurses := true, apart := false }
def KvLastSaid : Prop := kvLastRow.holds Try.pinned (OpenSpec.ofChange kvLastSpec)

/-- ITS FALSE NEIGHBOUR: 'it returns false'. Refute it at one input. -/
def kvLastWrong : ChangeSpec := { name := "kvLast", fn := fun _ => fun
  | [d1, d2, d3, d4] => { results := [.lit (.bool false)], args := [d1, d2, d3, d4] }
  | _ => none }
def KvLastWrongFalsely : Prop := kvLastRow.holds Try.pinned (OpenSpec.ofChange kvLastWrong)

/-- 'tidemilllaw12.KvPlays': WHATEVER THE INPUT: true; the input reads as it did. -/
def kvPlaysSpec : ChangeSpec := { name := "kvPlays", fn := fun _ => fun
  | [d1, d2] => { results := [.lit (.bool true)], args := [d1, d2] }
  | _ => none }
def kvPlaysRow : OpenClaim := { program := "ytlnpnlacalppjaa", sum := "b5b87a2ad644dc8eb0deaae5e694a8cecd1d872750e5200fcbbc2051f2a1e3cf", func := "tidemill/tidemilllaw12.KvPlays", spec := "kvPlays", inPlace := ["slices.overlaps[tidemill/kv.pair]"], unfollowed := true, recurses := true, apart := false }
def KvPlaysSaid : Prop := kvPlaysRow.holds Try.pinned (OpenSpec.ofChange kvPlaysSpec)

/-- ITS FALSE NEIGHBOUR: 'it returns false'. Refute it at one input. -/
def kvPlaysWrong : ChangeSpec := { name := "kvPlays", fn := fun _ => fun
  | [d1, d2] => { results := [.lit (.bool false)], args := [d1, d2] }
  | _ => none }
def KvPlaysWrongFalsely : Prop := kvPlaysRow.holds Try.pinned (OpenSpec.ofChange kvPlaysWrong)

/-- 'tidemilllaw12.KvNobody': WHATEVER THE INPUT: true; the input reads as it did. -/
def kvNobodySpec : ChangeSpec := { name := "kvNobody", fn := fun _ => fun
  | [d1, d2] => { results := [.lit (.bool true)], args := [d1, d2] }
  | _ => none }
def kvNobodyRow : OpenClaim := { program := "ytlnpnlacalppjaa", sum := "b5b87a2ad644dc8eb0deaae5e694a8cecd1d872750e5200fcbbc2051f2a1e3cf", func := "tidemill/tidemilllaw12.KvNobody", spec := "kvNobody", inPlace := ["slices.overlaps[tidemill/kv.pair]"], unfollowed := true, recurses := true, apart := false }
def KvNobodySaid : Prop := kvNobodyRow.holds Try.pinned (OpenSpec.ofChange kvNobodySpec)

/-- ITS FALSE NEIGHBOUR: 'it returns false'. Refute it at one input. -/
def kvNobodyWrong : ChangeSpec := { name := "kvNobody", fn := fun _ => fun
  | [d1, d2] => { results := [.lit (.bool false)], args := [d1, d2] }
  | _ => none }
def KvNobodyWrongFalsely : Prop := kvNobodyRow.holds Try.pinned (OpenSpec.ofChange kvNobodyWrong)

/- THE SECOND FORM. 'bulk': how many values and letters a reading holds, each counted each time it is reached (what is shared counts as often as it is met; a slice's spare places count too). A statement '..UptoSaid' is the law's where the arguments, and the package variables that the reading takes, are together of bulk at most 1048576: NARROWER than '..Said'. Prove '..Said' where nothing that the law and all that it calls make is longer than what came in: it says more and counts as full. Else prove '..UptoSaid'. A law counts once. -/
mutual
def uptoBulk {H : Type} : DataW H → Nat
  | .lit (.string bytes) => bytes.length + 1
  | .lit _ => 1
  | .nil => 1
  | .ptr d => uptoBulk d + 1
  | .slice elems spare => uptoBulkAll elems + uptoBulkAll spare + 1
  | .agg parts => uptoBulkAll parts + 1
  | .iface _ d => uptoBulk d + 1
  | .map entries => uptoBulkEntries entries + 1
  | .held _ => 1
def uptoBulkAll {H : Type} : List (DataW H) → Nat
  | [] => 0
  | d :: r => uptoBulk d + uptoBulkAll r
def uptoBulkEntries {H : Type} : List (Lit × DataW H) → Nat
  | [] => 0
  | x :: r => uptoBulkEntry x + uptoBulkEntries r
def uptoBulkEntry {H : Type} : Lit × DataW H → Nat
  | (.string bytes, d) => bytes.length + uptoBulk d + 1
  | (_, d) => uptoBulk d + 1
 end
def uptoSmall : (H : Type) → List (DataW H) → Bool := fun _ ds => decide (uptoBulkAll ds ≤ 1048576)
def OpenSpec.upto (s : _root_.Go.ChangeSpec) : _root_.Go.OpenSpec := { _root_.Go.OpenSpec.ofChange s with cond := some uptoSmall }

/-- 'tidemilllaw12.KvOrder', WHERE WHAT IT READS IS OF BULK AT MOST 1048576: true; the input reads as it did. -/
def kvOrderUptoRow : OpenClaim := { program := "ytlnpnlacalppjaa", sum := "b5b87a2ad644dc8eb0deaae5e694a8cecd1d872750e5200fcbbc2051f2a1e3cf", func := "tidemill/tidemilllaw12.KvOrder", spec := "kvOrder", inPlace := ["slices.overlaps[tidemill/kv.pair]"], unfollowed := true, recurses := true, apart := false, narrowed := true }
def KvOrderUptoSaid : Prop := kvOrderUptoRow.holds Try.pinned (OpenSpec.upto kvOrderSpec)

/-- 'tidemilllaw12.KvFull', WHERE WHAT IT READS IS OF BULK AT MOST 1048576: true; the input reads as it did. -/
def kvFullUptoRow : OpenClaim := { program := "ytlnpnlacalppjaa", sum := "b5b87a2ad644dc8eb0deaae5e694a8cecd1d872750e5200fcbbc2051f2a1e3cf", func := "tidemill/tidemilllaw12.KvFull", spec := "kvFull", inPlace := ["slices.overlaps[tidemill/kv.pair]"], unfollowed := true, recurses := true, apart := false, narrowed := true }
def KvFullUptoSaid : Prop := kvFullUptoRow.holds Try.pinned (OpenSpec.upto kvFullSpec)

/-- 'tidemilllaw12.KvAgain', WHERE WHAT IT READS IS OF BULK AT MOST 1048576: true; the input reads as it did. -/
def kvAgainUptoRow : OpenClaim := { program := "ytlnpnlacalppjaa", sum := "b5b87a2ad644dc8eb0deaae5e694a8cecd1d872750e5200fcbbc2051f2a1e3cf", func := "tidemill/tidemilllaw12.KvAgain", spec := "kvAgain", inPlace := ["slices.overlaps[tidemill/kv.pair]"], unfollowed := true, recurses := true, apart := false, narrowed := true }
def KvAgainUptoSaid : Prop := kvAgainUptoRow.holds Try.pinned (OpenSpec.upto kvAgainSpec)

/-- 'tidemilllaw12.KvLast', WHERE WHAT IT READS IS OF BULK AT MOST 1048576: true; the input reads as it did. -/
def kvLastUptoRow : OpenClaim := { program := "ytlnpnlacalppjaa", sum := "b5b87a2ad644dc8eb0deaae5e694a8cecd1d872750e5200fcbbc2051f2a1e3cf", func := "tidemill/tidemilllaw12.KvLast", spec := "kvLast", inPlace := ["slices.overlaps[tidemill/kv.pair]"], unfollowed := true, recurses := true, apart := false, narrowed := true }
def KvLastUptoSaid : Prop := kvLastUptoRow.holds Try.pinned (OpenSpec.upto kvLastSpec)

/-- 'tidemilllaw12.KvPlays', WHERE WHAT IT READS IS OF BULK AT MOST 1048576: true; the input reads as it did. -/
def kvPlaysUptoRow : OpenClaim := { program := "ytlnpnlacalppjaa", sum := "b5b87a2ad644dc8eb0deaae5e694a8cecd1d872750e5200fcbbc2051f2a1e3cf", func := "tidemill/tidemilllaw12.KvPlays", spec := "kvPlays", inPlace := ["slices.overlaps[tidemill/kv.pair]"], unfollowed := true, recurses := true, apart := false, narrowed := true }
def KvPlaysUptoSaid : Prop := kvPlaysUptoRow.holds Try.pinned (OpenSpec.upto kvPlaysSpec)

/-- 'tidemilllaw12.KvNobody', WHERE WHAT IT READS IS OF BULK AT MOST 1048576: true; the input reads as it did. -/
def kvNobodyUptoRow : OpenClaim := { program := "ytlnpnlacalppjaa", sum := "b5b87a2ad644dc8eb0deaae5e694a8cecd1d872750e5200fcbbc2051f2a1e3cf", func := "tidemill/tidemilllaw12.KvNobody", spec := "kvNobody", inPlace := ["slices.overlaps[tidemill/kv.pair]"], unfollowed := true, recurses := true, apart := false, narrowed := true }
def KvNobodyUptoSaid : Prop := kvNobodyUptoRow.holds Try.pinned (OpenSpec.upto kvNobodySpec)

end Rows
end Go.Proofs.Ytlnpnlacalppjaa
