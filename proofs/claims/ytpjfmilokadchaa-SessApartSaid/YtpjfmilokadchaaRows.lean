/-
  No cell of these rows narrows 'for every input' (looked for: loops, veiled, ifaces, maps, wideKeys, modest, calm, conditions, laid).
  DERIVED. THE GIVEN ROWS OF THIS SEAT. 5 by the template 'for every input the law returns true; each argument reads behind the call as it read before'; 0 by the template 'total and deterministic' (their statements: YtpjfmilokadchaaTotals.lean).
  GIVEN WITH THE SEED: the statements are not yours to turn. If you find one false, say at which input.
  Laid BY PROGRAM, IN A SANDBOX (cutbox-rows.mjs): the forced cells as the released guide's own fill.sh prints them over the translation 0abfe37f0c9d7227… (all of the seat's roots in one cut). By AI agents, Wed Nov 11 2026. No macro, syntax, notation, axiom, sorry.
-/
import Derived.Test.YtpjfmilokadchaaChecked
import GoSem.Claim
import GoSem.ClaimJoined
import GoSem.ClaimMapViews
import Derived.JoinedTies
import Derived.KernelRfl
namespace Go.Proofs.Ytpjfmilokadchaa
/- THE CELL 'sum', in the pinned program and in every row, IS THE sha256 OF THE DUMP (.gsa) THAT YtpjfmilokadchaaProg.lean LOADS. Nothing in Lean hashes anything: it is a label: what it is worth is what the hold of that sum in a sandbox is worth. -/
noncomputable def Try.pinned : Pinned := { name := "ytpjfmilokadchaa", sum := "0abfe37f0c9d7227fbb75bc92e61e597a8604beb82c759272723592d21ab478a", checked := Try.checked }
namespace Rows
def none {H : Type} : Left H := { results := [], args := [] }

/-- 'tidemilllaw14.SessTakes': WHATEVER THE INPUT: true; the input reads as it did. -/
def sessTakesSpec : ChangeSpec := { name := "sessTakes", fn := fun _ => fun
  | [d1, d2, d3, d4, d5] => { results := [.lit (.bool true)], args := [d1, d2, d3, d4, d5] }
  | _ => none }
def sessTakesRow : OpenClaim := { program := "ytpjfmilokadchaa", sum := "0abfe37f0c9d7227fbb75bc92e61e597a8604beb82c759272723592d21ab478a", func := "tidemill/tidemilllaw14.SessTakes", spec := "sessTakes", inPlace := ["slices.overlaps[tidemill/sess.session]"], unfollowed := true, recurses := true, apart := false }
def SessTakesSaid : Prop := sessTakesRow.holds Try.pinned (OpenSpec.ofChange sessTakesSpec)

/-- ITS FALSE NEIGHBOUR: 'it returns false'. Refute it at one input. -/
def sessTakesWrong : ChangeSpec := { name := "sessTakes", fn := fun _ => fun
  | [d1, d2, d3, d4, d5] => { results := [.lit (.bool false)], args := [d1, d2, d3, d4, d5] }
  | _ => none }
def SessTakesWrongFalsely : Prop := sessTakesRow.holds Try.pinned (OpenSpec.ofChange sessTakesWrong)

/-- 'tidemilllaw14.SessApart': WHATEVER THE INPUT: true; the input reads as it did. -/
def sessApartSpec : ChangeSpec := { name := "sessApart", fn := fun _ => fun
  | [d1, d2] => { results := [.lit (.bool true)], args := [d1, d2] }
  | _ => none }
def sessApartRow : OpenClaim := { program := "ytpjfmilokadchaa", sum := "0abfe37f0c9d7227fbb75bc92e61e597a8604beb82c759272723592d21ab478a", func := "tidemill/tidemilllaw14.SessApart", spec := "sessApart", inPlace := ["slices.overlaps[tidemill/sess.session]"], unfollowed := true, recurses := true, apart := false }
def SessApartSaid : Prop := sessApartRow.holds Try.pinned (OpenSpec.ofChange sessApartSpec)

/-- ITS FALSE NEIGHBOUR: 'it returns false'. Refute it at one input. -/
def sessApartWrong : ChangeSpec := { name := "sessApart", fn := fun _ => fun
  | [d1, d2] => { results := [.lit (.bool false)], args := [d1, d2] }
  | _ => none }
def SessApartWrongFalsely : Prop := sessApartRow.holds Try.pinned (OpenSpec.ofChange sessApartWrong)

/-- 'tidemilllaw14.SessOrder': WHATEVER THE INPUT: true; the input reads as it did. -/
def sessOrderSpec : ChangeSpec := { name := "sessOrder", fn := fun _ => fun
  | [d1, d2] => { results := [.lit (.bool true)], args := [d1, d2] }
  | _ => none }
def sessOrderRow : OpenClaim := { program := "ytpjfmilokadchaa", sum := "0abfe37f0c9d7227fbb75bc92e61e597a8604beb82c759272723592d21ab478a", func := "tidemill/tidemilllaw14.SessOrder", spec := "sessOrder", inPlace := ["slices.overlaps[tidemill/sess.session]"], unfollowed := true, recurses := true, apart := false }
def SessOrderSaid : Prop := sessOrderRow.holds Try.pinned (OpenSpec.ofChange sessOrderSpec)

/-- ITS FALSE NEIGHBOUR: 'it returns false'. Refute it at one input. -/
def sessOrderWrong : ChangeSpec := { name := "sessOrder", fn := fun _ => fun
  | [d1, d2] => { results := [.lit (.bool false)], args := [d1, d2] }
  | _ => none }
def SessOrderWrongFalsely : Prop := sessOrderRow.holds Try.pinned (OpenSpec.ofChange sessOrderWrong)

/-- 'tidemilllaw14.SessAgain': WHATEVER THE INPUT: true; the input reads as it did. -/
def sessAgainSpec : ChangeSpec := { name := "sessAgain", fn := fun _ => fun
  | [d1, d2] => { results := [.lit (.bool true)], args := [d1, d2] }
  | _ => none }
def sessAgainRow : OpenClaim := { program := "ytpjfmilokadchaa", sum := "0abfe37f0c9d7227fbb75bc92e61e597a8604beb82c759272723592d21ab478a", func := "tidemill/tidemilllaw14.SessAgain", spec := "sessAgain", inPlace := ["slices.overlaps[tidemill/sess.session]"], unfollowed := true, recurses := true, apart := false }
def SessAgainSaid : Prop := sessAgainRow.holds Try.pinned (OpenSpec.ofChange sessAgainSpec)

/-- ITS FALSE NEIGHBOUR: 'it returns false'. Refute it at one input. -/
def sessAgainWrong : ChangeSpec := { name := "sessAgain", fn := fun _ => fun
  | [d1, d2] => { results := [.lit (.bool false)], args := [d1, d2] }
  | _ => none }
def SessAgainWrongFalsely : Prop := sessAgainRow.holds Try.pinned (OpenSpec.ofChange sessAgainWrong)

/-- 'tidemilllaw14.SessNobody': WHATEVER THE INPUT: true; the input reads as it did. -/
def sessNobodySpec : ChangeSpec := { name := "sessNobody", fn := fun _ => fun
  | [d1, d2] => { results := [.lit (.bool true)], args := [d1, d2] }
  | _ => none }
def sessNobodyRow : OpenClaim := { program := "ytpjfmilokadchaa", sum := "0abfe37f0c9d7227fbb75bc92e61e597a8604beb82c759272723592d21ab478a", func := "tidemill/tidemilllaw14.SessNobody", spec := "sessNobody", inPlace := ["slices.overlaps[tidemill/sess.session]"], unfollowed := true, recurses := true, apart := false }
def SessNobodySaid : Prop := sessNobodyRow.holds Try.pinned (OpenSpec.ofChange sessNobodySpec)

/-- ITS FALSE NEIGHBOUR: 'it returns false'. Refute it at one input. -/
def sessNobodyWrong : ChangeSpec := { name := "sessNobody", fn := fun _ => fun
  | [d1, d2] => { results := [.lit (.bool false)], args := [d1, d2] }
  | _ => none }
def SessNobodyWrongFalsely : Prop := sessNobodyRow.holds Try.pinned (OpenSpec.ofChange sessNobodyWrong)

/- THE SECOND FORM. 'bulk': how many values and letters a reading holds, each counted each time it is reached (what is shared counts as often as it is met; a slice's spare places count too). A statement '..UptoSaid' is the law's where the arguments, and the package variables that the reading takes, are together of bulk at most 1048576: NARROWER than '..Said'. Prove '..Said' where nothing that the law and all that it calls make is longer than what came in: it says more and counts as full. Else prove '..UptoSaid'. A law counts once. -/
mutual
def uptoBulk {H : Type} : DataW H → Nat
  | .lit (.string bytes) => bytes.length + 1
  | .lit _ => 1
  | .nil => 1
  | .ptr d => uptoBulk d + 1
  | .slice elems spare => uptoBulkAll elems + uptoBulkAll spare + 1
  | .agg parts => uptoBulkAll parts + 1
  | .iface _ d => uptoBulk d + 1
  | .map entries => uptoBulkEntries entries + 1
  | .held _ => 1
def uptoBulkAll {H : Type} : List (DataW H) → Nat
  | [] => 0
  | d :: r => uptoBulk d + uptoBulkAll r
def uptoBulkEntries {H : Type} : List (Lit × DataW H) → Nat
  | [] => 0
  | x :: r => uptoBulkEntry x + uptoBulkEntries r
def uptoBulkEntry {H : Type} : Lit × DataW H → Nat
  | (.string bytes, d) => bytes.length + uptoBulk d + 1
  | (_, d) => uptoBulk d + 1
 end
def uptoSmall : (H : Type) → List (DataW H) → Bool := fun _ ds => decide (uptoBulkAll ds ≤ 1048576)
def OpenSpec.upto (s : _root_.Go.ChangeSpec) : _root_.Go.OpenSpec := { _root_.Go.OpenSpec.ofChange s with cond := some uptoSmall }

/-- 'tidemilllaw14.SessTakes', WHERE WHAT IT READS IS OF BULK AT MOST 1048576: true; the input reads as it did. -/
def sessTakesUptoRow : OpenClaim := { program := "ytpjfmilokadchaa", sum := "0abfe37f0c9d7227fbb75bc92e61e597a8604beb82c759272723592d21ab478a", func := "tidemill/tidemilllaw14.SessTakes", spec := "sessTakes", inPlace := ["slices.overlaps[tidemill/sess.session]"], unfollowed := true, recurses := true, apart := false, narrowed := true }
def SessTakesUptoSaid : Prop := sessTakesUptoRow.holds Try.pinned (OpenSpec.upto sessTakesSpec)

/-- 'tidemilllaw14.SessApart', WHERE WHAT IT READS IS OF BULK AT MOST 1048576: true; the input reads as it did. -/
def sessApartUptoRow : OpenClaim := { program := "ytpjfmilokadchaa", sum := "0abfe37f0c9d7227fbb75bc92e61e597a8604beb82c759272723592d21ab478a", func := "tidemill/tidemilllaw14.SessApart", spec := "sessApart", inPlace := ["slices.overlaps[tidemill/sess.session]"], unfollowed := true, recurses := true, apart := false, narrowed := true }
def SessApartUptoSaid : Prop := sessApartUptoRow.holds Try.pinned (OpenSpec.upto sessApartSpec)

/-- 'tidemilllaw14.SessOrder', WHERE WHAT IT READS IS OF BULK AT MOST 1048576: true; the input reads as it did. -/
def sessOrderUptoRow : OpenClaim := { program := "ytpjfmilokadchaa", sum := "0abfe37f0c9d7227fbb75bc92e61e597a8604beb82c759272723592d21ab478a", func := "tidemill/tidemilllaw14.SessOrder", spec := "sessOrder", inPlace := ["slices.overlaps[tidemill/sess.session]"], unfollowed := true, recurses := true, apart := false, narrowed := true }
def SessOrderUptoSaid : Prop := sessOrderUptoRow.holds Try.pinned (OpenSpec.upto sessOrderSpec)

/-- 'tidemilllaw14.SessAgain', WHERE WHAT IT READS IS OF BULK AT MOST 1048576: true; the input reads as it did. -/
def sessAgainUptoRow : OpenClaim := { program := "ytpjfmilokadchaa", sum := "0abfe37f0c9d7227fbb75bc92e61e597a8604beb82c759272723592d21ab478a", func := "tidemill/tidemilllaw14.SessAgain", spec := "sessAgain", inPlace := ["slices.overlaps[tidemill/sess.session]"], unfollowed := true, recurses := true, apart := false, narrowed := true }
def SessAgainUptoSaid : Prop := sessAgainUptoRow.holds Try.pinned (OpenSpec.upto sessAgainSpec)

/-- 'tidemilllaw14.SessNobody', WHERE WHAT IT READS IS OF BULK AT MOST 1048576: true; the input reads as it did. -/
def sessNobodyUptoRow : OpenClaim := { program := "ytpjfmilokadchaa", sum := "0abfe37f0c9d7227fbb75bc92e61e597a8604beb82c759272723592d21ab478a", func := "tidemill/tidemilllaw14.SessNobody", spec := "sessNobody", inPlace := ["slices.overlaps[tidemill/sess.session]"], unfollowed := true, recurses := true, apart := false, narrowed := true }
def SessNobodyUptoSaid : Prop := sessNobodyUptoRow.holds Try.pinned (OpenSpec.upto sessNobodySpec)

end Rows
end Go.Proofs.Ytpjfmilokadchaa
