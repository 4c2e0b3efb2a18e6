/-
  No cell of these rows narrows 'for every input' (looked for: loops, veiled, ifaces, maps, wideKeys, modest, calm, conditions, laid).
  DERIVED. THE GIVEN ROWS OF THIS SEAT. 8 by the template 'for every input the law returns true; each argument reads behind the call as it read before'; 0 by the template 'total and deterministic' (their statements: YtcempelkafpnaaaTotals.lean).
  GIVEN WITH THE SEED: the statements are not yours to turn. If you find one false, say at which input.
  Laid BY PROGRAM, IN A SANDBOX (cutbox-rows.mjs): the forced cells as the released guide's own fill.sh prints them over the translation f2c883b39134bef2… (all of the seat's roots in one cut). By AI agents, Wed Nov 11 2026. No macro, syntax, notation, axiom, sorry.
-/
import Derived.Test.YtcempelkafpnaaaChecked
import GoSem.Claim
import GoSem.ClaimJoined
import GoSem.ClaimMapViews
import Derived.JoinedTies
import Derived.KernelRfl
namespace Go.Proofs.Ytcempelkafpnaaa
/- THE CELL 'sum', in the pinned program and in every row, IS THE sha256 OF THE DUMP (.gsa) THAT YtcempelkafpnaaaProg.lean LOADS. Nothing in Lean hashes anything: it is a label: what it is worth is what the hold of that sum in a sandbox is worth. -/
noncomputable def Try.pinned : Pinned := { name := "ytcempelkafpnaaa", sum := "f2c883b39134bef2993a066bc0662a7936c44cae594c1f2092067f5fc22db39b", checked := Try.checked }
namespace Rows
def none {H : Type} : Left H := { results := [], args := [] }

/-- 'tidemilllaw01.PackOnes': WHATEVER THE INPUT: true; the input reads as it did. -/
def packOnesSpec : ChangeSpec := { name := "packOnes", fn := fun _ => fun
  | [d1, d2, d3] => { results := [.lit (.bool true)], args := [d1, d2, d3] }
  | _ => none }
def packOnesRow : OpenClaim := { program := "ytcempelkafpnaaa", sum := "f2c883b39134bef2993a066bc0662a7936c44cae594c1f2092067f5fc22db39b", func := "tidemill/tidemilllaw01.PackOnes", spec := "packOnes", apart := false }
def PackOnesSaid : Prop := packOnesRow.holds Try.pinned (OpenSpec.ofChange packOnesSpec)

/-- ITS FALSE NEIGHBOUR: 'it returns false'. Refute it at one input. -/
def packOnesWrong : ChangeSpec := { name := "packOnes", fn := fun _ => fun
  | [d1, d2, d3] => { results := [.lit (.bool false)], args := [d1, d2, d3] }
  | _ => none }
def PackOnesWrongFalsely : Prop := packOnesRow.holds Try.pinned (OpenSpec.ofChange packOnesWrong)

/-- 'tidemilllaw01.PackOrder': WHATEVER THE INPUT: true; the input reads as it did. -/
def packOrderSpec : ChangeSpec := { name := "packOrder", fn := fun _ => fun
  | [d1, d2, d3] => { results := [.lit (.bool true)], args := [d1, d2, d3] }
  | _ => none }
def packOrderRow : OpenClaim := { program := "ytcempelkafpnaaa", sum := "f2c883b39134bef2993a066bc0662a7936c44cae594c1f2092067f5fc22db39b", func := "tidemill/tidemilllaw01.PackOrder", spec := "packOrder", apart := false }
def PackOrderSaid : Prop := packOrderRow.holds Try.pinned (OpenSpec.ofChange packOrderSpec)

/-- ITS FALSE NEIGHBOUR: 'it returns false'. Refute it at one input. -/
def packOrderWrong : ChangeSpec := { name := "packOrder", fn := fun _ => fun
  | [d1, d2, d3] => { results := [.lit (.bool false)], args := [d1, d2, d3] }
  | _ => none }
def PackOrderWrongFalsely : Prop := packOrderRow.holds Try.pinned (OpenSpec.ofChange packOrderWrong)

/-- 'tidemilllaw01.PackMany': WHATEVER THE INPUT: true; the input reads as it did. -/
def packManySpec : ChangeSpec := { name := "packMany", fn := fun _ => fun
  | [d] => { results := [.lit (.bool true)], args := [d] }
  | _ => none }
def packManyRow : OpenClaim := { program := "ytcempelkafpnaaa", sum := "f2c883b39134bef2993a066bc0662a7936c44cae594c1f2092067f5fc22db39b", func := "tidemill/tidemilllaw01.PackMany", spec := "packMany", apart := false }
def PackManySaid : Prop := packManyRow.holds Try.pinned (OpenSpec.ofChange packManySpec)

/-- ITS FALSE NEIGHBOUR: 'it returns false'. Refute it at one input. -/
def packManyWrong : ChangeSpec := { name := "packMany", fn := fun _ => fun
  | [d] => { results := [.lit (.bool false)], args := [d] }
  | _ => none }
def PackManyWrongFalsely : Prop := packManyRow.holds Try.pinned (OpenSpec.ofChange packManyWrong)

/-- 'tidemilllaw01.PackSigns': WHATEVER THE INPUT: true; the input reads as it did. -/
def packSignsSpec : ChangeSpec := { name := "packSigns", fn := fun _ => fun
  | [d] => { results := [.lit (.bool true)], args := [d] }
  | _ => none }
def packSignsRow : OpenClaim := { program := "ytcempelkafpnaaa", sum := "f2c883b39134bef2993a066bc0662a7936c44cae594c1f2092067f5fc22db39b", func := "tidemill/tidemilllaw01.PackSigns", spec := "packSigns", apart := false }
def PackSignsSaid : Prop := packSignsRow.holds Try.pinned (OpenSpec.ofChange packSignsSpec)

/-- ITS FALSE NEIGHBOUR: 'it returns false'. Refute it at one input. -/
def packSignsWrong : ChangeSpec := { name := "packSigns", fn := fun _ => fun
  | [d] => { results := [.lit (.bool false)], args := [d] }
  | _ => none }
def PackSignsWrongFalsely : Prop := packSignsRow.holds Try.pinned (OpenSpec.ofChange packSignsWrong)

/-- 'tidemilllaw01.PackLays': WHATEVER THE INPUT: true; the input reads as it did. -/
def packLaysSpec : ChangeSpec := { name := "packLays", fn := fun _ => fun
  | [d1, d2, d3, d4, d5] => { results := [.lit (.bool true)], args := [d1, d2, d3, d4, d5] }
  | _ => none }
def packLaysRow : OpenClaim := { program := "ytcempelkafpnaaa", sum := "f2c883b39134bef2993a066bc0662a7936c44cae594c1f2092067f5fc22db39b", func := "tidemill/tidemilllaw01.PackLays", spec := "packLays", apart := false }
def PackLaysSaid : Prop := packLaysRow.holds Try.pinned (OpenSpec.ofChange packLaysSpec)

/-- ITS FALSE NEIGHBOUR: 'it returns false'. Refute it at one input. -/
def packLaysWrong : ChangeSpec := { name := "packLays", fn := fun _ => fun
  | [d1, d2, d3, d4, d5] => { results := [.lit (.bool false)], args := [d1, d2, d3, d4, d5] }
  | _ => none }
def PackLaysWrongFalsely : Prop := packLaysRow.holds Try.pinned (OpenSpec.ofChange packLaysWrong)

/-- 'tidemilllaw01.PackReads': WHATEVER THE INPUT: true; the input reads as it did. -/
def packReadsSpec : ChangeSpec := { name := "packReads", fn := fun _ => fun
  | [d1, d2, d3] => { results := [.lit (.bool true)], args := [d1, d2, d3] }
  | _ => none }
def packReadsRow : OpenClaim := { program := "ytcempelkafpnaaa", sum := "f2c883b39134bef2993a066bc0662a7936c44cae594c1f2092067f5fc22db39b", func := "tidemill/tidemilllaw01.PackReads", spec := "packReads", apart := false }
def PackReadsSaid : Prop := packReadsRow.holds Try.pinned (OpenSpec.ofChange packReadsSpec)

/-- ITS FALSE NEIGHBOUR: 'it returns false'. Refute it at one input. -/
def packReadsWrong : ChangeSpec := { name := "packReads", fn := fun _ => fun
  | [d1, d2, d3] => { results := [.lit (.bool false)], args := [d1, d2, d3] }
  | _ => none }
def PackReadsWrongFalsely : Prop := packReadsRow.holds Try.pinned (OpenSpec.ofChange packReadsWrong)

/-- 'tidemilllaw01.PackNobody': WHATEVER THE INPUT: true; the input reads as it did. -/
def packNobodySpec : ChangeSpec := { name := "packNobody", fn := fun _ => fun
  | [d] => { results := [.lit (.bool true)], args := [d] }
  | _ => none }
def packNobodyRow : OpenClaim := { program := "ytcempelkafpnaaa", sum := "f2c883b39134bef2993a066bc0662a7936c44cae594c1f2092067f5fc22db39b", func := "tidemill/tidemilllaw01.PackNobody", spec := "packNobody", apart := false }
def PackNobodySaid : Prop := packNobodyRow.holds Try.pinned (OpenSpec.ofChange packNobodySpec)

/-- ITS FALSE NEIGHBOUR: 'it returns false'. Refute it at one input. -/
def packNobodyWrong : ChangeSpec := { name := "packNobody", fn := fun _ => fun
  | [d] => { results := [.lit (.bool false)], args := [d] }
  | _ => none }
def PackNobodyWrongFalsely : Prop := packNobodyRow.holds Try.pinned (OpenSpec.ofChange packNobodyWrong)

/-- 'tidemilllaw01.PackBack': WHATEVER THE INPUT: true; the input reads as it did. -/
def packBackSpec : ChangeSpec := { name := "packBack", fn := fun _ => fun
  | [d1, d2, d3, d4] => { results := [.lit (.bool true)], args := [d1, d2, d3, d4] }
  | _ => none }
def packBackRow : OpenClaim := { program := "ytcempelkafpnaaa", sum := "f2c883b39134bef2993a066bc0662a7936c44cae594c1f2092067f5fc22db39b", func := "tidemill/tidemilllaw01.PackBack", spec := "packBack", apart := false }
def PackBackSaid : Prop := packBackRow.holds Try.pinned (OpenSpec.ofChange packBackSpec)

/-- ITS FALSE NEIGHBOUR: 'it returns false'. Refute it at one input. -/
def packBackWrong : ChangeSpec := { name := "packBack", fn := fun _ => fun
  | [d1, d2, d3, d4] => { results := [.lit (.bool false)], args := [d1, d2, d3, d4] }
  | _ => none }
def PackBackWrongFalsely : Prop := packBackRow.holds Try.pinned (OpenSpec.ofChange packBackWrong)

/- THE SECOND FORM. 'bulk': how many values and letters a reading holds, each counted each time it is reached (what is shared counts as often as it is met; a slice's spare places count too). A statement '..UptoSaid' is the law's where the arguments, and the package variables that the reading takes, are together of bulk at most 1048576: NARROWER than '..Said'. Prove '..Said' where nothing that the law and all that it calls make is longer than what came in: it says more and counts as full. Else prove '..UptoSaid'. A law counts once. -/
mutual
def uptoBulk {H : Type} : DataW H → Nat
  | .lit (.string bytes) => bytes.length + 1
  | .lit _ => 1
  | .nil => 1
  | .ptr d => uptoBulk d + 1
  | .slice elems spare => uptoBulkAll elems + uptoBulkAll spare + 1
  | .agg parts => uptoBulkAll parts + 1
  | .iface _ d => uptoBulk d + 1
  | .map entries => uptoBulkEntries entries + 1
  | .held _ => 1
def uptoBulkAll {H : Type} : List (DataW H) → Nat
  | [] => 0
  | d :: r => uptoBulk d + uptoBulkAll r
def uptoBulkEntries {H : Type} : List (Lit × DataW H) → Nat
  | [] => 0
  | x :: r => uptoBulkEntry x + uptoBulkEntries r
def uptoBulkEntry {H : Type} : Lit × DataW H → Nat
  | (.string bytes, d) => bytes.length + uptoBulk d + 1
  | (_, d) => uptoBulk d + 1
 end
def uptoSmall : (H : Type) → List (DataW H) → Bool := fun _ ds => decide (uptoBulkAll ds ≤ 1048576)
def OpenSpec.upto (s : _root_.Go.ChangeSpec) : _root_.Go.OpenSpec := { _root_.Go.OpenSpec.ofChange s with cond := some uptoSmall }

/-- 'tidemilllaw01.PackOnes', WHERE WHAT IT READS IS OF BULK AT MOST 1048576: true; the input reads as it did. -/
def packOnesUptoRow : OpenClaim := { program := "ytcempelkafpnaaa", sum := "f2c883b39134bef2993a066bc0662a7936c44cae594c1f2092067f5fc22db39b", func := "tidemill/tidemilllaw01.PackOnes", spec := "packOnes", apart := false, narrowed := true }
def PackOnesUptoSaid : Prop := packOnesUptoRow.holds Try.pinned (OpenSpec.upto packOnesSpec)

/-- 'tidemilllaw01.PackOrder', WHERE WHAT IT READS IS OF BULK AT MOST 1048576: true; the input reads as it did. -/
def packOrderUptoRow : OpenClaim := { program := "ytcempelkafpnaaa", sum := "f2c883b39134bef2993a066bc0662a7936c44cae594c1f2092067f5fc22db39b", func := "tidemill/tidemilllaw01.PackOrder", spec := "packOrder", apart := false, narrowed := true }
def PackOrderUptoSaid : Prop := packOrderUptoRow.holds Try.pinned (OpenSpec.upto packOrderSpec)

/-- 'tidemilllaw01.PackMany', WHERE WHAT IT READS IS OF BULK AT MOST 1048576: true; the input reads as it did. -/
def packManyUptoRow : OpenClaim := { program := "ytcempelkafpnaaa", sum := "f2c883b39134bef2993a066bc0662a7936c44cae594c1f2092067f5fc22db39b", func := "tidemill/tidemilllaw01.PackMany", spec := "packMany", apart := false, narrowed := true }
def PackManyUptoSaid : Prop := packManyUptoRow.holds Try.pinned (OpenSpec.upto packManySpec)

/-- 'tidemilllaw01.PackSigns', WHERE WHAT IT READS IS OF BULK AT MOST 1048576: true; the input reads as it did. -/
def packSignsUptoRow : OpenClaim := { program := "ytcempelkafpnaaa", sum := "f2c883b39134bef2993a066bc0662a7936c44cae594c1f2092067f5fc22db39b", func := "tidemill/tidemilllaw01.PackSigns", spec := "packSigns", apart := false, narrowed := true }
def PackSignsUptoSaid : Prop := packSignsUptoRow.holds Try.pinned (OpenSpec.upto packSignsSpec)

/-- 'tidemilllaw01.PackLays', WHERE WHAT IT READS IS OF BULK AT MOST 1048576: true; the input reads as it did. -/
def packLaysUptoRow : OpenClaim := { program := "ytcempelkafpnaaa", sum := "f2c883b39134bef2993a066bc0662a7936c44cae594c1f2092067f5fc22db39b", func := "tidemill/tidemilllaw01.PackLays", spec := "packLays", apart := false, narrowed := true }
def PackLaysUptoSaid : Prop := packLaysUptoRow.holds Try.pinned (OpenSpec.upto packLaysSpec)

/-- 'tidemilllaw01.PackReads', WHERE WHAT IT READS IS OF BULK AT MOST 1048576: true; the input reads as it did. -/
def packReadsUptoRow : OpenClaim := { program := "ytcempelkafpnaaa", sum := "f2c883b39134bef2993a066bc0662a7936c44cae594c1f2092067f5fc22db39b", func := "tidemill/tidemilllaw01.PackReads", spec := "packReads", apart := false, narrowed := true }
def PackReadsUptoSaid : Prop := packReadsUptoRow.holds Try.pinned (OpenSpec.upto packReadsSpec)

/-- 'tidemilllaw01.PackNobody', WHERE WHAT IT READS IS OF BULK AT MOST 1048576: true; the input reads as it did. -/
def packNobodyUptoRow : OpenClaim := { program := "ytcempelkafpnaaa", sum := "f2c883b39134bef2993a066bc0662a7936c44cae594c1f2092067f5fc22db39b", func := "tidemill/tidemilllaw01.PackNobody", spec := "packNobody", apart := false, narrowed := true }
def PackNobodyUptoSaid : Prop := packNobodyUptoRow.holds Try.pinned (OpenSpec.upto packNobodySpec)

/-- 'tidemilllaw01.PackBack', WHERE WHAT IT READS IS OF BULK AT MOST 1048576: true; the input reads as it did. -/
def packBackUptoRow : OpenClaim := { program := "ytcempelkafpnaaa", sum := "f2c883b39134bef2993a066bc0662a7936c44cae594c1f2092067f5fc22db39b", func := "tidemill/tidemilllaw01.PackBack", spec := "packBack", apart := false, narrowed := true }
def PackBackUptoSaid : Prop := packBackUptoRow.holds Try.pinned (OpenSpec.upto packBackSpec)

end Rows
end Go.Proofs.Ytcempelkafpnaaa
