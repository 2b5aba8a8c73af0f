/-
  No cell of these rows narrows 'for every input' (looked for: loops, veiled, ifaces, maps, wideKeys, modest, calm, conditions, laid).
  DERIVED. THE GIVEN ROWS OF THIS SEAT. 5 by the template 'for every input the law returns true; each argument reads behind the call as it read before'; 0 by the template 'total and deterministic' (their statements: YtkkhdjdoifnoaaaTotals.lean).
  GIVEN WITH THE SEED: the statements are not yours to turn. If you find one false, say at which input.
  Laid BY PROGRAM, IN A SANDBOX (cutbox-rows.mjs): the forced cells as the released guide's own fill.sh prints them over the translation 153d9fc25c19e725… (all of the seat's roots in one cut). By AI agents, Wed Nov 11 2026. No macro, syntax, notation, axiom, sorry.
-/
import Derived.Test.YtkkhdjdoifnoaaaChecked
import GoSem.Claim
import GoSem.ClaimJoined
import GoSem.ClaimMapViews
import Derived.JoinedTies
import Derived.KernelRfl
namespace Go.Proofs.Ytkkhdjdoifnoaaa
/- THE CELL 'sum', in the pinned program and in every row, IS THE sha256 OF THE DUMP (.gsa) THAT YtkkhdjdoifnoaaaProg.lean LOADS. Nothing in Lean hashes anything: it is a label: what it is worth is what the hold of that sum in a sandbox is worth. -/
noncomputable def Try.pinned : Pinned := { name := "ytkkhdjdoifnoaaa", sum := "153d9fc25c19e725f07e80af50e654ab22c992fcccfd13d9a5b756a6cd846ce9", checked := Try.checked }
namespace Rows
def none {H : Type} : Left H := { results := [], args := [] }

/-- 'redanlaw08.PolyMacs': WHATEVER THE INPUT: true; the input reads as it did. -/
def polyMacsSpec : ChangeSpec := { name := "polyMacs", fn := fun _ => fun
  | [d1, d2] => { results := [.lit (.bool true)], args := [d1, d2] }
  | _ => none }
def polyMacsRow : OpenClaim := { program := "ytkkhdjdoifnoaaa", sum := "153d9fc25c19e725f07e80af50e654ab22c992fcccfd13d9a5b756a6cd846ce9", func := "redan/redanlaw08.PolyMacs", spec := "polyMacs", inPlace := ["math/bits.Add64"], apart := false }
def PolyMacsSaid : Prop := polyMacsRow.holds Try.pinned (OpenSpec.ofChange polyMacsSpec)

/-- ITS FALSE NEIGHBOUR: 'it returns false'. Refute it at one input. -/
def polyMacsWrong : ChangeSpec := { name := "polyMacs", fn := fun _ => fun
  | [d1, d2] => { results := [.lit (.bool false)], args := [d1, d2] }
  | _ => none }
def PolyMacsWrongFalsely : Prop := polyMacsRow.holds Try.pinned (OpenSpec.ofChange polyMacsWrong)

/-- 'redanlaw08.PolyClamps': WHATEVER THE INPUT: true; the input reads as it did. -/
def polyClampsSpec : ChangeSpec := { name := "polyClamps", fn := fun _ => fun
  | [d] => { results := [.lit (.bool true)], args := [d] }
  | _ => none }
def polyClampsRow : OpenClaim := { program := "ytkkhdjdoifnoaaa", sum := "153d9fc25c19e725f07e80af50e654ab22c992fcccfd13d9a5b756a6cd846ce9", func := "redan/redanlaw08.PolyClamps", spec := "polyClamps", inPlace := ["math/bits.Add64"], apart := false }
def PolyClampsSaid : Prop := polyClampsRow.holds Try.pinned (OpenSpec.ofChange polyClampsSpec)

/-- ITS FALSE NEIGHBOUR: 'it returns false'. Refute it at one input. -/
def polyClampsWrong : ChangeSpec := { name := "polyClamps", fn := fun _ => fun
  | [d] => { results := [.lit (.bool false)], args := [d] }
  | _ => none }
def PolyClampsWrongFalsely : Prop := polyClampsRow.holds Try.pinned (OpenSpec.ofChange polyClampsWrong)

/-- 'redanlaw08.PolyOpen': WHATEVER THE INPUT: true; the input reads as it did. -/
def polyOpenSpec : ChangeSpec := { name := "polyOpen", fn := fun _ => fun
  | [d1, d2, d3] => { results := [.lit (.bool true)], args := [d1, d2, d3] }
  | _ => none }
def polyOpenRow : OpenClaim := { program := "ytkkhdjdoifnoaaa", sum := "153d9fc25c19e725f07e80af50e654ab22c992fcccfd13d9a5b756a6cd846ce9", func := "redan/redanlaw08.PolyOpen", spec := "polyOpen", inPlace := ["math/bits.Add64"], apart := false }
def PolyOpenSaid : Prop := polyOpenRow.holds Try.pinned (OpenSpec.ofChange polyOpenSpec)

/-- ITS FALSE NEIGHBOUR: 'it returns false'. Refute it at one input. -/
def polyOpenWrong : ChangeSpec := { name := "polyOpen", fn := fun _ => fun
  | [d1, d2, d3] => { results := [.lit (.bool false)], args := [d1, d2, d3] }
  | _ => none }
def PolyOpenWrongFalsely : Prop := polyOpenRow.holds Try.pinned (OpenSpec.ofChange polyOpenWrong)

/-- 'redanlaw08.PolyShort': WHATEVER THE INPUT: true; the input reads as it did. -/
def polyShortSpec : ChangeSpec := { name := "polyShort", fn := fun _ => fun
  | [d1, d2] => { results := [.lit (.bool true)], args := [d1, d2] }
  | _ => none }
def polyShortRow : OpenClaim := { program := "ytkkhdjdoifnoaaa", sum := "153d9fc25c19e725f07e80af50e654ab22c992fcccfd13d9a5b756a6cd846ce9", func := "redan/redanlaw08.PolyShort", spec := "polyShort", inPlace := ["math/bits.Add64"], apart := false }
def PolyShortSaid : Prop := polyShortRow.holds Try.pinned (OpenSpec.ofChange polyShortSpec)

/-- ITS FALSE NEIGHBOUR: 'it returns false'. Refute it at one input. -/
def polyShortWrong : ChangeSpec := { name := "polyShort", fn := fun _ => fun
  | [d1, d2] => { results := [.lit (.bool false)], args := [d1, d2] }
  | _ => none }
def PolyShortWrongFalsely : Prop := polyShortRow.holds Try.pinned (OpenSpec.ofChange polyShortWrong)

/-- 'redanlaw08.PolyFull': WHATEVER THE INPUT: true; the input reads as it did. -/
def polyFullSpec : ChangeSpec := { name := "polyFull", fn := fun _ => fun
  | [d1, d2, d3] => { results := [.lit (.bool true)], args := [d1, d2, d3] }
  | _ => none }
def polyFullRow : OpenClaim := { program := "ytkkhdjdoifnoaaa", sum := "153d9fc25c19e725f07e80af50e654ab22c992fcccfd13d9a5b756a6cd846ce9", func := "redan/redanlaw08.PolyFull", spec := "polyFull", inPlace := ["math/bits.Add64"], apart := false }
def PolyFullSaid : Prop := polyFullRow.holds Try.pinned (OpenSpec.ofChange polyFullSpec)

/-- ITS FALSE NEIGHBOUR: 'it returns false'. Refute it at one input. -/
def polyFullWrong : ChangeSpec := { name := "polyFull", fn := fun _ => fun
  | [d1, d2, d3] => { results := [.lit (.bool false)], args := [d1, d2, d3] }
  | _ => none }
def PolyFullWrongFalsely : Prop := polyFullRow.holds Try.pinned (OpenSpec.ofChange polyFullWrong)

/- THE SECOND FORM. 'bulk': how many values and letters a reading holds, each counted each time it is reached (what is shared counts as often as it is met; a slice's spare places count too). A statement '..UptoSaid' is the law's where the arguments, and the package variables that the reading takes, are together of bulk at most 1048576: NARROWER than '..Said'. Prove '..Said' where nothing that the law and all that it calls make is longer than what came in: it says more and counts as full. Else prove '..UptoSaid'. A law counts once. -/
mutual
def uptoBulk {H : Type} : DataW H → Nat
  | .lit (.string bytes) => bytes.length + 1
  | .lit _ => 1
  | .nil => 1
  | .ptr d => uptoBulk d + 1
  | .slice elems spare => uptoBulkAll elems + uptoBulkAll spare + 1
  | .agg parts => uptoBulkAll parts + 1
  | .iface _ d => uptoBulk d + 1
  | .map entries => uptoBulkEntries entries + 1
  | .held _ => 1
def uptoBulkAll {H : Type} : List (DataW H) → Nat
  | [] => 0
  | d :: r => uptoBulk d + uptoBulkAll r
def uptoBulkEntries {H : Type} : List (Lit × DataW H) → Nat
  | [] => 0
  | x :: r => uptoBulkEntry x + uptoBulkEntries r
def uptoBulkEntry {H : Type} : Lit × DataW H → Nat
  | (.string bytes, d) => bytes.length + uptoBulk d + 1
  | (_, d) => uptoBulk d + 1
 end
def uptoSmall : (H : Type) → List (DataW H) → Bool := fun _ ds => decide (uptoBulkAll ds ≤ 1048576)
def OpenSpec.upto (s : _root_.Go.ChangeSpec) : _root_.Go.OpenSpec := { _root_.Go.OpenSpec.ofChange s with cond := some uptoSmall }

/-- 'redanlaw08.PolyMacs', WHERE WHAT IT READS IS OF BULK AT MOST 1048576: true; the input reads as it did. -/
def polyMacsUptoRow : OpenClaim := { program := "ytkkhdjdoifnoaaa", sum := "153d9fc25c19e725f07e80af50e654ab22c992fcccfd13d9a5b756a6cd846ce9", func := "redan/redanlaw08.PolyMacs", spec := "polyMacs", inPlace := ["math/bits.Add64"], apart := false, narrowed := true }
def PolyMacsUptoSaid : Prop := polyMacsUptoRow.holds Try.pinned (OpenSpec.upto polyMacsSpec)

/-- 'redanlaw08.PolyClamps', WHERE WHAT IT READS IS OF BULK AT MOST 1048576: true; the input reads as it did. -/
def polyClampsUptoRow : OpenClaim := { program := "ytkkhdjdoifnoaaa", sum := "153d9fc25c19e725f07e80af50e654ab22c992fcccfd13d9a5b756a6cd846ce9", func := "redan/redanlaw08.PolyClamps", spec := "polyClamps", inPlace := ["math/bits.Add64"], apart := false, narrowed := true }
def PolyClampsUptoSaid : Prop := polyClampsUptoRow.holds Try.pinned (OpenSpec.upto polyClampsSpec)

/-- 'redanlaw08.PolyOpen', WHERE WHAT IT READS IS OF BULK AT MOST 1048576: true; the input reads as it did. -/
def polyOpenUptoRow : OpenClaim := { program := "ytkkhdjdoifnoaaa", sum := "153d9fc25c19e725f07e80af50e654ab22c992fcccfd13d9a5b756a6cd846ce9", func := "redan/redanlaw08.PolyOpen", spec := "polyOpen", inPlace := ["math/bits.Add64"], apart := false, narrowed := true }
def PolyOpenUptoSaid : Prop := polyOpenUptoRow.holds Try.pinned (OpenSpec.upto polyOpenSpec)

/-- 'redanlaw08.PolyShort', WHERE WHAT IT READS IS OF BULK AT MOST 1048576: true; the input reads as it did. -/
def polyShortUptoRow : OpenClaim := { program := "ytkkhdjdoifnoaaa", sum := "153d9fc25c19e725f07e80af50e654ab22c992fcccfd13d9a5b756a6cd846ce9", func := "redan/redanlaw08.PolyShort", spec := "polyShort", inPlace := ["math/bits.Add64"], apart := false, narrowed := true }
def PolyShortUptoSaid : Prop := polyShortUptoRow.holds Try.pinned (OpenSpec.upto polyShortSpec)

/-- 'redanlaw08.PolyFull', WHERE WHAT IT READS IS OF BULK AT MOST 1048576: true; the input reads as it did. -/
def polyFullUptoRow : OpenClaim := { program := "ytkkhdjdoifnoaaa", sum := "153d9fc25c19e725f07e80af50e654ab22c992fcccfd13d9a5b756a6cd846ce9", func := "redan/redanlaw08.PolyFull", spec := "polyFull", inPlace := ["math/bits.Add64"], apart := false, narrowed := true }
def PolyFullUptoSaid : Prop := polyFullUptoRow.holds Try.pinned (OpenSpec.upto polyFullSpec)

end Rows
end Go.Proofs.Ytkkhdjdoifnoaaa
