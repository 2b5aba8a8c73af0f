/-
  NARROWER THAN 'FOR EVERY INPUT', by the rows' own cells (each row's printed sentence says how): AeadSeals: laid · AeadOpens: laid · AeadBack: laid · AeadTags: laid · AeadShort: laid.
  DERIVED. THE GIVEN ROWS OF THIS SEAT. 5 by the template 'for every input the law returns true; each argument reads behind the call as it read before'; 0 by the template 'total and deterministic' (their statements: YtkkhdjdoifnoaaaDoorTotals.lean).
  GIVEN WITH THE SEED: the statements are not yours to turn. If you find one false, say at which input.
  Laid BY PROGRAM, IN A SANDBOX (cutbox-rows.mjs): the forced cells as the released guide's own fill.sh prints them over the translation 772b7340319baec5… (all of the seat's roots in one cut). By AI agents, Wed Nov 11 2026. No macro, syntax, notation, axiom, sorry.
-/
import Derived.Test.YtkkhdjdoifnoaaaDoorChecked
import GoSem.Claim
import GoSem.ClaimJoined
import GoSem.ClaimMapViews
import Derived.JoinedTies
import Derived.KernelRfl
namespace Go.Proofs.YtkkhdjdoifnoaaaDoor
/- THE CELL 'sum', in the pinned program and in every row, IS THE sha256 OF THE DUMP (.gsa) THAT YtkkhdjdoifnoaaaDoorProg.lean LOADS. Nothing in Lean hashes anything: it is a label: what it is worth is what the hold of that sum in a sandbox is worth. -/
noncomputable def Tryd.pinned : Pinned := { name := "ytkkhdjdoifnoaaadoor", sum := "772b7340319baec5732d42fe6b8bd8e2a022ef5f72d257fded086f5d7c5131cd", checked := Tryd.checked }
namespace Rows
def none {H : Type} : Left H := { results := [], args := [] }

/- WHAT THE LISTED PACKAGE-LEVEL VARIABLES READ AS WHEN THE CALL BEGINS. Each datum BY PROGRAM (the guide's laid-datum.mjs) off the statement by which the dump's own 'gosem.cut.vars' lays the variable. In a bare row this is a premise. The card (YtkkhdjdoifnoaaaDoorCards.lean) ties it to the program's text. -/
def laid_redan_chacha_places {H : Type} : DataW H := .agg [.agg [.lit (.int .i64 0), .lit (.int .i64 4), .lit (.int .i64 8), .lit (.int .i64 12)], .agg [.lit (.int .i64 1), .lit (.int .i64 5), .lit (.int .i64 9), .lit (.int .i64 13)], .agg [.lit (.int .i64 2), .lit (.int .i64 6), .lit (.int .i64 10), .lit (.int .i64 14)], .agg [.lit (.int .i64 3), .lit (.int .i64 7), .lit (.int .i64 11), .lit (.int .i64 15)], .agg [.lit (.int .i64 0), .lit (.int .i64 5), .lit (.int .i64 10), .lit (.int .i64 15)], .agg [.lit (.int .i64 1), .lit (.int .i64 6), .lit (.int .i64 11), .lit (.int .i64 12)], .agg [.lit (.int .i64 2), .lit (.int .i64 7), .lit (.int .i64 8), .lit (.int .i64 13)], .agg [.lit (.int .i64 3), .lit (.int .i64 4), .lit (.int .i64 9), .lit (.int .i64 14)]]

/-- 'redanlaw09.AeadSeals': WHATEVER THE INPUT: true; the input reads as it did. -/
def aeadSealsSpec : ChangeSpec := { name := "aeadSeals", fn := fun _ => fun
  | [d1, d2, d3, d4] => { results := [.lit (.bool true)], args := [d1, d2, d3, d4] }
  | _ => none }
def aeadSealsRow : OpenClaim := { program := "ytkkhdjdoifnoaaadoor", sum := "772b7340319baec5732d42fe6b8bd8e2a022ef5f72d257fded086f5d7c5131cd", func := "redan/redanlaw09.AeadSeals", spec := "aeadSeals", inPlace := ["math/bits.Add64"], unfollowed := true, recurses := true, named := ["redan/chacha.places"], apart := false, laid := [("redan/chacha.places", laid_redan_chacha_places)] }
def AeadSealsSaid : Prop := aeadSealsRow.holds Tryd.pinned (OpenSpec.ofChange aeadSealsSpec)

/-- ITS FALSE NEIGHBOUR: 'it returns false'. Refute it at one input. -/
def aeadSealsWrong : ChangeSpec := { name := "aeadSeals", fn := fun _ => fun
  | [d1, d2, d3, d4] => { results := [.lit (.bool false)], args := [d1, d2, d3, d4] }
  | _ => none }
def AeadSealsWrongFalsely : Prop := aeadSealsRow.holds Tryd.pinned (OpenSpec.ofChange aeadSealsWrong)

/-- 'redanlaw09.AeadOpens': WHATEVER THE INPUT: true; the input reads as it did. -/
def aeadOpensSpec : ChangeSpec := { name := "aeadOpens", fn := fun _ => fun
  | [d1, d2, d3, d4, d5, d6] => { results := [.lit (.bool true)], args := [d1, d2, d3, d4, d5, d6] }
  | _ => none }
def aeadOpensRow : OpenClaim := { program := "ytkkhdjdoifnoaaadoor", sum := "772b7340319baec5732d42fe6b8bd8e2a022ef5f72d257fded086f5d7c5131cd", func := "redan/redanlaw09.AeadOpens", spec := "aeadOpens", inPlace := ["math/bits.Add64"], unfollowed := true, recurses := true, named := ["redan/chacha.places"], apart := false, laid := [("redan/chacha.places", laid_redan_chacha_places)] }
def AeadOpensSaid : Prop := aeadOpensRow.holds Tryd.pinned (OpenSpec.ofChange aeadOpensSpec)

/-- ITS FALSE NEIGHBOUR: 'it returns false'. Refute it at one input. -/
def aeadOpensWrong : ChangeSpec := { name := "aeadOpens", fn := fun _ => fun
  | [d1, d2, d3, d4, d5, d6] => { results := [.lit (.bool false)], args := [d1, d2, d3, d4, d5, d6] }
  | _ => none }
def AeadOpensWrongFalsely : Prop := aeadOpensRow.holds Tryd.pinned (OpenSpec.ofChange aeadOpensWrong)

/-- 'redanlaw09.AeadBack': WHATEVER THE INPUT: true; the input reads as it did. -/
def aeadBackSpec : ChangeSpec := { name := "aeadBack", fn := fun _ => fun
  | [d1, d2, d3, d4, d5, d6] => { results := [.lit (.bool true)], args := [d1, d2, d3, d4, d5, d6] }
  | _ => none }
def aeadBackRow : OpenClaim := { program := "ytkkhdjdoifnoaaadoor", sum := "772b7340319baec5732d42fe6b8bd8e2a022ef5f72d257fded086f5d7c5131cd", func := "redan/redanlaw09.AeadBack", spec := "aeadBack", inPlace := ["math/bits.Add64"], unfollowed := true, recurses := true, named := ["redan/chacha.places"], apart := false, laid := [("redan/chacha.places", laid_redan_chacha_places)] }
def AeadBackSaid : Prop := aeadBackRow.holds Tryd.pinned (OpenSpec.ofChange aeadBackSpec)

/-- ITS FALSE NEIGHBOUR: 'it returns false'. Refute it at one input. -/
def aeadBackWrong : ChangeSpec := { name := "aeadBack", fn := fun _ => fun
  | [d1, d2, d3, d4, d5, d6] => { results := [.lit (.bool false)], args := [d1, d2, d3, d4, d5, d6] }
  | _ => none }
def AeadBackWrongFalsely : Prop := aeadBackRow.holds Tryd.pinned (OpenSpec.ofChange aeadBackWrong)

/-- 'redanlaw09.AeadTags': WHATEVER THE INPUT: true; the input reads as it did. -/
def aeadTagsSpec : ChangeSpec := { name := "aeadTags", fn := fun _ => fun
  | [d1, d2, d3, d4] => { results := [.lit (.bool true)], args := [d1, d2, d3, d4] }
  | _ => none }
def aeadTagsRow : OpenClaim := { program := "ytkkhdjdoifnoaaadoor", sum := "772b7340319baec5732d42fe6b8bd8e2a022ef5f72d257fded086f5d7c5131cd", func := "redan/redanlaw09.AeadTags", spec := "aeadTags", inPlace := ["math/bits.Add64"], unfollowed := true, recurses := true, named := ["redan/chacha.places"], apart := false, laid := [("redan/chacha.places", laid_redan_chacha_places)] }
def AeadTagsSaid : Prop := aeadTagsRow.holds Tryd.pinned (OpenSpec.ofChange aeadTagsSpec)

/-- ITS FALSE NEIGHBOUR: 'it returns false'. Refute it at one input. -/
def aeadTagsWrong : ChangeSpec := { name := "aeadTags", fn := fun _ => fun
  | [d1, d2, d3, d4] => { results := [.lit (.bool false)], args := [d1, d2, d3, d4] }
  | _ => none }
def AeadTagsWrongFalsely : Prop := aeadTagsRow.holds Tryd.pinned (OpenSpec.ofChange aeadTagsWrong)

/-- 'redanlaw09.AeadShort': WHATEVER THE INPUT: true; the input reads as it did. -/
def aeadShortSpec : ChangeSpec := { name := "aeadShort", fn := fun _ => fun
  | [d1, d2, d3] => { results := [.lit (.bool true)], args := [d1, d2, d3] }
  | _ => none }
def aeadShortRow : OpenClaim := { program := "ytkkhdjdoifnoaaadoor", sum := "772b7340319baec5732d42fe6b8bd8e2a022ef5f72d257fded086f5d7c5131cd", func := "redan/redanlaw09.AeadShort", spec := "aeadShort", inPlace := ["math/bits.Add64"], unfollowed := true, recurses := true, named := ["redan/chacha.places"], apart := false, laid := [("redan/chacha.places", laid_redan_chacha_places)] }
def AeadShortSaid : Prop := aeadShortRow.holds Tryd.pinned (OpenSpec.ofChange aeadShortSpec)

/-- ITS FALSE NEIGHBOUR: 'it returns false'. Refute it at one input. -/
def aeadShortWrong : ChangeSpec := { name := "aeadShort", fn := fun _ => fun
  | [d1, d2, d3] => { results := [.lit (.bool false)], args := [d1, d2, d3] }
  | _ => none }
def AeadShortWrongFalsely : Prop := aeadShortRow.holds Tryd.pinned (OpenSpec.ofChange aeadShortWrong)

/- THE SECOND FORM. 'bulk': how many values and letters a reading holds, each counted each time it is reached (what is shared counts as often as it is met; a slice's spare places count too). A statement '..UptoSaid' is the law's where the arguments, and the package variables that the reading takes, are together of bulk at most 1048576: NARROWER than '..Said'. Prove '..Said' where nothing that the law and all that it calls make is longer than what came in: it says more and counts as full. Else prove '..UptoSaid'. A law counts once. -/
mutual
def uptoBulk {H : Type} : DataW H → Nat
  | .lit (.string bytes) => bytes.length + 1
  | .lit _ => 1
  | .nil => 1
  | .ptr d => uptoBulk d + 1
  | .slice elems spare => uptoBulkAll elems + uptoBulkAll spare + 1
  | .agg parts => uptoBulkAll parts + 1
  | .iface _ d => uptoBulk d + 1
  | .map entries => uptoBulkEntries entries + 1
  | .held _ => 1
def uptoBulkAll {H : Type} : List (DataW H) → Nat
  | [] => 0
  | d :: r => uptoBulk d + uptoBulkAll r
def uptoBulkEntries {H : Type} : List (Lit × DataW H) → Nat
  | [] => 0
  | x :: r => uptoBulkEntry x + uptoBulkEntries r
def uptoBulkEntry {H : Type} : Lit × DataW H → Nat
  | (.string bytes, d) => bytes.length + uptoBulk d + 1
  | (_, d) => uptoBulk d + 1
 end
def uptoSmall : (H : Type) → List (DataW H) → Bool := fun _ ds => decide (uptoBulkAll ds ≤ 1048576)
def OpenSpec.upto (s : _root_.Go.ChangeSpec) : _root_.Go.OpenSpec := { _root_.Go.OpenSpec.ofChange s with cond := some uptoSmall }

/-- 'redanlaw09.AeadSeals', WHERE WHAT IT READS IS OF BULK AT MOST 1048576: true; the input reads as it did. -/
def aeadSealsUptoRow : OpenClaim := { program := "ytkkhdjdoifnoaaadoor", sum := "772b7340319baec5732d42fe6b8bd8e2a022ef5f72d257fded086f5d7c5131cd", func := "redan/redanlaw09.AeadSeals", spec := "aeadSeals", inPlace := ["math/bits.Add64"], unfollowed := true, recurses := true, named := ["redan/chacha.places"], apart := false, laid := [("redan/chacha.places", laid_redan_chacha_places)], narrowed := true }
def AeadSealsUptoSaid : Prop := aeadSealsUptoRow.holds Tryd.pinned (OpenSpec.upto aeadSealsSpec)

/-- 'redanlaw09.AeadOpens', WHERE WHAT IT READS IS OF BULK AT MOST 1048576: true; the input reads as it did. -/
def aeadOpensUptoRow : OpenClaim := { program := "ytkkhdjdoifnoaaadoor", sum := "772b7340319baec5732d42fe6b8bd8e2a022ef5f72d257fded086f5d7c5131cd", func := "redan/redanlaw09.AeadOpens", spec := "aeadOpens", inPlace := ["math/bits.Add64"], unfollowed := true, recurses := true, named := ["redan/chacha.places"], apart := false, laid := [("redan/chacha.places", laid_redan_chacha_places)], narrowed := true }
def AeadOpensUptoSaid : Prop := aeadOpensUptoRow.holds Tryd.pinned (OpenSpec.upto aeadOpensSpec)

/-- 'redanlaw09.AeadBack', WHERE WHAT IT READS IS OF BULK AT MOST 1048576: true; the input reads as it did. -/
def aeadBackUptoRow : OpenClaim := { program := "ytkkhdjdoifnoaaadoor", sum := "772b7340319baec5732d42fe6b8bd8e2a022ef5f72d257fded086f5d7c5131cd", func := "redan/redanlaw09.AeadBack", spec := "aeadBack", inPlace := ["math/bits.Add64"], unfollowed := true, recurses := true, named := ["redan/chacha.places"], apart := false, laid := [("redan/chacha.places", laid_redan_chacha_places)], narrowed := true }
def AeadBackUptoSaid : Prop := aeadBackUptoRow.holds Tryd.pinned (OpenSpec.upto aeadBackSpec)

/-- 'redanlaw09.AeadTags', WHERE WHAT IT READS IS OF BULK AT MOST 1048576: true; the input reads as it did. -/
def aeadTagsUptoRow : OpenClaim := { program := "ytkkhdjdoifnoaaadoor", sum := "772b7340319baec5732d42fe6b8bd8e2a022ef5f72d257fded086f5d7c5131cd", func := "redan/redanlaw09.AeadTags", spec := "aeadTags", inPlace := ["math/bits.Add64"], unfollowed := true, recurses := true, named := ["redan/chacha.places"], apart := false, laid := [("redan/chacha.places", laid_redan_chacha_places)], narrowed := true }
def AeadTagsUptoSaid : Prop := aeadTagsUptoRow.holds Tryd.pinned (OpenSpec.upto aeadTagsSpec)

/-- 'redanlaw09.AeadShort', WHERE WHAT IT READS IS OF BULK AT MOST 1048576: true; the input reads as it did. -/
def aeadShortUptoRow : OpenClaim := { program := "ytkkhdjdoifnoaaadoor", sum := "772b7340319baec5732d42fe6b8bd8e2a022ef5f72d257fded086f5d7c5131cd", func := "redan/redanlaw09.AeadShort", spec := "aeadShort", inPlace := ["math/bits.Add64"], unfollowed := true, recurses := true, named := ["redan/chacha.places"], apart := false, laid := [("redan/chacha.places", laid_redan_chacha_places)], narrowed := true }
def AeadShortUptoSaid : Prop := aeadShortUptoRow.holds Tryd.pinned (OpenSpec.upto aeadShortSpec)

end Rows
end Go.Proofs.YtkkhdjdoifnoaaaDoor
