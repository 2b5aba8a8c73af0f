/-
  NARROWER THAN 'FOR EVERY INPUT', by the rows' own cells (each row's printed sentence says how): SessionWaits: laid · SessionPlays: laid · SessionBounds: laid · SessionDoubles: laid · SymPlays: laid · SymCiphers: laid · SymNone: laid · SymAgrees: laid · SymSeals: laid.
  DERIVED. THE GIVEN ROWS OF THIS SEAT. 9 by the template 'for every input the law returns true; each argument reads behind the call as it read before'; 0 by the template 'total and deterministic' (their statements: YtlgdplodglchaaaDoorTotals.lean).
  GIVEN WITH THE SEED: the statements are not yours to turn. If you find one false, say at which input.
  Laid BY PROGRAM, IN A SANDBOX (cutbox-rows.mjs): the forced cells as the released guide's own fill.sh prints them over the translation 1a79b3592e729c9b… (all of the seat's roots in one cut). By AI agents, Wed Nov 11 2026. No macro, syntax, notation, axiom, sorry.
-/
import Derived.Test.YtlgdplodglchaaaDoorChecked
import GoSem.Claim
import GoSem.ClaimJoined
import GoSem.ClaimMapViews
import Derived.JoinedTies
import Derived.KernelRfl
namespace Go.Proofs.YtlgdplodglchaaaDoor
/- THE CELL 'sum', in the pinned program and in every row, IS THE sha256 OF THE DUMP (.gsa) THAT YtlgdplodglchaaaDoorProg.lean LOADS. Nothing in Lean hashes anything: it is a label: what it is worth is what the hold of that sum in a sandbox is worth. -/
noncomputable def Tryd.pinned : Pinned := { name := "ytlgdplodglchaaadoor", sum := "1a79b3592e729c9bf9282d11d1b7b8a19f110bb2bd173b84505f528c653e81a4", checked := Tryd.checked }
namespace Rows
def none {H : Type} : Left H := { results := [], args := [] }

/- WHAT THE LISTED PACKAGE-LEVEL VARIABLES READ AS WHEN THE CALL BEGINS. Each datum BY PROGRAM (the guide's laid-datum.mjs) off the statement by which the dump's own 'gosem.cut.vars' lays the variable. In a bare row this is a premise. The card (YtlgdplodglchaaaDoorCards.lean) ties it to the program's text. -/
def laid_redan_chacha_places {H : Type} : DataW H := .agg [.agg [.lit (.int .i64 0), .lit (.int .i64 4), .lit (.int .i64 8), .lit (.int .i64 12)], .agg [.lit (.int .i64 1), .lit (.int .i64 5), .lit (.int .i64 9), .lit (.int .i64 13)], .agg [.lit (.int .i64 2), .lit (.int .i64 6), .lit (.int .i64 10), .lit (.int .i64 14)], .agg [.lit (.int .i64 3), .lit (.int .i64 7), .lit (.int .i64 11), .lit (.int .i64 15)], .agg [.lit (.int .i64 0), .lit (.int .i64 5), .lit (.int .i64 10), .lit (.int .i64 15)], .agg [.lit (.int .i64 1), .lit (.int .i64 6), .lit (.int .i64 11), .lit (.int .i64 12)], .agg [.lit (.int .i64 2), .lit (.int .i64 7), .lit (.int .i64 8), .lit (.int .i64 13)], .agg [.lit (.int .i64 3), .lit (.int .i64 4), .lit (.int .i64 9), .lit (.int .i64 14)]]
def laid_redan_keccak_turns {H : Type} : DataW H := .agg [.lit (.int .i64 0), .lit (.int .i64 1), .lit (.int .i64 62), .lit (.int .i64 28), .lit (.int .i64 27), .lit (.int .i64 36), .lit (.int .i64 44), .lit (.int .i64 6), .lit (.int .i64 55), .lit (.int .i64 20), .lit (.int .i64 3), .lit (.int .i64 10), .lit (.int .i64 43), .lit (.int .i64 25), .lit (.int .i64 39), .lit (.int .i64 41), .lit (.int .i64 45), .lit (.int .i64 15), .lit (.int .i64 21), .lit (.int .i64 8), .lit (.int .i64 18), .lit (.int .i64 2), .lit (.int .i64 61), .lit (.int .i64 56), .lit (.int .i64 14)]
def laid_redan_keccak_constants {H : Type} : DataW H := .agg [.lit (.int .u64 1), .lit (.int .u64 32898), .lit (.int .u64 9223372036854808714), .lit (.int .u64 9223372039002292224), .lit (.int .u64 32907), .lit (.int .u64 2147483649), .lit (.int .u64 9223372039002292353), .lit (.int .u64 9223372036854808585), .lit (.int .u64 138), .lit (.int .u64 136), .lit (.int .u64 2147516425), .lit (.int .u64 2147483658), .lit (.int .u64 2147516555), .lit (.int .u64 9223372036854775947), .lit (.int .u64 9223372036854808713), .lit (.int .u64 9223372036854808579), .lit (.int .u64 9223372036854808578), .lit (.int .u64 9223372036854775936), .lit (.int .u64 32778), .lit (.int .u64 9223372039002259466), .lit (.int .u64 9223372039002292353), .lit (.int .u64 9223372036854808704), .lit (.int .u64 2147483649), .lit (.int .u64 9223372039002292232)]

/-- 'redanlaw22.SessionWaits': WHATEVER THE INPUT: true; the input reads as it did. -/
def sessionWaitsSpec : ChangeSpec := { name := "sessionWaits", fn := fun _ => fun
  | [d1, d2, d3, d4] => { results := [.lit (.bool true)], args := [d1, d2, d3, d4] }
  | _ => none }
def sessionWaitsRow : OpenClaim := { program := "ytlgdplodglchaaadoor", sum := "1a79b3592e729c9bf9282d11d1b7b8a19f110bb2bd173b84505f528c653e81a4", func := "redan/redanlaw22.SessionWaits", spec := "sessionWaits", inPlace := ["math/bits.Add64"], unfollowed := true, recurses := true, named := ["redan/chacha.places"], apart := false, laid := [("redan/chacha.places", laid_redan_chacha_places)] }
def SessionWaitsSaid : Prop := sessionWaitsRow.holds Tryd.pinned (OpenSpec.ofChange sessionWaitsSpec)

/-- ITS FALSE NEIGHBOUR: 'it returns false'. Refute it at one input. -/
def sessionWaitsWrong : ChangeSpec := { name := "sessionWaits", fn := fun _ => fun
  | [d1, d2, d3, d4] => { results := [.lit (.bool false)], args := [d1, d2, d3, d4] }
  | _ => none }
def SessionWaitsWrongFalsely : Prop := sessionWaitsRow.holds Tryd.pinned (OpenSpec.ofChange sessionWaitsWrong)

/-- 'redanlaw22.SessionPlays': WHATEVER THE INPUT: true; the input reads as it did. -/
def sessionPlaysSpec : ChangeSpec := { name := "sessionPlays", fn := fun _ => fun
  | [d1, d2, d3, d4, d5] => { results := [.lit (.bool true)], args := [d1, d2, d3, d4, d5] }
  | _ => none }
def sessionPlaysRow : OpenClaim := { program := "ytlgdplodglchaaadoor", sum := "1a79b3592e729c9bf9282d11d1b7b8a19f110bb2bd173b84505f528c653e81a4", func := "redan/redanlaw22.SessionPlays", spec := "sessionPlays", inPlace := ["math/bits.Add64"], unfollowed := true, recurses := true, named := ["redan/chacha.places"], apart := false, laid := [("redan/chacha.places", laid_redan_chacha_places)] }
def SessionPlaysSaid : Prop := sessionPlaysRow.holds Tryd.pinned (OpenSpec.ofChange sessionPlaysSpec)

/-- ITS FALSE NEIGHBOUR: 'it returns false'. Refute it at one input. -/
def sessionPlaysWrong : ChangeSpec := { name := "sessionPlays", fn := fun _ => fun
  | [d1, d2, d3, d4, d5] => { results := [.lit (.bool false)], args := [d1, d2, d3, d4, d5] }
  | _ => none }
def SessionPlaysWrongFalsely : Prop := sessionPlaysRow.holds Tryd.pinned (OpenSpec.ofChange sessionPlaysWrong)

/-- 'redanlaw22.SessionBounds': WHATEVER THE INPUT: true; the input reads as it did. -/
def sessionBoundsSpec : ChangeSpec := { name := "sessionBounds", fn := fun _ => fun
  | [d1, d2, d3, d4] => { results := [.lit (.bool true)], args := [d1, d2, d3, d4] }
  | _ => none }
def sessionBoundsRow : OpenClaim := { program := "ytlgdplodglchaaadoor", sum := "1a79b3592e729c9bf9282d11d1b7b8a19f110bb2bd173b84505f528c653e81a4", func := "redan/redanlaw22.SessionBounds", spec := "sessionBounds", inPlace := ["math/bits.Add64"], unfollowed := true, recurses := true, named := ["redan/chacha.places"], apart := false, laid := [("redan/chacha.places", laid_redan_chacha_places)] }
def SessionBoundsSaid : Prop := sessionBoundsRow.holds Tryd.pinned (OpenSpec.ofChange sessionBoundsSpec)

/-- ITS FALSE NEIGHBOUR: 'it returns false'. Refute it at one input. -/
def sessionBoundsWrong : ChangeSpec := { name := "sessionBounds", fn := fun _ => fun
  | [d1, d2, d3, d4] => { results := [.lit (.bool false)], args := [d1, d2, d3, d4] }
  | _ => none }
def SessionBoundsWrongFalsely : Prop := sessionBoundsRow.holds Tryd.pinned (OpenSpec.ofChange sessionBoundsWrong)

/-- 'redanlaw22.SessionDoubles': WHATEVER THE INPUT: true; the input reads as it did. -/
def sessionDoublesSpec : ChangeSpec := { name := "sessionDoubles", fn := fun _ => fun
  | [d1, d2] => { results := [.lit (.bool true)], args := [d1, d2] }
  | _ => none }
def sessionDoublesRow : OpenClaim := { program := "ytlgdplodglchaaadoor", sum := "1a79b3592e729c9bf9282d11d1b7b8a19f110bb2bd173b84505f528c653e81a4", func := "redan/redanlaw22.SessionDoubles", spec := "sessionDoubles", inPlace := ["math/bits.Add64"], unfollowed := true, recurses := true, named := ["redan/chacha.places"], apart := false, laid := [("redan/chacha.places", laid_redan_chacha_places)] }
def SessionDoublesSaid : Prop := sessionDoublesRow.holds Tryd.pinned (OpenSpec.ofChange sessionDoublesSpec)

/-- ITS FALSE NEIGHBOUR: 'it returns false'. Refute it at one input. -/
def sessionDoublesWrong : ChangeSpec := { name := "sessionDoubles", fn := fun _ => fun
  | [d1, d2] => { results := [.lit (.bool false)], args := [d1, d2] }
  | _ => none }
def SessionDoublesWrongFalsely : Prop := sessionDoublesRow.holds Tryd.pinned (OpenSpec.ofChange sessionDoublesWrong)

/-- 'redanlaw16.SymPlays': WHATEVER THE INPUT: true; the input reads as it did. -/
def symPlaysSpec : ChangeSpec := { name := "symPlays", fn := fun _ => fun
  | [d1, d2] => { results := [.lit (.bool true)], args := [d1, d2] }
  | _ => none }
def symPlaysRow : OpenClaim := { program := "ytlgdplodglchaaadoor", sum := "1a79b3592e729c9bf9282d11d1b7b8a19f110bb2bd173b84505f528c653e81a4", func := "redan/redanlaw16.SymPlays", spec := "symPlays", inPlace := ["math/bits.Add64"], unfollowed := true, recurses := true, named := ["redan/keccak.constants", "redan/keccak.turns", "redan/chacha.places"], apart := false, laid := [("redan/keccak.turns", laid_redan_keccak_turns), ("redan/keccak.constants", laid_redan_keccak_constants), ("redan/chacha.places", laid_redan_chacha_places)] }
def SymPlaysSaid : Prop := symPlaysRow.holds Tryd.pinned (OpenSpec.ofChange symPlaysSpec)

/-- ITS FALSE NEIGHBOUR: 'it returns false'. Refute it at one input. -/
def symPlaysWrong : ChangeSpec := { name := "symPlays", fn := fun _ => fun
  | [d1, d2] => { results := [.lit (.bool false)], args := [d1, d2] }
  | _ => none }
def SymPlaysWrongFalsely : Prop := symPlaysRow.holds Tryd.pinned (OpenSpec.ofChange symPlaysWrong)

/-- 'redanlaw16.SymCiphers': WHATEVER THE INPUT: true; the input reads as it did. -/
def symCiphersSpec : ChangeSpec := { name := "symCiphers", fn := fun _ => fun
  | [d1, d2, d3, d4, d5] => { results := [.lit (.bool true)], args := [d1, d2, d3, d4, d5] }
  | _ => none }
def symCiphersRow : OpenClaim := { program := "ytlgdplodglchaaadoor", sum := "1a79b3592e729c9bf9282d11d1b7b8a19f110bb2bd173b84505f528c653e81a4", func := "redan/redanlaw16.SymCiphers", spec := "symCiphers", inPlace := ["math/bits.Add64"], unfollowed := true, recurses := true, named := ["redan/keccak.constants", "redan/keccak.turns", "redan/chacha.places"], apart := false, laid := [("redan/keccak.turns", laid_redan_keccak_turns), ("redan/keccak.constants", laid_redan_keccak_constants), ("redan/chacha.places", laid_redan_chacha_places)] }
def SymCiphersSaid : Prop := symCiphersRow.holds Tryd.pinned (OpenSpec.ofChange symCiphersSpec)

/-- ITS FALSE NEIGHBOUR: 'it returns false'. Refute it at one input. -/
def symCiphersWrong : ChangeSpec := { name := "symCiphers", fn := fun _ => fun
  | [d1, d2, d3, d4, d5] => { results := [.lit (.bool false)], args := [d1, d2, d3, d4, d5] }
  | _ => none }
def SymCiphersWrongFalsely : Prop := symCiphersRow.holds Tryd.pinned (OpenSpec.ofChange symCiphersWrong)

/-- 'redanlaw16.SymNone': WHATEVER THE INPUT: true; the input reads as it did. -/
def symNoneSpec : ChangeSpec := { name := "symNone", fn := fun _ => fun
  | [d] => { results := [.lit (.bool true)], args := [d] }
  | _ => none }
def symNoneRow : OpenClaim := { program := "ytlgdplodglchaaadoor", sum := "1a79b3592e729c9bf9282d11d1b7b8a19f110bb2bd173b84505f528c653e81a4", func := "redan/redanlaw16.SymNone", spec := "symNone", inPlace := ["math/bits.Add64"], unfollowed := true, recurses := true, named := ["redan/keccak.constants", "redan/keccak.turns", "redan/chacha.places"], apart := false, laid := [("redan/keccak.turns", laid_redan_keccak_turns), ("redan/keccak.constants", laid_redan_keccak_constants), ("redan/chacha.places", laid_redan_chacha_places)] }
def SymNoneSaid : Prop := symNoneRow.holds Tryd.pinned (OpenSpec.ofChange symNoneSpec)

/-- ITS FALSE NEIGHBOUR: 'it returns false'. Refute it at one input. -/
def symNoneWrong : ChangeSpec := { name := "symNone", fn := fun _ => fun
  | [d] => { results := [.lit (.bool false)], args := [d] }
  | _ => none }
def SymNoneWrongFalsely : Prop := symNoneRow.holds Tryd.pinned (OpenSpec.ofChange symNoneWrong)

/-- 'redanlaw16.SymAgrees': WHATEVER THE INPUT: true; the input reads as it did. -/
def symAgreesSpec : ChangeSpec := { name := "symAgrees", fn := fun _ => fun
  | [d1, d2, d3] => { results := [.lit (.bool true)], args := [d1, d2, d3] }
  | _ => none }
def symAgreesRow : OpenClaim := { program := "ytlgdplodglchaaadoor", sum := "1a79b3592e729c9bf9282d11d1b7b8a19f110bb2bd173b84505f528c653e81a4", func := "redan/redanlaw16.SymAgrees", spec := "symAgrees", inPlace := ["math/bits.Add64"], unfollowed := true, recurses := true, named := ["redan/keccak.constants", "redan/keccak.turns", "redan/chacha.places"], apart := false, laid := [("redan/keccak.turns", laid_redan_keccak_turns), ("redan/keccak.constants", laid_redan_keccak_constants), ("redan/chacha.places", laid_redan_chacha_places)] }
def SymAgreesSaid : Prop := symAgreesRow.holds Tryd.pinned (OpenSpec.ofChange symAgreesSpec)

/-- ITS FALSE NEIGHBOUR: 'it returns false'. Refute it at one input. -/
def symAgreesWrong : ChangeSpec := { name := "symAgrees", fn := fun _ => fun
  | [d1, d2, d3] => { results := [.lit (.bool false)], args := [d1, d2, d3] }
  | _ => none }
def SymAgreesWrongFalsely : Prop := symAgreesRow.holds Tryd.pinned (OpenSpec.ofChange symAgreesWrong)

/-- 'redanlaw16.SymSeals': WHATEVER THE INPUT: true; the input reads as it did. -/
def symSealsSpec : ChangeSpec := { name := "symSeals", fn := fun _ => fun
  | [d1, d2, d3, d4, d5] => { results := [.lit (.bool true)], args := [d1, d2, d3, d4, d5] }
  | _ => none }
def symSealsRow : OpenClaim := { program := "ytlgdplodglchaaadoor", sum := "1a79b3592e729c9bf9282d11d1b7b8a19f110bb2bd173b84505f528c653e81a4", func := "redan/redanlaw16.SymSeals", spec := "symSeals", inPlace := ["math/bits.Add64"], unfollowed := true, recurses := true, named := ["redan/keccak.constants", "redan/keccak.turns", "redan/chacha.places"], apart := false, laid := [("redan/keccak.turns", laid_redan_keccak_turns), ("redan/keccak.constants", laid_redan_keccak_constants), ("redan/chacha.places", laid_redan_chacha_places)] }
def SymSealsSaid : Prop := symSealsRow.holds Tryd.pinned (OpenSpec.ofChange symSealsSpec)

/-- ITS FALSE NEIGHBOUR: 'it returns false'. Refute it at one input. -/
def symSealsWrong : ChangeSpec := { name := "symSeals", fn := fun _ => fun
  | [d1, d2, d3, d4, d5] => { results := [.lit (.bool false)], args := [d1, d2, d3, d4, d5] }
  | _ => none }
def SymSealsWrongFalsely : Prop := symSealsRow.holds Tryd.pinned (OpenSpec.ofChange symSealsWrong)

/- THE SECOND FORM. 'bulk': how many values and letters a reading holds, each counted each time it is reached (what is shared counts as often as it is met; a slice's spare places count too). A statement '..UptoSaid' is the law's where the arguments, and the package variables that the reading takes, are together of bulk at most 1048576: NARROWER than '..Said'. Prove '..Said' where nothing that the law and all that it calls make is longer than what came in: it says more and counts as full. Else prove '..UptoSaid'. A law counts once. -/
mutual
def uptoBulk {H : Type} : DataW H → Nat
  | .lit (.string bytes) => bytes.length + 1
  | .lit _ => 1
  | .nil => 1
  | .ptr d => uptoBulk d + 1
  | .slice elems spare => uptoBulkAll elems + uptoBulkAll spare + 1
  | .agg parts => uptoBulkAll parts + 1
  | .iface _ d => uptoBulk d + 1
  | .map entries => uptoBulkEntries entries + 1
  | .held _ => 1
def uptoBulkAll {H : Type} : List (DataW H) → Nat
  | [] => 0
  | d :: r => uptoBulk d + uptoBulkAll r
def uptoBulkEntries {H : Type} : List (Lit × DataW H) → Nat
  | [] => 0
  | x :: r => uptoBulkEntry x + uptoBulkEntries r
def uptoBulkEntry {H : Type} : Lit × DataW H → Nat
  | (.string bytes, d) => bytes.length + uptoBulk d + 1
  | (_, d) => uptoBulk d + 1
 end
def uptoSmall : (H : Type) → List (DataW H) → Bool := fun _ ds => decide (uptoBulkAll ds ≤ 1048576)
def OpenSpec.upto (s : _root_.Go.ChangeSpec) : _root_.Go.OpenSpec := { _root_.Go.OpenSpec.ofChange s with cond := some uptoSmall }

/-- 'redanlaw22.SessionWaits', WHERE WHAT IT READS IS OF BULK AT MOST 1048576: true; the input reads as it did. -/
def sessionWaitsUptoRow : OpenClaim := { program := "ytlgdplodglchaaadoor", sum := "1a79b3592e729c9bf9282d11d1b7b8a19f110bb2bd173b84505f528c653e81a4", func := "redan/redanlaw22.SessionWaits", spec := "sessionWaits", inPlace := ["math/bits.Add64"], unfollowed := true, recurses := true, named := ["redan/chacha.places"], apart := false, laid := [("redan/chacha.places", laid_redan_chacha_places)], narrowed := true }
def SessionWaitsUptoSaid : Prop := sessionWaitsUptoRow.holds Tryd.pinned (OpenSpec.upto sessionWaitsSpec)

/-- 'redanlaw22.SessionPlays', WHERE WHAT IT READS IS OF BULK AT MOST 1048576: true; the input reads as it did. -/
def sessionPlaysUptoRow : OpenClaim := { program := "ytlgdplodglchaaadoor", sum := "1a79b3592e729c9bf9282d11d1b7b8a19f110bb2bd173b84505f528c653e81a4", func := "redan/redanlaw22.SessionPlays", spec := "sessionPlays", inPlace := ["math/bits.Add64"], unfollowed := true, recurses := true, named := ["redan/chacha.places"], apart := false, laid := [("redan/chacha.places", laid_redan_chacha_places)], narrowed := true }
def SessionPlaysUptoSaid : Prop := sessionPlaysUptoRow.holds Tryd.pinned (OpenSpec.upto sessionPlaysSpec)

/-- 'redanlaw22.SessionBounds', WHERE WHAT IT READS IS OF BULK AT MOST 1048576: true; the input reads as it did. -/
def sessionBoundsUptoRow : OpenClaim := { program := "ytlgdplodglchaaadoor", sum := "1a79b3592e729c9bf9282d11d1b7b8a19f110bb2bd173b84505f528c653e81a4", func := "redan/redanlaw22.SessionBounds", spec := "sessionBounds", inPlace := ["math/bits.Add64"], unfollowed := true, recurses := true, named := ["redan/chacha.places"], apart := false, laid := [("redan/chacha.places", laid_redan_chacha_places)], narrowed := true }
def SessionBoundsUptoSaid : Prop := sessionBoundsUptoRow.holds Tryd.pinned (OpenSpec.upto sessionBoundsSpec)

/-- 'redanlaw22.SessionDoubles', WHERE WHAT IT READS IS OF BULK AT MOST 1048576: true; the input reads as it did. -/
def sessionDoublesUptoRow : OpenClaim := { program := "ytlgdplodglchaaadoor", sum := "1a79b3592e729c9bf9282d11d1b7b8a19f110bb2bd173b84505f528c653e81a4", func := "redan/redanlaw22.SessionDoubles", spec := "sessionDoubles", inPlace := ["math/bits.Add64"], unfollowed := true, recurses := true, named := ["redan/chacha.places"], apart := false, laid := [("redan/chacha.places", laid_redan_chacha_places)], narrowed := true }
def SessionDoublesUptoSaid : Prop := sessionDoublesUptoRow.holds Tryd.pinned (OpenSpec.upto sessionDoublesSpec)

/-- 'redanlaw16.SymPlays', WHERE WHAT IT READS IS OF BULK AT MOST 1048576: true; the input reads as it did. -/
def symPlaysUptoRow : OpenClaim := { program := "ytlgdplodglchaaadoor", sum := "1a79b3592e729c9bf9282d11d1b7b8a19f110bb2bd173b84505f528c653e81a4", func := "redan/redanlaw16.SymPlays", spec := "symPlays", inPlace := ["math/bits.Add64"], unfollowed := true, recurses := true, named := ["redan/keccak.constants", "redan/keccak.turns", "redan/chacha.places"], apart := false, laid := [("redan/keccak.turns", laid_redan_keccak_turns), ("redan/keccak.constants", laid_redan_keccak_constants), ("redan/chacha.places", laid_redan_chacha_places)], narrowed := true }
def SymPlaysUptoSaid : Prop := symPlaysUptoRow.holds Tryd.pinned (OpenSpec.upto symPlaysSpec)

/-- 'redanlaw16.SymCiphers', WHERE WHAT IT READS IS OF BULK AT MOST 1048576: true; the input reads as it did. -/
def symCiphersUptoRow : OpenClaim := { program := "ytlgdplodglchaaadoor", sum := "1a79b3592e729c9bf9282d11d1b7b8a19f110bb2bd173b84505f528c653e81a4", func := "redan/redanlaw16.SymCiphers", spec := "symCiphers", inPlace := ["math/bits.Add64"], unfollowed := true, recurses := true, named := ["redan/keccak.constants", "redan/keccak.turns", "redan/chacha.places"], apart := false, laid := [("redan/keccak.turns", laid_redan_keccak_turns), ("redan/keccak.constants", laid_redan_keccak_constants), ("redan/chacha.places", laid_redan_chacha_places)], narrowed := true }
def SymCiphersUptoSaid : Prop := symCiphersUptoRow.holds Tryd.pinned (OpenSpec.upto symCiphersSpec)

/-- 'redanlaw16.SymNone', WHERE WHAT IT READS IS OF BULK AT MOST 1048576: true; the input reads as it did. -/
def symNoneUptoRow : OpenClaim := { program := "ytlgdplodglchaaadoor", sum := "1a79b3592e729c9bf9282d11d1b7b8a19f110bb2bd173b84505f528c653e81a4", func := "redan/redanlaw16.SymNone", spec := "symNone", inPlace := ["math/bits.Add64"], unfollowed := true, recurses := true, named := ["redan/keccak.constants", "redan/keccak.turns", "redan/chacha.places"], apart := false, laid := [("redan/keccak.turns", laid_redan_keccak_turns), ("redan/keccak.constants", laid_redan_keccak_constants), ("redan/chacha.places", laid_redan_chacha_places)], narrowed := true }
def SymNoneUptoSaid : Prop := symNoneUptoRow.holds Tryd.pinned (OpenSpec.upto symNoneSpec)

/-- 'redanlaw16.SymAgrees', WHERE WHAT IT READS IS OF BULK AT MOST 1048576: true; the input reads as it did. -/
def symAgreesUptoRow : OpenClaim := { program := "ytlgdplodglchaaadoor", sum := "1a79b3592e729c9bf9282d11d1b7b8a19f110bb2bd173b84505f528c653e81a4", func := "redan/redanlaw16.SymAgrees", spec := "symAgrees", inPlace := ["math/bits.Add64"], unfollowed := true, recurses := true, named := ["redan/keccak.constants", "redan/keccak.turns", "redan/chacha.places"], apart := false, laid := [("redan/keccak.turns", laid_redan_keccak_turns), ("redan/keccak.constants", laid_redan_keccak_constants), ("redan/chacha.places", laid_redan_chacha_places)], narrowed := true }
def SymAgreesUptoSaid : Prop := symAgreesUptoRow.holds Tryd.pinned (OpenSpec.upto symAgreesSpec)

/-- 'redanlaw16.SymSeals', WHERE WHAT IT READS IS OF BULK AT MOST 1048576: true; the input reads as it did. -/
def symSealsUptoRow : OpenClaim := { program := "ytlgdplodglchaaadoor", sum := "1a79b3592e729c9bf9282d11d1b7b8a19f110bb2bd173b84505f528c653e81a4", func := "redan/redanlaw16.SymSeals", spec := "symSeals", inPlace := ["math/bits.Add64"], unfollowed := true, recurses := true, named := ["redan/keccak.constants", "redan/keccak.turns", "redan/chacha.places"], apart := false, laid := [("redan/keccak.turns", laid_redan_keccak_turns), ("redan/keccak.constants", laid_redan_keccak_constants), ("redan/chacha.places", laid_redan_chacha_places)], narrowed := true }
def SymSealsUptoSaid : Prop := symSealsUptoRow.holds Tryd.pinned (OpenSpec.upto symSealsSpec)

end Rows
end Go.Proofs.YtlgdplodglchaaaDoor
