/-
  No cell of these rows narrows 'for every input' (looked for: loops, veiled, ifaces, maps, wideKeys, modest, calm, conditions, laid).
  DERIVED. THE GIVEN ROWS OF THIS SEAT. 6 by the template 'for every input the law returns true; each argument reads behind the call as it read before'; 0 by the template 'total and deterministic' (their statements: YtgmaahpnpjfghaaTotals.lean).
  GIVEN WITH THE SEED: the statements are not yours to turn. If you find one false, say at which input.
  Laid BY PROGRAM, IN A SANDBOX (cutbox-rows.mjs): the forced cells as the released guide's own fill.sh prints them over the translation 6abb47ed65828f3b… (all of the seat's roots in one cut). By AI agents, Wed Nov 11 2026. No macro, syntax, notation, axiom, sorry.
-/
import Derived.Test.YtgmaahpnpjfghaaChecked
import GoSem.Claim
import GoSem.ClaimJoined
import GoSem.ClaimMapViews
import Derived.JoinedTies
import Derived.KernelRfl
namespace Go.Proofs.Ytgmaahpnpjfghaa
/- THE CELL 'sum', in the pinned program and in every row, IS THE sha256 OF THE DUMP (.gsa) THAT YtgmaahpnpjfghaaProg.lean LOADS. Nothing in Lean hashes anything: it is a label: what it is worth is what the hold of that sum in a sandbox is worth. -/
noncomputable def Try.pinned : Pinned := { name := "ytgmaahpnpjfghaa", sum := "6abb47ed65828f3bb451c22e8cf3cc8f4eacbb3c02aa1a91c96e4c4d99246cea", checked := Try.checked }
namespace Rows
def none {H : Type} : Left H := { results := [], args := [] }

/-- 'redanlaw01.WordsNumbers': WHATEVER THE INPUT: true; the input reads as it did. -/
def wordsNumbersSpec : ChangeSpec := { name := "wordsNumbers", fn := fun _ => fun
  | [d1, d2, d3] => { results := [.lit (.bool true)], args := [d1, d2, d3] }
  | _ => none }
def wordsNumbersRow : OpenClaim := { program := "ytgmaahpnpjfghaa", sum := "6abb47ed65828f3bb451c22e8cf3cc8f4eacbb3c02aa1a91c96e4c4d99246cea", func := "redan/redanlaw01.WordsNumbers", spec := "wordsNumbers", apart := false }
def WordsNumbersSaid : Prop := wordsNumbersRow.holds Try.pinned (OpenSpec.ofChange wordsNumbersSpec)

/-- ITS FALSE NEIGHBOUR: 'it returns false'. Refute it at one input. -/
def wordsNumbersWrong : ChangeSpec := { name := "wordsNumbers", fn := fun _ => fun
  | [d1, d2, d3] => { results := [.lit (.bool false)], args := [d1, d2, d3] }
  | _ => none }
def WordsNumbersWrongFalsely : Prop := wordsNumbersRow.holds Try.pinned (OpenSpec.ofChange wordsNumbersWrong)

/-- 'redanlaw01.WordsRows': WHATEVER THE INPUT: true; the input reads as it did. -/
def wordsRowsSpec : ChangeSpec := { name := "wordsRows", fn := fun _ => fun
  | [d1, d2] => { results := [.lit (.bool true)], args := [d1, d2] }
  | _ => none }
def wordsRowsRow : OpenClaim := { program := "ytgmaahpnpjfghaa", sum := "6abb47ed65828f3bb451c22e8cf3cc8f4eacbb3c02aa1a91c96e4c4d99246cea", func := "redan/redanlaw01.WordsRows", spec := "wordsRows", apart := false }
def WordsRowsSaid : Prop := wordsRowsRow.holds Try.pinned (OpenSpec.ofChange wordsRowsSpec)

/-- ITS FALSE NEIGHBOUR: 'it returns false'. Refute it at one input. -/
def wordsRowsWrong : ChangeSpec := { name := "wordsRows", fn := fun _ => fun
  | [d1, d2] => { results := [.lit (.bool false)], args := [d1, d2] }
  | _ => none }
def WordsRowsWrongFalsely : Prop := wordsRowsRow.holds Try.pinned (OpenSpec.ofChange wordsRowsWrong)

/-- 'redanlaw01.WordsSelects': WHATEVER THE INPUT: true; the input reads as it did. -/
def wordsSelectsSpec : ChangeSpec := { name := "wordsSelects", fn := fun _ => fun
  | [d1, d2, d3] => { results := [.lit (.bool true)], args := [d1, d2, d3] }
  | _ => none }
def wordsSelectsRow : OpenClaim := { program := "ytgmaahpnpjfghaa", sum := "6abb47ed65828f3bb451c22e8cf3cc8f4eacbb3c02aa1a91c96e4c4d99246cea", func := "redan/redanlaw01.WordsSelects", spec := "wordsSelects", apart := false }
def WordsSelectsSaid : Prop := wordsSelectsRow.holds Try.pinned (OpenSpec.ofChange wordsSelectsSpec)

/-- ITS FALSE NEIGHBOUR: 'it returns false'. Refute it at one input. -/
def wordsSelectsWrong : ChangeSpec := { name := "wordsSelects", fn := fun _ => fun
  | [d1, d2, d3] => { results := [.lit (.bool false)], args := [d1, d2, d3] }
  | _ => none }
def WordsSelectsWrongFalsely : Prop := wordsSelectsRow.holds Try.pinned (OpenSpec.ofChange wordsSelectsWrong)

/-- 'redanlaw01.WordsBack': WHATEVER THE INPUT: true; the input reads as it did. -/
def wordsBackSpec : ChangeSpec := { name := "wordsBack", fn := fun _ => fun
  | [d1, d2, d3] => { results := [.lit (.bool true)], args := [d1, d2, d3] }
  | _ => none }
def wordsBackRow : OpenClaim := { program := "ytgmaahpnpjfghaa", sum := "6abb47ed65828f3bb451c22e8cf3cc8f4eacbb3c02aa1a91c96e4c4d99246cea", func := "redan/redanlaw01.WordsBack", spec := "wordsBack", apart := false }
def WordsBackSaid : Prop := wordsBackRow.holds Try.pinned (OpenSpec.ofChange wordsBackSpec)

/-- ITS FALSE NEIGHBOUR: 'it returns false'. Refute it at one input. -/
def wordsBackWrong : ChangeSpec := { name := "wordsBack", fn := fun _ => fun
  | [d1, d2, d3] => { results := [.lit (.bool false)], args := [d1, d2, d3] }
  | _ => none }
def WordsBackWrongFalsely : Prop := wordsBackRow.holds Try.pinned (OpenSpec.ofChange wordsBackWrong)

/-- 'redanlaw01.WordsJoins': WHATEVER THE INPUT: true; the input reads as it did. -/
def wordsJoinsSpec : ChangeSpec := { name := "wordsJoins", fn := fun _ => fun
  | [d] => { results := [.lit (.bool true)], args := [d] }
  | _ => none }
def wordsJoinsRow : OpenClaim := { program := "ytgmaahpnpjfghaa", sum := "6abb47ed65828f3bb451c22e8cf3cc8f4eacbb3c02aa1a91c96e4c4d99246cea", func := "redan/redanlaw01.WordsJoins", spec := "wordsJoins", apart := false }
def WordsJoinsSaid : Prop := wordsJoinsRow.holds Try.pinned (OpenSpec.ofChange wordsJoinsSpec)

/-- ITS FALSE NEIGHBOUR: 'it returns false'. Refute it at one input. -/
def wordsJoinsWrong : ChangeSpec := { name := "wordsJoins", fn := fun _ => fun
  | [d] => { results := [.lit (.bool false)], args := [d] }
  | _ => none }
def WordsJoinsWrongFalsely : Prop := wordsJoinsRow.holds Try.pinned (OpenSpec.ofChange wordsJoinsWrong)

/-- 'redanlaw01.WordsTurns': WHATEVER THE INPUT: true; the input reads as it did. -/
def wordsTurnsSpec : ChangeSpec := { name := "wordsTurns", fn := fun _ => fun
  | [d1, d2, d3] => { results := [.lit (.bool true)], args := [d1, d2, d3] }
  | _ => none }
def wordsTurnsRow : OpenClaim := { program := "ytgmaahpnpjfghaa", sum := "6abb47ed65828f3bb451c22e8cf3cc8f4eacbb3c02aa1a91c96e4c4d99246cea", func := "redan/redanlaw01.WordsTurns", spec := "wordsTurns", apart := false }
def WordsTurnsSaid : Prop := wordsTurnsRow.holds Try.pinned (OpenSpec.ofChange wordsTurnsSpec)

/-- ITS FALSE NEIGHBOUR: 'it returns false'. Refute it at one input. -/
def wordsTurnsWrong : ChangeSpec := { name := "wordsTurns", fn := fun _ => fun
  | [d1, d2, d3] => { results := [.lit (.bool false)], args := [d1, d2, d3] }
  | _ => none }
def WordsTurnsWrongFalsely : Prop := wordsTurnsRow.holds Try.pinned (OpenSpec.ofChange wordsTurnsWrong)

/- THE SECOND FORM. 'bulk': how many values and letters a reading holds, each counted each time it is reached (what is shared counts as often as it is met; a slice's spare places count too). A statement '..UptoSaid' is the law's where the arguments, and the package variables that the reading takes, are together of bulk at most 1048576: NARROWER than '..Said'. Prove '..Said' where nothing that the law and all that it calls make is longer than what came in: it says more and counts as full. Else prove '..UptoSaid'. A law counts once. -/
mutual
def uptoBulk {H : Type} : DataW H → Nat
  | .lit (.string bytes) => bytes.length + 1
  | .lit _ => 1
  | .nil => 1
  | .ptr d => uptoBulk d + 1
  | .slice elems spare => uptoBulkAll elems + uptoBulkAll spare + 1
  | .agg parts => uptoBulkAll parts + 1
  | .iface _ d => uptoBulk d + 1
  | .map entries => uptoBulkEntries entries + 1
  | .held _ => 1
def uptoBulkAll {H : Type} : List (DataW H) → Nat
  | [] => 0
  | d :: r => uptoBulk d + uptoBulkAll r
def uptoBulkEntries {H : Type} : List (Lit × DataW H) → Nat
  | [] => 0
  | x :: r => uptoBulkEntry x + uptoBulkEntries r
def uptoBulkEntry {H : Type} : Lit × DataW H → Nat
  | (.string bytes, d) => bytes.length + uptoBulk d + 1
  | (_, d) => uptoBulk d + 1
 end
def uptoSmall : (H : Type) → List (DataW H) → Bool := fun _ ds => decide (uptoBulkAll ds ≤ 1048576)
def OpenSpec.upto (s : _root_.Go.ChangeSpec) : _root_.Go.OpenSpec := { _root_.Go.OpenSpec.ofChange s with cond := some uptoSmall }

/-- 'redanlaw01.WordsNumbers', WHERE WHAT IT READS IS OF BULK AT MOST 1048576: true; the input reads as it did. -/
def wordsNumbersUptoRow : OpenClaim := { program := "ytgmaahpnpjfghaa", sum := "6abb47ed65828f3bb451c22e8cf3cc8f4eacbb3c02aa1a91c96e4c4d99246cea", func := "redan/redanlaw01.WordsNumbers", spec := "wordsNumbers", apart := false, narrowed := true }
def WordsNumbersUptoSaid : Prop := wordsNumbersUptoRow.holds Try.pinned (OpenSpec.upto wordsNumbersSpec)

/-- 'redanlaw01.WordsRows', WHERE WHAT IT READS IS OF BULK AT MOST 1048576: true; the input reads as it did. -/
def wordsRowsUptoRow : OpenClaim := { program := "ytgmaahpnpjfghaa", sum := "6abb47ed65828f3bb451c22e8cf3cc8f4eacbb3c02aa1a91c96e4c4d99246cea", func := "redan/redanlaw01.WordsRows", spec := "wordsRows", apart := false, narrowed := true }
def WordsRowsUptoSaid : Prop := wordsRowsUptoRow.holds Try.pinned (OpenSpec.upto wordsRowsSpec)

/-- 'redanlaw01.WordsSelects', WHERE WHAT IT READS IS OF BULK AT MOST 1048576: true; the input reads as it did. -/
def wordsSelectsUptoRow : OpenClaim := { program := "ytgmaahpnpjfghaa", sum := "6abb47ed65828f3bb451c22e8cf3cc8f4eacbb3c02aa1a91c96e4c4d99246cea", func := "redan/redanlaw01.WordsSelects", spec := "wordsSelects", apart := false, narrowed := true }
def WordsSelectsUptoSaid : Prop := wordsSelectsUptoRow.holds Try.pinned (OpenSpec.upto wordsSelectsSpec)

/-- 'redanlaw01.WordsBack', WHERE WHAT IT READS IS OF BULK AT MOST 1048576: true; the input reads as it did. -/
def wordsBackUptoRow : OpenClaim := { program := "ytgmaahpnpjfghaa", sum := "6abb47ed65828f3bb451c22e8cf3cc8f4eacbb3c02aa1a91c96e4c4d99246cea", func := "redan/redanlaw01.WordsBack", spec := "wordsBack", apart := false, narrowed := true }
def WordsBackUptoSaid : Prop := wordsBackUptoRow.holds Try.pinned (OpenSpec.upto wordsBackSpec)

/-- 'redanlaw01.WordsJoins', WHERE WHAT IT READS IS OF BULK AT MOST 1048576: true; the input reads as it did. -/
def wordsJoinsUptoRow : OpenClaim := { program := "ytgmaahpnpjfghaa", sum := "6abb47ed65828f3bb451c22e8cf3cc8f4eacbb3c02aa1a91c96e4c4d99246cea", func := "redan/redanlaw01.WordsJoins", spec := "wordsJoins", apart := false, narrowed := true }
def WordsJoinsUptoSaid : Prop := wordsJoinsUptoRow.holds Try.pinned (OpenSpec.upto wordsJoinsSpec)

/-- 'redanlaw01.WordsTurns', WHERE WHAT IT READS IS OF BULK AT MOST 1048576: true; the input reads as it did. -/
def wordsTurnsUptoRow : OpenClaim := { program := "ytgmaahpnpjfghaa", sum := "6abb47ed65828f3bb451c22e8cf3cc8f4eacbb3c02aa1a91c96e4c4d99246cea", func := "redan/redanlaw01.WordsTurns", spec := "wordsTurns", apart := false, narrowed := true }
def WordsTurnsUptoSaid : Prop := wordsTurnsUptoRow.holds Try.pinned (OpenSpec.upto wordsTurnsSpec)

end Rows
end Go.Proofs.Ytgmaahpnpjfghaa
