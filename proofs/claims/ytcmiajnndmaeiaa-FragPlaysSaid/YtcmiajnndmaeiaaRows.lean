/-
  No cell of these rows narrows 'for every input' (looked for: loops, veiled, ifaces, maps, wideKeys, modest, calm, conditions, laid).
  DERIVED. THE GIVEN ROWS OF THIS SEAT. 5 by the template 'for every input the law returns true; each argument reads behind the call as it read before'; 0 by the template 'total and deterministic' (their statements: YtcmiajnndmaeiaaTotals.lean).
  GIVEN WITH THE SEED: the statements are not yours to turn. If you find one false, say at which input.
  Laid BY PROGRAM, IN A SANDBOX (cutbox-rows.mjs): the forced cells as the released guide's own fill.sh prints them over the translation 4f77d8ca8e16bfa1… (all of the seat's roots in one cut). By AI agents, Wed Nov 11 2026. No macro, syntax, notation, axiom, sorry.
-/
import Derived.Test.YtcmiajnndmaeiaaChecked
import GoSem.Claim
import GoSem.ClaimJoined
import GoSem.ClaimMapViews
import Derived.JoinedTies
import Derived.KernelRfl
namespace Go.Proofs.Ytcmiajnndmaeiaa
/- THE CELL 'sum', in the pinned program and in every row, IS THE sha256 OF THE DUMP (.gsa) THAT YtcmiajnndmaeiaaProg.lean LOADS. Nothing in Lean hashes anything: it is a label: what it is worth is what the hold of that sum in a sandbox is worth. -/
noncomputable def Try.pinned : Pinned := { name := "ytcmiajnndmaeiaa", sum := "4f77d8ca8e16bfa141bc6b5fdd5f36adeec9d22582469aac3801891a9c2c8469", checked := Try.checked }
namespace Rows
def none {H : Type} : Left H := { results := [], args := [] }

/-- 'redanlaw19.FragSplits': WHATEVER THE INPUT: true; the input reads as it did. -/
def fragSplitsSpec : ChangeSpec := { name := "fragSplits", fn := fun _ => fun
  | [d] => { results := [.lit (.bool true)], args := [d] }
  | _ => none }
def fragSplitsRow : OpenClaim := { program := "ytcmiajnndmaeiaa", sum := "4f77d8ca8e16bfa141bc6b5fdd5f36adeec9d22582469aac3801891a9c2c8469", func := "redan/redanlaw19.FragSplits", spec := "fragSplits", unfollowed := true, recurses := true, apart := false }
def FragSplitsSaid : Prop := fragSplitsRow.holds Try.pinned (OpenSpec.ofChange fragSplitsSpec)

/-- ITS FALSE NEIGHBOUR: 'it returns false'. Refute it at one input. -/
def fragSplitsWrong : ChangeSpec := { name := "fragSplits", fn := fun _ => fun
  | [d] => { results := [.lit (.bool false)], args := [d] }
  | _ => none }
def FragSplitsWrongFalsely : Prop := fragSplitsRow.holds Try.pinned (OpenSpec.ofChange fragSplitsWrong)

/-- 'redanlaw19.FragBack': WHATEVER THE INPUT: true; the input reads as it did. -/
def fragBackSpec : ChangeSpec := { name := "fragBack", fn := fun _ => fun
  | [d1, d2, d3] => { results := [.lit (.bool true)], args := [d1, d2, d3] }
  | _ => none }
def fragBackRow : OpenClaim := { program := "ytcmiajnndmaeiaa", sum := "4f77d8ca8e16bfa141bc6b5fdd5f36adeec9d22582469aac3801891a9c2c8469", func := "redan/redanlaw19.FragBack", spec := "fragBack", unfollowed := true, recurses := true, apart := false }
def FragBackSaid : Prop := fragBackRow.holds Try.pinned (OpenSpec.ofChange fragBackSpec)

/-- ITS FALSE NEIGHBOUR: 'it returns false'. Refute it at one input. -/
def fragBackWrong : ChangeSpec := { name := "fragBack", fn := fun _ => fun
  | [d1, d2, d3] => { results := [.lit (.bool false)], args := [d1, d2, d3] }
  | _ => none }
def FragBackWrongFalsely : Prop := fragBackRow.holds Try.pinned (OpenSpec.ofChange fragBackWrong)

/-- 'redanlaw19.FragAges': WHATEVER THE INPUT: true; the input reads as it did. -/
def fragAgesSpec : ChangeSpec := { name := "fragAges", fn := fun _ => fun
  | [d1, d2, d3, d4] => { results := [.lit (.bool true)], args := [d1, d2, d3, d4] }
  | _ => none }
def fragAgesRow : OpenClaim := { program := "ytcmiajnndmaeiaa", sum := "4f77d8ca8e16bfa141bc6b5fdd5f36adeec9d22582469aac3801891a9c2c8469", func := "redan/redanlaw19.FragAges", spec := "fragAges", unfollowed := true, recurses := true, apart := false }
def FragAgesSaid : Prop := fragAgesRow.holds Try.pinned (OpenSpec.ofChange fragAgesSpec)

/-- ITS FALSE NEIGHBOUR: 'it returns false'. Refute it at one input. -/
def fragAgesWrong : ChangeSpec := { name := "fragAges", fn := fun _ => fun
  | [d1, d2, d3, d4] => { results := [.lit (.bool false)], args := [d1, d2, d3, d4] }
  | _ => none }
def FragAgesWrongFalsely : Prop := fragAgesRow.holds Try.pinned (OpenSpec.ofChange fragAgesWrong)

/-- 'redanlaw19.FragPlays': WHATEVER THE INPUT: true; the input reads as it did. -/
def fragPlaysSpec : ChangeSpec := { name := "fragPlays", fn := fun _ => fun
  | [d1, d2, d3, d4] => { results := [.lit (.bool true)], args := [d1, d2, d3, d4] }
  | _ => none }
def fragPlaysRow : OpenClaim := { program := "ytcmiajnndmaeiaa", sum := "4f77d8ca8e16bfa141bc6b5fdd5f36adeec9d22582469aac3801891a9c2c8469", func := "redan/redanlaw19.FragPlays", spec := "fragPlays", unfollowed := true, recurses := true, apart := false }
def FragPlaysSaid : Prop := fragPlaysRow.holds Try.pinned (OpenSpec.ofChange fragPlaysSpec)

/-- ITS FALSE NEIGHBOUR: 'it returns false'. Refute it at one input. -/
def fragPlaysWrong : ChangeSpec := { name := "fragPlays", fn := fun _ => fun
  | [d1, d2, d3, d4] => { results := [.lit (.bool false)], args := [d1, d2, d3, d4] }
  | _ => none }
def FragPlaysWrongFalsely : Prop := fragPlaysRow.holds Try.pinned (OpenSpec.ofChange fragPlaysWrong)

/-- 'redanlaw19.FragBounds': WHATEVER THE INPUT: true; the input reads as it did. -/
def fragBoundsSpec : ChangeSpec := { name := "fragBounds", fn := fun _ => fun
  | [d1, d2, d3, d4] => { results := [.lit (.bool true)], args := [d1, d2, d3, d4] }
  | _ => none }
def fragBoundsRow : OpenClaim := { program := "ytcmiajnndmaeiaa", sum := "4f77d8ca8e16bfa141bc6b5fdd5f36adeec9d22582469aac3801891a9c2c8469", func := "redan/redanlaw19.FragBounds", spec := "fragBounds", unfollowed := true, recurses := true, apart := false }
def FragBoundsSaid : Prop := fragBoundsRow.holds Try.pinned (OpenSpec.ofChange fragBoundsSpec)

/-- ITS FALSE NEIGHBOUR: 'it returns false'. Refute it at one input. -/
def fragBoundsWrong : ChangeSpec := { name := "fragBounds", fn := fun _ => fun
  | [d1, d2, d3, d4] => { results := [.lit (.bool false)], args := [d1, d2, d3, d4] }
  | _ => none }
def FragBoundsWrongFalsely : Prop := fragBoundsRow.holds Try.pinned (OpenSpec.ofChange fragBoundsWrong)

/- THE SECOND FORM. 'bulk': how many values and letters a reading holds, each counted each time it is reached (what is shared counts as often as it is met; a slice's spare places count too). A statement '..UptoSaid' is the law's where the arguments, and the package variables that the reading takes, are together of bulk at most 1048576: NARROWER than '..Said'. Prove '..Said' where nothing that the law and all that it calls make is longer than what came in: it says more and counts as full. Else prove '..UptoSaid'. A law counts once. -/
mutual
def uptoBulk {H : Type} : DataW H → Nat
  | .lit (.string bytes) => bytes.length + 1
  | .lit _ => 1
  | .nil => 1
  | .ptr d => uptoBulk d + 1
  | .slice elems spare => uptoBulkAll elems + uptoBulkAll spare + 1
  | .agg parts => uptoBulkAll parts + 1
  | .iface _ d => uptoBulk d + 1
  | .map entries => uptoBulkEntries entries + 1
  | .held _ => 1
def uptoBulkAll {H : Type} : List (DataW H) → Nat
  | [] => 0
  | d :: r => uptoBulk d + uptoBulkAll r
def uptoBulkEntries {H : Type} : List (Lit × DataW H) → Nat
  | [] => 0
  | x :: r => uptoBulkEntry x + uptoBulkEntries r
def uptoBulkEntry {H : Type} : Lit × DataW H → Nat
  | (.string bytes, d) => bytes.length + uptoBulk d + 1
  | (_, d) => uptoBulk d + 1
 end
def uptoSmall : (H : Type) → List (DataW H) → Bool := fun _ ds => decide (uptoBulkAll ds ≤ 1048576)
def OpenSpec.upto (s : _root_.Go.ChangeSpec) : _root_.Go.OpenSpec := { _root_.Go.OpenSpec.ofChange s with cond := some uptoSmall }

/-- 'redanlaw19.FragSplits', WHERE WHAT IT READS IS OF BULK AT MOST 1048576: true; the input reads as it did. -/
def fragSplitsUptoRow : OpenClaim := { program := "ytcmiajnndmaeiaa", sum := "4f77d8ca8e16bfa141bc6b5fdd5f36adeec9d22582469aac3801891a9c2c8469", func := "redan/redanlaw19.FragSplits", spec := "fragSplits", unfollowed := true, recurses := true, apart := false, narrowed := true }
def FragSplitsUptoSaid : Prop := fragSplitsUptoRow.holds Try.pinned (OpenSpec.upto fragSplitsSpec)

/-- 'redanlaw19.FragBack', WHERE WHAT IT READS IS OF BULK AT MOST 1048576: true; the input reads as it did. -/
def fragBackUptoRow : OpenClaim := { program := "ytcmiajnndmaeiaa", sum := "4f77d8ca8e16bfa141bc6b5fdd5f36adeec9d22582469aac3801891a9c2c8469", func := "redan/redanlaw19.FragBack", spec := "fragBack", unfollowed := true, recurses := true, apart := false, narrowed := true }
def FragBackUptoSaid : Prop := fragBackUptoRow.holds Try.pinned (OpenSpec.upto fragBackSpec)

/-- 'redanlaw19.FragAges', WHERE WHAT IT READS IS OF BULK AT MOST 1048576: true; the input reads as it did. -/
def fragAgesUptoRow : OpenClaim := { program := "ytcmiajnndmaeiaa", sum := "4f77d8ca8e16bfa141bc6b5fdd5f36adeec9d22582469aac3801891a9c2c8469", func := "redan/redanlaw19.FragAges", spec := "fragAges", unfollowed := true, recurses := true, apart := false, narrowed := true }
def FragAgesUptoSaid : Prop := fragAgesUptoRow.holds Try.pinned (OpenSpec.upto fragAgesSpec)

/-- 'redanlaw19.FragPlays', WHERE WHAT IT READS IS OF BULK AT MOST 1048576: true; the input reads as it did. -/
def fragPlaysUptoRow : OpenClaim := { program := "ytcmiajnndmaeiaa", sum := "4f77d8ca8e16bfa141bc6b5fdd5f36adeec9d22582469aac3801891a9c2c8469", func := "redan/redanlaw19.FragPlays", spec := "fragPlays", unfollowed := true, recurses := true, apart := false, narrowed := true }
def FragPlaysUptoSaid : Prop := fragPlaysUptoRow.holds Try.pinned (OpenSpec.upto fragPlaysSpec)

/-- 'redanlaw19.FragBounds', WHERE WHAT IT READS IS OF BULK AT MOST 1048576: true; the input reads as it did. -/
def fragBoundsUptoRow : OpenClaim := { program := "ytcmiajnndmaeiaa", sum := "4f77d8ca8e16bfa141bc6b5fdd5f36adeec9d22582469aac3801891a9c2c8469", func := "redan/redanlaw19.FragBounds", spec := "fragBounds", unfollowed := true, recurses := true, apart := false, narrowed := true }
def FragBoundsUptoSaid : Prop := fragBoundsUptoRow.holds Try.pinned (OpenSpec.upto fragBoundsSpec)

end Rows
end Go.Proofs.Ytcmiajnndmaeiaa
