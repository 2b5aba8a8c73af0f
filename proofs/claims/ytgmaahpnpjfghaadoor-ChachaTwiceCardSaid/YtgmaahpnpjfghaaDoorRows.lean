/-
  NARROWER THAN 'FOR EVERY INPUT', by the rows' own cells (each row's printed sentence says how): ChachaQuarters: laid · ChachaBlocks: laid · ChachaStreams: laid · ChachaTwice: laid · ChachaCounts: laid.
  DERIVED. THE GIVEN ROWS OF THIS SEAT. 5 by the template 'for every input the law returns true; each argument reads behind the call as it read before'; 0 by the template 'total and deterministic' (their statements: YtgmaahpnpjfghaaDoorTotals.lean).
  GIVEN WITH THE SEED: the statements are not yours to turn. If you find one false, say at which input.
  Laid BY PROGRAM, IN A SANDBOX (cutbox-rows.mjs): the forced cells as the released guide's own fill.sh prints them over the translation 0f177293a1d9157a… (all of the seat's roots in one cut). By AI agents, Wed Nov 11 2026. No macro, syntax, notation, axiom, sorry.
-/
import Derived.Test.YtgmaahpnpjfghaaDoorChecked
import GoSem.Claim
import GoSem.ClaimJoined
import GoSem.ClaimMapViews
import Derived.JoinedTies
import Derived.KernelRfl
namespace Go.Proofs.YtgmaahpnpjfghaaDoor
/- THE CELL 'sum', in the pinned program and in every row, IS THE sha256 OF THE DUMP (.gsa) THAT YtgmaahpnpjfghaaDoorProg.lean LOADS. Nothing in Lean hashes anything: it is a label: what it is worth is what the hold of that sum in a sandbox is worth. -/
noncomputable def Tryd.pinned : Pinned := { name := "ytgmaahpnpjfghaadoor", sum := "0f177293a1d9157aed55a7c35e3824f2347dca7ea6c903ed55b0b8a3f7d664e4", checked := Tryd.checked }
namespace Rows
def none {H : Type} : Left H := { results := [], args := [] }

/- WHAT THE LISTED PACKAGE-LEVEL VARIABLES READ AS WHEN THE CALL BEGINS. Each datum BY PROGRAM (the guide's laid-datum.mjs) off the statement by which the dump's own 'gosem.cut.vars' lays the variable. In a bare row this is a premise. The card (YtgmaahpnpjfghaaDoorCards.lean) ties it to the program's text. -/
def laid_redan_chacha_places {H : Type} : DataW H := .agg [.agg [.lit (.int .i64 0), .lit (.int .i64 4), .lit (.int .i64 8), .lit (.int .i64 12)], .agg [.lit (.int .i64 1), .lit (.int .i64 5), .lit (.int .i64 9), .lit (.int .i64 13)], .agg [.lit (.int .i64 2), .lit (.int .i64 6), .lit (.int .i64 10), .lit (.int .i64 14)], .agg [.lit (.int .i64 3), .lit (.int .i64 7), .lit (.int .i64 11), .lit (.int .i64 15)], .agg [.lit (.int .i64 0), .lit (.int .i64 5), .lit (.int .i64 10), .lit (.int .i64 15)], .agg [.lit (.int .i64 1), .lit (.int .i64 6), .lit (.int .i64 11), .lit (.int .i64 12)], .agg [.lit (.int .i64 2), .lit (.int .i64 7), .lit (.int .i64 8), .lit (.int .i64 13)], .agg [.lit (.int .i64 3), .lit (.int .i64 4), .lit (.int .i64 9), .lit (.int .i64 14)]]

/-- 'redanlaw07.ChachaQuarters': WHATEVER THE INPUT: true; the input reads as it did. -/
def chachaQuartersSpec : ChangeSpec := { name := "chachaQuarters", fn := fun _ => fun
  | [d1, d2, d3, d4] => { results := [.lit (.bool true)], args := [d1, d2, d3, d4] }
  | _ => none }
def chachaQuartersRow : OpenClaim := { program := "ytgmaahpnpjfghaadoor", sum := "0f177293a1d9157aed55a7c35e3824f2347dca7ea6c903ed55b0b8a3f7d664e4", func := "redan/redanlaw07.ChachaQuarters", spec := "chachaQuarters", named := ["redan/chacha.places"], apart := false, laid := [("redan/chacha.places", laid_redan_chacha_places)] }
def ChachaQuartersSaid : Prop := chachaQuartersRow.holds Tryd.pinned (OpenSpec.ofChange chachaQuartersSpec)

/-- ITS FALSE NEIGHBOUR: 'it returns false'. Refute it at one input. -/
def chachaQuartersWrong : ChangeSpec := { name := "chachaQuarters", fn := fun _ => fun
  | [d1, d2, d3, d4] => { results := [.lit (.bool false)], args := [d1, d2, d3, d4] }
  | _ => none }
def ChachaQuartersWrongFalsely : Prop := chachaQuartersRow.holds Tryd.pinned (OpenSpec.ofChange chachaQuartersWrong)

/-- 'redanlaw07.ChachaBlocks': WHATEVER THE INPUT: true; the input reads as it did. -/
def chachaBlocksSpec : ChangeSpec := { name := "chachaBlocks", fn := fun _ => fun
  | [d1, d2, d3] => { results := [.lit (.bool true)], args := [d1, d2, d3] }
  | _ => none }
def chachaBlocksRow : OpenClaim := { program := "ytgmaahpnpjfghaadoor", sum := "0f177293a1d9157aed55a7c35e3824f2347dca7ea6c903ed55b0b8a3f7d664e4", func := "redan/redanlaw07.ChachaBlocks", spec := "chachaBlocks", named := ["redan/chacha.places"], apart := false, laid := [("redan/chacha.places", laid_redan_chacha_places)] }
def ChachaBlocksSaid : Prop := chachaBlocksRow.holds Tryd.pinned (OpenSpec.ofChange chachaBlocksSpec)

/-- ITS FALSE NEIGHBOUR: 'it returns false'. Refute it at one input. -/
def chachaBlocksWrong : ChangeSpec := { name := "chachaBlocks", fn := fun _ => fun
  | [d1, d2, d3] => { results := [.lit (.bool false)], args := [d1, d2, d3] }
  | _ => none }
def ChachaBlocksWrongFalsely : Prop := chachaBlocksRow.holds Tryd.pinned (OpenSpec.ofChange chachaBlocksWrong)

/-- 'redanlaw07.ChachaStreams': WHATEVER THE INPUT: true; the input reads as it did. -/
def chachaStreamsSpec : ChangeSpec := { name := "chachaStreams", fn := fun _ => fun
  | [d1, d2, d3, d4] => { results := [.lit (.bool true)], args := [d1, d2, d3, d4] }
  | _ => none }
def chachaStreamsRow : OpenClaim := { program := "ytgmaahpnpjfghaadoor", sum := "0f177293a1d9157aed55a7c35e3824f2347dca7ea6c903ed55b0b8a3f7d664e4", func := "redan/redanlaw07.ChachaStreams", spec := "chachaStreams", named := ["redan/chacha.places"], apart := false, laid := [("redan/chacha.places", laid_redan_chacha_places)] }
def ChachaStreamsSaid : Prop := chachaStreamsRow.holds Tryd.pinned (OpenSpec.ofChange chachaStreamsSpec)

/-- ITS FALSE NEIGHBOUR: 'it returns false'. Refute it at one input. -/
def chachaStreamsWrong : ChangeSpec := { name := "chachaStreams", fn := fun _ => fun
  | [d1, d2, d3, d4] => { results := [.lit (.bool false)], args := [d1, d2, d3, d4] }
  | _ => none }
def ChachaStreamsWrongFalsely : Prop := chachaStreamsRow.holds Tryd.pinned (OpenSpec.ofChange chachaStreamsWrong)

/-- 'redanlaw07.ChachaTwice': WHATEVER THE INPUT: true; the input reads as it did. -/
def chachaTwiceSpec : ChangeSpec := { name := "chachaTwice", fn := fun _ => fun
  | [d1, d2, d3, d4, d5] => { results := [.lit (.bool true)], args := [d1, d2, d3, d4, d5] }
  | _ => none }
def chachaTwiceRow : OpenClaim := { program := "ytgmaahpnpjfghaadoor", sum := "0f177293a1d9157aed55a7c35e3824f2347dca7ea6c903ed55b0b8a3f7d664e4", func := "redan/redanlaw07.ChachaTwice", spec := "chachaTwice", named := ["redan/chacha.places"], apart := false, laid := [("redan/chacha.places", laid_redan_chacha_places)] }
def ChachaTwiceSaid : Prop := chachaTwiceRow.holds Tryd.pinned (OpenSpec.ofChange chachaTwiceSpec)

/-- ITS FALSE NEIGHBOUR: 'it returns false'. Refute it at one input. -/
def chachaTwiceWrong : ChangeSpec := { name := "chachaTwice", fn := fun _ => fun
  | [d1, d2, d3, d4, d5] => { results := [.lit (.bool false)], args := [d1, d2, d3, d4, d5] }
  | _ => none }
def ChachaTwiceWrongFalsely : Prop := chachaTwiceRow.holds Tryd.pinned (OpenSpec.ofChange chachaTwiceWrong)

/-- 'redanlaw07.ChachaCounts': WHATEVER THE INPUT: true; the input reads as it did. -/
def chachaCountsSpec : ChangeSpec := { name := "chachaCounts", fn := fun _ => fun
  | [d1, d2, d3, d4] => { results := [.lit (.bool true)], args := [d1, d2, d3, d4] }
  | _ => none }
def chachaCountsRow : OpenClaim := { program := "ytgmaahpnpjfghaadoor", sum := "0f177293a1d9157aed55a7c35e3824f2347dca7ea6c903ed55b0b8a3f7d664e4", func := "redan/redanlaw07.ChachaCounts", spec := "chachaCounts", named := ["redan/chacha.places"], apart := false, laid := [("redan/chacha.places", laid_redan_chacha_places)] }
def ChachaCountsSaid : Prop := chachaCountsRow.holds Tryd.pinned (OpenSpec.ofChange chachaCountsSpec)

/-- ITS FALSE NEIGHBOUR: 'it returns false'. Refute it at one input. -/
def chachaCountsWrong : ChangeSpec := { name := "chachaCounts", fn := fun _ => fun
  | [d1, d2, d3, d4] => { results := [.lit (.bool false)], args := [d1, d2, d3, d4] }
  | _ => none }
def ChachaCountsWrongFalsely : Prop := chachaCountsRow.holds Tryd.pinned (OpenSpec.ofChange chachaCountsWrong)

/- THE SECOND FORM. 'bulk': how many values and letters a reading holds, each counted each time it is reached (what is shared counts as often as it is met; a slice's spare places count too). A statement '..UptoSaid' is the law's where the arguments, and the package variables that the reading takes, are together of bulk at most 1048576: NARROWER than '..Said'. Prove '..Said' where nothing that the law and all that it calls make is longer than what came in: it says more and counts as full. Else prove '..UptoSaid'. A law counts once. -/
mutual
def uptoBulk {H : Type} : DataW H → Nat
  | .lit (.string bytes) => bytes.length + 1
  | .lit _ => 1
  | .nil => 1
  | .ptr d => uptoBulk d + 1
  | .slice elems spare => uptoBulkAll elems + uptoBulkAll spare + 1
  | .agg parts => uptoBulkAll parts + 1
  | .iface _ d => uptoBulk d + 1
  | .map entries => uptoBulkEntries entries + 1
  | .held _ => 1
def uptoBulkAll {H : Type} : List (DataW H) → Nat
  | [] => 0
  | d :: r => uptoBulk d + uptoBulkAll r
def uptoBulkEntries {H : Type} : List (Lit × DataW H) → Nat
  | [] => 0
  | x :: r => uptoBulkEntry x + uptoBulkEntries r
def uptoBulkEntry {H : Type} : Lit × DataW H → Nat
  | (.string bytes, d) => bytes.length + uptoBulk d + 1
  | (_, d) => uptoBulk d + 1
 end
def uptoSmall : (H : Type) → List (DataW H) → Bool := fun _ ds => decide (uptoBulkAll ds ≤ 1048576)
def OpenSpec.upto (s : _root_.Go.ChangeSpec) : _root_.Go.OpenSpec := { _root_.Go.OpenSpec.ofChange s with cond := some uptoSmall }

/-- 'redanlaw07.ChachaQuarters', WHERE WHAT IT READS IS OF BULK AT MOST 1048576: true; the input reads as it did. -/
def chachaQuartersUptoRow : OpenClaim := { program := "ytgmaahpnpjfghaadoor", sum := "0f177293a1d9157aed55a7c35e3824f2347dca7ea6c903ed55b0b8a3f7d664e4", func := "redan/redanlaw07.ChachaQuarters", spec := "chachaQuarters", named := ["redan/chacha.places"], apart := false, laid := [("redan/chacha.places", laid_redan_chacha_places)], narrowed := true }
def ChachaQuartersUptoSaid : Prop := chachaQuartersUptoRow.holds Tryd.pinned (OpenSpec.upto chachaQuartersSpec)

/-- 'redanlaw07.ChachaBlocks', WHERE WHAT IT READS IS OF BULK AT MOST 1048576: true; the input reads as it did. -/
def chachaBlocksUptoRow : OpenClaim := { program := "ytgmaahpnpjfghaadoor", sum := "0f177293a1d9157aed55a7c35e3824f2347dca7ea6c903ed55b0b8a3f7d664e4", func := "redan/redanlaw07.ChachaBlocks", spec := "chachaBlocks", named := ["redan/chacha.places"], apart := false, laid := [("redan/chacha.places", laid_redan_chacha_places)], narrowed := true }
def ChachaBlocksUptoSaid : Prop := chachaBlocksUptoRow.holds Tryd.pinned (OpenSpec.upto chachaBlocksSpec)

/-- 'redanlaw07.ChachaStreams', WHERE WHAT IT READS IS OF BULK AT MOST 1048576: true; the input reads as it did. -/
def chachaStreamsUptoRow : OpenClaim := { program := "ytgmaahpnpjfghaadoor", sum := "0f177293a1d9157aed55a7c35e3824f2347dca7ea6c903ed55b0b8a3f7d664e4", func := "redan/redanlaw07.ChachaStreams", spec := "chachaStreams", named := ["redan/chacha.places"], apart := false, laid := [("redan/chacha.places", laid_redan_chacha_places)], narrowed := true }
def ChachaStreamsUptoSaid : Prop := chachaStreamsUptoRow.holds Tryd.pinned (OpenSpec.upto chachaStreamsSpec)

/-- 'redanlaw07.ChachaTwice', WHERE WHAT IT READS IS OF BULK AT MOST 1048576: true; the input reads as it did. -/
def chachaTwiceUptoRow : OpenClaim := { program := "ytgmaahpnpjfghaadoor", sum := "0f177293a1d9157aed55a7c35e3824f2347dca7ea6c903ed55b0b8a3f7d664e4", func := "redan/redanlaw07.ChachaTwice", spec := "chachaTwice", named := ["redan/chacha.places"], apart := false, laid := [("redan/chacha.places", laid_redan_chacha_places)], narrowed := true }
def ChachaTwiceUptoSaid : Prop := chachaTwiceUptoRow.holds Tryd.pinned (OpenSpec.upto chachaTwiceSpec)

/-- 'redanlaw07.ChachaCounts', WHERE WHAT IT READS IS OF BULK AT MOST 1048576: true; the input reads as it did. -/
def chachaCountsUptoRow : OpenClaim := { program := "ytgmaahpnpjfghaadoor", sum := "0f177293a1d9157aed55a7c35e3824f2347dca7ea6c903ed55b0b8a3f7d664e4", func := "redan/redanlaw07.ChachaCounts", spec := "chachaCounts", named := ["redan/chacha.places"], apart := false, laid := [("redan/chacha.places", laid_redan_chacha_places)], narrowed := true }
def ChachaCountsUptoSaid : Prop := chachaCountsUptoRow.holds Tryd.pinned (OpenSpec.upto chachaCountsSpec)

end Rows
end Go.Proofs.YtgmaahpnpjfghaaDoor
