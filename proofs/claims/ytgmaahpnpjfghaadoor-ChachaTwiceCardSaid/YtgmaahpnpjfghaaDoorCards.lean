/-
  DERIVED. GIVEN WITH THE SEED: THE CARDS: each row of YtgmaahpnpjfghaaDoorRows.lean that lists a variable, with what it lists TIED to the program's text (the seventh form; the later family's looks); each row that meets fmt, with fmt's text TOLD by the authors' own Lean function (tested against real Go, not proved from fmt's source: count such statements apart). THE CARD IS WHAT COUNTS. Prove the row's statement (the work); the ties are given (YtgmaahpnpjfghaaDoorTie.lean); close each card by the builder's one call (the guide's Derived/Test/ToyasCard.lean, 'card_holds'). Laid BY PROGRAM, IN A SANDBOX (cutbox-door.mjs). By AI agents, Wed Nov 11 2026. No macro, syntax, notation, axiom, sorry.
-/
import Derived.Test.YtgmaahpnpjfghaaDoorRows
import GoSem.ClaimSeven
namespace Go.Proofs.YtgmaahpnpjfghaaDoor
namespace Rows

/-- THE TIED CARD OF 'redanlaw07.ChachaQuarters'. -/
def chachaQuartersCard : Claim7 := { stood := { row := chachaQuartersRow, standIns := [], harness := (true, "8034591c6b66533948bd5a9c9355bb2ca1c45caea0e3c93b3243d2362ce65934"), looks := false }, kinds := [], alts := [], laidByText := true, laidKinds := [.data], laidTests := true, laidLooks := .later }
def ChachaQuartersCardSaid : Prop := Claim7.holds Tryd.pinned (.plain (OpenSpec.ofChange chachaQuartersSpec)) chachaQuartersCard

/-- THE TIED CARD OF 'redanlaw07.ChachaBlocks'. -/
def chachaBlocksCard : Claim7 := { stood := { row := chachaBlocksRow, standIns := [], harness := (true, "8034591c6b66533948bd5a9c9355bb2ca1c45caea0e3c93b3243d2362ce65934"), looks := false }, kinds := [], alts := [], laidByText := true, laidKinds := [.data], laidTests := true, laidLooks := .later }
def ChachaBlocksCardSaid : Prop := Claim7.holds Tryd.pinned (.plain (OpenSpec.ofChange chachaBlocksSpec)) chachaBlocksCard

/-- THE TIED CARD OF 'redanlaw07.ChachaStreams'. -/
def chachaStreamsCard : Claim7 := { stood := { row := chachaStreamsRow, standIns := [], harness := (true, "8034591c6b66533948bd5a9c9355bb2ca1c45caea0e3c93b3243d2362ce65934"), looks := false }, kinds := [], alts := [], laidByText := true, laidKinds := [.data], laidTests := true, laidLooks := .later }
def ChachaStreamsCardSaid : Prop := Claim7.holds Tryd.pinned (.plain (OpenSpec.ofChange chachaStreamsSpec)) chachaStreamsCard

/-- THE TIED CARD OF 'redanlaw07.ChachaTwice'. -/
def chachaTwiceCard : Claim7 := { stood := { row := chachaTwiceRow, standIns := [], harness := (true, "8034591c6b66533948bd5a9c9355bb2ca1c45caea0e3c93b3243d2362ce65934"), looks := false }, kinds := [], alts := [], laidByText := true, laidKinds := [.data], laidTests := true, laidLooks := .later }
def ChachaTwiceCardSaid : Prop := Claim7.holds Tryd.pinned (.plain (OpenSpec.ofChange chachaTwiceSpec)) chachaTwiceCard

/-- THE TIED CARD OF 'redanlaw07.ChachaCounts'. -/
def chachaCountsCard : Claim7 := { stood := { row := chachaCountsRow, standIns := [], harness := (true, "8034591c6b66533948bd5a9c9355bb2ca1c45caea0e3c93b3243d2362ce65934"), looks := false }, kinds := [], alts := [], laidByText := true, laidKinds := [.data], laidTests := true, laidLooks := .later }
def ChachaCountsCardSaid : Prop := Claim7.holds Tryd.pinned (.plain (OpenSpec.ofChange chachaCountsSpec)) chachaCountsCard

/-- THE SECOND FORM's CARD OF 'redanlaw07.ChachaQuarters'. -/
def chachaQuartersUptoCard : Claim7 := { stood := { row := chachaQuartersUptoRow, standIns := [], harness := (true, "8034591c6b66533948bd5a9c9355bb2ca1c45caea0e3c93b3243d2362ce65934"), looks := false }, kinds := [], alts := [], laidByText := true, laidKinds := [.data], laidTests := true, laidLooks := .later }
def ChachaQuartersUptoCardSaid : Prop := Claim7.holds Tryd.pinned (.plain (OpenSpec.upto chachaQuartersSpec)) chachaQuartersUptoCard

/-- THE SECOND FORM's CARD OF 'redanlaw07.ChachaBlocks'. -/
def chachaBlocksUptoCard : Claim7 := { stood := { row := chachaBlocksUptoRow, standIns := [], harness := (true, "8034591c6b66533948bd5a9c9355bb2ca1c45caea0e3c93b3243d2362ce65934"), looks := false }, kinds := [], alts := [], laidByText := true, laidKinds := [.data], laidTests := true, laidLooks := .later }
def ChachaBlocksUptoCardSaid : Prop := Claim7.holds Tryd.pinned (.plain (OpenSpec.upto chachaBlocksSpec)) chachaBlocksUptoCard

/-- THE SECOND FORM's CARD OF 'redanlaw07.ChachaStreams'. -/
def chachaStreamsUptoCard : Claim7 := { stood := { row := chachaStreamsUptoRow, standIns := [], harness := (true, "8034591c6b66533948bd5a9c9355bb2ca1c45caea0e3c93b3243d2362ce65934"), looks := false }, kinds := [], alts := [], laidByText := true, laidKinds := [.data], laidTests := true, laidLooks := .later }
def ChachaStreamsUptoCardSaid : Prop := Claim7.holds Tryd.pinned (.plain (OpenSpec.upto chachaStreamsSpec)) chachaStreamsUptoCard

/-- THE SECOND FORM's CARD OF 'redanlaw07.ChachaTwice'. -/
def chachaTwiceUptoCard : Claim7 := { stood := { row := chachaTwiceUptoRow, standIns := [], harness := (true, "8034591c6b66533948bd5a9c9355bb2ca1c45caea0e3c93b3243d2362ce65934"), looks := false }, kinds := [], alts := [], laidByText := true, laidKinds := [.data], laidTests := true, laidLooks := .later }
def ChachaTwiceUptoCardSaid : Prop := Claim7.holds Tryd.pinned (.plain (OpenSpec.upto chachaTwiceSpec)) chachaTwiceUptoCard

/-- THE SECOND FORM's CARD OF 'redanlaw07.ChachaCounts'. -/
def chachaCountsUptoCard : Claim7 := { stood := { row := chachaCountsUptoRow, standIns := [], harness := (true, "8034591c6b66533948bd5a9c9355bb2ca1c45caea0e3c93b3243d2362ce65934"), looks := false }, kinds := [], alts := [], laidByText := true, laidKinds := [.data], laidTests := true, laidLooks := .later }
def ChachaCountsUptoCardSaid : Prop := Claim7.holds Tryd.pinned (.plain (OpenSpec.upto chachaCountsSpec)) chachaCountsUptoCard
end Rows
end Go.Proofs.YtgmaahpnpjfghaaDoor
