/-
  DERIVED. GIVEN WITH THE SEED: THE CARDS: each row of YtkkhdjdoifnoaaaDoorRows.lean that lists a variable, with what it lists TIED to the program's text (the seventh form; the later family's looks); each row that meets fmt, with fmt's text TOLD by the authors' own Lean function (tested against real Go, not proved from fmt's source: count such statements apart). THE CARD IS WHAT COUNTS. Prove the row's statement (the work); the ties are given (YtkkhdjdoifnoaaaDoorTie.lean); close each card by the builder's one call (the guide's Derived/Test/ToyasCard.lean, 'card_holds'). Laid BY PROGRAM, IN A SANDBOX (cutbox-door.mjs). By AI agents, Wed Nov 11 2026. No macro, syntax, notation, axiom, sorry.
-/
import Derived.Test.YtkkhdjdoifnoaaaDoorRows
import GoSem.ClaimSeven
namespace Go.Proofs.YtkkhdjdoifnoaaaDoor
namespace Rows

/-- THE TIED CARD OF 'redanlaw09.AeadSeals'. -/
def aeadSealsCard : Claim7 := { stood := { row := aeadSealsRow, standIns := [], harness := (true, "859fc0b22927345d43ed05ce18a6e5b5503faf91614fd4109bfb2136e5dfb1c6"), looks := false }, kinds := [], alts := [], laidByText := true, laidKinds := [.data], laidTests := true, laidLooks := .later }
def AeadSealsCardSaid : Prop := Claim7.holds Tryd.pinned (.plain (OpenSpec.ofChange aeadSealsSpec)) aeadSealsCard

/-- THE TIED CARD OF 'redanlaw09.AeadOpens'. -/
def aeadOpensCard : Claim7 := { stood := { row := aeadOpensRow, standIns := [], harness := (true, "859fc0b22927345d43ed05ce18a6e5b5503faf91614fd4109bfb2136e5dfb1c6"), looks := false }, kinds := [], alts := [], laidByText := true, laidKinds := [.data], laidTests := true, laidLooks := .later }
def AeadOpensCardSaid : Prop := Claim7.holds Tryd.pinned (.plain (OpenSpec.ofChange aeadOpensSpec)) aeadOpensCard

/-- THE TIED CARD OF 'redanlaw09.AeadBack'. -/
def aeadBackCard : Claim7 := { stood := { row := aeadBackRow, standIns := [], harness := (true, "859fc0b22927345d43ed05ce18a6e5b5503faf91614fd4109bfb2136e5dfb1c6"), looks := false }, kinds := [], alts := [], laidByText := true, laidKinds := [.data], laidTests := true, laidLooks := .later }
def AeadBackCardSaid : Prop := Claim7.holds Tryd.pinned (.plain (OpenSpec.ofChange aeadBackSpec)) aeadBackCard

/-- THE TIED CARD OF 'redanlaw09.AeadTags'. -/
def aeadTagsCard : Claim7 := { stood := { row := aeadTagsRow, standIns := [], harness := (true, "859fc0b22927345d43ed05ce18a6e5b5503faf91614fd4109bfb2136e5dfb1c6"), looks := false }, kinds := [], alts := [], laidByText := true, laidKinds := [.data], laidTests := true, laidLooks := .later }
def AeadTagsCardSaid : Prop := Claim7.holds Tryd.pinned (.plain (OpenSpec.ofChange aeadTagsSpec)) aeadTagsCard

/-- THE TIED CARD OF 'redanlaw09.AeadShort'. -/
def aeadShortCard : Claim7 := { stood := { row := aeadShortRow, standIns := [], harness := (true, "859fc0b22927345d43ed05ce18a6e5b5503faf91614fd4109bfb2136e5dfb1c6"), looks := false }, kinds := [], alts := [], laidByText := true, laidKinds := [.data], laidTests := true, laidLooks := .later }
def AeadShortCardSaid : Prop := Claim7.holds Tryd.pinned (.plain (OpenSpec.ofChange aeadShortSpec)) aeadShortCard

/-- THE SECOND FORM's CARD OF 'redanlaw09.AeadSeals'. -/
def aeadSealsUptoCard : Claim7 := { stood := { row := aeadSealsUptoRow, standIns := [], harness := (true, "859fc0b22927345d43ed05ce18a6e5b5503faf91614fd4109bfb2136e5dfb1c6"), looks := false }, kinds := [], alts := [], laidByText := true, laidKinds := [.data], laidTests := true, laidLooks := .later }
def AeadSealsUptoCardSaid : Prop := Claim7.holds Tryd.pinned (.plain (OpenSpec.upto aeadSealsSpec)) aeadSealsUptoCard

/-- THE SECOND FORM's CARD OF 'redanlaw09.AeadOpens'. -/
def aeadOpensUptoCard : Claim7 := { stood := { row := aeadOpensUptoRow, standIns := [], harness := (true, "859fc0b22927345d43ed05ce18a6e5b5503faf91614fd4109bfb2136e5dfb1c6"), looks := false }, kinds := [], alts := [], laidByText := true, laidKinds := [.data], laidTests := true, laidLooks := .later }
def AeadOpensUptoCardSaid : Prop := Claim7.holds Tryd.pinned (.plain (OpenSpec.upto aeadOpensSpec)) aeadOpensUptoCard

/-- THE SECOND FORM's CARD OF 'redanlaw09.AeadBack'. -/
def aeadBackUptoCard : Claim7 := { stood := { row := aeadBackUptoRow, standIns := [], harness := (true, "859fc0b22927345d43ed05ce18a6e5b5503faf91614fd4109bfb2136e5dfb1c6"), looks := false }, kinds := [], alts := [], laidByText := true, laidKinds := [.data], laidTests := true, laidLooks := .later }
def AeadBackUptoCardSaid : Prop := Claim7.holds Tryd.pinned (.plain (OpenSpec.upto aeadBackSpec)) aeadBackUptoCard

/-- THE SECOND FORM's CARD OF 'redanlaw09.AeadTags'. -/
def aeadTagsUptoCard : Claim7 := { stood := { row := aeadTagsUptoRow, standIns := [], harness := (true, "859fc0b22927345d43ed05ce18a6e5b5503faf91614fd4109bfb2136e5dfb1c6"), looks := false }, kinds := [], alts := [], laidByText := true, laidKinds := [.data], laidTests := true, laidLooks := .later }
def AeadTagsUptoCardSaid : Prop := Claim7.holds Tryd.pinned (.plain (OpenSpec.upto aeadTagsSpec)) aeadTagsUptoCard

/-- THE SECOND FORM's CARD OF 'redanlaw09.AeadShort'. -/
def aeadShortUptoCard : Claim7 := { stood := { row := aeadShortUptoRow, standIns := [], harness := (true, "859fc0b22927345d43ed05ce18a6e5b5503faf91614fd4109bfb2136e5dfb1c6"), looks := false }, kinds := [], alts := [], laidByText := true, laidKinds := [.data], laidTests := true, laidLooks := .later }
def AeadShortUptoCardSaid : Prop := Claim7.holds Tryd.pinned (.plain (OpenSpec.upto aeadShortSpec)) aeadShortUptoCard
end Rows
end Go.Proofs.YtkkhdjdoifnoaaaDoor
