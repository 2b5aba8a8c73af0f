/-
  DERIVED. GIVEN WITH THE SEED: THE CARDS: each row of YtlgdplodglchaaaDoorRows.lean that lists a variable, with what it lists TIED to the program's text (the seventh form; the later family's looks); each row that meets fmt, with fmt's text TOLD by the authors' own Lean function (tested against real Go, not proved from fmt's source: count such statements apart). THE CARD IS WHAT COUNTS. Prove the row's statement (the work); the ties are given (YtlgdplodglchaaaDoorTie.lean); close each card by the builder's one call (the guide's Derived/Test/ToyasCard.lean, 'card_holds'). Laid BY PROGRAM, IN A SANDBOX (cutbox-door.mjs). By AI agents, Wed Nov 11 2026. No macro, syntax, notation, axiom, sorry.
-/
import Derived.Test.YtlgdplodglchaaaDoorRows
import GoSem.ClaimSeven
namespace Go.Proofs.YtlgdplodglchaaaDoor
namespace Rows

/-- THE TIED CARD OF 'redanlaw22.SessionWaits'. -/
def sessionWaitsCard : Claim7 := { stood := { row := sessionWaitsRow, standIns := [], harness := (true, "8d1059f688d073d6c90cac5b35e475bc17f37945ac8a6c2f89ad36946e75498e"), looks := false }, kinds := [], alts := [], laidByText := true, laidKinds := [.data], laidTests := true, laidLooks := .later }
def SessionWaitsCardSaid : Prop := Claim7.holds Tryd.pinned (.plain (OpenSpec.ofChange sessionWaitsSpec)) sessionWaitsCard

/-- THE TIED CARD OF 'redanlaw22.SessionPlays'. -/
def sessionPlaysCard : Claim7 := { stood := { row := sessionPlaysRow, standIns := [], harness := (true, "8d1059f688d073d6c90cac5b35e475bc17f37945ac8a6c2f89ad36946e75498e"), looks := false }, kinds := [], alts := [], laidByText := true, laidKinds := [.data], laidTests := true, laidLooks := .later }
def SessionPlaysCardSaid : Prop := Claim7.holds Tryd.pinned (.plain (OpenSpec.ofChange sessionPlaysSpec)) sessionPlaysCard

/-- THE TIED CARD OF 'redanlaw22.SessionBounds'. -/
def sessionBoundsCard : Claim7 := { stood := { row := sessionBoundsRow, standIns := [], harness := (true, "8d1059f688d073d6c90cac5b35e475bc17f37945ac8a6c2f89ad36946e75498e"), looks := false }, kinds := [], alts := [], laidByText := true, laidKinds := [.data], laidTests := true, laidLooks := .later }
def SessionBoundsCardSaid : Prop := Claim7.holds Tryd.pinned (.plain (OpenSpec.ofChange sessionBoundsSpec)) sessionBoundsCard

/-- THE TIED CARD OF 'redanlaw22.SessionDoubles'. -/
def sessionDoublesCard : Claim7 := { stood := { row := sessionDoublesRow, standIns := [], harness := (true, "8d1059f688d073d6c90cac5b35e475bc17f37945ac8a6c2f89ad36946e75498e"), looks := false }, kinds := [], alts := [], laidByText := true, laidKinds := [.data], laidTests := true, laidLooks := .later }
def SessionDoublesCardSaid : Prop := Claim7.holds Tryd.pinned (.plain (OpenSpec.ofChange sessionDoublesSpec)) sessionDoublesCard

/-- THE TIED CARD OF 'redanlaw16.SymPlays'. -/
def symPlaysCard : Claim7 := { stood := { row := symPlaysRow, standIns := [], harness := (true, "8d1059f688d073d6c90cac5b35e475bc17f37945ac8a6c2f89ad36946e75498e"), looks := false }, kinds := [], alts := [], laidByText := true, laidKinds := [.data, .data, .data], laidTests := true, laidLooks := .later }
def SymPlaysCardSaid : Prop := Claim7.holds Tryd.pinned (.plain (OpenSpec.ofChange symPlaysSpec)) symPlaysCard

/-- THE TIED CARD OF 'redanlaw16.SymCiphers'. -/
def symCiphersCard : Claim7 := { stood := { row := symCiphersRow, standIns := [], harness := (true, "8d1059f688d073d6c90cac5b35e475bc17f37945ac8a6c2f89ad36946e75498e"), looks := false }, kinds := [], alts := [], laidByText := true, laidKinds := [.data, .data, .data], laidTests := true, laidLooks := .later }
def SymCiphersCardSaid : Prop := Claim7.holds Tryd.pinned (.plain (OpenSpec.ofChange symCiphersSpec)) symCiphersCard

/-- THE TIED CARD OF 'redanlaw16.SymNone'. -/
def symNoneCard : Claim7 := { stood := { row := symNoneRow, standIns := [], harness := (true, "8d1059f688d073d6c90cac5b35e475bc17f37945ac8a6c2f89ad36946e75498e"), looks := false }, kinds := [], alts := [], laidByText := true, laidKinds := [.data, .data, .data], laidTests := true, laidLooks := .later }
def SymNoneCardSaid : Prop := Claim7.holds Tryd.pinned (.plain (OpenSpec.ofChange symNoneSpec)) symNoneCard

/-- THE TIED CARD OF 'redanlaw16.SymAgrees'. -/
def symAgreesCard : Claim7 := { stood := { row := symAgreesRow, standIns := [], harness := (true, "8d1059f688d073d6c90cac5b35e475bc17f37945ac8a6c2f89ad36946e75498e"), looks := false }, kinds := [], alts := [], laidByText := true, laidKinds := [.data, .data, .data], laidTests := true, laidLooks := .later }
def SymAgreesCardSaid : Prop := Claim7.holds Tryd.pinned (.plain (OpenSpec.ofChange symAgreesSpec)) symAgreesCard

/-- THE TIED CARD OF 'redanlaw16.SymSeals'. -/
def symSealsCard : Claim7 := { stood := { row := symSealsRow, standIns := [], harness := (true, "8d1059f688d073d6c90cac5b35e475bc17f37945ac8a6c2f89ad36946e75498e"), looks := false }, kinds := [], alts := [], laidByText := true, laidKinds := [.data, .data, .data], laidTests := true, laidLooks := .later }
def SymSealsCardSaid : Prop := Claim7.holds Tryd.pinned (.plain (OpenSpec.ofChange symSealsSpec)) symSealsCard

/-- THE SECOND FORM's CARD OF 'redanlaw22.SessionWaits'. -/
def sessionWaitsUptoCard : Claim7 := { stood := { row := sessionWaitsUptoRow, standIns := [], harness := (true, "8d1059f688d073d6c90cac5b35e475bc17f37945ac8a6c2f89ad36946e75498e"), looks := false }, kinds := [], alts := [], laidByText := true, laidKinds := [.data], laidTests := true, laidLooks := .later }
def SessionWaitsUptoCardSaid : Prop := Claim7.holds Tryd.pinned (.plain (OpenSpec.upto sessionWaitsSpec)) sessionWaitsUptoCard

/-- THE SECOND FORM's CARD OF 'redanlaw22.SessionPlays'. -/
def sessionPlaysUptoCard : Claim7 := { stood := { row := sessionPlaysUptoRow, standIns := [], harness := (true, "8d1059f688d073d6c90cac5b35e475bc17f37945ac8a6c2f89ad36946e75498e"), looks := false }, kinds := [], alts := [], laidByText := true, laidKinds := [.data], laidTests := true, laidLooks := .later }
def SessionPlaysUptoCardSaid : Prop := Claim7.holds Tryd.pinned (.plain (OpenSpec.upto sessionPlaysSpec)) sessionPlaysUptoCard

/-- THE SECOND FORM's CARD OF 'redanlaw22.SessionBounds'. -/
def sessionBoundsUptoCard : Claim7 := { stood := { row := sessionBoundsUptoRow, standIns := [], harness := (true, "8d1059f688d073d6c90cac5b35e475bc17f37945ac8a6c2f89ad36946e75498e"), looks := false }, kinds := [], alts := [], laidByText := true, laidKinds := [.data], laidTests := true, laidLooks := .later }
def SessionBoundsUptoCardSaid : Prop := Claim7.holds Tryd.pinned (.plain (OpenSpec.upto sessionBoundsSpec)) sessionBoundsUptoCard

/-- THE SECOND FORM's CARD OF 'redanlaw22.SessionDoubles'. -/
def sessionDoublesUptoCard : Claim7 := { stood := { row := sessionDoublesUptoRow, standIns := [], harness := (true, "8d1059f688d073d6c90cac5b35e475bc17f37945ac8a6c2f89ad36946e75498e"), looks := false }, kinds := [], alts := [], laidByText := true, laidKinds := [.data], laidTests := true, laidLooks := .later }
def SessionDoublesUptoCardSaid : Prop := Claim7.holds Tryd.pinned (.plain (OpenSpec.upto sessionDoublesSpec)) sessionDoublesUptoCard

/-- THE SECOND FORM's CARD OF 'redanlaw16.SymPlays'. -/
def symPlaysUptoCard : Claim7 := { stood := { row := symPlaysUptoRow, standIns := [], harness := (true, "8d1059f688d073d6c90cac5b35e475bc17f37945ac8a6c2f89ad36946e75498e"), looks := false }, kinds := [], alts := [], laidByText := true, laidKinds := [.data, .data, .data], laidTests := true, laidLooks := .later }
def SymPlaysUptoCardSaid : Prop := Claim7.holds Tryd.pinned (.plain (OpenSpec.upto symPlaysSpec)) symPlaysUptoCard

/-- THE SECOND FORM's CARD OF 'redanlaw16.SymCiphers'. -/
def symCiphersUptoCard : Claim7 := { stood := { row := symCiphersUptoRow, standIns := [], harness := (true, "8d1059f688d073d6c90cac5b35e475bc17f37945ac8a6c2f89ad36946e75498e"), looks := false }, kinds := [], alts := [], laidByText := true, laidKinds := [.data, .data, .data], laidTests := true, laidLooks := .later }
def SymCiphersUptoCardSaid : Prop := Claim7.holds Tryd.pinned (.plain (OpenSpec.upto symCiphersSpec)) symCiphersUptoCard

/-- THE SECOND FORM's CARD OF 'redanlaw16.SymNone'. -/
def symNoneUptoCard : Claim7 := { stood := { row := symNoneUptoRow, standIns := [], harness := (true, "8d1059f688d073d6c90cac5b35e475bc17f37945ac8a6c2f89ad36946e75498e"), looks := false }, kinds := [], alts := [], laidByText := true, laidKinds := [.data, .data, .data], laidTests := true, laidLooks := .later }
def SymNoneUptoCardSaid : Prop := Claim7.holds Tryd.pinned (.plain (OpenSpec.upto symNoneSpec)) symNoneUptoCard

/-- THE SECOND FORM's CARD OF 'redanlaw16.SymAgrees'. -/
def symAgreesUptoCard : Claim7 := { stood := { row := symAgreesUptoRow, standIns := [], harness := (true, "8d1059f688d073d6c90cac5b35e475bc17f37945ac8a6c2f89ad36946e75498e"), looks := false }, kinds := [], alts := [], laidByText := true, laidKinds := [.data, .data, .data], laidTests := true, laidLooks := .later }
def SymAgreesUptoCardSaid : Prop := Claim7.holds Tryd.pinned (.plain (OpenSpec.upto symAgreesSpec)) symAgreesUptoCard

/-- THE SECOND FORM's CARD OF 'redanlaw16.SymSeals'. -/
def symSealsUptoCard : Claim7 := { stood := { row := symSealsUptoRow, standIns := [], harness := (true, "8d1059f688d073d6c90cac5b35e475bc17f37945ac8a6c2f89ad36946e75498e"), looks := false }, kinds := [], alts := [], laidByText := true, laidKinds := [.data, .data, .data], laidTests := true, laidLooks := .later }
def SymSealsUptoCardSaid : Prop := Claim7.holds Tryd.pinned (.plain (OpenSpec.upto symSealsSpec)) symSealsUptoCard
end Rows
end Go.Proofs.YtlgdplodglchaaaDoor
