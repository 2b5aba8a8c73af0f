/- The contracts of Block and Stream for keys and nonces of any length. -/
import Derived.Test.YtlgdplodglchaaaDoorChaStm
import Derived.Test.YtlgdplodglchaaaDoorChaRst
set_option linter.unusedVariables false
namespace Go.Proofs.YtlgdplodglchaaaDoor
open Go.RowKit Go.Proofs.YtlgdplodglchaaaDoorW.PrintWords Go.Proofs.YtlgdplodglchaaaDoorW.PrintLast Go.Proofs.YtlgdplodglchaaaDoorW.PrintMore

def blockL (key : List Nat) (c : Nat) (nonce : List Nat) : List Nat := if key.length = 32 ∧ nonce.length = 12 then blockN key c nonce else []
def streamL (key : List Nat) (c : Nat) (nonce b : List Nat) : List Nat := if key.length = 32 ∧ nonce.length = 12 then stream key c nonce b else []
end Go.Proofs.YtlgdplodglchaaaDoor
