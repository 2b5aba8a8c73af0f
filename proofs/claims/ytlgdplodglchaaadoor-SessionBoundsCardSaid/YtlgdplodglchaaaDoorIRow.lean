/- A slice of int that came in. Over any program. -/
import Derived.Test.YtlgdplodglchaaaDoorGLib
set_option linter.unusedVariables false
namespace Go.Proofs.YtlgdplodglchaaaDoor
open Go.RowKit Go.Proofs.YtlgdplodglchaaaDoorW.PrintWords Go.Proofs.YtlgdplodglchaaaDoorW.PrintLast Go.Proofs.YtlgdplodglchaaaDoorW.PrintMore
/-- A slice of whole numbers: its cells. -/
def IRow (k : IntKind) (w : World) (A : Option Addr) (n c : Nat) (zs : List Int) : Prop :=
  zs.length = n ∧ n ≤ c ∧ n ≤ 9223372036854775807 ∧ (0 < n → ∃ ad, A = some ad ∧ ∀ i, i < n → w.cell? (ad.add i) = some (.int k (zs.getD i 0)))
theorem IRow.below {k : IntKind} {w w1 : World} {A : Option Addr} {n c : Nat} {zs : List Int} (h : IRow k w A n c zs) (hb : Below w.heap.size w w1) : IRow k w1 A n c zs :=
  ⟨h.1, h.2.1, h.2.2.1, fun hp => by
    obtain ⟨ad, e, hc⟩ := h.2.2.2 hp
    exact ⟨ad, e, fun i hi => pw_cell_below hb (hc i hi)⟩⟩
theorem IRow.nil (k : IntKind) (w : World) (A : Option Addr) (c : Nat) : IRow k w A 0 c [] := ⟨rfl, Nat.zero_le _, by decide, fun h => absurd h (by decide)⟩
theorem IRow.of_cells {k : IntKind} {w : World} {x : Addr} {len cap : Nat} {zs : List Int} (hl : len ≤ cap) (hz : zs.length = cap) (hcell : ∀ i, i < zs.length → w.cell? (x.add i) = some (.int k (zs.getD i 0))) (hm : cap ≤ maxLen := by assumption) :
    IRow k w (some x) len cap (zs.take len) := by
  unfold maxLen at hm
  refine ⟨by rw [List.length_take]; omega, hl, by omega, fun _ => ⟨x, rfl, fun i hi => ?_⟩⟩
  rw [hcell i (by omega)]
  simp [List.getD_eq_getElem?_getD, hi]
end Go.Proofs.YtlgdplodglchaaaDoor
