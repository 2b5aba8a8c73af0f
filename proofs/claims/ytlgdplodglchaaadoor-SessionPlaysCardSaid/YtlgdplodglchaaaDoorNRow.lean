/- A slice of unsigned whole numbers that came in. Over any program. -/
import Derived.Test.YtlgdplodglchaaaDoorGLib
set_option linter.unusedVariables false
namespace Go.Proofs.YtlgdplodglchaaaDoor
open Go.RowKit Go.Proofs.YtlgdplodglchaaaDoorW.PrintWords Go.Proofs.YtlgdplodglchaaaDoorW.PrintLast Go.Proofs.YtlgdplodglchaaaDoorW.PrintMore
/-- A slice of numbers: its cells; all are numbers of 64 bits. -/
def NRow (w : World) (A : Option Addr) (n c : Nat) (l : List Nat) : Prop := RowK .u64 w A l ∧ l.length = n ∧ n ≤ c ∧ ∀ x ∈ l, x < 2 ^ 64
theorem NRow.below {w w1 : World} {A : Option Addr} {n c : Nat} {l : List Nat} (h : NRow w A n c l) (hb : Below w.heap.size w w1) : NRow w1 A n c l := ⟨h.1.below hb, h.2⟩
theorem NRow.nil (w : World) (A : Option Addr) (c : Nat) : NRow w A 0 c [] := ⟨RowK.nil _ _ _, rfl, Nat.zero_le _, fun x h => by cases h⟩
theorem NRow.of_cells {w : World} {x : Addr} {len cap : Nat} {zs : List Int} (hl : len ≤ cap) (hz : zs.length = cap) (hcell : ∀ i, i < zs.length → w.cell? (x.add i) = some (.int .u64 (zs.getD i 0))) (hwz : ∀ n ∈ zs, (Lit.int .u64 n).wf = true) (hm : cap ≤ maxLen) :
    NRow w (some x) len cap ((zs.take len).map Int.toNat) := by
  have hr : ∀ n ∈ zs, 0 ≤ n ∧ n < 18446744073709551616 := fun n hn => by
    have := hwz n hn
    simp [Lit.wf, IntKind.min, IntKind.max, IntKind.signed, IntKind.bits] at this
    omega
  have hlen : ((zs.take len).map Int.toNat).length = len := by rw [List.length_map, List.length_take]; omega
  unfold maxLen at hm
  refine ⟨RowK.of_at (by omega) (fun i hi => ?_), hlen, hl, fun y hy => ?_⟩
  · rw [hcell i (by omega)]
    have hi2 : i < len := by omega
    have h0 := (hr (zs[i]'(by omega)) (List.getElem_mem _)).1
    simp [List.getD_eq_getElem?_getD, hi2, List.getElem?_eq_getElem (show i < zs.length by omega)]
    omega
  · obtain ⟨n, hn, rfl⟩ := List.mem_map.1 hy
    have := hr n (List.mem_of_mem_take hn)
    omega
theorem NRow.at_ {w : World} {A : Option Addr} {n c : Nat} {l : List Nat} (h : NRow w A n c l) (i : Nat) (hi : i < n) : ∃ (ad : Addr) (x : Nat), A = some ad ∧ w.cell? (ad.add i) = some (.int .u64 (x : Int)) ∧ x < 2 ^ 64 := by
  obtain ⟨h1, h2, h3, h4⟩ := h
  obtain ⟨ad, x, e, ex, hc⟩ := h1.at_ i (by omega)
  refine ⟨ad, x, e, hc, ?_⟩
  rw [← ex.out, List.getD_eq_getElem?_getD, List.getElem?_eq_getElem (show i < l.length by omega)]
  exact h4 _ (List.getElem_mem _)
end Go.Proofs.YtlgdplodglchaaaDoor
