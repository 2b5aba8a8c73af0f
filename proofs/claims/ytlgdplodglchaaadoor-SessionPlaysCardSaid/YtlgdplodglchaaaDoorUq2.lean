/- A region step by step: a pure operation that no later store waits for. Over any program. -/
import Derived.Test.YtlgdplodglchaaaDoorGLib
set_option linter.unusedVariables false
set_option linter.unusedSimpArgs false
namespace Go.Proofs.YtlgdplodglchaaaDoor
open Go.RowKit Go.Proofs.YtlgdplodglchaaaDoorW.PrintWords Go.Proofs.YtlgdplodglchaaaDoorW.PrintLast Go.Proofs.YtlgdplodglchaaaDoorW.PrintMore
section
variable {P : Program} {ops : Array Oper} {Q : Exit → Act → World → Prop} {md : Region.Mode} {ds : List Nat} {R : World → World → Prop}
theorem uq_pure2 (hR : Keeps R) {i fuel : Nat} {o : Oper} {N : Option Tmp} {v : Value} {l : Array Bool} {a a' : Act} {w : World} (hs : Region.noSelect ops = true)
    (hc : (Region.free md ops l i && (Region.ready md ops l).contains i) = true)
    (hi : ops[i]? = some o) (hN : o.dst = N) (hw : Region.wanted o (yielded ops a.tmps) = true) (hQ : ∀ c a w, Q (.panic c) (a.put o.dst v) w → Q (.panic c) a w)
    (hrun : ∀ w', R w w' → (execOp a.eval o).run P w' = .ok (.value v) w') (ha : a.put N v = a') (h : wpUq P md ops Q ds R fuel (l.setIfInBounds i true) a' w) : wpUq P md ops Q ds R (fuel + 1) l a w := by
  subst hN; subst ha
  simp only [Bool.and_eq_true] at hc
  obtain ⟨h1, h2⟩ := hc
  exact wpUq_first2 hR hi (Region.noSelect_spec hs) hQ fuel l a w (Region.free_spec hi h1) (by simpa using h2) (Or.inl ⟨hw, hrun⟩) h
end
end Go.Proofs.YtlgdplodglchaaaDoor
