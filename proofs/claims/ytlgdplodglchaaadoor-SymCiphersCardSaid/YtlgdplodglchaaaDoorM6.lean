/- Merged texts. -/
import Derived.Test.YtlgdplodglchaaaDoorHk
import Derived.Test.YtlgdplodglchaaaDoorM5
/- The reference's permutation: what it stands on. -/
set_option linter.unusedVariables false
set_option linter.unusedSimpArgs false
namespace Go.Proofs.YtlgdplodglchaaaDoor
open Go.RowKit Go.Proofs.YtlgdplodglchaaaDoorW.PrintWords Go.Proofs.YtlgdplodglchaaaDoorW.PrintLast Go.Proofs.YtlgdplodglchaaaDoorW.PrintMore
/-- A cell of another block changes nothing of a row. -/
theorem grown_cell (w : World) (g i : Nat) (u : Value) : w.grownBy (w.setCell ⟨g, i, none⟩ u) (some g) :=
  ⟨rfl, rfl, rfl, by simp, fun k hk hne => Below.heap_setCell w ⟨g, i, none⟩ u k (fun e => hne (by rw [e]))⟩
theorem OwnK.far {k : IntKind} {e base : Nat} {w : World} {v : Value} {l : List Nat} {g i : Nat} (h : OwnK k e base w v l) (hne : v.ownBlock ≠ some g) (u : Value) : OwnK k e base (w.setCell ⟨g, i, none⟩ u) v l :=
  Kd.R_of_own (own_other (Kd.own_of_R h) (grown_cell w g i u) (Or.inr hne)) (fun _ _ => trivial)
end Go.Proofs.YtlgdplodglchaaaDoor
/- The walks through the reference's SHA3-256 and the keys made of it. -/
set_option linter.unusedVariables false
set_option linter.unusedSimpArgs false
namespace Go.Proofs.YtlgdplodglchaaaDoor
open Go.RowKit Go.Proofs.YtlgdplodglchaaaDoorW.PrintWords Go.Proofs.YtlgdplodglchaaaDoorW.PrintLast Go.Proofs.YtlgdplodglchaaaDoorW.PrintMore
/-- Two rows' own blocks are not the same. -/
def Twain (u v : Value) : Prop := ∀ j, u.ownBlock = some j → v.ownBlock ≠ some j
theorem Twain.symm {u v : Value} (h : Twain u v) : Twain v u := fun j hj e => h j e hj
theorem Twain.grow {u u1 v : Value} {k : IntKind} {e base : Nat} {w : World} {l : List Nat} (h : Twain u v) (hat : u1.ownBlock = u.ownBlock ∨ ∃ b, u1.ownBlock = some b ∧ w.heap.size ≤ b) (hv : OwnK k e base w v l) : Twain u1 v := fun j hj => by
  rcases hat with hat | ⟨b, hb, hle⟩
  · exact h j (hat ▸ hj)
  · rw [hb] at hj
    injection hj with hj
    exact fun e => by have := (hv.lt j e).2; omega
end Go.Proofs.YtlgdplodglchaaaDoor
