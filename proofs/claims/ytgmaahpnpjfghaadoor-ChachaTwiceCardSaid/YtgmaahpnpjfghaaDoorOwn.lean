/- More of rows of the call's own. Over any program. -/
import Derived.Test.YtgmaahpnpjfghaaDoorArr
set_option linter.unusedVariables false
set_option linter.unusedSimpArgs false
namespace Go.Proofs.YtgmaahpnpjfghaaDoor
open Go.RowKit Go.Proofs.YtgmaahpnpjfghaaDoorW.PrintWords Go.Proofs.YtgmaahpnpjfghaaDoorW.PrintLast Go.Proofs.YtgmaahpnpjfghaaDoorW.PrintMore

/-- A literal's row is the call's own. -/
theorem OwnK.lit {k : IntKind} {e : Nat} (W : World) {cs : Array Value} (l : List Nat) (hcs : cs = (l.map fun x : Nat => Value.int k x).toArray) (hl : l.length ≤ 9223372036854775807) : OwnK k e W.heap.size (W.alloc (.cells cs e)) (.slice (some ⟨W.heap.size, 0, none⟩) l.length l.length) l := by
  have h := own_lit W W.heap.size e k (ints l) (Nat.le_refl _) (by simpa [ints] using hl)
  have e1 : (nums k (ints l)).toArray = cs := by rw [hcs]; simp [nums, ints]
  have e2 : (ints l).length = l.length := by simp [ints]
  rw [e1, e2] at h
  exact Kd.R_of_own (enc := Value.int k) (h1 := fun _ => rfl) (by rw [e2]; exact h) (fun _ _ => trivial)
end Go.Proofs.YtgmaahpnpjfghaaDoor
