/- Merged texts. -/
import Derived.Test.YtlgdplodglchaaaDoorRefS
import Derived.Test.YtlgdplodglchaaaDoorM2
import Derived.Test.YtlgdplodglchaaaDoorM3
import Derived.Test.YtlgdplodglchaaaDoorSymA
import Derived.LaidSub
/- The reference's states with what they hold, and its functions over them; redanlaw16's own and like. -/
set_option linter.unusedVariables false
set_option linter.unusedSimpArgs false
namespace Go.Proofs.YtlgdplodglchaaaDoor
open Go.RowKit Go.Proofs.YtlgdplodglchaaaDoorW.PrintWords Go.Proofs.YtlgdplodglchaaaDoorW.PrintLast Go.Proofs.YtlgdplodglchaaaDoorW.PrintMore
abbrev Sl.t (s : Sl) : Option Addr × Nat × Nat := (s.A, s.n, s.c)
structure RBox (W w : World) (ck h k : Sl) (p : StP) : Prop where
  rck : Box W w ck.t p.ck
  rh : Box W w h.t p.h
  rk : Box W w k.t p.key
  ok : p.ok
theorem OwnK.box {W w : World} {s : Sl} {l : List Nat} (h : OwnK .u8 5 W.heap.size w s.v l) (hb : BytesOK l) (hl : l.length ≤ 100000000) : Box W w s.t l := Box.own h hb hl
section
variable {W w : World} {ck h k : Sl} {p : StP} {B : Option Addr} {nb cb : Nat} {b : List Nat}
theorem RBox.mod {w1 : World} {S : Nat → Prop} (s : RBox W w ck h k p) (hm : Mod S w w1) (ha : Apart 5 w S) : RBox W w1 ck h k p := ⟨s.rck.mod hm ha, s.rh.mod hm ha, s.rk.mod hm ha, s.ok⟩
theorem RBox.below {w1 : World} (s : RBox W w ck h k p) (hb : Below w.heap.size w w1) : RBox W w1 ck h k p := s.mod (S := fun _ => False) (Mod.below hb) (fun _ _ _ h => h)
theorem Box.below {w1 : World} {s : Option Addr × Nat × Nat} {l : List Nat} (h : Box W w s l) (hb : Below w.heap.size w w1) : Box W w1 s l := h.mod (S := fun _ => False) (Mod.below hb) (fun _ _ _ h => h)
theorem RBox.nck (s : RBox W w ck h k p) (hbe : Below W.heap.size W w) : ck.n = 32 := (s.rck.len hbe).trans s.ok.1
theorem RBox.nh (s : RBox W w ck h k p) (hbe : Below W.heap.size W w) : h.n = 32 := (s.rh.len hbe).trans s.ok.2.1
variable {g : Nat} {ck' h' k' : Sl}
end
end Go.Proofs.YtlgdplodglchaaaDoor
/- What the condition 'laid' gives of the three variables. -/
set_option linter.unusedVariables false
namespace Go.Proofs.YtlgdplodglchaaaDoor
open Go.RowKit
theorem cells_of_var {W : World} {nm : String} {g : Nat} {cs : Array Value} (hg : Tryd.prog.globalNamed nm = some g) (h1 : W.var? Tryd.prog nm = some cs) : ∃ t fr, W.heap[g]? = some (.cells cs t fr) := by
  unfold World.var? at h1
  rw [hg] at h1
  simp only [Option.bind_some] at h1
  split at h1
  · rename_i cs' t fr hb
    injection h1 with h1
    subst h1
    exact ⟨t, fr, hb⟩
  · cases h1
theorem tab_cells (k : IntKind) (l : List Nat) : ((ints l).map fun z => Value.int k z).toArray = cellsOf k l := by
  unfold ints cellsOf
  rw [List.map_map]
  rfl
theorem vars_of_laid {W : World} (h : laidMet Tryd.prog [("redan/keccak.turns", Rows.laid_redan_keccak_turns), ("redan/keccak.constants", Rows.laid_redan_keccak_constants), ("redan/chacha.places", Rows.laid_redan_chacha_places)] W) : Vars W := by
  have h1 : laidMet Tryd.prog [("redan/chacha.places", Rows.laid_redan_chacha_places)] W := h.filter (fun x => x.1 == "redan/chacha.places")
  have h2 : laidMet Tryd.prog [("redan/keccak.constants", Rows.laid_redan_keccak_constants)] W := h.filter (fun x => x.1 == "redan/keccak.constants")
  have h3 : laidMet Tryd.prog [("redan/keccak.turns", Rows.laid_redan_keccak_turns)] W := h.filter (fun x => x.1 == "redan/keccak.turns")
  have g2 : Tryd.prog.globalNamed "redan/keccak.constants" = some 1 := by kernel_rfl
  have g3 : Tryd.prog.globalNamed "redan/keccak.turns" = some 2 := by kernel_rfl
  have t2 := Lib.tabIs_of_head (k := .u64) (zs := ints kecC) (t := 157) (e := 22) (n := 24) g2 (by kernel_rfl) (by kernel_rfl) (by kernel_rfl) (by kernel_rfl) (by kernel_rfl) (show laidMet Tryd.prog (("redan/keccak.constants", Lib.tabData .u64 (ints kecC)) :: []) W from h2)
  have t3 := Lib.tabIs_of_head (k := .i64) (zs := ints kecT) (t := 184) (e := 3) (n := 25) g3 (by kernel_rfl) (by kernel_rfl) (by kernel_rfl) (by kernel_rfl) (by kernel_rfl) (show laidMet Tryd.prog (("redan/keccak.turns", Lib.tabData .i64 (ints kecT)) :: []) W from h3)
  unfold Lib.TabIs at t2 t3
  rw [tab_cells] at t2 t3
  exact ⟨placesAt_of_laid h1, cells_of_var g3 t3, cells_of_var g2 t2⟩
end Go.Proofs.YtlgdplodglchaaaDoor
