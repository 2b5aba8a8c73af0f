/- What the condition 'laid' gives: the variable's cells. -/
import Derived.Test.YtlgdplodglchaaaDoorRows
import Derived.Test.YtlgdplodglchaaaDoorChaBlk
import Derived.Lib.LaidTab
import Derived.ProofKit
import Derived.OpenShut
set_option linter.unusedVariables false
namespace Go.Proofs.YtlgdplodglchaaaDoor
open Go.RowKit

theorem chunks_eq {α : Type} : ∀ (L : List (List α)) (l : List α), l.length = 4 * L.length → (∀ i c, L[i]? = some c → (l.drop (i * 4)).take 4 = c) → l = L.flatten
  | [], l, hl, _ => by
    have : l.length = 0 := by simpa using hl
    simpa using this
  | c :: L, l, hl, h => by
    have h0 := h 0 c rfl
    have h1 := chunks_eq L (l.drop 4) (by rw [List.length_drop, hl, List.length_cons]; omega) (fun i d hd => by
      have := h (i + 1) d (by simpa using hd)
      rw [List.drop_drop]
      rw [show 4 + i * 4 = (i + 1) * 4 by omega]
      exact this)
    rw [List.flatten_cons, ← h1, ← h0, Nat.zero_mul, List.drop_zero, List.take_append_drop]
theorem plGlobal : Tryd.prog.globalNamed "redan/chacha.places" = some 0 := by kernel_rfl
theorem plType : (Tryd.prog.globals[0]?).map (·.type) = some 166 := by kernel_rfl
theorem plUnder : Tryd.prog.underlying 166 = some (.array 8 165) := by kernel_rfl
theorem plUnder4 : Tryd.prog.underlying 165 = some (.array 4 3) := by kernel_rfl
theorem plUnderI : Tryd.prog.underlying 3 = some (.int .i64) := by kernel_rfl
theorem plCells : Tryd.prog.cellsOf 166 = 32 := by kernel_rfl
theorem plCells4 : Tryd.prog.cellsOf 165 = 4 := by kernel_rfl
theorem plCells1 : Tryd.prog.cellsOf 3 = 1 := by kernel_rfl
def placesZ : List (List Int) := [[0, 4, 8, 12], [1, 5, 9, 13], [2, 6, 10, 14], [3, 7, 11, 15], [0, 5, 10, 15], [1, 6, 11, 12], [2, 7, 8, 13], [3, 4, 9, 14]]
theorem places_of_laid {W : World} (h : laidMet Tryd.prog [("redan/chacha.places", Rows.laid_redan_chacha_places)] W) : W.var? Tryd.prog "redan/chacha.places" = some placesCells := by
  obtain ⟨ps, ⟨g, t, cs, fuel, p, q, hg, ht, hvar, hd, _, _⟩, _⟩ := h
  obtain rfl := Option.some.inj (plGlobal.symm.trans hg)
  obtain rfl := Option.some.inj (plType.symm.trans ht)
  rw [hvar]
  congr 1
  obtain ⟨xs, m, rfl, hx, hl, hxl, hall⟩ := DataW.trod_array plUnder hd
  rw [plCells] at hl
  rw [plCells4] at hall
  have hx1 : xs.map (·.1) = placesZ.map fun zs => Lib.tabData .i64 zs := by
    have h1 := congrArg Prod.fst hx
    unfold Rows.laid_redan_chacha_places at h1
    simp only [DataW.agg.injEq] at h1
    rw [← h1]
    rfl
  have hcs : cs.toList = (placesZ.map fun zs => zs.map fun z => Value.int .i64 z).flatten := by
    refine chunks_eq _ _ (by rw [hl]; rfl) (fun i c hc => ?_)
    rw [List.getElem?_map] at hc
    obtain ⟨zs, hz, rfl⟩ := Option.map_eq_some_iff.1 hc
    have hi : i < 8 := (List.getElem?_eq_some_iff.1 hz).1
    have h2 := hall i hi
    have h3 : (xs.map (·.1))[i]? = some (Lib.tabData .i64 zs) := by rw [hx1, List.getElem?_map, hz]; rfl
    rw [List.getElem?_map] at h3
    obtain ⟨b, hb, hb1⟩ := Option.map_eq_some_iff.1 h3
    obtain ⟨d, pp⟩ := b
    simp only at hb1
    subst hb1
    rw [hb] at h2
    exact Lib.cells_of_tab plUnder4 plUnderI plCells1 plCells4 h2
  have e : cs = cs.toList.toArray := by simp
  rw [e, hcs]
  rfl
theorem placesAt_of_laid {W : World} (h : laidMet Tryd.prog [("redan/chacha.places", Rows.laid_redan_chacha_places)] W) : PlacesAt W := by
  have h1 := places_of_laid h
  unfold World.var? at h1
  rw [plGlobal] at h1
  simp only [Option.bind_some] at h1
  split at h1
  · rename_i cs t fr hb
    injection h1 with h1
    subst h1
    exact ⟨t, fr, hb⟩
  · cases h1
end Go.Proofs.YtlgdplodglchaaaDoor
