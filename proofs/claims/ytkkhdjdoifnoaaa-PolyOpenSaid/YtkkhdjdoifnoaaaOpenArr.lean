/- An array of bytes as an argument: its bytes. Over any program. -/
import Derived.Test.YtkkhdjdoifnoaaaLib
import Derived.OpenShut
set_option linter.unusedVariables false
namespace Go.Proofs.Ytkkhdjdoifnoaaa
open Go.RowKit Go.ChangeShapes

theorem open_bytearr {H : Type} {enc : TypeId × Value → H} {P : Program} {W : World} {base b0 : Nat} {r : Reach} {spare : Nat → Bool} {held : Bool} {t e n : Nat} {v : Value} {d : DataW H} {ps : List MemPlace}
    (ht : P.underlying t = some (.array n e)) (he : P.underlying e = some (.int .u8)) (hce : P.cellsOf e = 1) (hct : P.cellsOf t = n) (hval : Value.okWide P W r b0 t v) (h : DataW.Trod enc P W base spare held t v d ps) :
    ∃ l : List Nat, v = .agg (l.map fun x : Nat => Value.int .u8 x).toArray ∧ l.length = n ∧ BytesOK l := by
  unfold Value.okWide at hval
  rw [ht] at hval
  obtain ⟨cs, rfl, hsz, _⟩ := hval
  obtain ⟨fuel, hf⟩ := h
  obtain ⟨xs, m, rfl, hx, hl, hxl, hall⟩ := DataW.trod_array ht hf
  have hcl : (Value.agg cs).cells.toList = cs.toList := by simp [Value.cells]
  rw [hcl] at hl hall
  rw [hct] at hl
  rw [hce] at hall
  have key : ∀ i, i < n → ∃ z : Nat, cs.toList[i]? = some (.int .u8 (z : Int)) ∧ z < 256 := fun i hi => by
    have h1 := hall i hi
    rw [Nat.mul_one, List.getElem?_eq_getElem (by omega)] at h1
    obtain ⟨z, e1, _, hw⟩ := DataW.trod_int he h1
    have h0 : ((cs.toList.drop i).take 1)[0]? = some (.int .u8 z) := by rw [e1]; rfl
    have hb : 0 ≤ z ∧ z ≤ 255 := by
      simp [Lit.wf, IntKind.min, IntKind.max, IntKind.signed, IntKind.bits] at hw
      omega
    refine ⟨z.toNat, ?_, by omega⟩
    rw [Int.toNat_of_nonneg hb.1]
    simpa [List.getElem?_take, List.getElem?_drop] using h0
  refine ⟨cs.toList.map fun v => match v with | .int _ z => z.toNat | _ => 0, ?_, by simpa using hl, ?_⟩
  · congr 1
    apply Array.ext'
    rw [List.toList_toArray, List.map_map]
    apply List.ext_getElem?
    intro i
    rw [List.getElem?_map]
    by_cases hi : i < n
    · obtain ⟨z, hz, _⟩ := key i hi
      rw [hz]
      simp
    · rw [List.getElem?_eq_none (by omega)]
      rfl
  · intro x hx
    obtain ⟨v, hv, rfl⟩ := List.mem_map.1 hx
    obtain ⟨i, hi, rfl⟩ := List.mem_iff_getElem.1 hv
    obtain ⟨z, hz, hz2⟩ := key i (by omega)
    rw [List.getElem?_eq_getElem hi] at hz
    injection hz with hz
    rw [hz]
    simpa using hz2
end Go.Proofs.Ytkkhdjdoifnoaaa
