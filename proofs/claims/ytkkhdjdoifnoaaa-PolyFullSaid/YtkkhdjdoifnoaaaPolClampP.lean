/- What a key is multiplied with: plain. -/
import Derived.Test.YtkkhdjdoifnoaaaPlain
import Derived.Test.YtkkhdjdoifnoaaaNum
set_option linter.unusedVariables false
namespace Go.Proofs.Ytkkhdjdoifnoaaa
def clampB (i c : Nat) : Nat := if i % 4 = 3 then c % 16 else if 0 < i ∧ i % 4 = 0 then c / 4 * 4 else c
def clampL (key : List Nat) : List Nat := (key.take 16).mapIdx clampB
theorem clampL_length (key : List Nat) (h : key.length = 32) : (clampL key).length = 16 := by simp [clampL, h]
theorem clampB_lt {i c : Nat} (h : c < 256) : clampB i c < 256 := by
  unfold clampB
  split
  · omega
  · split <;> omega
theorem clampL_ok {key : List Nat} (h : BytesOK key) : BytesOK (clampL key) := fun x hx => by
  obtain ⟨i, hi, rfl⟩ := List.mem_mapIdx.1 hx
  exact clampB_lt (h _ (List.mem_of_mem_take (List.getElem_mem hi)))
theorem clampL_take (key : List Nat) (k : Nat) (hk : k < 16) (hl : key.length = 32) : (clampL key).take (k + 1) = (clampL key).take k ++ [clampB k (key.getD k 0)] := by
  rw [take_snoc _ k 0 (by rw [clampL_length key hl]; exact hk)]
  congr 2
  simp [clampL, List.getD_eq_getElem?_getD, hk, hl]
  rw [List.getElem?_eq_getElem (by omega)]
  rfl
theorem and15_u8 {c : Nat} (h : c < 256) : bits .and .u8 (c : Int) 15 = ((c % 16 : Nat) : Int) := by
  have h1 := (bits_u (k := .u8) rfl c 15 h (by decide)).1
  rw [show c &&& 15 = c % 16 from Nat.and_two_pow_sub_one_eq_mod c 4] at h1
  exact h1
theorem and252_u8 {c : Nat} (h : c < 256) : bits .and .u8 (c : Int) 252 = ((c / 4 * 4 : Nat) : Int) := by
  have h1 := (bits_u (k := .u8) rfl c 252 h (by decide)).1
  have h2 : ∀ c : Fin 256, c.val &&& 252 = c.val / 4 * 4 := by decide +kernel
  rw [h2 ⟨c, h⟩] at h1
  exact h1
end Go.Proofs.Ytkkhdjdoifnoaaa
