/- Bits that are taken away change nothing: plain. -/
import Derived.Test.YtkkhdjdoifnoaaaPolMacP
set_option linter.unusedVariables false
namespace Go.Proofs.Ytkkhdjdoifnoaaa
theorem storeN_loadN : ∀ l : List Nat, BytesOK l → storeN (loadN l) l.length = l
  | [], _ => rfl
  | x :: l, h => by
    have hx : x < 256 := h x (List.mem_cons_self ..)
    have ih := storeN_loadN l (fun y hy => h y (List.mem_cons_of_mem _ hy))
    rw [loadN, List.length_cons, storeN]
    rw [show (x + 256 * loadN l) % 256 = x by omega, show (x + 256 * loadN l) / 256 = loadN l by omega, ih]
theorem accC_zero (b : List Nat) : ∀ k, accC 0 b k = 0
  | 0 => rfl
  | k + 1 => by rw [accC, Nat.mul_zero]; rfl
theorem store_sN {key : List Nat} (hl : key.length = 32) (hb : BytesOK key) : storeN (sN key) 16 = key.drop 16 := by
  unfold sN
  rw [List.take_of_length_le (by rw [List.length_drop, hl]; exact Nat.le_refl _)]
  have h := storeN_loadN (key.drop 16) (hb.drop 16)
  rw [List.length_drop, hl] at h
  exact h
theorem macL_nil {key : List Nat} (hl : key.length = 32) (hb : BytesOK key) : macL key [] = key.drop 16 := by
  unfold macL
  rw [show (([] : List Nat).length + 15) / 16 = 0 from rfl, accC, Nat.zero_mod, Nat.zero_add, store_sN hl hb]
theorem macL_zero {key : List Nat} (hl : key.length = 32) (hb : BytesOK key) (hz : rN key = 0) (b : List Nat) : macL key b = key.drop 16 := by
  unfold macL
  rw [hz, accC_zero, Nat.zero_mod, Nat.zero_add, store_sN hl hb]
theorem macL_same {key key' : List Nat} (h1 : clampL key = clampL key') (h2 : key.drop 16 = key'.drop 16) (b : List Nat) : macL key b = macL key' b := by
  unfold macL rN sN
  rw [h1, h2]
/-- What is laid over a byte. -/
def tB (i c x : Nat) : Nat := if i % 4 = 3 then c ^^^ (x &&& 240) else if i % 4 = 0 ∧ 0 < i then c ^^^ (x &&& 3) else c
theorem tB_lt {i c x : Nat} (hc : c < 256) : tB i c x < 256 := by
  have h1 : x &&& 240 < 2 ^ 8 := Nat.lt_of_le_of_lt Nat.and_le_right (by decide)
  have h2 : x &&& 3 < 2 ^ 8 := Nat.lt_of_le_of_lt Nat.and_le_right (by decide)
  unfold tB
  split
  · exact Nat.xor_lt_two_pow (n := 8) hc h1
  · split
    · exact Nat.xor_lt_two_pow (n := 8) hc h2
    · exact hc
theorem tB_clamp (i c x : Nat) : clampB i (tB i c x) = clampB i c := by
  unfold clampB tB
  by_cases h3 : i % 4 = 3
  · rw [if_pos h3, if_pos h3, if_pos h3]
    rw [show (16 : Nat) = 2 ^ 4 from rfl, Nat.xor_mod_two_pow, Nat.and_mod_two_pow]
    simp
  · rw [if_neg h3, if_neg h3, if_neg h3]
    by_cases h0 : 0 < i ∧ i % 4 = 0
    · rw [if_pos h0, if_pos h0, if_pos h0.symm]
      congr 1
      have e : (c ^^^ (x &&& 3)) >>> 2 = c >>> 2 := by
        rw [Nat.shiftRight_xor_distrib, Nat.shiftRight_and_distrib]
        simp
      rw [Nat.shiftRight_eq_div_pow, Nat.shiftRight_eq_div_pow] at e
      exact e
    · rw [if_neg h0, if_neg h0, if_neg (fun h => h0 h.symm)]
def turnL (key bits : List Nat) : Nat → List Nat
  | 0 => key
  | k + 1 => (turnL key bits k).set k (tB k (key.getD k 0) (bits.getD k 0))
theorem turnL_length (key bits : List Nat) (k : Nat) : (turnL key bits k).length = key.length := by
  induction k with
  | zero => rfl
  | succ k ih => rw [turnL, List.length_set, ih]
theorem turnL_get (key bits : List Nat) (i : Nat) (hi : i < key.length) : ∀ k, (turnL key bits k).getD i 0 = if i < k then tB i (key.getD i 0) (bits.getD i 0) else key.getD i 0
  | 0 => by simp [turnL]
  | k + 1 => by
    have ih := turnL_get key bits i hi k
    have hl := turnL_length key bits k
    rw [turnL]
    by_cases h : i = k
    · subst h
      rw [if_pos (by omega), List.getD_eq_getElem?_getD, List.getElem?_set_self (by omega)]
      rfl
    · rw [List.getD_eq_getElem?_getD, List.getElem?_set_ne (fun e => h e.symm), ← List.getD_eq_getElem?_getD, ih]
      by_cases h2 : i < k
      · rw [if_pos h2, if_pos (by omega)]
      · rw [if_neg h2, if_neg (by omega)]
theorem turnL_ok {key : List Nat} (hb : BytesOK key) (bits : List Nat) (k : Nat) : BytesOK (turnL key bits k) := by
  induction k with
  | zero => exact hb
  | succ k ih =>
      intro x hx
      rcases List.mem_or_eq_of_mem_set hx with h | rfl
      · exact ih x h
      · exact tB_lt (hb.getD k)
theorem turnL_drop (key bits : List Nat) : ∀ k, k ≤ 16 → (turnL key bits k).drop 16 = key.drop 16
  | 0, _ => rfl
  | k + 1, h => by
    rw [turnL, List.drop_set_of_lt (by omega), turnL_drop key bits k (by omega)]
theorem clampL_get (key : List Nat) (hl : key.length = 32) (i : Nat) (hi : i < 16) : (clampL key)[i]? = some (clampB i (key.getD i 0)) := by
  unfold clampL
  rw [List.getElem?_mapIdx, List.getElem?_take_of_lt hi, List.getD_eq_getElem?_getD, List.getElem?_eq_getElem (by omega)]
  rfl
theorem turnL_clamp (key bits : List Nat) (hl : key.length = 32) : clampL (turnL key bits 16) = clampL key := by
  have hl2 : (turnL key bits 16).length = 32 := by rw [turnL_length, hl]
  apply List.ext_getElem?
  intro i
  by_cases hi : i < 16
  · rw [clampL_get _ hl2 i hi, clampL_get _ hl i hi, turnL_get _ _ i (by omega), if_pos hi, tB_clamp]
  · rw [List.getElem?_eq_none (by rw [clampL_length _ hl2]; omega), List.getElem?_eq_none (by rw [clampL_length _ hl]; omega)]
def zeroL (key : List Nat) : Nat → List Nat
  | 0 => key
  | k + 1 => (zeroL key k).set k 0
theorem zeroL_length (key : List Nat) (k : Nat) : (zeroL key k).length = key.length := by
  induction k with
  | zero => rfl
  | succ k ih => rw [zeroL, List.length_set, ih]
theorem zeroL_ok {key : List Nat} (hb : BytesOK key) (k : Nat) : BytesOK (zeroL key k) := by
  induction k with
  | zero => exact hb
  | succ k ih =>
      intro x hx
      rcases List.mem_or_eq_of_mem_set hx with h | rfl
      · exact ih x h
      · decide
theorem zeroL_drop (key : List Nat) : ∀ k, k ≤ 16 → (zeroL key k).drop 16 = key.drop 16
  | 0, _ => rfl
  | k + 1, h => by
    rw [zeroL, List.drop_set_of_lt (by omega), zeroL_drop key k (by omega)]
theorem zeroL_take (key : List Nat) (hl : 16 ≤ key.length) : ∀ k, k ≤ 16 → (zeroL key k).take k = List.replicate k 0
  | 0, _ => rfl
  | k + 1, h => by
    have ih := zeroL_take key hl k (by omega)
    rw [zeroL, take_snoc _ k 0 (by rw [List.length_set, zeroL_length]; omega), List.take_set_of_le (Nat.le_refl _), ih, List.getD_eq_getElem?_getD, List.getElem?_set_self (by rw [zeroL_length]; omega), List.replicate_succ']
    rfl
theorem zeroL_r (key : List Nat) (hl : key.length = 32) : rN (zeroL key 16) = 0 := by
  unfold rN clampL
  rw [zeroL_take key (by omega) 16 (Nat.le_refl _)]
  rfl
end Go.Proofs.Ytkkhdjdoifnoaaa
