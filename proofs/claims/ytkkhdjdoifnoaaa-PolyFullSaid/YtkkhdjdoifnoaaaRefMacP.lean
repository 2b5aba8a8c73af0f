/- The code, digit by digit: plain. -/
import Derived.Test.YtkkhdjdoifnoaaaRefModP
import Derived.Test.YtkkhdjdoifnoaaaPolOpenP
set_option linter.unusedVariables false
namespace Go.Proofs.Ytkkhdjdoifnoaaa
theorem chunkN_eq (b : List Nat) (k m : Nat) (h : (b.drop (16 * k)).take m = (b.drop (16 * k)).take 16) (hm : ((b.drop (16 * k)).take 16).length = m) : chunkN b k = loadN ((b.drop (16 * k)).take m) + 256 ^ m := by
  unfold chunkN
  rw [loadN_snoc, hm, h, Nat.one_mul]
theorem acc_mod (r : Nat) (b : List Nat) (k : Nat) : accC r b (k + 1) % polyP = ((accC r b k % polyP + chunkN b k) * r) % polyP := by
  rw [accC, lessN_mod, lessN_mod, Nat.mul_mod, ← Nat.mod_add_mod, ← Nat.mul_mod]
theorem storeN_take {D : List Nat} (h : 16 ≤ D.length) (hb : BytesOK D) : storeN (loadN D) 16 = D.take 16 := by
  have h1 := loadN_cut D 16 h
  have h2 := loadN_take_lt hb 16
  have h3 := storeN_loadN (D.take 16) (hb.take 16)
  rw [List.length_take, Nat.min_eq_left h] at h3
  rw [← storeN_mod 16 (loadN D), h1]
  have h4 : (loadN (D.take 16) + 256 ^ 16 * loadN (D.drop 16)) % 256 ^ 16 = loadN (D.take 16) := by
    rw [Nat.add_mul_mod_self_left, Nat.mod_eq_of_lt h2]
  rw [h4, h3]
/-- Bytes that are laid, one by one, on digits. -/
structure AddR (D c : List Nat) (m : Nat) (E : List Nat) : Prop where
  len : E.length = D.length
  dig : ∀ x ∈ E, x < 1024
  tail : ∀ j, m ≤ j → E.getD j 0 < 256
  load : loadN E = loadN D + loadN (c.take m)
theorem AddR.start {D c : List Nat} (hb : BytesOK D) : AddR D c 0 D :=
  ⟨rfl, fun x hx => Nat.lt_trans (hb x hx) (by decide), fun j _ => hb.getD j, rfl⟩
theorem AddR.put {D c E : List Nat} {m y : Nat} (h : AddR D c m E) (hm : m < D.length) (hc : m < c.length) (hy : c.getD m 0 = y) (hyb : y < 256) : AddR D c (m + 1) (E.set m (E.getD m 0 + y)) := by
  have h0 := h.tail m (Nat.le_refl _)
  refine ⟨by rw [List.length_set]; exact h.len, fun x hx => ?_, fun j hj => ?_, ?_⟩
  · rcases List.mem_or_eq_of_mem_set hx with h1 | rfl
    · exact h.dig x h1
    · omega
  · have h1 := h.tail j (by omega)
    rw [List.getD_eq_getElem?_getD] at h1 ⊢
    rw [List.getElem?_set_ne (by omega)]
    exact h1
  · rw [loadN_set _ _ _ (by rw [h.len]; exact hm), h.load, loadN_take_succ c m hc, hy]
    omega
/-- The digits of a product, as far as they are made. -/
structure MulR (D R : List Nat) (n x : Nat) (E : List Nat) : Prop where
  len : E.length = n
  dig : ∀ e ∈ E, e ≤ 65025 * x
  load : loadN E = loadN (D.take x) * loadN R
structure MulY (D R : List Nat) (n x a y : Nat) (E : List Nat) : Prop where
  len : E.length = n
  dig : ∀ e ∈ E, e ≤ 65025 * (x + 1)
  tail : ∀ j, x + y ≤ j → E.getD j 0 ≤ 65025 * x
  load : loadN E = loadN (D.take x) * loadN R + 256 ^ x * (a * loadN (R.take y))
theorem MulR.start (D R : List Nat) (n : Nat) : MulR D R n 0 (List.replicate n 0) :=
  ⟨List.length_replicate, fun e he => by rw [(List.mem_replicate.1 he).2]; exact Nat.zero_le _, by rw [loadN_zeros, List.take_zero, show loadN [] = 0 from rfl, Nat.zero_mul]⟩
theorem getD_le {l : List Nat} {b : Nat} (h : ∀ x ∈ l, x ≤ b) (j : Nat) : l.getD j 0 ≤ b := by
  rw [List.getD_eq_getElem?_getD]
  by_cases hj : j < l.length
  · rw [List.getElem?_eq_getElem hj]
    exact h _ (List.getElem_mem hj)
  · rw [List.getElem?_eq_none (by omega)]
    exact Nat.zero_le _
theorem MulR.row {D R E : List Nat} {n x : Nat} (h : MulR D R n x E) (a : Nat) : MulY D R n x a 0 E :=
  ⟨h.len, fun e he => by have := h.dig e he; omega, fun j _ => getD_le h.dig j, by rw [h.load, List.take_zero, show loadN [] = 0 from rfl, Nat.mul_zero, Nat.mul_zero, Nat.add_zero]⟩
theorem MulY.put {D R E : List Nat} {n x a y c : Nat} (h : MulY D R n x a y E) (hn : x + y < n) (hy : y < R.length) (hc : R.getD y 0 = c) (ha : a < 256) (hcb : c < 256) : MulY D R n x a (y + 1) (E.set (x + y) (E.getD (x + y) 0 + a * c)) := by
  have h0 := h.tail (x + y) (Nat.le_refl _)
  have h9 : a * c ≤ 255 * 255 := Nat.mul_le_mul (by omega) (by omega)
  refine ⟨by rw [List.length_set]; exact h.len, fun e he => ?_, fun j hj => ?_, ?_⟩
  · rcases List.mem_or_eq_of_mem_set he with h1 | rfl
    · exact h.dig e h1
    · omega
  · have h1 := h.tail j (by omega)
    rw [List.getD_eq_getElem?_getD] at h1 ⊢
    rw [List.getElem?_set_ne (by omega)]
    exact h1
  · rw [loadN_set _ _ _ (by rw [h.len]; exact hn), h.load, loadN_take_succ R y hy, hc, Nat.mul_add a, Nat.mul_add (256 ^ x), Nat.add_assoc]
    congr 2
    rw [Nat.pow_add, Nat.mul_assoc, Nat.mul_left_comm a]
theorem MulY.done {D R E : List Nat} {n x a : Nat} (h : MulY D R n x a R.length E) (hx : x < D.length) (ha : D.getD x 0 = a) : MulR D R n (x + 1) E := by
  refine ⟨h.len, h.dig, ?_⟩
  rw [h.load, List.take_of_length_le (Nat.le_refl _), loadN_take_succ D x hx, ha, Nat.add_mul, Nat.mul_assoc]
theorem MulR.done {D R E : List Nat} {n : Nat} (h : MulR D R n D.length E) : loadN E = loadN D * loadN R := by
  rw [h.load, List.take_of_length_le (Nat.le_refl _)]
theorem carry_len {D E : List Nat} {v : Nat} (h18 : 18 ≤ E.length) (h1 : max E.length 18 ≤ D.length) (h2 : D.length ≤ max E.length 18 ∨ 256 ^ (D.length - 1) ≤ v) (hv : v < 256 ^ 17) : D.length = E.length := by
  rcases h2 with h2 | h2
  · omega
  · rcases Nat.lt_or_ge 17 (D.length - 1) with h3 | h3
    · have h4 : (256 : Nat) ^ 17 ≤ 256 ^ (D.length - 1) := Nat.pow_le_pow_right (by decide) (by omega)
      omega
    · omega
end Go.Proofs.Ytkkhdjdoifnoaaa
