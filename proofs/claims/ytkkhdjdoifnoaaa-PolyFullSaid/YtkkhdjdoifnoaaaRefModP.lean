/- The rest by 2^130 - 5, digit by digit: plain. -/
import Derived.Test.YtkkhdjdoifnoaaaRefPolyP
set_option linter.unusedVariables false
namespace Go.Proofs.Ytkkhdjdoifnoaaa
/-- Does something stand above 2^130, in the first digits? -/
def highB (D : List Nat) (k : Nat) : Bool := decide (4 ≤ loadN ((D.drop 16).take (k - 16)))
theorem highB_start (D : List Nat) (h : 17 ≤ D.length) : highB D 17 = decide (3 < D.getD 16 0) := by
  unfold highB
  rw [show 17 - 16 = 0 + 1 from rfl, loadN_take_succ _ 0 (by rw [List.length_drop]; omega)]
  simp only [List.take_zero, loadN, Nat.pow_zero, Nat.one_mul, Nat.zero_add, List.getD_eq_getElem?_getD, List.getElem?_drop, Nat.add_zero]
  congr 1
theorem highB_step (D : List Nat) (k : Nat) (hk : 17 ≤ k) (h : k < D.length) : highB D (k + 1) = (highB D k || decide (0 < D.getD k 0)) := by
  unfold highB
  rw [show k + 1 - 16 = (k - 16) + 1 by omega, loadN_take_succ _ (k - 16) (by rw [List.length_drop]; omega)]
  have e : (D.drop 16).getD (k - 16) 0 = D.getD k 0 := by
    rw [List.getD_eq_getElem?_getD, List.getElem?_drop, List.getD_eq_getElem?_getD, show 16 + (k - 16) = k by omega]
  rw [e]
  have hp : 256 ≤ 256 ^ (k - 16) := by
    have := Nat.pow_le_pow_right (n := 256) (by decide) (show 1 ≤ k - 16 by omega)
    simpa using this
  generalize 256 ^ (k - 16) = p at hp
  generalize loadN ((D.drop 16).take (k - 16)) = v
  generalize D.getD k 0 = x
  by_cases hx : 0 < x
  · have h1 : p * 1 ≤ p * x := Nat.mul_le_mul_left _ hx
    have h2 : 4 ≤ v + p * x := by omega
    simp [hx, h2]
  · obtain rfl : x = 0 := by omega
    simp
theorem highB_end (D : List Nat) : highB D D.length = decide (4 ≤ loadN (D.drop 16)) := by
  unfold highB
  rw [List.take_of_length_le (by rw [List.length_drop]; exact Nat.le_refl _)]
theorem mod_small {D : List Nat} (h : 17 ≤ D.length) (hb : BytesOK D) (ht : loadN (D.drop 16) < 4) : loadN D < 2 ^ 130 ∧ D.getD 16 0 = loadN (D.drop 16) := by
  have h1 := loadN_cut D 16 (by omega)
  have h2 := loadN_take_lt hb 16
  refine ⟨by omega, ?_⟩
  have h3 := loadN_cut (D.drop 16) 1 (by rw [List.length_drop]; omega)
  have h4 : loadN ((D.drop 16).take 1) = D.getD 16 0 := by
    have := loadN_take_succ (D.drop 16) 0 (by rw [List.length_drop]; omega)
    rw [this]
    simp only [List.take_zero, loadN, Nat.pow_zero, Nat.one_mul, Nat.zero_add, List.getD_eq_getElem?_getD, List.getElem?_drop, Nat.add_zero]
  rw [h4] at h3
  omega
theorem lessN_lt_self {x : Nat} (h : 2 ^ 130 ≤ x) : lessN x < x := by
  unfold lessN
  omega
theorem mod_large {D : List Nat} (h : 17 ≤ D.length) (hb : BytesOK D) (ht : ¬ loadN (D.drop 16) < 4) : 2 ^ 130 ≤ loadN D := by
  have h1 := loadN_cut D 16 (by omega)
  omega
/-- Are the first digits behind the lowest one all 255? -/
def allB (D : List Nat) (k : Nat) : Bool := decide (loadN ((D.drop 1).take (k - 1)) + 1 = 256 ^ (k - 1))
theorem allB_step (D : List Nat) (hb : BytesOK D) (k : Nat) (hk : 1 ≤ k) (h : k < D.length) : allB D (k + 1) = (allB D k && decide (D.getD k 0 = 255)) := by
  unfold allB
  rw [show k + 1 - 1 = (k - 1) + 1 by omega, loadN_take_succ _ (k - 1) (by rw [List.length_drop]; omega), pow256_succ]
  have e : (D.drop 1).getD (k - 1) 0 = D.getD k 0 := by
    rw [List.getD_eq_getElem?_getD, List.getElem?_drop, List.getD_eq_getElem?_getD, show 1 + (k - 1) = k by omega]
  rw [e]
  have hx := hb.getD k
  have hv := loadN_take_lt (hb.drop 1) (k - 1)
  generalize 256 ^ (k - 1) = p at hv
  generalize loadN ((D.drop 1).take (k - 1)) = v at hv
  generalize D.getD k 0 = x at hx
  by_cases h5 : x = 255
  · subst h5
    simp only [decide_true, Bool.and_true, decide_eq_decide]
    omega
  · have h1 : p * x ≤ p * 254 := Nat.mul_le_mul_left _ (by omega)
    have h2 : ¬ (v + p * x + 1 = 256 * p) := by omega
    simp [h5, h2]
theorem mod_ge {D : List Nat} (h : 17 ≤ D.length) (hb : BytesOK D) (ht : loadN (D.drop 16) < 4) (h3 : D.getD 16 0 = 3) (h0 : 251 ≤ D.getD 0 0) (ha : allB D 16 = true) : D.getD 0 0 - 251 = loadN D % polyP := by
  obtain ⟨h1, h2⟩ := mod_small h hb ht
  unfold allB at ha
  have hx := of_decide_eq_true ha
  have c1 := loadN_cut D 16 (by omega)
  have c2 := loadN_cut (D.take 16) 1 (by rw [List.length_take]; omega)
  have e1 : loadN ((D.take 16).take 1) = D.getD 0 0 := by
    have := loadN_take_succ D 0 (by omega)
    rw [List.take_take]
    rw [show min 1 16 = 0 + 1 from rfl, this]
    simp [loadN]
  have e2 : (D.take 16).drop 1 = (D.drop 1).take 15 := by rw [List.drop_take]
  rw [e1, e2] at c2
  have e3 : 16 - 1 = 15 := rfl
  rw [e3] at hx
  have hb0 := hb.getD 0
  unfold polyP
  omega
theorem mod_lt {D : List Nat} (h : 17 ≤ D.length) (hb : BytesOK D) (ht : loadN (D.drop 16) < 4) (hn : ¬ (D.getD 16 0 = 3 ∧ 251 ≤ D.getD 0 0 ∧ allB D 16 = true)) : loadN D = loadN D % polyP := by
  obtain ⟨h1, h2⟩ := mod_small h hb ht
  have c1 := loadN_cut D 16 (by omega)
  have c2 := loadN_cut (D.take 16) 1 (by rw [List.length_take]; omega)
  have e1 : loadN ((D.take 16).take 1) = D.getD 0 0 := by
    have := loadN_take_succ D 0 (by omega)
    rw [List.take_take]
    rw [show min 1 16 = 0 + 1 from rfl, this]
    simp [loadN]
  have e2 : (D.take 16).drop 1 = (D.drop 1).take 15 := by rw [List.drop_take]
  rw [e1, e2] at c2
  have hv := loadN_take_lt (hb.drop 1) 15
  have hb0 := hb.getD 0
  have hall : allB D 16 = true ↔ loadN ((D.drop 1).take 15) + 1 = 256 ^ 15 := by
    unfold allB
    rw [decide_eq_true_iff]
  rw [hall] at hn
  rw [Nat.mod_eq_of_lt]
  unfold polyP
  omega
theorem base_eq (D : List Nat) (r : Nat) (h : 17 ≤ D.length) : (D.take 17).set 16 r = D.take 16 ++ [r] := by
  have h1 : (D.take 16).length = 16 := by rw [List.length_take]; omega
  rw [take_snoc D 16 0 (by omega), List.set_append_right _ _ (by omega), h1]
  rfl
theorem base_load (D : List Nat) (r : Nat) (h : 17 ≤ D.length) : loadN ((D.take 17).set 16 r) = loadN (D.take 16) + 256 ^ 16 * r := by
  rw [base_eq D r h, loadN_snoc0, List.length_take, Nat.min_eq_left (by omega)]
theorem getD_lt {l : List Nat} {b : Nat} (h : ∀ x ∈ l, x < b) (hb : 0 < b) (j : Nat) : l.getD j 0 < b := by
  rw [List.getD_eq_getElem?_getD]
  by_cases hj : j < l.length
  · rw [List.getElem?_eq_getElem hj]
    exact h _ (List.getElem_mem hj)
  · rw [List.getElem?_eq_none (by omega)]
    exact hb
/-- What one round of the sum makes. -/
structure SumR (D : List Nat) (r M k2 : Nat) (O : List Nat) : Prop where
  len : 17 ≤ O.length
  lenk : k2 ≤ O.length + 1
  lenM : O.length ≤ M
  dig : ∀ x ∈ O, x < 4096
  tail : ∀ j, k2 - 16 ≤ j → O.getD j 0 < 256
  load : loadN O = loadN (D.take 16) + 256 ^ 16 * r + 5 * loadN ((qL (D.drop 16)).take (k2 - 16))
theorem SumR.start {D : List Nat} {r M : Nat} (h : 18 ≤ D.length) (hM : 18 ≤ M) (hb : BytesOK D) (hr : r < 256) : SumR D r M 16 ((D.take 17).set 16 r) := by
  have hok : ∀ x ∈ (D.take 17).set 16 r, x < 256 := fun x hx => by
    rcases List.mem_or_eq_of_mem_set hx with h1 | rfl
    · exact (hb.take 17) x h1
    · exact hr
  have hl : ((D.take 17).set 16 r).length = 17 := by rw [List.length_set, List.length_take]; omega
  refine ⟨by omega, by omega, by omega, fun x hx => Nat.lt_trans (hok x hx) (by decide), fun j _ => getD_lt hok (by decide) j, ?_⟩
  rw [base_load D r (by omega)]
  rfl
theorem SumR.zero {D O : List Nat} {r M k2 : Nat} (h : SumR D r M k2 O) (hlt : O.length < k2) (hk : k2 ≤ M) : SumR D r M k2 (O ++ [0]) := by
  refine ⟨by rw [List.length_append]; have := h.len; omega, by rw [List.length_append]; have := h.lenk; omega, by rw [List.length_append, List.length_singleton]; omega, fun x hx => ?_, fun j hj => ?_, ?_⟩
  · rcases List.mem_append.1 hx with h1 | h1
    · exact h.dig x h1
    · simp at h1; omega
  · have h1 := h.tail j hj
    rw [List.getD_eq_getElem?_getD] at h1 ⊢
    rcases Nat.lt_or_ge j O.length with h2 | h2
    · rw [List.getElem?_append_left h2]
      exact h1
    · rw [List.getElem?_append_right h2]
      rcases Nat.lt_or_ge (j - O.length) 1 with h3 | h3
      · rw [show j - O.length = 0 by omega]; decide
      · rw [List.getElem?_eq_none (by simpa using h3)]; decide
  · have h1 := loadN_zero_add 1 O
    rw [show List.replicate 1 0 = [0] from rfl] at h1
    rw [h1, h.load]
theorem SumR.put {D O : List Nat} {r M k2 t : Nat} (h : SumR D r M k2 O) (hk16 : 16 ≤ k2) (hk : k2 < D.length) (hl : k2 ≤ O.length) (ht : (qL (D.drop 16)).getD (k2 - 16) 0 = t) (htb : t ≤ 255) : SumR D r M (k2 + 1) (O.set (k2 - 16) (O.getD (k2 - 16) 0 + 5 * t)) := by
  have h0 := h.tail (k2 - 16) (Nat.le_refl _)
  refine ⟨by rw [List.length_set]; exact h.len, by rw [List.length_set]; omega, by rw [List.length_set]; exact h.lenM, fun x hx => ?_, fun j hj => ?_, ?_⟩
  · rcases List.mem_or_eq_of_mem_set hx with h1 | rfl
    · exact h.dig x h1
    · omega
  · have h1 := h.tail j (by omega)
    rw [List.getD_eq_getElem?_getD] at h1 ⊢
    rw [List.getElem?_set_ne (by omega)]
    exact h1
  · rw [loadN_set _ _ _ (by omega), h.load, show k2 + 1 - 16 = (k2 - 16) + 1 by omega, loadN_take_succ (qL (D.drop 16)) (k2 - 16) (by rw [qL_length, List.length_drop]; omega), ht, Nat.mul_add]
    generalize 256 ^ (k2 - 16) = p
    rw [Nat.mul_left_comm]
    omega
theorem SumR.done {D O : List Nat} {M x : Nat} (h : SumR D (x % 4) M D.length O) (hl : 18 ≤ D.length) (hb : BytesOK D) (hx : D.getD 16 0 = x) : loadN O = lessN (loadN D) := by
  rw [h.load, lessN_split D (by omega) hb, List.take_of_length_le (l := qL (D.drop 16)) (by rw [qL_length, List.length_drop]; exact Nat.le_refl _), qL_load]
  have h1 := loadN_cut (D.drop 16) 1 (by rw [List.length_drop]; omega)
  have h2 := loadN_take_succ (D.drop 16) 0 (by rw [List.length_drop]; omega)
  have h3 : (D.drop 16).getD 0 0 = x := by rw [← hx, List.getD_eq_getElem?_getD, List.getElem?_drop, List.getD_eq_getElem?_getD]
  rw [h3, List.take_zero, Nat.pow_zero, Nat.one_mul] at h2
  rw [show (0 : Nat) + 1 = 1 from rfl, show loadN [] = 0 from rfl, Nat.zero_add] at h2
  rw [h2] at h1
  have h4 : loadN (D.drop 16) % 4 = x % 4 := by rw [h1]; omega
  rw [h4]
end Go.Proofs.Ytkkhdjdoifnoaaa
