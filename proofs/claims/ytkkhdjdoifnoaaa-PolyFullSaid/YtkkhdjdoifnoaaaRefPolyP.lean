/- Numbers as digits of 256, carried and taken by 2^130 - 5: plain. -/
import Derived.Test.YtkkhdjdoifnoaaaPolMacP
set_option linter.unusedVariables false
namespace Go.Proofs.Ytkkhdjdoifnoaaa
/-- A digit's carry. -/
theorem loadN_snoc0 (l : List Nat) (b : Nat) : loadN (l ++ [b]) = loadN l + 256 ^ l.length * b := by rw [loadN_append]; simp [loadN]
theorem pow256_succ (n : Nat) : 256 ^ (n + 1) = 256 * 256 ^ n := by rw [Nat.pow_succ, Nat.mul_comm]
/-- One round of carry: what stands is kept. -/
theorem carry_step (d v c x p : Nat) (h : d + p * c = v) : (d + p * ((c + x) % 256)) + 256 * p * ((c + x) / 256) = v + p * x := by
  have h1 : (c + x) % 256 + 256 * ((c + x) / 256) = c + x := Nat.mod_add_div _ _
  have h2 : p * ((c + x) % 256) + 256 * p * ((c + x) / 256) = p * (c + x) := by
    rw [← h1, Nat.mul_add, h1]
    congr 1
    rw [Nat.mul_comm 256 p, Nat.mul_assoc]
  rw [Nat.add_assoc, h2, Nat.mul_add, ← h]
  omega
theorem loadN_take_succ (l : List Nat) (i : Nat) (hi : i < l.length) : loadN (l.take (i + 1)) = loadN (l.take i) + 256 ^ i * l.getD i 0 := by
  rw [take_snoc l i 0 hi, loadN_snoc0, List.length_take, Nat.min_eq_left (Nat.le_of_lt hi)]
/-- The digits of a fourth. -/
def qL : List Nat → List Nat
  | [] => []
  | [x] => [x / 4]
  | x :: y :: t => (x / 4 + y % 4 * 64) :: qL (y :: t)
theorem qL_length : ∀ l, (qL l).length = l.length
  | [] => rfl
  | [x] => rfl
  | x :: y :: t => by rw [qL, List.length_cons, List.length_cons, qL_length (y :: t)]
theorem qL_load : ∀ l, loadN (qL l) = loadN l / 4
  | [] => rfl
  | [x] => by simp [qL, loadN]
  | x :: y :: t => by
    have ih := qL_load (y :: t)
    have h1 : loadN (y :: t) % 4 = y % 4 := by rw [loadN]; omega
    have h2 : loadN (x :: y :: t) = x + 256 * loadN (y :: t) := rfl
    have h3 : loadN (qL (x :: y :: t)) = (x / 4 + y % 4 * 64) + 256 * loadN (qL (y :: t)) := rfl
    rw [h2, h3, ih]
    generalize loadN (y :: t) = r at *
    omega
theorem qL_get : ∀ (l : List Nat) (i : Nat), i < l.length → (qL l).getD i 0 = l.getD i 0 / 4 + (if i + 1 < l.length then l.getD (i + 1) 0 % 4 * 64 else 0)
  | [], i, h => by simp at h
  | [x], i, h => by
    obtain rfl : i = 0 := by simpa using h
    simp [qL]
  | x :: y :: t, 0, h => by simp [qL]
  | x :: y :: t, i + 1, h => by
    have := qL_get (y :: t) i (by simpa using h)
    rw [qL, List.getD_cons_succ, List.getD_cons_succ, List.getD_cons_succ, this]
    simp only [List.length_cons, Nat.add_lt_add_iff_right]
theorem loadN_zero_add (n : Nat) (l : List Nat) : loadN (l ++ List.replicate n 0) = loadN l := by rw [loadN_append, loadN_zeros, Nat.mul_zero, Nat.add_zero]
/-- A digit is turned. -/
theorem loadN_set : ∀ (l : List Nat) (i x : Nat), i < l.length → loadN (l.set i (l.getD i 0 + x)) = loadN l + 256 ^ i * x
  | [], i, x, h => by simp at h
  | y :: l, 0, x, h => by simp only [List.set_cons_zero, List.getD_cons_zero, loadN, Nat.pow_zero]; omega
  | y :: l, i + 1, x, h => by
    have ih := loadN_set l i x (by simpa using h)
    rw [List.set_cons_succ, List.getD_cons_succ, loadN, loadN, ih, pow256_succ, Nat.mul_add, Nat.mul_assoc]
    omega
theorem lessN_split (l : List Nat) (h : 16 ≤ l.length) (hb : BytesOK l) : lessN (loadN l) = loadN (l.take 16) + 256 ^ 16 * (loadN (l.drop 16) % 4) + 5 * (loadN (l.drop 16) / 4) := by
  have h1 := loadN_cut l 16 h
  have h2 := loadN_take_lt hb 16
  generalize loadN (l.take 16) = x at *
  generalize loadN (l.drop 16) = y at *
  rw [h1]
  unfold lessN
  omega
end Go.Proofs.Ytkkhdjdoifnoaaa
