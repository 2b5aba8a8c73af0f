/- Poly1305 on numbers: nothing of the program. -/
import Derived.Test.YtkkhdjdoifnoaaaPlain
set_option linter.unusedVariables false
namespace Go.Proofs.Ytkkhdjdoifnoaaa

/-- A number's three words (the rest by 2^192). -/
def num (n : Nat) : List Nat := [n % 18446744073709551616, n / 18446744073709551616 % 18446744073709551616, n / 340282366920938463463374607431768211456 % 18446744073709551616]
/-- What stands above 2^130 is added five times to what stands below. -/
def lessN (a : Nat) : Nat := a % 2 ^ 130 + 5 * (a / 2 ^ 130)
def polyP : Nat := 2 ^ 130 - 5
/-- The first words of a sum. -/
def plusL (a b k : Nat) : List Nat := (num (a + b)).take k ++ (num a).drop k
def plusC (a b : Nat) : Nat → Nat
  | 0 => 0
  | k + 1 => ((num a).getD k 0 + (num b).getD k 0 + plusC a b k) / 18446744073709551616
theorem num_get (n k : Nat) (hk : k < 3) : (num n).getD k 0 < 18446744073709551616 := by
  match k, hk with
  | 0, _ => exact Nat.mod_lt _ (by decide)
  | 1, _ => exact Nat.mod_lt _ (by decide)
  | 2, _ => exact Nat.mod_lt _ (by decide)
theorem div_sum (a b : Nat) : (a + b) / 18446744073709551616 = a / 18446744073709551616 + b / 18446744073709551616 + (a % 18446744073709551616 + b % 18446744073709551616) / 18446744073709551616 := by omega
theorem div_sum3 (x y c : Nat) : (x + y + c) / 18446744073709551616 = x / 18446744073709551616 + y / 18446744073709551616 + (x % 18446744073709551616 + y % 18446744073709551616 + c) / 18446744073709551616 := by omega
theorem div_two (a : Nat) : a / 340282366920938463463374607431768211456 = a / 18446744073709551616 / 18446744073709551616 := by omega
theorem plus0 (a b : Nat) : (a % 18446744073709551616 + b % 18446744073709551616) % 18446744073709551616 = (a + b) % 18446744073709551616 := by omega
theorem plus1 (a b : Nat) : (a / 18446744073709551616 % 18446744073709551616 + b / 18446744073709551616 % 18446744073709551616 + (a % 18446744073709551616 + b % 18446744073709551616) / 18446744073709551616) % 18446744073709551616 = (a + b) / 18446744073709551616 % 18446744073709551616 := by
  rw [div_sum a b]
  generalize (a % 18446744073709551616 + b % 18446744073709551616) / 18446744073709551616 = c
  generalize a / 18446744073709551616 = x
  generalize b / 18446744073709551616 = y
  omega
theorem plus2 (a b : Nat) : (a / 340282366920938463463374607431768211456 % 18446744073709551616 + b / 340282366920938463463374607431768211456 % 18446744073709551616 + (a / 18446744073709551616 % 18446744073709551616 + b / 18446744073709551616 % 18446744073709551616 + (a % 18446744073709551616 + b % 18446744073709551616) / 18446744073709551616) / 18446744073709551616) % 18446744073709551616 = (a + b) / 340282366920938463463374607431768211456 % 18446744073709551616 := by
  rw [div_two (a + b), div_sum a b, div_sum3 (a / 18446744073709551616) (b / 18446744073709551616), ← div_two a, ← div_two b]
  generalize (a / 18446744073709551616 % 18446744073709551616 + b / 18446744073709551616 % 18446744073709551616 + (a % 18446744073709551616 + b % 18446744073709551616) / 18446744073709551616) / 18446744073709551616 = c
  generalize a / 340282366920938463463374607431768211456 = x
  generalize b / 340282366920938463463374607431768211456 = y
  omega

theorem plusC_le (a b : Nat) : ∀ k, k ≤ 3 → plusC a b k ≤ 1
  | 0, _ => Nat.zero_le _
  | k + 1, h => by
    have h1 := plusC_le a b k (by omega)
    have h2 := num_get a k (by omega)
    have h3 := num_get b k (by omega)
    rw [plusC]
    omega
theorem plus_step (a b k : Nat) (hk : k < 3) : ((num a).getD k 0 + (num b).getD k 0 + plusC a b k) % 18446744073709551616 = (num (a + b)).getD k 0 := by
  match k, hk with
  | 0, _ => exact plus0 a b
  | 1, _ => exact plus1 a b
  | 2, _ => exact plus2 a b
theorem plusL_get (a b k : Nat) (hk : k < 3) : (plusL a b k).getD k 0 = (num a).getD k 0 := by
  match k, hk with
  | 0, _ => rfl
  | 1, _ => rfl
  | 2, _ => rfl
theorem plusL_set (a b k : Nat) (hk : k < 3) : plusL a b (k + 1) = (plusL a b k).set k ((num (a + b)).getD k 0) := by
  match k, hk with
  | 0, _ => rfl
  | 1, _ => rfl
  | 2, _ => rfl
theorem plusL_length (a b k : Nat) (hk : k ≤ 3) : (plusL a b k).length = 3 := by
  match k, hk with
  | 0, _ => rfl
  | 1, _ => rfl
  | 2, _ => rfl
  | 3, _ => rfl

/-! ### the product -/
def mulI (x : Nat) (r : List Nat) (i : Nat) (w : List Nat) : Nat → List Nat × Nat
  | 0 => (w, 0)
  | j + 1 => let s := mulI x r i w j; let t := s.1.getD (i + j) 0 + x * r.getD j 0 + s.2; (s.1.set (i + j) (t % 18446744073709551616), t / 18446744073709551616)
def mulO (a r : List Nat) : Nat → List Nat
  | 0 => [0, 0, 0, 0, 0]
  | i + 1 => let s := mulI (a.getD i 0) r i (mulO a r i) 2; s.1.set (i + 2) ((s.1.getD (i + 2) 0 + s.2) % 18446744073709551616)
/-- A number's five words. -/
def num5 (n : Nat) : List Nat := [n % 18446744073709551616, n / 18446744073709551616 % 18446744073709551616, n / 340282366920938463463374607431768211456 % 18446744073709551616, n / 6277101735386680763835789423207666416102355444464034512896 % 18446744073709551616, n / 115792089237316195423570985008687907853269984665640564039457584007913129639936 % 18446744073709551616]
theorem num5_of {w0 w1 w2 w3 w4 n : Nat} (h : w0 + 18446744073709551616 * w1 + 340282366920938463463374607431768211456 * w2 + 6277101735386680763835789423207666416102355444464034512896 * w3 + 115792089237316195423570985008687907853269984665640564039457584007913129639936 * w4 = n)
    (h0 : w0 < 18446744073709551616) (h1 : w1 < 18446744073709551616) (h2 : w2 < 18446744073709551616) (h3 : w3 < 18446744073709551616) (h4 : w4 < 18446744073709551616) : [w0, w1, w2, w3, w4] = num5 n := by
  subst h
  simp only [num5, List.cons.injEq, and_true]
  refine ⟨?_, ?_, ?_, ?_, ?_⟩ <;> omega
theorem mul_step (w x y c : Nat) (hw : w < 18446744073709551616) (hx : x < 18446744073709551616) (hy : y < 18446744073709551616) (hc : c < 18446744073709551616) :
    (w + x * y + c) / 18446744073709551616 < 18446744073709551616 := by
  have h : x * y ≤ 18446744073709551615 * 18446744073709551615 := Nat.mul_le_mul (by omega) (by omega)
  generalize x * y = p at h
  omega
/-- The words that the code makes. -/
theorem mul_words (w x y c : Nat) (hw : w < 18446744073709551616) (hx : x < 18446744073709551616) (hy : y < 18446744073709551616) (hc : c < 18446744073709551616) :
    (w + (x * y % 18446744073709551616 + c) % 18446744073709551616) % 18446744073709551616 = (w + x * y + c) % 18446744073709551616 ∧
    x * y / 18446744073709551616 + (x * y % 18446744073709551616 + c) / 18446744073709551616 < 18446744073709551616 ∧
    x * y / 18446744073709551616 + (x * y % 18446744073709551616 + c) / 18446744073709551616 + (w + (x * y % 18446744073709551616 + c) % 18446744073709551616) / 18446744073709551616 = (w + x * y + c) / 18446744073709551616 := by
  have h : x * y ≤ 18446744073709551615 * 18446744073709551615 := Nat.mul_le_mul (by omega) (by omega)
  generalize x * y = p at h
  refine ⟨?_, ?_, ?_⟩ <;> omega
theorem parts (t : Nat) : ∃ d m, t / 18446744073709551616 = d ∧ t % 18446744073709551616 = m ∧ t = 18446744073709551616 * d + m ∧ m < 18446744073709551616 := ⟨_, _, rfl, rfl, (Nat.div_add_mod _ _).symm, Nat.mod_lt _ (by decide)⟩
theorem mul_out (a0 a1 a2 r0 r1 b c d : Nat) (hc : b * b = c) (hd : c * b = d) : (a0 + b * a1 + c * a2) * (r0 + b * r1) = a0 * r0 + b * (a0 * r1) + b * (a1 * r0) + c * (a1 * r1) + c * (a2 * r0) + d * (a2 * r1) := by
  have e1 : a0 * (b * r1) = b * (a0 * r1) := Nat.mul_left_comm _ _ _
  have e2 : b * a1 * r0 = b * (a1 * r0) := Nat.mul_assoc _ _ _
  have e3 : b * a1 * (b * r1) = c * (a1 * r1) := by rw [Nat.mul_mul_mul_comm, hc]
  have e4 : c * a2 * r0 = c * (a2 * r0) := Nat.mul_assoc _ _ _
  have e5 : c * a2 * (b * r1) = d * (a2 * r1) := by rw [Nat.mul_mul_mul_comm, hd]
  rw [Nat.mul_add, Nat.add_mul, Nat.add_mul, Nat.add_mul, Nat.add_mul, e1, e2, e3, e4, e5]
  omega
theorem mulO_eq {a0 a1 a2 r0 r1 : Nat} (h0 : a0 < 18446744073709551616) (h1 : a1 < 18446744073709551616) (h2 : a2 < 18446744073709551616) (k0 : r0 < 18446744073709551616) (k1 : r1 < 18446744073709551616) :
    mulO [a0, a1, a2] [r0, r1] 3 = num5 ((a0 + 18446744073709551616 * a1 + 340282366920938463463374607431768211456 * a2) * (r0 + 18446744073709551616 * r1)) := by
  rw [mul_out a0 a1 a2 r0 r1 18446744073709551616 340282366920938463463374607431768211456 6277101735386680763835789423207666416102355444464034512896 (by decide) (by decide)]
  simp only [mulO, mulI, List.getD_cons_zero, List.getD_cons_succ, List.set_cons_zero, List.set_cons_succ, Nat.zero_add, Nat.add_zero, Nat.reduceAdd]
  have q : ∀ {x y : Nat}, x < 18446744073709551616 → y < 18446744073709551616 → x * y ≤ 18446744073709551615 * 18446744073709551615 := fun hx hy => Nat.mul_le_mul (by omega) (by omega)
  have b00 := q h0 k0
  have b01 := q h0 k1
  have b10 := q h1 k0
  have b11 := q h1 k1
  have b20 := q h2 k0
  have b21 := q h2 k1
  generalize a0 * r0 = p00 at *
  generalize a0 * r1 = p01 at *
  generalize a1 * r0 = p10 at *
  generalize a1 * r1 = p11 at *
  generalize a2 * r0 = p20 at *
  generalize a2 * r1 = p21 at *
  clear q h0 h1 h2 k0 k1
  obtain ⟨d1, m1, e1, f1, g1, l1⟩ := parts p00
  rw [e1, f1]
  obtain ⟨d2, m2, e2, f2, g2, l2⟩ := parts (p01 + d1)
  rw [e2, f2]
  have u2 : d2 < 18446744073709551616 := by omega
  rw [Nat.mod_eq_of_lt u2]
  obtain ⟨d3, m3, e3, f3, g3, l3⟩ := parts (m2 + p10)
  rw [e3, f3]
  obtain ⟨d4, m4, e4, f4, g4, l4⟩ := parts (d2 + p11 + d3)
  rw [e4, f4]
  have u3 : d3 < 18446744073709551616 := by omega
  have u4 : d4 < 18446744073709551616 := by omega
  rw [Nat.mod_eq_of_lt u4]
  obtain ⟨d5, m5, e5, f5, g5, l5⟩ := parts (m4 + p20)
  rw [e5, f5]
  obtain ⟨d6, m6, e6, f6, g6, l6⟩ := parts (d4 + p21 + d5)
  rw [e6, f6]
  have u5 : d5 < 18446744073709551616 := by omega
  have u6 : d6 < 18446744073709551616 := by omega
  rw [Nat.mod_eq_of_lt u6]
  refine num5_of ?_ l1 l3 l5 l6 u6
  omega
end Go.Proofs.Ytkkhdjdoifnoaaa
