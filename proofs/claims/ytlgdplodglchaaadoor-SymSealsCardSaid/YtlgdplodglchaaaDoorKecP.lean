/- Plain laws of the permutation: nothing of the program. -/
import Derived.Test.YtlgdplodglchaaaDoorGLib
set_option linter.unusedVariables false
namespace Go.Proofs.YtlgdplodglchaaaDoor

/-- A lane, turned k bits to the left. -/
def rotL (x k : Nat) : Nat := x % 2 ^ (64 - k) * 2 ^ k + x / 2 ^ (64 - k)
theorem rotL_lt {x k : Nat} (hx : x < 2 ^ 64) (hk : k ≤ 64) : rotL x k < 2 ^ 64 := by
  have h1 : (2 : Nat) ^ 64 = 2 ^ (64 - k) * 2 ^ k := by rw [← Nat.pow_add]; congr 1; omega
  have h2 : x / 2 ^ (64 - k) < 2 ^ k := by rw [Nat.div_lt_iff_lt_mul (Nat.two_pow_pos _), Nat.mul_comm, ← h1]; exact hx
  have h3 : x % 2 ^ (64 - k) < 2 ^ (64 - k) := Nat.mod_lt _ (Nat.two_pow_pos _)
  have h4 : x % 2 ^ (64 - k) * 2 ^ k ≤ (2 ^ (64 - k) - 1) * 2 ^ k := Nat.mul_le_mul_right _ (by omega)
  have h5 : (2 ^ (64 - k) - 1) * 2 ^ k + 2 ^ k = 2 ^ (64 - k) * 2 ^ k := by
    rw [← Nat.succ_mul]
    congr 1
    have := Nat.two_pow_pos (64 - k)
    omega
  unfold rotL
  omega
theorem rotL_zero {x : Nat} (hx : x < 2 ^ 64) : rotL x 0 = x := by
  unfold rotL
  rw [Nat.sub_zero, Nat.pow_zero, Nat.mul_one, Nat.mod_eq_of_lt hx, Nat.div_eq_of_lt hx, Nat.add_zero]
theorem rotL_shl {x k : Nat} (hk : k ≤ 64) : x * 2 ^ k % 2 ^ 64 = x % 2 ^ (64 - k) * 2 ^ k := by
  have h1 : (2 : Nat) ^ 64 = 2 ^ (64 - k) * 2 ^ k := by rw [← Nat.pow_add]; congr 1; omega
  rw [h1]
  exact Nat.mul_mod_mul_right _ _ _
/-- The turn as the machine reckons it: the two parts, or'd. -/
theorem rotL_bits {x k : Nat} (hx : x < 2 ^ 64) (hk : k ≤ 64) : bits .or .u64 ((x * 2 ^ k % 2 ^ 64 : Nat) : Int) ((x / 2 ^ (64 - k) : Nat) : Int) = ((rotL x k : Nat) : Int) := by
  have h1 : (2 : Nat) ^ 64 = 2 ^ (64 - k) * 2 ^ k := by rw [← Nat.pow_add]; congr 1; omega
  have h2 : x / 2 ^ (64 - k) < 2 ^ k := by rw [Nat.div_lt_iff_lt_mul (Nat.two_pow_pos _), Nat.mul_comm, ← h1]; exact hx
  have h6 : (2 : Nat) ^ k ≤ 2 ^ 64 := Nat.pow_le_pow_right (by decide) hk
  rw [rotL_shl hk]
  have hlt := rotL_lt hx hk
  unfold rotL at hlt ⊢
  rw [(bits_u (k := .u64) rfl _ _ (Nat.lt_of_le_of_lt (Nat.le_add_right _ _) hlt) (Nat.lt_of_lt_of_le h2 h6)).2.1]
  rw [Nat.mul_comm, ← Nat.two_pow_add_eq_or_of_lt h2]

/-! ### rows of lanes -/
def Lanes (l : List Nat) : Prop := ∀ x ∈ l, x < 2 ^ 64
theorem Lanes.getD {l : List Nat} (h : Lanes l) (i : Nat) : l.getD i 0 < 2 ^ 64 := by
  rw [List.getD_eq_getElem?_getD]
  rcases hi : l[i]? with _ | x
  · exact Nat.two_pow_pos 64
  · exact h x (List.mem_of_getElem? hi)
theorem Lanes.set {l : List Nat} (h : Lanes l) {n : Nat} (hn : n < 2 ^ 64) (i : Nat) : Lanes (l.set i n) := fun x hx => by
  rcases List.mem_or_eq_of_mem_set hx with hx | rfl
  · exact h x hx
  · exact hn
theorem Lanes.zeros (n : Nat) : Lanes (List.replicate n 0) := fun x hx => by rw [(List.mem_replicate.1 hx).2]; exact Nat.two_pow_pos 64
theorem Lanes.map {f : Nat → Nat} {n : Nat} (h : ∀ i, i < n → f i < 2 ^ 64) : Lanes ((List.range n).map f) := fun x hx => by
  obtain ⟨i, hi, rfl⟩ := List.mem_map.1 hx
  exact h i (List.mem_range.1 hi)
theorem xor64 {a b : Nat} (ha : a < 2 ^ 64) (hb : b < 2 ^ 64) : a ^^^ b < 2 ^ 64 := Nat.xor_lt_two_pow ha hb
theorem xor_u64 {a b : Nat} (ha : a < 2 ^ 64) (hb : b < 2 ^ 64) : bits .xor .u64 (a : Int) (b : Int) = ((a ^^^ b : Nat) : Int) := (bits_u (k := .u64) rfl a b ha hb).2.2
theorem and_u64 {a b : Nat} (ha : a < 2 ^ 64) (hb : b < 2 ^ 64) : bits .and .u64 (a : Int) (b : Int) = ((a &&& b : Nat) : Int) := (bits_u (k := .u64) rfl a b ha hb).1
/-- The bits of a that b has not. -/
theorem andNot_sub {a b : Nat} (ha : a < 2 ^ 64) (hb : b < 2 ^ 64) : a &&& (2 ^ 64 - 1 - b) = a - (a &&& b) := by
  have h1 : (BitVec.ofNat 64 (a &&& b)) &&& (BitVec.ofNat 64 (a &&& (2 ^ 64 - 1 - b))) = 0#64 := by
    apply BitVec.eq_of_getLsbD_eq
    intro i hi
    have e : 2 ^ 64 - 1 - b = 2 ^ 64 - (b + 1) := by omega
    simp only [BitVec.getLsbD_and, BitVec.getLsbD_ofNat, Nat.testBit_and, e, Nat.testBit_two_pow_sub_succ hb]
    cases a.testBit i <;> cases b.testBit i <;> simp
  have h2 := BitVec.add_eq_or_of_and_eq_zero _ _ h1
  have h3 : (BitVec.ofNat 64 (a &&& b)) ||| (BitVec.ofNat 64 (a &&& (2 ^ 64 - 1 - b))) = BitVec.ofNat 64 a := by
    apply BitVec.eq_of_getLsbD_eq
    intro i hi
    have e : 2 ^ 64 - 1 - b = 2 ^ 64 - (b + 1) := by omega
    simp only [BitVec.getLsbD_or, BitVec.getLsbD_ofNat, Nat.testBit_and, e, Nat.testBit_two_pow_sub_succ hb]
    have : decide (i < 64) = true := by simpa using hi
    rw [this]
    cases a.testBit i <;> cases b.testBit i <;> simp
  rw [h3] at h2
  have h4 := congrArg BitVec.toNat h2
  have l1 : a &&& b ≤ a := Nat.and_le_left
  have l2 : a &&& (2 ^ 64 - 1 - b) ≤ a := Nat.and_le_left
  rw [BitVec.toNat_add, BitVec.toNat_ofNat, BitVec.toNat_ofNat, BitVec.toNat_ofNat, Nat.mod_eq_of_lt ha, Nat.mod_eq_of_lt (show a &&& b < 2 ^ 64 by omega), Nat.mod_eq_of_lt (show a &&& (2 ^ 64 - 1 - b) < 2 ^ 64 by omega)] at h4
  omega
theorem andNot_u64 {a b : Nat} (ha : a < 2 ^ 64) (hb : b < 2 ^ 64) : bits .andNot .u64 (a : Int) (b : Int) = ((a - (a &&& b) : Nat) : Int) := by
  rw [← andNot_sub ha hb]
  exact bits_andNot_u (k := .u64) rfl a b ha hb
/-- A row on its way: the first i are what f says, the others as they were. -/
def upto (f : Nat → Nat) (l : List Nat) (i : Nat) : List Nat := (List.range l.length).map fun j => if j < i then f j else l.getD j 0
theorem upto_length (f : Nat → Nat) (l : List Nat) (i : Nat) : (upto f l i).length = l.length := by simp [upto]
theorem upto_getD (f : Nat → Nat) (l : List Nat) (i j : Nat) (hj : j < l.length) : (upto f l i).getD j 0 = if j < i then f j else l.getD j 0 := by
  simp [upto, List.getD_eq_getElem?_getD, hj]
theorem upto_old (f : Nat → Nat) (l : List Nat) (i j : Nat) (hj : i ≤ j) : (upto f l i).getD j 0 = l.getD j 0 := by
  by_cases h : j < l.length
  · rw [upto_getD f l i j h, if_neg (by omega)]
  · simp only [List.getD_eq_getElem?_getD]
    rw [List.getElem?_eq_none (by rw [upto_length]; omega), List.getElem?_eq_none (by omega)]
theorem upto_zero (f : Nat → Nat) (l : List Nat) : upto f l 0 = l := by
  apply List.ext_getElem?
  intro j
  by_cases h : j < l.length
  · simp [upto, h, List.getD_eq_getElem?_getD]
  · rw [List.getElem?_eq_none (by rw [upto_length]; omega), List.getElem?_eq_none (by omega)]
theorem upto_all (f : Nat → Nat) (l : List Nat) (n : Nat) (hn : l.length = n) : upto f l n = (List.range n).map f := by
  subst hn
  unfold upto
  refine List.map_congr_left fun j hj => ?_
  rw [if_pos (List.mem_range.1 hj)]
theorem upto_succ (f : Nat → Nat) (l : List Nat) (i x : Nat) (hi : i < l.length) (hx : x = f i) : (upto f l i).set i x = upto f l (i + 1) := by
  subst hx
  apply List.ext_getElem?
  intro j
  rw [List.getElem?_set]
  by_cases h : i = j
  · subst h
    simp [upto, hi]
  · rw [if_neg h]
    by_cases h2 : j < l.length
    · simp only [upto, List.getElem?_map, List.getElem?_range h2, Option.map_some]
      congr 1
      by_cases h3 : j < i
      · rw [if_pos h3, if_pos (by omega)]
      · rw [if_neg h3, if_neg (by omega)]
    · rw [List.getElem?_eq_none (by rw [upto_length]; omega), List.getElem?_eq_none (by rw [upto_length]; omega)]
/-! ### the permutation -/
def kecT : List Nat := [0, 1, 62, 28, 27, 36, 44, 6, 55, 20, 3, 10, 43, 25, 39, 41, 45, 15, 21, 8, 18, 2, 61, 56, 14]
def kecC : List Nat := [0x0000000000000001, 0x0000000000008082, 0x800000000000808a, 0x8000000080008000,
 0x000000000000808b, 0x0000000080000001, 0x8000000080008081, 0x8000000000008009,
 0x000000000000008a, 0x0000000000000088, 0x0000000080008009, 0x000000008000000a,
 0x000000008000808b, 0x800000000000008b, 0x8000000000008089, 0x8000000000008003,
 0x8000000000008002, 0x8000000000000080, 0x000000000000800a, 0x800000008000000a,
 0x8000000080008081, 0x8000000000008080, 0x0000000080000001, 0x8000000080008008]
def colF (a : List Nat) (x : Nat) : Nat := a.getD x 0 ^^^ a.getD (x + 5) 0 ^^^ a.getD (x + 10) 0 ^^^ a.getD (x + 15) 0 ^^^ a.getD (x + 20) 0
def thetaF (a : List Nat) (i : Nat) : Nat := a.getD i 0 ^^^ (colF a ((i % 5 + 4) % 5) ^^^ rotL (colF a ((i % 5 + 1) % 5)) 1)
def thetaN (a : List Nat) : List Nat := (List.range 25).map (thetaF a)
def rhoF (a : List Nat) (i : Nat) : Nat := rotL (a.getD i 0) (kecT.getD i 0)
def rhoN (a : List Nat) : List Nat := (List.range 25).map (rhoF a)
def piF (a : List Nat) (i : Nat) : Nat := a.getD ((i % 5 + 3 * (i / 5)) % 5 + 5 * (i % 5)) 0
def piN (a : List Nat) : List Nat := (List.range 25).map (piF a)
def farF (a : List Nat) (i : Nat) : Nat := a.getD (i - i % 5 + (i % 5 + 2) % 5) 0
def nearF (a : List Nat) (i : Nat) : Nat := a.getD (i - i % 5 + (i % 5 + 1) % 5) 0
def chiF (a : List Nat) (i : Nat) : Nat := a.getD i 0 ^^^ (farF a i - (farF a i &&& nearF a i))
def chiN (a : List Nat) : List Nat := (List.range 25).map (chiF a)
def iotaN (a : List Nat) (r : Nat) : List Nat := a.set 0 (a.getD 0 0 ^^^ kecC.getD r 0)
def roundN (a : List Nat) (r : Nat) : List Nat := iotaN (chiN (piN (rhoN (thetaN a)))) r
def roundsN (a : List Nat) : Nat → List Nat
  | 0 => a
  | n + 1 => roundN (roundsN a n) n
def kecN (a : List Nat) : List Nat := roundsN a 24
theorem colF_lt {a : List Nat} (h : Lanes a) (x : Nat) : colF a x < 2 ^ 64 := xor64 (xor64 (xor64 (xor64 (h.getD _) (h.getD _)) (h.getD _)) (h.getD _)) (h.getD _)
theorem thetaF_lt {a : List Nat} (h : Lanes a) (i : Nat) : thetaF a i < 2 ^ 64 := xor64 (h.getD _) (xor64 (colF_lt h _) (rotL_lt (colF_lt h _) (by decide)))
theorem kecT_lt (i : Nat) : kecT.getD i 0 < 64 := by
  by_cases h : i < 25
  · have : ∀ i, i < 25 → kecT.getD i 0 < 64 := by decide
    exact this i h
  · rw [List.getD_eq_getElem?_getD, List.getElem?_eq_none (show kecT.length ≤ i from by show 25 ≤ i; omega)]
    decide
theorem kecC_lt (i : Nat) : kecC.getD i 0 < 2 ^ 64 := by
  have : Lanes kecC := by unfold Lanes; decide
  exact this.getD i
theorem rhoF_lt {a : List Nat} (h : Lanes a) (i : Nat) : rhoF a i < 2 ^ 64 := rotL_lt (h.getD _) (Nat.le_of_lt (kecT_lt i))
theorem piF_lt {a : List Nat} (h : Lanes a) (i : Nat) : piF a i < 2 ^ 64 := h.getD _
theorem chiF_lt {a : List Nat} (h : Lanes a) (i : Nat) : chiF a i < 2 ^ 64 := xor64 (h.getD _) (Nat.lt_of_le_of_lt (Nat.sub_le _ _) (h.getD _))
theorem thetaN_ok {a : List Nat} (h : Lanes a) : Lanes (thetaN a) := Lanes.map fun i _ => thetaF_lt h i
theorem rhoN_ok {a : List Nat} (h : Lanes a) : Lanes (rhoN a) := Lanes.map fun i _ => rhoF_lt h i
theorem piN_ok {a : List Nat} (h : Lanes a) : Lanes (piN a) := Lanes.map fun i _ => piF_lt h i
theorem chiN_ok {a : List Nat} (h : Lanes a) : Lanes (chiN a) := Lanes.map fun i _ => chiF_lt h i
theorem iotaN_ok {a : List Nat} (h : Lanes a) (r : Nat) : Lanes (iotaN a r) := h.set (xor64 (h.getD _) (kecC_lt r)) 0
theorem roundN_ok {a : List Nat} (h : Lanes a) (r : Nat) : Lanes (roundN a r) := iotaN_ok (chiN_ok (piN_ok (rhoN_ok (thetaN_ok h)))) r
theorem roundsN_ok {a : List Nat} (h : Lanes a) (n : Nat) : Lanes (roundsN a n) := by
  induction n with
  | zero => exact h
  | succ n ih => exact roundN_ok ih n
theorem kecN_ok {a : List Nat} (h : Lanes a) : Lanes (kecN a) := roundsN_ok h 24
theorem thetaN_length (a : List Nat) : (thetaN a).length = 25 := by simp [thetaN]
theorem rhoN_length (a : List Nat) : (rhoN a).length = 25 := by simp [rhoN]
theorem piN_length (a : List Nat) : (piN a).length = 25 := by simp [piN]
theorem chiN_length (a : List Nat) : (chiN a).length = 25 := by simp [chiN]
theorem iotaN_length (a : List Nat) (r : Nat) : (iotaN a r).length = a.length := by simp [iotaN]
theorem roundN_length (a : List Nat) (r : Nat) : (roundN a r).length = 25 := by rw [roundN, iotaN_length, chiN_length]
theorem roundsN_length {a : List Nat} (h : a.length = 25) (n : Nat) : (roundsN a n).length = 25 := by
  cases n with
  | zero => exact h
  | succ n => exact roundN_length _ _
theorem kecN_length {a : List Nat} (h : a.length = 25) : (kecN a).length = 25 := roundsN_length h 24
/-! ### the same, turned and moved at once -/
/-- Where the lanes go, step by step. -/
def walkX : Nat → Nat × Nat
  | 0 => (1, 0)
  | t + 1 => ((walkX t).2, (2 * (walkX t).1 + 3 * (walkX t).2) % 5)
def srcX (t : Nat) : Nat := (walkX t).1 + 5 * (walkX t).2
def dstX (t : Nat) : Nat := (walkX t).2 + 5 * ((2 * (walkX t).1 + 3 * (walkX t).2) % 5)
def byX (t : Nat) : Nat := (t + 1) * (t + 2) / 2 % 64
theorem walkX_lt (t : Nat) : (walkX t).1 < 5 ∧ (walkX t).2 < 5 := by
  induction t with
  | zero => decide
  | succ t ih => exact ⟨ih.2, Nat.mod_lt _ (by decide)⟩
def movesN (s : List Nat) : Nat → List Nat
  | 0 => (List.replicate 25 0).set 0 (s.getD 0 0)
  | t + 1 => (movesN s t).set (dstX t) (rotL (s.getD (srcX t) 0) (byX t))
theorem movesN_length (s : List Nat) (t : Nat) : (movesN s t).length = 25 := by
  induction t with
  | zero => simp [movesN]
  | succ t ih => rw [movesN, List.length_set, ih]
theorem movesN_ok {s : List Nat} (h : Lanes s) (t : Nat) : Lanes (movesN s t) := by
  induction t with
  | zero => exact (Lanes.zeros 25).set (h.getD 0) 0
  | succ t ih => exact ih.set (rotL_lt (h.getD _) (Nat.le_of_lt (Nat.mod_lt _ (by decide)))) _
def movesG (r : Nat → Nat → Nat) (s : List Nat) : Nat → List Nat
  | 0 => (List.replicate 25 0).set 0 (s.getD 0 0)
  | t + 1 => (movesG r s t).set (dstX t) (r (s.getD (srcX t) 0) (byX t))
theorem moves_gen (r : Nat → Nat → Nat) (s : List Nat) : (movesG r s 24).set 0 (r (s.getD 0 0) 0) = (List.range 25).map fun i => ((List.range 25).map fun i => r (s.getD i 0) (kecT.getD i 0)).getD ((i % 5 + 3 * (i / 5)) % 5 + 5 * (i % 5)) 0 := by kernel_rfl
theorem movesG_at0 (r : Nat → Nat → Nat) (s : List Nat) : (movesG r s 24).set 0 (s.getD 0 0) = movesG r s 24 := by kernel_rfl
theorem moves_is (s : List Nat) (t : Nat) : movesN s t = movesG rotL s t := by
  induction t with
  | zero => rfl
  | succ t ih => rw [movesN, movesG, ih]
theorem moves_all {s : List Nat} (h : Lanes s) : movesN s 24 = piN (rhoN s) := by
  rw [moves_is, ← movesG_at0]
  have e := moves_gen rotL s
  rw [rotL_zero (h.getD 0)] at e
  exact e
/-! ### a run, reckoned -/
end Go.Proofs.YtlgdplodglchaaaDoor
