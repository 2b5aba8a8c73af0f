/- Merged texts. -/
import Derived.Test.YtlgdplodglchaaaDoorGLib
import Derived.Test.YtlgdplodglchaaaDoorGSesP
import Derived.Laws.Rows
import Derived.Laws.Tables
import Derived.Test.YtlgdplodglchaaaDoorProg
import Derived.Test.YtlgdplodglchaaaDoorGWords
import Derived.Test.YtlgdplodglchaaaDoorGPlain
import Derived.Test.YtlgdplodglchaaaDoorGPlain2
import Derived.Test.YtlgdplodglchaaaDoorChaRef
/- Plain laws of the permutation: nothing of the program. -/
set_option linter.unusedVariables false
namespace Go.Proofs.YtlgdplodglchaaaDoor

/-- A lane, turned k bits to the left. -/
def rotL (x k : Nat) : Nat := x % 2 ^ (64 - k) * 2 ^ k + x / 2 ^ (64 - k)
theorem rotL_lt {x k : Nat} (hx : x < 2 ^ 64) (hk : k ≤ 64) : rotL x k < 2 ^ 64 := by
  have h1 : (2 : Nat) ^ 64 = 2 ^ (64 - k) * 2 ^ k := by rw [← Nat.pow_add]; congr 1; omega
  have h2 : x / 2 ^ (64 - k) < 2 ^ k := by rw [Nat.div_lt_iff_lt_mul (Nat.two_pow_pos _), Nat.mul_comm, ← h1]; exact hx
  have h3 : x % 2 ^ (64 - k) < 2 ^ (64 - k) := Nat.mod_lt _ (Nat.two_pow_pos _)
  have h4 : x % 2 ^ (64 - k) * 2 ^ k ≤ (2 ^ (64 - k) - 1) * 2 ^ k := Nat.mul_le_mul_right _ (by omega)
  have h5 : (2 ^ (64 - k) - 1) * 2 ^ k + 2 ^ k = 2 ^ (64 - k) * 2 ^ k := by
    rw [← Nat.succ_mul]
    congr 1
    have := Nat.two_pow_pos (64 - k)
    omega
  unfold rotL
  omega
theorem rotL_shl {x k : Nat} (hk : k ≤ 64) : x * 2 ^ k % 2 ^ 64 = x % 2 ^ (64 - k) * 2 ^ k := by
  have h1 : (2 : Nat) ^ 64 = 2 ^ (64 - k) * 2 ^ k := by rw [← Nat.pow_add]; congr 1; omega
  rw [h1]
  exact Nat.mul_mod_mul_right _ _ _
/-- The turn as the machine reckons it: the two parts, or'd. -/
theorem rotL_bits {x k : Nat} (hx : x < 2 ^ 64) (hk : k ≤ 64) : bits .or .u64 ((x * 2 ^ k % 2 ^ 64 : Nat) : Int) ((x / 2 ^ (64 - k) : Nat) : Int) = ((rotL x k : Nat) : Int) := by
  have h1 : (2 : Nat) ^ 64 = 2 ^ (64 - k) * 2 ^ k := by rw [← Nat.pow_add]; congr 1; omega
  have h2 : x / 2 ^ (64 - k) < 2 ^ k := by rw [Nat.div_lt_iff_lt_mul (Nat.two_pow_pos _), Nat.mul_comm, ← h1]; exact hx
  have h6 : (2 : Nat) ^ k ≤ 2 ^ 64 := Nat.pow_le_pow_right (by decide) hk
  rw [rotL_shl hk]
  have hlt := rotL_lt hx hk
  unfold rotL at hlt ⊢
  rw [(bits_u (k := .u64) rfl _ _ (Nat.lt_of_le_of_lt (Nat.le_add_right _ _) hlt) (Nat.lt_of_lt_of_le h2 h6)).2.1]
  rw [Nat.mul_comm, ← Nat.two_pow_add_eq_or_of_lt h2]

/-! ### rows of lanes -/
def Lanes (l : List Nat) : Prop := ∀ x ∈ l, x < 2 ^ 64
theorem Lanes.getD {l : List Nat} (h : Lanes l) (i : Nat) : l.getD i 0 < 2 ^ 64 := by
  rw [List.getD_eq_getElem?_getD]
  rcases hi : l[i]? with _ | x
  · exact Nat.two_pow_pos 64
  · exact h x (List.mem_of_getElem? hi)
theorem Lanes.set {l : List Nat} (h : Lanes l) {n : Nat} (hn : n < 2 ^ 64) (i : Nat) : Lanes (l.set i n) := fun x hx => by
  rcases List.mem_or_eq_of_mem_set hx with hx | rfl
  · exact h x hx
  · exact hn
theorem Lanes.zeros (n : Nat) : Lanes (List.replicate n 0) := fun x hx => by rw [(List.mem_replicate.1 hx).2]; exact Nat.two_pow_pos 64
theorem Lanes.map {f : Nat → Nat} {n : Nat} (h : ∀ i, i < n → f i < 2 ^ 64) : Lanes ((List.range n).map f) := fun x hx => by
  obtain ⟨i, hi, rfl⟩ := List.mem_map.1 hx
  exact h i (List.mem_range.1 hi)
theorem xor64 {a b : Nat} (ha : a < 2 ^ 64) (hb : b < 2 ^ 64) : a ^^^ b < 2 ^ 64 := Nat.xor_lt_two_pow ha hb
theorem xor_u64 {a b : Nat} (ha : a < 2 ^ 64) (hb : b < 2 ^ 64) : bits .xor .u64 (a : Int) (b : Int) = ((a ^^^ b : Nat) : Int) := (bits_u (k := .u64) rfl a b ha hb).2.2
/-- The bits of a that b has not. -/
theorem andNot_sub {a b : Nat} (ha : a < 2 ^ 64) (hb : b < 2 ^ 64) : a &&& (2 ^ 64 - 1 - b) = a - (a &&& b) := by
  have h1 : (BitVec.ofNat 64 (a &&& b)) &&& (BitVec.ofNat 64 (a &&& (2 ^ 64 - 1 - b))) = 0#64 := by
    apply BitVec.eq_of_getLsbD_eq
    intro i hi
    have e : 2 ^ 64 - 1 - b = 2 ^ 64 - (b + 1) := by omega
    simp only [BitVec.getLsbD_and, BitVec.getLsbD_ofNat, Nat.testBit_and, e, Nat.testBit_two_pow_sub_succ hb]
    cases a.testBit i <;> cases b.testBit i <;> simp
  have h2 := BitVec.add_eq_or_of_and_eq_zero _ _ h1
  have h3 : (BitVec.ofNat 64 (a &&& b)) ||| (BitVec.ofNat 64 (a &&& (2 ^ 64 - 1 - b))) = BitVec.ofNat 64 a := by
    apply BitVec.eq_of_getLsbD_eq
    intro i hi
    have e : 2 ^ 64 - 1 - b = 2 ^ 64 - (b + 1) := by omega
    simp only [BitVec.getLsbD_or, BitVec.getLsbD_ofNat, Nat.testBit_and, e, Nat.testBit_two_pow_sub_succ hb]
    have : decide (i < 64) = true := by simpa using hi
    rw [this]
    cases a.testBit i <;> cases b.testBit i <;> simp
  rw [h3] at h2
  have h4 := congrArg BitVec.toNat h2
  have l1 : a &&& b ≤ a := Nat.and_le_left
  have l2 : a &&& (2 ^ 64 - 1 - b) ≤ a := Nat.and_le_left
  rw [BitVec.toNat_add, BitVec.toNat_ofNat, BitVec.toNat_ofNat, BitVec.toNat_ofNat, Nat.mod_eq_of_lt ha, Nat.mod_eq_of_lt (show a &&& b < 2 ^ 64 by omega), Nat.mod_eq_of_lt (show a &&& (2 ^ 64 - 1 - b) < 2 ^ 64 by omega)] at h4
  omega
theorem andNot_u64 {a b : Nat} (ha : a < 2 ^ 64) (hb : b < 2 ^ 64) : bits .andNot .u64 (a : Int) (b : Int) = ((a - (a &&& b) : Nat) : Int) := by
  rw [← andNot_sub ha hb]
  exact bits_andNot_u (k := .u64) rfl a b ha hb
/-- A row on its way: the first i are what f says, the others as they were. -/
def upto (f : Nat → Nat) (l : List Nat) (i : Nat) : List Nat := (List.range l.length).map fun j => if j < i then f j else l.getD j 0
theorem upto_length (f : Nat → Nat) (l : List Nat) (i : Nat) : (upto f l i).length = l.length := by simp [upto]
theorem upto_getD (f : Nat → Nat) (l : List Nat) (i j : Nat) (hj : j < l.length) : (upto f l i).getD j 0 = if j < i then f j else l.getD j 0 := by
  simp [upto, List.getD_eq_getElem?_getD, hj]
theorem upto_old (f : Nat → Nat) (l : List Nat) (i j : Nat) (hj : i ≤ j) : (upto f l i).getD j 0 = l.getD j 0 := by
  by_cases h : j < l.length
  · rw [upto_getD f l i j h, if_neg (by omega)]
  · simp only [List.getD_eq_getElem?_getD]
    rw [List.getElem?_eq_none (by rw [upto_length]; omega), List.getElem?_eq_none (by omega)]
theorem upto_zero (f : Nat → Nat) (l : List Nat) : upto f l 0 = l := by
  apply List.ext_getElem?
  intro j
  by_cases h : j < l.length
  · simp [upto, h, List.getD_eq_getElem?_getD]
  · rw [List.getElem?_eq_none (by rw [upto_length]; omega), List.getElem?_eq_none (by omega)]
theorem upto_all (f : Nat → Nat) (l : List Nat) (n : Nat) (hn : l.length = n) : upto f l n = (List.range n).map f := by
  subst hn
  unfold upto
  refine List.map_congr_left fun j hj => ?_
  rw [if_pos (List.mem_range.1 hj)]
theorem upto_succ (f : Nat → Nat) (l : List Nat) (i x : Nat) (hi : i < l.length) (hx : x = f i) : (upto f l i).set i x = upto f l (i + 1) := by
  subst hx
  apply List.ext_getElem?
  intro j
  rw [List.getElem?_set]
  by_cases h : i = j
  · subst h
    simp [upto, hi]
  · rw [if_neg h]
    by_cases h2 : j < l.length
    · simp only [upto, List.getElem?_map, List.getElem?_range h2, Option.map_some]
      congr 1
      by_cases h3 : j < i
      · rw [if_pos h3, if_pos (by omega)]
      · rw [if_neg h3, if_neg (by omega)]
    · rw [List.getElem?_eq_none (by rw [upto_length]; omega), List.getElem?_eq_none (by rw [upto_length]; omega)]
/-! ### the permutation -/
def kecT : List Nat := [0, 1, 62, 28, 27, 36, 44, 6, 55, 20, 3, 10, 43, 25, 39, 41, 45, 15, 21, 8, 18, 2, 61, 56, 14]
def kecC : List Nat := [0x0000000000000001, 0x0000000000008082, 0x800000000000808a, 0x8000000080008000,
 0x000000000000808b, 0x0000000080000001, 0x8000000080008081, 0x8000000000008009,
 0x000000000000008a, 0x0000000000000088, 0x0000000080008009, 0x000000008000000a,
 0x000000008000808b, 0x800000000000008b, 0x8000000000008089, 0x8000000000008003,
 0x8000000000008002, 0x8000000000000080, 0x000000000000800a, 0x800000008000000a,
 0x8000000080008081, 0x8000000000008080, 0x0000000080000001, 0x8000000080008008]
def colF (a : List Nat) (x : Nat) : Nat := a.getD x 0 ^^^ a.getD (x + 5) 0 ^^^ a.getD (x + 10) 0 ^^^ a.getD (x + 15) 0 ^^^ a.getD (x + 20) 0
def thetaF (a : List Nat) (i : Nat) : Nat := a.getD i 0 ^^^ (colF a ((i % 5 + 4) % 5) ^^^ rotL (colF a ((i % 5 + 1) % 5)) 1)
def thetaN (a : List Nat) : List Nat := (List.range 25).map (thetaF a)
def rhoF (a : List Nat) (i : Nat) : Nat := rotL (a.getD i 0) (kecT.getD i 0)
def rhoN (a : List Nat) : List Nat := (List.range 25).map (rhoF a)
def piF (a : List Nat) (i : Nat) : Nat := a.getD ((i % 5 + 3 * (i / 5)) % 5 + 5 * (i % 5)) 0
def piN (a : List Nat) : List Nat := (List.range 25).map (piF a)
def farF (a : List Nat) (i : Nat) : Nat := a.getD (i - i % 5 + (i % 5 + 2) % 5) 0
def nearF (a : List Nat) (i : Nat) : Nat := a.getD (i - i % 5 + (i % 5 + 1) % 5) 0
def chiF (a : List Nat) (i : Nat) : Nat := a.getD i 0 ^^^ (farF a i - (farF a i &&& nearF a i))
def chiN (a : List Nat) : List Nat := (List.range 25).map (chiF a)
def iotaN (a : List Nat) (r : Nat) : List Nat := a.set 0 (a.getD 0 0 ^^^ kecC.getD r 0)
def roundN (a : List Nat) (r : Nat) : List Nat := iotaN (chiN (piN (rhoN (thetaN a)))) r
def roundsN (a : List Nat) : Nat → List Nat
  | 0 => a
  | n + 1 => roundN (roundsN a n) n
def kecN (a : List Nat) : List Nat := roundsN a 24
theorem colF_lt {a : List Nat} (h : Lanes a) (x : Nat) : colF a x < 2 ^ 64 := xor64 (xor64 (xor64 (xor64 (h.getD _) (h.getD _)) (h.getD _)) (h.getD _)) (h.getD _)
theorem thetaF_lt {a : List Nat} (h : Lanes a) (i : Nat) : thetaF a i < 2 ^ 64 := xor64 (h.getD _) (xor64 (colF_lt h _) (rotL_lt (colF_lt h _) (by decide)))
theorem kecT_lt (i : Nat) : kecT.getD i 0 < 64 := by
  by_cases h : i < 25
  · have : ∀ i, i < 25 → kecT.getD i 0 < 64 := by decide
    exact this i h
  · rw [List.getD_eq_getElem?_getD, List.getElem?_eq_none (show kecT.length ≤ i from by show 25 ≤ i; omega)]
    decide
theorem kecC_lt (i : Nat) : kecC.getD i 0 < 2 ^ 64 := by
  have : Lanes kecC := by unfold Lanes; decide
  exact this.getD i
theorem rhoF_lt {a : List Nat} (h : Lanes a) (i : Nat) : rhoF a i < 2 ^ 64 := rotL_lt (h.getD _) (Nat.le_of_lt (kecT_lt i))
theorem piF_lt {a : List Nat} (h : Lanes a) (i : Nat) : piF a i < 2 ^ 64 := h.getD _
theorem chiF_lt {a : List Nat} (h : Lanes a) (i : Nat) : chiF a i < 2 ^ 64 := xor64 (h.getD _) (Nat.lt_of_le_of_lt (Nat.sub_le _ _) (h.getD _))
theorem thetaN_ok {a : List Nat} (h : Lanes a) : Lanes (thetaN a) := Lanes.map fun i _ => thetaF_lt h i
theorem rhoN_ok {a : List Nat} (h : Lanes a) : Lanes (rhoN a) := Lanes.map fun i _ => rhoF_lt h i
theorem piN_ok {a : List Nat} (h : Lanes a) : Lanes (piN a) := Lanes.map fun i _ => piF_lt h i
theorem chiN_ok {a : List Nat} (h : Lanes a) : Lanes (chiN a) := Lanes.map fun i _ => chiF_lt h i
theorem iotaN_ok {a : List Nat} (h : Lanes a) (r : Nat) : Lanes (iotaN a r) := h.set (xor64 (h.getD _) (kecC_lt r)) 0
theorem roundN_ok {a : List Nat} (h : Lanes a) (r : Nat) : Lanes (roundN a r) := iotaN_ok (chiN_ok (piN_ok (rhoN_ok (thetaN_ok h)))) r
theorem roundsN_ok {a : List Nat} (h : Lanes a) (n : Nat) : Lanes (roundsN a n) := by
  induction n with
  | zero => exact h
  | succ n ih => exact roundN_ok ih n
theorem kecN_ok {a : List Nat} (h : Lanes a) : Lanes (kecN a) := roundsN_ok h 24
theorem thetaN_length (a : List Nat) : (thetaN a).length = 25 := by simp [thetaN]
theorem rhoN_length (a : List Nat) : (rhoN a).length = 25 := by simp [rhoN]
theorem piN_length (a : List Nat) : (piN a).length = 25 := by simp [piN]
theorem chiN_length (a : List Nat) : (chiN a).length = 25 := by simp [chiN]
theorem iotaN_length (a : List Nat) (r : Nat) : (iotaN a r).length = a.length := by simp [iotaN]
theorem roundN_length (a : List Nat) (r : Nat) : (roundN a r).length = 25 := by rw [roundN, iotaN_length, chiN_length]
theorem roundsN_length {a : List Nat} (h : a.length = 25) (n : Nat) : (roundsN a n).length = 25 := by
  cases n with
  | zero => exact h
  | succ n => exact roundN_length _ _
theorem kecN_length {a : List Nat} (h : a.length = 25) : (kecN a).length = 25 := roundsN_length h 24
/-! ### the same, turned and moved at once -/
/-! ### a run, reckoned -/
end Go.Proofs.YtlgdplodglchaaaDoor
/- A slice of unsigned whole numbers that came in. Over any program. -/
set_option linter.unusedVariables false
namespace Go.Proofs.YtlgdplodglchaaaDoor
open Go.RowKit Go.Proofs.YtlgdplodglchaaaDoorW.PrintWords Go.Proofs.YtlgdplodglchaaaDoorW.PrintLast Go.Proofs.YtlgdplodglchaaaDoorW.PrintMore
/-- A slice of numbers: its cells; all are numbers of 64 bits. -/
def NRow (w : World) (A : Option Addr) (n c : Nat) (l : List Nat) : Prop := RowK .u64 w A l ∧ l.length = n ∧ n ≤ c ∧ ∀ x ∈ l, x < 2 ^ 64
theorem NRow.below {w w1 : World} {A : Option Addr} {n c : Nat} {l : List Nat} (h : NRow w A n c l) (hb : Below w.heap.size w w1) : NRow w1 A n c l := ⟨h.1.below hb, h.2⟩
theorem NRow.nil (w : World) (A : Option Addr) (c : Nat) : NRow w A 0 c [] := ⟨RowK.nil _ _ _, rfl, Nat.zero_le _, fun x h => by cases h⟩
theorem NRow.of_cells {w : World} {x : Addr} {len cap : Nat} {zs : List Int} (hl : len ≤ cap) (hz : zs.length = cap) (hcell : ∀ i, i < zs.length → w.cell? (x.add i) = some (.int .u64 (zs.getD i 0))) (hwz : ∀ n ∈ zs, (Lit.int .u64 n).wf = true) (hm : cap ≤ maxLen) :
    NRow w (some x) len cap ((zs.take len).map Int.toNat) := by
  have hr : ∀ n ∈ zs, 0 ≤ n ∧ n < 18446744073709551616 := fun n hn => by
    have := hwz n hn
    simp [Lit.wf, IntKind.min, IntKind.max, IntKind.signed, IntKind.bits] at this
    omega
  have hlen : ((zs.take len).map Int.toNat).length = len := by rw [List.length_map, List.length_take]; omega
  unfold maxLen at hm
  refine ⟨RowK.of_at (by omega) (fun i hi => ?_), hlen, hl, fun y hy => ?_⟩
  · rw [hcell i (by omega)]
    have hi2 : i < len := by omega
    have h0 := (hr (zs[i]'(by omega)) (List.getElem_mem _)).1
    simp [List.getD_eq_getElem?_getD, hi2, List.getElem?_eq_getElem (show i < zs.length by omega)]
    omega
  · obtain ⟨n, hn, rfl⟩ := List.mem_map.1 hy
    have := hr n (List.mem_of_mem_take hn)
    omega
theorem NRow.at_ {w : World} {A : Option Addr} {n c : Nat} {l : List Nat} (h : NRow w A n c l) (i : Nat) (hi : i < n) : ∃ (ad : Addr) (x : Nat), A = some ad ∧ w.cell? (ad.add i) = some (.int .u64 (x : Int)) ∧ x < 2 ^ 64 := by
  obtain ⟨h1, h2, h3, h4⟩ := h
  obtain ⟨ad, x, e, ex, hc⟩ := h1.at_ i (by omega)
  refine ⟨ad, x, e, hc, ?_⟩
  rw [← ex.out, List.getD_eq_getElem?_getD, List.getElem?_eq_getElem (show i < l.length by omega)]
  exact h4 _ (List.getElem_mem _)
end Go.Proofs.YtlgdplodglchaaaDoor
/- Plain laws of the sum and of the keys made of it: nothing of the program. -/
set_option linter.unusedVariables false
namespace Go.Proofs.YtlgdplodglchaaaDoor

theorem upto_rest {f : Nat → Nat} {l : List Nat} {i : Nat} (h : ∀ j, i ≤ j → j < l.length → f j = l.getD j 0) : upto f l i = (List.range l.length).map f := by
  unfold upto
  refine List.map_congr_left fun j hj => ?_
  split
  · rfl
  · exact (h j (by omega) (List.mem_range.1 hj)).symm
/-! ### a state's bytes -/
def bytesN (a : List Nat) : List Nat := a.flatMap fun x => storeN x 8
theorem bytesN_length (a : List Nat) : (bytesN a).length = 8 * a.length := by
  induction a with
  | nil => rfl
  | cons x a ih => rw [bytesN, List.flatMap_cons, List.length_append, storeN_length]; rw [bytesN] at ih; rw [ih, List.length_cons]; omega
theorem bytesN_ok (a : List Nat) : BytesOK (bytesN a) := fun x hx => by
  obtain ⟨y, _, hy⟩ := List.mem_flatMap.1 hx
  exact storeN_ok 8 y x hy
theorem bytesN_snoc (a : List Nat) (x : Nat) : bytesN (a ++ [x]) = bytesN a ++ storeN x 8 := by simp [bytesN]
theorem load8_lt {s : List Nat} (h : BytesOK s) (i : Nat) : loadN ((s.drop i).take 8) < 2 ^ 64 := by
  have h1 := loadN_lt ((h.drop i).take 8)
  have h2 : ((s.drop i).take 8).length ≤ 8 := by rw [List.length_take]; omega
  have h3 : (256 : Nat) ^ ((s.drop i).take 8).length ≤ 256 ^ 8 := Nat.pow_le_pow_right (by decide) h2
  have h4 : (256 : Nat) ^ 8 = 2 ^ 64 := by decide
  omega
/-- Bytes laid over a state's first ones. -/
def layF (a b : List Nat) (i : Nat) : Nat := a.getD i 0 ^^^ loadN ((b.drop (8 * i)).take 8)
def layN (a b : List Nat) : List Nat := (List.range 25).map (layF a b)
theorem layF_lt {a b : List Nat} (ha : Lanes a) (hb : BytesOK b) (i : Nat) : layF a b i < 2 ^ 64 := xor64 (ha.getD i) (load8_lt hb _)
theorem layN_ok {a b : List Nat} (ha : Lanes a) (hb : BytesOK b) : Lanes (layN a b) := Lanes.map fun i _ => layF_lt ha hb i
theorem layN_length (a b : List Nat) : (layN a b).length = 25 := by simp [layN]
theorem layF_rest {a b : List Nat} {i : Nat} (hi : b.length ≤ 8 * i) : layF a b i = a.getD i 0 := by
  rw [layF, List.drop_eq_nil_of_le hi]
  simp [loadN]
theorem lay_upto {a b : List Nat} (ha : a.length = 25) : upto (layF a b) a ((b.length + 7) / 8) = layN a b := by
  rw [upto_rest (fun j hj _ => layF_rest (by omega)), ha]
  rfl
/-! ### what is taken in -/
/-- The last block: what is left, the suffix, zeros, the last bit. -/
def lastN (rate suf : Nat) (b : List Nat) : List Nat :=
  let l := (b ++ List.replicate (rate - b.length) 0)
  let m := l.set b.length (l.getD b.length 0 ^^^ suf)
  m.set (rate - 1) (m.getD (rate - 1) 0 ^^^ 128)
def blocksN (rate : Nat) (b : List Nat) : Nat → List Nat
  | 0 => List.replicate 25 0
  | n + 1 => kecN (layN (blocksN rate b n) ((b.drop (rate * n)).take rate))
def absN (rate suf : Nat) (b : List Nat) : List Nat := kecN (layN (blocksN rate b (b.length / rate)) (lastN rate suf (b.drop (rate * (b.length / rate)))))
theorem blocksN_ok {rate : Nat} {b : List Nat} (hb : BytesOK b) (n : Nat) : Lanes (blocksN rate b n) := by
  induction n with
  | zero => exact Lanes.zeros 25
  | succ n ih => exact kecN_ok (layN_ok ih ((hb.drop _).take _))
theorem blocksN_length (rate : Nat) (b : List Nat) (n : Nat) : (blocksN rate b n).length = 25 := by
  cases n with
  | zero => simp [blocksN]
  | succ n => exact kecN_length (layN_length _ _)
theorem lastN_ok {rate suf : Nat} {b : List Nat} (hs : suf < 256) (hb : BytesOK b) : BytesOK (lastN rate suf b) := by
  have h0 : BytesOK (b ++ List.replicate (rate - b.length) 0) := hb.append (BytesOK.replicate (by decide))
  have h1 := h0.set (xor_lt (h0.getD b.length) hs) b.length
  exact h1.set (xor_lt (h1.getD (rate - 1)) (by decide)) (rate - 1)
theorem absN_ok {rate suf : Nat} {b : List Nat} (hb : BytesOK b) (hs : suf < 256) : Lanes (absN rate suf b) := kecN_ok (layN_ok (blocksN_ok hb _) (lastN_ok hs (hb.drop _)))
theorem absN_length (rate suf : Nat) (b : List Nat) : (absN rate suf b).length = 25 := kecN_length (layN_length _ _)
def sumN (b : List Nat) : List Nat := (bytesN (absN 136 6 b)).take 32
theorem sumN_length (b : List Nat) : (sumN b).length = 32 := by rw [sumN, List.length_take, bytesN_length, absN_length]; rfl
theorem sumN_ok (b : List Nat) : BytesOK (sumN b) := (bytesN_ok _).take 32
/-! ### the code and the keys -/
/-- The key, as long as a block. -/
def keyN (key : List Nat) : List Nat := let k := if 136 < key.length then sumN key else key; k ++ List.replicate (136 - k.length) 0
def macN (key b : List Nat) : List Nat := sumN ((keyN key).map (· ^^^ 92) ++ sumN ((keyN key).map (· ^^^ 54) ++ b))
def threeA (ck i : List Nat) : List Nat := macN (macN ck i) [1]
def threeB (ck i : List Nat) : List Nat := macN (macN ck i) (threeA ck i ++ [2])
def threeC (ck i : List Nat) : List Nat := macN (macN ck i) (threeB ck i ++ [3])
theorem keyN_length (key : List Nat) : (keyN key).length = 136 := by
  unfold keyN
  dsimp only
  split
  · rw [List.length_append, sumN_length]; simp
  · rw [List.length_append, List.length_replicate]; omega
theorem keyN_ok {key : List Nat} (h : BytesOK key) : BytesOK (keyN key) := by
  unfold keyN
  dsimp only
  split
  · exact (sumN_ok _).append (BytesOK.replicate (by decide))
  · exact h.append (BytesOK.replicate (by decide))
theorem macN_length (key b : List Nat) : (macN key b).length = 32 := sumN_length _
theorem macN_ok (key b : List Nat) : BytesOK (macN key b) := sumN_ok _
theorem threeA_length (ck i : List Nat) : (threeA ck i).length = 32 := sumN_length _
theorem threeB_length (ck i : List Nat) : (threeB ck i).length = 32 := sumN_length _
theorem threeC_length (ck i : List Nat) : (threeC ck i).length = 32 := sumN_length _
theorem threeA_ok (ck i : List Nat) : BytesOK (threeA ck i) := sumN_ok _
theorem threeB_ok (ck i : List Nat) : BytesOK (threeB ck i) := sumN_ok _
theorem threeC_ok (ck i : List Nat) : BytesOK (threeC ck i) := sumN_ok _
end Go.Proofs.YtlgdplodglchaaaDoor
/- A struct stored in a block, whole or in a part of it. Over any program. -/
set_option linter.unusedVariables false
set_option linter.unusedSimpArgs false
namespace Go.Proofs.YtlgdplodglchaaaDoor
open Go.RowKit Go.Proofs.YtlgdplodglchaaaDoorW.PrintWords Go.Proofs.YtlgdplodglchaaaDoorW.PrintLast Go.Proofs.YtlgdplodglchaaaDoorW.PrintMore
def patchL (cur : Array Value) (k : Nat) (vs : List Value) : Array Value := (cur.toList.take k ++ vs ++ cur.toList.drop (k + vs.length)).toArray
theorem patchL_step (cur : Array Value) (k : Nat) (v : Value) (vs : List Value) (h : k < cur.size) : patchL (cur.setIfInBounds k v) (k + 1) vs = patchL cur k (v :: vs) := by
  unfold patchL
  congr 1
  have e1 : (cur.setIfInBounds k v).toList.take (k + 1) = cur.toList.take k ++ [v] := by
    rw [Array.toList_setIfInBounds, List.take_add_one, List.take_set_of_le (Nat.le_refl _)]
    simp [List.getElem?_set, h]
  have e2 : (cur.setIfInBounds k v).toList.drop (k + 1 + vs.length) = cur.toList.drop (k + (v :: vs).length) := by
    rw [Array.toList_setIfInBounds, List.drop_set_of_lt (by omega)]
    congr 1
    simp
    omega
  rw [e1, e2]
  simp
section
variable {P : Program} {ops : Array Oper} {rest : List Oper} {o : Oper} {a : Act} {Q : Exit → Act → World → Prop} {W : World}
theorem setRow_self {w : World} {g : Nat} {cur : Array Value} {t : TypeId} {fr : Nat × Nat} (hg : w.heap[g]? = some (.cells cur t fr)) : w.setRow g cur = w := by
  have hlt : g < w.heap.size := (Array.getElem?_eq_some_iff.1 hg).1
  have hv : w.heap[g] = .cells cur t fr := (Array.getElem?_eq_some_iff.1 hg).2
  unfold World.setRow
  cases w with
  | mk heap tape drawn os output =>
    congr 1
    apply Array.ext
    · simp
    · intro j h1 h2
      rw [Array.getElem_modify]
      split
      · rename_i e
        subst e
        simp only at hv
        rw [hv]
      · rfl
theorem run_storeCells_at (g off : Nat) (t : TypeId) : ∀ (vs : List Value) (i : Nat) (cur : Array Value) (w : World), w.heap[g]? = some (.cells cur t (0, 0)) → off + i + vs.length ≤ cur.size → (∀ v ∈ vs, v.oneCell' = true) →
    (storeCells ⟨g, off, none⟩ vs i).run P w = .ok () (w.setRow g (patchL cur (off + i) vs))
  | [], i, cur, w, hg, hl, _ => by
    have e : patchL cur (off + i) [] = cur := by
      apply Array.toList_inj.1
      simp [patchL, List.take_append_drop]
    rw [e, setRow_self hg]
    rfl
  | v :: vs, i, cur, w, hg, hl, h1 => by
    have hlen : off + i + (vs.length + 1) ≤ cur.size := hl
    have hadd : (⟨g, off, none⟩ : Addr).add i = ⟨g, off + i, none⟩ := by unfold Addr.add; split <;> simp_all
    have hcell : w.cell? ⟨g, off + i, none⟩ = some (cur[off + i]'(by omega)) := by simp [World.cell?, hg]
    have hfro := frozen_of_row w g (off + i) cur t hg
    have hst : (store ((⟨g, off, none⟩ : Addr).add i) v).run P w = .ok () (w.setRow g (cur.setIfInBounds (off + i) v)) := by
      rw [hadd, run_store P w _ v _ (h1 v (by simp)), hcell]
      simp [hfro, setCell_eq_setRow w g (off + i) cur t (0, 0) v hg]
    have ih := run_storeCells_at g off t vs (i + 1) (cur.setIfInBounds (off + i) v) (w.setRow g (cur.setIfInBounds (off + i) v)) (setRow_heap w g cur _ t _ hg) (by simp; omega) (fun x hx => h1 x (List.mem_cons_of_mem _ hx))
    rw [show off + (i + 1) = off + i + 1 by omega, patchL_step cur (off + i) v vs (by omega)] at ih
    simp only [storeCells, Sem.run_bind, hst, Result.andThen_ok, ih, setRow_setRow]
theorem run_storeVar_at (w : World) (g off : Nat) (t ty : TypeId) (old cells : Array Value) (hg : w.heap[g]? = some (.cells old t (0, 0))) (hi : (P.info? ty).map (·.size) = some cells.size)
    (ho : off + cells.size ≤ old.size) (h1 : cells.all (·.oneCell') = true) :
    (storeVar ty ⟨g, off, none⟩ (.agg cells)).run P w = .ok () (w.setRow g (patchL old off cells.toList)) := by
  have := run_storeCells_at (P := P) g off t cells.toList 0 old w hg (by simp; omega) (fun v hv => (Array.all_eq_true_iff_forall_mem.1 h1) v (by simpa using hv))
  rw [Nat.add_zero] at this
  cases hq : P.info? ty with
  | none => simp [hq] at hi
  | some i =>
    have hs : cells.size = i.size := by simp [hq] at hi; omega
    simp [storeVar, sizeOf, typeInfo, hq, Value.cells, hs, this]
theorem Mod.setRow {S : Nat → Prop} (w : World) {g : Nat} (hg : S g) (cs : Array Value) : Mod S w (w.setRow g cs) :=
  ⟨rfl, rfl, rfl, by simp, fun k _ hn => setRow_other w g k cs (fun (e : k = g) => hn (e ▸ hg))⟩
theorem run_storeSt (ty : TypeId) (x y : Operand) (ho : o.op = .store ty x y) (g off : Nat) (cells old new : Array Value) (hx : a.eval x = .pointer (some ⟨g, off, none⟩)) (hy : a.eval y = .agg cells) (t : TypeId) (hg : W.heap[g]? = some (.cells old t (0, 0)))
    (hi : (P.info? ty).map (·.size) = some cells.size) (hle : off + cells.size ≤ old.size) (h1 : cells.all (·.oneCell') = true) (hn : patchL old off cells.toList = new) : (execOp a.eval o).run P W = .ok .skip (W.setRow g new) := by
  subst hn
  unfold execOp
  simp only [ho, hx, hy, Instr.storeAt, Instr.sureAddr, Sem.run_bind, Sem.run_pure, Result.andThen_ok, run_storeVar_at W g off t ty old cells hg hi hle h1]
/-- The store of a struct, whole or a part of a block. -/
theorem op_storeSt (hd : o.dst = none) (hgd : o.guard = none) (ty : TypeId) (x y : Operand) (ho : o.op = .store ty x y) (g off : Nat) (cells old new : Array Value) (hx : a.eval x = .pointer (some ⟨g, off, none⟩)) (hy : a.eval y = .agg cells) (t : TypeId) (hg : W.heap[g]? = some (.cells old t (0, 0)))
    (hi : (P.info? ty).map (·.size) = some cells.size) (hle : off + cells.size ≤ old.size) (h1 : cells.all (·.oneCell') = true) (hn : patchL old off cells.toList = new)
    (h : ∀ W1, W1.heap[g]? = some (.cells new t (0, 0)) → Mod (fun k => k = g) W W1 → wpList P ops Q rest a W1) : wpList P ops Q (o :: rest) a W := by
  subst hn
  refine wpList_plain hgd fun K hK => ?_
  unfold Oper.wp execOp
  simp only [ho, hx, hy, Instr.storeAt, Instr.sureAddr, Sem.run_bind, Sem.run_pure, Result.andThen_ok, run_storeVar_at W g off t ty old cells hg hi hle h1]
  have h2 := hK _ _ (h _ (setRow_heap W g old _ t _ hg) (Mod.setRow (S := fun k => k = g) W rfl _))
  show K (a.put o.dst undef) _
  rw [hd]
  exact h2
/-- .. in a region that draws. -/
theorem uq_storeSt {ds : List Nat} {R : World → World → Prop} {C : Act → World → Prop} {i : Nat} (hio : ops[i]? = some o) (hd : o.dst = none) (hw : Region.wanted o (yielded ops a.tmps) = true) (ty : TypeId) (x y : Operand) (ho : o.op = .store ty x y) (g off : Nat) (cells old new : Array Value) (hx : a.eval x = .pointer (some ⟨g, off, none⟩)) (hy : a.eval y = .agg cells) (t : TypeId) (hg : W.heap[g]? = some (.cells old t (0, 0)))
    (hi : (P.info? ty).map (·.size) = some cells.size) (hle : off + cells.size ≤ old.size) (h1 : cells.all (·.oneCell') = true) (hn : patchL old off cells.toList = new)
    (h : ∀ W1, W1.heap[g]? = some (.cells new t (0, 0)) → Mod (fun k => k = g) W W1 → ((i ∉ ds → Grow W W1) ∧ R W W1) ∧ C a W1) : wpOp P ops Q i (fun a' w' => ((i ∉ ds → Grow W w') ∧ R W w') ∧ C a' w') a W := by
  obtain ⟨h2, h3⟩ := h _ (setRow_heap W g old _ t _ hg) (Mod.setRow (S := fun k => k = g) W rfl _)
  exact uq_skip hio hd hw (run_storeSt ty x y ho g off cells old new hx hy t hg hi hle h1 hn) h2 (hn ▸ h3)
end
end Go.Proofs.YtlgdplodglchaaaDoor
/- A row of slices of bytes that grows: each is bytes of their own, or bytes that came in. -/
set_option linter.unusedVariables false
set_option linter.unusedSimpArgs false
namespace Go.Proofs.YtlgdplodglchaaaDoor
open Go.RowKit Go.Proofs.YtlgdplodglchaaaDoorW.PrintWords Go.Proofs.YtlgdplodglchaaaDoorW.PrintLast Go.Proofs.YtlgdplodglchaaaDoorW.PrintMore
def KSl : Kd (Option Addr × Nat × Nat) := Kd.scalar (fun x => Value.slice x.1 x.2.1 x.2.2) (fun _ => rfl)
def SRow (base : Nat) (w : World) (v : Value) (ss : List (Option Addr × Nat × Nat)) : Prop := KSl.R 40 w base (fun _ => True) v ss
section
variable {ops : Array Oper} {rest : List Oper} {o : Oper} {a : Act} {Q : Exit → Act → World → Prop} {Kc : Act → World → Prop}
end
theorem heap_type {w : World} {k t t' : Nat} {c c' : Array Value} {f f' : Nat × Nat} (h : w.heap[k]? = some (.cells c t f)) (h' : w.heap[k]? = some (.cells c' t' f')) : t = t' := by
  rw [h] at h'
  injection h' with h'
  injection h' with _ h' _
/-- A row's own block has its elements' type. -/
theorem R_typed {α : Type} {d : Kd α} {e base : Nat} {w : World} {ok : Nat → Prop} {v : Value} {xs : List α} (h : d.R e w base ok v xs) (k : Nat) (hk : v.ownBlock = some k) : ∃ cells, w.heap[k]? = some (.cells cells e (0, 0)) := by
  obtain ⟨_, inner, ho, _⟩ := h
  exact own_typed ho k hk
theorem R_apart {α : Type} {d : Kd α} {e e' base : Nat} {w : World} {ok : Nat → Prop} {v : Value} {xs : List α} (h : d.R e w base ok v xs) (hne : e ≠ e') : Apart e' w (fun k => v.ownBlock = some k) := fun k cells hk e1 => by
  obtain ⟨c', hc⟩ := R_typed h k e1
  exact hne (heap_type hc hk)
theorem R_not {α : Type} {d : Kd α} {e t base k : Nat} {w : World} {ok : Nat → Prop} {v : Value} {xs : List α} {cs : Array Value} {f : Nat × Nat} (h : d.R e w base ok v xs) (hk : w.heap[k]? = some (.cells cs t f)) (hne : e ≠ t) : ¬ v.ownBlock = some k := fun e1 => by
  obtain ⟨c', hc⟩ := R_typed h k e1
  exact hne (heap_type hc hk)
/-- One slice: bytes of their own, or bytes that lay there before. -/
def Box (W w : World) (s : Option Addr × Nat × Nat) (l : List Nat) : Prop :=
  BytesOK l ∧ l.length ≤ 100000000 ∧ (OwnK .u8 5 W.heap.size w (.slice s.1 s.2.1 s.2.2) l ∨ Bytes W s.1 s.2.1 s.2.2 l)
theorem Box.bytes {W w : World} {s : Option Addr × Nat × Nat} {l : List Nat} (h : Box W w s l) (hb : Below W.heap.size W w) : Bytes w s.1 s.2.1 s.2.2 l := by
  rcases h.2.2 with h1 | h1
  · exact own_bytes h1 h.1
  · exact h1.below hb
theorem Box.mod {W w w1 : World} {S : Nat → Prop} {s : Option Addr × Nat × Nat} {l : List Nat} (h : Box W w s l) (hm : Mod S w w1) (ha : Apart 5 w S) : Box W w1 s l :=
  ⟨h.1, h.2.1, h.2.2.imp (fun h1 => h1.mod hm ha) id⟩
theorem Box.len {W w : World} {s : Option Addr × Nat × Nat} {l : List Nat} (h : Box W w s l) (hb : Below W.heap.size W w) : s.2.1 = l.length := (h.bytes hb).2.1.symm
theorem Box.own {W w : World} {A : Option Addr} {n c : Nat} {l : List Nat} (h : OwnK .u8 5 W.heap.size w (.slice A n c) l) (hb : BytesOK l) (hl : l.length ≤ 100000000) : Box W w (A, n, c) l := ⟨hb, hl, Or.inl h⟩
theorem Box.old {W w : World} {A : Option Addr} {n c : Nat} {l : List Nat} (h : Bytes W A n c l) (hl : l.length ≤ 100000000) : Box W w (A, n, c) l := ⟨h.ok, hl, Or.inr h⟩
/-- The row. -/
def BoxIn (W w : World) (v : Value) (ls : List (List Nat)) : Prop :=
  ∃ ss, SRow W.heap.size w v ss ∧ ss.length = ls.length ∧ ∀ i, i < ls.length → Box W w (ss.getD i (none, 0, 0)) (ls.getD i [])
theorem BoxIn.mod {W w w1 : World} {S : Nat → Prop} {v : Value} {ls : List (List Nat)} (h : BoxIn W w v ls) (hm : Mod S w w1) (ha : Apart 5 w S) (ha2 : Apart 40 w S) : BoxIn W w1 v ls := by
  obtain ⟨ss, h1, h2, h3⟩ := h
  exact ⟨ss, Kd_mod h1 hm rfl ha2, h2, fun i hi => (h3 i hi).mod hm ha⟩
theorem BoxIn.below {W w w1 : World} {v : Value} {ls : List (List Nat)} (h : BoxIn W w v ls) (hb : Below w.heap.size w w1) : BoxIn W w1 v ls := h.mod (S := fun _ => False) (Mod.below hb) (fun _ _ _ h => h) (fun _ _ _ h => h)
theorem BoxIn.nil (W w : World) : BoxIn W w (.slice none 0 0) [] := ⟨[], Kd.R_nil _ _ _ _ _, rfl, fun i hi => absurd hi (by simp)⟩
/-- Behind an append. -/
theorem BoxIn.snoc {W w w1 : World} {v v1 : Value} {ls : List (List Nat)} {l : List Nat} {ss : List (Option Addr × Nat × Nat)} {s : Option Addr × Nat × Nat} (h1 : SRow W.heap.size w v ss) (h2 : ss.length = ls.length) (h3 : ∀ i, i < ls.length → Box W w (ss.getD i (none, 0, 0)) (ls.getD i [])) (hs : Box W w s l)
    (hr : SRow W.heap.size w1 v1 (ss ++ [s])) (hg : w.grownBy w1 v.ownBlock) : BoxIn W w1 v1 (ls ++ [l]) := by
  have hm : Mod (fun k => v.ownBlock = some k) w w1 := Mod.grown hg (fun k hk => hk)
  have ha : Apart 5 w (fun k => v.ownBlock = some k) := R_apart h1 (by decide)
  refine ⟨_, hr, by simp [h2], fun i hi => ?_⟩
  by_cases hlt : i < ls.length
  · have e1 : (ss ++ [s]).getD i (none, 0, 0) = ss.getD i (none, 0, 0) := by
      rw [List.getD_eq_getElem?_getD, List.getElem?_append_left (by omega), ← List.getD_eq_getElem?_getD]
    have e2 : (ls ++ [l]).getD i [] = ls.getD i [] := by
      rw [List.getD_eq_getElem?_getD, List.getElem?_append_left hlt, ← List.getD_eq_getElem?_getD]
    rw [e1, e2]
    exact (h3 i hlt).mod hm ha
  · obtain rfl : i = ls.length := by simp at hi; omega
    have e1 : (ss ++ [s]).getD ls.length (none, 0, 0) = s := by simp [List.getD_eq_getElem?_getD, ← h2]
    have e2 : (ls ++ [l]).getD ls.length [] = l := by simp [List.getD_eq_getElem?_getD]
    rw [e1, e2]
    exact hs.mod hm ha
theorem BoxIn.form {W w : World} {v : Value} {ls : List (List Nat)} (h : BoxIn W w v ls) : ∃ A c, v = .slice A ls.length c ∧ ls.length ≤ c := by
  obtain ⟨ss, h1, h2, h3⟩ := h
  obtain ⟨A, c, rfl, hl, _⟩ := Kd.R_reads h1
  exact ⟨A, c, by rw [h2], by omega⟩
theorem BoxIn.at_ {W w : World} {v : Value} {ls : List (List Nat)} (h : BoxIn W w v ls) (hb : Below W.heap.size W w) (i : Nat) (hi : i < ls.length) :
    ∃ g c A m d, v = .slice (some ⟨g, 0, none⟩) ls.length c ∧ w.cell? ⟨g, i, none⟩ = some (.slice A m d) ∧ ls.length ≤ c ∧ Bytes w A m d (ls.getD i []) := by
  obtain ⟨ss, h1, h2, h3⟩ := h
  obtain ⟨g, c, rfl, _⟩ := Kd.R_form h1 (by omega)
  have h4 := (Kd.R_celln (none, 0, 0) h1 (i : Int) (by omega) (by omega)).1
  rw [Int.toNat_natCast, rdOf, Int.toNat_natCast] at h4
  have hx := (h3 i hi).bytes hb
  exact ⟨g, c, _, _, _, by rw [h2], h4, by have := (Kd.R_reads' h1).2.1; omega, hx⟩
end Go.Proofs.YtlgdplodglchaaaDoor
/- The walk through chacha.put. -/
set_option linter.unusedVariables false
set_option linter.unusedSimpArgs false
namespace Go.Proofs.YtlgdplodglchaaaDoor
open Go.RowKit Go.Proofs.YtlgdplodglchaaaDoorW.PrintWords Go.Proofs.YtlgdplodglchaaaDoorW.PrintLast Go.Proofs.YtlgdplodglchaaaDoorW.PrintMore

/-- The array behind k rounds of put. -/
def putL (l : List Nat) (off : Nat) (b : List Nat) : Nat → List Nat
  | 0 => l
  | k + 1 => (putL l off b k).set (off + k) (loadN ((b.drop (4 * k)).take 4))
theorem putL_length (l : List Nat) (off : Nat) (b : List Nat) (k : Nat) : (putL l off b k).length = l.length := by
  induction k with
  | zero => rfl
  | succ k ih => rw [putL, List.length_set, ih]

set_option maxHeartbeats 1000000 in
set_option maxRecDepth 100000 in
theorem put_calls {T g off n cap m c : Nat} {A : Option Addr} {l b : List Nat} {w0 w : World} (ha : Arr .u32 T g w l) (hl : off + n ≤ l.length) (hs : l.length ≤ 1000) (hb : Bytes w0 A m c b) (h0 : Below w0.heap.size w0 w) (hg : w0.heap.size ≤ g) (hm : 4 * n ≤ m) :
    Calls Tryd.prog 113 #[.slice (some ⟨g, off, none⟩) n cap, .slice A m c] w fun e w' => e = .returned (.tuple #[]) ∧ Arr .u32 T g w' (putL l off b n) ∧ Only g w w' := by
  have HB := hd hb
  have hmc : m ≤ c := hb.2.2.1
  clear hb
  have HA := hd ha
  clear ha
  have H0 := hd h0
  clear h0
  go_enter Tryd.func113, Tryd.ntmps113
  go_wp2
  go_loopw [7] (fun i wr => ∃ k : Nat, k ≤ n ∧ i = .int .i64 k ∧ Arr .u32 T g wr (putL l off b k) ∧ Only g w wr) (fun i _ => n - (intOf i).toNat)
  case atStart => exact ⟨0, Nat.zero_le _, rfl, HA.out, Only.refl _ _⟩
  case round =>
    obtain ⟨k, hk, rfl, ha, ho⟩ := hrel
    have HO := hd ho
    have HA2 := hd ha
    clear ho ha
    by_cases hlt : k < n
    · have hbr := HB.out.below (HO.out.from H0.out hg)
      obtain ⟨ad, y, rfl, _, _⟩ := hbr.1.at_ (4 * k) (by rw [hbr.2.1]; omega)
      have hmid := hd (hbr.mid (4 * k) 4 (by omega) (by omega))
      obtain ⟨x, _, hcell, hfr⟩ := HA2.out.cell (off + k) (by rw [putL_length]; omega)
      clear hbr
      have i1 : (4 : Int) * (k : Int) + 4 ≤ c := by omega
      go_wp2_with fail
      refine (load_calls hmid.out).mono ?_
      rintro e w' ⟨rfl, rfl⟩
      have hv : loadN (List.take 8 (List.take 4 (List.drop (4 * k) b))) = loadN ((b.drop (4 * k)).take 4) := by rw [List.take_take]; rfl
      rw [hv]
      obtain ⟨v, HV⟩ : ∃ v, Aside0 (loadN ((b.drop (4 * k)).take 4) = v) := ⟨_, ⟨rfl⟩⟩
      have hv2 : v < 4294967296 := by
        have h1 := words4_ok HB.out.ok (k + 1) v (by rw [words4_succ, HV.out]; simp)
        exact h1
      rw [HV.out]
      have hput := hd (HA2.out.set (off + k) v)
      clear hv
      go_wp2
      go_roundw
      case rel => exact ⟨k + 1, by omega, by go_num, by rw [putL, HV.out]; exact hput.out, HO.out.set _ _⟩
      case measure => simp [intOf]; omega
    · go_wp2
      obtain rfl : k = n := by omega
      go_end0
      exact ⟨rfl, HA2.out, HO.out⟩
end Go.Proofs.YtlgdplodglchaaaDoor
/- The walk through poly.Clamp. -/
set_option linter.unusedVariables false
set_option linter.unusedSimpArgs false
namespace Go.Proofs.YtlgdplodglchaaaDoor
open Go.RowKit Go.Proofs.YtlgdplodglchaaaDoorW.PrintWords Go.Proofs.YtlgdplodglchaaaDoorW.PrintLast Go.Proofs.YtlgdplodglchaaaDoorW.PrintMore

set_option maxHeartbeats 1000000 in
set_option maxRecDepth 100000 in
theorem clamp_calls {A : Option Addr} {ca : Nat} {key : List Nat} {w : World} (hk : Bytes w A 32 ca key) :
    Calls Tryd.prog 115 #[.slice A 32 ca] w fun e w' => ∃ v, e = .returned v ∧ OwnK .u8 5 w.heap.size w' v (clampL key) ∧ Below w.heap.size w w' := by
  have HK := hd hk
  have hca := hk.2.2.1
  have i9 : (32 : Int) ≤ ca := by omega
  have i8 : (16 : Int) ≤ ca := by omega
  clear hk
  go_enter Tryd.func115, Tryd.ntmps115
  go_wp2_with fail
  go_loopw [3, 12] (fun v i wr => ∃ k : Nat, k ≤ 16 ∧ i = .int .i64 k ∧ OwnK .u8 5 w.heap.size wr v ((clampL key).take k) ∧ Below w.heap.size w wr) (fun _ i _ => 16 - (intOf i).toNat)
  case atStart => exact ⟨0, Nat.zero_le _, rfl, OwnK.nil _ _ _ _, Below.refl _ _⟩
  case round =>
    obtain ⟨k, hk16, rfl, ho, hb⟩ := hrel
    by_cases hlt : k < 16
    · obtain ⟨ad, c, rfl, HY, hcell⟩ := (HK.out.below hb).1.at_ k (by rw [HK.out.2.1]; omega)
      have hc : c < 256 := by rw [← HY.out]; exact HK.out.ok.getD k
      have i0 : (0 : Int) ≤ k := by omega
      have i1 : (k : Int) < 16 := by omega
      have hs := hb.size
      have hstep := hd (clampL_take key k hlt HK.out.2.1)
      have hsz : ((clampL key).take k).length + 1 ≤ 17 := by rw [List.length_take]; omega
      have HSZ := hd hsz
      clear hsz
      by_cases h3 : k % 4 = 3
      · have q1 : (k : Int).tmod 4 = 3 := by rw [Int.tmod_eq_emod_of_nonneg (by omega)]; omega
        obtain ⟨d, HD⟩ : ∃ d, Aside0 (c % 16 = d) := ⟨_, ⟨rfl⟩⟩
        have q2 := and15_u8 hc
        rw [HD.out] at q2
        have hcl : clampB k c = d := by rw [clampB, if_pos h3, HD.out]
        go_wp2_with ((with_reducible refine gate_dst (N := 36) rfl ?_); at_builtin; refine op_append (k := .u8) (w0 := w) 36 rfl w.heap.size 5 40 _ _ rfl rfl Tryd.underlying40 Tryd.infoU8 (by decide) u3 ((clampL key).take k) _ d rfl rfl rfl ho hb hs (by have := HSZ.out; omega) ?_; intro v1 w1 ho1 hb1 hg1)
        go_roundw
        case rel => exact ⟨k + 1, by omega, by go_num, by rw [hstep.out, HY.out, hcl]; exact ho1, hb1⟩
        case measure => simp [intOf]; omega
      · by_cases h0 : 0 < k ∧ k % 4 = 0
        · have q1 : (k : Int).tmod 4 = 0 := by rw [Int.tmod_eq_emod_of_nonneg (by omega)]; omega
          have q0 : decide ((0 : Int) < (k : Int)) = true := by simp; omega
          obtain ⟨d, HD⟩ : ∃ d, Aside0 (c / 4 * 4 = d) := ⟨_, ⟨rfl⟩⟩
          have q2 := and252_u8 hc
          rw [HD.out] at q2
          have hcl : clampB k c = d := by rw [clampB, if_neg h3, if_pos h0, HD.out]
          go_wp2_with ((with_reducible refine gate_dst (N := 36) rfl ?_); at_builtin; refine op_append (k := .u8) (w0 := w) 36 rfl w.heap.size 5 40 _ _ rfl rfl Tryd.underlying40 Tryd.infoU8 (by decide) u3 ((clampL key).take k) _ d rfl rfl rfl ho hb hs (by have := HSZ.out; omega) ?_; intro v1 w1 ho1 hb1 hg1)
          go_roundw
          case rel => exact ⟨k + 1, by omega, by go_num, by rw [hstep.out, HY.out, hcl]; exact ho1, hb1⟩
          case measure => simp [intOf]; omega
        · obtain ⟨d, rfl⟩ : ∃ d, d = c := ⟨_, rfl⟩
          obtain ⟨r, HR⟩ : ∃ r, Aside0 (k % 4 = r) := ⟨_, ⟨rfl⟩⟩
          have q1 : (k : Int).tmod 4 = (r : Int) := by rw [Int.tmod_eq_emod_of_nonneg (by omega)]; have := HR.out; omega
          have q3 : ((r : Int) == 3) = false := by have := HR.out; simp; omega
          by_cases hk0 : 0 < k
          · have q0 : decide ((0 : Int) < (k : Int)) = true := by simp; omega
            have q4 : ((r : Int) == 0) = false := by have := HR.out; simp; omega
            have hcl : clampB k d = d := by rw [clampB, if_neg h3, if_neg h0]
            go_wp2_with ((with_reducible refine gate_dst (N := 36) rfl ?_); at_builtin; refine op_append (k := .u8) (w0 := w) 36 rfl w.heap.size 5 40 _ _ rfl rfl Tryd.underlying40 Tryd.infoU8 (by decide) u3 ((clampL key).take k) _ d rfl rfl rfl ho hb hs (by have := HSZ.out; omega) ?_; intro v1 w1 ho1 hb1 hg1)
            go_roundw
            case rel => exact ⟨k + 1, by omega, by go_num, by rw [hstep.out, HY.out, hcl]; exact ho1, hb1⟩
            case measure => simp [intOf]; omega
          · have q0 : decide ((0 : Int) < (k : Int)) = false := by simp; omega
            have hcl : clampB k d = d := by rw [clampB, if_neg h3, if_neg h0]
            go_wp2_with ((with_reducible refine gate_dst (N := 36) rfl ?_); at_builtin; refine op_append (k := .u8) (w0 := w) 36 rfl w.heap.size 5 40 _ _ rfl rfl Tryd.underlying40 Tryd.infoU8 (by decide) u3 ((clampL key).take k) _ d rfl rfl rfl ho hb hs (by have := HSZ.out; omega) ?_; intro v1 w1 ho1 hb1 hg1)
            go_roundw
            case rel => exact ⟨k + 1, by omega, by go_num, by rw [hstep.out, HY.out, hcl]; exact ho1, hb1⟩
            case measure => simp [intOf]; omega
    · obtain rfl : k = 16 := by omega
      rw [List.take_of_length_le (by rw [clampL_length key HK.out.2.1]; exact Nat.le_refl _)] at ho
      go_wp2
      go_ret
      exact ⟨_, rfl, ho, hb⟩

end Go.Proofs.YtlgdplodglchaaaDoor
/- The walk through redanref08.carry. -/
set_option linter.unusedVariables false
set_option linter.unusedSimpArgs false
namespace Go.Proofs.YtlgdplodglchaaaDoor
open Go.RowKit Go.Proofs.YtlgdplodglchaaaDoorW.PrintWords Go.Proofs.YtlgdplodglchaaaDoorW.PrintLast Go.Proofs.YtlgdplodglchaaaDoorW.PrintMore

theorem Tryd.infoI64 : (Tryd.prog.info? 3).map (fun i => (i.zero, i.size, i.bytes)) = some (some (.int .i64 0), 1, 8) := by kernel_rfl
set_option maxHeartbeats 2000000 in
set_option maxRecDepth 100000 in
theorem carry_calls {A : Option Addr} {ca n M : Nat} {L : List Nat} {w : World} (hL : RowK .i64 w A L) (hca : L.length ≤ ca) (hx : ∀ x ∈ L, x < 1099511627776) (hM : M = max L.length n) (hM2 : M ≤ 200000) :
    Calls Tryd.prog 121 #[.slice A L.length ca, .int .i64 (n : Int)] w fun e w' => ∃ v D, e = .returned v ∧ OwnK .i64 3 w.heap.size w' v D ∧ BytesOK D ∧ loadN D = loadN L ∧ M ≤ D.length ∧ (D.length ≤ M ∨ 256 ^ (D.length - 1) ≤ loadN L) ∧ D.length ≤ M + 6 ∧ Below w.heap.size w w' := by
  have HL := hd hL
  have HX := hd hx
  obtain ⟨la, hla⟩ : ∃ la, la = L.length := ⟨_, rfl⟩
  rw [← hla] at hca ⊢
  have hLa : la ≤ M := by omega
  have hnM : n ≤ M := by omega
  have hMx : M = la ∨ M = n := by omega
  have HLA := hd hla
  clear hL hx hM hla
  go_enter Tryd.func121, Tryd.ntmps121
  go_wp2_with fail
  go_loopw [5, 6, 7] (fun v c i wr => ∃ (k c' : Nat) (D : List Nat), i = .int .i64 k ∧ c = .int .i64 (c' : Int) ∧ OwnK .i64 3 w.heap.size wr v D ∧ BytesOK D ∧ D.length = k ∧ loadN D + 256 ^ k * c' = loadN (L.take k) ∧ c' ≤ 2199023255552 ∧ k ≤ M + 6 ∧ (k ≤ M ∨ 256 ^ (k - 1) ≤ loadN L) ∧ (M ≤ k → c' * 256 ^ (k - M) ≤ 2199023255552) ∧ Below w.heap.size w wr) (fun _ c i _ => 4398046511104 * (M + 6 - (intOf i).toNat) + (intOf c).toNat)
  case atStart => exact ⟨0, 0, [], rfl, rfl, OwnK.nil _ _ _ _, BytesOK.nil, rfl, rfl, by omega, by omega, Or.inl (Nat.zero_le _), fun _ => by omega, Below.refl _ _⟩
  case round =>
    obtain ⟨k, c, D, rfl, rfl, ho, hdb, hdl, hv, hc, hk6, hkM, hcM, hb⟩ := hrel
    have HDB := hd hdb
    have HDL := hd hdl
    have HV := hd hv
    have HKM := hd hkM
    have HCM := hd hcM
    clear hdb hdl hv hkM hcM
    have c0 : (0 : Int) ≤ c := by omega
    have c1 : (c : Int) ≤ 2199023255552 := by omega
    by_cases h1 : k < la
    · have q1 : decide ((k : Int) < (la : Int)) = true := by simp; omega
      obtain ⟨ad, x, rfl, HX0, hcell⟩ := (HL.out.below hb).at_ k (by rw [← HLA.out]; exact h1)
      have hx : x < 1099511627776 := by
        rw [← HX0.out, List.getD_eq_getElem?_getD, List.getElem?_eq_getElem (by rw [← HLA.out]; exact h1)]
        exact HX.out _ (List.getElem_mem _)
      have i1 : (k : Int) < (la : Int) := by omega
      obtain ⟨t, HT⟩ : ∃ t, Aside0 (c + x = t) := ⟨_, ⟨rfl⟩⟩
      have ht : (c : Int) + (x : Int) = (t : Int) := by have := HT.out; omega
      have ht2 : t < 4398046511104 := by have := HT.out; omega
      obtain ⟨r, HR⟩ : ∃ r, Aside0 (t % 256 = r) := ⟨_, ⟨rfl⟩⟩
      obtain ⟨d, HD⟩ : ∃ d, Aside0 (t / 256 = d) := ⟨_, ⟨rfl⟩⟩
      have s1 : (t : Int).tmod 256 = (r : Int) := by rw [Int.tmod_eq_emod_of_nonneg (by omega)]; have := HR.out; omega
      have s2 : (t : Int).tdiv 256 = (d : Int) := by rw [Int.tdiv_eq_ediv_of_nonneg (by omega)]; have := HD.out; omega
      have s3 : (t : Int) / 256 = (d : Int) := by have := HD.out; omega
      have s4 : (t : Int) ≤ 4398046511104 := by omega
      have s5 : (0 : Int) ≤ t := by omega
      have s6 : (k : Int) ≤ 300000 := by omega
      have s7 : (0 : Int) ≤ k := by omega
      have HST := hd (carry_step (loadN D) (loadN (L.take k)) c x (256 ^ k) HV.out)
      have hs := hb.size
      clear ht2
      go_wp2_with ((with_reducible refine gate_dst (N := 37) rfl ?_); at_builtin; refine op_append (k := .i64) (w0 := w) 37 rfl w.heap.size 3 68 _ _ rfl rfl Tryd.underlying68 Tryd.infoI64 (by decide) u5 D _ r rfl rfl rfl ho hb hs (by have := HDL.out; omega) ?_; intro v1 w1 ho1 hb1 hg1)
      go_roundw
      case rel =>
        have hst := HST.out
        rw [HT.out, HR.out, HD.out, ← pow256_succ] at hst
        refine ⟨k + 1, d, D ++ [r], by go_num, rfl, ho1, HDB.out.append (fun y hy => by simp at hy; have := HR.out; omega), by rw [List.length_append, HDL.out]; rfl, ?_, by have := HD.out; omega, by omega, ?_, ?_, hb1⟩
        · rw [loadN_snoc0, HDL.out, hst]
          rw [loadN_take_succ L k (by rw [← HLA.out]; exact h1), HX0.out]
        · exact Or.inl (by omega)
        · intro hm
          rcases Nat.lt_or_ge k M with h1 | h1
          · obtain rfl : M = k + 1 := by omega
            rw [Nat.sub_self, Nat.pow_zero, Nat.mul_one]
            have := HD.out
            omega
          · have h2 := HCM.out h1
            have h3 : k + 1 - M = (k - M) + 1 := by omega
            rw [h3, pow256_succ, ← Nat.mul_assoc]
            have h4 : d * 256 ≤ c + x := by have := HD.out; have := HT.out; omega
            omega
      case measure => simp [intOf]; have := HD.out; have := HT.out; omega
    · have q1 : decide ((k : Int) < (la : Int)) = false := by simp; omega
      have htk : L.take k = L := List.take_of_length_le (by rw [← HLA.out]; omega)
      have htk1 : L.take (k + 1) = L := List.take_of_length_le (by rw [← HLA.out]; omega)
      by_cases h2 : 0 < c
      · have q2 : decide ((0 : Int) < (c : Int)) = true := by simp; omega
        have hpos : 256 ^ k ≤ loadN L := by
          have := HV.out
          rw [htk] at this
          have h3 : 256 ^ k * 1 ≤ 256 ^ k * c := Nat.mul_le_mul_left _ h2
          omega
        have HPOS := hd hpos
        have hk5 : k + 1 ≤ M + 6 := by
          rcases Nat.lt_or_ge k M with h1 | h1
          · omega
          · have h3 := HCM.out h1
            have h4 : 1 * 256 ^ (k - M) ≤ c * 256 ^ (k - M) := Nat.mul_le_mul_right _ h2
            rcases Nat.lt_or_ge (k - M) 6 with h5 | h5
            · omega
            · have h6 : (256 : Nat) ^ 6 ≤ 256 ^ (k - M) := Nat.pow_le_pow_right (by decide) h5
              omega
        clear hpos
        obtain ⟨r, HR⟩ : ∃ r, Aside0 (c % 256 = r) := ⟨_, ⟨rfl⟩⟩
        obtain ⟨d, HD⟩ : ∃ d, Aside0 (c / 256 = d) := ⟨_, ⟨rfl⟩⟩
        have s1 : (c : Int).tmod 256 = (r : Int) := by rw [Int.tmod_eq_emod_of_nonneg (by omega)]; have := HR.out; omega
        have s2 : (c : Int).tdiv 256 = (d : Int) := by rw [Int.tdiv_eq_ediv_of_nonneg (by omega)]; have := HD.out; omega
        have s3 : (c : Int) / 256 = (d : Int) := by have := HD.out; omega
        have s6 : (k : Int) ≤ 300000 := by omega
        have s7 : (0 : Int) ≤ k := by omega
        have HST := hd (carry_step (loadN D) (loadN (L.take k)) c 0 (256 ^ k) HV.out)
        have hs := hb.size
        go_wp2_with ((with_reducible refine gate_dst (N := 37) rfl ?_); at_builtin; refine op_append (k := .i64) (w0 := w) 37 rfl w.heap.size 3 68 _ _ rfl rfl Tryd.underlying68 Tryd.infoI64 (by decide) u5 D _ r rfl rfl rfl ho hb hs (by have := HDL.out; omega) ?_; intro v1 w1 ho1 hb1 hg1)
        go_roundw
        case rel =>
          have hst := HST.out
          rw [Nat.add_zero, HR.out, HD.out, ← pow256_succ, Nat.mul_zero, Nat.add_zero, htk] at hst
          refine ⟨k + 1, d, D ++ [r], by go_num, rfl, ho1, HDB.out.append (fun y hy => by simp at hy; have := HR.out; omega), by rw [List.length_append, HDL.out]; rfl, ?_, by have := HD.out; omega, by omega, ?_, ?_, hb1⟩
          · rw [loadN_snoc0, HDL.out, htk1, hst, Nat.add_zero]
          · exact Or.inr (by rw [Nat.add_sub_cancel]; exact HPOS.out)
          · intro hm
            rcases Nat.lt_or_ge k M with h1 | h1
            · obtain rfl : M = k + 1 := by omega
              rw [Nat.sub_self, Nat.pow_zero, Nat.mul_one]
              have := HD.out
              omega
            · have h2 := HCM.out h1
              have h3 : k + 1 - M = (k - M) + 1 := by omega
              rw [h3, pow256_succ, ← Nat.mul_assoc]
              refine Nat.le_trans (Nat.mul_le_mul_right _ ?_) h2
              have := HD.out
              omega
        case measure => simp [intOf]; have := HD.out; omega
      · obtain rfl : c = 0 := by omega
        have q2 : decide ((0 : Int) < ((0 : Nat) : Int)) = false := by decide
        by_cases h3 : k < n
        · have q3 : decide ((k : Int) < (n : Int)) = true := by simp; omega
          have hk5 : k + 1 ≤ M + 6 := by omega
          obtain ⟨r, HR⟩ : ∃ r, Aside0 (0 % 256 = r) := ⟨_, ⟨rfl⟩⟩
          obtain ⟨d, HD⟩ : ∃ d, Aside0 (0 / 256 = d) := ⟨_, ⟨rfl⟩⟩
          have s1 : (0 : Int).tmod 256 = (r : Int) := by rw [Int.tmod_eq_emod_of_nonneg (by omega)]; have := HR.out; omega
          have s2 : (0 : Int).tdiv 256 = (d : Int) := by rw [Int.tdiv_eq_ediv_of_nonneg (by omega)]; have := HD.out; omega
          have s3 : (0 : Int) / 256 = (d : Int) := by have := HD.out; omega
          have s6 : (k : Int) ≤ 300000 := by omega
          have s7 : (0 : Int) ≤ k := by omega
          have HST := hd (carry_step (loadN D) (loadN (L.take k)) 0 0 (256 ^ k) HV.out)
          have hs := hb.size
          go_wp2_with ((with_reducible refine gate_dst (N := 37) rfl ?_); at_builtin; refine op_append (k := .i64) (w0 := w) 37 rfl w.heap.size 3 68 _ _ rfl rfl Tryd.underlying68 Tryd.infoI64 (by decide) u5 D _ r rfl rfl rfl ho hb hs (by have := HDL.out; omega) ?_; intro v1 w1 ho1 hb1 hg1)
          go_roundw
          case rel =>
            have hst := HST.out
            rw [Nat.add_zero, HR.out, HD.out, ← pow256_succ, Nat.mul_zero, Nat.add_zero, htk] at hst
            refine ⟨k + 1, d, D ++ [r], by go_num, rfl, ho1, HDB.out.append (fun y hy => by simp at hy; have := HR.out; omega), by rw [List.length_append, HDL.out]; rfl, ?_, by have := HD.out; omega, by omega, ?_, ?_, hb1⟩
            · rw [loadN_snoc0, HDL.out, htk1, hst, Nat.add_zero]
            · exact Or.inl (by omega)
            · intro hm
              rcases Nat.lt_or_ge k M with h1 | h1
              · obtain rfl : M = k + 1 := by omega
                rw [Nat.sub_self, Nat.pow_zero, Nat.mul_one]
                have := HD.out
                omega
              · have h2 := HCM.out h1
                have h3 : k + 1 - M = (k - M) + 1 := by omega
                rw [h3, pow256_succ, ← Nat.mul_assoc]
                refine Nat.le_trans (Nat.mul_le_mul_right _ ?_) h2
                have := HD.out
                omega
          case measure => simp [intOf]; have := HD.out; omega
        · have q3 : decide ((k : Int) < (n : Int)) = false := by simp; omega
          go_wp2
          go_ret
          have hv := HV.out
          rw [htk, Nat.mul_zero, Nat.add_zero] at hv
          refine ⟨_, D, rfl, ho, HDB.out, hv, by rw [HDL.out]; omega, ?_, by rw [HDL.out]; exact hk6, hb⟩
          rw [HDL.out]
          exact HKM.out

end Go.Proofs.YtlgdplodglchaaaDoor
/- The walks through redanref20.Top, Check, Mark. -/
set_option linter.unusedVariables false
set_option linter.unusedSimpArgs false
namespace Go.Proofs.YtlgdplodglchaaaDoor
open Go.RowKit Go.Proofs.YtlgdplodglchaaaDoorW.PrintWords Go.Proofs.YtlgdplodglchaaaDoorW.PrintLast Go.Proofs.YtlgdplodglchaaaDoorW.PrintMore
theorem NRow.at2 {w : World} {A : Option Addr} {n c : Nat} {l : List Nat} (h : NRow w A n c l) (i : Nat) (hi : i < n) : ∃ (ad : Addr) (x : Nat), A = some ad ∧ w.cell? (ad.add i) = some (.int .u64 (x : Int)) ∧ Aside0 (x = l.getD i 0) := by
  obtain ⟨ad, x, e, ex, hc⟩ := h.1.at_ i (by have := h.2.1; omega)
  exact ⟨ad, l.getD i 0, e, by rw [hc, ← ex.out], ⟨rfl⟩⟩
section
variable {w : World} {A : Option Addr} {n c x : Nat} {l : List Nat}
end
end Go.Proofs.YtlgdplodglchaaaDoor
