/- Texts put together: PolMacP PolOpenP RefPolyP RefModP RefMacP AeadP. -/
import Derived.Test.YtlgdplodglchaaaDoorGPol
import Derived.Test.YtlgdplodglchaaaDoorGPlain
/- The code of a key and bytes: plain. -/
set_option linter.unusedVariables false
namespace Go.Proofs.YtlgdplodglchaaaDoor
def rN (key : List Nat) : Nat := loadN (clampL key)
def sN (key : List Nat) : Nat := loadN ((key.drop 16).take 16)
def chunkN (b : List Nat) (k : Nat) : Nat := loadN ((b.drop (16 * k)).take 16 ++ [1])
def accC (r : Nat) (b : List Nat) : Nat → Nat
  | 0 => 0
  | k + 1 => lessN (lessN ((accC r b k + chunkN b k) * r))
def macL (key b : List Nat) : List Nat := storeN (accC (rN key) b ((b.length + 15) / 16) % polyP + sN key) 16
theorem macL_length (key b : List Nat) : (macL key b).length = 16 := storeN_length _ _
theorem macL_ok (key b : List Nat) : BytesOK (macL key b) := storeN_ok _ _
theorem loadN_cut (l : List Nat) (i : Nat) (hi : i ≤ l.length) : loadN l = loadN (l.take i) + 256 ^ i * loadN (l.drop i) := by
  have h := loadN_append (l.take i) (l.drop i)
  rw [List.take_append_drop, List.length_take, Nat.min_eq_left hi] at h
  exact h
theorem loadN_16 (l : List Nat) (h : l.length = 16) : loadN l = loadN (l.take 8) + 18446744073709551616 * loadN (l.drop 8) := loadN_cut l 8 (by omega)
theorem loadN_take_lt {l : List Nat} (hb : BytesOK l) (n : Nat) : loadN (l.take n) < 256 ^ n := by
  have h := loadN_lt (hb.take n)
  exact Nat.lt_of_lt_of_le h (Nat.pow_le_pow_right (by decide) (by rw [List.length_take]; exact Nat.min_le_left _ _))
theorem rN_lt {key : List Nat} (hk : BytesOK key) (hl : key.length = 32) : rN key < 2 ^ 124 := by
  have h0 := clampL_length key hl
  have h1 := loadN_cut (clampL key) 15 (by omega)
  have h2 := loadN_take_lt (clampL_ok hk) 15
  obtain ⟨y, hy⟩ : ∃ y, (clampL key).drop 15 = [y] := by
    have h3 : ((clampL key).drop 15).length = 1 := by rw [List.length_drop, h0]
    match (clampL key).drop 15, h3 with
    | [y], _ => exact ⟨y, rfl⟩
  have h4 : y = (clampL key).getD 15 0 := by
    have h5 := congrArg (fun l => l.getD 0 0) hy
    simp only [List.getD_eq_getElem?_getD, List.getElem?_drop, List.getElem?_cons_zero, Option.getD_some, Nat.add_zero] at h5
    rw [List.getD_eq_getElem?_getD, h5]
  have h6 : y < 16 := by
    rw [h4]
    simp [clampL, List.getD_eq_getElem?_getD, hl]
    rw [clampB, if_pos (by decide)]
    exact Nat.mod_lt _ (by decide)
  unfold rN
  rw [h1, hy]
  simp only [loadN]
  omega
theorem chunkN_lt {b : List Nat} (hb : BytesOK b) (k : Nat) : chunkN b k < 2 ^ 130 := by
  unfold chunkN
  rw [loadN_snoc]
  have h1 := loadN_take_lt (hb.drop (16 * k)) 16
  have h2 : (256 : Nat) ^ ((b.drop (16 * k)).take 16).length ≤ 256 ^ 16 := Nat.pow_le_pow_right (by decide) (by rw [List.length_take]; exact Nat.min_le_left _ _)
  omega
theorem acc_prod {x c r : Nat} (hx : x < 2 ^ 131) (hc : c < 2 ^ 130) (hr : r < 2 ^ 124) : (x + c) * r < 2 ^ 256 := by
  have h1 : (x + c) * r ≤ 2 ^ 132 * 2 ^ 124 := Nat.mul_le_mul (by omega) (by omega)
  have h2 : (x + c) * r < 2 ^ 132 * 2 ^ 124 := Nat.mul_lt_mul_of_lt_of_le (by omega) (by omega) (by omega)
  omega
theorem accC_lt {r : Nat} (hr : r < 2 ^ 124) {b : List Nat} (hb : BytesOK b) : ∀ k, accC r b k < 2 ^ 131
  | 0 => by rw [accC]; exact Nat.two_pow_pos _
  | k + 1 => by
    have h1 := acc_prod (accC_lt hr hb k) (chunkN_lt hb k) hr
    rw [accC]
    generalize (accC r b k + chunkN b k) * r = x at h1
    have h2 : lessN x < 2 ^ 131 := by unfold lessN; omega
    have := lessN_lt h2
    omega
theorem num_bytes {l : List Nat} (hl : l.length = 24) (hb : BytesOK l) : num (loadN l) = [loadN (l.take 8), loadN ((l.drop 8).take 8), loadN ((l.drop 16).take 8)] := by
  have h1 := loadN_cut l 8 (by omega)
  have h2 := loadN_cut (l.drop 8) 8 (by rw [List.length_drop]; omega)
  rw [List.drop_drop] at h2
  have h3 : (l.drop (8 + 8)).take 8 = l.drop 16 := List.take_of_length_le (by rw [List.length_drop]; omega)
  have a1 := loadN_take_lt hb 8
  have a2 := loadN_take_lt (hb.drop 8) 8
  have a3 := loadN_take_lt (hb.drop 16) 8
  rw [show (8 + 8) = 16 from rfl] at h2 h3
  rw [h3] at a3 ⊢
  generalize loadN (l.take 8) = x at *
  generalize loadN ((l.drop 8).take 8) = y at *
  generalize loadN (l.drop 16) = z at *
  rw [h1, h2]
  simp only [num, List.cons.injEq, and_true]
  refine ⟨by omega, by omega, by omega⟩
theorem loadN_zeros (n : Nat) : loadN (List.replicate n 0) = 0 := by
  induction n with
  | zero => rfl
  | succ n ih => rw [List.replicate_succ, loadN, ih]
/-- The chunk's bytes, in their array. -/
def chunkL (b : List Nat) (k : Nat) : List Nat := (b.drop (16 * k)).take 16 ++ [1] ++ List.replicate (23 - ((b.drop (16 * k)).take 16).length) 0
theorem chunkL_length (b : List Nat) (k : Nat) : (chunkL b k).length = 24 := by
  unfold chunkL
  have : ((b.drop (16 * k)).take 16).length ≤ 16 := by rw [List.length_take]; exact Nat.min_le_left _ _
  rw [List.length_append, List.length_append, List.length_replicate, List.length_singleton]
  omega
theorem chunkL_ok {b : List Nat} (hb : BytesOK b) (k : Nat) : BytesOK (chunkL b k) := fun x hx => by
  unfold chunkL at hx
  rcases List.mem_append.1 hx with h | h
  · rcases List.mem_append.1 h with h | h
    · exact ((hb.drop _).take _) x h
    · simp at h; omega
  · have := List.eq_of_mem_replicate h; omega
theorem chunkL_load (b : List Nat) (k : Nat) : loadN (chunkL b k) = chunkN b k := by
  unfold chunkL chunkN
  rw [loadN_append, loadN_zeros]
  simp
theorem chunk_eq {b : List Nat} {d n : Nat} (hd : d % 16 = 0) (hn : n = min (b.length - d) 16) : ((b.drop d).take n ++ (List.replicate 24 0).drop n).set n 1 = chunkL b (d / 16) := by
  have h1 : 16 * (d / 16) = d := by omega
  have h2 : (b.drop d).take n = (b.drop d).take 16 := by
    rw [hn]
    have := List.take_take (i := 16) (j := b.length - d) (l := b.drop d)
    rw [List.take_of_length_le (l := b.drop d) (i := b.length - d) (by rw [List.length_drop]; exact Nat.le_refl _), Nat.min_comm] at this
    exact this.symm
  have h3 : ((b.drop d).take 16).length = n := by rw [List.length_take, List.length_drop, hn, Nat.min_comm]
  have hn16 : n ≤ 16 := by omega
  unfold chunkL
  rw [h1, h2, h3]
  rw [List.set_append_right _ _ (by rw [h3]; exact Nat.le_refl _), h3, Nat.sub_self, List.drop_replicate, List.append_assoc]
  rw [show 24 - n = (23 - n) + 1 by omega, List.replicate_succ]
  rfl
theorem storeN_add (m n : Nat) : ∀ x, storeN x (m + n) = storeN x m ++ storeN (x / 256 ^ m) n := by
  induction m with
  | zero => intro x; simp [storeN]
  | succ m ih =>
    intro x
    rw [show m + 1 + n = (m + n) + 1 by omega, storeN, ih, storeN, List.cons_append, Nat.div_div_eq_div_mul, Nat.pow_succ, Nat.mul_comm 256]
theorem storeN_mod (m : Nat) : ∀ x, storeN (x % 256 ^ m) m = storeN x m := by
  induction m with
  | zero => intro x; rfl
  | succ m ih =>
    intro x
    have h1 : x % 256 ^ (m + 1) % 256 = x % 256 := Nat.mod_mod_of_dvd _ ⟨256 ^ m, by rw [Nat.pow_succ, Nat.mul_comm]⟩
    have h2 : x % 256 ^ (m + 1) / 256 = x / 256 % 256 ^ m := by
      rw [Nat.pow_succ, Nat.mul_comm, Nat.mod_mul_right_div_self]
    rw [storeN, storeN, h1, h2, ih]
theorem store_num {n a0 a1 a2 : Nat} (h : num n = [a0, a1, a2]) : storeN a0 8 ++ storeN a1 8 = storeN n 16 := by
  obtain ⟨h0, h1, _⟩ := num_inj2 h
  rw [show (16 : Nat) = 8 + 8 from rfl, storeN_add, ← storeN_mod 8 n, ← storeN_mod 8 (n / 256 ^ 8), h0, h1]
theorem sN_num (key : List Nat) (hl : key.length = 32) (hb : BytesOK key) : num (sN key) = [loadN (((key.drop 16).take 8).take 8), loadN ((key.drop 24).take 8), 0] := by
  have h1 := loadN_cut ((key.drop 16).take 16) 8 (by rw [List.length_take, List.length_drop]; omega)
  have h2 : ((key.drop 16).take 16).take 8 = (key.drop 16).take 8 := by rw [List.take_take]; rfl
  have h3 : ((key.drop 16).take 16).drop 8 = (key.drop 24).take 8 := by rw [List.drop_take, List.drop_drop]
  have h4 : ((key.drop 16).take 8).take 8 = (key.drop 16).take 8 := by rw [List.take_take]; rfl
  rw [h2, h3] at h1
  have a1 := loadN_take_lt (hb.drop 16) 8
  have a2 := loadN_take_lt (hb.drop 24) 8
  rw [h4]
  unfold sN
  rw [h1]
  generalize loadN ((key.drop 16).take 8) = x at *
  generalize loadN ((key.drop 24).take 8) = y at *
  simp only [num, List.cons.injEq, and_true]
  refine ⟨by omega, by omega, by omega⟩
end Go.Proofs.YtlgdplodglchaaaDoor
/- Bits that are taken away change nothing: plain. -/
set_option linter.unusedVariables false
namespace Go.Proofs.YtlgdplodglchaaaDoor
theorem storeN_loadN : ∀ l : List Nat, BytesOK l → storeN (loadN l) l.length = l
  | [], _ => rfl
  | x :: l, h => by
    have hx : x < 256 := h x (List.mem_cons_self ..)
    have ih := storeN_loadN l (fun y hy => h y (List.mem_cons_of_mem _ hy))
    rw [loadN, List.length_cons, storeN]
    rw [show (x + 256 * loadN l) % 256 = x by omega, show (x + 256 * loadN l) / 256 = loadN l by omega, ih]
end Go.Proofs.YtlgdplodglchaaaDoor
/- Numbers as digits of 256, carried and taken by 2^130 - 5: plain. -/
set_option linter.unusedVariables false
namespace Go.Proofs.YtlgdplodglchaaaDoor
/-- A digit's carry. -/
theorem loadN_snoc0 (l : List Nat) (b : Nat) : loadN (l ++ [b]) = loadN l + 256 ^ l.length * b := by rw [loadN_append]; simp [loadN]
theorem pow256_succ (n : Nat) : 256 ^ (n + 1) = 256 * 256 ^ n := by rw [Nat.pow_succ, Nat.mul_comm]
/-- One round of carry: what stands is kept. -/
theorem carry_step (d v c x p : Nat) (h : d + p * c = v) : (d + p * ((c + x) % 256)) + 256 * p * ((c + x) / 256) = v + p * x := by
  have h1 : (c + x) % 256 + 256 * ((c + x) / 256) = c + x := Nat.mod_add_div _ _
  have h2 : p * ((c + x) % 256) + 256 * p * ((c + x) / 256) = p * (c + x) := by
    rw [← h1, Nat.mul_add, h1]
    congr 1
    rw [Nat.mul_comm 256 p, Nat.mul_assoc]
  rw [Nat.add_assoc, h2, Nat.mul_add, ← h]
  omega
theorem loadN_take_succ (l : List Nat) (i : Nat) (hi : i < l.length) : loadN (l.take (i + 1)) = loadN (l.take i) + 256 ^ i * l.getD i 0 := by
  rw [take_snoc l i 0 hi, loadN_snoc0, List.length_take, Nat.min_eq_left (Nat.le_of_lt hi)]
/-- The digits of a fourth. -/
def qL : List Nat → List Nat
  | [] => []
  | [x] => [x / 4]
  | x :: y :: t => (x / 4 + y % 4 * 64) :: qL (y :: t)
theorem qL_length : ∀ l, (qL l).length = l.length
  | [] => rfl
  | [x] => rfl
  | x :: y :: t => by rw [qL, List.length_cons, List.length_cons, qL_length (y :: t)]
theorem qL_load : ∀ l, loadN (qL l) = loadN l / 4
  | [] => rfl
  | [x] => by simp [qL, loadN]
  | x :: y :: t => by
    have ih := qL_load (y :: t)
    have h1 : loadN (y :: t) % 4 = y % 4 := by rw [loadN]; omega
    have h2 : loadN (x :: y :: t) = x + 256 * loadN (y :: t) := rfl
    have h3 : loadN (qL (x :: y :: t)) = (x / 4 + y % 4 * 64) + 256 * loadN (qL (y :: t)) := rfl
    rw [h2, h3, ih]
    generalize loadN (y :: t) = r at *
    omega
theorem qL_get : ∀ (l : List Nat) (i : Nat), i < l.length → (qL l).getD i 0 = l.getD i 0 / 4 + (if i + 1 < l.length then l.getD (i + 1) 0 % 4 * 64 else 0)
  | [], i, h => by simp at h
  | [x], i, h => by
    obtain rfl : i = 0 := by simpa using h
    simp [qL]
  | x :: y :: t, 0, h => by simp [qL]
  | x :: y :: t, i + 1, h => by
    have := qL_get (y :: t) i (by simpa using h)
    rw [qL, List.getD_cons_succ, List.getD_cons_succ, List.getD_cons_succ, this]
    simp only [List.length_cons, Nat.add_lt_add_iff_right]
theorem loadN_zero_add (n : Nat) (l : List Nat) : loadN (l ++ List.replicate n 0) = loadN l := by rw [loadN_append, loadN_zeros, Nat.mul_zero, Nat.add_zero]
/-- A digit is turned. -/
theorem loadN_set : ∀ (l : List Nat) (i x : Nat), i < l.length → loadN (l.set i (l.getD i 0 + x)) = loadN l + 256 ^ i * x
  | [], i, x, h => by simp at h
  | y :: l, 0, x, h => by simp only [List.set_cons_zero, List.getD_cons_zero, loadN, Nat.pow_zero]; omega
  | y :: l, i + 1, x, h => by
    have ih := loadN_set l i x (by simpa using h)
    rw [List.set_cons_succ, List.getD_cons_succ, loadN, loadN, ih, pow256_succ, Nat.mul_add, Nat.mul_assoc]
    omega
theorem lessN_split (l : List Nat) (h : 16 ≤ l.length) (hb : BytesOK l) : lessN (loadN l) = loadN (l.take 16) + 256 ^ 16 * (loadN (l.drop 16) % 4) + 5 * (loadN (l.drop 16) / 4) := by
  have h1 := loadN_cut l 16 h
  have h2 := loadN_take_lt hb 16
  generalize loadN (l.take 16) = x at *
  generalize loadN (l.drop 16) = y at *
  rw [h1]
  unfold lessN
  omega
end Go.Proofs.YtlgdplodglchaaaDoor
/- The rest by 2^130 - 5, digit by digit: plain. -/
set_option linter.unusedVariables false
namespace Go.Proofs.YtlgdplodglchaaaDoor
/-- Does something stand above 2^130, in the first digits? -/
def highB (D : List Nat) (k : Nat) : Bool := decide (4 ≤ loadN ((D.drop 16).take (k - 16)))
theorem highB_start (D : List Nat) (h : 17 ≤ D.length) : highB D 17 = decide (3 < D.getD 16 0) := by
  unfold highB
  rw [show 17 - 16 = 0 + 1 from rfl, loadN_take_succ _ 0 (by rw [List.length_drop]; omega)]
  simp only [List.take_zero, loadN, Nat.pow_zero, Nat.one_mul, Nat.zero_add, List.getD_eq_getElem?_getD, List.getElem?_drop, Nat.add_zero]
  congr 1
theorem highB_step (D : List Nat) (k : Nat) (hk : 17 ≤ k) (h : k < D.length) : highB D (k + 1) = (highB D k || decide (0 < D.getD k 0)) := by
  unfold highB
  rw [show k + 1 - 16 = (k - 16) + 1 by omega, loadN_take_succ _ (k - 16) (by rw [List.length_drop]; omega)]
  have e : (D.drop 16).getD (k - 16) 0 = D.getD k 0 := by
    rw [List.getD_eq_getElem?_getD, List.getElem?_drop, List.getD_eq_getElem?_getD, show 16 + (k - 16) = k by omega]
  rw [e]
  have hp : 256 ≤ 256 ^ (k - 16) := by
    have := Nat.pow_le_pow_right (n := 256) (by decide) (show 1 ≤ k - 16 by omega)
    simpa using this
  generalize 256 ^ (k - 16) = p at hp
  generalize loadN ((D.drop 16).take (k - 16)) = v
  generalize D.getD k 0 = x
  by_cases hx : 0 < x
  · have h1 : p * 1 ≤ p * x := Nat.mul_le_mul_left _ hx
    have h2 : 4 ≤ v + p * x := by omega
    simp [hx, h2]
  · obtain rfl : x = 0 := by omega
    simp
theorem highB_end (D : List Nat) : highB D D.length = decide (4 ≤ loadN (D.drop 16)) := by
  unfold highB
  rw [List.take_of_length_le (by rw [List.length_drop]; exact Nat.le_refl _)]
theorem mod_small {D : List Nat} (h : 17 ≤ D.length) (hb : BytesOK D) (ht : loadN (D.drop 16) < 4) : loadN D < 2 ^ 130 ∧ D.getD 16 0 = loadN (D.drop 16) := by
  have h1 := loadN_cut D 16 (by omega)
  have h2 := loadN_take_lt hb 16
  refine ⟨by omega, ?_⟩
  have h3 := loadN_cut (D.drop 16) 1 (by rw [List.length_drop]; omega)
  have h4 : loadN ((D.drop 16).take 1) = D.getD 16 0 := by
    have := loadN_take_succ (D.drop 16) 0 (by rw [List.length_drop]; omega)
    rw [this]
    simp only [List.take_zero, loadN, Nat.pow_zero, Nat.one_mul, Nat.zero_add, List.getD_eq_getElem?_getD, List.getElem?_drop, Nat.add_zero]
  rw [h4] at h3
  omega
theorem lessN_lt_self {x : Nat} (h : 2 ^ 130 ≤ x) : lessN x < x := by
  unfold lessN
  omega
theorem mod_large {D : List Nat} (h : 17 ≤ D.length) (hb : BytesOK D) (ht : ¬ loadN (D.drop 16) < 4) : 2 ^ 130 ≤ loadN D := by
  have h1 := loadN_cut D 16 (by omega)
  omega
/-- Are the first digits behind the lowest one all 255? -/
def allB (D : List Nat) (k : Nat) : Bool := decide (loadN ((D.drop 1).take (k - 1)) + 1 = 256 ^ (k - 1))
theorem allB_step (D : List Nat) (hb : BytesOK D) (k : Nat) (hk : 1 ≤ k) (h : k < D.length) : allB D (k + 1) = (allB D k && decide (D.getD k 0 = 255)) := by
  unfold allB
  rw [show k + 1 - 1 = (k - 1) + 1 by omega, loadN_take_succ _ (k - 1) (by rw [List.length_drop]; omega), pow256_succ]
  have e : (D.drop 1).getD (k - 1) 0 = D.getD k 0 := by
    rw [List.getD_eq_getElem?_getD, List.getElem?_drop, List.getD_eq_getElem?_getD, show 1 + (k - 1) = k by omega]
  rw [e]
  have hx := hb.getD k
  have hv := loadN_take_lt (hb.drop 1) (k - 1)
  generalize 256 ^ (k - 1) = p at hv
  generalize loadN ((D.drop 1).take (k - 1)) = v at hv
  generalize D.getD k 0 = x at hx
  by_cases h5 : x = 255
  · subst h5
    simp only [decide_true, Bool.and_true, decide_eq_decide]
    omega
  · have h1 : p * x ≤ p * 254 := Nat.mul_le_mul_left _ (by omega)
    have h2 : ¬ (v + p * x + 1 = 256 * p) := by omega
    simp [h5, h2]
theorem mod_ge {D : List Nat} (h : 17 ≤ D.length) (hb : BytesOK D) (ht : loadN (D.drop 16) < 4) (h3 : D.getD 16 0 = 3) (h0 : 251 ≤ D.getD 0 0) (ha : allB D 16 = true) : D.getD 0 0 - 251 = loadN D % polyP := by
  obtain ⟨h1, h2⟩ := mod_small h hb ht
  unfold allB at ha
  have hx := of_decide_eq_true ha
  have c1 := loadN_cut D 16 (by omega)
  have c2 := loadN_cut (D.take 16) 1 (by rw [List.length_take]; omega)
  have e1 : loadN ((D.take 16).take 1) = D.getD 0 0 := by
    have := loadN_take_succ D 0 (by omega)
    rw [List.take_take]
    rw [show min 1 16 = 0 + 1 from rfl, this]
    simp [loadN]
  have e2 : (D.take 16).drop 1 = (D.drop 1).take 15 := by rw [List.drop_take]
  rw [e1, e2] at c2
  have e3 : 16 - 1 = 15 := rfl
  rw [e3] at hx
  have hb0 := hb.getD 0
  unfold polyP
  omega
theorem mod_lt {D : List Nat} (h : 17 ≤ D.length) (hb : BytesOK D) (ht : loadN (D.drop 16) < 4) (hn : ¬ (D.getD 16 0 = 3 ∧ 251 ≤ D.getD 0 0 ∧ allB D 16 = true)) : loadN D = loadN D % polyP := by
  obtain ⟨h1, h2⟩ := mod_small h hb ht
  have c1 := loadN_cut D 16 (by omega)
  have c2 := loadN_cut (D.take 16) 1 (by rw [List.length_take]; omega)
  have e1 : loadN ((D.take 16).take 1) = D.getD 0 0 := by
    have := loadN_take_succ D 0 (by omega)
    rw [List.take_take]
    rw [show min 1 16 = 0 + 1 from rfl, this]
    simp [loadN]
  have e2 : (D.take 16).drop 1 = (D.drop 1).take 15 := by rw [List.drop_take]
  rw [e1, e2] at c2
  have hv := loadN_take_lt (hb.drop 1) 15
  have hb0 := hb.getD 0
  have hall : allB D 16 = true ↔ loadN ((D.drop 1).take 15) + 1 = 256 ^ 15 := by
    unfold allB
    rw [decide_eq_true_iff]
  rw [hall] at hn
  rw [Nat.mod_eq_of_lt]
  unfold polyP
  omega
theorem base_eq (D : List Nat) (r : Nat) (h : 17 ≤ D.length) : (D.take 17).set 16 r = D.take 16 ++ [r] := by
  have h1 : (D.take 16).length = 16 := by rw [List.length_take]; omega
  rw [take_snoc D 16 0 (by omega), List.set_append_right _ _ (by omega), h1]
  rfl
theorem base_load (D : List Nat) (r : Nat) (h : 17 ≤ D.length) : loadN ((D.take 17).set 16 r) = loadN (D.take 16) + 256 ^ 16 * r := by
  rw [base_eq D r h, loadN_snoc0, List.length_take, Nat.min_eq_left (by omega)]
theorem getD_lt {l : List Nat} {b : Nat} (h : ∀ x ∈ l, x < b) (hb : 0 < b) (j : Nat) : l.getD j 0 < b := by
  rw [List.getD_eq_getElem?_getD]
  by_cases hj : j < l.length
  · rw [List.getElem?_eq_getElem hj]
    exact h _ (List.getElem_mem hj)
  · rw [List.getElem?_eq_none (by omega)]
    exact hb
/-- What one round of the sum makes. -/
structure SumR (D : List Nat) (r M k2 : Nat) (O : List Nat) : Prop where
  len : 17 ≤ O.length
  lenk : k2 ≤ O.length + 1
  lenM : O.length ≤ M
  dig : ∀ x ∈ O, x < 4096
  tail : ∀ j, k2 - 16 ≤ j → O.getD j 0 < 256
  load : loadN O = loadN (D.take 16) + 256 ^ 16 * r + 5 * loadN ((qL (D.drop 16)).take (k2 - 16))
theorem SumR.start {D : List Nat} {r M : Nat} (h : 18 ≤ D.length) (hM : 18 ≤ M) (hb : BytesOK D) (hr : r < 256) : SumR D r M 16 ((D.take 17).set 16 r) := by
  have hok : ∀ x ∈ (D.take 17).set 16 r, x < 256 := fun x hx => by
    rcases List.mem_or_eq_of_mem_set hx with h1 | rfl
    · exact (hb.take 17) x h1
    · exact hr
  have hl : ((D.take 17).set 16 r).length = 17 := by rw [List.length_set, List.length_take]; omega
  refine ⟨by omega, by omega, by omega, fun x hx => Nat.lt_trans (hok x hx) (by decide), fun j _ => getD_lt hok (by decide) j, ?_⟩
  rw [base_load D r (by omega)]
  rfl
theorem SumR.zero {D O : List Nat} {r M k2 : Nat} (h : SumR D r M k2 O) (hlt : O.length < k2) (hk : k2 ≤ M) : SumR D r M k2 (O ++ [0]) := by
  refine ⟨by rw [List.length_append]; have := h.len; omega, by rw [List.length_append]; have := h.lenk; omega, by rw [List.length_append, List.length_singleton]; omega, fun x hx => ?_, fun j hj => ?_, ?_⟩
  · rcases List.mem_append.1 hx with h1 | h1
    · exact h.dig x h1
    · simp at h1; omega
  · have h1 := h.tail j hj
    rw [List.getD_eq_getElem?_getD] at h1 ⊢
    rcases Nat.lt_or_ge j O.length with h2 | h2
    · rw [List.getElem?_append_left h2]
      exact h1
    · rw [List.getElem?_append_right h2]
      rcases Nat.lt_or_ge (j - O.length) 1 with h3 | h3
      · rw [show j - O.length = 0 by omega]; decide
      · rw [List.getElem?_eq_none (by simpa using h3)]; decide
  · have h1 := loadN_zero_add 1 O
    rw [show List.replicate 1 0 = [0] from rfl] at h1
    rw [h1, h.load]
theorem SumR.put {D O : List Nat} {r M k2 t : Nat} (h : SumR D r M k2 O) (hk16 : 16 ≤ k2) (hk : k2 < D.length) (hl : k2 ≤ O.length) (ht : (qL (D.drop 16)).getD (k2 - 16) 0 = t) (htb : t ≤ 255) : SumR D r M (k2 + 1) (O.set (k2 - 16) (O.getD (k2 - 16) 0 + 5 * t)) := by
  have h0 := h.tail (k2 - 16) (Nat.le_refl _)
  refine ⟨by rw [List.length_set]; exact h.len, by rw [List.length_set]; omega, by rw [List.length_set]; exact h.lenM, fun x hx => ?_, fun j hj => ?_, ?_⟩
  · rcases List.mem_or_eq_of_mem_set hx with h1 | rfl
    · exact h.dig x h1
    · omega
  · have h1 := h.tail j (by omega)
    rw [List.getD_eq_getElem?_getD] at h1 ⊢
    rw [List.getElem?_set_ne (by omega)]
    exact h1
  · rw [loadN_set _ _ _ (by omega), h.load, show k2 + 1 - 16 = (k2 - 16) + 1 by omega, loadN_take_succ (qL (D.drop 16)) (k2 - 16) (by rw [qL_length, List.length_drop]; omega), ht, Nat.mul_add]
    generalize 256 ^ (k2 - 16) = p
    rw [Nat.mul_left_comm]
    omega
theorem SumR.done {D O : List Nat} {M x : Nat} (h : SumR D (x % 4) M D.length O) (hl : 18 ≤ D.length) (hb : BytesOK D) (hx : D.getD 16 0 = x) : loadN O = lessN (loadN D) := by
  rw [h.load, lessN_split D (by omega) hb, List.take_of_length_le (l := qL (D.drop 16)) (by rw [qL_length, List.length_drop]; exact Nat.le_refl _), qL_load]
  have h1 := loadN_cut (D.drop 16) 1 (by rw [List.length_drop]; omega)
  have h2 := loadN_take_succ (D.drop 16) 0 (by rw [List.length_drop]; omega)
  have h3 : (D.drop 16).getD 0 0 = x := by rw [← hx, List.getD_eq_getElem?_getD, List.getElem?_drop, List.getD_eq_getElem?_getD]
  rw [h3, List.take_zero, Nat.pow_zero, Nat.one_mul] at h2
  rw [show (0 : Nat) + 1 = 1 from rfl, show loadN [] = 0 from rfl, Nat.zero_add] at h2
  rw [h2] at h1
  have h4 : loadN (D.drop 16) % 4 = x % 4 := by rw [h1]; omega
  rw [h4]
end Go.Proofs.YtlgdplodglchaaaDoor
/- The code, digit by digit: plain. -/
set_option linter.unusedVariables false
namespace Go.Proofs.YtlgdplodglchaaaDoor
theorem chunkN_eq (b : List Nat) (k m : Nat) (h : (b.drop (16 * k)).take m = (b.drop (16 * k)).take 16) (hm : ((b.drop (16 * k)).take 16).length = m) : chunkN b k = loadN ((b.drop (16 * k)).take m) + 256 ^ m := by
  unfold chunkN
  rw [loadN_snoc, hm, h, Nat.one_mul]
theorem acc_mod (r : Nat) (b : List Nat) (k : Nat) : accC r b (k + 1) % polyP = ((accC r b k % polyP + chunkN b k) * r) % polyP := by
  rw [accC, lessN_mod, lessN_mod, Nat.mul_mod, ← Nat.mod_add_mod, ← Nat.mul_mod]
theorem storeN_take {D : List Nat} (h : 16 ≤ D.length) (hb : BytesOK D) : storeN (loadN D) 16 = D.take 16 := by
  have h1 := loadN_cut D 16 h
  have h2 := loadN_take_lt hb 16
  have h3 := storeN_loadN (D.take 16) (hb.take 16)
  rw [List.length_take, Nat.min_eq_left h] at h3
  rw [← storeN_mod 16 (loadN D), h1]
  have h4 : (loadN (D.take 16) + 256 ^ 16 * loadN (D.drop 16)) % 256 ^ 16 = loadN (D.take 16) := by
    rw [Nat.add_mul_mod_self_left, Nat.mod_eq_of_lt h2]
  rw [h4, h3]
/-- Bytes that are laid, one by one, on digits. -/
structure AddR (D c : List Nat) (m : Nat) (E : List Nat) : Prop where
  len : E.length = D.length
  dig : ∀ x ∈ E, x < 1024
  tail : ∀ j, m ≤ j → E.getD j 0 < 256
  load : loadN E = loadN D + loadN (c.take m)
theorem AddR.start {D c : List Nat} (hb : BytesOK D) : AddR D c 0 D :=
  ⟨rfl, fun x hx => Nat.lt_trans (hb x hx) (by decide), fun j _ => hb.getD j, rfl⟩
theorem AddR.put {D c E : List Nat} {m y : Nat} (h : AddR D c m E) (hm : m < D.length) (hc : m < c.length) (hy : c.getD m 0 = y) (hyb : y < 256) : AddR D c (m + 1) (E.set m (E.getD m 0 + y)) := by
  have h0 := h.tail m (Nat.le_refl _)
  refine ⟨by rw [List.length_set]; exact h.len, fun x hx => ?_, fun j hj => ?_, ?_⟩
  · rcases List.mem_or_eq_of_mem_set hx with h1 | rfl
    · exact h.dig x h1
    · omega
  · have h1 := h.tail j (by omega)
    rw [List.getD_eq_getElem?_getD] at h1 ⊢
    rw [List.getElem?_set_ne (by omega)]
    exact h1
  · rw [loadN_set _ _ _ (by rw [h.len]; exact hm), h.load, loadN_take_succ c m hc, hy]
    omega
/-- The digits of a product, as far as they are made. -/
structure MulR (D R : List Nat) (n x : Nat) (E : List Nat) : Prop where
  len : E.length = n
  dig : ∀ e ∈ E, e ≤ 65025 * x
  load : loadN E = loadN (D.take x) * loadN R
structure MulY (D R : List Nat) (n x a y : Nat) (E : List Nat) : Prop where
  len : E.length = n
  dig : ∀ e ∈ E, e ≤ 65025 * (x + 1)
  tail : ∀ j, x + y ≤ j → E.getD j 0 ≤ 65025 * x
  load : loadN E = loadN (D.take x) * loadN R + 256 ^ x * (a * loadN (R.take y))
theorem MulR.start (D R : List Nat) (n : Nat) : MulR D R n 0 (List.replicate n 0) :=
  ⟨List.length_replicate, fun e he => by rw [(List.mem_replicate.1 he).2]; exact Nat.zero_le _, by rw [loadN_zeros, List.take_zero, show loadN [] = 0 from rfl, Nat.zero_mul]⟩
theorem getD_le {l : List Nat} {b : Nat} (h : ∀ x ∈ l, x ≤ b) (j : Nat) : l.getD j 0 ≤ b := by
  rw [List.getD_eq_getElem?_getD]
  by_cases hj : j < l.length
  · rw [List.getElem?_eq_getElem hj]
    exact h _ (List.getElem_mem hj)
  · rw [List.getElem?_eq_none (by omega)]
    exact Nat.zero_le _
theorem MulR.row {D R E : List Nat} {n x : Nat} (h : MulR D R n x E) (a : Nat) : MulY D R n x a 0 E :=
  ⟨h.len, fun e he => by have := h.dig e he; omega, fun j _ => getD_le h.dig j, by rw [h.load, List.take_zero, show loadN [] = 0 from rfl, Nat.mul_zero, Nat.mul_zero, Nat.add_zero]⟩
theorem MulY.put {D R E : List Nat} {n x a y c : Nat} (h : MulY D R n x a y E) (hn : x + y < n) (hy : y < R.length) (hc : R.getD y 0 = c) (ha : a < 256) (hcb : c < 256) : MulY D R n x a (y + 1) (E.set (x + y) (E.getD (x + y) 0 + a * c)) := by
  have h0 := h.tail (x + y) (Nat.le_refl _)
  have h9 : a * c ≤ 255 * 255 := Nat.mul_le_mul (by omega) (by omega)
  refine ⟨by rw [List.length_set]; exact h.len, fun e he => ?_, fun j hj => ?_, ?_⟩
  · rcases List.mem_or_eq_of_mem_set he with h1 | rfl
    · exact h.dig e h1
    · omega
  · have h1 := h.tail j (by omega)
    rw [List.getD_eq_getElem?_getD] at h1 ⊢
    rw [List.getElem?_set_ne (by omega)]
    exact h1
  · rw [loadN_set _ _ _ (by rw [h.len]; exact hn), h.load, loadN_take_succ R y hy, hc, Nat.mul_add a, Nat.mul_add (256 ^ x), Nat.add_assoc]
    congr 2
    rw [Nat.pow_add, Nat.mul_assoc, Nat.mul_left_comm a]
theorem MulY.done {D R E : List Nat} {n x a : Nat} (h : MulY D R n x a R.length E) (hx : x < D.length) (ha : D.getD x 0 = a) : MulR D R n (x + 1) E := by
  refine ⟨h.len, h.dig, ?_⟩
  rw [h.load, List.take_of_length_le (Nat.le_refl _), loadN_take_succ D x hx, ha, Nat.add_mul, Nat.mul_assoc]
theorem MulR.done {D R E : List Nat} {n : Nat} (h : MulR D R n D.length E) : loadN E = loadN D * loadN R := by
  rw [h.load, List.take_of_length_le (Nat.le_refl _)]
theorem carry_len {D E : List Nat} {v : Nat} (h18 : 18 ≤ E.length) (h1 : max E.length 18 ≤ D.length) (h2 : D.length ≤ max E.length 18 ∨ 256 ^ (D.length - 1) ≤ v) (hv : v < 256 ^ 17) : D.length = E.length := by
  rcases h2 with h2 | h2
  · omega
  · rcases Nat.lt_or_ge 17 (D.length - 1) with h3 | h3
    · have h4 : (256 : Nat) ^ 17 ≤ 256 ^ (D.length - 1) := Nat.pow_le_pow_right (by decide) (by omega)
      omega
    · omega
end Go.Proofs.YtlgdplodglchaaaDoor
/- What is sealed, and its tag: plain. -/
set_option linter.unusedVariables false
namespace Go.Proofs.YtlgdplodglchaaaDoor
/-- How many zeros fill n bytes up. -/
def padN (n : Nat) : Nat := (16 - n % 16) % 16
theorem and15_i64 (x : Int) : bits .and .i64 x 15 = x % 16 := by
  have e : bits .and .i64 x 15 = IntKind.i64.wrap (((BitVec.ofInt 64 x &&& BitVec.ofInt 64 15).toNat : Nat) : Int) := rfl
  have h15 : (BitVec.ofInt 64 15).toNat = 15 := by decide
  rw [e, BitVec.toNat_and, h15, BitVec.toNat_ofInt]
  rw [show ∀ n : Nat, n &&& 15 = n % 16 from fun n => Nat.and_two_pow_sub_one_eq_mod n 4, IntKind.wrap_i64]
  omega
theorem pad_and (n : Nat) : bits .and .i64 (-(n : Int)) 15 = (padN n : Int) := by
  rw [and15_i64, padN]
  omega
def fillP (b : List Nat) : List Nat := b ++ List.replicate (padN b.length) 0
/-- What the tag is of. -/
def tagIn (ad box : List Nat) : List Nat := fillP ad ++ fillP box ++ (storeN ad.length 8 ++ storeN box.length 8)
def tagN (key nonce ad box : List Nat) : List Nat := macL ((blockN key 0 nonce).take 32) (tagIn ad box)
def boxN (key nonce text : List Nat) : List Nat := stream key 1 nonce text
def sealN (key nonce ad text : List Nat) : List Nat := boxN key nonce text ++ tagN key nonce ad (boxN key nonce text)
theorem fillP_length (b : List Nat) : (fillP b).length = b.length + padN b.length := by rw [fillP, List.length_append, List.length_replicate]
theorem padN_lt (n : Nat) : padN n < 16 := Nat.mod_lt _ (by decide)
theorem fillP_ok {b : List Nat} (h : BytesOK b) : BytesOK (fillP b) := h.append (fun x hx => by rw [(List.mem_replicate.1 hx).2]; decide)
theorem tagIn_ok {ad box : List Nat} (h : BytesOK ad) (k : BytesOK box) : BytesOK (tagIn ad box) := ((fillP_ok h).append (fillP_ok k)).append ((storeN_ok _ _).append (storeN_ok _ _))
theorem tagIn_length (ad box : List Nat) : (tagIn ad box).length ≤ ad.length + box.length + 46 := by
  rw [tagIn, List.length_append, List.length_append, List.length_append, fillP_length, fillP_length, storeN_length, storeN_length]
  have := padN_lt ad.length
  have := padN_lt box.length
  omega
theorem tagN_length (key nonce ad box : List Nat) : (tagN key nonce ad box).length = 16 := macL_length _ _
theorem tagN_ok (key nonce ad box : List Nat) : BytesOK (tagN key nonce ad box) := macL_ok _ _
theorem boxN_length (key nonce text : List Nat) : (boxN key nonce text).length = text.length := stream_length _ _ _ _
theorem boxN_twice (key nonce text : List Nat) : boxN key nonce (boxN key nonce text) = text := stream_twice _ _ _ _
theorem sealN_length (key nonce ad text : List Nat) : (sealN key nonce ad text).length = text.length + 16 := by rw [sealN, List.length_append, boxN_length, tagN_length]
end Go.Proofs.YtlgdplodglchaaaDoor
