/- The code of a key and bytes: plain. -/
import Derived.Test.YtkkhdjdoifnoaaaPolRest
import Derived.Test.YtkkhdjdoifnoaaaPolClampP
set_option linter.unusedVariables false
namespace Go.Proofs.Ytkkhdjdoifnoaaa
def rN (key : List Nat) : Nat := loadN (clampL key)
def sN (key : List Nat) : Nat := loadN ((key.drop 16).take 16)
def chunkN (b : List Nat) (k : Nat) : Nat := loadN ((b.drop (16 * k)).take 16 ++ [1])
def accC (r : Nat) (b : List Nat) : Nat → Nat
  | 0 => 0
  | k + 1 => lessN (lessN ((accC r b k + chunkN b k) * r))
def macL (key b : List Nat) : List Nat := storeN (accC (rN key) b ((b.length + 15) / 16) % polyP + sN key) 16
theorem macL_length (key b : List Nat) : (macL key b).length = 16 := storeN_length _ _
theorem macL_ok (key b : List Nat) : BytesOK (macL key b) := storeN_ok _ _
theorem loadN_cut (l : List Nat) (i : Nat) (hi : i ≤ l.length) : loadN l = loadN (l.take i) + 256 ^ i * loadN (l.drop i) := by
  have h := loadN_append (l.take i) (l.drop i)
  rw [List.take_append_drop, List.length_take, Nat.min_eq_left hi] at h
  exact h
theorem loadN_16 (l : List Nat) (h : l.length = 16) : loadN l = loadN (l.take 8) + 18446744073709551616 * loadN (l.drop 8) := loadN_cut l 8 (by omega)
theorem loadN_take_lt {l : List Nat} (hb : BytesOK l) (n : Nat) : loadN (l.take n) < 256 ^ n := by
  have h := loadN_lt (hb.take n)
  exact Nat.lt_of_lt_of_le h (Nat.pow_le_pow_right (by decide) (by rw [List.length_take]; exact Nat.min_le_left _ _))
theorem rN_lt {key : List Nat} (hk : BytesOK key) (hl : key.length = 32) : rN key < 2 ^ 124 := by
  have h0 := clampL_length key hl
  have h1 := loadN_cut (clampL key) 15 (by omega)
  have h2 := loadN_take_lt (clampL_ok hk) 15
  obtain ⟨y, hy⟩ : ∃ y, (clampL key).drop 15 = [y] := by
    have h3 : ((clampL key).drop 15).length = 1 := by rw [List.length_drop, h0]
    match (clampL key).drop 15, h3 with
    | [y], _ => exact ⟨y, rfl⟩
  have h4 : y = (clampL key).getD 15 0 := by
    have h5 := congrArg (fun l => l.getD 0 0) hy
    simp only [List.getD_eq_getElem?_getD, List.getElem?_drop, List.getElem?_cons_zero, Option.getD_some, Nat.add_zero] at h5
    rw [List.getD_eq_getElem?_getD, h5]
  have h6 : y < 16 := by
    rw [h4]
    simp [clampL, List.getD_eq_getElem?_getD, hl]
    rw [clampB, if_pos (by decide)]
    exact Nat.mod_lt _ (by decide)
  unfold rN
  rw [h1, hy]
  simp only [loadN]
  omega
theorem chunkN_lt {b : List Nat} (hb : BytesOK b) (k : Nat) : chunkN b k < 2 ^ 130 := by
  unfold chunkN
  rw [loadN_snoc]
  have h1 := loadN_take_lt (hb.drop (16 * k)) 16
  have h2 : (256 : Nat) ^ ((b.drop (16 * k)).take 16).length ≤ 256 ^ 16 := Nat.pow_le_pow_right (by decide) (by rw [List.length_take]; exact Nat.min_le_left _ _)
  omega
theorem acc_prod {x c r : Nat} (hx : x < 2 ^ 131) (hc : c < 2 ^ 130) (hr : r < 2 ^ 124) : (x + c) * r < 2 ^ 256 := by
  have h1 : (x + c) * r ≤ 2 ^ 132 * 2 ^ 124 := Nat.mul_le_mul (by omega) (by omega)
  have h2 : (x + c) * r < 2 ^ 132 * 2 ^ 124 := Nat.mul_lt_mul_of_lt_of_le (by omega) (by omega) (by omega)
  omega
theorem accC_lt {r : Nat} (hr : r < 2 ^ 124) {b : List Nat} (hb : BytesOK b) : ∀ k, accC r b k < 2 ^ 131
  | 0 => by rw [accC]; exact Nat.two_pow_pos _
  | k + 1 => by
    have h1 := acc_prod (accC_lt hr hb k) (chunkN_lt hb k) hr
    rw [accC]
    generalize (accC r b k + chunkN b k) * r = x at h1
    have h2 : lessN x < 2 ^ 131 := by unfold lessN; omega
    have := lessN_lt h2
    omega
theorem num_bytes {l : List Nat} (hl : l.length = 24) (hb : BytesOK l) : num (loadN l) = [loadN (l.take 8), loadN ((l.drop 8).take 8), loadN ((l.drop 16).take 8)] := by
  have h1 := loadN_cut l 8 (by omega)
  have h2 := loadN_cut (l.drop 8) 8 (by rw [List.length_drop]; omega)
  rw [List.drop_drop] at h2
  have h3 : (l.drop (8 + 8)).take 8 = l.drop 16 := List.take_of_length_le (by rw [List.length_drop]; omega)
  have a1 := loadN_take_lt hb 8
  have a2 := loadN_take_lt (hb.drop 8) 8
  have a3 := loadN_take_lt (hb.drop 16) 8
  rw [show (8 + 8) = 16 from rfl] at h2 h3
  rw [h3] at a3 ⊢
  generalize loadN (l.take 8) = x at *
  generalize loadN ((l.drop 8).take 8) = y at *
  generalize loadN (l.drop 16) = z at *
  rw [h1, h2]
  simp only [num, List.cons.injEq, and_true]
  refine ⟨by omega, by omega, by omega⟩
theorem loadN_zeros (n : Nat) : loadN (List.replicate n 0) = 0 := by
  induction n with
  | zero => rfl
  | succ n ih => rw [List.replicate_succ, loadN, ih]
/-- The chunk's bytes, in their array. -/
def chunkL (b : List Nat) (k : Nat) : List Nat := (b.drop (16 * k)).take 16 ++ [1] ++ List.replicate (23 - ((b.drop (16 * k)).take 16).length) 0
theorem chunkL_length (b : List Nat) (k : Nat) : (chunkL b k).length = 24 := by
  unfold chunkL
  have : ((b.drop (16 * k)).take 16).length ≤ 16 := by rw [List.length_take]; exact Nat.min_le_left _ _
  rw [List.length_append, List.length_append, List.length_replicate, List.length_singleton]
  omega
theorem chunkL_ok {b : List Nat} (hb : BytesOK b) (k : Nat) : BytesOK (chunkL b k) := fun x hx => by
  unfold chunkL at hx
  rcases List.mem_append.1 hx with h | h
  · rcases List.mem_append.1 h with h | h
    · exact ((hb.drop _).take _) x h
    · simp at h; omega
  · have := List.eq_of_mem_replicate h; omega
theorem chunkL_load (b : List Nat) (k : Nat) : loadN (chunkL b k) = chunkN b k := by
  unfold chunkL chunkN
  rw [loadN_append, loadN_zeros]
  simp
theorem chunk_eq {b : List Nat} {d n : Nat} (hd : d % 16 = 0) (hn : n = min (b.length - d) 16) : ((b.drop d).take n ++ (List.replicate 24 0).drop n).set n 1 = chunkL b (d / 16) := by
  have h1 : 16 * (d / 16) = d := by omega
  have h2 : (b.drop d).take n = (b.drop d).take 16 := by
    rw [hn]
    have := List.take_take (i := 16) (j := b.length - d) (l := b.drop d)
    rw [List.take_of_length_le (l := b.drop d) (i := b.length - d) (by rw [List.length_drop]; exact Nat.le_refl _), Nat.min_comm] at this
    exact this.symm
  have h3 : ((b.drop d).take 16).length = n := by rw [List.length_take, List.length_drop, hn, Nat.min_comm]
  have hn16 : n ≤ 16 := by omega
  unfold chunkL
  rw [h1, h2, h3]
  rw [List.set_append_right _ _ (by rw [h3]; exact Nat.le_refl _), h3, Nat.sub_self, List.drop_replicate, List.append_assoc]
  rw [show 24 - n = (23 - n) + 1 by omega, List.replicate_succ]
  rfl
theorem storeN_add (m n : Nat) : ∀ x, storeN x (m + n) = storeN x m ++ storeN (x / 256 ^ m) n := by
  induction m with
  | zero => intro x; simp [storeN]
  | succ m ih =>
    intro x
    rw [show m + 1 + n = (m + n) + 1 by omega, storeN, ih, storeN, List.cons_append, Nat.div_div_eq_div_mul, Nat.pow_succ, Nat.mul_comm 256]
theorem storeN_mod (m : Nat) : ∀ x, storeN (x % 256 ^ m) m = storeN x m := by
  induction m with
  | zero => intro x; rfl
  | succ m ih =>
    intro x
    have h1 : x % 256 ^ (m + 1) % 256 = x % 256 := Nat.mod_mod_of_dvd _ ⟨256 ^ m, by rw [Nat.pow_succ, Nat.mul_comm]⟩
    have h2 : x % 256 ^ (m + 1) / 256 = x / 256 % 256 ^ m := by
      rw [Nat.pow_succ, Nat.mul_comm, Nat.mod_mul_right_div_self]
    rw [storeN, storeN, h1, h2, ih]
theorem store_num {n a0 a1 a2 : Nat} (h : num n = [a0, a1, a2]) : storeN a0 8 ++ storeN a1 8 = storeN n 16 := by
  obtain ⟨h0, h1, _⟩ := num_inj2 h
  rw [show (16 : Nat) = 8 + 8 from rfl, storeN_add, ← storeN_mod 8 n, ← storeN_mod 8 (n / 256 ^ 8), h0, h1]
theorem sN_num (key : List Nat) (hl : key.length = 32) (hb : BytesOK key) : num (sN key) = [loadN (((key.drop 16).take 8).take 8), loadN ((key.drop 24).take 8), 0] := by
  have h1 := loadN_cut ((key.drop 16).take 16) 8 (by rw [List.length_take, List.length_drop]; omega)
  have h2 : ((key.drop 16).take 16).take 8 = (key.drop 16).take 8 := by rw [List.take_take]; rfl
  have h3 : ((key.drop 16).take 16).drop 8 = (key.drop 24).take 8 := by rw [List.drop_take, List.drop_drop]
  have h4 : ((key.drop 16).take 8).take 8 = (key.drop 16).take 8 := by rw [List.take_take]; rfl
  rw [h2, h3] at h1
  have a1 := loadN_take_lt (hb.drop 16) 8
  have a2 := loadN_take_lt (hb.drop 24) 8
  rw [h4]
  unfold sN
  rw [h1]
  generalize loadN ((key.drop 16).take 8) = x at *
  generalize loadN ((key.drop 24).take 8) = y at *
  simp only [num, List.cons.injEq, and_true]
  refine ⟨by omega, by omega, by omega⟩
end Go.Proofs.Ytkkhdjdoifnoaaa
