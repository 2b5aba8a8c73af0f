/- Plain laws of the quarter round: nothing of the program. -/
import Derived.Test.YtgmaahpnpjfghaaDoorPlain
set_option linter.unusedVariables false
namespace Go.Proofs.YtgmaahpnpjfghaaDoor

/-- A word, turned k bits to the left. -/
def rot (x k : Nat) : Nat := x % 2 ^ (32 - k) * 2 ^ k + x / 2 ^ (32 - k)
theorem rot_lt {x k : Nat} (hx : x < 2 ^ 32) (hk : k ≤ 32) : rot x k < 2 ^ 32 := by
  have h1 : (2 : Nat) ^ 32 = 2 ^ (32 - k) * 2 ^ k := by rw [← Nat.pow_add]; congr 1; omega
  have h2 : x / 2 ^ (32 - k) < 2 ^ k := by rw [Nat.div_lt_iff_lt_mul (Nat.two_pow_pos _), Nat.mul_comm, ← h1]; exact hx
  have h3 : x % 2 ^ (32 - k) < 2 ^ (32 - k) := Nat.mod_lt _ (Nat.two_pow_pos _)
  have h4 : x % 2 ^ (32 - k) * 2 ^ k ≤ (2 ^ (32 - k) - 1) * 2 ^ k := Nat.mul_le_mul_right _ (by omega)
  have h5 : (2 ^ (32 - k) - 1) * 2 ^ k + 2 ^ k = 2 ^ (32 - k) * 2 ^ k := by
    rw [← Nat.succ_mul]
    congr 1
    have := Nat.two_pow_pos (32 - k)
    omega
  unfold rot
  omega
theorem rot_zero {x : Nat} (hx : x < 2 ^ 32) : rot x 0 = x := by
  unfold rot
  rw [Nat.sub_zero, Nat.pow_zero, Nat.mul_one, Nat.mod_eq_of_lt hx, Nat.div_eq_of_lt hx, Nat.add_zero]
/-- One bit more. -/
theorem rot_succ {x k : Nat} (hx : x < 2 ^ 32) (hk : k < 32) : rot x (k + 1) = if 2 ^ 32 ≤ rot x k * 2 then rot x k * 2 - 2 ^ 32 + 1 else rot x k * 2 := by
  have hm : 32 - k = (32 - (k + 1)) + 1 := by omega
  obtain ⟨m, hm2⟩ : ∃ m, m = 2 ^ (32 - (k + 1)) := ⟨_, rfl⟩
  obtain ⟨p, hp⟩ : ∃ p, p = 2 ^ k := ⟨_, rfl⟩
  have hp0 : 0 < p := by rw [hp]; exact Nat.two_pow_pos k
  have hm0 : 0 < m := by rw [hm2]; exact Nat.two_pow_pos _
  have hmp : m * 2 * p = 2 ^ 32 := by
    rw [hm2, hp, ← Nat.pow_succ, show (32 - (k + 1)).succ = 32 - k by omega, ← Nat.pow_add]
    congr 1
    omega
  have e1 : rot x k = x % (m * 2) * p + x / (m * 2) := by unfold rot; rw [hm, Nat.pow_succ, ← hm2, ← hp]
  have e2 : rot x (k + 1) = x % m * (p * 2) + x / m := by unfold rot; rw [Nat.pow_succ, ← hm2, ← hp]
  have e3 : x % (m * 2) = x % m + m * (x / m % 2) := Nat.mod_mul
  have e4 : x / (m * 2) = x / m / 2 := by rw [Nat.div_div_eq_div_mul]
  have hq : x / m < p * 2 := by
    rw [Nat.div_lt_iff_lt_mul hm0]
    have : p * 2 * m = m * 2 * p := by rw [Nat.mul_comm, Nat.mul_comm p 2, ← Nat.mul_assoc]
    omega
  have hr : x % m < m := Nat.mod_lt _ hm0
  generalize x % m = r at *
  generalize x / m = q at *
  have hrp : r * (p * 2) = 2 * (r * p) := by rw [← Nat.mul_assoc, Nat.mul_comm]
  rw [e1, e2, e3, e4]
  have hmpp : m * p * 2 = 2 ^ 32 := by rw [← hmp, Nat.mul_assoc, Nat.mul_comm p 2, ← Nat.mul_assoc]
  have hrp2 : r * p + p ≤ m * p := by rw [← Nat.succ_mul]; exact Nat.mul_le_mul_right _ hr
  rcases Nat.mod_two_eq_zero_or_one q with h | h
  · rw [h, Nat.mul_zero, Nat.add_zero, if_neg (by omega)]
    omega
  · rw [h, Nat.mul_one, Nat.add_mul r m p, if_pos (by omega)]
    omega

/-- The rotation as the machine reckons it. -/
theorem rot_bits {x k : Nat} (hx : x < 2 ^ 32) (hk : 0 < k) (hk2 : k < 32) : bits .or .u32 (IntKind.u32.wrap ((x : Int) * 2 ^ k)) ((x : Int) / 2 ^ (32 - k)) = ((rot x k : Nat) : Int) := by
  have h1 : (2 : Nat) ^ 32 = 2 ^ (32 - k) * 2 ^ k := by rw [← Nat.pow_add]; congr 1; omega
  have h2 : x / 2 ^ (32 - k) < 2 ^ k := by rw [Nat.div_lt_iff_lt_mul (Nat.two_pow_pos _), Nat.mul_comm, ← h1]; exact hx
  have h3 : IntKind.u32.wrap ((x : Int) * 2 ^ k) = ((x * 2 ^ k % 2 ^ 32 : Nat) : Int) := by
    have := wrapM_u (k := .u32) rfl (x * 2 ^ k)
    rw [show ((x * 2 ^ k : Nat) : Int) = (x : Int) * 2 ^ k by simp] at this
    exact this
  have h4 : x * 2 ^ k % 2 ^ 32 = x % 2 ^ (32 - k) * 2 ^ k := by
    rw [h1]
    exact Nat.mul_mod_mul_right _ _ _
  have h5 : ((x : Int) / 2 ^ (32 - k)) = ((x / 2 ^ (32 - k) : Nat) : Int) := by simp
  have h6 : (2 : Nat) ^ k ≤ 2 ^ 32 := Nat.pow_le_pow_right (by decide) (by omega)
  rw [h3, h5, h4]
  have hlt := rot_lt hx (Nat.le_of_lt hk2)
  unfold rot at hlt ⊢
  rw [(bits_u (k := .u32) rfl _ _ (show x % 2 ^ (32 - k) * 2 ^ k < 2 ^ 32 by omega) (show x / 2 ^ (32 - k) < 2 ^ 32 by omega)).2.1]
  rw [Nat.mul_comm, ← Nat.two_pow_add_eq_or_of_lt h2]

/-- The quarter round. -/
def qr (a b c d : Nat) : Nat × Nat × Nat × Nat :=
  let a1 := (a + b) % 2 ^ 32
  let d1 := rot (d ^^^ a1) 16
  let c1 := (c + d1) % 2 ^ 32
  let b1 := rot (b ^^^ c1) 12
  let a2 := (a1 + b1) % 2 ^ 32
  let d2 := rot (d1 ^^^ a2) 8
  let c2 := (c1 + d2) % 2 ^ 32
  let b2 := rot (b1 ^^^ c2) 7
  (a2, b2, c2, d2)
theorem xor32 {a b : Nat} (ha : a < 2 ^ 32) (hb : b < 2 ^ 32) : a ^^^ b < 2 ^ 32 := Nat.xor_lt_two_pow ha hb
theorem mod32 (a : Nat) : a % 2 ^ 32 < 2 ^ 32 := Nat.mod_lt _ (by decide)
theorem qr_lt {a b c d : Nat} (ha : a < 2 ^ 32) (hb : b < 2 ^ 32) (hc : c < 2 ^ 32) (hd : d < 2 ^ 32) :
    (qr a b c d).1 < 2 ^ 32 ∧ (qr a b c d).2.1 < 2 ^ 32 ∧ (qr a b c d).2.2.1 < 2 ^ 32 ∧ (qr a b c d).2.2.2 < 2 ^ 32 := by
  have h1 := mod32 (a + b)
  have h2 := rot_lt (k := 16) (xor32 hd h1) (by decide)
  have h3 := mod32 (c + rot (d ^^^ (a + b) % 2 ^ 32) 16)
  have h4 := rot_lt (k := 12) (xor32 hb h3) (by decide)
  exact ⟨mod32 _, rot_lt (xor32 h4 (mod32 _)) (by decide), mod32 _, rot_lt (xor32 h2 (mod32 _)) (by decide)⟩

/-! ### the state: sixteen words -/
def Words32 (l : List Nat) : Prop := ∀ x ∈ l, x < 2 ^ 32
theorem Words32.getD {l : List Nat} (h : Words32 l) (i : Nat) : l.getD i 0 < 2 ^ 32 := by
  rw [List.getD_eq_getElem?_getD]
  rcases hi : l[i]? with _ | x
  · simp
  · exact h x (List.mem_of_getElem? hi)
theorem Words32.set {l : List Nat} (h : Words32 l) {n : Nat} (hn : n < 2 ^ 32) (i : Nat) : Words32 (l.set i n) := fun x hx => by
  rcases List.mem_or_eq_of_mem_set hx with hx | rfl
  · exact h x hx
  · exact hn
/-- A quarter round at four places. -/
def qrAt (s : List Nat) (i j k l : Nat) : List Nat :=
  let r := qr (s.getD i 0) (s.getD j 0) (s.getD k 0) (s.getD l 0)
  (((s.set i r.1).set j r.2.1).set k r.2.2.1).set l r.2.2.2
theorem qrAt_length (s : List Nat) (i j k l : Nat) : (qrAt s i j k l).length = s.length := by simp [qrAt]
theorem qrAt_ok {s : List Nat} (h : Words32 s) (i j k l : Nat) : Words32 (qrAt s i j k l) := by
  obtain ⟨h1, h2, h3, h4⟩ := qr_lt (h.getD i) (h.getD j) (h.getD k) (h.getD l)
  exact (((h.set h1 i).set h2 j).set h3 k).set h4 l
/-- The places of a double round's quarters. -/
def places : List (Nat × Nat × Nat × Nat) := [(0, 4, 8, 12), (1, 5, 9, 13), (2, 6, 10, 14), (3, 7, 11, 15), (0, 5, 10, 15), (1, 6, 11, 12), (2, 7, 8, 13), (3, 4, 9, 14)]
def qrs (s : List Nat) (ps : List (Nat × Nat × Nat × Nat)) : List Nat := ps.foldl (fun s p => qrAt s p.1 p.2.1 p.2.2.1 p.2.2.2) s
theorem qrs_length (ps : List (Nat × Nat × Nat × Nat)) : ∀ s, (qrs s ps).length = s.length := by
  induction ps with
  | nil => intro s; rfl
  | cons p ps ih => intro s; exact (ih _).trans (qrAt_length _ _ _ _ _)
theorem qrs_ok (ps : List (Nat × Nat × Nat × Nat)) : ∀ s, Words32 s → Words32 (qrs s ps) := by
  induction ps with
  | nil => intro s h; exact h
  | cons p ps ih => intro s h; exact ih _ (qrAt_ok h _ _ _ _)
theorem qrs_snoc (s : List Nat) (ps : List (Nat × Nat × Nat × Nat)) (p : Nat × Nat × Nat × Nat) : qrs s (ps ++ [p]) = qrAt (qrs s ps) p.1 p.2.1 p.2.2.1 p.2.2.2 := by simp [qrs]
def dbl (s : List Nat) : List Nat := qrs s places
def dbls (s : List Nat) : Nat → List Nat
  | 0 => s
  | n + 1 => dbl (dbls s n)
theorem dbls_length (s : List Nat) (n : Nat) : (dbls s n).length = s.length := by
  induction n with
  | zero => rfl
  | succ n ih => rw [dbls, dbl, qrs_length, ih]
theorem dbls_ok {s : List Nat} (h : Words32 s) (n : Nat) : Words32 (dbls s n) := by
  induction n with
  | zero => exact h
  | succ n ih => exact qrs_ok _ _ ih

/-- The words of bytes, four at a time. -/
def words4 (b : List Nat) (n : Nat) : List Nat := (List.range n).map fun i => loadN ((b.drop (4 * i)).take 4)
theorem words4_length (b : List Nat) (n : Nat) : (words4 b n).length = n := by simp [words4]
theorem words4_succ (b : List Nat) (n : Nat) : words4 b (n + 1) = words4 b n ++ [loadN ((b.drop (4 * n)).take 4)] := by simp [words4, List.range_succ]
theorem words4_ok {b : List Nat} (h : BytesOK b) (n : Nat) : Words32 (words4 b n) := by
  intro x hx
  obtain ⟨i, hi, rfl⟩ := List.mem_map.1 hx
  have h1 := loadN_lt ((h.drop (4 * i)).take 4)
  have h2 : ((b.drop (4 * i)).take 4).length ≤ 4 := by rw [List.length_take]; omega
  have h3 : (256 : Nat) ^ ((b.drop (4 * i)).take 4).length ≤ 256 ^ 4 := Nat.pow_le_pow_right (by decide) h2
  have h4 : (256 : Nat) ^ 4 = 2 ^ 32 := by decide
  omega
def consts : List Nat := [0x61707865, 0x3320646e, 0x79622d32, 0x6b206574]
/-- The state before the rounds. -/
def first (key : List Nat) (ctr : Nat) (nonce : List Nat) : List Nat := consts ++ words4 key 8 ++ [ctr] ++ words4 nonce 3
theorem first_length (key : List Nat) (ctr : Nat) (nonce : List Nat) : (first key ctr nonce).length = 16 := by simp [first, words4_length, consts]
theorem first_ok {key nonce : List Nat} {ctr : Nat} (hk : BytesOK key) (hc : ctr < 2 ^ 32) (hn : BytesOK nonce) : Words32 (first key ctr nonce) := by
  intro x hx
  simp only [first, List.mem_append] at hx
  rcases hx with ((hx | hx) | hx) | hx
  · simp only [consts, List.mem_cons, List.not_mem_nil, or_false] at hx
    omega
  · exact words4_ok hk 8 x hx
  · rw [List.mem_singleton] at hx; omega
  · exact words4_ok hn 3 x hx
/-- What is told of two states: the sums' bytes. -/
def told (v w : List Nat) : Nat → List Nat
  | 0 => []
  | n + 1 => told v w n ++ storeN ((v.getD n 0 + w.getD n 0) % 2 ^ 32) 4
theorem told_length (v w : List Nat) (n : Nat) : (told v w n).length = 4 * n := by
  induction n with
  | zero => rfl
  | succ n ih => rw [told, List.length_append, ih, storeN_length]; omega
theorem told_ok (v w : List Nat) (n : Nat) : BytesOK (told v w n) := by
  induction n with
  | zero => exact BytesOK.nil
  | succ n ih => exact ih.append (storeN_ok _ _)
/-- The block of a key, a counter and a nonce. -/
def blockN (key : List Nat) (ctr : Nat) (nonce : List Nat) : List Nat := told (dbls (first key ctr nonce) 10) (first key ctr nonce) 16
theorem blockN_length (key : List Nat) (ctr : Nat) (nonce : List Nat) : (blockN key ctr nonce).length = 64 := told_length _ _ _
theorem blockN_ok (key : List Nat) (ctr : Nat) (nonce : List Nat) : BytesOK (blockN key ctr nonce) := told_ok _ _ _
/-- Bytes with the blocks' bytes laid over them, n blocks at most. -/
def streamN (key : List Nat) (nonce : List Nat) : Nat → Nat → List Nat → List Nat
  | 0, _, _ => []
  | n + 1, ctr, b => if b = [] then [] else xorL (b.take 64) (blockN key ctr nonce) ++ streamN key nonce n ((ctr + 1) % 2 ^ 32) (b.drop 64)
end Go.Proofs.YtgmaahpnpjfghaaDoor
