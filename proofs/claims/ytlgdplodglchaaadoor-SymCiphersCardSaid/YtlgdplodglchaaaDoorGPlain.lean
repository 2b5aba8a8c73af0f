/- Texts put together: ChaPlain ChaStr PolPlain PolClampP. -/
import Derived.Test.YtlgdplodglchaaaDoorGLib
/- Plain laws of the quarter round: nothing of the program. -/
set_option linter.unusedVariables false
namespace Go.Proofs.YtlgdplodglchaaaDoor
/-- A word, turned k bits to the left. -/
def rot (x k : Nat) : Nat := x % 2 ^ (32 - k) * 2 ^ k + x / 2 ^ (32 - k)
theorem rot_lt {x k : Nat} (hx : x < 2 ^ 32) (hk : k ≤ 32) : rot x k < 2 ^ 32 := by
  have h1 : (2 : Nat) ^ 32 = 2 ^ (32 - k) * 2 ^ k := by rw [← Nat.pow_add]; congr 1; omega
  have h2 : x / 2 ^ (32 - k) < 2 ^ k := by rw [Nat.div_lt_iff_lt_mul (Nat.two_pow_pos _), Nat.mul_comm, ← h1]; exact hx
  have h3 : x % 2 ^ (32 - k) < 2 ^ (32 - k) := Nat.mod_lt _ (Nat.two_pow_pos _)
  have h4 : x % 2 ^ (32 - k) * 2 ^ k ≤ (2 ^ (32 - k) - 1) * 2 ^ k := Nat.mul_le_mul_right _ (by omega)
  have h5 : (2 ^ (32 - k) - 1) * 2 ^ k + 2 ^ k = 2 ^ (32 - k) * 2 ^ k := by
    rw [← Nat.succ_mul]
    congr 1
    have := Nat.two_pow_pos (32 - k)
    omega
  unfold rot
  omega
theorem rot_zero {x : Nat} (hx : x < 2 ^ 32) : rot x 0 = x := by
  unfold rot
  rw [Nat.sub_zero, Nat.pow_zero, Nat.mul_one, Nat.mod_eq_of_lt hx, Nat.div_eq_of_lt hx, Nat.add_zero]
/-- One bit more. -/
theorem rot_succ {x k : Nat} (hx : x < 2 ^ 32) (hk : k < 32) : rot x (k + 1) = if 2 ^ 32 ≤ rot x k * 2 then rot x k * 2 - 2 ^ 32 + 1 else rot x k * 2 := by
  have hm : 32 - k = (32 - (k + 1)) + 1 := by omega
  obtain ⟨m, hm2⟩ : ∃ m, m = 2 ^ (32 - (k + 1)) := ⟨_, rfl⟩
  obtain ⟨p, hp⟩ : ∃ p, p = 2 ^ k := ⟨_, rfl⟩
  have hp0 : 0 < p := by rw [hp]; exact Nat.two_pow_pos k
  have hm0 : 0 < m := by rw [hm2]; exact Nat.two_pow_pos _
  have hmp : m * 2 * p = 2 ^ 32 := by
    rw [hm2, hp, ← Nat.pow_succ, show (32 - (k + 1)).succ = 32 - k by omega, ← Nat.pow_add]
    congr 1
    omega
  have e1 : rot x k = x % (m * 2) * p + x / (m * 2) := by unfold rot; rw [hm, Nat.pow_succ, ← hm2, ← hp]
  have e2 : rot x (k + 1) = x % m * (p * 2) + x / m := by unfold rot; rw [Nat.pow_succ, ← hm2, ← hp]
  have e3 : x % (m * 2) = x % m + m * (x / m % 2) := Nat.mod_mul
  have e4 : x / (m * 2) = x / m / 2 := by rw [Nat.div_div_eq_div_mul]
  have hq : x / m < p * 2 := by
    rw [Nat.div_lt_iff_lt_mul hm0]
    have : p * 2 * m = m * 2 * p := by rw [Nat.mul_comm, Nat.mul_comm p 2, ← Nat.mul_assoc]
    omega
  have hr : x % m < m := Nat.mod_lt _ hm0
  generalize x % m = r at *
  generalize x / m = q at *
  have hrp : r * (p * 2) = 2 * (r * p) := by rw [← Nat.mul_assoc, Nat.mul_comm]
  rw [e1, e2, e3, e4]
  have hmpp : m * p * 2 = 2 ^ 32 := by rw [← hmp, Nat.mul_assoc, Nat.mul_comm p 2, ← Nat.mul_assoc]
  have hrp2 : r * p + p ≤ m * p := by rw [← Nat.succ_mul]; exact Nat.mul_le_mul_right _ hr
  rcases Nat.mod_two_eq_zero_or_one q with h | h
  · rw [h, Nat.mul_zero, Nat.add_zero, if_neg (by omega)]
    omega
  · rw [h, Nat.mul_one, Nat.add_mul r m p, if_pos (by omega)]
    omega
/-- The rotation as the machine reckons it. -/
theorem rot_bits {x k : Nat} (hx : x < 2 ^ 32) (hk : 0 < k) (hk2 : k < 32) : bits .or .u32 (IntKind.u32.wrap ((x : Int) * 2 ^ k)) ((x : Int) / 2 ^ (32 - k)) = ((rot x k : Nat) : Int) := by
  have h1 : (2 : Nat) ^ 32 = 2 ^ (32 - k) * 2 ^ k := by rw [← Nat.pow_add]; congr 1; omega
  have h2 : x / 2 ^ (32 - k) < 2 ^ k := by rw [Nat.div_lt_iff_lt_mul (Nat.two_pow_pos _), Nat.mul_comm, ← h1]; exact hx
  have h3 : IntKind.u32.wrap ((x : Int) * 2 ^ k) = ((x * 2 ^ k % 2 ^ 32 : Nat) : Int) := by
    have := wrapM_u (k := .u32) rfl (x * 2 ^ k)
    rw [show ((x * 2 ^ k : Nat) : Int) = (x : Int) * 2 ^ k by simp] at this
    exact this
  have h4 : x * 2 ^ k % 2 ^ 32 = x % 2 ^ (32 - k) * 2 ^ k := by
    rw [h1]
    exact Nat.mul_mod_mul_right _ _ _
  have h5 : ((x : Int) / 2 ^ (32 - k)) = ((x / 2 ^ (32 - k) : Nat) : Int) := by simp
  have h6 : (2 : Nat) ^ k ≤ 2 ^ 32 := Nat.pow_le_pow_right (by decide) (by omega)
  rw [h3, h5, h4]
  have hlt := rot_lt hx (Nat.le_of_lt hk2)
  unfold rot at hlt ⊢
  rw [(bits_u (k := .u32) rfl _ _ (show x % 2 ^ (32 - k) * 2 ^ k < 2 ^ 32 by omega) (show x / 2 ^ (32 - k) < 2 ^ 32 by omega)).2.1]
  rw [Nat.mul_comm, ← Nat.two_pow_add_eq_or_of_lt h2]
/-- The quarter round. -/
def qr (a b c d : Nat) : Nat × Nat × Nat × Nat :=
  let a1 := (a + b) % 2 ^ 32
  let d1 := rot (d ^^^ a1) 16
  let c1 := (c + d1) % 2 ^ 32
  let b1 := rot (b ^^^ c1) 12
  let a2 := (a1 + b1) % 2 ^ 32
  let d2 := rot (d1 ^^^ a2) 8
  let c2 := (c1 + d2) % 2 ^ 32
  let b2 := rot (b1 ^^^ c2) 7
  (a2, b2, c2, d2)
theorem xor32 {a b : Nat} (ha : a < 2 ^ 32) (hb : b < 2 ^ 32) : a ^^^ b < 2 ^ 32 := Nat.xor_lt_two_pow ha hb
theorem mod32 (a : Nat) : a % 2 ^ 32 < 2 ^ 32 := Nat.mod_lt _ (by decide)
theorem qr_lt {a b c d : Nat} (ha : a < 2 ^ 32) (hb : b < 2 ^ 32) (hc : c < 2 ^ 32) (hd : d < 2 ^ 32) :
    (qr a b c d).1 < 2 ^ 32 ∧ (qr a b c d).2.1 < 2 ^ 32 ∧ (qr a b c d).2.2.1 < 2 ^ 32 ∧ (qr a b c d).2.2.2 < 2 ^ 32 := by
  have h1 := mod32 (a + b)
  have h2 := rot_lt (k := 16) (xor32 hd h1) (by decide)
  have h3 := mod32 (c + rot (d ^^^ (a + b) % 2 ^ 32) 16)
  have h4 := rot_lt (k := 12) (xor32 hb h3) (by decide)
  exact ⟨mod32 _, rot_lt (xor32 h4 (mod32 _)) (by decide), mod32 _, rot_lt (xor32 h2 (mod32 _)) (by decide)⟩
/-! ### the state: sixteen words -/
def Words32 (l : List Nat) : Prop := ∀ x ∈ l, x < 2 ^ 32
theorem Words32.getD {l : List Nat} (h : Words32 l) (i : Nat) : l.getD i 0 < 2 ^ 32 := by
  rw [List.getD_eq_getElem?_getD]
  rcases hi : l[i]? with _ | x
  · simp
  · exact h x (List.mem_of_getElem? hi)
theorem Words32.set {l : List Nat} (h : Words32 l) {n : Nat} (hn : n < 2 ^ 32) (i : Nat) : Words32 (l.set i n) := fun x hx => by
  rcases List.mem_or_eq_of_mem_set hx with hx | rfl
  · exact h x hx
  · exact hn
/-- A quarter round at four places. -/
def qrAt (s : List Nat) (i j k l : Nat) : List Nat :=
  let r := qr (s.getD i 0) (s.getD j 0) (s.getD k 0) (s.getD l 0)
  (((s.set i r.1).set j r.2.1).set k r.2.2.1).set l r.2.2.2
theorem qrAt_length (s : List Nat) (i j k l : Nat) : (qrAt s i j k l).length = s.length := by simp [qrAt]
theorem qrAt_ok {s : List Nat} (h : Words32 s) (i j k l : Nat) : Words32 (qrAt s i j k l) := by
  obtain ⟨h1, h2, h3, h4⟩ := qr_lt (h.getD i) (h.getD j) (h.getD k) (h.getD l)
  exact (((h.set h1 i).set h2 j).set h3 k).set h4 l
/-- The places of a double round's quarters. -/
def places : List (Nat × Nat × Nat × Nat) := [(0, 4, 8, 12), (1, 5, 9, 13), (2, 6, 10, 14), (3, 7, 11, 15), (0, 5, 10, 15), (1, 6, 11, 12), (2, 7, 8, 13), (3, 4, 9, 14)]
def qrs (s : List Nat) (ps : List (Nat × Nat × Nat × Nat)) : List Nat := ps.foldl (fun s p => qrAt s p.1 p.2.1 p.2.2.1 p.2.2.2) s
theorem qrs_length (ps : List (Nat × Nat × Nat × Nat)) : ∀ s, (qrs s ps).length = s.length := by
  induction ps with
  | nil => intro s; rfl
  | cons p ps ih => intro s; exact (ih _).trans (qrAt_length _ _ _ _ _)
theorem qrs_ok (ps : List (Nat × Nat × Nat × Nat)) : ∀ s, Words32 s → Words32 (qrs s ps) := by
  induction ps with
  | nil => intro s h; exact h
  | cons p ps ih => intro s h; exact ih _ (qrAt_ok h _ _ _ _)
theorem qrs_snoc (s : List Nat) (ps : List (Nat × Nat × Nat × Nat)) (p : Nat × Nat × Nat × Nat) : qrs s (ps ++ [p]) = qrAt (qrs s ps) p.1 p.2.1 p.2.2.1 p.2.2.2 := by simp [qrs]
def dbl (s : List Nat) : List Nat := qrs s places
def dbls (s : List Nat) : Nat → List Nat
  | 0 => s
  | n + 1 => dbl (dbls s n)
theorem dbls_length (s : List Nat) (n : Nat) : (dbls s n).length = s.length := by
  induction n with
  | zero => rfl
  | succ n ih => rw [dbls, dbl, qrs_length, ih]
theorem dbls_ok {s : List Nat} (h : Words32 s) (n : Nat) : Words32 (dbls s n) := by
  induction n with
  | zero => exact h
  | succ n ih => exact qrs_ok _ _ ih
/-- The words of bytes, four at a time. -/
def words4 (b : List Nat) (n : Nat) : List Nat := (List.range n).map fun i => loadN ((b.drop (4 * i)).take 4)
theorem words4_length (b : List Nat) (n : Nat) : (words4 b n).length = n := by simp [words4]
theorem words4_succ (b : List Nat) (n : Nat) : words4 b (n + 1) = words4 b n ++ [loadN ((b.drop (4 * n)).take 4)] := by simp [words4, List.range_succ]
theorem words4_ok {b : List Nat} (h : BytesOK b) (n : Nat) : Words32 (words4 b n) := by
  intro x hx
  obtain ⟨i, hi, rfl⟩ := List.mem_map.1 hx
  have h1 := loadN_lt ((h.drop (4 * i)).take 4)
  have h2 : ((b.drop (4 * i)).take 4).length ≤ 4 := by rw [List.length_take]; omega
  have h3 : (256 : Nat) ^ ((b.drop (4 * i)).take 4).length ≤ 256 ^ 4 := Nat.pow_le_pow_right (by decide) h2
  have h4 : (256 : Nat) ^ 4 = 2 ^ 32 := by decide
  omega
def consts : List Nat := [0x61707865, 0x3320646e, 0x79622d32, 0x6b206574]
/-- The state before the rounds. -/
def first (key : List Nat) (ctr : Nat) (nonce : List Nat) : List Nat := consts ++ words4 key 8 ++ [ctr] ++ words4 nonce 3
theorem first_length (key : List Nat) (ctr : Nat) (nonce : List Nat) : (first key ctr nonce).length = 16 := by simp [first, words4_length, consts]
theorem first_ok {key nonce : List Nat} {ctr : Nat} (hk : BytesOK key) (hc : ctr < 2 ^ 32) (hn : BytesOK nonce) : Words32 (first key ctr nonce) := by
  intro x hx
  simp only [first, List.mem_append] at hx
  rcases hx with ((hx | hx) | hx) | hx
  · simp only [consts, List.mem_cons, List.not_mem_nil, or_false] at hx
    omega
  · exact words4_ok hk 8 x hx
  · rw [List.mem_singleton] at hx; omega
  · exact words4_ok hn 3 x hx
/-- What is told of two states: the sums' bytes. -/
def told (v w : List Nat) : Nat → List Nat
  | 0 => []
  | n + 1 => told v w n ++ storeN ((v.getD n 0 + w.getD n 0) % 2 ^ 32) 4
theorem told_length (v w : List Nat) (n : Nat) : (told v w n).length = 4 * n := by
  induction n with
  | zero => rfl
  | succ n ih => rw [told, List.length_append, ih, storeN_length]; omega
theorem told_ok (v w : List Nat) (n : Nat) : BytesOK (told v w n) := by
  induction n with
  | zero => exact BytesOK.nil
  | succ n ih => exact ih.append (storeN_ok _ _)
/-- The block of a key, a counter and a nonce. -/
def blockN (key : List Nat) (ctr : Nat) (nonce : List Nat) : List Nat := told (dbls (first key ctr nonce) 10) (first key ctr nonce) 16
theorem blockN_length (key : List Nat) (ctr : Nat) (nonce : List Nat) : (blockN key ctr nonce).length = 64 := told_length _ _ _
theorem blockN_ok (key : List Nat) (ctr : Nat) (nonce : List Nat) : BytesOK (blockN key ctr nonce) := told_ok _ _ _
end Go.Proofs.YtlgdplodglchaaaDoor
/- Plain laws of the stream: nothing of the program. -/
set_option linter.unusedVariables false
namespace Go.Proofs.YtlgdplodglchaaaDoor
/-- Bytes with the blocks' bytes laid over them. -/
def stream (key : List Nat) (c : Nat) (nonce : List Nat) (b : List Nat) : List Nat := b.mapIdx fun i x => x ^^^ (blockN key ((c + i / 64) % 2 ^ 32) nonce).getD (i % 64) 0
theorem stream_length (key : List Nat) (c : Nat) (nonce : List Nat) (b : List Nat) : (stream key c nonce b).length = b.length := by simp [stream]
theorem stream_append (key : List Nat) (c k : Nat) (nonce : List Nat) (b d : List Nat) (hk : b.length = 64 * k) : stream key c nonce (b ++ d) = stream key c nonce b ++ stream key ((c + k) % 2 ^ 32) nonce d := by
  unfold stream
  rw [List.mapIdx_append, hk]
  have e : (fun (i : Nat) (x : Nat) => x ^^^ (blockN key ((c + (i + 64 * k) / 64) % 2 ^ 32) nonce).getD ((i + 64 * k) % 64) 0) = fun i x => x ^^^ (blockN key (((c + k) % 2 ^ 32 + i / 64) % 2 ^ 32) nonce).getD (i % 64) 0 := by
    funext i x
    rw [show (i + 64 * k) / 64 = k + i / 64 by omega, show (i + 64 * k) % 64 = i % 64 by omega, show (c + (k + i / 64)) % 2 ^ 32 = ((c + k) % 2 ^ 32 + i / 64) % 2 ^ 32 by omega]
  rw [e]
theorem stream_short (key : List Nat) (c : Nat) (nonce : List Nat) (d : List Nat) (hd : d.length ≤ 64) (hc : c < 2 ^ 32) : stream key c nonce d = xorL d (blockN key c nonce) := by
  have hl := blockN_length key c nonce
  apply List.ext_getElem
  · rw [stream_length, xorL_length, hl]; omega
  · intro i h1 h2
    rw [stream_length] at h1
    simp only [stream, xorL, List.getElem_mapIdx, List.getElem_zipWith]
    rw [show i / 64 = 0 by omega, show i % 64 = i by omega, Nat.add_zero, Nat.mod_eq_of_lt hc, List.getD_eq_getElem?_getD, List.getElem?_eq_getElem (by omega), Option.getD_some]
theorem stream_chunk (key : List Nat) (c k n : Nat) (nonce : List Nat) (b : List Nat) (hk : 64 * k ≤ b.length) (hn : n ≤ 64) : stream key c nonce (b.take (64 * k + n)) = stream key c nonce (b.take (64 * k)) ++ xorL ((b.drop (64 * k)).take n) (blockN key ((c + k) % 2 ^ 32) nonce) := by
  rw [List.take_add, stream_append key c k nonce _ _ (by rw [List.length_take]; omega), stream_short _ _ _ _ (by rw [List.length_take]; omega) (Nat.mod_lt _ (by decide))]
theorem stream_ok (key : List Nat) (c : Nat) (nonce : List Nat) {b : List Nat} (hb : BytesOK b) : BytesOK (stream key c nonce b) := by
  intro x hx
  obtain ⟨i, hi, rfl⟩ := List.mem_mapIdx.1 hx
  have h1 := hb _ (List.getElem_mem hi)
  have h2 := (blockN_ok key ((c + i / 64) % 2 ^ 32) nonce).getD (i % 64)
  exact Nat.xor_lt_two_pow (n := 8) h1 h2
/-- Laid over twice they are what they were. -/
theorem stream_twice (key : List Nat) (c : Nat) (nonce : List Nat) (b : List Nat) : stream key c nonce (stream key c nonce b) = b := by
  apply List.ext_getElem
  · rw [stream_length, stream_length]
  · intro i h1 h2
    simp only [stream, List.getElem_mapIdx]
    rw [Nat.xor_assoc, Nat.xor_self, Nat.xor_zero]
end Go.Proofs.YtlgdplodglchaaaDoor
/- Poly1305 on numbers: nothing of the program. -/
set_option linter.unusedVariables false
namespace Go.Proofs.YtlgdplodglchaaaDoor
/-- A number's three words (the rest by 2^192). -/
def num (n : Nat) : List Nat := [n % 18446744073709551616, n / 18446744073709551616 % 18446744073709551616, n / 340282366920938463463374607431768211456 % 18446744073709551616]
/-- What stands above 2^130 is added five times to what stands below. -/
def lessN (a : Nat) : Nat := a % 2 ^ 130 + 5 * (a / 2 ^ 130)
def polyP : Nat := 2 ^ 130 - 5
/-- The first words of a sum. -/
def plusL (a b k : Nat) : List Nat := (num (a + b)).take k ++ (num a).drop k
def plusC (a b : Nat) : Nat → Nat
  | 0 => 0
  | k + 1 => ((num a).getD k 0 + (num b).getD k 0 + plusC a b k) / 18446744073709551616
theorem num_get (n k : Nat) (hk : k < 3) : (num n).getD k 0 < 18446744073709551616 := by
  match k, hk with
  | 0, _ => exact Nat.mod_lt _ (by decide)
  | 1, _ => exact Nat.mod_lt _ (by decide)
  | 2, _ => exact Nat.mod_lt _ (by decide)
theorem div_sum (a b : Nat) : (a + b) / 18446744073709551616 = a / 18446744073709551616 + b / 18446744073709551616 + (a % 18446744073709551616 + b % 18446744073709551616) / 18446744073709551616 := by omega
theorem div_sum3 (x y c : Nat) : (x + y + c) / 18446744073709551616 = x / 18446744073709551616 + y / 18446744073709551616 + (x % 18446744073709551616 + y % 18446744073709551616 + c) / 18446744073709551616 := by omega
theorem div_two (a : Nat) : a / 340282366920938463463374607431768211456 = a / 18446744073709551616 / 18446744073709551616 := by omega
theorem plus0 (a b : Nat) : (a % 18446744073709551616 + b % 18446744073709551616) % 18446744073709551616 = (a + b) % 18446744073709551616 := by omega
theorem plus1 (a b : Nat) : (a / 18446744073709551616 % 18446744073709551616 + b / 18446744073709551616 % 18446744073709551616 + (a % 18446744073709551616 + b % 18446744073709551616) / 18446744073709551616) % 18446744073709551616 = (a + b) / 18446744073709551616 % 18446744073709551616 := by
  rw [div_sum a b]
  generalize (a % 18446744073709551616 + b % 18446744073709551616) / 18446744073709551616 = c
  generalize a / 18446744073709551616 = x
  generalize b / 18446744073709551616 = y
  omega
theorem plus2 (a b : Nat) : (a / 340282366920938463463374607431768211456 % 18446744073709551616 + b / 340282366920938463463374607431768211456 % 18446744073709551616 + (a / 18446744073709551616 % 18446744073709551616 + b / 18446744073709551616 % 18446744073709551616 + (a % 18446744073709551616 + b % 18446744073709551616) / 18446744073709551616) / 18446744073709551616) % 18446744073709551616 = (a + b) / 340282366920938463463374607431768211456 % 18446744073709551616 := by
  rw [div_two (a + b), div_sum a b, div_sum3 (a / 18446744073709551616) (b / 18446744073709551616), ← div_two a, ← div_two b]
  generalize (a / 18446744073709551616 % 18446744073709551616 + b / 18446744073709551616 % 18446744073709551616 + (a % 18446744073709551616 + b % 18446744073709551616) / 18446744073709551616) / 18446744073709551616 = c
  generalize a / 340282366920938463463374607431768211456 = x
  generalize b / 340282366920938463463374607431768211456 = y
  omega

theorem plusC_le (a b : Nat) : ∀ k, k ≤ 3 → plusC a b k ≤ 1
  | 0, _ => Nat.zero_le _
  | k + 1, h => by
    have h1 := plusC_le a b k (by omega)
    have h2 := num_get a k (by omega)
    have h3 := num_get b k (by omega)
    rw [plusC]
    omega
theorem plus_step (a b k : Nat) (hk : k < 3) : ((num a).getD k 0 + (num b).getD k 0 + plusC a b k) % 18446744073709551616 = (num (a + b)).getD k 0 := by
  match k, hk with
  | 0, _ => exact plus0 a b
  | 1, _ => exact plus1 a b
  | 2, _ => exact plus2 a b
theorem plusL_get (a b k : Nat) (hk : k < 3) : (plusL a b k).getD k 0 = (num a).getD k 0 := by
  match k, hk with
  | 0, _ => rfl
  | 1, _ => rfl
  | 2, _ => rfl
theorem plusL_set (a b k : Nat) (hk : k < 3) : plusL a b (k + 1) = (plusL a b k).set k ((num (a + b)).getD k 0) := by
  match k, hk with
  | 0, _ => rfl
  | 1, _ => rfl
  | 2, _ => rfl
theorem plusL_length (a b k : Nat) (hk : k ≤ 3) : (plusL a b k).length = 3 := by
  match k, hk with
  | 0, _ => rfl
  | 1, _ => rfl
  | 2, _ => rfl
  | 3, _ => rfl
/-! ### the product -/
def mulI (x : Nat) (r : List Nat) (i : Nat) (w : List Nat) : Nat → List Nat × Nat
  | 0 => (w, 0)
  | j + 1 => let s := mulI x r i w j; let t := s.1.getD (i + j) 0 + x * r.getD j 0 + s.2; (s.1.set (i + j) (t % 18446744073709551616), t / 18446744073709551616)
def mulO (a r : List Nat) : Nat → List Nat
  | 0 => [0, 0, 0, 0, 0]
  | i + 1 => let s := mulI (a.getD i 0) r i (mulO a r i) 2; s.1.set (i + 2) ((s.1.getD (i + 2) 0 + s.2) % 18446744073709551616)
/-- A number's five words. -/
def num5 (n : Nat) : List Nat := [n % 18446744073709551616, n / 18446744073709551616 % 18446744073709551616, n / 340282366920938463463374607431768211456 % 18446744073709551616, n / 6277101735386680763835789423207666416102355444464034512896 % 18446744073709551616, n / 115792089237316195423570985008687907853269984665640564039457584007913129639936 % 18446744073709551616]
theorem num5_of {w0 w1 w2 w3 w4 n : Nat} (h : w0 + 18446744073709551616 * w1 + 340282366920938463463374607431768211456 * w2 + 6277101735386680763835789423207666416102355444464034512896 * w3 + 115792089237316195423570985008687907853269984665640564039457584007913129639936 * w4 = n)
    (h0 : w0 < 18446744073709551616) (h1 : w1 < 18446744073709551616) (h2 : w2 < 18446744073709551616) (h3 : w3 < 18446744073709551616) (h4 : w4 < 18446744073709551616) : [w0, w1, w2, w3, w4] = num5 n := by
  subst h
  simp only [num5, List.cons.injEq, and_true]
  refine ⟨?_, ?_, ?_, ?_, ?_⟩ <;> omega
theorem mul_step (w x y c : Nat) (hw : w < 18446744073709551616) (hx : x < 18446744073709551616) (hy : y < 18446744073709551616) (hc : c < 18446744073709551616) :
    (w + x * y + c) / 18446744073709551616 < 18446744073709551616 := by
  have h : x * y ≤ 18446744073709551615 * 18446744073709551615 := Nat.mul_le_mul (by omega) (by omega)
  generalize x * y = p at h
  omega
/-- The words that the code makes. -/
theorem mul_words (w x y c : Nat) (hw : w < 18446744073709551616) (hx : x < 18446744073709551616) (hy : y < 18446744073709551616) (hc : c < 18446744073709551616) :
    (w + (x * y % 18446744073709551616 + c) % 18446744073709551616) % 18446744073709551616 = (w + x * y + c) % 18446744073709551616 ∧
    x * y / 18446744073709551616 + (x * y % 18446744073709551616 + c) / 18446744073709551616 < 18446744073709551616 ∧
    x * y / 18446744073709551616 + (x * y % 18446744073709551616 + c) / 18446744073709551616 + (w + (x * y % 18446744073709551616 + c) % 18446744073709551616) / 18446744073709551616 = (w + x * y + c) / 18446744073709551616 := by
  have h : x * y ≤ 18446744073709551615 * 18446744073709551615 := Nat.mul_le_mul (by omega) (by omega)
  generalize x * y = p at h
  refine ⟨?_, ?_, ?_⟩ <;> omega
theorem parts (t : Nat) : ∃ d m, t / 18446744073709551616 = d ∧ t % 18446744073709551616 = m ∧ t = 18446744073709551616 * d + m ∧ m < 18446744073709551616 := ⟨_, _, rfl, rfl, (Nat.div_add_mod _ _).symm, Nat.mod_lt _ (by decide)⟩
theorem mul_out (a0 a1 a2 r0 r1 b c d : Nat) (hc : b * b = c) (hd : c * b = d) : (a0 + b * a1 + c * a2) * (r0 + b * r1) = a0 * r0 + b * (a0 * r1) + b * (a1 * r0) + c * (a1 * r1) + c * (a2 * r0) + d * (a2 * r1) := by
  have e1 : a0 * (b * r1) = b * (a0 * r1) := Nat.mul_left_comm _ _ _
  have e2 : b * a1 * r0 = b * (a1 * r0) := Nat.mul_assoc _ _ _
  have e3 : b * a1 * (b * r1) = c * (a1 * r1) := by rw [Nat.mul_mul_mul_comm, hc]
  have e4 : c * a2 * r0 = c * (a2 * r0) := Nat.mul_assoc _ _ _
  have e5 : c * a2 * (b * r1) = d * (a2 * r1) := by rw [Nat.mul_mul_mul_comm, hd]
  rw [Nat.mul_add, Nat.add_mul, Nat.add_mul, Nat.add_mul, Nat.add_mul, e1, e2, e3, e4, e5]
  omega
theorem mulO_eq {a0 a1 a2 r0 r1 : Nat} (h0 : a0 < 18446744073709551616) (h1 : a1 < 18446744073709551616) (h2 : a2 < 18446744073709551616) (k0 : r0 < 18446744073709551616) (k1 : r1 < 18446744073709551616) :
    mulO [a0, a1, a2] [r0, r1] 3 = num5 ((a0 + 18446744073709551616 * a1 + 340282366920938463463374607431768211456 * a2) * (r0 + 18446744073709551616 * r1)) := by
  rw [mul_out a0 a1 a2 r0 r1 18446744073709551616 340282366920938463463374607431768211456 6277101735386680763835789423207666416102355444464034512896 (by decide) (by decide)]
  simp only [mulO, mulI, List.getD_cons_zero, List.getD_cons_succ, List.set_cons_zero, List.set_cons_succ, Nat.zero_add, Nat.add_zero, Nat.reduceAdd]
  have q : ∀ {x y : Nat}, x < 18446744073709551616 → y < 18446744073709551616 → x * y ≤ 18446744073709551615 * 18446744073709551615 := fun hx hy => Nat.mul_le_mul (by omega) (by omega)
  have b00 := q h0 k0
  have b01 := q h0 k1
  have b10 := q h1 k0
  have b11 := q h1 k1
  have b20 := q h2 k0
  have b21 := q h2 k1
  generalize a0 * r0 = p00 at *
  generalize a0 * r1 = p01 at *
  generalize a1 * r0 = p10 at *
  generalize a1 * r1 = p11 at *
  generalize a2 * r0 = p20 at *
  generalize a2 * r1 = p21 at *
  clear q h0 h1 h2 k0 k1
  obtain ⟨d1, m1, e1, f1, g1, l1⟩ := parts p00
  rw [e1, f1]
  obtain ⟨d2, m2, e2, f2, g2, l2⟩ := parts (p01 + d1)
  rw [e2, f2]
  have u2 : d2 < 18446744073709551616 := by omega
  rw [Nat.mod_eq_of_lt u2]
  obtain ⟨d3, m3, e3, f3, g3, l3⟩ := parts (m2 + p10)
  rw [e3, f3]
  obtain ⟨d4, m4, e4, f4, g4, l4⟩ := parts (d2 + p11 + d3)
  rw [e4, f4]
  have u3 : d3 < 18446744073709551616 := by omega
  have u4 : d4 < 18446744073709551616 := by omega
  rw [Nat.mod_eq_of_lt u4]
  obtain ⟨d5, m5, e5, f5, g5, l5⟩ := parts (m4 + p20)
  rw [e5, f5]
  obtain ⟨d6, m6, e6, f6, g6, l6⟩ := parts (d4 + p21 + d5)
  rw [e6, f6]
  have u5 : d5 < 18446744073709551616 := by omega
  have u6 : d6 < 18446744073709551616 := by omega
  rw [Nat.mod_eq_of_lt u6]
  refine num5_of ?_ l1 l3 l5 l6 u6
  omega
end Go.Proofs.YtlgdplodglchaaaDoor
/- What a key is multiplied with: plain. -/
set_option linter.unusedVariables false
namespace Go.Proofs.YtlgdplodglchaaaDoor
def clampB (i c : Nat) : Nat := if i % 4 = 3 then c % 16 else if 0 < i ∧ i % 4 = 0 then c / 4 * 4 else c
def clampL (key : List Nat) : List Nat := (key.take 16).mapIdx clampB
theorem clampL_length (key : List Nat) (h : key.length = 32) : (clampL key).length = 16 := by simp [clampL, h]
theorem clampB_lt {i c : Nat} (h : c < 256) : clampB i c < 256 := by
  unfold clampB
  split
  · omega
  · split <;> omega
theorem clampL_ok {key : List Nat} (h : BytesOK key) : BytesOK (clampL key) := fun x hx => by
  obtain ⟨i, hi, rfl⟩ := List.mem_mapIdx.1 hx
  exact clampB_lt (h _ (List.mem_of_mem_take (List.getElem_mem hi)))
theorem clampL_take (key : List Nat) (k : Nat) (hk : k < 16) (hl : key.length = 32) : (clampL key).take (k + 1) = (clampL key).take k ++ [clampB k (key.getD k 0)] := by
  rw [take_snoc _ k 0 (by rw [clampL_length key hl]; exact hk)]
  congr 2
  simp [clampL, List.getD_eq_getElem?_getD, hk, hl]
  rw [List.getElem?_eq_getElem (by omega)]
  rfl
theorem and15_u8 {c : Nat} (h : c < 256) : bits .and .u8 (c : Int) 15 = ((c % 16 : Nat) : Int) := by
  have h1 := (bits_u (k := .u8) rfl c 15 h (by decide)).1
  rw [show c &&& 15 = c % 16 from Nat.and_two_pow_sub_one_eq_mod c 4] at h1
  exact h1
theorem and252_u8 {c : Nat} (h : c < 256) : bits .and .u8 (c : Int) 252 = ((c / 4 * 4 : Nat) : Int) := by
  have h1 := (bits_u (k := .u8) rfl c 252 h (by decide)).1
  have h2 : ∀ c : Fin 256, c.val &&& 252 = c.val / 4 * 4 := by decide +kernel
  rw [h2 ⟨c, h⟩] at h1
  exact h1
end Go.Proofs.YtlgdplodglchaaaDoor
