/- Plain laws on numbers and rows of bytes: nothing of the program. -/
import Derived.Laws.BitsLemmas
import Derived.Laws.Entries
import Derived.IntWalk
set_option linter.unusedVariables false
namespace Go.Proofs.Ytkkhdjdoifnoaaa

/-! ### rows -/
/-- Numbers as the walk reads them. -/
def ints (l : List Nat) : List Int := l.map fun n : Nat => (n : Int)
theorem ints_length (l : List Nat) : (ints l).length = l.length := by simp [ints]
theorem ints_getD (l : List Nat) (i : Nat) : (ints l).getD i 0 = ((l.getD i 0 : Nat) : Int) := by
  simp only [ints, List.getD_eq_getElem?_getD, List.getElem?_map]
  cases l[i]? <;> rfl
theorem ints_append (l m : List Nat) : ints (l ++ m) = ints l ++ ints m := by simp [ints]
theorem ints_set (l : List Nat) (i n : Nat) : (ints l).set i (n : Int) = ints (l.set i n) := by
  simp only [ints, List.map_set]
theorem ints_replicate (m n : Nat) : List.replicate m (n : Int) = ints (List.replicate m n) := by simp [ints]
theorem ints_take (l : List Nat) (i : Nat) : (ints l).take i = ints (l.take i) := by simp [ints]
theorem ints_drop (l : List Nat) (i : Nat) : (ints l).drop i = ints (l.drop i) := by simp [ints]
theorem ints_inj {l m : List Nat} (h : ints l = ints m) : l = m := by
  unfold ints at h
  exact (List.map_inj_right (fun a b h => Int.ofNat.inj h)).1 h
theorem ints_of {l : List Int} (h : ∀ x ∈ l, 0 ≤ x) : l = ints (l.map Int.toNat) := by
  unfold ints
  rw [List.map_map]
  conv => lhs; rw [← List.map_id l]
  refine List.map_congr_left fun x hx => ?_
  have := h x hx
  simp
  omega

def BytesOK (l : List Nat) : Prop := ∀ x ∈ l, x < 256
theorem BytesOK.nil : BytesOK [] := fun _ h => by simp at h
theorem BytesOK.append {l m : List Nat} (h : BytesOK l) (k : BytesOK m) : BytesOK (l ++ m) := fun x hx => by
  rcases List.mem_append.1 hx with hx | hx
  · exact h x hx
  · exact k x hx
theorem BytesOK.take {l : List Nat} (h : BytesOK l) (i : Nat) : BytesOK (l.take i) := fun x hx => h x (List.mem_of_mem_take hx)
theorem BytesOK.drop {l : List Nat} (h : BytesOK l) (i : Nat) : BytesOK (l.drop i) := fun x hx => h x (List.mem_of_mem_drop hx)
theorem BytesOK.cons {b : Nat} {l : List Nat} (hb : b < 256) (h : BytesOK l) : BytesOK (b :: l) := fun x hx => by
  rcases List.mem_cons.1 hx with rfl | hx
  · exact hb
  · exact h x hx
theorem BytesOK.head {b : Nat} {l : List Nat} (h : BytesOK (b :: l)) : b < 256 := h b (by simp)
theorem BytesOK.tail {b : Nat} {l : List Nat} (h : BytesOK (b :: l)) : BytesOK l := fun x hx => h x (by simp [hx])
theorem BytesOK.getD {l : List Nat} (h : BytesOK l) (i : Nat) : l.getD i 0 < 256 := by
  rw [List.getD_eq_getElem?_getD]
  rcases hi : l[i]? with _ | x
  · simp
  · exact h x (List.mem_of_getElem? hi)
theorem BytesOK.replicate {n m : Nat} (h : n < 256) : BytesOK (List.replicate m n) := fun x hx => by
  rw [List.eq_of_mem_replicate hx]; exact h
theorem BytesOK.set {l : List Nat} (h : BytesOK l) {n : Nat} (hn : n < 256) (i : Nat) : BytesOK (l.set i n) := fun x hx => by
  rcases List.mem_or_eq_of_mem_set hx with hx | rfl
  · exact h x hx
  · exact hn

theorem take_snoc {α : Type} (l : List α) (k : Nat) (d : α) (h : k < l.length) : l.take (k + 1) = l.take k ++ [l.getD k d] := by
  rw [List.take_succ_eq_append_getElem h, List.getD_eq_getElem?_getD, List.getElem?_eq_getElem h]; rfl

/-! ### numbers of bytes -/
/-- The number of bytes, the lowest first. -/
def loadN : List Nat → Nat
  | [] => 0
  | b :: l => b + 256 * loadN l
theorem loadN_lt {l : List Nat} (h : BytesOK l) : loadN l < 256 ^ l.length := by
  induction l with
  | nil => simp [loadN]
  | cons b l ih =>
    have hb := h.head
    have := ih h.tail
    simp only [loadN, List.length_cons, Nat.pow_succ]
    omega
theorem loadN_append (l m : List Nat) : loadN (l ++ m) = loadN l + 256 ^ l.length * loadN m := by
  induction l with
  | nil => simp [loadN]
  | cons c l ih =>
    simp only [List.cons_append, loadN, ih, List.length_cons, Nat.pow_succ, Nat.mul_add, ← Nat.mul_assoc]
    rw [Nat.mul_comm 256 (256 ^ l.length)]
    omega
theorem loadN_snoc (l : List Nat) (b : Nat) : loadN (l ++ [b]) = loadN l + b * 256 ^ l.length := by
  rw [loadN_append]; simp [loadN, Nat.mul_comm]

/-- A number's lowest m bytes. -/
def storeN (x : Nat) : Nat → List Nat
  | 0 => []
  | m + 1 => x % 256 :: storeN (x / 256) m
theorem storeN_length (m : Nat) : ∀ x, (storeN x m).length = m := by
  induction m with
  | zero => intro x; rfl
  | succ m ih => intro x; simp [storeN, ih]
theorem storeN_ok (m : Nat) : ∀ x, BytesOK (storeN x m) := by
  induction m with
  | zero => intro x; exact BytesOK.nil
  | succ m ih => intro x; exact BytesOK.cons (Nat.mod_lt _ (by decide)) (ih _)
theorem storeN_snoc (m : Nat) : ∀ x, storeN x (m + 1) = storeN x m ++ [x / 256 ^ m % 256] := by
  induction m with
  | zero => intro x; simp [storeN]
  | succ m ih =>
    intro x
    rw [storeN, ih (x / 256), storeN, List.cons_append, Nat.div_div_eq_div_mul, Nat.pow_succ, Nat.mul_comm 256]
theorem loadN_storeN (m : Nat) : ∀ x, loadN (storeN x m) = x % 256 ^ m := by
  induction m with
  | zero => intro x; simp [storeN, loadN, Nat.mod_one]
  | succ m ih =>
    intro x
    rw [storeN, loadN, ih, Nat.pow_succ, Nat.mul_comm (256 ^ m) 256, Nat.mod_mul]

/-! ### bits of whole numbers -/
theorem wraps_u {k : IntKind} (hk : k.signed = false) {n : Int} (h0 : 0 ≤ n) (h1 : n < 2 ^ k.bits) : k.wrap n = n := by
  unfold IntKind.wrap
  simp only [hk, Bool.false_and]
  simp
  exact Int.emod_eq_of_lt h0 h1
theorem wrapN_u {k : IntKind} (hk : k.signed = false) {n : Nat} (h1 : n < 2 ^ k.bits) : k.wrap (n : Int) = n := wraps_u hk (by omega) (by exact_mod_cast h1)
theorem wrapM_u {k : IntKind} (hk : k.signed = false) (n : Nat) : k.wrap (n : Int) = ((n % 2 ^ k.bits : Nat) : Int) := by
  unfold IntKind.wrap
  simp only [hk, Bool.false_and]
  simp
theorem bits_u {k : IntKind} (hk : k.signed = false) (a b : Nat) (ha : a < 2 ^ k.bits) (hb : b < 2 ^ k.bits) :
    bits .and k a b = ((a &&& b : Nat) : Int) ∧ bits .or k a b = ((a ||| b : Nat) : Int) ∧ bits .xor k a b = ((a ^^^ b : Nat) : Int) := by
  have h := bits_nat k k.bits (Nat.le_refl _) (fun n h0 h1 => wraps_u hk h0 h1) a b ha hb
  refine ⟨h.1, h.2, ?_⟩
  have ha' : a % 2 ^ k.bits = a := Nat.mod_eq_of_lt ha
  have hb' : b % 2 ^ k.bits = b := Nat.mod_eq_of_lt hb
  simp only [bits, BitVec.ofInt_natCast, BitVec.toNat_xor, BitVec.toNat_ofNat, ha', hb']
  exact wrapN_u hk (Nat.xor_lt_two_pow ha hb)
theorem bits_andNot_u {k : IntKind} (hk : k.signed = false) (a b : Nat) (ha : a < 2 ^ k.bits) (hb : b < 2 ^ k.bits) :
    bits .andNot k a b = ((a &&& (2 ^ k.bits - 1 - b) : Nat) : Int) := by
  have ha' : a % 2 ^ k.bits = a := Nat.mod_eq_of_lt ha
  have hb' : b % 2 ^ k.bits = b := Nat.mod_eq_of_lt hb
  simp only [bits, BitVec.ofInt_natCast, BitVec.toNat_and, BitVec.toNat_not, BitVec.toNat_ofNat, ha', hb']
  exact wrapN_u hk (Nat.lt_of_le_of_lt Nat.and_le_left ha)
theorem xor_u8 {a b : Nat} (ha : a < 256) (hb : b < 256) : bits .xor .u8 a b = ((a ^^^ b : Nat) : Int) := (bits_u (k := .u8) rfl a b ha hb).2.2
theorem or_u8 {a b : Nat} (ha : a < 256) (hb : b < 256) : bits .or .u8 a b = ((a ||| b : Nat) : Int) := (bits_u (k := .u8) rfl a b ha hb).2.1
theorem and_u8 {a b : Nat} (ha : a < 256) (hb : b < 256) : bits .and .u8 a b = ((a &&& b : Nat) : Int) := (bits_u (k := .u8) rfl a b ha hb).1
theorem andNot_u8 {a b : Nat} (ha : a < 256) (hb : b < 256) : bits .andNot .u8 a b = ((a &&& (255 - b) : Nat) : Int) := bits_andNot_u (k := .u8) rfl a b ha hb
theorem xor_lt {a b : Nat} (ha : a < 256) (hb : b < 256) : a ^^^ b < 256 := Nat.xor_lt_two_pow (n := 8) ha hb

/-- A byte laid above a number. -/
theorem or_byte {k a b : Nat} (hk : k < 8) (ha : a < 256 ^ k) (hb : b < 256) :
    bits .or .u64 (a : Int) (IntKind.u64.wrap (IntKind.u64.wrap (b : Int) * 2 ^ (8 * k))) = ((a + b * 256 ^ k : Nat) : Int) := by
  have hp : (256 : Nat) ^ k = 2 ^ (8 * k) := by rw [Nat.pow_mul]
  have h1 : 256 ^ k * 256 ≤ 256 ^ 8 := by rw [← Nat.pow_succ]; exact Nat.pow_le_pow_right (by decide) hk
  have h2 : b * 256 ^ k ≤ 255 * 256 ^ k := Nat.mul_le_mul_right _ (by omega)
  have h3 : (256 : Nat) ^ 8 = 2 ^ 64 := by decide
  have hw : IntKind.u64.wrap (b : Int) = b := wrapN_u rfl (show b < 2 ^ 64 by omega)
  have hq : b * 2 ^ (8 * k) < 2 ^ 64 := by rw [← hp]; omega
  have hw2 : IntKind.u64.wrap ((b : Int) * 2 ^ (8 * k)) = ((b * 2 ^ (8 * k) : Nat) : Int) := by
    have hc : ((b : Int) * 2 ^ (8 * k)) = ((b * 2 ^ (8 * k) : Nat) : Int) := by simp
    rw [hc]; exact wrapN_u rfl hq
  rw [hw, hw2, (bits_u (k := .u64) rfl a _ (show a < 2 ^ 64 by omega) hq).2.1, hp]
  rw [Nat.or_comm, Nat.mul_comm b, ← Nat.two_pow_add_eq_or_of_lt (by rw [← hp]; exact ha) b, Nat.add_comm]

/-! ### rows laid over one another -/
def xorL : List Nat → List Nat → List Nat := List.zipWith (· ^^^ ·)
theorem xorL_length (a b : List Nat) : (xorL a b).length = min a.length b.length := by simp [xorL]
theorem xorL_ok {a b : List Nat} (ha : BytesOK a) (hb : BytesOK b) : BytesOK (xorL a b) := by
  intro x hx
  obtain ⟨i, hi, rfl⟩ := List.mem_iff_getElem.1 hx
  simp only [xorL, List.getElem_zipWith]
  exact xor_lt (ha _ (List.getElem_mem _)) (hb _ (List.getElem_mem _))
theorem xorL_getD (a b : List Nat) (i : Nat) (ha : i < a.length) (hb : i < b.length) : (xorL a b).getD i 0 = a.getD i 0 ^^^ b.getD i 0 := by
  simp [xorL, List.getD_eq_getElem?_getD, List.getElem?_zipWith, ha, hb]
theorem xorL_self_zero {a b : List Nat} (h : a.length = b.length) : (∀ x ∈ xorL a b, x = 0) ↔ a = b := by
  induction a generalizing b with
  | nil => cases b with
    | nil => simp [xorL]
    | cons => simp at h
  | cons x a ih => cases b with
    | nil => simp at h
    | cons y b =>
      have h' : a.length = b.length := by simpa using h
      have := ih h'
      simp only [xorL, List.zipWith_cons_cons, List.mem_cons, forall_eq_or_imp, List.cons.injEq] at *
      rw [this]
      constructor
      · rintro ⟨h1, h2⟩
        refine ⟨?_, h2⟩
        have h3 := congrArg (· ^^^ y) h1
        simpa [Nat.xor_assoc] using h3
      · rintro ⟨h1, h2⟩
        exact ⟨by rw [h1, Nat.xor_self], h2⟩
theorem xorL_twice (a b : List Nat) : xorL (xorL a b) b = a.take b.length := by
  induction a generalizing b with
  | nil => simp [xorL]
  | cons x a ih => cases b with
    | nil => simp [xorL]
    | cons y b =>
      have := ih b
      simp only [xorL, List.zipWith_cons_cons, List.length_cons, List.take_succ_cons, List.cons.injEq] at *
      exact ⟨by rw [Nat.xor_assoc, Nat.xor_self, Nat.xor_zero], this⟩

/-- All bits, laid over one another. -/
def gatherL (l : List Nat) : Nat := l.foldl (· ||| ·) 0
theorem gatherL_snoc (l : List Nat) (b : Nat) : gatherL (l ++ [b]) = gatherL l ||| b := by simp [gatherL]
theorem gatherL_lt {l : List Nat} (h : BytesOK l) : gatherL l < 256 := by
  have : ∀ (l : List Nat) (a : Nat), a < 256 → BytesOK l → l.foldl (· ||| ·) a < 256 := by
    intro l
    induction l with
    | nil => intro a ha _; exact ha
    | cons b l ih => intro a ha hl; exact ih _ (Nat.or_lt_two_pow (n := 8) ha hl.head) hl.tail
  exact this l 0 (by decide) h
theorem gatherL_zero (l : List Nat) : gatherL l = 0 ↔ ∀ x ∈ l, x = 0 := by
  have : ∀ (l : List Nat) (a : Nat), l.foldl (· ||| ·) a = 0 ↔ a = 0 ∧ ∀ x ∈ l, x = 0 := by
    intro l
    induction l with
    | nil => intro a; simp
    | cons b l ih => intro a; simp [ih, Nat.or_eq_zero_iff, and_assoc]
  have h := this l 0
  simpa [gatherL] using h
end Go.Proofs.Ytkkhdjdoifnoaaa
