/- Texts put together: Plain Lib Up UpR Uq Arr ArrRow Own OwnX Num OpenArr AeadOps. -/
import Derived.Laws.BitsLemmas
import Derived.Laws.Entries
import Derived.IntWalk
import Derived.Test.YtlgdplodglchaaaDoorM1
import Derived.Lib.Strings
import Derived.Laws.Rows
import Derived.Laws.Tables
import Derived.Laws.CopyRow
import Derived.OpenShut
import Derived.Test.YtlgdplodglchaaaDoorWZeros
/- Plain laws on numbers and rows of bytes: nothing of the program. -/
set_option linter.unusedVariables false
namespace Go.Proofs.YtlgdplodglchaaaDoor
/-! ### rows -/
/-- Numbers as the walk reads them. -/
def ints (l : List Nat) : List Int := l.map fun n : Nat => (n : Int)
theorem ints_length (l : List Nat) : (ints l).length = l.length := by simp [ints]
theorem ints_getD (l : List Nat) (i : Nat) : (ints l).getD i 0 = ((l.getD i 0 : Nat) : Int) := by
  simp only [ints, List.getD_eq_getElem?_getD, List.getElem?_map]
  cases l[i]? <;> rfl
theorem ints_append (l m : List Nat) : ints (l ++ m) = ints l ++ ints m := by simp [ints]
theorem ints_set (l : List Nat) (i n : Nat) : (ints l).set i (n : Int) = ints (l.set i n) := by
  simp only [ints, List.map_set]
theorem ints_replicate (m n : Nat) : List.replicate m (n : Int) = ints (List.replicate m n) := by simp [ints]
theorem ints_take (l : List Nat) (i : Nat) : (ints l).take i = ints (l.take i) := by simp [ints]
theorem ints_drop (l : List Nat) (i : Nat) : (ints l).drop i = ints (l.drop i) := by simp [ints]
def BytesOK (l : List Nat) : Prop := ∀ x ∈ l, x < 256
theorem BytesOK.nil : BytesOK [] := fun _ h => by simp at h
theorem BytesOK.append {l m : List Nat} (h : BytesOK l) (k : BytesOK m) : BytesOK (l ++ m) := fun x hx => by
  rcases List.mem_append.1 hx with hx | hx
  · exact h x hx
  · exact k x hx
theorem BytesOK.take {l : List Nat} (h : BytesOK l) (i : Nat) : BytesOK (l.take i) := fun x hx => h x (List.mem_of_mem_take hx)
theorem BytesOK.drop {l : List Nat} (h : BytesOK l) (i : Nat) : BytesOK (l.drop i) := fun x hx => h x (List.mem_of_mem_drop hx)
theorem BytesOK.cons {b : Nat} {l : List Nat} (hb : b < 256) (h : BytesOK l) : BytesOK (b :: l) := fun x hx => by
  rcases List.mem_cons.1 hx with rfl | hx
  · exact hb
  · exact h x hx
theorem BytesOK.head {b : Nat} {l : List Nat} (h : BytesOK (b :: l)) : b < 256 := h b (by simp)
theorem BytesOK.tail {b : Nat} {l : List Nat} (h : BytesOK (b :: l)) : BytesOK l := fun x hx => h x (by simp [hx])
theorem BytesOK.getD {l : List Nat} (h : BytesOK l) (i : Nat) : l.getD i 0 < 256 := by
  rw [List.getD_eq_getElem?_getD]
  rcases hi : l[i]? with _ | x
  · simp
  · exact h x (List.mem_of_getElem? hi)
theorem BytesOK.replicate {n m : Nat} (h : n < 256) : BytesOK (List.replicate m n) := fun x hx => by
  rw [List.eq_of_mem_replicate hx]; exact h
theorem BytesOK.set {l : List Nat} (h : BytesOK l) {n : Nat} (hn : n < 256) (i : Nat) : BytesOK (l.set i n) := fun x hx => by
  rcases List.mem_or_eq_of_mem_set hx with hx | rfl
  · exact h x hx
  · exact hn

theorem take_snoc {α : Type} (l : List α) (k : Nat) (d : α) (h : k < l.length) : l.take (k + 1) = l.take k ++ [l.getD k d] := by
  rw [List.take_succ_eq_append_getElem h, List.getD_eq_getElem?_getD, List.getElem?_eq_getElem h]; rfl
/-! ### numbers of bytes -/
/-- The number of bytes, the lowest first. -/
def loadN : List Nat → Nat
  | [] => 0
  | b :: l => b + 256 * loadN l
theorem loadN_lt {l : List Nat} (h : BytesOK l) : loadN l < 256 ^ l.length := by
  induction l with
  | nil => simp [loadN]
  | cons b l ih =>
    have hb := h.head
    have := ih h.tail
    simp only [loadN, List.length_cons, Nat.pow_succ]
    omega
theorem loadN_append (l m : List Nat) : loadN (l ++ m) = loadN l + 256 ^ l.length * loadN m := by
  induction l with
  | nil => simp [loadN]
  | cons c l ih =>
    simp only [List.cons_append, loadN, ih, List.length_cons, Nat.pow_succ, Nat.mul_add, ← Nat.mul_assoc]
    rw [Nat.mul_comm 256 (256 ^ l.length)]
    omega
theorem loadN_snoc (l : List Nat) (b : Nat) : loadN (l ++ [b]) = loadN l + b * 256 ^ l.length := by
  rw [loadN_append]; simp [loadN, Nat.mul_comm]
/-- A number's lowest m bytes. -/
def storeN (x : Nat) : Nat → List Nat
  | 0 => []
  | m + 1 => x % 256 :: storeN (x / 256) m
theorem storeN_length (m : Nat) : ∀ x, (storeN x m).length = m := by
  induction m with
  | zero => intro x; rfl
  | succ m ih => intro x; simp [storeN, ih]
theorem storeN_ok (m : Nat) : ∀ x, BytesOK (storeN x m) := by
  induction m with
  | zero => intro x; exact BytesOK.nil
  | succ m ih => intro x; exact BytesOK.cons (Nat.mod_lt _ (by decide)) (ih _)
theorem storeN_snoc (m : Nat) : ∀ x, storeN x (m + 1) = storeN x m ++ [x / 256 ^ m % 256] := by
  induction m with
  | zero => intro x; simp [storeN]
  | succ m ih =>
    intro x
    rw [storeN, ih (x / 256), storeN, List.cons_append, Nat.div_div_eq_div_mul, Nat.pow_succ, Nat.mul_comm 256]
/-! ### bits of whole numbers -/
theorem wraps_u {k : IntKind} (hk : k.signed = false) {n : Int} (h0 : 0 ≤ n) (h1 : n < 2 ^ k.bits) : k.wrap n = n := by
  unfold IntKind.wrap
  simp only [hk, Bool.false_and]
  simp
  exact Int.emod_eq_of_lt h0 h1
theorem wrapN_u {k : IntKind} (hk : k.signed = false) {n : Nat} (h1 : n < 2 ^ k.bits) : k.wrap (n : Int) = n := wraps_u hk (by omega) (by exact_mod_cast h1)
theorem wrapM_u {k : IntKind} (hk : k.signed = false) (n : Nat) : k.wrap (n : Int) = ((n % 2 ^ k.bits : Nat) : Int) := by
  unfold IntKind.wrap
  simp only [hk, Bool.false_and]
  simp
theorem bits_u {k : IntKind} (hk : k.signed = false) (a b : Nat) (ha : a < 2 ^ k.bits) (hb : b < 2 ^ k.bits) :
    bits .and k a b = ((a &&& b : Nat) : Int) ∧ bits .or k a b = ((a ||| b : Nat) : Int) ∧ bits .xor k a b = ((a ^^^ b : Nat) : Int) := by
  have h := bits_nat k k.bits (Nat.le_refl _) (fun n h0 h1 => wraps_u hk h0 h1) a b ha hb
  refine ⟨h.1, h.2, ?_⟩
  have ha' : a % 2 ^ k.bits = a := Nat.mod_eq_of_lt ha
  have hb' : b % 2 ^ k.bits = b := Nat.mod_eq_of_lt hb
  simp only [bits, BitVec.ofInt_natCast, BitVec.toNat_xor, BitVec.toNat_ofNat, ha', hb']
  exact wrapN_u hk (Nat.xor_lt_two_pow ha hb)
theorem bits_andNot_u {k : IntKind} (hk : k.signed = false) (a b : Nat) (ha : a < 2 ^ k.bits) (hb : b < 2 ^ k.bits) :
    bits .andNot k a b = ((a &&& (2 ^ k.bits - 1 - b) : Nat) : Int) := by
  have ha' : a % 2 ^ k.bits = a := Nat.mod_eq_of_lt ha
  have hb' : b % 2 ^ k.bits = b := Nat.mod_eq_of_lt hb
  simp only [bits, BitVec.ofInt_natCast, BitVec.toNat_and, BitVec.toNat_not, BitVec.toNat_ofNat, ha', hb']
  exact wrapN_u hk (Nat.lt_of_le_of_lt Nat.and_le_left ha)
theorem xor_u8 {a b : Nat} (ha : a < 256) (hb : b < 256) : bits .xor .u8 a b = ((a ^^^ b : Nat) : Int) := (bits_u (k := .u8) rfl a b ha hb).2.2
theorem or_u8 {a b : Nat} (ha : a < 256) (hb : b < 256) : bits .or .u8 a b = ((a ||| b : Nat) : Int) := (bits_u (k := .u8) rfl a b ha hb).2.1
theorem xor_lt {a b : Nat} (ha : a < 256) (hb : b < 256) : a ^^^ b < 256 := Nat.xor_lt_two_pow (n := 8) ha hb
/-- A byte laid above a number. -/
theorem or_byte {k a b : Nat} (hk : k < 8) (ha : a < 256 ^ k) (hb : b < 256) :
    bits .or .u64 (a : Int) (IntKind.u64.wrap (IntKind.u64.wrap (b : Int) * 2 ^ (8 * k))) = ((a + b * 256 ^ k : Nat) : Int) := by
  have hp : (256 : Nat) ^ k = 2 ^ (8 * k) := by rw [Nat.pow_mul]
  have h1 : 256 ^ k * 256 ≤ 256 ^ 8 := by rw [← Nat.pow_succ]; exact Nat.pow_le_pow_right (by decide) hk
  have h2 : b * 256 ^ k ≤ 255 * 256 ^ k := Nat.mul_le_mul_right _ (by omega)
  have h3 : (256 : Nat) ^ 8 = 2 ^ 64 := by decide
  have hw : IntKind.u64.wrap (b : Int) = b := wrapN_u rfl (show b < 2 ^ 64 by omega)
  have hq : b * 2 ^ (8 * k) < 2 ^ 64 := by rw [← hp]; omega
  have hw2 : IntKind.u64.wrap ((b : Int) * 2 ^ (8 * k)) = ((b * 2 ^ (8 * k) : Nat) : Int) := by
    have hc : ((b : Int) * 2 ^ (8 * k)) = ((b * 2 ^ (8 * k) : Nat) : Int) := by simp
    rw [hc]; exact wrapN_u rfl hq
  rw [hw, hw2, (bits_u (k := .u64) rfl a _ (show a < 2 ^ 64 by omega) hq).2.1, hp]
  rw [Nat.or_comm, Nat.mul_comm b, ← Nat.two_pow_add_eq_or_of_lt (by rw [← hp]; exact ha) b, Nat.add_comm]
/-! ### rows laid over one another -/
def xorL : List Nat → List Nat → List Nat := List.zipWith (· ^^^ ·)
theorem xorL_length (a b : List Nat) : (xorL a b).length = min a.length b.length := by simp [xorL]
theorem xorL_ok {a b : List Nat} (ha : BytesOK a) (hb : BytesOK b) : BytesOK (xorL a b) := by
  intro x hx
  obtain ⟨i, hi, rfl⟩ := List.mem_iff_getElem.1 hx
  simp only [xorL, List.getElem_zipWith]
  exact xor_lt (ha _ (List.getElem_mem _)) (hb _ (List.getElem_mem _))
theorem xorL_self_zero {a b : List Nat} (h : a.length = b.length) : (∀ x ∈ xorL a b, x = 0) ↔ a = b := by
  induction a generalizing b with
  | nil => cases b with
    | nil => simp [xorL]
    | cons => simp at h
  | cons x a ih => cases b with
    | nil => simp at h
    | cons y b =>
      have h' : a.length = b.length := by simpa using h
      have := ih h'
      simp only [xorL, List.zipWith_cons_cons, List.mem_cons, forall_eq_or_imp, List.cons.injEq] at *
      rw [this]
      constructor
      · rintro ⟨h1, h2⟩
        refine ⟨?_, h2⟩
        have h3 := congrArg (· ^^^ y) h1
        simpa [Nat.xor_assoc] using h3
      · rintro ⟨h1, h2⟩
        exact ⟨by rw [h1, Nat.xor_self], h2⟩
/-- All bits, laid over one another. -/
def gatherL (l : List Nat) : Nat := l.foldl (· ||| ·) 0
theorem gatherL_snoc (l : List Nat) (b : Nat) : gatherL (l ++ [b]) = gatherL l ||| b := by simp [gatherL]
theorem gatherL_lt {l : List Nat} (h : BytesOK l) : gatherL l < 256 := by
  have : ∀ (l : List Nat) (a : Nat), a < 256 → BytesOK l → l.foldl (· ||| ·) a < 256 := by
    intro l
    induction l with
    | nil => intro a ha _; exact ha
    | cons b l ih => intro a ha hl; exact ih _ (Nat.or_lt_two_pow (n := 8) ha hl.head) hl.tail
  exact this l 0 (by decide) h
theorem gatherL_zero (l : List Nat) : gatherL l = 0 ↔ ∀ x ∈ l, x = 0 := by
  have : ∀ (l : List Nat) (a : Nat), l.foldl (· ||| ·) a = 0 ↔ a = 0 ∧ ∀ x ∈ l, x = 0 := by
    intro l
    induction l with
    | nil => intro a; simp
    | cons b l ih => intro a; simp [ih, Nat.or_eq_zero_iff, and_assoc]
  have h := this l 0
  simpa [gatherL] using h
end Go.Proofs.YtlgdplodglchaaaDoor
/- Rows of bytes in memory: what is read, what is the call's own; laws at the operations that make, append, store. Over any program. -/
set_option linter.unusedVariables false
set_option linter.unusedSimpArgs false
namespace Go.Proofs.YtlgdplodglchaaaDoor
open Go.RowKit Go.Proofs.YtlgdplodglchaaaDoorW.PrintWords Go.Proofs.YtlgdplodglchaaaDoorW.PrintLast Go.Proofs.YtlgdplodglchaaaDoorW.PrintMore
theorem hd {p : Prop} (h : p) : Aside0 p := ⟨h⟩

theorem below_seq {w w1 w2 : World} (h : Below w.heap.size w w1) (k : Below w1.heap.size w1 w2) : Below w.heap.size w w2 := below_then h h.size k
/-- A row of whole numbers of kind k, as it is read at address A. -/
def RowK (k : IntKind) (w : World) (A : Option Addr) (l : List Nat) : Prop := (Kd.int k).C w A l.length (ints l)
abbrev Row := RowK .u8
theorem RowK.below {k : IntKind} {w w1 : World} {A : Option Addr} {l : List Nat} (h : RowK k w A l) (hb : Below w.heap.size w w1) : RowK k w1 A l := Kd.C_below h hb
theorem RowK.at_ {k : IntKind} {w : World} {A : Option Addr} {l : List Nat} (h : RowK k w A l) (i : Nat) (hi : i < l.length) :
    ∃ ad x, A = some ad ∧ Aside0 (l.getD i 0 = x) ∧ w.cell? (ad.add i) = some (.int k (x : Int)) := by
  obtain ⟨ad, e, hc⟩ := Kd.at_int h (i : Int) (by omega) (by omega)
  rw [Int.toNat_natCast] at hc
  refine ⟨ad, l.getD i 0, e, ⟨rfl⟩, ?_⟩
  rw [hc, rd, Int.toNat_natCast, ints_getD]
theorem RowK.max {k : IntKind} {w : World} {A : Option Addr} {l : List Nat} (h : RowK k w A l) : l.length ≤ 9223372036854775807 := Kd.C_max h
theorem RowK.nil (k : IntKind) (w : World) (A : Option Addr) : RowK k w A [] := ⟨rfl, by simp, fun h => absurd h (by simp)⟩
/-- A row of the call's own: in a block from base on. -/
def OwnK (k : IntKind) (e : Nat) (base : Nat) (w : World) (v : Value) (l : List Nat) : Prop := (Kd.int k).R e w base (fun _ => True) v (ints l)
section
variable {k : IntKind} {e base base' : Nat} {w w1 : World} {v : Value} {l : List Nat}
theorem OwnK.below (h : OwnK k e base w v l) (hb : Below w.heap.size w w1) : OwnK k e base w1 v l := Kd.R_below h hb
theorem OwnK.lower (h : OwnK k e base w v l) (hb : base' ≤ base) : OwnK k e base' w v l := Kd.R_lower h hb
theorem OwnK.slice (h : OwnK k e base w v l) : ∃ A c, v = .slice A l.length c ∧ l.length ≤ c ∧ RowK k w A l := by
  obtain ⟨A, c, he, hl, hr⟩ := Kd.R_reads h
  rw [ints_length] at he hl hr
  exact ⟨A, c, he, hl, hr⟩
theorem OwnK.row {A : Option Addr} {n c : Nat} (h : OwnK k e base w (.slice A n c) l) : n = l.length ∧ l.length ≤ c ∧ RowK k w A l := by
  obtain ⟨A', c', he, hl, hr⟩ := h.slice
  injection he with h1 h2 h3
  subst h1; subst h2; subst h3
  exact ⟨rfl, hl, hr⟩
theorem OwnK.nil (k : IntKind) (e base : Nat) (w : World) : OwnK k e base w (.slice none 0 0) [] := Kd.R_nil _ _ _ _ _
theorem OwnK.lt (h : OwnK k e base w v l) : ∀ g, v.ownBlock = some g → base ≤ g ∧ g < w.heap.size := fun g hg => ⟨Kd.R_base h g hg, Kd.R_lt h g hg⟩
/-- Writes below its base leave it. -/
theorem OwnK.step (h : OwnK k e base w v l) (hm : ∀ g, base ≤ g → g < w.heap.size → w1.heap[g]? = w.heap[g]?) : OwnK k e base w1 v l := by
  have h1 := Kd.R_mono (ok' := fun g => base ≤ g ∧ g < w.heap.size) (Kd.R_bound h) (fun g hg => ⟨hg.2.1, hg.2.2.1⟩)
  exact Kd.R_mono (Kd.R_step h1 (fun g hg _ => hm g hg.1 hg.2)) (fun _ _ => trivial)
theorem OwnK.form (h : OwnK k e base w v l) (hp : 0 < l.length) : ∃ g c, v = .slice (some ⟨g, 0, none⟩) l.length c ∧ base ≤ g ∧ g < w.heap.size ∧ l.length ≤ c := by
  obtain ⟨g, cap, rfl, hb, hl, _⟩ := Kd.R_form h (by rw [ints_length]; exact hp)
  rw [ints_length] at *
  exact ⟨g, cap, rfl, hb, hl, by have := (OwnK.row h).2.1; exact this⟩
theorem OwnK.at_ {A : Option Addr} {n c : Nat} (h : OwnK k e base w (.slice A n c) l) (hp : 0 < n) : ∃ g, A = some ⟨g, 0, none⟩ ∧ base ≤ g ∧ g < w.heap.size := by
  have hn := h.row.1
  obtain ⟨g, c', he, hb, hl, _⟩ := h.form (by omega)
  injection he with h1 h2 h3
  exact ⟨g, h1, hb, hl⟩
theorem OwnK.cell {g n c : Nat} (h : OwnK k e base w (.slice (some ⟨g, 0, none⟩) n c) l) (i : Nat) (hi : i < n) :
    w.cell? ⟨g, i, none⟩ = some (.int k ((l.getD i 0 : Nat) : Int)) ∧ w.frozen? ⟨g, i, none⟩ = false := by
  have hn := h.row.1
  obtain ⟨h1, h2⟩ := Kd.R_celln (0 : Int) h (i : Int) (by omega) (by omega)
  rw [Int.toNat_natCast] at h1 h2
  refine ⟨?_, h2⟩
  rw [h1, rdOf, Int.toNat_natCast, ints_getD]
theorem OwnK.cellx {g n c : Nat} (h : OwnK k e base w (.slice (some ⟨g, 0, none⟩) n c) l) (i : Nat) (hi : i < n) :
    ∃ x, Aside0 (l.getD i 0 = x) ∧ w.cell? ⟨g, i, none⟩ = some (.int k (x : Int)) ∧ w.frozen? ⟨g, i, none⟩ = false := ⟨_, ⟨rfl⟩, h.cell i hi⟩
theorem OwnK.put {g n c : Nat} (h : OwnK k e base w (.slice (some ⟨g, 0, none⟩) n c) l) (i x : Nat) :
    OwnK k e base (w.setCell ⟨g, i, none⟩ (.int k (x : Int))) (.slice (some ⟨g, 0, none⟩) n c) (l.set i x) := by
  have h1 := (Kd.R_putg h (i : Int) (x : Int)).1
  rw [Int.toNat_natCast, ints_set] at h1
  exact h1
end
/-- A literal's row. -/
theorem RowK.new {k : IntKind} {W : World} {t : TypeId} {cs : Array Value} (l : List Nat) (hcs : cs = (l.map fun n : Nat => Value.int k n).toArray) (hl : l.length ≤ 9223372036854775807) : RowK k (W.alloc (.cells cs t)) (some ⟨W.heap.size, 0, none⟩) l := by
  refine Kd.C_of_reads (enc := Value.int k) (d := (0 : Int)) (h1 := fun _ => rfl) ⟨by simp [ints], hl, fun hp => ⟨_, rfl, fun j hj => ?_⟩⟩
  have hb := blk_cell (w := W.alloc (.cells cs t)) (g := W.heap.size) (t := t) (cs := cs) (heap_alloc_new W _) j
  rw [add_plain, hb, hcs]
  simp [ints, hj]
/-- The string of bytes. -/
def strOf (l : List Nat) : ByteArray := ⟨(l.map UInt8.ofNat).toArray⟩
theorem strOf_inj {l m : List Nat} (hl : BytesOK l) (hm : BytesOK m) (h : strOf l = strOf m) : l = m := by
  unfold strOf at h
  injection h with h
  have h := congrArg Array.toList h
  simp only at h
  induction l generalizing m with
  | nil => cases m with
    | nil => rfl
    | cons => simp at h
  | cons x l ih => cases m with
    | nil => simp at h
    | cons y m =>
      simp only [List.map_cons, List.cons.injEq] at h
      have h1 := congrArg UInt8.toNat h.1
      simp only [UInt8.toNat_ofNat'] at h1
      have hx := hl.head
      have hy := hm.head
      rw [Nat.mod_eq_of_lt hx, Nat.mod_eq_of_lt hy] at h1
      rw [h1, ih hl.tail hm.tail (by rw [h.2]) h.2]
theorem strOf_data (l : List Nat) : (strOf l).data.toList = l.map UInt8.ofNat := rfl
theorem strOf_toList (l : List Nat) : (strOf l).toList = l.map UInt8.ofNat := by rw [Lib.toList_data]; rfl
theorem str_lit {l : List Nat} {m : List UInt8} (h : l.map UInt8.ofNat = m) : ((strOf l).toList == m) = true := by rw [strOf_toList, h, beq_self_eq_true]
theorem str_eq {l m : List Nat} (hl : BytesOK l) (hm : BytesOK m) : ((strOf l).toList == (strOf m).toList) = (l == m) := by
  rw [Bool.eq_iff_iff, beq_iff_eq, beq_iff_eq]
  constructor
  · intro h
    refine strOf_inj hl hm ?_
    rw [strOf_toList, strOf_toList] at h
    unfold strOf
    rw [h]
  · rintro rfl; rfl
theorem RowK.str {P : Program} {w : World} {src dst e : TypeId} {A : Option Addr} {l : List Nat} {c : Nat} (h : Row w A l) (hs : P.underlying src = some (.slice e)) (he : P.underlying e = some (.int .u8)) (hd : P.underlying dst = some .string) :
    (convert src dst (.slice A l.length c)).run P w = .ok (.string (strOf l)) w := by
  have h1 := Kd.C_string hs he hd (c := c) h
  rw [h1]
  congr 2
  unfold strOfNums strOf ints
  rw [List.map_map]
  rfl
/-- A slice of bytes: what it reads, its length, that its bytes are bytes. -/
def Bytes (w : World) (A : Option Addr) (n c : Nat) (l : List Nat) : Prop := Row w A l ∧ l.length = n ∧ n ≤ c ∧ BytesOK l
theorem Bytes.below {w w1 : World} {A : Option Addr} {n c : Nat} {l : List Nat} (h : Bytes w A n c l) (hb : Below w.heap.size w w1) : Bytes w1 A n c l := ⟨h.1.below hb, h.2⟩
theorem Bytes.alloc {w : World} {A : Option Addr} {n c : Nat} {l : List Nat} (h : Bytes w A n c l) (o : Obj) : Bytes (w.alloc o) A n c l := h.below (below_alloc (Below.refl _ _) o)
theorem Bytes.drew {w : World} {A : Option Addr} {n c : Nat} {l : List Nat} (h : Bytes w A n c l) : Bytes w.drew A n c l := h.below (below_drew (Below.refl _ _))
theorem Bytes.ok {w : World} {A : Option Addr} {n c : Nat} {l : List Nat} (h : Bytes w A n c l) : BytesOK l := h.2.2.2
theorem Bytes.nil (w : World) (A : Option Addr) (c : Nat) : Bytes w A 0 c [] := ⟨RowK.nil _ _ _, rfl, Nat.zero_le _, BytesOK.nil⟩
/-- A literal that has just been laid. -/
theorem Bytes.new {W : World} {t : TypeId} {cs : Array Value} {g n : Nat} (l : List Nat) (hcs : cs = (l.map fun x : Nat => Value.int .u8 x).toArray) (hg : g = W.heap.size) (hn : n = l.length) (hl : l.length ≤ 9223372036854775807) (hb : (l.all fun x => decide (x < 256)) = true) :
    Bytes (W.alloc (.cells cs t)) (some ⟨g, 0, none⟩) n n l := by
  subst hg; subst hn
  exact ⟨RowK.new l hcs hl, rfl, Nat.le_refl _, fun x hx => by simpa using List.all_eq_true.1 hb x hx⟩
theorem Bytes.str {P : Program} {w : World} {src dst e : TypeId} {A : Option Addr} {n c : Nat} {l : List Nat} (h : Bytes w A n c l) (hs : P.underlying src = some (.slice e)) (he : P.underlying e = some (.int .u8)) (hd : P.underlying dst = some .string) :
    (convert src dst (.slice A n c)).run P w = .ok (.string (strOf l)) w := by
  obtain ⟨hr, rfl, _⟩ := h
  exact hr.str hs he hd
/-- What a function handed back, as bytes that are read. -/
theorem OwnK.bytes {w : World} {e base : Nat} {v : Value} {l : List Nat} (h : OwnK .u8 e base w v l) (n : Nat) (hn : l.length = n) (hb : BytesOK l) : ∃ A c, v = .slice A n c ∧ Bytes w A n c l := by
  obtain ⟨A, c, rfl, hc, hr⟩ := h.slice
  subst hn
  exact ⟨A, c, rfl, hr, rfl, hc, hb⟩
theorem RowK.take {k : IntKind} {w : World} {A : Option Addr} {l : List Nat} (h : RowK k w A l) (m : Nat) (hm : m ≤ l.length) : RowK k w A (l.take m) := by
  have h1 := Kd.reads_of_C (enc := Value.int k) (d := (0 : Int)) (h1 := fun _ => rfl) h
  have h2 := ReadsOf.take_ h1 m hm
  rw [ints_take] at h2
  have h3 : (l.take m).length = m := by rw [List.length_take]; omega
  unfold RowK
  rw [h3]
  exact Kd.C_of_reads (enc := Value.int k) (d := (0 : Int)) (h1 := fun _ => rfl) h2
theorem Bytes.take {w : World} {A : Option Addr} {n c : Nat} {l : List Nat} (h : Bytes w A n c l) (m : Nat) (hm : m ≤ n) : Bytes w A m c (l.take m) := by
  obtain ⟨hr, rfl, hc, hb⟩ := h
  exact ⟨hr.take m hm, by rw [List.length_take]; omega, by omega, hb.take m⟩
/-- What stands from m on. -/
theorem Bytes.drop {w : World} {A : Option Addr} {n c : Nat} {l : List Nat} (h : Bytes w A n c l) (m : Nat) (hm : m ≤ n) : Bytes w (if c = m then A else A.map (·.add m)) (n - m) (c - m) (l.drop m) := by
  obtain ⟨hr, rfl, hc, hb⟩ := h
  have h1 := Kd.reads_of_C (enc := Value.int .u8) (d := (0 : Int)) (h1 := fun _ => rfl) hr
  have h2 := ReadsOf.drop_ h1 m hm hc
  rw [ints_drop] at h2
  refine ⟨?_, by rw [List.length_drop], by omega, hb.drop m⟩
  unfold Row RowK
  rw [List.length_drop]
  exact Kd.C_of_reads (enc := Value.int .u8) (d := (0 : Int)) (h1 := fun _ => rfl) h2
/-- Rows of bytes, as they are read at address A. -/
def Rows2 (w : World) (A : Option Addr) (L : List (List Nat)) : Prop :=
  L.length ≤ 9223372036854775807 ∧ (0 < L.length → ∃ ad, A = some ad ∧ ∀ i, i < L.length → ∃ A' c, w.cell? (ad.add i) = some (.slice A' (L.getD i []).length c) ∧ (L.getD i []).length ≤ c ∧ Row w A' (L.getD i []))
theorem Rows2.below {w w1 : World} {A : Option Addr} {L : List (List Nat)} (h : Rows2 w A L) (hb : Below w.heap.size w w1) : Rows2 w1 A L :=
  ⟨h.1, fun hp => by
    obtain ⟨ad, e, hc⟩ := h.2 hp
    refine ⟨ad, e, fun i hi => ?_⟩
    obtain ⟨A', c, h1, h2, h3⟩ := hc i hi
    exact ⟨A', c, pw_cell_below hb h1, h2, h3.below hb⟩⟩
theorem Rows2.at_ {w : World} {A : Option Addr} {L : List (List Nat)} (h : Rows2 w A L) (i : Nat) (hi : i < L.length) :
    ∃ ad A' c l, A = some ad ∧ Aside0 (L.getD i [] = l) ∧ w.cell? (ad.add i) = some (.slice A' l.length c) ∧ l.length ≤ c ∧ Row w A' l := by
  obtain ⟨ad, e, hc⟩ := h.2 (by omega)
  obtain ⟨A', c, h1, h2, h3⟩ := hc i hi
  exact ⟨ad, A', c, _, e, ⟨rfl⟩, h1, h2, h3⟩
/-- Two literals, laid one behind the other. -/
theorem Bytes.two {W : World} {t t' : TypeId} {cs cs' : Array Value} {n m : Nat} (l l' : List Nat) (hcs : cs = (l.map fun x : Nat => Value.int .u8 x).toArray) (hcs' : cs' = (l'.map fun x : Nat => Value.int .u8 x).toArray) (hn : n = l.length) (hm : m = l'.length)
    (hl : l.length ≤ 9223372036854775807) (hl' : l'.length ≤ 9223372036854775807) (hb : (l.all fun x => decide (x < 256)) = true) (hb' : (l'.all fun x => decide (x < 256)) = true) :
    Bytes ((W.alloc (.cells cs t)).alloc (.cells cs' t')) (some ⟨W.heap.size, 0, none⟩) n n l ∧ Bytes ((W.alloc (.cells cs t)).alloc (.cells cs' t')) (some ⟨W.heap.size + 1, 0, none⟩) m m l' :=
  ⟨(Bytes.new l hcs rfl hn hl hb).alloc _, Bytes.new l' hcs' (by simp) hm hl' hb'⟩
/-- Slices of bytes, in line. -/
def RowsOf (w : World) : List Value → List (List Nat) → Prop
  | [], [] => True
  | v :: vs, l :: L => (∃ A n c, v = .slice A n c ∧ Bytes w A n c l) ∧ RowsOf w vs L
  | _, _ => False
theorem RowsOf.at_ {w : World} {vs : List Value} {L : List (List Nat)} (h : RowsOf w vs L) : vs.length = L.length ∧ ∀ i, i < L.length → ∃ A c, vs[i]? = some (.slice A (L.getD i []).length c) ∧ (L.getD i []).length ≤ c ∧ Row w A (L.getD i []) := by
  induction vs generalizing L with
  | nil => cases L with
    | nil => exact ⟨rfl, fun i hi => by simp at hi⟩
    | cons => exact h.elim
  | cons v vs ih => cases L with
    | nil => exact h.elim
    | cons l L =>
      obtain ⟨⟨A, n, c, rfl, hr, rfl, hc, _⟩, h2⟩ := h
      obtain ⟨h3, h4⟩ := ih h2
      refine ⟨by simp [h3], fun i hi => ?_⟩
      cases i with
      | zero => exact ⟨A, c, rfl, hc, hr⟩
      | succ i => exact h4 i (by simpa using hi)
theorem RowsOf.below {w w1 : World} (hb : Below w.heap.size w w1) : ∀ {vs : List Value} {L : List (List Nat)}, RowsOf w vs L → RowsOf w1 vs L
  | [], [], _ => trivial
  | v :: vs, l :: L, ⟨⟨A, n, c, e, h⟩, h2⟩ => ⟨⟨A, n, c, e, h.below hb⟩, RowsOf.below hb h2⟩
theorem Rows2.new {W : World} {t : TypeId} {cs : Array Value} {g : Nat} {vs : List Value} {L : List (List Nat)} (h : RowsOf W vs L) (hcs : cs = vs.toArray) (hg : g = W.heap.size) (hl : L.length ≤ 9223372036854775807) : Rows2 (W.alloc (.cells cs t)) (some ⟨g, 0, none⟩) L := by
  subst hg; subst hcs
  obtain ⟨h1, h2⟩ := h.at_
  refine ⟨hl, fun hp => ⟨_, rfl, fun i hi => ?_⟩⟩
  obtain ⟨A, c, h3, h4, h5⟩ := h2 i hi
  refine ⟨A, c, ?_, h4, h5.below (below_alloc (Below.refl _ _) _)⟩
  have hb := blk_cell (w := W.alloc (.cells vs.toArray t)) (g := W.heap.size) (t := t) (cs := vs.toArray) (heap_alloc_new W _) i
  rw [add_plain, hb]
  simpa using h3
/-! ### what came in -/
theorem RowK.of_at {k : IntKind} {w : World} {ad : Addr} {l : List Nat} (hl : l.length ≤ 9223372036854775807) (hc : ∀ i, i < l.length → w.cell? (ad.add i) = some (.int k ((l.getD i 0 : Nat) : Int))) : RowK k w (some ad) l :=
  Kd.C_of_reads (enc := Value.int k) (d := (0 : Int)) (h1 := fun _ => rfl) ⟨ints_length l, hl, fun hp => ⟨ad, rfl, fun j hj => by rw [hc j hj, ints_getD]⟩⟩
/-- The first len of the cells that came in. -/
theorem Bytes.of_cells {w : World} {x : Addr} {len cap : Nat} {zs : List Int} (hl : len ≤ cap) (hz : zs.length = cap) (hcell : ∀ i, i < zs.length → w.cell? (x.add i) = some (.int .u8 (zs.getD i 0))) (hwz : ∀ n ∈ zs, (Lit.int .u8 n).wf = true) (hm : cap ≤ maxLen := by assumption) :
    Bytes w (some x) len cap ((zs.take len).map Int.toNat) := by
  have hr : ∀ n ∈ zs, 0 ≤ n ∧ n < 256 := fun n hn => by
    have := hwz n hn
    simp [Lit.wf, IntKind.min, IntKind.max, IntKind.signed, IntKind.bits] at this
    omega
  have hlen : ((zs.take len).map Int.toNat).length = len := by rw [List.length_map, List.length_take]; omega
  unfold maxLen at hm
  refine ⟨RowK.of_at (by omega) (fun i hi => ?_), hlen, hl, fun y hy => ?_⟩
  · rw [hcell i (by omega)]
    have hi2 : i < len := by omega
    have h0 := (hr (zs[i]'(by omega)) (List.getElem_mem _)).1
    simp [List.getD_eq_getElem?_getD, hi2, List.getElem?_eq_getElem (show i < zs.length by omega)]
    omega
  · obtain ⟨n, hn, rfl⟩ := List.mem_map.1 hy
    have := hr n (List.mem_of_mem_take hn)
    omega
theorem Rows2.of_cells {w : World} {a : Addr} {len cap : Nat} {A : Nat → Option Addr} {L C : Nat → Nat} {Z : Nat → List Int} (hl : len ≤ cap) (hm : cap ≤ maxLen)
    (h : ∀ r, r < cap → w.cell? (a.add r) = some (.slice (A r) (L r) (C r)) ∧ L r ≤ C r ∧ C r ≤ maxLen ∧ (Z r).length = C r ∧ (∀ n ∈ Z r, (Lit.int .u8 n).wf = true) ∧ (A r = none → C r = 0) ∧ ∀ a', A r = some a' → 0 ≤ a'.block ∧ ∀ c, c < C r → w.cell? (a'.add c) = some (.int .u8 ((Z r).getD c 0))) :
    ∃ M : List (List Nat), Rows2 w (some a) M ∧ M.length = len ∧ len ≤ cap ∧ ∀ l ∈ M, BytesOK l := by
  have each : ∀ r, r < cap → Bytes w (A r) (L r) (C r) (((Z r).take (L r)).map Int.toNat) := by
    intro r hr
    obtain ⟨h1, h2, h3, h4, h5, h6, h7⟩ := h r hr
    rcases ha : A r with _ | a'
    · have h8 := h6 ha
      have h9 : L r = 0 := by omega
      rw [h9, h8]
      exact Bytes.nil _ _ _
    · exact Bytes.of_cells h2 h4 (fun i hi => (h7 a' ha).2 i (by omega)) h5 h3
  unfold maxLen at hm
  refine ⟨(List.range len).map fun r => ((Z r).take (L r)).map Int.toNat, ⟨by simp; omega, fun hp => ⟨a, rfl, fun i hi => ?_⟩⟩, by simp, hl, fun l hl' => ?_⟩
  · have hi2 : i < len := by simpa using hi
    obtain ⟨h1, h2, h3, h4⟩ := each i (by omega)
    have hg : ((List.range len).map fun r => ((Z r).take (L r)).map Int.toNat).getD i [] = ((Z i).take (L i)).map Int.toNat := by
      simp [List.getD_eq_getElem?_getD, hi2]
    rw [hg]
    refine ⟨A i, C i, ?_, by omega, h1⟩
    rw [h2]
    exact (h i (by omega)).1
  · obtain ⟨r, hr, rfl⟩ := List.mem_map.1 hl'
    exact (each r (by have := List.mem_range.1 hr; omega)).2.2.2
/-! ### the operations -/
section
variable {P : Program} {ops : Array Oper} {rest : List Oper} {o : Oper} {a : Act} {Q : Exit → Act → World → Prop}
/-- make([]T, m), T a kind of whole numbers. -/
theorem op_make {k : IntKind} {W : World} (N : Tmp) (hd : o.dst = some N) (e : Nat) (t : TypeId) (x y : Operand) (ho : o.op = .makeSlice t x y) (hgd : o.guard = none) (n : Int)
    (hx : a.eval x = .int .i64 n) (hy : a.eval y = .int .i64 n) (ht : P.underlying t = some (.slice e)) {bytes : Nat} (hinfo : (P.info? e).map (fun i => (i.zero, i.size, i.bytes)) = some (some (.int k 0), 1, bytes)) (hb0 : 0 < bytes)
    (m : Nat) (hn : n = (m : Int)) (hm : m * bytes ≤ 281474976710656)
    (h : ∀ A c w1, m ≤ c → OwnK k e W.heap.size w1 (.slice A m c) (List.replicate m 0) → Below W.heap.size W w1 → wpList P ops Q rest (a.put o.dst (.slice A m c)) w1) : wpList P ops Q (o :: rest) a W := by
  subst hn
  refine Kd.R_make (Kd.int k) (w0 := W) W.heap.size e hgd hd t x y ho (m : Int) hx hy ht (.int k 0) bytes hinfo rfl (Nat.zero_lt_one) hb0 0 (ok := fun _ => True) (okp := fun _ => True) rfl (fun _ hk => hk) trivial (by omega) (by rw [Int.toNat_natCast]; exact hm) (Below.refl _ _) (Nat.le_refl _) ?_
  intro v1 w1 h1 hb _ _
  rw [Int.toNat_natCast] at h1
  have h2 : OwnK k e W.heap.size w1 v1 (List.replicate m 0) := by
    have := ints_replicate m 0
    unfold OwnK
    rw [← this]
    exact h1
  obtain ⟨A, c, rfl, hc, _⟩ := h2.slice
  rw [List.length_replicate] at h2 hc ⊢
  exact h A c w1 hc h2 hb
/-- append(v, x): behind the variadic's box. -/
theorem op_append {k : IntKind} {w0 W : World} (N : Tmp) (hd : o.dst = some N) (base e : Nat) (t : TypeId) (s x : Operand) (ho : o.op = .call { callee := .builtin .append, args := #[s, x], argTypes := #[t, t] }) (hgd : o.guard = none)
    (ht : P.underlying t = some (.slice e)) {bytes : Nat} (hinfo : (P.info? e).map (fun i => (i.zero, i.size, i.bytes)) = some (some (.int k 0), 1, bytes)) (hb0 : 0 < bytes)
    (v : Value) (l : List Nat) (yi : Int) (y : Nat) (hy : yi = (y : Int)) (hs : a.eval s = v) (hx : a.eval x = .slice (some ⟨W.heap.size, 0, none⟩) 1 1) (HO : OwnK k e base W v l) (HB : Below base w0 W) (hbase : base ≤ W.heap.size) (hl : (l.length + 1) * bytes ≤ 140737488355328)
    (h : ∀ v1 w1, OwnK k e base w1 v1 (l ++ [y]) → Below base w0 w1 → W.grownBy w1 v.ownBlock → wpList P ops Q rest (a.put o.dst v1) w1) :
    wpList P ops Q (o :: rest) a (W.alloc (.cells #[.int k yi] e)) := by
  subst hy
  refine Kd.R_append (Kd.int k) (w0 := w0) (W := W) base hgd s x t e (.int k 0) bytes ho ht hinfo rfl (Nat.zero_lt_one) hb0 v (ints l) (y : Int) [.int k (y : Int)] (fun _ => True) (fun g => some g ≠ v.ownBlock) hs hx rfl (fun g hg => ⟨trivial, hg⟩) (fun _ _ => trivial) HO HB hbase (by rw [ints_length]; exact hl) ?_
  intro v1 w1 h1 hb hg hat
  refine h v1 w1 ?_ hb hg
  unfold OwnK
  rw [ints_append]
  exact h1
/-- append(v, ys...). -/
theorem op_append_row {k : IntKind} {w0 W : World} (N : Tmp) (hd : o.dst = some N) (base e : Nat) (t : TypeId) (s x : Operand) (ho : o.op = .call { callee := .builtin .append, args := #[s, x], argTypes := #[t, t] }) (hgd : o.guard = none)
    (ht : P.underlying t = some (.slice e)) {bytes : Nat} (hinfo : (P.info? e).map (fun i => (i.zero, i.size, i.bytes)) = some (some (.int k 0), 1, bytes)) (hb0 : 0 < bytes)
    (v : Value) (l ys : List Nat) (A : Option Addr) (m c : Nat) (hs : a.eval s = v) (hx : a.eval x = .slice A m c) (hm : m = ys.length) (HO : OwnK k e base W v l) (HR : RowK k W A ys) (HB : Below base w0 W) (hbase : base ≤ W.heap.size) (hl : (l.length + ys.length) * bytes ≤ 140737488355328)
    (h : ∀ v1 w1, OwnK k e base w1 v1 (l ++ ys) → Below base w0 w1 → W.grownBy w1 v.ownBlock → wpList P ops Q rest (a.put o.dst v1) w1) :
    wpList P ops Q (o :: rest) a W := by
  subst hm
  refine Kd.R_append_rows (Kd.int k) (Rr := (Kd.int k).K W) (w0 := w0) (W := W) base hgd s x t e (.int k 0) bytes ho ht hinfo rfl (Nat.zero_lt_one) hb0 v (ints l) (ints ys) A ys.length c (fun _ => True) (fun g => some g ≠ v.ownBlock) hs hx HO HR (fun x cs hk => hk) (fun g hg => ⟨trivial, hg⟩) (fun _ _ => trivial) HB hbase (by rw [ints_length]; exact hl) ?_
  intro v1 w1 h1 hb hg hat
  refine h v1 w1 ?_ hb hg
  unfold OwnK
  rw [ints_append]
  exact h1
end
/-! ### the same as one step of a region that draws -/
section
variable {P : Program} {ops : Array Oper} {o : Oper} {a : Act} {Q : Exit → Act → World → Prop} {Kc : Act → World → Prop}
theorem RowK.one {k : IntKind} {w : World} {ad : Addr} {y : Nat} (h : w.cell? (ad.add 0) = some (.int k (y : Int))) : RowK k w (some ad) [y] := by
  refine Kd.C_of_reads (enc := Value.int k) (d := (0 : Int)) (h1 := fun _ => rfl) ⟨rfl, by simp, fun _ => ⟨ad, rfl, fun j hj => ?_⟩⟩
  obtain rfl : j = 0 := by simpa using hj
  rw [h]
  simp [ints]
/-- append(v, ys...), in whatever world. -/
theorem op_append_row_step {k : IntKind} {w0 W : World} (N : Tmp) (hd : o.dst = some N) (base e : Nat) (t : TypeId) (s x : Operand) (ho : o.op = .call { callee := .builtin .append, args := #[s, x], argTypes := #[t, t] }) (hw : Region.wanted o (yielded ops a.tmps) = true)
    (ht : P.underlying t = some (.slice e)) {bytes : Nat} (hinfo : (P.info? e).map (fun i => (i.zero, i.size, i.bytes)) = some (some (.int k 0), 1, bytes)) (hb0 : 0 < bytes)
    (v : Value) (l ys : List Nat) (A : Option Addr) (m c : Nat) (hs : a.eval s = v) (hx : a.eval x = .slice A m c) (hm : m = ys.length) (HO : OwnK k e base W v l) (HR : RowK k W A ys) (HB : Below base w0 W) (hbase : base ≤ W.heap.size) (hl : (l.length + ys.length) * bytes ≤ 140737488355328)
    (h : ∀ v1 w1, OwnK k e base w1 v1 (l ++ ys) → Below base w0 w1 → W.grownBy w1 v.ownBlock → Kc (a.put o.dst v1) w1) :
    if Region.wanted o (yielded ops a.tmps) = true then Oper.wp P o a W Kc Q else Kc (a.put o.dst undef) W := by
  subst hm
  refine Kd.R_append_rows_step (Kd.int k) (Rr := (Kd.int k).K W) (w0 := w0) (W := W) base hw s x t e (.int k 0) bytes ho ht hinfo rfl (Nat.zero_lt_one) hb0 v (ints l) (ints ys) A ys.length c (fun _ => True) (fun g => some g ≠ v.ownBlock) hs hx HO HR (fun x cs hk => hk) (fun g hg => ⟨trivial, hg⟩) (fun _ _ => trivial) HB hbase (by rw [ints_length]; exact hl) ?_
  intro v1 w1 h1 hb hg hat
  refine h v1 w1 ?_ hb hg
  unfold OwnK
  rw [ints_append]
  exact h1
end
end Go.Proofs.YtlgdplodglchaaaDoor
/- A region that draws its order, walked in one order: what reads is taken as soon as it may come up, because nothing that follows turns what it read ('Grow': every block that was there stays as it was).
   Over any program. The last operations ('ds') may turn such blocks: nothing is shown behind them. -/
set_option linter.unusedVariables false
set_option linter.unusedSimpArgs false
namespace Go.Proofs.YtlgdplodglchaaaDoor
open Go.RowKit Go.Proofs.YtlgdplodglchaaaDoorW.PrintWords Go.Proofs.YtlgdplodglchaaaDoorW.PrintLast Go.Proofs.YtlgdplodglchaaaDoorW.PrintMore
/-- Every block that was there is as it was. -/
def Grow (w w' : World) : Prop := Below w.heap.size w w'
theorem Grow.refl (w : World) : Grow w w := Below.refl _ _
theorem Grow.trans {w w1 w2 : World} (h : Grow w w1) (k : Grow w1 w2) : Grow w w2 := below_seq h k

section
variable {P : Program} {ops : Array Oper} {Q : Exit → Act → World → Prop} {md : Region.Mode} {ds : List Nat}

def wpUp (P : Program) (md : Region.Mode) (ops : Array Oper) (Q : Exit → Act → World → Prop) (ds : List Nat) : Nat → Array Bool → Act → World → Prop
  | 0, listed, a, w => Region.ready md ops listed = [] ∧ Q .normal a w
  | fuel + 1, listed, a, w =>
    (Region.ready md ops listed = [] → Q .normal a w) ∧
    ∀ i ∈ Region.ready md ops listed, wpOp P ops Q i (fun a' w' => (i ∉ ds → Grow w w') ∧ wpUp P md ops Q ds fuel (listed.setIfInBounds i true) a' w') a w

theorem wpAny_of_up : ∀ (fuel : Nat) (listed : Array Bool) (a : Act) (w : World), wpUp P md ops Q ds fuel listed a w → wpAny P md ops Q fuel listed a w
  | 0, _, _, _, h => h
  | fuel + 1, _, _, _, h => ⟨h.1, fun i hi => wpOp_mono (fun a' w' h' => wpAny_of_up fuel _ a' w' h'.2) (h.2 i hi)⟩

theorem YieldsIf.later {o : Oper} {v : Value} {a : Act} {w w' : World} (h : YieldsIf P ops (Grow w) o v a) (hg : Grow w w') : YieldsIf P ops (Grow w') o v a :=
  h.imp (fun ⟨h1, h2⟩ => ⟨h1, fun w'' h3 => h2 w'' (hg.trans h3)⟩) id

theorem wpUp_first {i : Nat} {oi : Oper} {v : Value} (hi : ops[i]? = some oi) (hsel : ∀ (j : Nat) (o : Oper) cs b, ops[j]? = some o → o.op ≠ .select cs b)
    (hQ : ∀ c a w, Q (.panic c) (a.put oi.dst v) w → Q (.panic c) a w) (n : Nat) :
    ∀ (fuel : Nat) (listed : Array Bool) (a : Act) (w : World),
      (∀ j oj, ops[j]? = some oj → j ≠ i → listed.getD j true = false → (∀ e ∈ oj.after, Region.binds md e = true → e.on ≠ i) → oi.apart ops oj = true) →
      ListedClosed md ops listed → (∀ d ∈ ds, listed.getD d true = false → Region.reachB md ops i n d = true) →
      i ∈ Region.ready md ops listed → YieldsIf P ops (Grow w) oi v a →
      wpUp P md ops Q ds fuel (listed.setIfInBounds i true) (a.put oi.dst v) w → wpUp P md ops Q ds (fuel + 1) listed a w := by
  intro fuel
  induction fuel with
  | zero =>
    intro listed a w _ _ _ hr hy H
    refine ⟨fun h => (by rw [h] at hr; cases hr), fun j hj => ?_⟩
    by_cases hji : j = i
    · subst hji; exact hy.wpOp hi (Grow.refl _) ⟨fun _ => Grow.refl _, H⟩
    · have := ready_mono hj hji
      rw [H.1] at this
      cases this
  | succ fuel ih =>
    intro listed a w hfree hc hd hr hy H
    refine ⟨fun h => (by rw [h] at hr; cases hr), fun j hj => ?_⟩
    by_cases hji : j = i
    · subst hji; exact hy.wpOp hi (Grow.refl _) ⟨fun _ => Grow.refl _, H⟩
    · have h1 := H.2 j (ready_mono hj hji)
      obtain ⟨hjun, oj, hoj, hall⟩ := mem_ready.1 hj
      have hiun := (mem_ready.1 hr).1
      have hnot : ∀ e ∈ oj.after, Region.binds md e = true → e.on ≠ i := fun e he hb heq => by
        have h1 := hall e he hb
        rw [heq] at h1
        rcases Nat.lt_or_ge i listed.size with h' | h'
        · simp [h'] at hiun h1; rw [hiun] at h1; cases h1
        · simp [Array.getElem?_eq_none h'] at h1
      have hjd : j ∉ ds := fun hm => Region.reach_not_ready hc (hd j hm hjun) hiun hj
      have h2 := wpOp_putIf hoj (hfree j oj hoj hji hjun hnot) (fun cs b => hsel i oi cs b hi) (fun cs b => hsel j oj cs b hoj) hQ hy h1
      have hfree' : ∀ k ok, ops[k]? = some ok → k ≠ i → (listed.setIfInBounds j true).getD k true = false →
          (∀ e ∈ ok.after, Region.binds md e = true → e.on ≠ i) → oi.apart ops ok = true := fun k ok hk hki hun hno => by
        refine hfree k ok hk hki ?_ hno
        by_cases hjk : j = k
        · subst hjk; exact hjun
        · rw [getD_set_ne true hjk] at hun; exact hun
      have hd' : ∀ d ∈ ds, (listed.setIfInBounds j true).getD d true = false → Region.reachB md ops i n d = true := fun d hm hun => by
        refine hd d hm ?_
        by_cases hjk : j = d
        · subst hjk; exact hjun
        · rw [getD_set_ne true hjk] at hun; exact hun
      refine wpOp_mono (fun a' w' h3 => ⟨h3.2.1, ih (listed.setIfInBounds j true) a' w' hfree' (hc.set hj) hd' (ready_mono hr (Ne.symm hji)) (YieldsIf.later h3.1 (h3.2.1 hjd)) ?_⟩) h2
      rw [Array.setIfInBounds_comm _ _ hji]
      exact h3.2.2
/-! ### a schedule: each operation's number; true: it only reads; false: it alone may come up now -/
def schedB (md : Region.Mode) (ops : Array Oper) (ds : List Nat) : List (Nat × Bool) → Array Bool → Bool
  | [], l => Region.ready md ops l == []
  | (i, true) :: s, l => Region.free md ops l i && (Region.ready md ops l).contains i && Region.closedB md ops l && Region.lastB md ops l ds i && schedB md ops ds s (l.setIfInBounds i true)
  | (i, false) :: s, l => (Region.ready md ops l == [i]) && schedB md ops ds s (l.setIfInBounds i true)

def wpSeq (P : Program) (ops : Array Oper) (Q : Exit → Act → World → Prop) (ds : List Nat) : List (Nat × Bool) → Act → World → Prop
  | [], a, w => Q .normal a w
  | (i, true) :: s, a, w => ∃ o v, ops[i]? = some o ∧ (∀ c a w, Q (.panic c) (a.put o.dst v) w → Q (.panic c) a w) ∧ YieldsIf P ops (Grow w) o v a ∧ wpSeq P ops Q ds s (a.put o.dst v) w
  | (i, false) :: s, a, w => wpOp P ops Q i (fun a' w' => (i ∉ ds → Grow w w') ∧ wpSeq P ops Q ds s a' w') a w

theorem wpUp_of_seq (hs : Region.noSelect ops = true) : ∀ (s : List (Nat × Bool)) (l : Array Bool) (a : Act) (w : World), schedB md ops ds s l = true → wpSeq P ops Q ds s a w → wpUp P md ops Q ds s.length l a w
  | [], l, a, w, hc, h => ⟨by simpa [schedB] using hc, h⟩
  | (i, true) :: s, l, a, w, hc, h => by
    simp only [schedB, Bool.and_eq_true] at hc
    obtain ⟨⟨⟨⟨h1, h2⟩, h3⟩, h4⟩, h5⟩ := hc
    obtain ⟨o, v, hi, hQ, hy, hk⟩ := h
    exact wpUp_first hi (Region.noSelect_spec hs) hQ ops.size s.length l a w (Region.free_spec hi h1) (Region.closedB_spec h3)
      (fun d hm hun => by have := List.all_eq_true.1 h4 d hm; rw [hun] at this; simpa using this) (by simpa using h2) hy (wpUp_of_seq hs s _ _ _ h5 hk)
  | (i, false) :: s, l, a, w, hc, h => by
    simp only [schedB, Bool.and_eq_true, beq_iff_eq] at hc
    obtain ⟨h1, h2⟩ := hc
    refine ⟨fun h0 => (by rw [h0] at h1; cases h1), fun j hj => ?_⟩
    rw [h1] at hj
    obtain rfl : j = i := by simpa using hj
    exact wpOp_mono (fun a' w' h3 => ⟨h3.1, wpUp_of_seq hs s _ _ _ h2 h3.2⟩) h
/-- The beginning. -/
theorem up_start {id : Nat} {a : Act} {w : World} (ds : List Nat) (s : List (Nat × Bool)) (hm : P.follows .mixedOrders = true) (hn : s.length = ops.size) (hs : Region.noSelect ops = true) (hc : schedB .any ops ds s (Array.replicate ops.size false) = true)
    (h : wpSeq P ops Q ds s a w.drew) : (Code.region id ops true).wp P Q a w := by
  have h1 := wpUp_of_seq hs s _ _ _ hc h
  rw [hn] at h1
  exact wp_region_any hm (wpAny_of_up _ _ _ _ h1)
/-- An operation that reads: what it yields in every later world. -/
theorem seq_pure {i : Nat} {o : Oper} {N : Option Tmp} {v : Value} {s : List (Nat × Bool)} {a a' : Act} {w : World} (hi : ops[i]? = some o) (hN : o.dst = N) (hw : Region.wanted o (yielded ops a.tmps) = true) (hQ : ∀ c a w, Q (.panic c) (a.put o.dst v) w → Q (.panic c) a w)
    (hrun : ∀ w', Grow w w' → (execOp a.eval o).run P w' = .ok (.value v) w') (ha : a.put N v = a') (h : wpSeq P ops Q ds s a' w) : wpSeq P ops Q ds ((i, true) :: s) a w := by
  subst hN; subst ha
  exact ⟨o, v, hi, hQ, Or.inl ⟨hw, hrun⟩, h⟩
/-- A call, by its contract. -/
theorem seq_call {i : Nat} {oi : Oper} {N : Option Tmp} {s : List (Nat × Bool)} {a : Act} {w : World} {f : FuncId} {fn : Func} {as : Array Operand} {ts : Array TypeId} (hi : ops[i]? = some oi) (hN : oi.dst = N) (hf : P.funcs[f]? = some fn) (hname : (fn.name == "runtime.NumGoroutine") = false) (hb : fn.body.isSome = true) (args : Array Value)
    (hw : Region.wanted oi (yielded ops a.tmps) = true) (hop : oi.op = .call { callee := .value (.func f), args := as, argTypes := ts }) (hargs : as.map a.eval = args)
    (h : Calls P f args w fun e w' => ∃ v, e = .returned v ∧ (i ∉ ds → Grow w w') ∧ wpSeq P ops Q ds s (a.put N v) w') : wpSeq P ops Q ds ((i, false) :: s) a w :=
  wpOp_step hi (fun K hK => by
    subst hN
    refine goes_ hf hname hb args hw rfl hop hargs (h.mono ?_)
    rintro e w' ⟨v, rfl, hg, hs⟩
    exact ⟨v, rfl, hK _ _ ⟨hg, hs⟩⟩)
/-- An operation that yields a value and may make memory. -/
theorem seq_value {i : Nat} {o : Oper} {N : Option Tmp} {v : Value} {s : List (Nat × Bool)} {a a' : Act} {w w1 : World} (hi : ops[i]? = some o) (hN : o.dst = N) (hw : Region.wanted o (yielded ops a.tmps) = true)
    (hrun : (execOp a.eval o).run P w = .ok (.value v) w1) (hg : i ∉ ds → Grow w w1) (ha : a.put N v = a') (h : wpSeq P ops Q ds s a' w1) : wpSeq P ops Q ds ((i, false) :: s) a w := by
  subst hN; subst ha
  exact wpOp_step hi (fun K hK => value_ hw rfl hrun (hK _ _ ⟨hg, h⟩))
/-- Any effect, as a step of a region (op_append_step and its like). -/
theorem seq_step {i : Nat} {o : Oper} {s : List (Nat × Bool)} {a : Act} {w : World} (hi : ops[i]? = some o)
    (h : ∀ K : Act → World → Prop, (∀ a' w', (i ∉ ds → Grow w w') → wpSeq P ops Q ds s a' w' → K a' w') → if Region.wanted o (yielded ops a.tmps) = true then Oper.wp P o a w K Q else K (a.put o.dst undef) w) : wpSeq P ops Q ds ((i, false) :: s) a w :=
  wpOp_step hi (fun K hK => h K (fun a' w' hg hs => hK _ _ ⟨hg, hs⟩))
theorem seq_done {a : Act} {w : World} (h : Q .normal a w) : wpSeq P ops Q ds [] a w := h
theorem seq_norm {s : List (Nat × Bool)} {a a' : Act} {w : World} (ha : a = a') (h : wpSeq P ops Q ds s a' w) : wpSeq P ops Q ds s a w := by
  subst ha
  exact h
end
/-- What bytes that are read tell in every later world. -/
theorem Bytes.strs {P : Program} {w : World} {src dst e : TypeId} {A : Option Addr} {n c : Nat} {l : List Nat} (h : Bytes w A n c l) (hs : P.underlying src = some (.slice e)) (he : P.underlying e = some (.int .u8)) (hd : P.underlying dst = some .string) :
    ∀ w', Grow w w' → (convert src dst (.slice A n c)).run P w' = .ok (.string (strOf l)) w' := fun w' hg => (h.below hg).str hs he hd
theorem Grow.cells {w : World} {p : Addr} {v : Value} (h : w.cell? p = some v) : ∀ w', Grow w w' → w'.cell? p = some v := fun w' hg => pw_cell_below hg h
end Go.Proofs.YtlgdplodglchaaaDoor
/- As Up, with a second relation R that holds behind every operation, the last ones ('ds') too: what R keeps may be read whenever it comes up.
   A region that draws its order, walked in one order: what reads is taken as soon as it may come up, because nothing that follows turns what it read ('Grow': every block that was there stays as it was).
   Over any program. The last operations ('ds') may turn such blocks: nothing is shown behind them. -/
set_option linter.unusedVariables false
set_option linter.unusedSimpArgs false
namespace Go.Proofs.YtlgdplodglchaaaDoor
open Go.RowKit Go.Proofs.YtlgdplodglchaaaDoorW.PrintWords Go.Proofs.YtlgdplodglchaaaDoorW.PrintLast Go.Proofs.YtlgdplodglchaaaDoorW.PrintMore
/-- What is kept behind every operation. -/
structure Keeps (R : World → World → Prop) : Prop where
  refl : ∀ w, R w w
  trans : ∀ {w w1 w2}, R w w1 → R w1 w2 → R w w2
  grow : ∀ {w w1}, Grow w w1 → R w w1
theorem Keeps.any : Keeps (fun _ _ => True) := ⟨fun _ => trivial, fun _ _ => trivial, fun _ => trivial⟩
/-- Every block but g is as it was. -/
def Far (g : Nat) (w w' : World) : Prop := w.heap.size ≤ w'.heap.size ∧ ∀ k, k < w.heap.size → k ≠ g → w'.heap[k]? = w.heap[k]?
theorem Keeps.far (g : Nat) : Keeps (Far g) := ⟨fun w => ⟨Nat.le_refl _, fun _ _ _ => rfl⟩, fun h k => ⟨Nat.le_trans h.1 k.1, fun i hi hg => (k.2 i (Nat.lt_of_lt_of_le hi h.1) hg).trans (h.2 i hi hg)⟩, fun h => ⟨h.size, fun k hk _ => h.block k hk⟩⟩
theorem Far.set (g : Nat) {p : Addr} (hp : p.block = g) (w : World) (v : Value) : Far g w (w.setCell p v) := ⟨by simp, fun k _ hk => Below.heap_setCell w p v k (by rw [hp]; exact hk)⟩
theorem Far.block {g k : Nat} {w w' : World} {o : Obj} (h : Far g w w') (hb : w.heap[k]? = some o) (hk : k ≠ g) : w'.heap[k]? = some o := (h.2 k (blk_lt hb) hk).trans hb
theorem Far.cells {g : Nat} {w : World} {p : Addr} {v : Value} (h : w.cell? p = some v) (hp : p.block ≠ g) : ∀ w', Far g w w' → w'.cell? p = some v := fun w' hf => by
  have hlt := World.block_lt_of_cell? w p h
  have := hf.2 p.block hlt hp
  rw [← h]
  unfold World.cell?
  rw [this]

section
variable {P : Program} {ops : Array Oper} {Q : Exit → Act → World → Prop} {md : Region.Mode} {ds : List Nat} {R : World → World → Prop}

def wpUq (P : Program) (md : Region.Mode) (ops : Array Oper) (Q : Exit → Act → World → Prop) (ds : List Nat) (R : World → World → Prop) : Nat → Array Bool → Act → World → Prop
  | 0, listed, a, w => Region.ready md ops listed = [] ∧ Q .normal a w
  | fuel + 1, listed, a, w =>
    (Region.ready md ops listed = [] → Q .normal a w) ∧
    ∀ i ∈ Region.ready md ops listed, wpOp P ops Q i (fun a' w' => ((i ∉ ds → Grow w w') ∧ R w w') ∧ wpUq P md ops Q ds R fuel (listed.setIfInBounds i true) a' w') a w

theorem wpAny_of_uq : ∀ (fuel : Nat) (listed : Array Bool) (a : Act) (w : World), wpUq P md ops Q ds R fuel listed a w → wpAny P md ops Q fuel listed a w
  | 0, _, _, _, h => h
  | fuel + 1, _, _, _, h => ⟨h.1, fun i hi => wpOp_mono (fun a' w' h' => wpAny_of_uq fuel _ a' w' h'.2) (h.2 i hi)⟩

theorem wpUq_first (hR : Keeps R) {i : Nat} {oi : Oper} {v : Value} (hi : ops[i]? = some oi) (hsel : ∀ (j : Nat) (o : Oper) cs b, ops[j]? = some o → o.op ≠ .select cs b)
    (hQ : ∀ c a w, Q (.panic c) (a.put oi.dst v) w → Q (.panic c) a w) (n : Nat) :
    ∀ (fuel : Nat) (listed : Array Bool) (a : Act) (w : World),
      (∀ j oj, ops[j]? = some oj → j ≠ i → listed.getD j true = false → (∀ e ∈ oj.after, Region.binds md e = true → e.on ≠ i) → oi.apart ops oj = true) →
      ListedClosed md ops listed → (∀ d ∈ ds, listed.getD d true = false → Region.reachB md ops i n d = true) →
      i ∈ Region.ready md ops listed → YieldsIf P ops (Grow w) oi v a →
      wpUq P md ops Q ds R fuel (listed.setIfInBounds i true) (a.put oi.dst v) w → wpUq P md ops Q ds R (fuel + 1) listed a w := by
  intro fuel
  induction fuel with
  | zero =>
    intro listed a w _ _ _ hr hy H
    refine ⟨fun h => (by rw [h] at hr; cases hr), fun j hj => ?_⟩
    by_cases hji : j = i
    · subst hji; exact hy.wpOp hi (Grow.refl _) ⟨⟨fun _ => Grow.refl _, hR.refl _⟩, H⟩
    · have := ready_mono hj hji
      rw [H.1] at this
      cases this
  | succ fuel ih =>
    intro listed a w hfree hc hd hr hy H
    refine ⟨fun h => (by rw [h] at hr; cases hr), fun j hj => ?_⟩
    by_cases hji : j = i
    · subst hji; exact hy.wpOp hi (Grow.refl _) ⟨⟨fun _ => Grow.refl _, hR.refl _⟩, H⟩
    · have h1 := H.2 j (ready_mono hj hji)
      obtain ⟨hjun, oj, hoj, hall⟩ := mem_ready.1 hj
      have hiun := (mem_ready.1 hr).1
      have hnot : ∀ e ∈ oj.after, Region.binds md e = true → e.on ≠ i := fun e he hb heq => by
        have h1 := hall e he hb
        rw [heq] at h1
        rcases Nat.lt_or_ge i listed.size with h' | h'
        · simp [h'] at hiun h1; rw [hiun] at h1; cases h1
        · simp [Array.getElem?_eq_none h'] at h1
      have hjd : j ∉ ds := fun hm => Region.reach_not_ready hc (hd j hm hjun) hiun hj
      have h2 := wpOp_putIf hoj (hfree j oj hoj hji hjun hnot) (fun cs b => hsel i oi cs b hi) (fun cs b => hsel j oj cs b hoj) hQ hy h1
      have hfree' : ∀ k ok, ops[k]? = some ok → k ≠ i → (listed.setIfInBounds j true).getD k true = false →
          (∀ e ∈ ok.after, Region.binds md e = true → e.on ≠ i) → oi.apart ops ok = true := fun k ok hk hki hun hno => by
        refine hfree k ok hk hki ?_ hno
        by_cases hjk : j = k
        · subst hjk; exact hjun
        · rw [getD_set_ne true hjk] at hun; exact hun
      have hd' : ∀ d ∈ ds, (listed.setIfInBounds j true).getD d true = false → Region.reachB md ops i n d = true := fun d hm hun => by
        refine hd d hm ?_
        by_cases hjk : j = d
        · subst hjk; exact hjun
        · rw [getD_set_ne true hjk] at hun; exact hun
      refine wpOp_mono (fun a' w' h3 => ⟨h3.2.1, ih (listed.setIfInBounds j true) a' w' hfree' (hc.set hj) hd' (ready_mono hr (Ne.symm hji)) (YieldsIf.later h3.1 (h3.2.1.1 hjd)) ?_⟩) h2
      rw [Array.setIfInBounds_comm _ _ hji]
      exact h3.2.2

theorem wpUq_first2 (hR : Keeps R) {i : Nat} {oi : Oper} {v : Value} (hi : ops[i]? = some oi) (hsel : ∀ (j : Nat) (o : Oper) cs b, ops[j]? = some o → o.op ≠ .select cs b)
    (hQ : ∀ c a w, Q (.panic c) (a.put oi.dst v) w → Q (.panic c) a w) :
    ∀ (fuel : Nat) (listed : Array Bool) (a : Act) (w : World),
      (∀ j oj, ops[j]? = some oj → j ≠ i → listed.getD j true = false → (∀ e ∈ oj.after, Region.binds md e = true → e.on ≠ i) → oi.apart ops oj = true) →
      i ∈ Region.ready md ops listed → YieldsIf P ops (R w) oi v a →
      wpUq P md ops Q ds R fuel (listed.setIfInBounds i true) (a.put oi.dst v) w → wpUq P md ops Q ds R (fuel + 1) listed a w := by
  intro fuel
  induction fuel with
  | zero =>
    intro listed a w _ hr hy H
    refine ⟨fun h => (by rw [h] at hr; cases hr), fun j hj => ?_⟩
    by_cases hji : j = i
    · subst hji; exact hy.wpOp hi (hR.refl _) ⟨⟨fun _ => Grow.refl _, hR.refl _⟩, H⟩
    · have := ready_mono hj hji
      rw [H.1] at this
      cases this
  | succ fuel ih =>
    intro listed a w hfree hr hy H
    refine ⟨fun h => (by rw [h] at hr; cases hr), fun j hj => ?_⟩
    by_cases hji : j = i
    · subst hji; exact hy.wpOp hi (hR.refl _) ⟨⟨fun _ => Grow.refl _, hR.refl _⟩, H⟩
    · have h1 := H.2 j (ready_mono hj hji)
      obtain ⟨hjun, oj, hoj, hall⟩ := mem_ready.1 hj
      have hiun := (mem_ready.1 hr).1
      have hnot : ∀ e ∈ oj.after, Region.binds md e = true → e.on ≠ i := fun e he hb heq => by
        have h1 := hall e he hb
        rw [heq] at h1
        rcases Nat.lt_or_ge i listed.size with h' | h'
        · simp [h'] at hiun h1; rw [hiun] at h1; cases h1
        · simp [Array.getElem?_eq_none h'] at h1
      have h2 := wpOp_putIf hoj (hfree j oj hoj hji hjun hnot) (fun cs b => hsel i oi cs b hi) (fun cs b => hsel j oj cs b hoj) hQ hy h1
      have hfree' : ∀ k ok, ops[k]? = some ok → k ≠ i → (listed.setIfInBounds j true).getD k true = false →
          (∀ e ∈ ok.after, Region.binds md e = true → e.on ≠ i) → oi.apart ops ok = true := fun k ok hk hki hun hno => by
        refine hfree k ok hk hki ?_ hno
        by_cases hjk : j = k
        · subst hjk; exact hjun
        · rw [getD_set_ne true hjk] at hun; exact hun
      refine wpOp_mono (fun a' w' h3 => ⟨h3.2.1, ih (listed.setIfInBounds j true) a' w' hfree' (ready_mono hr (Ne.symm hji)) (h3.1.imp (fun ⟨h4, h5⟩ => ⟨h4, fun w'' h6 => h5 w'' (hR.trans h3.2.1.2 h6)⟩) id) ?_⟩) h2
      rw [Array.setIfInBounds_comm _ _ hji]
      exact h3.2.2
/-! ### a schedule: each operation's number; 1: it reads what Grow keeps; 2: what R keeps; 0: it alone may come up now -/
def schedC (md : Region.Mode) (ops : Array Oper) (ds : List Nat) : List (Nat × Nat) → Array Bool → Bool
  | [], l => Region.ready md ops l == []
  | (i, 1) :: s, l => Region.free md ops l i && (Region.ready md ops l).contains i && Region.closedB md ops l && Region.lastB md ops l ds i && schedC md ops ds s (l.setIfInBounds i true)
  | (i, 2) :: s, l => Region.free md ops l i && (Region.ready md ops l).contains i && schedC md ops ds s (l.setIfInBounds i true)
  | (i, 0) :: s, l => (Region.ready md ops l == [i]) && schedC md ops ds s (l.setIfInBounds i true)
  | (_, _ + 3) :: _, _ => false

def wpSeqR (P : Program) (ops : Array Oper) (Q : Exit → Act → World → Prop) (ds : List Nat) (R : World → World → Prop) : List (Nat × Nat) → Act → World → Prop
  | [], a, w => Q .normal a w
  | (i, 1) :: s, a, w => ∃ o v, ops[i]? = some o ∧ (∀ c a w, Q (.panic c) (a.put o.dst v) w → Q (.panic c) a w) ∧ YieldsIf P ops (Grow w) o v a ∧ wpSeqR P ops Q ds R s (a.put o.dst v) w
  | (i, 2) :: s, a, w => ∃ o v, ops[i]? = some o ∧ (∀ c a w, Q (.panic c) (a.put o.dst v) w → Q (.panic c) a w) ∧ YieldsIf P ops (R w) o v a ∧ wpSeqR P ops Q ds R s (a.put o.dst v) w
  | (_, _ + 3) :: _, _, _ => False
  | (i, 0) :: s, a, w => wpOp P ops Q i (fun a' w' => ((i ∉ ds → Grow w w') ∧ R w w') ∧ wpSeqR P ops Q ds R s a' w') a w

theorem wpUq_of_seq (hR : Keeps R) (hs : Region.noSelect ops = true) : ∀ (s : List (Nat × Nat)) (l : Array Bool) (a : Act) (w : World), schedC md ops ds s l = true → wpSeqR P ops Q ds R s a w → wpUq P md ops Q ds R s.length l a w
  | [], l, a, w, hc, h => ⟨by simpa [schedC] using hc, h⟩
  | (i, 1) :: s, l, a, w, hc, h => by
    simp only [schedC, Bool.and_eq_true] at hc
    obtain ⟨⟨⟨⟨h1, h2⟩, h3⟩, h4⟩, h5⟩ := hc
    obtain ⟨o, v, hi, hQ, hy, hk⟩ := h
    exact wpUq_first hR hi (Region.noSelect_spec hs) hQ ops.size s.length l a w (Region.free_spec hi h1) (Region.closedB_spec h3)
      (fun d hm hun => by have := List.all_eq_true.1 h4 d hm; rw [hun] at this; simpa using this) (by simpa using h2) hy (wpUq_of_seq hR hs s _ _ _ h5 hk)
  | (i, 2) :: s, l, a, w, hc, h => by
    simp only [schedC, Bool.and_eq_true] at hc
    obtain ⟨⟨h1, h2⟩, h5⟩ := hc
    obtain ⟨o, v, hi, hQ, hy, hk⟩ := h
    exact wpUq_first2 hR hi (Region.noSelect_spec hs) hQ s.length l a w (Region.free_spec hi h1) (by simpa using h2) hy (wpUq_of_seq hR hs s _ _ _ h5 hk)
  | (_, _ + 3) :: _, _, _, _, _, h => h.elim
  | (i, 0) :: s, l, a, w, hc, h => by
    simp only [schedC, Bool.and_eq_true, beq_iff_eq] at hc
    obtain ⟨h1, h2⟩ := hc
    refine ⟨fun h0 => (by rw [h0] at h1; cases h1), fun j hj => ?_⟩
    rw [h1] at hj
    obtain rfl : j = i := by simpa using hj
    exact wpOp_mono (fun a' w' h3 => ⟨h3.1, wpUq_of_seq hR hs s _ _ _ h2 h3.2⟩) h
/-- The beginning. -/
theorem upR_start {id : Nat} {a : Act} {w : World} (hR : Keeps R) (ds : List Nat) (s : List (Nat × Nat)) (hm : P.follows .mixedOrders = true) (hn : s.length = ops.size) (hs : Region.noSelect ops = true) (hc : schedC .any ops ds s (Array.replicate ops.size false) = true)
    (h : wpSeqR P ops Q ds R s a w.drew) : (Code.region id ops true).wp P Q a w := by
  have h1 := wpUq_of_seq hR hs s _ _ _ hc h
  rw [hn] at h1
  exact wp_region_any hm (wpAny_of_uq _ _ _ _ h1)
/-- An operation that reads: what it yields in every later world. -/
theorem rseq_pure {i : Nat} {o : Oper} {N : Option Tmp} {v : Value} {s : List (Nat × Nat)} {a a' : Act} {w : World} (hi : ops[i]? = some o) (hN : o.dst = N) (hw : Region.wanted o (yielded ops a.tmps) = true) (hQ : ∀ c a w, Q (.panic c) (a.put o.dst v) w → Q (.panic c) a w)
    (hrun : ∀ w', Grow w w' → (execOp a.eval o).run P w' = .ok (.value v) w') (ha : a.put N v = a') (h : wpSeqR P ops Q ds R s a' w) : wpSeqR P ops Q ds R ((i, 1) :: s) a w := by
  subst hN; subst ha
  exact ⟨o, v, hi, hQ, Or.inl ⟨hw, hrun⟩, h⟩
/-- A call, by its contract. -/
theorem rseq_call {i : Nat} {oi : Oper} {N : Option Tmp} {s : List (Nat × Nat)} {a : Act} {w : World} {f : FuncId} {fn : Func} {as : Array Operand} {ts : Array TypeId} (hi : ops[i]? = some oi) (hN : oi.dst = N) (hf : P.funcs[f]? = some fn) (hname : (fn.name == "runtime.NumGoroutine") = false) (hb : fn.body.isSome = true) (args : Array Value)
    (hw : Region.wanted oi (yielded ops a.tmps) = true) (hop : oi.op = .call { callee := .value (.func f), args := as, argTypes := ts }) (hargs : as.map a.eval = args)
    (h : Calls P f args w fun e w' => ∃ v, e = .returned v ∧ ((i ∉ ds → Grow w w') ∧ R w w') ∧ wpSeqR P ops Q ds R s (a.put N v) w') : wpSeqR P ops Q ds R ((i, 0) :: s) a w :=
  wpOp_step hi (fun K hK => by
    subst hN
    refine goes_ hf hname hb args hw rfl hop hargs (h.mono ?_)
    rintro e w' ⟨v, rfl, hg, hs⟩
    exact ⟨v, rfl, hK _ _ ⟨hg, hs⟩⟩)
/-- An operation that yields a value and may make memory. -/
theorem rseq_value {i : Nat} {o : Oper} {N : Option Tmp} {v : Value} {s : List (Nat × Nat)} {a a' : Act} {w w1 : World} (hi : ops[i]? = some o) (hN : o.dst = N) (hw : Region.wanted o (yielded ops a.tmps) = true)
    (hrun : (execOp a.eval o).run P w = .ok (.value v) w1) (hg : (i ∉ ds → Grow w w1) ∧ R w w1) (ha : a.put N v = a') (h : wpSeqR P ops Q ds R s a' w1) : wpSeqR P ops Q ds R ((i, 0) :: s) a w := by
  subst hN; subst ha
  exact wpOp_step hi (fun K hK => value_ hw rfl hrun (hK _ _ ⟨hg, h⟩))
/-- A store, one of the last. -/
theorem rseq_skip {i : Nat} {o : Oper} {s : List (Nat × Nat)} {a : Act} {w w1 : World} (hi : ops[i]? = some o) (hN : o.dst = none) (hw : Region.wanted o (yielded ops a.tmps) = true)
    (hrun : (execOp a.eval o).run P w = .ok .skip w1) (hg : (i ∉ ds → Grow w w1) ∧ R w w1) (h : wpSeqR P ops Q ds R s a w1) : wpSeqR P ops Q ds R ((i, 0) :: s) a w :=
  wpOp_step hi (fun K hK => by
    have := skip_ (K := K) (Q := Q) hw hN hrun (hK _ _ ⟨hg, h⟩)
    rw [hN]
    exact this)
/-- An operation that reads what R keeps. -/
theorem rseq_pure2 {i : Nat} {o : Oper} {N : Option Tmp} {v : Value} {s : List (Nat × Nat)} {a a' : Act} {w : World} (hi : ops[i]? = some o) (hN : o.dst = N) (hw : Region.wanted o (yielded ops a.tmps) = true) (hQ : ∀ c a w, Q (.panic c) (a.put o.dst v) w → Q (.panic c) a w)
    (hrun : ∀ w', R w w' → (execOp a.eval o).run P w' = .ok (.value v) w') (ha : a.put N v = a') (h : wpSeqR P ops Q ds R s a' w) : wpSeqR P ops Q ds R ((i, 2) :: s) a w := by
  subst hN; subst ha
  exact ⟨o, v, hi, hQ, Or.inl ⟨hw, hrun⟩, h⟩
theorem rseq_done {a : Act} {w : World} (h : Q .normal a w) : wpSeqR P ops Q ds R [] a w := h
/-- The end: of the world only C is kept. -/
theorem rseq_doneW (C : World → Prop) {a : Act} {w : World} (hC : C w) (h : ∀ w', C w' → Q .normal a w') : wpSeqR P ops Q ds R [] a w := h w hC
theorem rseq_norm {s : List (Nat × Nat)} {a a' : Act} {w : World} (ha : a = a') (h : wpSeqR P ops Q ds R s a' w) : wpSeqR P ops Q ds R s a w := by
  subst ha
  exact h
end
end Go.Proofs.YtlgdplodglchaaaDoor
/- A region that draws its order, step by step: where two effects may come up, both are walked. Over any program. -/
set_option linter.unusedVariables false
set_option linter.unusedSimpArgs false
namespace Go.Proofs.YtlgdplodglchaaaDoor
open Go.RowKit Go.Proofs.YtlgdplodglchaaaDoorW.PrintWords Go.Proofs.YtlgdplodglchaaaDoorW.PrintLast Go.Proofs.YtlgdplodglchaaaDoorW.PrintMore
section
variable {P : Program} {ops : Array Oper} {Q : Exit → Act → World → Prop} {md : Region.Mode} {ds : List Nat} {R : World → World → Prop}
theorem uq_start {id : Nat} {a : Act} {w : World} (R : World → World → Prop) (ds : List Nat) (n : Nat) (hn : ops.size = n) (hm : P.follows .mixedOrders = true) (h : wpUq P .any ops Q ds R n (Array.replicate n false) a w.drew) : (Code.region id ops true).wp P Q a w := by
  subst hn
  exact wp_region_any hm (wpAny_of_uq _ _ _ _ h)
theorem uq_pure (hR : Keeps R) {i fuel : Nat} {o : Oper} {N : Option Tmp} {v : Value} {l : Array Bool} {a a' : Act} {w : World} (hs : Region.noSelect ops = true)
    (hc : (Region.free md ops l i && (Region.ready md ops l).contains i && Region.closedB md ops l && Region.lastB md ops l ds i) = true)
    (hi : ops[i]? = some o) (hN : o.dst = N) (hw : Region.wanted o (yielded ops a.tmps) = true) (hQ : ∀ c a w, Q (.panic c) (a.put o.dst v) w → Q (.panic c) a w)
    (hrun : ∀ w', Grow w w' → (execOp a.eval o).run P w' = .ok (.value v) w') (ha : a.put N v = a') (h : wpUq P md ops Q ds R fuel (l.setIfInBounds i true) a' w) : wpUq P md ops Q ds R (fuel + 1) l a w := by
  subst hN; subst ha
  simp only [Bool.and_eq_true] at hc
  obtain ⟨⟨⟨h1, h2⟩, h3⟩, h4⟩ := hc
  exact wpUq_first hR hi (Region.noSelect_spec hs) hQ ops.size fuel l a w (Region.free_spec hi h1) (Region.closedB_spec h3)
    (fun d hm hun => by have := List.all_eq_true.1 h4 d hm; rw [hun] at this; simpa using this) (by simpa using h2) (Or.inl ⟨hw, hrun⟩) h
theorem uq_two {i j fuel : Nat} {l : Array Bool} {a : Act} {w : World} (hr : Region.ready md ops l = [i, j])
    (h1 : wpOp P ops Q i (fun a' w' => ((i ∉ ds → Grow w w') ∧ R w w') ∧ wpUq P md ops Q ds R fuel (l.setIfInBounds i true) a' w') a w)
    (h2 : wpOp P ops Q j (fun a' w' => ((j ∉ ds → Grow w w') ∧ R w w') ∧ wpUq P md ops Q ds R fuel (l.setIfInBounds j true) a' w') a w) : wpUq P md ops Q ds R (fuel + 1) l a w := by
  refine ⟨fun h => (by rw [h] at hr; cases hr), fun k hk => ?_⟩
  rw [hr] at hk
  rcases List.mem_cons.1 hk with rfl | hk
  · exact h1
  · obtain rfl : k = j := by simpa using hk
    exact h2
theorem uq_one {i fuel : Nat} {l : Array Bool} {a : Act} {w : World} (hr : Region.ready md ops l = [i])
    (h1 : wpOp P ops Q i (fun a' w' => ((i ∉ ds → Grow w w') ∧ R w w') ∧ wpUq P md ops Q ds R fuel (l.setIfInBounds i true) a' w') a w) : wpUq P md ops Q ds R (fuel + 1) l a w := by
  refine ⟨fun h => (by rw [h] at hr; cases hr), fun k hk => ?_⟩
  rw [hr] at hk
  obtain rfl : k = i := by simpa using hk
  exact h1
theorem uq_end {fuel : Nat} {l : Array Bool} {a : Act} {w : World} (hr : Region.ready md ops l = []) (h : Q .normal a w) : wpUq P md ops Q ds R fuel l a w := by
  cases fuel with
  | zero => exact ⟨hr, h⟩
  | succ n => exact ⟨fun _ => h, fun i hi => by rw [hr] at hi; cases hi⟩
theorem uq_call {C : Act → World → Prop} {i : Nat} {oi : Oper} {N : Option Tmp} {a : Act} {w : World} {f : FuncId} {fn : Func} {as : Array Operand} {ts : Array TypeId} (hi : ops[i]? = some oi) (hN : oi.dst = N) (hf : P.funcs[f]? = some fn) (hname : (fn.name == "runtime.NumGoroutine") = false) (hb : fn.body.isSome = true) (args : Array Value)
    (hw : Region.wanted oi (yielded ops a.tmps) = true) (hop : oi.op = .call { callee := .value (.func f), args := as, argTypes := ts }) (hargs : as.map a.eval = args)
    (h : Calls P f args w fun e w' => ∃ v, e = .returned v ∧ ((i ∉ ds → Grow w w') ∧ R w w') ∧ C (a.put N v) w') : wpOp P ops Q i (fun a' w' => ((i ∉ ds → Grow w w') ∧ R w w') ∧ C a' w') a w :=
  wpOp_step hi (fun K hK => by
    subst hN
    refine goes_ hf hname hb args hw rfl hop hargs (h.mono ?_)
    rintro e w' ⟨v, rfl, hg, hs⟩
    exact ⟨v, rfl, hK _ _ ⟨hg, hs⟩⟩)
theorem uq_value {C : Act → World → Prop} {i : Nat} {o : Oper} {N : Option Tmp} {v : Value} {a a' : Act} {w w1 : World} (hi : ops[i]? = some o) (hN : o.dst = N) (hw : Region.wanted o (yielded ops a.tmps) = true)
    (hrun : (execOp a.eval o).run P w = .ok (.value v) w1) (hg : (i ∉ ds → Grow w w1) ∧ R w w1) (ha : a.put N v = a') (h : C a' w1) : wpOp P ops Q i (fun a' w' => ((i ∉ ds → Grow w w') ∧ R w w') ∧ C a' w') a w := by
  subst hN; subst ha
  exact wpOp_step hi (fun K hK => value_ hw rfl hrun (hK _ _ ⟨hg, h⟩))
theorem uq_skip {C : Act → World → Prop} {i : Nat} {o : Oper} {a : Act} {w w1 : World} (hi : ops[i]? = some o) (hN : o.dst = none) (hw : Region.wanted o (yielded ops a.tmps) = true)
    (hrun : (execOp a.eval o).run P w = .ok .skip w1) (hg : (i ∉ ds → Grow w w1) ∧ R w w1) (h : C a w1) : wpOp P ops Q i (fun a' w' => ((i ∉ ds → Grow w w') ∧ R w w') ∧ C a' w') a w :=
  wpOp_step hi (fun K hK => by
    have := skip_ (K := K) (Q := Q) hw hN hrun (hK _ _ ⟨hg, h⟩)
    rw [hN]
    exact this)
theorem uq_norm {fuel : Nat} {l : Array Bool} {a a' : Act} {w : World} (ha : a = a') (h : wpUq P md ops Q ds R fuel l a' w) : wpUq P md ops Q ds R fuel l a w := by
  subst ha
  exact h
end
end Go.Proofs.YtlgdplodglchaaaDoor
/- An array variable: a block of its own cells. Over any program. -/
set_option linter.unusedVariables false
set_option linter.unusedSimpArgs false
namespace Go.Proofs.YtlgdplodglchaaaDoor
open Go.RowKit Go.Proofs.YtlgdplodglchaaaDoorW.PrintWords Go.Proofs.YtlgdplodglchaaaDoorW.PrintLast Go.Proofs.YtlgdplodglchaaaDoorW.PrintMore
/-- Block g holds an array's cells: the numbers l. -/
def Arr (k : IntKind) (T : Nat) (g : Nat) (w : World) (l : List Nat) : Prop := w.heap[g]? = some (.cells (l.map fun x : Nat => Value.int k x).toArray T (0, 0))
section
variable {k : IntKind} {T g : Nat} {w w1 : World} {l : List Nat}
theorem Arr.lt (h : Arr k T g w l) : g < w.heap.size := blk_lt h
theorem Arr.cell (h : Arr k T g w l) (i : Nat) (hi : i < l.length) : ∃ x, Aside0 (l.getD i 0 = x) ∧ w.cell? ⟨g, i, none⟩ = some (.int k (x : Int)) ∧ w.frozen? ⟨g, i, none⟩ = false := by
  refine ⟨l.getD i 0, ⟨rfl⟩, ?_, blk_frozen h i⟩
  rw [blk_cell h i]
  simp [hi]
theorem Arr.set (h : Arr k T g w l) (i x : Nat) : Arr k T g (w.setCell ⟨g, i, none⟩ (.int k (x : Int))) (l.set i x) := by
  have h1 := blk_set h i (.int k (x : Int))
  unfold Arr
  rw [h1]
  congr 2
  apply Array.ext'
  simp [List.map_set]
theorem Arr.below (h : Arr k T g w l) (hb : Below w.heap.size w w1) : Arr k T g w1 l := blk_below h hb
theorem Arr.under {B : Nat} (h : Arr k T g w l) (hb : Below B w w1) (hg : g < B) : Arr k T g w1 l := (hb.block g hg).trans h
theorem Arr.drew (h : Arr k T g w l) : Arr k T g w.drew l := h
theorem Arr.far (h : Arr k T g w l) {p : Addr} (hp : g ≠ p.block) (u : Value) : Arr k T g (w.setCell p u) l := blk_far h hp u
theorem Arr.new (W : World) {cs : Array Value} (hcs : cs = (l.map fun x : Nat => Value.int k x).toArray) : Arr k T W.heap.size (W.alloc (.cells cs T)) l := by
  subst hcs
  exact blk_new W _
theorem Arr.row (h : Arr k T g w l) (hl : l.length ≤ 9223372036854775807) : RowK k w (some ⟨g, 0, none⟩) l := RowK.of_at hl fun i hi => by
  obtain ⟨x, hx, hc, _⟩ := h.cell i hi
  rw [add_plain, hc, hx.out]
end
/-- Block g alone is turned. -/
structure Only (g : Nat) (w w1 : World) : Prop where
  below : Below g w w1
  size : w1.heap.size = w.heap.size
  far : ∀ i, i ≠ g → w1.heap[i]? = w.heap[i]?
theorem Only.refl (g : Nat) (w : World) : Only g w w := ⟨Below.refl _ _, rfl, fun _ _ => rfl⟩
theorem Only.set {g : Nat} {w w1 : World} (h : Only g w w1) (i : Nat) (u : Value) : Only g w (w1.setCell ⟨g, i, none⟩ u) :=
  ⟨h.below.setCell (Nat.le_refl _) _, by rw [← h.size]; simp, fun j hj => (Below.heap_setCell w1 ⟨g, i, none⟩ u j (by exact hj)).trans (h.far j hj)⟩
theorem Only.trans {g : Nat} {w w1 w2 : World} (h : Only g w w1) (k : Only g w1 w2) : Only g w w2 := ⟨h.below.trans k.below, k.size.trans h.size, fun i hi => (k.far i hi).trans (h.far i hi)⟩
theorem Only.from {g : Nat} {w w1 : World} (h : Only g w w1) {w0 : World} (hb : Below w0.heap.size w0 w) (hg : w0.heap.size ≤ g) : Below w0.heap.size w0 w1 :=
  hb.trans ⟨h.below.os, h.below.tape, h.below.output, by rw [h.size]; exact Nat.le_refl _, fun i hi => h.far i (by omega)⟩
/-- A piece of a slice of bytes. -/
theorem Bytes.mid {w : World} {ad : Addr} {n c : Nat} {l : List Nat} (h : Bytes w (some ad) n c l) (lo m : Nat) (hm : lo + m ≤ n) (hlo : lo < c) : Bytes w (some (ad.add lo)) m (c - lo) ((l.drop lo).take m) := by
  have h1 := h.drop lo (by omega)
  rw [if_neg (by omega)] at h1
  exact h1.take m (by omega)
end Go.Proofs.YtlgdplodglchaaaDoor
/- Whole arrays: loaded, stored, returned. Over any program. -/
set_option linter.unusedVariables false
set_option linter.unusedSimpArgs false
namespace Go.Proofs.YtlgdplodglchaaaDoor
open Go.RowKit Go.Proofs.YtlgdplodglchaaaDoorW.PrintWords Go.Proofs.YtlgdplodglchaaaDoorW.PrintLast Go.Proofs.YtlgdplodglchaaaDoorW.PrintMore
/-- The cells of an array of numbers. -/
def cellsOf (k : IntKind) (l : List Nat) : Array Value := (l.map fun x : Nat => Value.int k x).toArray
theorem cellsOf_size (k : IntKind) (l : List Nat) : (cellsOf k l).size = l.length := by simp [cellsOf]
theorem cellsOf_one (k : IntKind) (l : List Nat) : (cellsOf k l).all (·.oneCell') = true := by
  rw [Array.all_eq_true_iff_forall_mem]
  intro x hx
  simp only [cellsOf, List.mem_toArray, List.mem_map] at hx
  obtain ⟨n, _, rfl⟩ := hx
  rfl
section
variable {k : IntKind} {T g : Nat} {w w1 : World} {l : List Nat}
theorem Arr.setRow (h : Arr k T g w l) (l' : List Nat) : Arr k T g (w.setRow g (cellsOf k l')) l' := setRow_heap w g _ _ T (0, 0) h
theorem Only.setRow {g : Nat} {w : World} (cs : Array Value) : Only g w (w.setRow g cs) :=
  ⟨⟨rfl, rfl, rfl, by rw [setRow_size]; exact Nat.le_refl _, fun i hi => setRow_other w g i cs (by omega)⟩, setRow_size w g cs, fun i hi => setRow_other w g i cs hi⟩
theorem below_only {B : Nat} (h : Below B w w1) {w2 : World} (ho : Only g w1 w2) (hg : B ≤ g) : Below B w w2 :=
  h.trans ⟨ho.below.os, ho.below.tape, ho.below.output, by rw [ho.size]; exact Nat.le_refl _, fun i hi => ho.far i (by omega)⟩
theorem Arr.only {g' : Nat} (h : Arr k T g' w l) (ho : Only g w w1) (hne : g' ≠ g) : Arr k T g' w1 l := (ho.far g' hne).trans h
theorem OnlyOf.cell (w : World) (g i : Nat) (u : Value) : Only g w (w.setCell ⟨g, i, none⟩ u) := (Only.refl g w).set i u
end
section
variable {P : Program} {ops : Array Oper} {rest : List Oper} {o : Oper} {a : Act} {Q : Exit → Act → World → Prop} {W : World} {k : IntKind} {T g : Nat} {l : List Nat}
/-- The load of a whole array. -/
theorem op_loadA (N : Tmp) (hd : o.dst = some N) (hgd : o.guard = none) (ty e n : Nat) (x : Operand) (ho : o.op = .load ty x) (hx : a.eval x = .pointer (some ⟨g, 0, none⟩)) (hA : Arr k T g W l) (cs : Array Value) (hcs : cellsOf k l = cs)
    (hu : P.underlying ty = some (.array n e)) (hi : (P.info? ty).map (·.size) = some n) (hn : l.length = n)
    (h : wpList P ops Q rest (a.put (some N) (.agg cs)) W) : wpList P ops Q (o :: rest) a W := by
  subst hcs
  rw [← hd] at h
  exact wpList_load_row hgd ty x ho g hx T _ (0, 0) _ hA hu rfl (by rw [hi, ← hn]; exact congrArg some (cellsOf_size k l).symm) h
/-- The store of a whole array. -/
theorem op_storeA (hd : o.dst = none) (hgd : o.guard = none) (ty n : Nat) (x y : Operand) (ho : o.op = .store ty x y) (hx : a.eval x = .pointer (some ⟨g, 0, none⟩)) (l' : List Nat) (hy : a.eval y = .agg (cellsOf k l')) (hA : Arr k T g W l)
    (hi : (P.info? ty).map (·.size) = some n) (hn : l.length = n) (hn' : l'.length = n)
    (h : ∀ W1, Arr k T g W1 l' → Only g W W1 → wpList P ops Q rest a W1) : wpList P ops Q (o :: rest) a W := by
  refine wpList_store_row hgd ty x y ho g (cellsOf k l') hx hy T _ hA (by rw [hi, ← hn']; exact congrArg some (cellsOf_size k l').symm) ?_ (cellsOf_one k l') ?_
  · rw [cellsOf_size, hn', ← hn]
    exact cellsOf_size k l
  · rw [hd]
    exact h _ (hA.setRow l') (Only.setRow _)
/-- The load, as an operation that reads. -/
theorem run_loadA (ty e n : Nat) (x : Operand) (ho : o.op = .load ty x) (hx : a.eval x = .pointer (some ⟨g, 0, none⟩)) (hA : Arr k T g W l) (cs : Array Value) (hcs : cellsOf k l = cs)
    (hu : P.underlying ty = some (.array n e)) (hi : (P.info? ty).map (·.size) = some n) (hn : l.length = n) : (execOp a.eval o).run P W = .ok (.value (.agg cs)) W := by
  subst hcs
  unfold execOp
  simp only [ho, hx, Instr.loadAt, Instr.sureAddr, Sem.run_bind, Sem.run_pure, Result.andThen_ok, run_loadVar_row W g T ty _ (0, 0) _ hA hu rfl (by rw [hi, ← hn]; exact congrArg some (cellsOf_size k l).symm)]
  rfl
/-- The store, as an operation. -/
theorem run_storeA (ty n : Nat) (x y : Operand) (ho : o.op = .store ty x y) (hx : a.eval x = .pointer (some ⟨g, 0, none⟩)) (l' : List Nat) (hy : a.eval y = .agg (cellsOf k l')) (hA : Arr k T g W l)
    (hi : (P.info? ty).map (·.size) = some n) (hn : l.length = n) (hn' : l'.length = n) : (execOp a.eval o).run P W = .ok .skip (W.setRow g (cellsOf k l')) := by
  unfold execOp
  simp only [ho, hx, hy, Instr.storeAt, Instr.sureAddr, Sem.run_bind, Sem.run_pure, Result.andThen_ok, run_storeVar_row W g T ty _ (cellsOf k l') hA (by rw [hi, ← hn']; exact congrArg some (cellsOf_size k l').symm) (by rw [cellsOf_size, hn', ← hn]; exact cellsOf_size k l) (cellsOf_one k l')]
/-- copy(array's cells, row): as an operation. -/
theorem run_copyA (m cap n c e : Nat) (t t' : TypeId) (s x : Operand) (ad : Addr) (ys : List Nat) (ho : o.op = .call { callee := .builtin .copy, args := #[s, x], argTypes := #[t, t'] }) (ht : P.underlying t = some (.slice e)) (hinfo : (P.info? e).map (·.size) = some 1)
    (hs : a.eval s = .slice (some ⟨g, 0, none⟩) m cap) (hx : a.eval x = .slice (some ad) n c) (hA : Arr k T g W l) (hR : RowK k W (some ad) ys) (hn : ys.length = n) (hnm : n ≤ m) (hml : m ≤ l.length) :
    (execOp a.eval o).run P W = .ok (.value (.int .i64 (n : Int))) (W.setRow g (cellsOf k (ys ++ l.drop n))) := by
  have h1 := run_copy_row (P := P) W t t' o.type e g 0 m cap ad n c (cellsOf k l) T (ys.map fun x : Nat => Value.int k x) ht hinfo hA (by rw [List.length_map, hn]; exact (Nat.min_eq_left hnm).symm)
    (fun j v hv => by
      rw [List.getElem?_map] at hv
      obtain ⟨y, hy, rfl⟩ := Option.map_eq_some_iff.1 hv
      have hj := (List.getElem?_eq_some_iff.1 hy).1
      obtain ⟨ad', y', e1, HY, hc⟩ := hR.at_ j hj
      injection e1 with e1
      subst e1
      rw [hc, ← HY.out, List.getD_eq_getElem?_getD, hy]
      rfl)
    (by rw [List.length_map, cellsOf_size]; omega)
    (fun v hv => by obtain ⟨y, _, rfl⟩ := List.mem_map.1 hv; rfl)
  unfold execOp
  simp only [ho, resolve, invoke, builtin, Sem.run_bind, Sem.run_pure, Result.andThen_ok, List.map_toArray, List.map_cons, List.map_nil, hs, hx, h1]
  congr 2
  · rw [List.length_map, hn]
    rfl
  · unfold cellsOf
    congr 1
    simp [List.map_append, List.map_drop, hn]
theorem ret_cellA {fn : Func} {R : Ending → World → Prop} {p : Tmp} {ty e n : Nat} (h : fn.results = #[.cell p ty]) (hp : a.tmps.getD p undef = .pointer (some ⟨g, 0, none⟩)) (hA : Arr k T g W l) (hd : a.defers = [])
    (hu : P.underlying ty = some (.array n e)) (hi : (P.info? ty).map (·.size) = some n) (hn : l.length = n) (hR : R (.returned (.agg (cellsOf k l))) W) : bodyPost P fn R .ret a W :=
  bodyPost_ret (results_cell_row h a.tmps W g T _ (0, 0) _ hp hA hu rfl (by rw [hi, ← hn]; exact congrArg some (cellsOf_size k l).symm)) hd hR
end
end Go.Proofs.YtlgdplodglchaaaDoor
/- More of rows of the call's own. Over any program. -/
set_option linter.unusedVariables false
set_option linter.unusedSimpArgs false
namespace Go.Proofs.YtlgdplodglchaaaDoor
open Go.RowKit Go.Proofs.YtlgdplodglchaaaDoorW.PrintWords Go.Proofs.YtlgdplodglchaaaDoorW.PrintLast Go.Proofs.YtlgdplodglchaaaDoorW.PrintMore
/-- A literal's row is the call's own. -/
theorem OwnK.lit {k : IntKind} {e : Nat} (W : World) {cs : Array Value} (l : List Nat) (hcs : cs = (l.map fun x : Nat => Value.int k x).toArray) (hl : l.length ≤ 9223372036854775807) : OwnK k e W.heap.size (W.alloc (.cells cs e)) (.slice (some ⟨W.heap.size, 0, none⟩) l.length l.length) l := by
  have h := own_lit W W.heap.size e k (ints l) (Nat.le_refl _) (by simpa [ints] using hl)
  have e1 : (nums k (ints l)).toArray = cs := by rw [hcs]; simp [nums, ints]
  have e2 : (ints l).length = l.length := by simp [ints]
  rw [e1, e2] at h
  exact Kd.R_of_own (enc := Value.int k) (h1 := fun _ => rfl) (by rw [e2]; exact h) (fun _ _ => trivial)
end Go.Proofs.YtlgdplodglchaaaDoor
/- Two rows of the call's own beside one another: which blocks a row may lie in. Over any program. -/
set_option linter.unusedVariables false
set_option linter.unusedSimpArgs false
namespace Go.Proofs.YtlgdplodglchaaaDoor
open Go.RowKit Go.Proofs.YtlgdplodglchaaaDoorW.PrintWords Go.Proofs.YtlgdplodglchaaaDoorW.PrintLast Go.Proofs.YtlgdplodglchaaaDoorW.PrintMore
/-- A row of the call's own whose block is as ok says. -/
def OwnX (ok : Nat → Prop) (k : IntKind) (e : Nat) (base : Nat) (w : World) (v : Value) (l : List Nat) : Prop := (Kd.int k).R e w base ok v (ints l)
section
variable {ok ok' : Nat → Prop} {k : IntKind} {e base base' : Nat} {w w1 : World} {v : Value} {l : List Nat}
theorem OwnX.own (h : OwnX ok k e base w v l) : OwnK k e base w v l := Kd.R_mono h (fun _ _ => trivial)
theorem OwnK.x (h : OwnK k e base w v l) : OwnX (fun g => base ≤ g ∧ g < w.heap.size) k e base w v l := Kd.R_mono (Kd.R_bound h) (fun g hg => ⟨hg.2.1, hg.2.2.1⟩)
theorem OwnX.mono (h : OwnX ok k e base w v l) (hm : ∀ g, g < w.heap.size → ok g → ok' g) : OwnX ok' k e base w v l := Kd.R_mono (Kd.R_bound h) (fun g hg => hm g hg.2.2.1 hg.1)
theorem OwnX.below (h : OwnX ok k e base w v l) (hb : Below w.heap.size w w1) : OwnX ok k e base w1 v l := Kd.R_below h hb
theorem OwnX.nil (ok : Nat → Prop) (k : IntKind) (e base : Nat) (w : World) : OwnX ok k e base w (.slice none 0 0) [] := Kd.R_nil _ _ _ _ _
theorem OwnX.blk (h : OwnX ok k e base w v l) (g : Nat) (hg : v.ownBlock = some g) : ok g := h.1 g hg
/-- Its block is its address's. -/
theorem OwnK.only {g n c : Nat} (h : OwnK k e base w (.slice (some ⟨g, 0, none⟩) n c) l) : OwnX (fun j => j = g) k e base w (.slice (some ⟨g, 0, none⟩) n c) l := ⟨fun j hj => by simpa [Value.ownBlock] using hj.symm, h.2⟩
/-- What another row's growth leaves. -/
theorem OwnX.grown (h : OwnX ok k e base w v l) {row : Option Nat} (hg : w.grownBy w1 row) (hne : ∀ g, row = some g → ¬ ok g) : OwnX ok k e base w1 v l := by
  have h1 := Kd.R_bound h
  refine Kd.R_mono (Kd.R_step h1 (fun g hk hlt => ?_)) (fun g hk => hk.1)
  obtain ⟨o, ho⟩ : ∃ o, w.heap[g]? = some o := ⟨_, Array.getElem?_eq_getElem hlt⟩
  rw [ho]
  exact blk_grown ho hg (fun he => hne g he.symm hk.1)
end
section
variable {P : Program} {ops : Array Oper} {Q : Exit → Act → World → Prop} {Kc : Act → World → Prop} {o : Oper} {a : Act}
/-- append(v, ys...), in whatever world; what is fresh may be the row's. -/
theorem opx_append_row_step {ok : Nat → Prop} {k : IntKind} {w0 W : World} (N : Tmp) (hd : o.dst = some N) (base e : Nat) (t : TypeId) (s x : Operand) (ho : o.op = .call { callee := .builtin .append, args := #[s, x], argTypes := #[t, t] }) (hw : Region.wanted o (yielded ops a.tmps) = true)
    (ht : P.underlying t = some (.slice e)) {bytes : Nat} (hinfo : (P.info? e).map (fun i => (i.zero, i.size, i.bytes)) = some (some (.int k 0), 1, bytes)) (hb0 : 0 < bytes)
    (v : Value) (l ys : List Nat) (A : Option Addr) (m c : Nat) (hs : a.eval s = v) (hx : a.eval x = .slice A m c) (hm : m = ys.length) (HO : OwnX ok k e base W v l) (hfresh : ∀ g, W.heap.size ≤ g → ok g) (HR : RowK k W A ys) (HB : Below base w0 W) (hbase : base ≤ W.heap.size) (hl : (l.length + ys.length) * bytes ≤ 140737488355328)
    (h : ∀ v1 w1, OwnX ok k e base w1 v1 (l ++ ys) → Below base w0 w1 → W.grownBy w1 v.ownBlock → Kc (a.put o.dst v1) w1) :
    if Region.wanted o (yielded ops a.tmps) = true then Oper.wp P o a W Kc Q else Kc (a.put o.dst undef) W := by
  subst hm
  refine Kd.R_append_rows_step (Kd.int k) (Rr := (Kd.int k).K W) (w0 := w0) (W := W) base hw s x t e (.int k 0) bytes ho ht hinfo rfl (Nat.zero_lt_one) hb0 v (ints l) (ints ys) A ys.length c ok (fun g => ok g ∧ some g ≠ v.ownBlock) hs hx HO HR (fun x cs hk => hk) (fun g hg => hg) hfresh HB hbase (by rw [ints_length]; exact hl) ?_
  intro v1 w1 h1 hb hg hat
  refine h v1 w1 ?_ hb hg
  unfold OwnX
  rw [ints_append]
  exact h1
/-- append(v, y), y in a box of its own. -/
theorem opx_append1_step {ok : Nat → Prop} {k : IntKind} {w0 W : World} (N : Tmp) (hd : o.dst = some N) (base e : Nat) (t : TypeId) (s x : Operand) (ho : o.op = .call { callee := .builtin .append, args := #[s, x], argTypes := #[t, t] }) (hw : Region.wanted o (yielded ops a.tmps) = true)
    (ht : P.underlying t = some (.slice e)) {bytes : Nat} (hinfo : (P.info? e).map (fun i => (i.zero, i.size, i.bytes)) = some (some (.int k 0), 1, bytes)) (hb0 : 0 < bytes)
    (v : Value) (l : List Nat) (y : Nat) (g : Nat) (hs : a.eval s = v) (hx : a.eval x = .slice (some ⟨g, 0, none⟩) 1 1) (HO : OwnX ok k e base W v l) (hfresh : ∀ g, W.heap.size ≤ g → ok g) (hy : W.cell? ⟨g, 0, none⟩ = some (.int k (y : Int))) (HB : Below base w0 W) (hbase : base ≤ W.heap.size) (hl : (l.length + 1) * bytes ≤ 140737488355328)
    (h : ∀ v1 w1, OwnX ok k e base w1 v1 (l ++ [y]) → Below base w0 w1 → W.grownBy w1 v.ownBlock → Kc (a.put o.dst v1) w1) :
    if Region.wanted o (yielded ops a.tmps) = true then Oper.wp P o a W Kc Q else Kc (a.put o.dst undef) W :=
  opx_append_row_step N hd base e t s x ho hw ht hinfo hb0 v l [y] (some ⟨g, 0, none⟩) 1 1 hs hx rfl HO hfresh (RowK.one (ad := ⟨g, 0, none⟩) hy) HB hbase hl h
end
end Go.Proofs.YtlgdplodglchaaaDoor
/- Plain laws on numbers: masks and counters. Nothing of the program. -/
set_option linter.unusedVariables false
namespace Go.Proofs.YtlgdplodglchaaaDoor

theorem wrap_u64_small (n : Nat) (h : n < 2 ^ 64) : IntKind.u64.wrap (n : Int) = (n : Int) := wrapN_u (k := .u64) rfl h
theorem wrap_u64_sum (x y : Nat) (h : x + y < 18446744073709551616) : IntKind.u64.wrap ((x : Int) + (y : Int)) = ((x + y : Nat) : Int) := by
  rw [← Int.natCast_add]
  exact wrapN_u (k := .u64) rfl h
theorem wrap_u64_add (x y : Nat) : IntKind.u64.wrap ((x : Int) + (y : Int)) = (((x + y) % 18446744073709551616 : Nat) : Int) := by
  rw [← Int.natCast_add]
  exact wrapM_u (k := .u64) rfl (x + y)
theorem Bytes.ofArr {T g n : Nat} {w : World} {l : List Nat} (h : Arr .u8 T g w l) (hl : l.length = n) (hb : BytesOK l) (hm : n ≤ 1000) : Bytes w (some ⟨g, 0, none⟩) n n l := ⟨h.row (by omega), hl, Nat.le_refl _, hb⟩
end Go.Proofs.YtlgdplodglchaaaDoor
/- An array of bytes as an argument: its bytes. Over any program. -/
set_option linter.unusedVariables false
namespace Go.Proofs.YtlgdplodglchaaaDoor
open Go.RowKit Go.ChangeShapes

end Go.Proofs.YtlgdplodglchaaaDoor
/- Rows whose block is known, that grow; zeros behind them. Over any program. -/
set_option linter.unusedVariables false
set_option linter.unusedSimpArgs false
namespace Go.Proofs.YtlgdplodglchaaaDoor
open Go.RowKit Go.Proofs.YtlgdplodglchaaaDoorW.PrintWords Go.Proofs.YtlgdplodglchaaaDoorW.PrintLast Go.Proofs.YtlgdplodglchaaaDoorW.PrintMore
section
variable {P : Program} {ops : Array Oper} {rest : List Oper} {o : Oper} {a : Act} {Q : Exit → Act → World → Prop}
/-- append(v, ys...). -/
theorem opx_append_row {ok : Nat → Prop} {k : IntKind} {w0 W : World} (N : Tmp) (hd : o.dst = some N) (base e : Nat) (t : TypeId) (s x : Operand) (ho : o.op = .call { callee := .builtin .append, args := #[s, x], argTypes := #[t, t] }) (hgd : o.guard = none)
    (ht : P.underlying t = some (.slice e)) {bytes : Nat} (hinfo : (P.info? e).map (fun i => (i.zero, i.size, i.bytes)) = some (some (.int k 0), 1, bytes)) (hb0 : 0 < bytes)
    (v : Value) (l ys : List Nat) (A : Option Addr) (m c : Nat) (hs : a.eval s = v) (hx : a.eval x = .slice A m c) (hm : m = ys.length) (HO : OwnX ok k e base W v l) (hfresh : ∀ g, W.heap.size ≤ g → ok g) (HR : RowK k W A ys) (HB : Below base w0 W) (hbase : base ≤ W.heap.size) (hl : (l.length + ys.length) * bytes ≤ 140737488355328)
    (h : ∀ v1 w1, OwnX ok k e base w1 v1 (l ++ ys) → Below base w0 w1 → W.grownBy w1 v.ownBlock → wpList P ops Q rest (a.put o.dst v1) w1) :
    wpList P ops Q (o :: rest) a W := by
  subst hm
  refine Kd.R_append_rows (Kd.int k) (Rr := (Kd.int k).K W) (w0 := w0) (W := W) base hgd s x t e (.int k 0) bytes ho ht hinfo rfl (Nat.zero_lt_one) hb0 v (ints l) (ints ys) A ys.length c ok (fun g => ok g ∧ some g ≠ v.ownBlock) hs hx HO HR (fun x cs hk => hk) (fun g hg => hg) hfresh HB hbase (by rw [ints_length]; exact hl) ?_
  intro v1 w1 h1 hb hg hat
  refine h v1 w1 ?_ hb hg
  unfold OwnX
  rw [ints_append]
  exact h1
/-- append(v, make(.., n)...). -/
theorem opx_append_zeros {ok : Nat → Prop} {k : IntKind} {w0 W : World} (N : Tmp) (hd : o.dst = some N) (base e : Nat) (t ti : TypeId) (s x : Operand) (ho : o.op = .call { callee := .builtin .append, args := #[s, x], argTypes := #[t, ti] }) (hgd : o.guard = none)
    (ht : P.underlying t = some (.slice e)) {ki : IntKind} (hti : P.underlying ti = some (.int ki)) {bytes : Nat} (hinfo : (P.info? e).map (fun i => (i.zero, i.size, i.bytes)) = some (some (.int k 0), 1, bytes)) (hb0 : 0 < bytes)
    (v : Value) (l : List Nat) (n : Nat) {kx : IntKind} (hs : a.eval s = v) (hx : a.eval x = .int kx (n : Int)) (HO : OwnX ok k e base W v l) (hfresh : ∀ g, W.heap.size ≤ g → ok g) (HB : Below base w0 W) (hbase : base ≤ W.heap.size) (hl : (l.length + n) * bytes ≤ 140737488355328)
    (h : ∀ v1 w1, OwnX ok k e base w1 v1 (l ++ List.replicate n 0) → Below base w0 w1 → W.grownBy w1 v.ownBlock → wpList P ops Q rest (a.put o.dst v1) w1) :
    wpList P ops Q (o :: rest) a W := by
  refine Kd.R_append_zeros (Kd.int k) (w0 := w0) (W := W) base hgd s x t ti e (.int k 0) bytes ho ht hti hinfo rfl (Nat.zero_lt_one) hb0 v (ints l) 0 (n : Int) ok hs hx rfl hfresh HO (by omega) HB hbase (by rw [ints_length, Int.toNat_natCast]; exact hl) ?_
  intro v1 w1 h1 hb hg hat
  rw [Int.toNat_natCast] at h1
  refine h v1 w1 ?_ hb hg
  have h2 := ints_replicate n 0
  unfold OwnX
  rw [ints_append, ← h2]
  exact h1
end
end Go.Proofs.YtlgdplodglchaaaDoor
