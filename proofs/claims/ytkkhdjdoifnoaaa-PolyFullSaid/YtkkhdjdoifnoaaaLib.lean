/- Rows of bytes in memory: what is read, what is the call's own; laws at the operations that make, append, store. Over any program. -/
import Derived.Test.YtkkhdjdoifnoaaaWMore
import Derived.Test.YtkkhdjdoifnoaaaPlain
import Derived.Lib.Strings
set_option linter.unusedVariables false
set_option linter.unusedSimpArgs false
namespace Go.Proofs.Ytkkhdjdoifnoaaa
open Go.RowKit Go.Proofs.YtkkhdjdoifnoaaaW.PrintWords Go.Proofs.YtkkhdjdoifnoaaaW.PrintLast Go.Proofs.YtkkhdjdoifnoaaaW.PrintMore

/-- A fact that the walk's simp does not look into. -/
abbrev Hd := @Aside0
theorem hd {p : Prop} (h : p) : Aside0 p := ⟨h⟩

theorem below_seq {w w1 w2 : World} (h : Below w.heap.size w w1) (k : Below w1.heap.size w1 w2) : Below w.heap.size w w2 := below_then h h.size k
/-- A row of whole numbers of kind k, as it is read at address A. -/
def RowK (k : IntKind) (w : World) (A : Option Addr) (l : List Nat) : Prop := (Kd.int k).C w A l.length (ints l)
abbrev Row := RowK .u8
theorem RowK.below {k : IntKind} {w w1 : World} {A : Option Addr} {l : List Nat} (h : RowK k w A l) (hb : Below w.heap.size w w1) : RowK k w1 A l := Kd.C_below h hb
theorem RowK.at_ {k : IntKind} {w : World} {A : Option Addr} {l : List Nat} (h : RowK k w A l) (i : Nat) (hi : i < l.length) :
    ∃ ad x, A = some ad ∧ Aside0 (l.getD i 0 = x) ∧ w.cell? (ad.add i) = some (.int k (x : Int)) := by
  obtain ⟨ad, e, hc⟩ := Kd.at_int h (i : Int) (by omega) (by omega)
  rw [Int.toNat_natCast] at hc
  refine ⟨ad, l.getD i 0, e, ⟨rfl⟩, ?_⟩
  rw [hc, rd, Int.toNat_natCast, ints_getD]
theorem RowK.max {k : IntKind} {w : World} {A : Option Addr} {l : List Nat} (h : RowK k w A l) : l.length ≤ 9223372036854775807 := Kd.C_max h
theorem RowK.nil (k : IntKind) (w : World) (A : Option Addr) : RowK k w A [] := ⟨rfl, by simp, fun h => absurd h (by simp)⟩
/-- A row that came in, as the form reads it. -/
theorem RowK.of_C {k : IntKind} {w : World} {A : Option Addr} {n : Nat} {xs : List Int} (h : (Kd.int k).C w A n xs) (hx : ∀ x ∈ xs, 0 ≤ x) : RowK k w A (xs.map Int.toNat) := by
  unfold RowK
  rw [← ints_of hx]
  have := Kd.C_len h
  subst this
  simpa using h

/-- A row of the call's own: in a block from base on. -/
def OwnK (k : IntKind) (e : Nat) (base : Nat) (w : World) (v : Value) (l : List Nat) : Prop := (Kd.int k).R e w base (fun _ => True) v (ints l)
section
variable {k : IntKind} {e base base' : Nat} {w w1 : World} {v : Value} {l : List Nat}
theorem OwnK.below (h : OwnK k e base w v l) (hb : Below w.heap.size w w1) : OwnK k e base w1 v l := Kd.R_below h hb
theorem OwnK.lower (h : OwnK k e base w v l) (hb : base' ≤ base) : OwnK k e base' w v l := Kd.R_lower h hb
theorem OwnK.slice (h : OwnK k e base w v l) : ∃ A c, v = .slice A l.length c ∧ l.length ≤ c ∧ RowK k w A l := by
  obtain ⟨A, c, he, hl, hr⟩ := Kd.R_reads h
  rw [ints_length] at he hl hr
  exact ⟨A, c, he, hl, hr⟩
theorem OwnK.row {A : Option Addr} {n c : Nat} (h : OwnK k e base w (.slice A n c) l) : n = l.length ∧ l.length ≤ c ∧ RowK k w A l := by
  obtain ⟨A', c', he, hl, hr⟩ := h.slice
  injection he with h1 h2 h3
  subst h1; subst h2; subst h3
  exact ⟨rfl, hl, hr⟩
theorem OwnK.nil (k : IntKind) (e base : Nat) (w : World) : OwnK k e base w (.slice none 0 0) [] := Kd.R_nil _ _ _ _ _
theorem OwnK.lt (h : OwnK k e base w v l) : ∀ g, v.ownBlock = some g → base ≤ g ∧ g < w.heap.size := fun g hg => ⟨Kd.R_base h g hg, Kd.R_lt h g hg⟩
/-- Writes below its base leave it. -/
theorem OwnK.step (h : OwnK k e base w v l) (hm : ∀ g, base ≤ g → g < w.heap.size → w1.heap[g]? = w.heap[g]?) : OwnK k e base w1 v l := by
  have h1 := Kd.R_mono (ok' := fun g => base ≤ g ∧ g < w.heap.size) (Kd.R_bound h) (fun g hg => ⟨hg.2.1, hg.2.2.1⟩)
  exact Kd.R_mono (Kd.R_step h1 (fun g hg _ => hm g hg.1 hg.2)) (fun _ _ => trivial)
theorem OwnK.form (h : OwnK k e base w v l) (hp : 0 < l.length) : ∃ g c, v = .slice (some ⟨g, 0, none⟩) l.length c ∧ base ≤ g ∧ g < w.heap.size ∧ l.length ≤ c := by
  obtain ⟨g, cap, rfl, hb, hl, _⟩ := Kd.R_form h (by rw [ints_length]; exact hp)
  rw [ints_length] at *
  exact ⟨g, cap, rfl, hb, hl, by have := (OwnK.row h).2.1; exact this⟩
theorem OwnK.at_ {A : Option Addr} {n c : Nat} (h : OwnK k e base w (.slice A n c) l) (hp : 0 < n) : ∃ g, A = some ⟨g, 0, none⟩ ∧ base ≤ g ∧ g < w.heap.size := by
  have hn := h.row.1
  obtain ⟨g, c', he, hb, hl, _⟩ := h.form (by omega)
  injection he with h1 h2 h3
  exact ⟨g, h1, hb, hl⟩
theorem OwnK.cell {g n c : Nat} (h : OwnK k e base w (.slice (some ⟨g, 0, none⟩) n c) l) (i : Nat) (hi : i < n) :
    w.cell? ⟨g, i, none⟩ = some (.int k ((l.getD i 0 : Nat) : Int)) ∧ w.frozen? ⟨g, i, none⟩ = false := by
  have hn := h.row.1
  obtain ⟨h1, h2⟩ := Kd.R_celln (0 : Int) h (i : Int) (by omega) (by omega)
  rw [Int.toNat_natCast] at h1 h2
  refine ⟨?_, h2⟩
  rw [h1, rdOf, Int.toNat_natCast, ints_getD]
theorem OwnK.cellx {g n c : Nat} (h : OwnK k e base w (.slice (some ⟨g, 0, none⟩) n c) l) (i : Nat) (hi : i < n) :
    ∃ x, Aside0 (l.getD i 0 = x) ∧ w.cell? ⟨g, i, none⟩ = some (.int k (x : Int)) ∧ w.frozen? ⟨g, i, none⟩ = false := ⟨_, ⟨rfl⟩, h.cell i hi⟩
theorem OwnK.put {g n c : Nat} (h : OwnK k e base w (.slice (some ⟨g, 0, none⟩) n c) l) (i x : Nat) :
    OwnK k e base (w.setCell ⟨g, i, none⟩ (.int k (x : Int))) (.slice (some ⟨g, 0, none⟩) n c) (l.set i x) := by
  have h1 := (Kd.R_putg h (i : Int) (x : Int)).1
  rw [Int.toNat_natCast, ints_set] at h1
  exact h1
end

/-- A literal's row. -/
theorem RowK.new {k : IntKind} {W : World} {t : TypeId} {cs : Array Value} (l : List Nat) (hcs : cs = (l.map fun n : Nat => Value.int k n).toArray) (hl : l.length ≤ 9223372036854775807) : RowK k (W.alloc (.cells cs t)) (some ⟨W.heap.size, 0, none⟩) l := by
  refine Kd.C_of_reads (enc := Value.int k) (d := (0 : Int)) (h1 := fun _ => rfl) ⟨by simp [ints], hl, fun hp => ⟨_, rfl, fun j hj => ?_⟩⟩
  have hb := blk_cell (w := W.alloc (.cells cs t)) (g := W.heap.size) (t := t) (cs := cs) (heap_alloc_new W _) j
  rw [add_plain, hb, hcs]
  simp [ints, hj]
/-- The string of bytes. -/
def strOf (l : List Nat) : ByteArray := ⟨(l.map UInt8.ofNat).toArray⟩
theorem strOf_inj {l m : List Nat} (hl : BytesOK l) (hm : BytesOK m) (h : strOf l = strOf m) : l = m := by
  unfold strOf at h
  injection h with h
  have h := congrArg Array.toList h
  simp only at h
  induction l generalizing m with
  | nil => cases m with
    | nil => rfl
    | cons => simp at h
  | cons x l ih => cases m with
    | nil => simp at h
    | cons y m =>
      simp only [List.map_cons, List.cons.injEq] at h
      have h1 := congrArg UInt8.toNat h.1
      simp only [UInt8.toNat_ofNat'] at h1
      have hx := hl.head
      have hy := hm.head
      rw [Nat.mod_eq_of_lt hx, Nat.mod_eq_of_lt hy] at h1
      rw [h1, ih hl.tail hm.tail (by rw [h.2]) h.2]
theorem strOf_data (l : List Nat) : (strOf l).data.toList = l.map UInt8.ofNat := rfl
theorem strOf_toList (l : List Nat) : (strOf l).toList = l.map UInt8.ofNat := by rw [Lib.toList_data]; rfl
theorem str_lit {l : List Nat} {m : List UInt8} (h : l.map UInt8.ofNat = m) : ((strOf l).toList == m) = true := by rw [strOf_toList, h, beq_self_eq_true]
theorem str_eq {l m : List Nat} (hl : BytesOK l) (hm : BytesOK m) : ((strOf l).toList == (strOf m).toList) = (l == m) := by
  rw [Bool.eq_iff_iff, beq_iff_eq, beq_iff_eq]
  constructor
  · intro h
    refine strOf_inj hl hm ?_
    rw [strOf_toList, strOf_toList] at h
    unfold strOf
    rw [h]
  · rintro rfl; rfl
theorem RowK.str {P : Program} {w : World} {src dst e : TypeId} {A : Option Addr} {l : List Nat} {c : Nat} (h : Row w A l) (hs : P.underlying src = some (.slice e)) (he : P.underlying e = some (.int .u8)) (hd : P.underlying dst = some .string) :
    (convert src dst (.slice A l.length c)).run P w = .ok (.string (strOf l)) w := by
  have h1 := Kd.C_string hs he hd (c := c) h
  rw [h1]
  congr 2
  unfold strOfNums strOf ints
  rw [List.map_map]
  rfl

/-- A slice of bytes: what it reads, its length, that its bytes are bytes. -/
def Bytes (w : World) (A : Option Addr) (n c : Nat) (l : List Nat) : Prop := Row w A l ∧ l.length = n ∧ n ≤ c ∧ BytesOK l
theorem Bytes.below {w w1 : World} {A : Option Addr} {n c : Nat} {l : List Nat} (h : Bytes w A n c l) (hb : Below w.heap.size w w1) : Bytes w1 A n c l := ⟨h.1.below hb, h.2⟩
theorem Bytes.alloc {w : World} {A : Option Addr} {n c : Nat} {l : List Nat} (h : Bytes w A n c l) (o : Obj) : Bytes (w.alloc o) A n c l := h.below (below_alloc (Below.refl _ _) o)
theorem Bytes.drew {w : World} {A : Option Addr} {n c : Nat} {l : List Nat} (h : Bytes w A n c l) : Bytes w.drew A n c l := h.below (below_drew (Below.refl _ _))
theorem Bytes.ok {w : World} {A : Option Addr} {n c : Nat} {l : List Nat} (h : Bytes w A n c l) : BytesOK l := h.2.2.2
theorem Bytes.nil (w : World) (A : Option Addr) (c : Nat) : Bytes w A 0 c [] := ⟨RowK.nil _ _ _, rfl, Nat.zero_le _, BytesOK.nil⟩
/-- A literal that has just been laid. -/
theorem Bytes.new {W : World} {t : TypeId} {cs : Array Value} {g n : Nat} (l : List Nat) (hcs : cs = (l.map fun x : Nat => Value.int .u8 x).toArray) (hg : g = W.heap.size) (hn : n = l.length) (hl : l.length ≤ 9223372036854775807) (hb : (l.all fun x => decide (x < 256)) = true) :
    Bytes (W.alloc (.cells cs t)) (some ⟨g, 0, none⟩) n n l := by
  subst hg; subst hn
  exact ⟨RowK.new l hcs hl, rfl, Nat.le_refl _, fun x hx => by simpa using List.all_eq_true.1 hb x hx⟩
theorem Bytes.str {P : Program} {w : World} {src dst e : TypeId} {A : Option Addr} {n c : Nat} {l : List Nat} (h : Bytes w A n c l) (hs : P.underlying src = some (.slice e)) (he : P.underlying e = some (.int .u8)) (hd : P.underlying dst = some .string) :
    (convert src dst (.slice A n c)).run P w = .ok (.string (strOf l)) w := by
  obtain ⟨hr, rfl, _⟩ := h
  exact hr.str hs he hd
/-- What a function handed back, as bytes that are read. -/
theorem OwnK.bytes {w : World} {e base : Nat} {v : Value} {l : List Nat} (h : OwnK .u8 e base w v l) (n : Nat) (hn : l.length = n) (hb : BytesOK l) : ∃ A c, v = .slice A n c ∧ Bytes w A n c l := by
  obtain ⟨A, c, rfl, hc, hr⟩ := h.slice
  subst hn
  exact ⟨A, c, rfl, hr, rfl, hc, hb⟩
theorem RowK.take {k : IntKind} {w : World} {A : Option Addr} {l : List Nat} (h : RowK k w A l) (m : Nat) (hm : m ≤ l.length) : RowK k w A (l.take m) := by
  have h1 := Kd.reads_of_C (enc := Value.int k) (d := (0 : Int)) (h1 := fun _ => rfl) h
  have h2 := ReadsOf.take_ h1 m hm
  rw [ints_take] at h2
  have h3 : (l.take m).length = m := by rw [List.length_take]; omega
  unfold RowK
  rw [h3]
  exact Kd.C_of_reads (enc := Value.int k) (d := (0 : Int)) (h1 := fun _ => rfl) h2
theorem Bytes.take {w : World} {A : Option Addr} {n c : Nat} {l : List Nat} (h : Bytes w A n c l) (m : Nat) (hm : m ≤ n) : Bytes w A m c (l.take m) := by
  obtain ⟨hr, rfl, hc, hb⟩ := h
  exact ⟨hr.take m hm, by rw [List.length_take]; omega, by omega, hb.take m⟩
/-- What stands from m on. -/
theorem Bytes.drop {w : World} {A : Option Addr} {n c : Nat} {l : List Nat} (h : Bytes w A n c l) (m : Nat) (hm : m ≤ n) : Bytes w (if c = m then A else A.map (·.add m)) (n - m) (c - m) (l.drop m) := by
  obtain ⟨hr, rfl, hc, hb⟩ := h
  have h1 := Kd.reads_of_C (enc := Value.int .u8) (d := (0 : Int)) (h1 := fun _ => rfl) hr
  have h2 := ReadsOf.drop_ h1 m hm hc
  rw [ints_drop] at h2
  refine ⟨?_, by rw [List.length_drop], by omega, hb.drop m⟩
  unfold Row RowK
  rw [List.length_drop]
  exact Kd.C_of_reads (enc := Value.int .u8) (d := (0 : Int)) (h1 := fun _ => rfl) h2
theorem own_str {P : Program} {w : World} {base : Nat} {v : Value} {src dst e : TypeId} {l : List Nat} (h : OwnK .u8 e base w v l) (n : Nat) (hn : l.length = n) (hs : P.underlying src = some (.slice e)) (he : P.underlying e = some (.int .u8)) (hd : P.underlying dst = some .string) :
    ∃ A c, v = .slice A n c ∧ n ≤ c ∧ Row w A l ∧ (convert src dst (.slice A n c)).run P w = .ok (.string (strOf l)) w := by
  obtain ⟨A, c, rfl, hc, hr⟩ := h.slice
  subst hn
  exact ⟨A, c, rfl, hc, hr, hr.str hs he hd⟩

/-- Rows of bytes, as they are read at address A. -/
def Rows2 (w : World) (A : Option Addr) (L : List (List Nat)) : Prop :=
  L.length ≤ 9223372036854775807 ∧ (0 < L.length → ∃ ad, A = some ad ∧ ∀ i, i < L.length → ∃ A' c, w.cell? (ad.add i) = some (.slice A' (L.getD i []).length c) ∧ (L.getD i []).length ≤ c ∧ Row w A' (L.getD i []))
theorem Rows2.below {w w1 : World} {A : Option Addr} {L : List (List Nat)} (h : Rows2 w A L) (hb : Below w.heap.size w w1) : Rows2 w1 A L :=
  ⟨h.1, fun hp => by
    obtain ⟨ad, e, hc⟩ := h.2 hp
    refine ⟨ad, e, fun i hi => ?_⟩
    obtain ⟨A', c, h1, h2, h3⟩ := hc i hi
    exact ⟨A', c, pw_cell_below hb h1, h2, h3.below hb⟩⟩
theorem Rows2.at_ {w : World} {A : Option Addr} {L : List (List Nat)} (h : Rows2 w A L) (i : Nat) (hi : i < L.length) :
    ∃ ad A' c l, A = some ad ∧ Aside0 (L.getD i [] = l) ∧ w.cell? (ad.add i) = some (.slice A' l.length c) ∧ l.length ≤ c ∧ Row w A' l := by
  obtain ⟨ad, e, hc⟩ := h.2 (by omega)
  obtain ⟨A', c, h1, h2, h3⟩ := hc i hi
  exact ⟨ad, A', c, _, e, ⟨rfl⟩, h1, h2, h3⟩

/-- Two literals, laid one behind the other. -/
theorem Bytes.two {W : World} {t t' : TypeId} {cs cs' : Array Value} {n m : Nat} (l l' : List Nat) (hcs : cs = (l.map fun x : Nat => Value.int .u8 x).toArray) (hcs' : cs' = (l'.map fun x : Nat => Value.int .u8 x).toArray) (hn : n = l.length) (hm : m = l'.length)
    (hl : l.length ≤ 9223372036854775807) (hl' : l'.length ≤ 9223372036854775807) (hb : (l.all fun x => decide (x < 256)) = true) (hb' : (l'.all fun x => decide (x < 256)) = true) :
    Bytes ((W.alloc (.cells cs t)).alloc (.cells cs' t')) (some ⟨W.heap.size, 0, none⟩) n n l ∧ Bytes ((W.alloc (.cells cs t)).alloc (.cells cs' t')) (some ⟨W.heap.size + 1, 0, none⟩) m m l' :=
  ⟨(Bytes.new l hcs rfl hn hl hb).alloc _, Bytes.new l' hcs' (by simp) hm hl' hb'⟩
/-- Slices of bytes, in line. -/
def RowsOf (w : World) : List Value → List (List Nat) → Prop
  | [], [] => True
  | v :: vs, l :: L => (∃ A n c, v = .slice A n c ∧ Bytes w A n c l) ∧ RowsOf w vs L
  | _, _ => False
theorem RowsOf.at_ {w : World} {vs : List Value} {L : List (List Nat)} (h : RowsOf w vs L) : vs.length = L.length ∧ ∀ i, i < L.length → ∃ A c, vs[i]? = some (.slice A (L.getD i []).length c) ∧ (L.getD i []).length ≤ c ∧ Row w A (L.getD i []) := by
  induction vs generalizing L with
  | nil => cases L with
    | nil => exact ⟨rfl, fun i hi => by simp at hi⟩
    | cons => exact h.elim
  | cons v vs ih => cases L with
    | nil => exact h.elim
    | cons l L =>
      obtain ⟨⟨A, n, c, rfl, hr, rfl, hc, _⟩, h2⟩ := h
      obtain ⟨h3, h4⟩ := ih h2
      refine ⟨by simp [h3], fun i hi => ?_⟩
      cases i with
      | zero => exact ⟨A, c, rfl, hc, hr⟩
      | succ i => exact h4 i (by simpa using hi)
theorem RowsOf.below {w w1 : World} (hb : Below w.heap.size w w1) : ∀ {vs : List Value} {L : List (List Nat)}, RowsOf w vs L → RowsOf w1 vs L
  | [], [], _ => trivial
  | v :: vs, l :: L, ⟨⟨A, n, c, e, h⟩, h2⟩ => ⟨⟨A, n, c, e, h.below hb⟩, RowsOf.below hb h2⟩
theorem Rows2.new {W : World} {t : TypeId} {cs : Array Value} {g : Nat} {vs : List Value} {L : List (List Nat)} (h : RowsOf W vs L) (hcs : cs = vs.toArray) (hg : g = W.heap.size) (hl : L.length ≤ 9223372036854775807) : Rows2 (W.alloc (.cells cs t)) (some ⟨g, 0, none⟩) L := by
  subst hg; subst hcs
  obtain ⟨h1, h2⟩ := h.at_
  refine ⟨hl, fun hp => ⟨_, rfl, fun i hi => ?_⟩⟩
  obtain ⟨A, c, h3, h4, h5⟩ := h2 i hi
  refine ⟨A, c, ?_, h4, h5.below (below_alloc (Below.refl _ _) _)⟩
  have hb := blk_cell (w := W.alloc (.cells vs.toArray t)) (g := W.heap.size) (t := t) (cs := vs.toArray) (heap_alloc_new W _) i
  rw [add_plain, hb]
  simpa using h3

/-! ### what came in -/
theorem RowK.of_at {k : IntKind} {w : World} {ad : Addr} {l : List Nat} (hl : l.length ≤ 9223372036854775807) (hc : ∀ i, i < l.length → w.cell? (ad.add i) = some (.int k ((l.getD i 0 : Nat) : Int))) : RowK k w (some ad) l :=
  Kd.C_of_reads (enc := Value.int k) (d := (0 : Int)) (h1 := fun _ => rfl) ⟨ints_length l, hl, fun hp => ⟨ad, rfl, fun j hj => by rw [hc j hj, ints_getD]⟩⟩
/-- The first len of the cells that came in. -/
theorem Bytes.of_cells {w : World} {x : Addr} {len cap : Nat} {zs : List Int} (hl : len ≤ cap) (hz : zs.length = cap) (hcell : ∀ i, i < zs.length → w.cell? (x.add i) = some (.int .u8 (zs.getD i 0))) (hwz : ∀ n ∈ zs, (Lit.int .u8 n).wf = true) (hm : cap ≤ maxLen := by assumption) :
    Bytes w (some x) len cap ((zs.take len).map Int.toNat) := by
  have hr : ∀ n ∈ zs, 0 ≤ n ∧ n < 256 := fun n hn => by
    have := hwz n hn
    simp [Lit.wf, IntKind.min, IntKind.max, IntKind.signed, IntKind.bits] at this
    omega
  have hlen : ((zs.take len).map Int.toNat).length = len := by rw [List.length_map, List.length_take]; omega
  unfold maxLen at hm
  refine ⟨RowK.of_at (by omega) (fun i hi => ?_), hlen, hl, fun y hy => ?_⟩
  · rw [hcell i (by omega)]
    have hi2 : i < len := by omega
    have h0 := (hr (zs[i]'(by omega)) (List.getElem_mem _)).1
    simp [List.getD_eq_getElem?_getD, hi2, List.getElem?_eq_getElem (show i < zs.length by omega)]
    omega
  · obtain ⟨n, hn, rfl⟩ := List.mem_map.1 hy
    have := hr n (List.mem_of_mem_take hn)
    omega
theorem Rows2.of_cells {w : World} {a : Addr} {len cap : Nat} {A : Nat → Option Addr} {L C : Nat → Nat} {Z : Nat → List Int} (hl : len ≤ cap) (hm : cap ≤ maxLen)
    (h : ∀ r, r < cap → w.cell? (a.add r) = some (.slice (A r) (L r) (C r)) ∧ L r ≤ C r ∧ C r ≤ maxLen ∧ (Z r).length = C r ∧ (∀ n ∈ Z r, (Lit.int .u8 n).wf = true) ∧ (A r = none → C r = 0) ∧ ∀ a', A r = some a' → 0 ≤ a'.block ∧ ∀ c, c < C r → w.cell? (a'.add c) = some (.int .u8 ((Z r).getD c 0))) :
    ∃ M : List (List Nat), Rows2 w (some a) M ∧ M.length = len ∧ len ≤ cap ∧ ∀ l ∈ M, BytesOK l := by
  have each : ∀ r, r < cap → Bytes w (A r) (L r) (C r) (((Z r).take (L r)).map Int.toNat) := by
    intro r hr
    obtain ⟨h1, h2, h3, h4, h5, h6, h7⟩ := h r hr
    rcases ha : A r with _ | a'
    · have h8 := h6 ha
      have h9 : L r = 0 := by omega
      rw [h9, h8]
      exact Bytes.nil _ _ _
    · exact Bytes.of_cells h2 h4 (fun i hi => (h7 a' ha).2 i (by omega)) h5 h3
  unfold maxLen at hm
  refine ⟨(List.range len).map fun r => ((Z r).take (L r)).map Int.toNat, ⟨by simp; omega, fun hp => ⟨a, rfl, fun i hi => ?_⟩⟩, by simp, hl, fun l hl' => ?_⟩
  · have hi2 : i < len := by simpa using hi
    obtain ⟨h1, h2, h3, h4⟩ := each i (by omega)
    have hg : ((List.range len).map fun r => ((Z r).take (L r)).map Int.toNat).getD i [] = ((Z i).take (L i)).map Int.toNat := by
      simp [List.getD_eq_getElem?_getD, hi2]
    rw [hg]
    refine ⟨A i, C i, ?_, by omega, h1⟩
    rw [h2]
    exact (h i (by omega)).1
  · obtain ⟨r, hr, rfl⟩ := List.mem_map.1 hl'
    exact (each r (by have := List.mem_range.1 hr; omega)).2.2.2

/-! ### the operations -/
section
variable {P : Program} {ops : Array Oper} {rest : List Oper} {o : Oper} {a : Act} {Q : Exit → Act → World → Prop}
/-- make([]T, m), T a kind of whole numbers. -/
theorem op_make {k : IntKind} {W : World} (N : Tmp) (hd : o.dst = some N) (e : Nat) (t : TypeId) (x y : Operand) (ho : o.op = .makeSlice t x y) (hgd : o.guard = none) (n : Int)
    (hx : a.eval x = .int .i64 n) (hy : a.eval y = .int .i64 n) (ht : P.underlying t = some (.slice e)) {bytes : Nat} (hinfo : (P.info? e).map (fun i => (i.zero, i.size, i.bytes)) = some (some (.int k 0), 1, bytes)) (hb0 : 0 < bytes)
    (m : Nat) (hn : n = (m : Int)) (hm : m * bytes ≤ 281474976710656)
    (h : ∀ A c w1, m ≤ c → OwnK k e W.heap.size w1 (.slice A m c) (List.replicate m 0) → Below W.heap.size W w1 → wpList P ops Q rest (a.put o.dst (.slice A m c)) w1) : wpList P ops Q (o :: rest) a W := by
  subst hn
  refine Kd.R_make (Kd.int k) (w0 := W) W.heap.size e hgd hd t x y ho (m : Int) hx hy ht (.int k 0) bytes hinfo rfl (Nat.zero_lt_one) hb0 0 (ok := fun _ => True) (okp := fun _ => True) rfl (fun _ hk => hk) trivial (by omega) (by rw [Int.toNat_natCast]; exact hm) (Below.refl _ _) (Nat.le_refl _) ?_
  intro v1 w1 h1 hb _ _
  rw [Int.toNat_natCast] at h1
  have h2 : OwnK k e W.heap.size w1 v1 (List.replicate m 0) := by
    have := ints_replicate m 0
    unfold OwnK
    rw [← this]
    exact h1
  obtain ⟨A, c, rfl, hc, _⟩ := h2.slice
  rw [List.length_replicate] at h2 hc ⊢
  exact h A c w1 hc h2 hb
/-- append(v, x): behind the variadic's box. -/
theorem op_append {k : IntKind} {w0 W : World} (N : Tmp) (hd : o.dst = some N) (base e : Nat) (t : TypeId) (s x : Operand) (ho : o.op = .call { callee := .builtin .append, args := #[s, x], argTypes := #[t, t] }) (hgd : o.guard = none)
    (ht : P.underlying t = some (.slice e)) {bytes : Nat} (hinfo : (P.info? e).map (fun i => (i.zero, i.size, i.bytes)) = some (some (.int k 0), 1, bytes)) (hb0 : 0 < bytes)
    (v : Value) (l : List Nat) (yi : Int) (y : Nat) (hy : yi = (y : Int)) (hs : a.eval s = v) (hx : a.eval x = .slice (some ⟨W.heap.size, 0, none⟩) 1 1) (HO : OwnK k e base W v l) (HB : Below base w0 W) (hbase : base ≤ W.heap.size) (hl : (l.length + 1) * bytes ≤ 140737488355328)
    (h : ∀ v1 w1, OwnK k e base w1 v1 (l ++ [y]) → Below base w0 w1 → W.grownBy w1 v.ownBlock → wpList P ops Q rest (a.put o.dst v1) w1) :
    wpList P ops Q (o :: rest) a (W.alloc (.cells #[.int k yi] e)) := by
  subst hy
  refine Kd.R_append (Kd.int k) (w0 := w0) (W := W) base hgd s x t e (.int k 0) bytes ho ht hinfo rfl (Nat.zero_lt_one) hb0 v (ints l) (y : Int) [.int k (y : Int)] (fun _ => True) (fun g => some g ≠ v.ownBlock) hs hx rfl (fun g hg => ⟨trivial, hg⟩) (fun _ _ => trivial) HO HB hbase (by rw [ints_length]; exact hl) ?_
  intro v1 w1 h1 hb hg hat
  refine h v1 w1 ?_ hb hg
  unfold OwnK
  rw [ints_append]
  exact h1
/-- append(v, ys...). -/
theorem op_append_row {k : IntKind} {w0 W : World} (N : Tmp) (hd : o.dst = some N) (base e : Nat) (t : TypeId) (s x : Operand) (ho : o.op = .call { callee := .builtin .append, args := #[s, x], argTypes := #[t, t] }) (hgd : o.guard = none)
    (ht : P.underlying t = some (.slice e)) {bytes : Nat} (hinfo : (P.info? e).map (fun i => (i.zero, i.size, i.bytes)) = some (some (.int k 0), 1, bytes)) (hb0 : 0 < bytes)
    (v : Value) (l ys : List Nat) (A : Option Addr) (m c : Nat) (hs : a.eval s = v) (hx : a.eval x = .slice A m c) (hm : m = ys.length) (HO : OwnK k e base W v l) (HR : RowK k W A ys) (HB : Below base w0 W) (hbase : base ≤ W.heap.size) (hl : (l.length + ys.length) * bytes ≤ 140737488355328)
    (h : ∀ v1 w1, OwnK k e base w1 v1 (l ++ ys) → Below base w0 w1 → W.grownBy w1 v.ownBlock → wpList P ops Q rest (a.put o.dst v1) w1) :
    wpList P ops Q (o :: rest) a W := by
  subst hm
  refine Kd.R_append_rows (Kd.int k) (Rr := (Kd.int k).K W) (w0 := w0) (W := W) base hgd s x t e (.int k 0) bytes ho ht hinfo rfl (Nat.zero_lt_one) hb0 v (ints l) (ints ys) A ys.length c (fun _ => True) (fun g => some g ≠ v.ownBlock) hs hx HO HR (fun x cs hk => hk) (fun g hg => ⟨trivial, hg⟩) (fun _ _ => trivial) HB hbase (by rw [ints_length]; exact hl) ?_
  intro v1 w1 h1 hb hg hat
  refine h v1 w1 ?_ hb hg
  unfold OwnK
  rw [ints_append]
  exact h1
end
/-! ### the same as one step of a region that draws -/
section
variable {P : Program} {ops : Array Oper} {o : Oper} {a : Act} {Q : Exit → Act → World → Prop} {Kc : Act → World → Prop}
theorem gate_dstS {W : World} {N : Tmp} (_hN : o.dst = some N) (h : if Region.wanted o (yielded ops a.tmps) = true then Oper.wp P o a W Kc Q else Kc (a.put o.dst undef) W) : if Region.wanted o (yielded ops a.tmps) = true then Oper.wp P o a W Kc Q else Kc (a.put o.dst undef) W := h
theorem RowK.one {k : IntKind} {w : World} {ad : Addr} {y : Nat} (h : w.cell? (ad.add 0) = some (.int k (y : Int))) : RowK k w (some ad) [y] := by
  refine Kd.C_of_reads (enc := Value.int k) (d := (0 : Int)) (h1 := fun _ => rfl) ⟨rfl, by simp, fun _ => ⟨ad, rfl, fun j hj => ?_⟩⟩
  obtain rfl : j = 0 := by simpa using hj
  rw [h]
  simp [ints]
/-- append(v, ys...), in whatever world. -/
theorem op_append_row_step {k : IntKind} {w0 W : World} (N : Tmp) (hd : o.dst = some N) (base e : Nat) (t : TypeId) (s x : Operand) (ho : o.op = .call { callee := .builtin .append, args := #[s, x], argTypes := #[t, t] }) (hw : Region.wanted o (yielded ops a.tmps) = true)
    (ht : P.underlying t = some (.slice e)) {bytes : Nat} (hinfo : (P.info? e).map (fun i => (i.zero, i.size, i.bytes)) = some (some (.int k 0), 1, bytes)) (hb0 : 0 < bytes)
    (v : Value) (l ys : List Nat) (A : Option Addr) (m c : Nat) (hs : a.eval s = v) (hx : a.eval x = .slice A m c) (hm : m = ys.length) (HO : OwnK k e base W v l) (HR : RowK k W A ys) (HB : Below base w0 W) (hbase : base ≤ W.heap.size) (hl : (l.length + ys.length) * bytes ≤ 140737488355328)
    (h : ∀ v1 w1, OwnK k e base w1 v1 (l ++ ys) → Below base w0 w1 → W.grownBy w1 v.ownBlock → Kc (a.put o.dst v1) w1) :
    if Region.wanted o (yielded ops a.tmps) = true then Oper.wp P o a W Kc Q else Kc (a.put o.dst undef) W := by
  subst hm
  refine Kd.R_append_rows_step (Kd.int k) (Rr := (Kd.int k).K W) (w0 := w0) (W := W) base hw s x t e (.int k 0) bytes ho ht hinfo rfl (Nat.zero_lt_one) hb0 v (ints l) (ints ys) A ys.length c (fun _ => True) (fun g => some g ≠ v.ownBlock) hs hx HO HR (fun x cs hk => hk) (fun g hg => ⟨trivial, hg⟩) (fun _ _ => trivial) HB hbase (by rw [ints_length]; exact hl) ?_
  intro v1 w1 h1 hb hg hat
  refine h v1 w1 ?_ hb hg
  unfold OwnK
  rw [ints_append]
  exact h1
/-- append(v, y), y in a box of its own, in whatever world. -/
theorem op_append1_step {k : IntKind} {w0 W : World} (N : Tmp) (hd : o.dst = some N) (base e : Nat) (t : TypeId) (s x : Operand) (ho : o.op = .call { callee := .builtin .append, args := #[s, x], argTypes := #[t, t] }) (hw : Region.wanted o (yielded ops a.tmps) = true)
    (ht : P.underlying t = some (.slice e)) {bytes : Nat} (hinfo : (P.info? e).map (fun i => (i.zero, i.size, i.bytes)) = some (some (.int k 0), 1, bytes)) (hb0 : 0 < bytes)
    (v : Value) (l : List Nat) (y : Nat) (g : Nat) (hs : a.eval s = v) (hx : a.eval x = .slice (some ⟨g, 0, none⟩) 1 1) (HO : OwnK k e base W v l) (hy : W.cell? ⟨g, 0, none⟩ = some (.int k (y : Int))) (HB : Below base w0 W) (hbase : base ≤ W.heap.size) (hl : (l.length + 1) * bytes ≤ 140737488355328)
    (h : ∀ v1 w1, OwnK k e base w1 v1 (l ++ [y]) → Below base w0 w1 → W.grownBy w1 v.ownBlock → Kc (a.put o.dst v1) w1) :
    if Region.wanted o (yielded ops a.tmps) = true then Oper.wp P o a W Kc Q else Kc (a.put o.dst undef) W :=
  op_append_row_step N hd base e t s x ho hw ht hinfo hb0 v l [y] (some ⟨g, 0, none⟩) 1 1 hs hx rfl HO (RowK.one (ad := ⟨g, 0, none⟩) hy) HB hbase hl h
end
end Go.Proofs.Ytkkhdjdoifnoaaa
