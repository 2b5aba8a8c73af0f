/- An array variable: a block of its own cells. Over any program. -/
import Derived.Test.YtkkhdjdoifnoaaaUpR
set_option linter.unusedVariables false
set_option linter.unusedSimpArgs false
namespace Go.Proofs.Ytkkhdjdoifnoaaa
open Go.RowKit Go.Proofs.YtkkhdjdoifnoaaaW.PrintWords Go.Proofs.YtkkhdjdoifnoaaaW.PrintLast Go.Proofs.YtkkhdjdoifnoaaaW.PrintMore

/-- Block g holds an array's cells: the numbers l. -/
def Arr (k : IntKind) (T : Nat) (g : Nat) (w : World) (l : List Nat) : Prop := w.heap[g]? = some (.cells (l.map fun x : Nat => Value.int k x).toArray T (0, 0))
section
variable {k : IntKind} {T g : Nat} {w w1 : World} {l : List Nat}
theorem Arr.lt (h : Arr k T g w l) : g < w.heap.size := blk_lt h
theorem Arr.cell (h : Arr k T g w l) (i : Nat) (hi : i < l.length) : ∃ x, Aside0 (l.getD i 0 = x) ∧ w.cell? ⟨g, i, none⟩ = some (.int k (x : Int)) ∧ w.frozen? ⟨g, i, none⟩ = false := by
  refine ⟨l.getD i 0, ⟨rfl⟩, ?_, blk_frozen h i⟩
  rw [blk_cell h i]
  simp [hi]
theorem Arr.set (h : Arr k T g w l) (i x : Nat) : Arr k T g (w.setCell ⟨g, i, none⟩ (.int k (x : Int))) (l.set i x) := by
  have h1 := blk_set h i (.int k (x : Int))
  unfold Arr
  rw [h1]
  congr 2
  apply Array.ext'
  simp [List.map_set]
theorem Arr.below (h : Arr k T g w l) (hb : Below w.heap.size w w1) : Arr k T g w1 l := blk_below h hb
theorem Arr.under {B : Nat} (h : Arr k T g w l) (hb : Below B w w1) (hg : g < B) : Arr k T g w1 l := (hb.block g hg).trans h
theorem Arr.drew (h : Arr k T g w l) : Arr k T g w.drew l := h
theorem Arr.far (h : Arr k T g w l) {p : Addr} (hp : g ≠ p.block) (u : Value) : Arr k T g (w.setCell p u) l := blk_far h hp u
theorem Arr.new (W : World) {cs : Array Value} (hcs : cs = (l.map fun x : Nat => Value.int k x).toArray) : Arr k T W.heap.size (W.alloc (.cells cs T)) l := by
  subst hcs
  exact blk_new W _
theorem Arr.row (h : Arr k T g w l) (hl : l.length ≤ 9223372036854775807) : RowK k w (some ⟨g, 0, none⟩) l := RowK.of_at hl fun i hi => by
  obtain ⟨x, hx, hc, _⟩ := h.cell i hi
  rw [add_plain, hc, hx.out]
end
theorem Arr.far_grown {k : IntKind} {T g : Nat} {w w1 : World} {l : List Nat} (h : Arr k T g w l) {row : Option Nat} (hg : w.grownBy w1 row) (hne : row ≠ some g) : Arr k T g w1 l := blk_grown h hg (fun e => hne e.symm)
/-- Block g alone is turned. -/
structure Only (g : Nat) (w w1 : World) : Prop where
  below : Below g w w1
  size : w1.heap.size = w.heap.size
  far : ∀ i, i ≠ g → w1.heap[i]? = w.heap[i]?
theorem Only.refl (g : Nat) (w : World) : Only g w w := ⟨Below.refl _ _, rfl, fun _ _ => rfl⟩
theorem Only.set {g : Nat} {w w1 : World} (h : Only g w w1) (i : Nat) (u : Value) : Only g w (w1.setCell ⟨g, i, none⟩ u) :=
  ⟨h.below.setCell (Nat.le_refl _) _, by rw [← h.size]; simp, fun j hj => (Below.heap_setCell w1 ⟨g, i, none⟩ u j (by exact hj)).trans (h.far j hj)⟩
theorem Only.trans {g : Nat} {w w1 w2 : World} (h : Only g w w1) (k : Only g w1 w2) : Only g w w2 := ⟨h.below.trans k.below, k.size.trans h.size, fun i hi => (k.far i hi).trans (h.far i hi)⟩
theorem Only.from {g : Nat} {w w1 : World} (h : Only g w w1) {w0 : World} (hb : Below w0.heap.size w0 w) (hg : w0.heap.size ≤ g) : Below w0.heap.size w0 w1 :=
  hb.trans ⟨h.below.os, h.below.tape, h.below.output, by rw [h.size]; exact Nat.le_refl _, fun i hi => h.far i (by omega)⟩
theorem Only.arr {g g' T : Nat} {k : IntKind} {w w1 : World} {l : List Nat} (h : Only g w w1) (ha : Arr k T g' w l) (hne : g' ≠ g) : Arr k T g' w1 l := (h.far g' hne).trans ha
/-- A piece of a slice of bytes. -/
theorem Bytes.mid {w : World} {ad : Addr} {n c : Nat} {l : List Nat} (h : Bytes w (some ad) n c l) (lo m : Nat) (hm : lo + m ≤ n) (hlo : lo < c) : Bytes w (some (ad.add lo)) m (c - lo) ((l.drop lo).take m) := by
  have h1 := h.drop lo (by omega)
  rw [if_neg (by omega)] at h1
  exact h1.take m (by omega)
end Go.Proofs.Ytkkhdjdoifnoaaa
