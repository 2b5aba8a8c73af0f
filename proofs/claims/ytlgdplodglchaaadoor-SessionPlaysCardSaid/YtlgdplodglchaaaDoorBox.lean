/- A row of slices of bytes that grows: each is bytes of their own, or bytes that came in. -/
import Derived.Test.YtlgdplodglchaaaDoorProg
import Derived.Test.YtlgdplodglchaaaDoorGSesP
set_option linter.unusedVariables false
set_option linter.unusedSimpArgs false
namespace Go.Proofs.YtlgdplodglchaaaDoor
open Go.RowKit Go.Proofs.YtlgdplodglchaaaDoorW.PrintWords Go.Proofs.YtlgdplodglchaaaDoorW.PrintLast Go.Proofs.YtlgdplodglchaaaDoorW.PrintMore
def KSl : Kd (Option Addr × Nat × Nat) := Kd.scalar (fun x => Value.slice x.1 x.2.1 x.2.2) (fun _ => rfl)
def SRow (base : Nat) (w : World) (v : Value) (ss : List (Option Addr × Nat × Nat)) : Prop := KSl.R 40 w base (fun _ => True) v ss
theorem Tryd.infoSl : (Tryd.prog.info? 40).map (fun i => (i.zero, i.size, i.bytes)) = some (some (.slice none 0 0), 1, 24) := by kernel_rfl
section
variable {ops : Array Oper} {rest : List Oper} {o : Oper} {a : Act} {Q : Exit → Act → World → Prop} {Kc : Act → World → Prop}
theorem op_appendS {w0 W : World} (N : Tmp) (hd : o.dst = some N) (base : Nat) (s x : Operand) (ho : o.op = .call { callee := .builtin .append, args := #[s, x], argTypes := #[52, 52] }) (hgd : o.guard = none)
    (v : Value) (l : List (Option Addr × Nat × Nat)) (y : Option Addr × Nat × Nat) (hs : a.eval s = v) (hx : a.eval x = .slice (some ⟨W.heap.size, 0, none⟩) 1 1) (HO : SRow base W v l) (HB : Below base w0 W) (hbase : base ≤ W.heap.size) (hl : l.length ≤ 2000000)
    (h : ∀ v1 w1, SRow base w1 v1 (l ++ [y]) → Below base w0 w1 → W.grownBy w1 v.ownBlock → wpList Tryd.prog ops Q rest (a.put o.dst v1) w1) :
    wpList Tryd.prog ops Q (o :: rest) a (W.alloc (.cells #[.slice y.1 y.2.1 y.2.2] 40)) :=
  Kd.R_append KSl (w0 := w0) (W := W) base hgd s x 52 40 (.slice none 0 0) 24 ho Tryd.underlying52 Tryd.infoSl rfl (Nat.zero_lt_one) (by decide) v l y [.slice y.1 y.2.1 y.2.2] (fun _ => True) (fun g => some g ≠ v.ownBlock) hs hx rfl (fun g hg => ⟨trivial, hg⟩) (fun _ _ => trivial) HO HB hbase (by omega) (fun v1 w1 h1 hb hg _ => h v1 w1 h1 hb hg)
end
theorem heap_type {w : World} {k t t' : Nat} {c c' : Array Value} {f f' : Nat × Nat} (h : w.heap[k]? = some (.cells c t f)) (h' : w.heap[k]? = some (.cells c' t' f')) : t = t' := by
  rw [h] at h'
  injection h' with h'
  injection h' with _ h' _
/-- A row's own block has its elements' type. -/
theorem R_typed {α : Type} {d : Kd α} {e base : Nat} {w : World} {ok : Nat → Prop} {v : Value} {xs : List α} (h : d.R e w base ok v xs) (k : Nat) (hk : v.ownBlock = some k) : ∃ cells, w.heap[k]? = some (.cells cells e (0, 0)) := by
  obtain ⟨_, inner, ho, _⟩ := h
  exact own_typed ho k hk
theorem R_apart {α : Type} {d : Kd α} {e e' base : Nat} {w : World} {ok : Nat → Prop} {v : Value} {xs : List α} (h : d.R e w base ok v xs) (hne : e ≠ e') : Apart e' w (fun k => v.ownBlock = some k) := fun k cells hk e1 => by
  obtain ⟨c', hc⟩ := R_typed h k e1
  exact hne (heap_type hc hk)
theorem R_not {α : Type} {d : Kd α} {e t base k : Nat} {w : World} {ok : Nat → Prop} {v : Value} {xs : List α} {cs : Array Value} {f : Nat × Nat} (h : d.R e w base ok v xs) (hk : w.heap[k]? = some (.cells cs t f)) (hne : e ≠ t) : ¬ v.ownBlock = some k := fun e1 => by
  obtain ⟨c', hc⟩ := R_typed h k e1
  exact hne (heap_type hc hk)
/-- One slice: bytes of their own, or bytes that lay there before. -/
def Box (W w : World) (s : Option Addr × Nat × Nat) (l : List Nat) : Prop :=
  BytesOK l ∧ l.length ≤ 100000000 ∧ (OwnK .u8 5 W.heap.size w (.slice s.1 s.2.1 s.2.2) l ∨ Bytes W s.1 s.2.1 s.2.2 l)
theorem Box.bytes {W w : World} {s : Option Addr × Nat × Nat} {l : List Nat} (h : Box W w s l) (hb : Below W.heap.size W w) : Bytes w s.1 s.2.1 s.2.2 l := by
  rcases h.2.2 with h1 | h1
  · exact own_bytes h1 h.1
  · exact h1.below hb
theorem Box.mod {W w w1 : World} {S : Nat → Prop} {s : Option Addr × Nat × Nat} {l : List Nat} (h : Box W w s l) (hm : Mod S w w1) (ha : Apart 5 w S) : Box W w1 s l :=
  ⟨h.1, h.2.1, h.2.2.imp (fun h1 => h1.mod hm ha) id⟩
theorem Box.len {W w : World} {s : Option Addr × Nat × Nat} {l : List Nat} (h : Box W w s l) (hb : Below W.heap.size W w) : s.2.1 = l.length := (h.bytes hb).2.1.symm
theorem Box.own {W w : World} {A : Option Addr} {n c : Nat} {l : List Nat} (h : OwnK .u8 5 W.heap.size w (.slice A n c) l) (hb : BytesOK l) (hl : l.length ≤ 100000000) : Box W w (A, n, c) l := ⟨hb, hl, Or.inl h⟩
theorem Box.old {W w : World} {A : Option Addr} {n c : Nat} {l : List Nat} (h : Bytes W A n c l) (hl : l.length ≤ 100000000) : Box W w (A, n, c) l := ⟨h.ok, hl, Or.inr h⟩
/-- The row. -/
def BoxIn (W w : World) (v : Value) (ls : List (List Nat)) : Prop :=
  ∃ ss, SRow W.heap.size w v ss ∧ ss.length = ls.length ∧ ∀ i, i < ls.length → Box W w (ss.getD i (none, 0, 0)) (ls.getD i [])
theorem BoxIn.mod {W w w1 : World} {S : Nat → Prop} {v : Value} {ls : List (List Nat)} (h : BoxIn W w v ls) (hm : Mod S w w1) (ha : Apart 5 w S) (ha2 : Apart 40 w S) : BoxIn W w1 v ls := by
  obtain ⟨ss, h1, h2, h3⟩ := h
  exact ⟨ss, Kd_mod h1 hm rfl ha2, h2, fun i hi => (h3 i hi).mod hm ha⟩
theorem BoxIn.below {W w w1 : World} {v : Value} {ls : List (List Nat)} (h : BoxIn W w v ls) (hb : Below w.heap.size w w1) : BoxIn W w1 v ls := h.mod (S := fun _ => False) (Mod.below hb) (fun _ _ _ h => h) (fun _ _ _ h => h)
theorem BoxIn.nil (W w : World) : BoxIn W w (.slice none 0 0) [] := ⟨[], Kd.R_nil _ _ _ _ _, rfl, fun i hi => absurd hi (by simp)⟩
/-- Behind an append. -/
theorem BoxIn.snoc {W w w1 : World} {v v1 : Value} {ls : List (List Nat)} {l : List Nat} {ss : List (Option Addr × Nat × Nat)} {s : Option Addr × Nat × Nat} (h1 : SRow W.heap.size w v ss) (h2 : ss.length = ls.length) (h3 : ∀ i, i < ls.length → Box W w (ss.getD i (none, 0, 0)) (ls.getD i [])) (hs : Box W w s l)
    (hr : SRow W.heap.size w1 v1 (ss ++ [s])) (hg : w.grownBy w1 v.ownBlock) : BoxIn W w1 v1 (ls ++ [l]) := by
  have hm : Mod (fun k => v.ownBlock = some k) w w1 := Mod.grown hg (fun k hk => hk)
  have ha : Apart 5 w (fun k => v.ownBlock = some k) := R_apart h1 (by decide)
  refine ⟨_, hr, by simp [h2], fun i hi => ?_⟩
  by_cases hlt : i < ls.length
  · have e1 : (ss ++ [s]).getD i (none, 0, 0) = ss.getD i (none, 0, 0) := by
      rw [List.getD_eq_getElem?_getD, List.getElem?_append_left (by omega), ← List.getD_eq_getElem?_getD]
    have e2 : (ls ++ [l]).getD i [] = ls.getD i [] := by
      rw [List.getD_eq_getElem?_getD, List.getElem?_append_left hlt, ← List.getD_eq_getElem?_getD]
    rw [e1, e2]
    exact (h3 i hlt).mod hm ha
  · obtain rfl : i = ls.length := by simp at hi; omega
    have e1 : (ss ++ [s]).getD ls.length (none, 0, 0) = s := by simp [List.getD_eq_getElem?_getD, ← h2]
    have e2 : (ls ++ [l]).getD ls.length [] = l := by simp [List.getD_eq_getElem?_getD]
    rw [e1, e2]
    exact hs.mod hm ha
theorem BoxIn.form {W w : World} {v : Value} {ls : List (List Nat)} (h : BoxIn W w v ls) : ∃ A c, v = .slice A ls.length c ∧ ls.length ≤ c := by
  obtain ⟨ss, h1, h2, h3⟩ := h
  obtain ⟨A, c, rfl, hl, _⟩ := Kd.R_reads h1
  exact ⟨A, c, by rw [h2], by omega⟩
theorem BoxIn.at_ {W w : World} {v : Value} {ls : List (List Nat)} (h : BoxIn W w v ls) (hb : Below W.heap.size W w) (i : Nat) (hi : i < ls.length) :
    ∃ g c A m d, v = .slice (some ⟨g, 0, none⟩) ls.length c ∧ w.cell? ⟨g, i, none⟩ = some (.slice A m d) ∧ ls.length ≤ c ∧ Bytes w A m d (ls.getD i []) := by
  obtain ⟨ss, h1, h2, h3⟩ := h
  obtain ⟨g, c, rfl, _⟩ := Kd.R_form h1 (by omega)
  have h4 := (Kd.R_celln (none, 0, 0) h1 (i : Int) (by omega) (by omega)).1
  rw [Int.toNat_natCast, rdOf, Int.toNat_natCast] at h4
  have hx := (h3 i hi).bytes hb
  exact ⟨g, c, _, _, _, by rw [h2], h4, by have := (Kd.R_reads' h1).2.1; omega, hx⟩
end Go.Proofs.YtlgdplodglchaaaDoor
