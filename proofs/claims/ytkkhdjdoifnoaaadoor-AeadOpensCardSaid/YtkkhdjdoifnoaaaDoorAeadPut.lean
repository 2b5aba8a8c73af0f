/- The walk through aead.Tag's closure: bytes behind a row, filled up with zeros. -/
import Derived.Test.YtkkhdjdoifnoaaaDoorProg
import Derived.Test.YtkkhdjdoifnoaaaDoorGLib
import Derived.Test.YtkkhdjdoifnoaaaDoorGPlain2
import Derived.Test.YtkkhdjdoifnoaaaDoorGWords
set_option linter.unusedVariables false
set_option linter.unusedSimpArgs false
namespace Go.Proofs.YtkkhdjdoifnoaaaDoor
open Go.RowKit Go.Proofs.YtkkhdjdoifnoaaaDoorW.PrintWords Go.Proofs.YtkkhdjdoifnoaaaDoorW.PrintLast Go.Proofs.YtkkhdjdoifnoaaaDoorW.PrintMore

/-- The row that stands in block g. -/
structure Held (base g : Nat) (w : World) (l : List Nat) (v : Value) : Prop where
  box : w.heap[g]? = some (.cells #[v] 22 (0, 0))
  row : OwnX (fun j => j ≠ g) .u8 5 base w v l
theorem Held.below {base g : Nat} {w w1 : World} {l : List Nat} {v : Value} (h : Held base g w l v) (hb : Below w.heap.size w w1) : Held base g w1 l v := ⟨blk_below h.box hb, h.row.below hb⟩
theorem box_cell {g : Nat} {w : World} {v : Value} {T : TypeId} (hb : w.heap[g]? = some (.cells #[v] T (0, 0))) : w.cell? ⟨g, 0, none⟩ = some v := by
  rw [blk_cell hb 0]
  rfl
theorem OwnX.far {g base e : Nat} {k : IntKind} {w : World} {v : Value} {l : List Nat} (h : OwnX (fun j => j ≠ g) k e base w v l) (i : Nat) (u : Value) : OwnX (fun j => j ≠ g) k e base (w.setCell ⟨g, i, none⟩ u) v l := by
  have h1 := Kd.R_bound h
  exact Kd.R_mono (Kd.R_step h1 (fun j hk hlt => Below.heap_setCell w ⟨g, i, none⟩ u j hk.1)) (fun j hk => hk.1)
/-- The box is written. -/
theorem Held.put {base g : Nat} {w : World} {v v1 : Value} {l1 : List Nat} (hb : w.heap[g]? = some (.cells #[v] 22 (0, 0))) (hr : OwnX (fun j => j ≠ g) .u8 5 base w v1 l1) : Held base g (w.setCell ⟨g, 0, none⟩ v1) l1 v1 :=
  ⟨by rw [blk_set hb 0 v1]; rfl, hr.far 0 v1⟩
theorem Held.cell {base g : Nat} {w : World} {l : List Nat} {v : Value} (h : Held base g w l v) : w.cell? ⟨g, 0, none⟩ = some v := by rw [blk_cell h.box 0]; rfl
/-- What a row's growth leaves, when it is put into its box. -/
def Grown2 (base g : Nat) (w0 W w1 : World) (v : Value) (l1 : List Nat) (v1 : Value) : Prop :=
  w1.cell? ⟨g, 0, none⟩ = some v ∧ w1.frozen? ⟨g, 0, none⟩ = false ∧ Held base g (w1.setCell ⟨g, 0, none⟩ v1) l1 v1 ∧ Below base w0 (w1.setCell ⟨g, 0, none⟩ v1) ∧ W.heap.size ≤ w1.heap.size ∧ (w1.setCell ⟨g, 0, none⟩ v1).cell? ⟨g, 0, none⟩ = some v1 ∧ (w1.setCell ⟨g, 0, none⟩ v1).frozen? ⟨g, 0, none⟩ = false
theorem grown2 {base g : Nat} {w0 W w1 : World} {l l1 : List Nat} {v v1 : Value} (hh : Held base g W l v) (hg : base ≤ g) (ho : OwnX (fun j => j ≠ g) .u8 5 base w1 v1 l1) (hb : Below base w0 w1) (hgr : W.grownBy w1 v.ownBlock) : Grown2 base g w0 W w1 v l1 v1 := by
  have hbx := blk_grown hh.box hgr (fun e => hh.row.blk g e.symm rfl)
  have h2 := Held.put hbx ho
  exact ⟨box_cell hbx, blk_frozen hbx 0, h2, hb.setCell hg _, hgr.size, h2.cell, blk_frozen h2.box 0⟩
section
variable {P : Program} {ops : Array Oper} {rest : List Oper} {o : Oper} {a : Act} {Q : Exit → Act → World → Prop}
theorem held_row {base g : Nat} {w0 W : World} {l ys : List Nat} {v : Value} (hh : Held base g W l v) (hg : base ≤ g) (hsz : base ≤ W.heap.size) (HB : Below base w0 W) (N : Tmp) (hd' : o.dst = some N) (t : TypeId) (s x : Operand) (ho : o.op = .call { callee := .builtin .append, args := #[s, x], argTypes := #[t, t] }) (hgd : o.guard = none)
    (ht : P.underlying t = some (.slice 5)) {bytes : Nat} (hinfo : (P.info? 5).map (fun i => (i.zero, i.size, i.bytes)) = some (some (.int .u8 0), 1, bytes)) (hb0 : 0 < bytes)
    {A : Option Addr} {m c : Nat} (hs : a.eval s = v) (hx : a.eval x = .slice A m c) (hB : Bytes W A m c ys) (hl : (l.length + m) * bytes ≤ 140737488355328)
    (h : ∀ A1 n1 c1 w1, Aside0 (Grown2 base g w0 W w1 v (l ++ ys) (.slice A1 n1 c1)) → wpList P ops Q rest (a.put o.dst (.slice A1 n1 c1)) w1) :
    wpList P ops Q (o :: rest) a W := by
  refine opx_append_row (ok := fun j => j ≠ g) (k := .u8) (w0 := w0) N hd' base 5 t s x ho hgd ht hinfo hb0 v l ys A m c hs hx hB.2.1.symm hh.row (fun j hj => by have := blk_lt hh.box; omega) hB.1 HB hsz (by rw [hB.2.1]; exact hl) ?_
  intro v1 w1 h1 hb1 hgr
  obtain ⟨A1, c1, rfl, _, _⟩ := h1.own.slice
  exact h A1 _ c1 w1 ⟨grown2 hh hg h1 hb1 hgr⟩
theorem held_zeros {base g : Nat} {w0 W : World} {l : List Nat} {v : Value} (hh : Held base g W l v) (hg : base ≤ g) (hsz : base ≤ W.heap.size) (HB : Below base w0 W) (N : Tmp) (hd' : o.dst = some N) (t ti : TypeId) (s x : Operand) (ho : o.op = .call { callee := .builtin .append, args := #[s, x], argTypes := #[t, ti] }) (hgd : o.guard = none)
    (ht : P.underlying t = some (.slice 5)) {ki : IntKind} (hti : P.underlying ti = some (.int ki)) {bytes : Nat} (hinfo : (P.info? 5).map (fun i => (i.zero, i.size, i.bytes)) = some (some (.int .u8 0), 1, bytes)) (hb0 : 0 < bytes)
    (n : Nat) {kx : IntKind} (hs : a.eval s = v) (hx : a.eval x = .int kx (n : Int)) (hl : (l.length + n) * bytes ≤ 140737488355328)
    (h : ∀ A1 n1 c1 w1, Aside0 (Grown2 base g w0 W w1 v (l ++ List.replicate n 0) (.slice A1 n1 c1)) → wpList P ops Q rest (a.put o.dst (.slice A1 n1 c1)) w1) :
    wpList P ops Q (o :: rest) a W := by
  refine opx_append_zeros (ok := fun j => j ≠ g) (k := .u8) (w0 := w0) N hd' base 5 t ti s x ho hgd ht hti hinfo hb0 v l n hs hx hh.row (fun j hj => by have := blk_lt hh.box; omega) HB hsz hl ?_
  intro v1 w1 h1 hb1 hgr
  obtain ⟨A1, c1, rfl, _, _⟩ := h1.own.slice
  exact h A1 _ c1 w1 ⟨grown2 hh hg h1 hb1 hgr⟩
end
set_option maxHeartbeats 1000000 in
set_option maxRecDepth 100000 in
theorem tagput_calls {A : Option Addr} {n c base g : Nat} {l b : List Nat} {v : Value} {w0 w : World} (hh : Held base g w l v) (hb : Bytes w A n c b) (hw : Below base w0 w) (hg : base ≤ g) (hsz : base ≤ w.heap.size) (hl : l.length + n ≤ 1000000000) :
    Calls Tryd.prog 20 #[.slice A n c, .pointer (some ⟨g, 0, none⟩)] w fun e w' => e = .returned (.tuple #[]) ∧ ∃ v', Held base g w' (l ++ fillP b) v' ∧ Below base w0 w' ∧ w.heap.size ≤ w'.heap.size := by
  have hcell : w.cell? ⟨g, 0, none⟩ = some v := by rw [blk_cell hh.box 0]; rfl
  have hfr := blk_frozen hh.box 0
  have HH := hd hh
  have HB := hd hb
  have HW := hd hw
  have hgl := blk_lt hh.box
  clear hh hb hw
  go_enter Tryd.func20, Tryd.ntmps20
  have hpad := pad_and n
  have hn0 : (n : Int) ≤ 1000000000 := by omega
  have hl1 : (l.length + n) * 1 ≤ 140737488355328 := by omega
  have HL2 := hd (show ((l ++ b).length + padN n) * 1 ≤ 140737488355328 by rw [List.length_append, HB.out.2.1]; have := padN_lt n; omega)
  go_wp2_with (first
    | ((with_reducible refine gate_dst (N := 5) rfl ?_); at_builtin; refine held_row HH.out hg hsz HW.out 5 rfl 22 _ _ rfl rfl Tryd.underlying22 Tryd.infoU8 (by decide) rfl rfl HB.out hl1 ?_; intro A1 n1 c1 w1 H1; obtain ⟨hc1, hf1, _, _, _, hc2, hf2⟩ := H1.out)
    | ((with_reducible refine gate_dst (N := 11) rfl ?_); at_builtin; go_loud (refine held_zeros H1.out.2.2.1 hg (by have := H1.out.2.2.2.2.1; rw [World.size_setCell]; omega) H1.out.2.2.2.1 11 rfl 22 3 _ _ rfl rfl Tryd.underlying22 Tryd.underlying3 Tryd.infoU8 (by decide) (padN n) rfl rfl HL2.out ?_); intro A3 n3 c3 w3 H3; obtain ⟨hc3, hf3, _, _, _, hc4, hf4⟩ := H3.out))
  go_end0
  refine ⟨rfl, .slice A3 n3 c3, ?_, H3.out.2.2.2.1, ?_⟩
  · rw [fillP, HB.out.2.1, ← List.append_assoc]
    exact H3.out.2.2.1
  · have h1 := H1.out.2.2.2.2.1
    have h3 := H3.out.2.2.2.2.1
    rw [World.size_setCell] at h3 ⊢
    omega
end Go.Proofs.YtkkhdjdoifnoaaaDoor
