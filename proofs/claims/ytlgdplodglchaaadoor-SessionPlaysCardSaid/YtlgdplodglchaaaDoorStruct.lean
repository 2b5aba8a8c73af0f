/- A struct stored in a block, whole or in a part of it. Over any program. -/
import Derived.Test.YtlgdplodglchaaaDoorGSesP
import Derived.Test.YtlgdplodglchaaaDoorUq2
import Derived.Laws.Rows
import Derived.Laws.Tables
set_option linter.unusedVariables false
set_option linter.unusedSimpArgs false
namespace Go.Proofs.YtlgdplodglchaaaDoor
open Go.RowKit Go.Proofs.YtlgdplodglchaaaDoorW.PrintWords Go.Proofs.YtlgdplodglchaaaDoorW.PrintLast Go.Proofs.YtlgdplodglchaaaDoorW.PrintMore
def patchL (cur : Array Value) (k : Nat) (vs : List Value) : Array Value := (cur.toList.take k ++ vs ++ cur.toList.drop (k + vs.length)).toArray
theorem patchL_step (cur : Array Value) (k : Nat) (v : Value) (vs : List Value) (h : k < cur.size) : patchL (cur.setIfInBounds k v) (k + 1) vs = patchL cur k (v :: vs) := by
  unfold patchL
  congr 1
  have e1 : (cur.setIfInBounds k v).toList.take (k + 1) = cur.toList.take k ++ [v] := by
    rw [Array.toList_setIfInBounds, List.take_add_one, List.take_set_of_le (Nat.le_refl _)]
    simp [List.getElem?_set, h]
  have e2 : (cur.setIfInBounds k v).toList.drop (k + 1 + vs.length) = cur.toList.drop (k + (v :: vs).length) := by
    rw [Array.toList_setIfInBounds, List.drop_set_of_lt (by omega)]
    congr 1
    simp
    omega
  rw [e1, e2]
  simp
section
variable {P : Program} {ops : Array Oper} {rest : List Oper} {o : Oper} {a : Act} {Q : Exit → Act → World → Prop} {W : World}
theorem setRow_self {w : World} {g : Nat} {cur : Array Value} {t : TypeId} {fr : Nat × Nat} (hg : w.heap[g]? = some (.cells cur t fr)) : w.setRow g cur = w := by
  have hlt : g < w.heap.size := (Array.getElem?_eq_some_iff.1 hg).1
  have hv : w.heap[g] = .cells cur t fr := (Array.getElem?_eq_some_iff.1 hg).2
  unfold World.setRow
  cases w with
  | mk heap tape drawn os output =>
    congr 1
    apply Array.ext
    · simp
    · intro j h1 h2
      rw [Array.getElem_modify]
      split
      · rename_i e
        subst e
        simp only at hv
        rw [hv]
      · rfl
theorem run_storeCells_at (g off : Nat) (t : TypeId) : ∀ (vs : List Value) (i : Nat) (cur : Array Value) (w : World), w.heap[g]? = some (.cells cur t (0, 0)) → off + i + vs.length ≤ cur.size → (∀ v ∈ vs, v.oneCell' = true) →
    (storeCells ⟨g, off, none⟩ vs i).run P w = .ok () (w.setRow g (patchL cur (off + i) vs))
  | [], i, cur, w, hg, hl, _ => by
    have e : patchL cur (off + i) [] = cur := by
      apply Array.toList_inj.1
      simp [patchL, List.take_append_drop]
    rw [e, setRow_self hg]
    rfl
  | v :: vs, i, cur, w, hg, hl, h1 => by
    have hlen : off + i + (vs.length + 1) ≤ cur.size := hl
    have hadd : (⟨g, off, none⟩ : Addr).add i = ⟨g, off + i, none⟩ := by unfold Addr.add; split <;> simp_all
    have hcell : w.cell? ⟨g, off + i, none⟩ = some (cur[off + i]'(by omega)) := by simp [World.cell?, hg]
    have hfro := frozen_of_row w g (off + i) cur t hg
    have hst : (store ((⟨g, off, none⟩ : Addr).add i) v).run P w = .ok () (w.setRow g (cur.setIfInBounds (off + i) v)) := by
      rw [hadd, run_store P w _ v _ (h1 v (by simp)), hcell]
      simp [hfro, setCell_eq_setRow w g (off + i) cur t (0, 0) v hg]
    have ih := run_storeCells_at g off t vs (i + 1) (cur.setIfInBounds (off + i) v) (w.setRow g (cur.setIfInBounds (off + i) v)) (setRow_heap w g cur _ t _ hg) (by simp; omega) (fun x hx => h1 x (List.mem_cons_of_mem _ hx))
    rw [show off + (i + 1) = off + i + 1 by omega, patchL_step cur (off + i) v vs (by omega)] at ih
    simp only [storeCells, Sem.run_bind, hst, Result.andThen_ok, ih, setRow_setRow]
theorem run_storeVar_at (w : World) (g off : Nat) (t ty : TypeId) (old cells : Array Value) (hg : w.heap[g]? = some (.cells old t (0, 0))) (hi : (P.info? ty).map (·.size) = some cells.size)
    (ho : off + cells.size ≤ old.size) (h1 : cells.all (·.oneCell') = true) :
    (storeVar ty ⟨g, off, none⟩ (.agg cells)).run P w = .ok () (w.setRow g (patchL old off cells.toList)) := by
  have := run_storeCells_at (P := P) g off t cells.toList 0 old w hg (by simp; omega) (fun v hv => (Array.all_eq_true_iff_forall_mem.1 h1) v (by simpa using hv))
  rw [Nat.add_zero] at this
  cases hq : P.info? ty with
  | none => simp [hq] at hi
  | some i =>
    have hs : cells.size = i.size := by simp [hq] at hi; omega
    simp [storeVar, sizeOf, typeInfo, hq, Value.cells, hs, this]
theorem Mod.setRow {S : Nat → Prop} (w : World) {g : Nat} (hg : S g) (cs : Array Value) : Mod S w (w.setRow g cs) :=
  ⟨rfl, rfl, rfl, by simp, fun k _ hn => setRow_other w g k cs (fun (e : k = g) => hn (e ▸ hg))⟩
theorem run_storeSt (ty : TypeId) (x y : Operand) (ho : o.op = .store ty x y) (g off : Nat) (cells old new : Array Value) (hx : a.eval x = .pointer (some ⟨g, off, none⟩)) (hy : a.eval y = .agg cells) (t : TypeId) (hg : W.heap[g]? = some (.cells old t (0, 0)))
    (hi : (P.info? ty).map (·.size) = some cells.size) (hle : off + cells.size ≤ old.size) (h1 : cells.all (·.oneCell') = true) (hn : patchL old off cells.toList = new) : (execOp a.eval o).run P W = .ok .skip (W.setRow g new) := by
  subst hn
  unfold execOp
  simp only [ho, hx, hy, Instr.storeAt, Instr.sureAddr, Sem.run_bind, Sem.run_pure, Result.andThen_ok, run_storeVar_at W g off t ty old cells hg hi hle h1]
/-- The store of a struct, whole or a part of a block. -/
theorem op_storeSt (hd : o.dst = none) (hgd : o.guard = none) (ty : TypeId) (x y : Operand) (ho : o.op = .store ty x y) (g off : Nat) (cells old new : Array Value) (hx : a.eval x = .pointer (some ⟨g, off, none⟩)) (hy : a.eval y = .agg cells) (t : TypeId) (hg : W.heap[g]? = some (.cells old t (0, 0)))
    (hi : (P.info? ty).map (·.size) = some cells.size) (hle : off + cells.size ≤ old.size) (h1 : cells.all (·.oneCell') = true) (hn : patchL old off cells.toList = new)
    (h : ∀ W1, W1.heap[g]? = some (.cells new t (0, 0)) → Mod (fun k => k = g) W W1 → wpList P ops Q rest a W1) : wpList P ops Q (o :: rest) a W := by
  subst hn
  refine wpList_plain hgd fun K hK => ?_
  unfold Oper.wp execOp
  simp only [ho, hx, hy, Instr.storeAt, Instr.sureAddr, Sem.run_bind, Sem.run_pure, Result.andThen_ok, run_storeVar_at W g off t ty old cells hg hi hle h1]
  have h2 := hK _ _ (h _ (setRow_heap W g old _ t _ hg) (Mod.setRow (S := fun k => k = g) W rfl _))
  show K (a.put o.dst undef) _
  rw [hd]
  exact h2
/-- .. in a region that draws. -/
theorem uq_storeSt {ds : List Nat} {R : World → World → Prop} {C : Act → World → Prop} {i : Nat} (hio : ops[i]? = some o) (hd : o.dst = none) (hw : Region.wanted o (yielded ops a.tmps) = true) (ty : TypeId) (x y : Operand) (ho : o.op = .store ty x y) (g off : Nat) (cells old new : Array Value) (hx : a.eval x = .pointer (some ⟨g, off, none⟩)) (hy : a.eval y = .agg cells) (t : TypeId) (hg : W.heap[g]? = some (.cells old t (0, 0)))
    (hi : (P.info? ty).map (·.size) = some cells.size) (hle : off + cells.size ≤ old.size) (h1 : cells.all (·.oneCell') = true) (hn : patchL old off cells.toList = new)
    (h : ∀ W1, W1.heap[g]? = some (.cells new t (0, 0)) → Mod (fun k => k = g) W W1 → ((i ∉ ds → Grow W W1) ∧ R W W1) ∧ C a W1) : wpOp P ops Q i (fun a' w' => ((i ∉ ds → Grow W w') ∧ R W w') ∧ C a' w') a W := by
  obtain ⟨h2, h3⟩ := h _ (setRow_heap W g old _ t _ hg) (Mod.setRow (S := fun k => k = g) W rfl _)
  exact uq_skip hio hd hw (run_storeSt ty x y ho g off cells old new hx hy t hg hi hle h1 hn) h2 (hn ▸ h3)
end
end Go.Proofs.YtlgdplodglchaaaDoor
