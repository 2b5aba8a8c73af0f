/- Whole arrays: loaded, stored, returned. Over any program. -/
import Derived.Test.YtkkhdjdoifnoaaaArr
import Derived.Laws.Rows
import Derived.Laws.Tables
import Derived.Laws.CopyRow
set_option linter.unusedVariables false
set_option linter.unusedSimpArgs false
namespace Go.Proofs.Ytkkhdjdoifnoaaa
open Go.RowKit Go.Proofs.YtkkhdjdoifnoaaaW.PrintWords Go.Proofs.YtkkhdjdoifnoaaaW.PrintLast Go.Proofs.YtkkhdjdoifnoaaaW.PrintMore

/-- The cells of an array of numbers. -/
def cellsOf (k : IntKind) (l : List Nat) : Array Value := (l.map fun x : Nat => Value.int k x).toArray
theorem cellsOf_size (k : IntKind) (l : List Nat) : (cellsOf k l).size = l.length := by simp [cellsOf]
theorem cellsOf_one (k : IntKind) (l : List Nat) : (cellsOf k l).all (·.oneCell') = true := by
  rw [Array.all_eq_true_iff_forall_mem]
  intro x hx
  simp only [cellsOf, List.mem_toArray, List.mem_map] at hx
  obtain ⟨n, _, rfl⟩ := hx
  rfl
section
variable {k : IntKind} {T g : Nat} {w w1 : World} {l : List Nat}
theorem Arr.setRow (h : Arr k T g w l) (l' : List Nat) : Arr k T g (w.setRow g (cellsOf k l')) l' := setRow_heap w g _ _ T (0, 0) h
theorem Only.setRow {g : Nat} {w : World} (cs : Array Value) : Only g w (w.setRow g cs) :=
  ⟨⟨rfl, rfl, rfl, by rw [setRow_size]; exact Nat.le_refl _, fun i hi => setRow_other w g i cs (by omega)⟩, setRow_size w g cs, fun i hi => setRow_other w g i cs hi⟩
theorem below_only {B : Nat} (h : Below B w w1) {w2 : World} (ho : Only g w1 w2) (hg : B ≤ g) : Below B w w2 :=
  h.trans ⟨ho.below.os, ho.below.tape, ho.below.output, by rw [ho.size]; exact Nat.le_refl _, fun i hi => ho.far i (by omega)⟩
theorem Arr.only {g' : Nat} (h : Arr k T g' w l) (ho : Only g w w1) (hne : g' ≠ g) : Arr k T g' w1 l := (ho.far g' hne).trans h
theorem OnlyOf.cell (w : World) (g i : Nat) (u : Value) : Only g w (w.setCell ⟨g, i, none⟩ u) := (Only.refl g w).set i u
end
section
variable {P : Program} {ops : Array Oper} {rest : List Oper} {o : Oper} {a : Act} {Q : Exit → Act → World → Prop} {W : World} {k : IntKind} {T g : Nat} {l : List Nat}
/-- The load of a whole array. -/
theorem op_loadA (N : Tmp) (hd : o.dst = some N) (hgd : o.guard = none) (ty e n : Nat) (x : Operand) (ho : o.op = .load ty x) (hx : a.eval x = .pointer (some ⟨g, 0, none⟩)) (hA : Arr k T g W l) (cs : Array Value) (hcs : cellsOf k l = cs)
    (hu : P.underlying ty = some (.array n e)) (hi : (P.info? ty).map (·.size) = some n) (hn : l.length = n)
    (h : wpList P ops Q rest (a.put (some N) (.agg cs)) W) : wpList P ops Q (o :: rest) a W := by
  subst hcs
  rw [← hd] at h
  exact wpList_load_row hgd ty x ho g hx T _ (0, 0) _ hA hu rfl (by rw [hi, ← hn]; exact congrArg some (cellsOf_size k l).symm) h
/-- The store of a whole array. -/
theorem op_storeA (hd : o.dst = none) (hgd : o.guard = none) (ty n : Nat) (x y : Operand) (ho : o.op = .store ty x y) (hx : a.eval x = .pointer (some ⟨g, 0, none⟩)) (l' : List Nat) (hy : a.eval y = .agg (cellsOf k l')) (hA : Arr k T g W l)
    (hi : (P.info? ty).map (·.size) = some n) (hn : l.length = n) (hn' : l'.length = n)
    (h : ∀ W1, Arr k T g W1 l' → Only g W W1 → wpList P ops Q rest a W1) : wpList P ops Q (o :: rest) a W := by
  refine wpList_store_row hgd ty x y ho g (cellsOf k l') hx hy T _ hA (by rw [hi, ← hn']; exact congrArg some (cellsOf_size k l').symm) ?_ (cellsOf_one k l') ?_
  · rw [cellsOf_size, hn', ← hn]
    exact cellsOf_size k l
  · rw [hd]
    exact h _ (hA.setRow l') (Only.setRow _)
/-- The load, as an operation that reads. -/
theorem run_loadA (ty e n : Nat) (x : Operand) (ho : o.op = .load ty x) (hx : a.eval x = .pointer (some ⟨g, 0, none⟩)) (hA : Arr k T g W l) (cs : Array Value) (hcs : cellsOf k l = cs)
    (hu : P.underlying ty = some (.array n e)) (hi : (P.info? ty).map (·.size) = some n) (hn : l.length = n) : (execOp a.eval o).run P W = .ok (.value (.agg cs)) W := by
  subst hcs
  unfold execOp
  simp only [ho, hx, Instr.loadAt, Instr.sureAddr, Sem.run_bind, Sem.run_pure, Result.andThen_ok, run_loadVar_row W g T ty _ (0, 0) _ hA hu rfl (by rw [hi, ← hn]; exact congrArg some (cellsOf_size k l).symm)]
  rfl
/-- The store, as an operation. -/
theorem run_storeA (ty n : Nat) (x y : Operand) (ho : o.op = .store ty x y) (hx : a.eval x = .pointer (some ⟨g, 0, none⟩)) (l' : List Nat) (hy : a.eval y = .agg (cellsOf k l')) (hA : Arr k T g W l)
    (hi : (P.info? ty).map (·.size) = some n) (hn : l.length = n) (hn' : l'.length = n) : (execOp a.eval o).run P W = .ok .skip (W.setRow g (cellsOf k l')) := by
  unfold execOp
  simp only [ho, hx, hy, Instr.storeAt, Instr.sureAddr, Sem.run_bind, Sem.run_pure, Result.andThen_ok, run_storeVar_row W g T ty _ (cellsOf k l') hA (by rw [hi, ← hn']; exact congrArg some (cellsOf_size k l').symm) (by rw [cellsOf_size, hn', ← hn]; exact cellsOf_size k l) (cellsOf_one k l')]
/-- copy(array's cells, row): as an operation. -/
theorem run_copyA (m cap n c e : Nat) (t t' : TypeId) (s x : Operand) (ad : Addr) (ys : List Nat) (ho : o.op = .call { callee := .builtin .copy, args := #[s, x], argTypes := #[t, t'] }) (ht : P.underlying t = some (.slice e)) (hinfo : (P.info? e).map (·.size) = some 1)
    (hs : a.eval s = .slice (some ⟨g, 0, none⟩) m cap) (hx : a.eval x = .slice (some ad) n c) (hA : Arr k T g W l) (hR : RowK k W (some ad) ys) (hn : ys.length = n) (hnm : n ≤ m) (hml : m ≤ l.length) :
    (execOp a.eval o).run P W = .ok (.value (.int .i64 (n : Int))) (W.setRow g (cellsOf k (ys ++ l.drop n))) := by
  have h1 := run_copy_row (P := P) W t t' o.type e g 0 m cap ad n c (cellsOf k l) T (ys.map fun x : Nat => Value.int k x) ht hinfo hA (by rw [List.length_map, hn]; exact (Nat.min_eq_left hnm).symm)
    (fun j v hv => by
      rw [List.getElem?_map] at hv
      obtain ⟨y, hy, rfl⟩ := Option.map_eq_some_iff.1 hv
      have hj := (List.getElem?_eq_some_iff.1 hy).1
      obtain ⟨ad', y', e1, HY, hc⟩ := hR.at_ j hj
      injection e1 with e1
      subst e1
      rw [hc, ← HY.out, List.getD_eq_getElem?_getD, hy]
      rfl)
    (by rw [List.length_map, cellsOf_size]; omega)
    (fun v hv => by obtain ⟨y, _, rfl⟩ := List.mem_map.1 hv; rfl)
  unfold execOp
  simp only [ho, resolve, invoke, builtin, Sem.run_bind, Sem.run_pure, Result.andThen_ok, List.map_toArray, List.map_cons, List.map_nil, hs, hx, h1]
  congr 2
  · rw [List.length_map, hn]
    rfl
  · unfold cellsOf
    congr 1
    simp [List.map_append, List.map_drop, hn]
theorem ret_cellA {fn : Func} {R : Ending → World → Prop} {p : Tmp} {ty e n : Nat} (h : fn.results = #[.cell p ty]) (hp : a.tmps.getD p undef = .pointer (some ⟨g, 0, none⟩)) (hA : Arr k T g W l) (hd : a.defers = [])
    (hu : P.underlying ty = some (.array n e)) (hi : (P.info? ty).map (·.size) = some n) (hn : l.length = n) (hR : R (.returned (.agg (cellsOf k l))) W) : bodyPost P fn R .ret a W :=
  bodyPost_ret (results_cell_row h a.tmps W g T _ (0, 0) _ hp hA hu rfl (by rw [hi, ← hn]; exact congrArg some (cellsOf_size k l).symm)) hd hR
end
end Go.Proofs.Ytkkhdjdoifnoaaa
