/- Two rows of the call's own beside one another: which blocks a row may lie in. Over any program. -/
import Derived.Test.YtgmaahpnpjfghaaDoorOwn
set_option linter.unusedVariables false
set_option linter.unusedSimpArgs false
namespace Go.Proofs.YtgmaahpnpjfghaaDoor
open Go.RowKit Go.Proofs.YtgmaahpnpjfghaaDoorW.PrintWords Go.Proofs.YtgmaahpnpjfghaaDoorW.PrintLast Go.Proofs.YtgmaahpnpjfghaaDoorW.PrintMore

/-- A row of the call's own whose block is as ok says. -/
def OwnX (ok : Nat → Prop) (k : IntKind) (e : Nat) (base : Nat) (w : World) (v : Value) (l : List Nat) : Prop := (Kd.int k).R e w base ok v (ints l)
section
variable {ok ok' : Nat → Prop} {k : IntKind} {e base base' : Nat} {w w1 : World} {v : Value} {l : List Nat}
theorem OwnX.own (h : OwnX ok k e base w v l) : OwnK k e base w v l := Kd.R_mono h (fun _ _ => trivial)
theorem OwnK.x (h : OwnK k e base w v l) : OwnX (fun g => base ≤ g ∧ g < w.heap.size) k e base w v l := Kd.R_mono (Kd.R_bound h) (fun g hg => ⟨hg.2.1, hg.2.2.1⟩)
theorem OwnX.mono (h : OwnX ok k e base w v l) (hm : ∀ g, g < w.heap.size → ok g → ok' g) : OwnX ok' k e base w v l := Kd.R_mono (Kd.R_bound h) (fun g hg => hm g hg.2.2.1 hg.1)
theorem OwnX.below (h : OwnX ok k e base w v l) (hb : Below w.heap.size w w1) : OwnX ok k e base w1 v l := Kd.R_below h hb
theorem OwnX.nil (ok : Nat → Prop) (k : IntKind) (e base : Nat) (w : World) : OwnX ok k e base w (.slice none 0 0) [] := Kd.R_nil _ _ _ _ _
theorem OwnX.blk (h : OwnX ok k e base w v l) (g : Nat) (hg : v.ownBlock = some g) : ok g := h.1 g hg
/-- Its block is its address's. -/
theorem OwnK.only {g n c : Nat} (h : OwnK k e base w (.slice (some ⟨g, 0, none⟩) n c) l) : OwnX (fun j => j = g) k e base w (.slice (some ⟨g, 0, none⟩) n c) l := ⟨fun j hj => by simpa [Value.ownBlock] using hj.symm, h.2⟩
/-- What another row's growth leaves. -/
theorem OwnX.grown (h : OwnX ok k e base w v l) {row : Option Nat} (hg : w.grownBy w1 row) (hne : ∀ g, row = some g → ¬ ok g) : OwnX ok k e base w1 v l := by
  have h1 := Kd.R_bound h
  refine Kd.R_mono (Kd.R_step h1 (fun g hk hlt => ?_)) (fun g hk => hk.1)
  obtain ⟨o, ho⟩ : ∃ o, w.heap[g]? = some o := ⟨_, Array.getElem?_eq_getElem hlt⟩
  rw [ho]
  exact blk_grown ho hg (fun he => hne g he.symm hk.1)
end
section
variable {P : Program} {ops : Array Oper} {Q : Exit → Act → World → Prop} {Kc : Act → World → Prop} {o : Oper} {a : Act}
/-- append(v, ys...), in whatever world; what is fresh may be the row's. -/
theorem opx_append_row_step {ok : Nat → Prop} {k : IntKind} {w0 W : World} (N : Tmp) (hd : o.dst = some N) (base e : Nat) (t : TypeId) (s x : Operand) (ho : o.op = .call { callee := .builtin .append, args := #[s, x], argTypes := #[t, t] }) (hw : Region.wanted o (yielded ops a.tmps) = true)
    (ht : P.underlying t = some (.slice e)) {bytes : Nat} (hinfo : (P.info? e).map (fun i => (i.zero, i.size, i.bytes)) = some (some (.int k 0), 1, bytes)) (hb0 : 0 < bytes)
    (v : Value) (l ys : List Nat) (A : Option Addr) (m c : Nat) (hs : a.eval s = v) (hx : a.eval x = .slice A m c) (hm : m = ys.length) (HO : OwnX ok k e base W v l) (hfresh : ∀ g, W.heap.size ≤ g → ok g) (HR : RowK k W A ys) (HB : Below base w0 W) (hbase : base ≤ W.heap.size) (hl : (l.length + ys.length) * bytes ≤ 140737488355328)
    (h : ∀ v1 w1, OwnX ok k e base w1 v1 (l ++ ys) → Below base w0 w1 → W.grownBy w1 v.ownBlock → Kc (a.put o.dst v1) w1) :
    if Region.wanted o (yielded ops a.tmps) = true then Oper.wp P o a W Kc Q else Kc (a.put o.dst undef) W := by
  subst hm
  refine Kd.R_append_rows_step (Kd.int k) (Rr := (Kd.int k).K W) (w0 := w0) (W := W) base hw s x t e (.int k 0) bytes ho ht hinfo rfl (Nat.zero_lt_one) hb0 v (ints l) (ints ys) A ys.length c ok (fun g => ok g ∧ some g ≠ v.ownBlock) hs hx HO HR (fun x cs hk => hk) (fun g hg => hg) hfresh HB hbase (by rw [ints_length]; exact hl) ?_
  intro v1 w1 h1 hb hg hat
  refine h v1 w1 ?_ hb hg
  unfold OwnX
  rw [ints_append]
  exact h1
/-- append(v, y), y in a box of its own. -/
theorem opx_append1_step {ok : Nat → Prop} {k : IntKind} {w0 W : World} (N : Tmp) (hd : o.dst = some N) (base e : Nat) (t : TypeId) (s x : Operand) (ho : o.op = .call { callee := .builtin .append, args := #[s, x], argTypes := #[t, t] }) (hw : Region.wanted o (yielded ops a.tmps) = true)
    (ht : P.underlying t = some (.slice e)) {bytes : Nat} (hinfo : (P.info? e).map (fun i => (i.zero, i.size, i.bytes)) = some (some (.int k 0), 1, bytes)) (hb0 : 0 < bytes)
    (v : Value) (l : List Nat) (y : Nat) (g : Nat) (hs : a.eval s = v) (hx : a.eval x = .slice (some ⟨g, 0, none⟩) 1 1) (HO : OwnX ok k e base W v l) (hfresh : ∀ g, W.heap.size ≤ g → ok g) (hy : W.cell? ⟨g, 0, none⟩ = some (.int k (y : Int))) (HB : Below base w0 W) (hbase : base ≤ W.heap.size) (hl : (l.length + 1) * bytes ≤ 140737488355328)
    (h : ∀ v1 w1, OwnX ok k e base w1 v1 (l ++ [y]) → Below base w0 w1 → W.grownBy w1 v.ownBlock → Kc (a.put o.dst v1) w1) :
    if Region.wanted o (yielded ops a.tmps) = true then Oper.wp P o a W Kc Q else Kc (a.put o.dst undef) W :=
  opx_append_row_step N hd base e t s x ho hw ht hinfo hb0 v l [y] (some ⟨g, 0, none⟩) 1 1 hs hx rfl HO hfresh (RowK.one (ad := ⟨g, 0, none⟩) hy) HB hbase hl h
end
end Go.Proofs.YtgmaahpnpjfghaaDoor
