/- As Up, with a second relation R that holds behind every operation, the last ones ('ds') too: what R keeps may be read whenever it comes up.
   A region that draws its order, walked in one order: what reads is taken as soon as it may come up, because nothing that follows turns what it read ('Grow': every block that was there stays as it was).
   Over any program. The last operations ('ds') may turn such blocks: nothing is shown behind them. -/
import Derived.Test.YtkkhdjdoifnoaaaUp
set_option linter.unusedVariables false
set_option linter.unusedSimpArgs false
namespace Go.Proofs.Ytkkhdjdoifnoaaa
open Go.RowKit Go.Proofs.YtkkhdjdoifnoaaaW.PrintWords Go.Proofs.YtkkhdjdoifnoaaaW.PrintLast Go.Proofs.YtkkhdjdoifnoaaaW.PrintMore

/-- What is kept behind every operation. -/
structure Keeps (R : World → World → Prop) : Prop where
  refl : ∀ w, R w w
  trans : ∀ {w w1 w2}, R w w1 → R w1 w2 → R w w2
  grow : ∀ {w w1}, Grow w w1 → R w w1
theorem Keeps.any : Keeps (fun _ _ => True) := ⟨fun _ => trivial, fun _ _ => trivial, fun _ => trivial⟩
/-- Every block but g is as it was. -/
def Far (g : Nat) (w w' : World) : Prop := w.heap.size ≤ w'.heap.size ∧ ∀ k, k < w.heap.size → k ≠ g → w'.heap[k]? = w.heap[k]?
theorem Keeps.far (g : Nat) : Keeps (Far g) := ⟨fun w => ⟨Nat.le_refl _, fun _ _ _ => rfl⟩, fun h k => ⟨Nat.le_trans h.1 k.1, fun i hi hg => (k.2 i (Nat.lt_of_lt_of_le hi h.1) hg).trans (h.2 i hi hg)⟩, fun h => ⟨h.size, fun k hk _ => h.block k hk⟩⟩
theorem Far.set (g : Nat) {p : Addr} (hp : p.block = g) (w : World) (v : Value) : Far g w (w.setCell p v) := ⟨by simp, fun k _ hk => Below.heap_setCell w p v k (by rw [hp]; exact hk)⟩
theorem Far.block {g k : Nat} {w w' : World} {o : Obj} (h : Far g w w') (hb : w.heap[k]? = some o) (hk : k ≠ g) : w'.heap[k]? = some o := (h.2 k (blk_lt hb) hk).trans hb
theorem Far.cells {g : Nat} {w : World} {p : Addr} {v : Value} (h : w.cell? p = some v) (hp : p.block ≠ g) : ∀ w', Far g w w' → w'.cell? p = some v := fun w' hf => by
  have hlt := World.block_lt_of_cell? w p h
  have := hf.2 p.block hlt hp
  rw [← h]
  unfold World.cell?
  rw [this]

section
variable {P : Program} {ops : Array Oper} {Q : Exit → Act → World → Prop} {md : Region.Mode} {ds : List Nat} {R : World → World → Prop}

def wpUq (P : Program) (md : Region.Mode) (ops : Array Oper) (Q : Exit → Act → World → Prop) (ds : List Nat) (R : World → World → Prop) : Nat → Array Bool → Act → World → Prop
  | 0, listed, a, w => Region.ready md ops listed = [] ∧ Q .normal a w
  | fuel + 1, listed, a, w =>
    (Region.ready md ops listed = [] → Q .normal a w) ∧
    ∀ i ∈ Region.ready md ops listed, wpOp P ops Q i (fun a' w' => ((i ∉ ds → Grow w w') ∧ R w w') ∧ wpUq P md ops Q ds R fuel (listed.setIfInBounds i true) a' w') a w

theorem wpAny_of_uq : ∀ (fuel : Nat) (listed : Array Bool) (a : Act) (w : World), wpUq P md ops Q ds R fuel listed a w → wpAny P md ops Q fuel listed a w
  | 0, _, _, _, h => h
  | fuel + 1, _, _, _, h => ⟨h.1, fun i hi => wpOp_mono (fun a' w' h' => wpAny_of_uq fuel _ a' w' h'.2) (h.2 i hi)⟩

theorem wpUq_first (hR : Keeps R) {i : Nat} {oi : Oper} {v : Value} (hi : ops[i]? = some oi) (hsel : ∀ (j : Nat) (o : Oper) cs b, ops[j]? = some o → o.op ≠ .select cs b)
    (hQ : ∀ c a w, Q (.panic c) (a.put oi.dst v) w → Q (.panic c) a w) (n : Nat) :
    ∀ (fuel : Nat) (listed : Array Bool) (a : Act) (w : World),
      (∀ j oj, ops[j]? = some oj → j ≠ i → listed.getD j true = false → (∀ e ∈ oj.after, Region.binds md e = true → e.on ≠ i) → oi.apart ops oj = true) →
      ListedClosed md ops listed → (∀ d ∈ ds, listed.getD d true = false → Region.reachB md ops i n d = true) →
      i ∈ Region.ready md ops listed → YieldsIf P ops (Grow w) oi v a →
      wpUq P md ops Q ds R fuel (listed.setIfInBounds i true) (a.put oi.dst v) w → wpUq P md ops Q ds R (fuel + 1) listed a w := by
  intro fuel
  induction fuel with
  | zero =>
    intro listed a w _ _ _ hr hy H
    refine ⟨fun h => (by rw [h] at hr; cases hr), fun j hj => ?_⟩
    by_cases hji : j = i
    · subst hji; exact hy.wpOp hi (Grow.refl _) ⟨⟨fun _ => Grow.refl _, hR.refl _⟩, H⟩
    · have := ready_mono hj hji
      rw [H.1] at this
      cases this
  | succ fuel ih =>
    intro listed a w hfree hc hd hr hy H
    refine ⟨fun h => (by rw [h] at hr; cases hr), fun j hj => ?_⟩
    by_cases hji : j = i
    · subst hji; exact hy.wpOp hi (Grow.refl _) ⟨⟨fun _ => Grow.refl _, hR.refl _⟩, H⟩
    · have h1 := H.2 j (ready_mono hj hji)
      obtain ⟨hjun, oj, hoj, hall⟩ := mem_ready.1 hj
      have hiun := (mem_ready.1 hr).1
      have hnot : ∀ e ∈ oj.after, Region.binds md e = true → e.on ≠ i := fun e he hb heq => by
        have h1 := hall e he hb
        rw [heq] at h1
        rcases Nat.lt_or_ge i listed.size with h' | h'
        · simp [h'] at hiun h1; rw [hiun] at h1; cases h1
        · simp [Array.getElem?_eq_none h'] at h1
      have hjd : j ∉ ds := fun hm => Region.reach_not_ready hc (hd j hm hjun) hiun hj
      have h2 := wpOp_putIf hoj (hfree j oj hoj hji hjun hnot) (fun cs b => hsel i oi cs b hi) (fun cs b => hsel j oj cs b hoj) hQ hy h1
      have hfree' : ∀ k ok, ops[k]? = some ok → k ≠ i → (listed.setIfInBounds j true).getD k true = false →
          (∀ e ∈ ok.after, Region.binds md e = true → e.on ≠ i) → oi.apart ops ok = true := fun k ok hk hki hun hno => by
        refine hfree k ok hk hki ?_ hno
        by_cases hjk : j = k
        · subst hjk; exact hjun
        · rw [getD_set_ne true hjk] at hun; exact hun
      have hd' : ∀ d ∈ ds, (listed.setIfInBounds j true).getD d true = false → Region.reachB md ops i n d = true := fun d hm hun => by
        refine hd d hm ?_
        by_cases hjk : j = d
        · subst hjk; exact hjun
        · rw [getD_set_ne true hjk] at hun; exact hun
      refine wpOp_mono (fun a' w' h3 => ⟨h3.2.1, ih (listed.setIfInBounds j true) a' w' hfree' (hc.set hj) hd' (ready_mono hr (Ne.symm hji)) (YieldsIf.later h3.1 (h3.2.1.1 hjd)) ?_⟩) h2
      rw [Array.setIfInBounds_comm _ _ hji]
      exact h3.2.2

theorem wpUq_first2 (hR : Keeps R) {i : Nat} {oi : Oper} {v : Value} (hi : ops[i]? = some oi) (hsel : ∀ (j : Nat) (o : Oper) cs b, ops[j]? = some o → o.op ≠ .select cs b)
    (hQ : ∀ c a w, Q (.panic c) (a.put oi.dst v) w → Q (.panic c) a w) :
    ∀ (fuel : Nat) (listed : Array Bool) (a : Act) (w : World),
      (∀ j oj, ops[j]? = some oj → j ≠ i → listed.getD j true = false → (∀ e ∈ oj.after, Region.binds md e = true → e.on ≠ i) → oi.apart ops oj = true) →
      i ∈ Region.ready md ops listed → YieldsIf P ops (R w) oi v a →
      wpUq P md ops Q ds R fuel (listed.setIfInBounds i true) (a.put oi.dst v) w → wpUq P md ops Q ds R (fuel + 1) listed a w := by
  intro fuel
  induction fuel with
  | zero =>
    intro listed a w _ hr hy H
    refine ⟨fun h => (by rw [h] at hr; cases hr), fun j hj => ?_⟩
    by_cases hji : j = i
    · subst hji; exact hy.wpOp hi (hR.refl _) ⟨⟨fun _ => Grow.refl _, hR.refl _⟩, H⟩
    · have := ready_mono hj hji
      rw [H.1] at this
      cases this
  | succ fuel ih =>
    intro listed a w hfree hr hy H
    refine ⟨fun h => (by rw [h] at hr; cases hr), fun j hj => ?_⟩
    by_cases hji : j = i
    · subst hji; exact hy.wpOp hi (hR.refl _) ⟨⟨fun _ => Grow.refl _, hR.refl _⟩, H⟩
    · have h1 := H.2 j (ready_mono hj hji)
      obtain ⟨hjun, oj, hoj, hall⟩ := mem_ready.1 hj
      have hiun := (mem_ready.1 hr).1
      have hnot : ∀ e ∈ oj.after, Region.binds md e = true → e.on ≠ i := fun e he hb heq => by
        have h1 := hall e he hb
        rw [heq] at h1
        rcases Nat.lt_or_ge i listed.size with h' | h'
        · simp [h'] at hiun h1; rw [hiun] at h1; cases h1
        · simp [Array.getElem?_eq_none h'] at h1
      have h2 := wpOp_putIf hoj (hfree j oj hoj hji hjun hnot) (fun cs b => hsel i oi cs b hi) (fun cs b => hsel j oj cs b hoj) hQ hy h1
      have hfree' : ∀ k ok, ops[k]? = some ok → k ≠ i → (listed.setIfInBounds j true).getD k true = false →
          (∀ e ∈ ok.after, Region.binds md e = true → e.on ≠ i) → oi.apart ops ok = true := fun k ok hk hki hun hno => by
        refine hfree k ok hk hki ?_ hno
        by_cases hjk : j = k
        · subst hjk; exact hjun
        · rw [getD_set_ne true hjk] at hun; exact hun
      refine wpOp_mono (fun a' w' h3 => ⟨h3.2.1, ih (listed.setIfInBounds j true) a' w' hfree' (ready_mono hr (Ne.symm hji)) (h3.1.imp (fun ⟨h4, h5⟩ => ⟨h4, fun w'' h6 => h5 w'' (hR.trans h3.2.1.2 h6)⟩) id) ?_⟩) h2
      rw [Array.setIfInBounds_comm _ _ hji]
      exact h3.2.2

/-! ### a schedule: each operation's number; 1: it reads what Grow keeps; 2: what R keeps; 0: it alone may come up now -/
def schedC (md : Region.Mode) (ops : Array Oper) (ds : List Nat) : List (Nat × Nat) → Array Bool → Bool
  | [], l => Region.ready md ops l == []
  | (i, 1) :: s, l => Region.free md ops l i && (Region.ready md ops l).contains i && Region.closedB md ops l && Region.lastB md ops l ds i && schedC md ops ds s (l.setIfInBounds i true)
  | (i, 2) :: s, l => Region.free md ops l i && (Region.ready md ops l).contains i && schedC md ops ds s (l.setIfInBounds i true)
  | (i, 0) :: s, l => (Region.ready md ops l == [i]) && schedC md ops ds s (l.setIfInBounds i true)
  | (_, _ + 3) :: _, _ => false

def wpSeqR (P : Program) (ops : Array Oper) (Q : Exit → Act → World → Prop) (ds : List Nat) (R : World → World → Prop) : List (Nat × Nat) → Act → World → Prop
  | [], a, w => Q .normal a w
  | (i, 1) :: s, a, w => ∃ o v, ops[i]? = some o ∧ (∀ c a w, Q (.panic c) (a.put o.dst v) w → Q (.panic c) a w) ∧ YieldsIf P ops (Grow w) o v a ∧ wpSeqR P ops Q ds R s (a.put o.dst v) w
  | (i, 2) :: s, a, w => ∃ o v, ops[i]? = some o ∧ (∀ c a w, Q (.panic c) (a.put o.dst v) w → Q (.panic c) a w) ∧ YieldsIf P ops (R w) o v a ∧ wpSeqR P ops Q ds R s (a.put o.dst v) w
  | (_, _ + 3) :: _, _, _ => False
  | (i, 0) :: s, a, w => wpOp P ops Q i (fun a' w' => ((i ∉ ds → Grow w w') ∧ R w w') ∧ wpSeqR P ops Q ds R s a' w') a w

theorem wpUq_of_seq (hR : Keeps R) (hs : Region.noSelect ops = true) : ∀ (s : List (Nat × Nat)) (l : Array Bool) (a : Act) (w : World), schedC md ops ds s l = true → wpSeqR P ops Q ds R s a w → wpUq P md ops Q ds R s.length l a w
  | [], l, a, w, hc, h => ⟨by simpa [schedC] using hc, h⟩
  | (i, 1) :: s, l, a, w, hc, h => by
    simp only [schedC, Bool.and_eq_true] at hc
    obtain ⟨⟨⟨⟨h1, h2⟩, h3⟩, h4⟩, h5⟩ := hc
    obtain ⟨o, v, hi, hQ, hy, hk⟩ := h
    exact wpUq_first hR hi (Region.noSelect_spec hs) hQ ops.size s.length l a w (Region.free_spec hi h1) (Region.closedB_spec h3)
      (fun d hm hun => by have := List.all_eq_true.1 h4 d hm; rw [hun] at this; simpa using this) (by simpa using h2) hy (wpUq_of_seq hR hs s _ _ _ h5 hk)
  | (i, 2) :: s, l, a, w, hc, h => by
    simp only [schedC, Bool.and_eq_true] at hc
    obtain ⟨⟨h1, h2⟩, h5⟩ := hc
    obtain ⟨o, v, hi, hQ, hy, hk⟩ := h
    exact wpUq_first2 hR hi (Region.noSelect_spec hs) hQ s.length l a w (Region.free_spec hi h1) (by simpa using h2) hy (wpUq_of_seq hR hs s _ _ _ h5 hk)
  | (_, _ + 3) :: _, _, _, _, _, h => h.elim
  | (i, 0) :: s, l, a, w, hc, h => by
    simp only [schedC, Bool.and_eq_true, beq_iff_eq] at hc
    obtain ⟨h1, h2⟩ := hc
    refine ⟨fun h0 => (by rw [h0] at h1; cases h1), fun j hj => ?_⟩
    rw [h1] at hj
    obtain rfl : j = i := by simpa using hj
    exact wpOp_mono (fun a' w' h3 => ⟨h3.1, wpUq_of_seq hR hs s _ _ _ h2 h3.2⟩) h

/-- The beginning. -/
theorem upR_start {id : Nat} {a : Act} {w : World} (hR : Keeps R) (ds : List Nat) (s : List (Nat × Nat)) (hm : P.follows .mixedOrders = true) (hn : s.length = ops.size) (hs : Region.noSelect ops = true) (hc : schedC .any ops ds s (Array.replicate ops.size false) = true)
    (h : wpSeqR P ops Q ds R s a w.drew) : (Code.region id ops true).wp P Q a w := by
  have h1 := wpUq_of_seq hR hs s _ _ _ hc h
  rw [hn] at h1
  exact wp_region_any hm (wpAny_of_uq _ _ _ _ h1)

/-- An operation that reads: what it yields in every later world. -/
theorem rseq_pure {i : Nat} {o : Oper} {N : Option Tmp} {v : Value} {s : List (Nat × Nat)} {a a' : Act} {w : World} (hi : ops[i]? = some o) (hN : o.dst = N) (hw : Region.wanted o (yielded ops a.tmps) = true) (hQ : ∀ c a w, Q (.panic c) (a.put o.dst v) w → Q (.panic c) a w)
    (hrun : ∀ w', Grow w w' → (execOp a.eval o).run P w' = .ok (.value v) w') (ha : a.put N v = a') (h : wpSeqR P ops Q ds R s a' w) : wpSeqR P ops Q ds R ((i, 1) :: s) a w := by
  subst hN; subst ha
  exact ⟨o, v, hi, hQ, Or.inl ⟨hw, hrun⟩, h⟩
/-- Its guard is off. -/
theorem rseq_off {i : Nat} {o : Oper} {N : Option Tmp} {s : List (Nat × Nat)} {a a' : Act} {w : World} (hi : ops[i]? = some o) (hN : o.dst = N) (hw : Region.wanted o (yielded ops a.tmps) = false) (hQ : ∀ c a w, Q (.panic c) (a.put o.dst undef) w → Q (.panic c) a w)
    (ha : a.put N undef = a') (h : wpSeqR P ops Q ds R s a' w) : wpSeqR P ops Q ds R ((i, 1) :: s) a w := by
  subst hN; subst ha
  exact ⟨o, undef, hi, hQ, Or.inr ⟨hw, rfl⟩, h⟩
/-- An effect whose guard is off. -/
theorem rseq_offE (hR : Keeps R) {i : Nat} {o : Oper} {N : Option Tmp} {s : List (Nat × Nat)} {a a' : Act} {w : World} (hi : ops[i]? = some o) (hN : o.dst = N) (hw : Region.wanted o (yielded ops a.tmps) = false)
    (ha : a.put N undef = a') (h : wpSeqR P ops Q ds R s a' w) : wpSeqR P ops Q ds R ((i, 0) :: s) a w := by
  subst hN; subst ha
  exact wpOp_step hi (fun K hK => by rw [if_neg (by rw [hw]; simp)]; exact hK _ _ ⟨⟨fun _ => Grow.refl _, hR.refl _⟩, h⟩)
/-- A call, by its contract. -/
theorem rseq_call {i : Nat} {oi : Oper} {N : Option Tmp} {s : List (Nat × Nat)} {a : Act} {w : World} {f : FuncId} {fn : Func} {as : Array Operand} {ts : Array TypeId} (hi : ops[i]? = some oi) (hN : oi.dst = N) (hf : P.funcs[f]? = some fn) (hname : (fn.name == "runtime.NumGoroutine") = false) (hb : fn.body.isSome = true) (args : Array Value)
    (hw : Region.wanted oi (yielded ops a.tmps) = true) (hop : oi.op = .call { callee := .value (.func f), args := as, argTypes := ts }) (hargs : as.map a.eval = args)
    (h : Calls P f args w fun e w' => ∃ v, e = .returned v ∧ ((i ∉ ds → Grow w w') ∧ R w w') ∧ wpSeqR P ops Q ds R s (a.put N v) w') : wpSeqR P ops Q ds R ((i, 0) :: s) a w :=
  wpOp_step hi (fun K hK => by
    subst hN
    refine goes_ hf hname hb args hw rfl hop hargs (h.mono ?_)
    rintro e w' ⟨v, rfl, hg, hs⟩
    exact ⟨v, rfl, hK _ _ ⟨hg, hs⟩⟩)
/-- An operation that yields a value and may make memory. -/
theorem rseq_value {i : Nat} {o : Oper} {N : Option Tmp} {v : Value} {s : List (Nat × Nat)} {a a' : Act} {w w1 : World} (hi : ops[i]? = some o) (hN : o.dst = N) (hw : Region.wanted o (yielded ops a.tmps) = true)
    (hrun : (execOp a.eval o).run P w = .ok (.value v) w1) (hg : (i ∉ ds → Grow w w1) ∧ R w w1) (ha : a.put N v = a') (h : wpSeqR P ops Q ds R s a' w1) : wpSeqR P ops Q ds R ((i, 0) :: s) a w := by
  subst hN; subst ha
  exact wpOp_step hi (fun K hK => value_ hw rfl hrun (hK _ _ ⟨hg, h⟩))
/-- Any effect, as a step of a region (op_append_step and its like). -/
theorem rseq_step {i : Nat} {o : Oper} {s : List (Nat × Nat)} {a : Act} {w : World} (hi : ops[i]? = some o)
    (h : ∀ K : Act → World → Prop, (∀ a' w', (i ∉ ds → Grow w w') ∧ R w w' → wpSeqR P ops Q ds R s a' w' → K a' w') → if Region.wanted o (yielded ops a.tmps) = true then Oper.wp P o a w K Q else K (a.put o.dst undef) w) : wpSeqR P ops Q ds R ((i, 0) :: s) a w :=
  wpOp_step hi (fun K hK => h K (fun a' w' hg hs => hK _ _ ⟨hg, hs⟩))
/-- A store, one of the last. -/
theorem rseq_skip {i : Nat} {o : Oper} {s : List (Nat × Nat)} {a : Act} {w w1 : World} (hi : ops[i]? = some o) (hN : o.dst = none) (hw : Region.wanted o (yielded ops a.tmps) = true)
    (hrun : (execOp a.eval o).run P w = .ok .skip w1) (hg : (i ∉ ds → Grow w w1) ∧ R w w1) (h : wpSeqR P ops Q ds R s a w1) : wpSeqR P ops Q ds R ((i, 0) :: s) a w :=
  wpOp_step hi (fun K hK => by
    have := skip_ (K := K) (Q := Q) hw hN hrun (hK _ _ ⟨hg, h⟩)
    rw [hN]
    exact this)
/-- An operation that reads what R keeps. -/
theorem rseq_pure2 {i : Nat} {o : Oper} {N : Option Tmp} {v : Value} {s : List (Nat × Nat)} {a a' : Act} {w : World} (hi : ops[i]? = some o) (hN : o.dst = N) (hw : Region.wanted o (yielded ops a.tmps) = true) (hQ : ∀ c a w, Q (.panic c) (a.put o.dst v) w → Q (.panic c) a w)
    (hrun : ∀ w', R w w' → (execOp a.eval o).run P w' = .ok (.value v) w') (ha : a.put N v = a') (h : wpSeqR P ops Q ds R s a' w) : wpSeqR P ops Q ds R ((i, 2) :: s) a w := by
  subst hN; subst ha
  exact ⟨o, v, hi, hQ, Or.inl ⟨hw, hrun⟩, h⟩
theorem rseq_done {a : Act} {w : World} (h : Q .normal a w) : wpSeqR P ops Q ds R [] a w := h
/-- The end: of the world only C is kept. -/
theorem rseq_doneW (C : World → Prop) {a : Act} {w : World} (hC : C w) (h : ∀ w', C w' → Q .normal a w') : wpSeqR P ops Q ds R [] a w := h w hC
theorem rseq_norm {s : List (Nat × Nat)} {a a' : Act} {w : World} (ha : a = a') (h : wpSeqR P ops Q ds R s a' w) : wpSeqR P ops Q ds R s a w := by
  subst ha
  exact h
end
end Go.Proofs.Ytkkhdjdoifnoaaa
