/- A region that draws its order, walked in one order: what reads is taken as soon as it may come up, because nothing that follows turns what it read ('Grow': every block that was there stays as it was).
   Over any program. The last operations ('ds') may turn such blocks: nothing is shown behind them. -/
import Derived.Test.YtkkhdjdoifnoaaaLib
set_option linter.unusedVariables false
set_option linter.unusedSimpArgs false
namespace Go.Proofs.Ytkkhdjdoifnoaaa
open Go.RowKit Go.Proofs.YtkkhdjdoifnoaaaW.PrintWords Go.Proofs.YtkkhdjdoifnoaaaW.PrintLast Go.Proofs.YtkkhdjdoifnoaaaW.PrintMore

/-- Every block that was there is as it was. -/
def Grow (w w' : World) : Prop := Below w.heap.size w w'
theorem Grow.refl (w : World) : Grow w w := Below.refl _ _
theorem Grow.trans {w w1 w2 : World} (h : Grow w w1) (k : Grow w1 w2) : Grow w w2 := below_seq h k

section
variable {P : Program} {ops : Array Oper} {Q : Exit → Act → World → Prop} {md : Region.Mode} {ds : List Nat}

def wpUp (P : Program) (md : Region.Mode) (ops : Array Oper) (Q : Exit → Act → World → Prop) (ds : List Nat) : Nat → Array Bool → Act → World → Prop
  | 0, listed, a, w => Region.ready md ops listed = [] ∧ Q .normal a w
  | fuel + 1, listed, a, w =>
    (Region.ready md ops listed = [] → Q .normal a w) ∧
    ∀ i ∈ Region.ready md ops listed, wpOp P ops Q i (fun a' w' => (i ∉ ds → Grow w w') ∧ wpUp P md ops Q ds fuel (listed.setIfInBounds i true) a' w') a w

theorem wpAny_of_up : ∀ (fuel : Nat) (listed : Array Bool) (a : Act) (w : World), wpUp P md ops Q ds fuel listed a w → wpAny P md ops Q fuel listed a w
  | 0, _, _, _, h => h
  | fuel + 1, _, _, _, h => ⟨h.1, fun i hi => wpOp_mono (fun a' w' h' => wpAny_of_up fuel _ a' w' h'.2) (h.2 i hi)⟩

theorem YieldsIf.later {o : Oper} {v : Value} {a : Act} {w w' : World} (h : YieldsIf P ops (Grow w) o v a) (hg : Grow w w') : YieldsIf P ops (Grow w') o v a :=
  h.imp (fun ⟨h1, h2⟩ => ⟨h1, fun w'' h3 => h2 w'' (hg.trans h3)⟩) id

theorem wpUp_first {i : Nat} {oi : Oper} {v : Value} (hi : ops[i]? = some oi) (hsel : ∀ (j : Nat) (o : Oper) cs b, ops[j]? = some o → o.op ≠ .select cs b)
    (hQ : ∀ c a w, Q (.panic c) (a.put oi.dst v) w → Q (.panic c) a w) (n : Nat) :
    ∀ (fuel : Nat) (listed : Array Bool) (a : Act) (w : World),
      (∀ j oj, ops[j]? = some oj → j ≠ i → listed.getD j true = false → (∀ e ∈ oj.after, Region.binds md e = true → e.on ≠ i) → oi.apart ops oj = true) →
      ListedClosed md ops listed → (∀ d ∈ ds, listed.getD d true = false → Region.reachB md ops i n d = true) →
      i ∈ Region.ready md ops listed → YieldsIf P ops (Grow w) oi v a →
      wpUp P md ops Q ds fuel (listed.setIfInBounds i true) (a.put oi.dst v) w → wpUp P md ops Q ds (fuel + 1) listed a w := by
  intro fuel
  induction fuel with
  | zero =>
    intro listed a w _ _ _ hr hy H
    refine ⟨fun h => (by rw [h] at hr; cases hr), fun j hj => ?_⟩
    by_cases hji : j = i
    · subst hji; exact hy.wpOp hi (Grow.refl _) ⟨fun _ => Grow.refl _, H⟩
    · have := ready_mono hj hji
      rw [H.1] at this
      cases this
  | succ fuel ih =>
    intro listed a w hfree hc hd hr hy H
    refine ⟨fun h => (by rw [h] at hr; cases hr), fun j hj => ?_⟩
    by_cases hji : j = i
    · subst hji; exact hy.wpOp hi (Grow.refl _) ⟨fun _ => Grow.refl _, H⟩
    · have h1 := H.2 j (ready_mono hj hji)
      obtain ⟨hjun, oj, hoj, hall⟩ := mem_ready.1 hj
      have hiun := (mem_ready.1 hr).1
      have hnot : ∀ e ∈ oj.after, Region.binds md e = true → e.on ≠ i := fun e he hb heq => by
        have h1 := hall e he hb
        rw [heq] at h1
        rcases Nat.lt_or_ge i listed.size with h' | h'
        · simp [h'] at hiun h1; rw [hiun] at h1; cases h1
        · simp [Array.getElem?_eq_none h'] at h1
      have hjd : j ∉ ds := fun hm => Region.reach_not_ready hc (hd j hm hjun) hiun hj
      have h2 := wpOp_putIf hoj (hfree j oj hoj hji hjun hnot) (fun cs b => hsel i oi cs b hi) (fun cs b => hsel j oj cs b hoj) hQ hy h1
      have hfree' : ∀ k ok, ops[k]? = some ok → k ≠ i → (listed.setIfInBounds j true).getD k true = false →
          (∀ e ∈ ok.after, Region.binds md e = true → e.on ≠ i) → oi.apart ops ok = true := fun k ok hk hki hun hno => by
        refine hfree k ok hk hki ?_ hno
        by_cases hjk : j = k
        · subst hjk; exact hjun
        · rw [getD_set_ne true hjk] at hun; exact hun
      have hd' : ∀ d ∈ ds, (listed.setIfInBounds j true).getD d true = false → Region.reachB md ops i n d = true := fun d hm hun => by
        refine hd d hm ?_
        by_cases hjk : j = d
        · subst hjk; exact hjun
        · rw [getD_set_ne true hjk] at hun; exact hun
      refine wpOp_mono (fun a' w' h3 => ⟨h3.2.1, ih (listed.setIfInBounds j true) a' w' hfree' (hc.set hj) hd' (ready_mono hr (Ne.symm hji)) (YieldsIf.later h3.1 (h3.2.1 hjd)) ?_⟩) h2
      rw [Array.setIfInBounds_comm _ _ hji]
      exact h3.2.2

/-! ### a schedule: each operation's number; true: it only reads; false: it alone may come up now -/
def schedB (md : Region.Mode) (ops : Array Oper) (ds : List Nat) : List (Nat × Bool) → Array Bool → Bool
  | [], l => Region.ready md ops l == []
  | (i, true) :: s, l => Region.free md ops l i && (Region.ready md ops l).contains i && Region.closedB md ops l && Region.lastB md ops l ds i && schedB md ops ds s (l.setIfInBounds i true)
  | (i, false) :: s, l => (Region.ready md ops l == [i]) && schedB md ops ds s (l.setIfInBounds i true)

def wpSeq (P : Program) (ops : Array Oper) (Q : Exit → Act → World → Prop) (ds : List Nat) : List (Nat × Bool) → Act → World → Prop
  | [], a, w => Q .normal a w
  | (i, true) :: s, a, w => ∃ o v, ops[i]? = some o ∧ (∀ c a w, Q (.panic c) (a.put o.dst v) w → Q (.panic c) a w) ∧ YieldsIf P ops (Grow w) o v a ∧ wpSeq P ops Q ds s (a.put o.dst v) w
  | (i, false) :: s, a, w => wpOp P ops Q i (fun a' w' => (i ∉ ds → Grow w w') ∧ wpSeq P ops Q ds s a' w') a w

theorem wpUp_of_seq (hs : Region.noSelect ops = true) : ∀ (s : List (Nat × Bool)) (l : Array Bool) (a : Act) (w : World), schedB md ops ds s l = true → wpSeq P ops Q ds s a w → wpUp P md ops Q ds s.length l a w
  | [], l, a, w, hc, h => ⟨by simpa [schedB] using hc, h⟩
  | (i, true) :: s, l, a, w, hc, h => by
    simp only [schedB, Bool.and_eq_true] at hc
    obtain ⟨⟨⟨⟨h1, h2⟩, h3⟩, h4⟩, h5⟩ := hc
    obtain ⟨o, v, hi, hQ, hy, hk⟩ := h
    exact wpUp_first hi (Region.noSelect_spec hs) hQ ops.size s.length l a w (Region.free_spec hi h1) (Region.closedB_spec h3)
      (fun d hm hun => by have := List.all_eq_true.1 h4 d hm; rw [hun] at this; simpa using this) (by simpa using h2) hy (wpUp_of_seq hs s _ _ _ h5 hk)
  | (i, false) :: s, l, a, w, hc, h => by
    simp only [schedB, Bool.and_eq_true, beq_iff_eq] at hc
    obtain ⟨h1, h2⟩ := hc
    refine ⟨fun h0 => (by rw [h0] at h1; cases h1), fun j hj => ?_⟩
    rw [h1] at hj
    obtain rfl : j = i := by simpa using hj
    exact wpOp_mono (fun a' w' h3 => ⟨h3.1, wpUp_of_seq hs s _ _ _ h2 h3.2⟩) h

/-- The beginning. -/
theorem up_start {id : Nat} {a : Act} {w : World} (ds : List Nat) (s : List (Nat × Bool)) (hm : P.follows .mixedOrders = true) (hn : s.length = ops.size) (hs : Region.noSelect ops = true) (hc : schedB .any ops ds s (Array.replicate ops.size false) = true)
    (h : wpSeq P ops Q ds s a w.drew) : (Code.region id ops true).wp P Q a w := by
  have h1 := wpUp_of_seq hs s _ _ _ hc h
  rw [hn] at h1
  exact wp_region_any hm (wpAny_of_up _ _ _ _ h1)

/-- An operation that reads: what it yields in every later world. -/
theorem seq_pure {i : Nat} {o : Oper} {N : Option Tmp} {v : Value} {s : List (Nat × Bool)} {a a' : Act} {w : World} (hi : ops[i]? = some o) (hN : o.dst = N) (hw : Region.wanted o (yielded ops a.tmps) = true) (hQ : ∀ c a w, Q (.panic c) (a.put o.dst v) w → Q (.panic c) a w)
    (hrun : ∀ w', Grow w w' → (execOp a.eval o).run P w' = .ok (.value v) w') (ha : a.put N v = a') (h : wpSeq P ops Q ds s a' w) : wpSeq P ops Q ds ((i, true) :: s) a w := by
  subst hN; subst ha
  exact ⟨o, v, hi, hQ, Or.inl ⟨hw, hrun⟩, h⟩
/-- Its guard is off. -/
theorem seq_off {i : Nat} {o : Oper} {N : Option Tmp} {s : List (Nat × Bool)} {a a' : Act} {w : World} (hi : ops[i]? = some o) (hN : o.dst = N) (hw : Region.wanted o (yielded ops a.tmps) = false) (hQ : ∀ c a w, Q (.panic c) (a.put o.dst undef) w → Q (.panic c) a w)
    (ha : a.put N undef = a') (h : wpSeq P ops Q ds s a' w) : wpSeq P ops Q ds ((i, true) :: s) a w := by
  subst hN; subst ha
  exact ⟨o, undef, hi, hQ, Or.inr ⟨hw, rfl⟩, h⟩
/-- An effect whose guard is off. -/
theorem seq_offE {i : Nat} {o : Oper} {N : Option Tmp} {s : List (Nat × Bool)} {a a' : Act} {w : World} (hi : ops[i]? = some o) (hN : o.dst = N) (hw : Region.wanted o (yielded ops a.tmps) = false)
    (ha : a.put N undef = a') (h : wpSeq P ops Q ds s a' w) : wpSeq P ops Q ds ((i, false) :: s) a w := by
  subst hN; subst ha
  exact wpOp_step hi (fun K hK => by rw [if_neg (by rw [hw]; simp)]; exact hK _ _ ⟨fun _ => Grow.refl _, h⟩)
/-- A call, by its contract. -/
theorem seq_call {i : Nat} {oi : Oper} {N : Option Tmp} {s : List (Nat × Bool)} {a : Act} {w : World} {f : FuncId} {fn : Func} {as : Array Operand} {ts : Array TypeId} (hi : ops[i]? = some oi) (hN : oi.dst = N) (hf : P.funcs[f]? = some fn) (hname : (fn.name == "runtime.NumGoroutine") = false) (hb : fn.body.isSome = true) (args : Array Value)
    (hw : Region.wanted oi (yielded ops a.tmps) = true) (hop : oi.op = .call { callee := .value (.func f), args := as, argTypes := ts }) (hargs : as.map a.eval = args)
    (h : Calls P f args w fun e w' => ∃ v, e = .returned v ∧ (i ∉ ds → Grow w w') ∧ wpSeq P ops Q ds s (a.put N v) w') : wpSeq P ops Q ds ((i, false) :: s) a w :=
  wpOp_step hi (fun K hK => by
    subst hN
    refine goes_ hf hname hb args hw rfl hop hargs (h.mono ?_)
    rintro e w' ⟨v, rfl, hg, hs⟩
    exact ⟨v, rfl, hK _ _ ⟨hg, hs⟩⟩)
/-- An operation that yields a value and may make memory. -/
theorem seq_value {i : Nat} {o : Oper} {N : Option Tmp} {v : Value} {s : List (Nat × Bool)} {a a' : Act} {w w1 : World} (hi : ops[i]? = some o) (hN : o.dst = N) (hw : Region.wanted o (yielded ops a.tmps) = true)
    (hrun : (execOp a.eval o).run P w = .ok (.value v) w1) (hg : i ∉ ds → Grow w w1) (ha : a.put N v = a') (h : wpSeq P ops Q ds s a' w1) : wpSeq P ops Q ds ((i, false) :: s) a w := by
  subst hN; subst ha
  exact wpOp_step hi (fun K hK => value_ hw rfl hrun (hK _ _ ⟨hg, h⟩))
/-- Any effect, as a step of a region (op_append_step and its like). -/
theorem seq_step {i : Nat} {o : Oper} {s : List (Nat × Bool)} {a : Act} {w : World} (hi : ops[i]? = some o)
    (h : ∀ K : Act → World → Prop, (∀ a' w', (i ∉ ds → Grow w w') → wpSeq P ops Q ds s a' w' → K a' w') → if Region.wanted o (yielded ops a.tmps) = true then Oper.wp P o a w K Q else K (a.put o.dst undef) w) : wpSeq P ops Q ds ((i, false) :: s) a w :=
  wpOp_step hi (fun K hK => h K (fun a' w' hg hs => hK _ _ ⟨hg, hs⟩))
theorem seq_done {a : Act} {w : World} (h : Q .normal a w) : wpSeq P ops Q ds [] a w := h
theorem seq_norm {s : List (Nat × Bool)} {a a' : Act} {w : World} (ha : a = a') (h : wpSeq P ops Q ds s a' w) : wpSeq P ops Q ds s a w := by
  subst ha
  exact h
end
/-- What bytes that are read tell in every later world. -/
theorem Bytes.strs {P : Program} {w : World} {src dst e : TypeId} {A : Option Addr} {n c : Nat} {l : List Nat} (h : Bytes w A n c l) (hs : P.underlying src = some (.slice e)) (he : P.underlying e = some (.int .u8)) (hd : P.underlying dst = some .string) :
    ∀ w', Grow w w' → (convert src dst (.slice A n c)).run P w' = .ok (.string (strOf l)) w' := fun w' hg => (h.below hg).str hs he hd
theorem Grow.cells {w : World} {p : Addr} {v : Value} (h : w.cell? p = some v) : ∀ w', Grow w w' → w'.cell? p = some v := fun w' hg => pw_cell_below hg h
end Go.Proofs.Ytkkhdjdoifnoaaa
