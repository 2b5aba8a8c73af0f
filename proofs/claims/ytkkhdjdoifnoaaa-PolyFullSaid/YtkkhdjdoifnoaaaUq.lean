/- A region that draws its order, step by step: where two effects may come up, both are walked. Over any program. -/
import Derived.Test.YtkkhdjdoifnoaaaUpR
set_option linter.unusedVariables false
set_option linter.unusedSimpArgs false
namespace Go.Proofs.Ytkkhdjdoifnoaaa
open Go.RowKit Go.Proofs.YtkkhdjdoifnoaaaW.PrintWords Go.Proofs.YtkkhdjdoifnoaaaW.PrintLast Go.Proofs.YtkkhdjdoifnoaaaW.PrintMore
section
variable {P : Program} {ops : Array Oper} {Q : Exit → Act → World → Prop} {md : Region.Mode} {ds : List Nat} {R : World → World → Prop}
theorem uq_start {id : Nat} {a : Act} {w : World} (R : World → World → Prop) (ds : List Nat) (n : Nat) (hn : ops.size = n) (hm : P.follows .mixedOrders = true) (h : wpUq P .any ops Q ds R n (Array.replicate n false) a w.drew) : (Code.region id ops true).wp P Q a w := by
  subst hn
  exact wp_region_any hm (wpAny_of_uq _ _ _ _ h)
theorem uq_pure (hR : Keeps R) {i fuel : Nat} {o : Oper} {N : Option Tmp} {v : Value} {l : Array Bool} {a a' : Act} {w : World} (hs : Region.noSelect ops = true)
    (hc : (Region.free md ops l i && (Region.ready md ops l).contains i && Region.closedB md ops l && Region.lastB md ops l ds i) = true)
    (hi : ops[i]? = some o) (hN : o.dst = N) (hw : Region.wanted o (yielded ops a.tmps) = true) (hQ : ∀ c a w, Q (.panic c) (a.put o.dst v) w → Q (.panic c) a w)
    (hrun : ∀ w', Grow w w' → (execOp a.eval o).run P w' = .ok (.value v) w') (ha : a.put N v = a') (h : wpUq P md ops Q ds R fuel (l.setIfInBounds i true) a' w) : wpUq P md ops Q ds R (fuel + 1) l a w := by
  subst hN; subst ha
  simp only [Bool.and_eq_true] at hc
  obtain ⟨⟨⟨h1, h2⟩, h3⟩, h4⟩ := hc
  exact wpUq_first hR hi (Region.noSelect_spec hs) hQ ops.size fuel l a w (Region.free_spec hi h1) (Region.closedB_spec h3)
    (fun d hm hun => by have := List.all_eq_true.1 h4 d hm; rw [hun] at this; simpa using this) (by simpa using h2) (Or.inl ⟨hw, hrun⟩) h
theorem uq_two {i j fuel : Nat} {l : Array Bool} {a : Act} {w : World} (hr : Region.ready md ops l = [i, j])
    (h1 : wpOp P ops Q i (fun a' w' => ((i ∉ ds → Grow w w') ∧ R w w') ∧ wpUq P md ops Q ds R fuel (l.setIfInBounds i true) a' w') a w)
    (h2 : wpOp P ops Q j (fun a' w' => ((j ∉ ds → Grow w w') ∧ R w w') ∧ wpUq P md ops Q ds R fuel (l.setIfInBounds j true) a' w') a w) : wpUq P md ops Q ds R (fuel + 1) l a w := by
  refine ⟨fun h => (by rw [h] at hr; cases hr), fun k hk => ?_⟩
  rw [hr] at hk
  rcases List.mem_cons.1 hk with rfl | hk
  · exact h1
  · obtain rfl : k = j := by simpa using hk
    exact h2
theorem uq_one {i fuel : Nat} {l : Array Bool} {a : Act} {w : World} (hr : Region.ready md ops l = [i])
    (h1 : wpOp P ops Q i (fun a' w' => ((i ∉ ds → Grow w w') ∧ R w w') ∧ wpUq P md ops Q ds R fuel (l.setIfInBounds i true) a' w') a w) : wpUq P md ops Q ds R (fuel + 1) l a w := by
  refine ⟨fun h => (by rw [h] at hr; cases hr), fun k hk => ?_⟩
  rw [hr] at hk
  obtain rfl : k = i := by simpa using hk
  exact h1
theorem uq_end {fuel : Nat} {l : Array Bool} {a : Act} {w : World} (hr : Region.ready md ops l = []) (h : Q .normal a w) : wpUq P md ops Q ds R fuel l a w := by
  cases fuel with
  | zero => exact ⟨hr, h⟩
  | succ n => exact ⟨fun _ => h, fun i hi => by rw [hr] at hi; cases hi⟩
theorem uq_call {C : Act → World → Prop} {i : Nat} {oi : Oper} {N : Option Tmp} {a : Act} {w : World} {f : FuncId} {fn : Func} {as : Array Operand} {ts : Array TypeId} (hi : ops[i]? = some oi) (hN : oi.dst = N) (hf : P.funcs[f]? = some fn) (hname : (fn.name == "runtime.NumGoroutine") = false) (hb : fn.body.isSome = true) (args : Array Value)
    (hw : Region.wanted oi (yielded ops a.tmps) = true) (hop : oi.op = .call { callee := .value (.func f), args := as, argTypes := ts }) (hargs : as.map a.eval = args)
    (h : Calls P f args w fun e w' => ∃ v, e = .returned v ∧ ((i ∉ ds → Grow w w') ∧ R w w') ∧ C (a.put N v) w') : wpOp P ops Q i (fun a' w' => ((i ∉ ds → Grow w w') ∧ R w w') ∧ C a' w') a w :=
  wpOp_step hi (fun K hK => by
    subst hN
    refine goes_ hf hname hb args hw rfl hop hargs (h.mono ?_)
    rintro e w' ⟨v, rfl, hg, hs⟩
    exact ⟨v, rfl, hK _ _ ⟨hg, hs⟩⟩)
theorem uq_value {C : Act → World → Prop} {i : Nat} {o : Oper} {N : Option Tmp} {v : Value} {a a' : Act} {w w1 : World} (hi : ops[i]? = some o) (hN : o.dst = N) (hw : Region.wanted o (yielded ops a.tmps) = true)
    (hrun : (execOp a.eval o).run P w = .ok (.value v) w1) (hg : (i ∉ ds → Grow w w1) ∧ R w w1) (ha : a.put N v = a') (h : C a' w1) : wpOp P ops Q i (fun a' w' => ((i ∉ ds → Grow w w') ∧ R w w') ∧ C a' w') a w := by
  subst hN; subst ha
  exact wpOp_step hi (fun K hK => value_ hw rfl hrun (hK _ _ ⟨hg, h⟩))
theorem uq_skip {C : Act → World → Prop} {i : Nat} {o : Oper} {a : Act} {w w1 : World} (hi : ops[i]? = some o) (hN : o.dst = none) (hw : Region.wanted o (yielded ops a.tmps) = true)
    (hrun : (execOp a.eval o).run P w = .ok .skip w1) (hg : (i ∉ ds → Grow w w1) ∧ R w w1) (h : C a w1) : wpOp P ops Q i (fun a' w' => ((i ∉ ds → Grow w w') ∧ R w w') ∧ C a' w') a w :=
  wpOp_step hi (fun K hK => by
    have := skip_ (K := K) (Q := Q) hw hN hrun (hK _ _ ⟨hg, h⟩)
    rw [hN]
    exact this)
theorem uq_norm {fuel : Nat} {l : Array Bool} {a a' : Act} {w : World} (ha : a = a') (h : wpUq P md ops Q ds R fuel l a' w) : wpUq P md ops Q ds R fuel l a w := by
  subst ha
  exact h
end
end Go.Proofs.Ytkkhdjdoifnoaaa
