/- A buffer and the reference's, side by side. -/
import Derived.Test.YtcmiajnndmaeiaaFragRH
import Derived.Test.YtcmiajnndmaeiaaFragNil
set_option linter.unusedVariables false
set_option linter.unusedSimpArgs false
namespace Go.Proofs.Ytcmiajnndmaeiaa
open Go.RowKit Go.Proofs.YtcmiajnndmaeiaaW.PrintWords Go.Proofs.YtcmiajnndmaeiaaW.PrintLast Go.Proofs.YtcmiajnndmaeiaaW.PrintMore
section
variable {P : Program} {ops : Array Oper} {Q : Exit → Act → World → Prop} {md : Region.Mode} {ds : List Nat} {R : World → World → Prop}
/-- As uq_pure: whatever is written meanwhile. -/
theorem uq_pure2 (hR : Keeps R) {i fuel : Nat} {o : Oper} {N : Option Tmp} {v : Value} {l : Array Bool} {a a' : Act} {w : World} (hs : Region.noSelect ops = true)
    (hc : (Region.free md ops l i && (Region.ready md ops l).contains i) = true)
    (hi : ops[i]? = some o) (hN : o.dst = N) (hw : Region.wanted o (yielded ops a.tmps) = true) (hQ : ∀ c a w, Q (.panic c) (a.put o.dst v) w → Q (.panic c) a w)
    (hrun : ∀ w', R w w' → (execOp a.eval o).run P w' = .ok (.value v) w') (ha : a.put N v = a') (h : wpUq P md ops Q ds R fuel (l.setIfInBounds i true) a' w) : wpUq P md ops Q ds R (fuel + 1) l a w := by
  subst hN; subst ha
  simp only [Bool.and_eq_true] at hc
  obtain ⟨h1, h2⟩ := hc
  exact wpUq_first2 hR hi (Region.noSelect_spec hs) hQ fuel l a w (Region.free_spec hi h1) (by simpa using h2) (Or.inl ⟨hw, hrun⟩) h
end
section
variable {base b P A G : Nat} {w w' : World} {v v' : Value} {xs xs' : List Cel} {A1 : Option Addr} {n1 c1 : Nat} {es : List Ent}
theorem row_mid {g : Nat} (hr : RowR (fun k => ¬ Foot_ b v xs k ∧ k ≠ g) w A1 n1 c1 es) (hm : Mod (Foot_ b v xs) w w') (hf : ∀ k, Foot_ b v' xs' k → Foot_ b v xs k ∨ w.heap.size ≤ k) : RowR (fun k => ¬ Foot_ b v' xs' k ∧ k ≠ g) w' A1 n1 c1 es :=
  (hr.bound.mod hm (fun k hk => hk.1.1)).mono (fun k hk => ⟨fun h => by
    rcases hf k h with h1 | h1
    · exact hk.1.1 h1
    · have := hk.2; omega, hk.1.2⟩)
theorem row_end {g : Nat} (hb : BufAt base w b P A G v xs) (hg : g < w.heap.size) (hr : RowR (fun k => (¬ Foot_ b v xs k ∧ k ≠ g) ∨ w.heap.size ≤ k) w' A1 n1 c1 es) : RowR (fun k => ¬ Foot_ b v xs k ∧ k ≠ g) w' A1 n1 c1 es :=
  hr.mono (fun k hk => by
    rcases hk with hk | hk
    · exact hk
    · exact ⟨fun h => by have := (hb.typed h).2.1; omega, by omega⟩)
/-- A box of the reference's buffer is none of the buffer's blocks. -/
theorem BufAt.foot_B (h : BufAt base w b P A G v xs) {k : Nat} {cells : Array Value} (hk : w.heap[k]? = some (.cells cells 44 (0, 0))) : ¬ Foot_ b v xs k := h.foot_row hk (by decide) (by decide) (by decide) (by decide)
theorem foot_cut {q : Cel → Bool} (hv : v'.ownBlock = v.ownBlock) : ∀ k, Foot_ b v' (xs.filter q) k → Foot_ b v xs k ∨ w.heap.size ≤ k := by
  rintro k (h | h | ⟨x, hx, h⟩)
  · exact Or.inl (Or.inl h)
  · exact Or.inl (Or.inr (Or.inl (by rw [← hv]; exact h)))
  · exact Or.inl (Or.inr (Or.inr ⟨x, (List.mem_filter.1 hx).1, h⟩))
theorem mod_cut (hm : Mod (fun k => k = b ∨ v.ownBlock = some k) w w') : Mod (Foot_ b v xs) w w' := hm.mono (fun k _ hk => by
  rcases hk with hk | hk
  · exact Or.inl hk
  · exact Or.inr (Or.inl hk))
theorem InvC.entok (h : InvC P A xs) : ∀ e ∈ xs.map Cel.e, EntOk e := fun e he => by
  obtain ⟨x, hx, rfl⟩ := List.mem_map.1 he
  exact h.ok x hx
theorem fresh_g (h : BufAt base w b P A G v xs) {g : Nat} (hg : w.heap.size ≤ g) : ∀ x ∈ xs, x.g ≠ g := fun x hx e => by
  have := (h.ents x hx).glt
  omega
theorem mod_setB {g : Nat} (a b c d : Value) (w : World) : Mod (fun k => k = g) w ((((w.setCell ⟨g, 0, none⟩ a).setCell ⟨g, 1, none⟩ b).setCell ⟨g, 2, none⟩ c).setCell ⟨g, 3, none⟩ d) := mod_set4 a b c d
/-- The reference's box is stored: all else stands. -/
theorem both_put {g : Nat} {x0 x1 x2 x3 : Value} (hb : BufAt base w b P A G v xs) (hr : RowR (fun k => ¬ Foot_ b v xs k ∧ k ≠ g) w A1 n1 c1 es) (hbx : w.heap[g]? = some (.cells #[x0, x1, x2, x3] 44 (0, 0))) (a0 a1 a2 a3 : Value) :
    BufAt base ((((w.setCell ⟨g, 0, none⟩ a0).setCell ⟨g, 1, none⟩ a1).setCell ⟨g, 2, none⟩ a2).setCell ⟨g, 3, none⟩ a3) b P A G v xs ∧ RowR (fun k => ¬ Foot_ b v xs k ∧ k ≠ g) ((((w.setCell ⟨g, 0, none⟩ a0).setCell ⟨g, 1, none⟩ a1).setCell ⟨g, 2, none⟩ a2).setCell ⟨g, 3, none⟩ a3) A1 n1 c1 es := by
  have hm := mod_set4 (w := w) (g := g) a0 a1 a2 a3
  refine ⟨hb.mod hm (fun k cells hc e => ?_) (fun k hk e => ?_), hr.mod hm (fun k hk => hk.2)⟩
  · subst e
    exact absurd (heap_type hc hbx) (by decide)
  · subst e
    exact hb.foot_B hbx hk
end
end Go.Proofs.Ytcmiajnndmaeiaa
