/- A buffer and the reference's, side by side, with the reference's box. -/
import Derived.Test.YtcmiajnndmaeiaaFragBoth
set_option linter.unusedVariables false
set_option linter.unusedSimpArgs false
namespace Go.Proofs.Ytcmiajnndmaeiaa
open Go.RowKit Go.Proofs.YtcmiajnndmaeiaaW.PrintWords Go.Proofs.YtcmiajnndmaeiaaW.PrintLast Go.Proofs.YtcmiajnndmaeiaaW.PrintMore
structure Pair (base rb : Nat) (w : World) (b P A G : Nat) (v : Value) (xs : List Cel) (A9 : Option Addr) (n9 c9 : Nat) (es : List Ent) : Prop where
  buf : BufAt base w b P A G v xs
  row : RowR (fun k => ¬ Foot_ b v xs k ∧ k ≠ rb) w A9 n9 c9 es
  box : w.heap[rb]? = some (.cells #[.int .i64 (P : Int), .int .i64 (A : Int), .int .u64 (G : Int), .slice A9 n9 c9] 44 (0, 0))
section
variable {base rb b P A G : Nat} {w w1 : World} {v v1 : Value} {xs xs1 : List Cel} {A9 A8 : Option Addr} {n9 c9 n8 c8 : Nat} {es es1 : List Ent}
theorem Pair.below (h : Pair base rb w b P A G v xs A9 n9 c9 es) (hb : Below w.heap.size w w1) : Pair base rb w1 b P A G v xs A9 n9 c9 es := ⟨h.buf.below hb, h.row.below hb, blk_below h.box hb⟩
theorem Pair.lt (h : Pair base rb w b P A G v xs A9 n9 c9 es) : rb < w.heap.size := blk_lt h.box
theorem Pair.cells (h : Pair base rb w b P A G v xs A9 n9 c9 es) : w.cell? ⟨rb, 0, none⟩ = some (.int .i64 (P : Int)) ∧ w.cell? ⟨rb, 1, none⟩ = some (.int .i64 (A : Int)) ∧ w.cell? ⟨rb, 2, none⟩ = some (.int .u64 (G : Int)) ∧ w.cell? ⟨rb, 3, none⟩ = some (.slice A9 n9 c9) ∧
    w.frozen? ⟨rb, 0, none⟩ = false ∧ w.frozen? ⟨rb, 1, none⟩ = false ∧ w.frozen? ⟨rb, 2, none⟩ = false ∧ w.frozen? ⟨rb, 3, none⟩ = false :=
  ⟨by rw [blk_cell h.box]; rfl, by rw [blk_cell h.box]; rfl, by rw [blk_cell h.box]; rfl, by rw [blk_cell h.box]; rfl, blk_frozen h.box 0, blk_frozen h.box 1, blk_frozen h.box 2, blk_frozen h.box 3⟩
/-- The buffer has been called. -/
theorem Pair.mid (h : Pair base rb w b P A G v xs A9 n9 c9 es) (hb : BufAt base w1 b P A G v1 xs1) (hm : Mod (Foot_ b v xs) w w1) (hf : ∀ k, Foot_ b v1 xs1 k → Foot_ b v xs k ∨ w.heap.size ≤ k) : Pair base rb w1 b P A G v1 xs1 A9 n9 c9 es :=
  ⟨hb, row_mid h.row hm hf, hm.block h.box (h.buf.foot_B h.box)⟩
/-- .. and the reference: its row is stored. -/
theorem Pair.put (h : Pair base rb w b P A G v xs A9 n9 c9 es) (hr : RowR (fun k => (¬ Foot_ b v xs k ∧ k ≠ rb) ∨ w.heap.size ≤ k) w1 A8 n8 c8 es1) (hb : Below w.heap.size w w1) :
    Pair base rb ((((w1.setCell ⟨rb, 0, none⟩ (.int .i64 (P : Int))).setCell ⟨rb, 1, none⟩ (.int .i64 (A : Int))).setCell ⟨rb, 2, none⟩ (.int .u64 (G : Int))).setCell ⟨rb, 3, none⟩ (.slice A8 n8 c8)) b P A G v xs A8 n8 c8 es1 := by
  have h1 := h.below hb
  obtain ⟨h2, h3⟩ := both_put h1.buf (row_end h.buf h.lt hr) h1.box (.int .i64 (P : Int)) (.int .i64 (A : Int)) (.int .u64 (G : Int)) (.slice A8 n8 c8)
  exact ⟨h2, h3, blk_set4 h1.box _ _ _ _⟩
/-- Another block is written, in which no piece lies. -/
theorem Pair.far (h : Pair base rb w b P A G v xs A9 n9 c9 es) {g i t : Nat} {cells : Array Value} (hg : w.heap[g]? = some (.cells cells t (0, 0))) (ht : t = 5) (hc : Clear (fun k => ¬ k = g) w xs) (hrow : RowR (fun k => (¬ Foot_ b v xs k ∧ k ≠ rb) ∧ k ≠ g) w A9 n9 c9 es) (u : Value) : Pair base rb (w.setCell ⟨g, i, none⟩ u) b P A G v xs A9 n9 c9 es := by
  subst ht
  have hm : Mod (fun k => k = g) w (w.setCell ⟨g, i, none⟩ u) := Mod.set (S := fun k => k = g) w rfl u
  refine ⟨h.buf.modU hm (fun k hk e => ?_) hc, (hrow.mod hm (fun k hk => hk.2)).mono (fun k hk => hk.1), hm.block h.box (fun e => ?_)⟩
  · rw [e] at hk
    exact h.buf.foot_row hg (by decide) (by decide) (by decide) (by decide) hk
  · have h1 := h.box
    rw [e] at h1
    exact absurd (heap_type h1 hg) (by decide)
theorem Clear.mono {okp okq : Nat → Prop} (h : Clear okp w xs) (hk : ∀ k, okp k → okq k) : Clear okq w xs := fun x hx i hi A n c hc => hk _ (h x hx i hi A n c hc)
/-- All pieces lie where there is memory. -/
theorem BufAt.clear_lt (h : BufAt base w b P A G v xs) : Clear (fun k => k < w.heap.size) w xs := by
  intro x hx i hi A' n c hc
  obtain ⟨_, c', ss, _, h2, h3⟩ := h.ents x hx
  obtain ⟨s, hs, hcs, _⟩ := h2.cell i hi
  have hp := h3.at_ i hi
  rw [hs.out] at hp
  rw [hcs] at hc
  injection hc with hc
  injection hc with h4 h5 h6
  rcases hp with ⟨_, h7⟩ | ⟨_, _, h7⟩
  · rw [h7] at h4
    cases h4
  · exact Kd.R_lt h7 A'.block (by rw [h4]; rfl)
end
/-- The row of a body: cells from k on are as they were. -/
def BodyFrom (ga n : Nat) (fl : Nat) (k : Nat) (w : World) : Prop := ∃ cs, w.heap[ga]? = some (.cells cs 5 (0, 0)) ∧ ∀ j, k ≤ j → j < n → cs[j]? = some (.int .u8 (fl : Int))
theorem BodyFrom.cell {ga n fl k : Nat} {w : World} (h : BodyFrom ga n fl k w) (hk : k < n) : w.cell? ⟨ga, k, none⟩ = some (.int .u8 (fl : Int)) ∧ w.frozen? ⟨ga, k, none⟩ = false := by
  obtain ⟨cs, h1, h2⟩ := h
  exact ⟨by rw [blk_cell h1]; exact h2 k (Nat.le_refl _) hk, blk_frozen h1 k⟩
theorem BodyFrom.put {ga n fl k : Nat} {w : World} (h : BodyFrom ga n fl k w) (u : Value) : BodyFrom ga n fl (k + 1) (w.setCell ⟨ga, k, none⟩ u) := by
  obtain ⟨cs, h1, h2⟩ := h
  refine ⟨_, blk_set h1 k u, fun j hj hn => ?_⟩
  rw [Array.getElem?_setIfInBounds, if_neg (by omega)]
  exact h2 j (by omega) hn
theorem BodyFrom.of {ga n c fl base : Nat} {w : World} (h : OwnK .u8 5 base w (.slice (some ⟨ga, 0, none⟩) n c) (List.replicate n fl)) : BodyFrom ga n fl 0 w := by
  have h0 := h
  obtain ⟨_, inner, ho, _⟩ := h0
  obtain ⟨cs, hcs⟩ := own_typed ho ga rfl
  refine ⟨cs, hcs, fun j _ hj => ?_⟩
  have h1 := (h.cell j hj).1
  rw [blk_cell hcs] at h1
  rw [h1, List.getD_eq_getElem?_getD, List.getElem?_replicate, if_pos hj]
  rfl
theorem BodyFrom.same {ga n fl k : Nat} {w w1 : World} (h : BodyFrom ga n fl k w) (hs : w1.heap[ga]? = w.heap[ga]?) : BodyFrom ga n fl k w1 := by
  obtain ⟨cs, h1, h2⟩ := h
  exact ⟨cs, hs.trans h1, h2⟩
end Go.Proofs.Ytcmiajnndmaeiaa
