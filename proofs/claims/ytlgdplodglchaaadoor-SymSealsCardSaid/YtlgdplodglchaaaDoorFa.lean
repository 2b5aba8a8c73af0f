/- The reference's permutation: what it stands on. -/
import Derived.Test.YtlgdplodglchaaaDoorHk
set_option linter.unusedVariables false
set_option linter.unusedSimpArgs false
namespace Go.Proofs.YtlgdplodglchaaaDoor
open Go.RowKit Go.Proofs.YtlgdplodglchaaaDoorW.PrintWords Go.Proofs.YtlgdplodglchaaaDoorW.PrintLast Go.Proofs.YtlgdplodglchaaaDoorW.PrintMore
set_option maxHeartbeats 1000000 in
set_option maxRecDepth 100000 in
theorem lanes_calls {w : World} : Calls Tryd.prog 109 #[] w fun e w' => ∃ g c, e = .returned (.slice (some ⟨g, 0, none⟩) 25 c) ∧ 25 ≤ c ∧ w.heap.size ≤ g ∧ g < w'.heap.size ∧ OwnK .u64 22 w.heap.size w' (.slice (some ⟨g, 0, none⟩) 25 c) (List.replicate 25 0) ∧ Below w.heap.size w w' := by
  go_enter Tryd.func109, Tryd.ntmps109
  go_wp2_with ((with_reducible refine gate_dst (N := 1) rfl ?_); refine op_make 1 rfl 22 25 _ _ rfl rfl 25 rfl rfl Tryd.underlying25 Tryd.infoU64 (by decide) 25 rfl (by decide) ?_; intro A c w1 hc ho hb)
  obtain ⟨g, rfl, hg, hl⟩ := ho.at_ (by decide)
  go_ret
  exact ⟨g, c, rfl, hc, hg, hl, ho, hb⟩
set_option maxHeartbeats 1000000 in
set_option maxRecDepth 100000 in
theorem consts_calls {w : World} : Calls Tryd.prog 110 #[] w fun e w' => ∃ g, e = .returned (.slice (some ⟨g, 0, none⟩) 24 24) ∧ w.heap.size ≤ g ∧ g < w'.heap.size ∧ OwnK .u64 22 w.heap.size w' (.slice (some ⟨g, 0, none⟩) 24 24) kecC ∧ Below w.heap.size w w' := by
  go_enter Tryd.func110, Tryd.ntmps110
  go_wp2
  have ho := OwnK.lit (k := .u64) (e := 22) w (cs := cellsOf .u64 kecC) kecC rfl (by decide)
  have hal := below_alloc (Below.refl w.heap.size w) (.cells (cellsOf .u64 kecC) 22)
  go_ret
  exact ⟨w.heap.size, rfl, Nat.le_refl _, by rw [World.size_alloc]; exact Nat.lt_succ_self _, ho, hal⟩
set_option maxHeartbeats 1000000 in
set_option maxRecDepth 100000 in
theorem turn64_calls {x k : Nat} {w : World} (hx : x < 2 ^ 64) (hk : k < 64) : Calls Tryd.prog 111 #[.int .u64 (x : Int), .int .i64 (k : Int)] w fun e w' => e = .returned (.int .u64 (rotL x k : Nat)) ∧ w = w' := by
  by_cases h0 : k = 0
  · subst h0
    rw [rotL_zero hx]
    clear hx hk
    go_enter Tryd.func111, Tryd.ntmps111
    go_wp2
    go_ret
    exact ⟨rfl, rfl⟩
  · have q0 : ((k : Int) == 0) = false := by simpa using h0
    have hlt := rotL_lt hx (Nat.le_of_lt hk)
    have e1 : ((x * 2 ^ k % 2 ^ 64 : Nat) : Int) = IntKind.u64.wrap ((x : Int) * 2 ^ k) := by
      have := wrapM_u (k := .u64) rfl (x * 2 ^ k)
      rw [show ((x * 2 ^ k : Nat) : Int) = (x : Int) * 2 ^ k by simp] at this
      exact this.symm
    have e2 : ((x / 2 ^ (64 - k) : Nat) : Int) = ((x : Int) / 2 ^ (64 - k)) := by simp
    have hs : IntKind.u64.wrap (IntKind.u64.wrap ((x : Int) * 2 ^ k) + ((x : Int) / 2 ^ (64 - k))) = ((rotL x k : Nat) : Int) := by
      rw [← e1, ← e2, rotL_shl (Nat.le_of_lt hk), ← Int.natCast_add]
      exact wrapN_u (k := .u64) rfl hlt
    have HR := hd hs
    clear hs e1 e2 hlt
    obtain ⟨j, hj⟩ : ∃ j : Nat, j = 64 - k := ⟨_, rfl⟩
    have h3 : (64 : Int) - (k : Int) = (j : Int) := by omega
    have hj2 : j ≤ 64 := by omega
    rw [← hj] at HR
    clear hj hx h0
    go_enter Tryd.func111, Tryd.ntmps111
    go_wp2
    go_ret
    exact ⟨by rw [← HR.out]; rfl, rfl⟩
/-- A cell of another block changes nothing of a row. -/
theorem grown_cell (w : World) (g i : Nat) (u : Value) : w.grownBy (w.setCell ⟨g, i, none⟩ u) (some g) :=
  ⟨rfl, rfl, rfl, by simp, fun k hk hne => Below.heap_setCell w ⟨g, i, none⟩ u k (fun e => hne (by rw [e]))⟩
theorem OwnK.far {k : IntKind} {e base : Nat} {w : World} {v : Value} {l : List Nat} {g i : Nat} (h : OwnK k e base w v l) (hne : v.ownBlock ≠ some g) (u : Value) : OwnK k e base (w.setCell ⟨g, i, none⟩ u) v l :=
  Kd.R_of_own (own_other (Kd.own_of_R h) (grown_cell w g i u) (Or.inr hne)) (fun _ _ => trivial)
theorem sl_ne {g g' n c : Nat} (h : g ≠ g') : (Value.slice (some ⟨g, 0, none⟩) n c).ownBlock ≠ some g' := fun e => by
  injection e with e
  exact h e
end Go.Proofs.YtlgdplodglchaaaDoor
