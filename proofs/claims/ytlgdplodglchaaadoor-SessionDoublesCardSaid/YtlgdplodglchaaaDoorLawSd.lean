/- SessionDoubles: the walk. -/
import Derived.Test.YtlgdplodglchaaaDoorGSesG
set_option linter.unusedVariables false
set_option linter.unusedSimpArgs false
namespace Go.Proofs.YtlgdplodglchaaaDoor
open Go.RowKit Go.Proofs.YtlgdplodglchaaaDoorW.PrintWords Go.Proofs.YtlgdplodglchaaaDoorW.PrintLast Go.Proofs.YtlgdplodglchaaaDoorW.PrintMore
theorem waitF_nat (r0 r1 k : Nat) : waitF r0 r1 (k : Int) = waitN (firstW r0) (mostW r0 r1) k := rfl
theorem waitF_neg (r0 r1 : Nat) : waitF r0 r1 (-1) = firstW r0 := rfl
theorem waitF_zero (r0 r1 : Nat) : waitF r0 r1 0 = firstW r0 := rfl
theorem lt_twice {a b : Nat} (h1 : 1 ≤ a) (h2 : b = 2 * a) : a < b := by omega
set_option maxHeartbeats 40000000 in
set_option maxRecDepth 100000 in
theorem sessionDoubles_walk (W : World) (hpl : PlacesAt W) (r : Rul) (hr : r.all) (n : Int) (hn : (Lit.int .i64 n).wf = true) :
    Calls Tryd.prog 6 #[r.v, .int .i64 n] W fun e w' => e = .returned (.bool true) ∧ Below W.heap.size W w' := by
  obtain ⟨r0, r1, r2, r3, r4, r5, r6⟩ := r
  obtain ⟨k, hk, hk2⟩ := and_mask_i64 n 6 (by decide)
  have hk1 : bits .and .i64 n 63 = (k : Int) := hk
  have hk3 : k < 64 := hk2
  have hw1 : wrap64 ((k : Int) + 1) = ((k + 1 : Nat) : Int) := Go.IntWalk.wrap64_in _ ⟨by omega, by omega⟩
  unfold Rul.v
  dsimp only
  obtain ⟨hr0, hr1, _⟩ := hr
  dsimp only at hr0 hr1
  have HWT := fun (t : Int) (ht : t ≤ 9223372036854775807) (w : World) => hd (wait_calls (r2 := r2) (r3 := r3) (r4 := r4) (r5 := r5) (r6 := r6) (tries := t) (w := w) hr0 hr1 ht)
  have HA := HWT (k : Int) (by omega)
  have HB := HWT ((k + 1 : Nat) : Int) (by omega)
  have HF := HWT 0 (by decide)
  have HN := HWT (-1) (by decide)
  rw [waitF_nat] at HA HB
  rw [waitF_zero] at HF
  rw [waitF_neg] at HN
  have f1 := firstW_pos r0
  have f2 := first_most r0 r1
  have p1 := waitN_pos f1 (Nat.le_trans f1 f2) k
  have p2 := waitN_le f2 k
  have p3 : waitN (firstW r0) (mostW r0 r1) (k + 1) = mostW r0 r1 ∨ waitN (firstW r0) (mostW r0 r1) (k + 1) = 2 * waitN (firstW r0) (mostW r0 r1) k := by
    by_cases h : mostW r0 r1 / 2 < waitN (firstW r0) (mostW r0 r1) k
    · exact Or.inl (waitN_over (Nat.le_trans f1 f2) (Nat.lt_succ_self k) h)
    · exact Or.inr (waitN_under h)
  have m1 : mostW r0 r1 < 2 ^ 64 := by unfold mostW firstW; omega
  have p4 := waitN_le f2 (k + 1)
  have m2 : mostW r0 r1 = if r1 < firstW r0 then firstW r0 else r1 := by unfold mostW; split <;> omega
  have m3 : firstW r0 = r0 ∨ (r0 = 0 ∧ firstW r0 = 1) := by unfold firstW; omega
  generalize waitN (firstW r0) (mostW r0 r1) k = a at *
  generalize waitN (firstW r0) (mostW r0 r1) (k + 1) = b at *
  generalize mostW r0 r1 = mo at *
  generalize firstW r0 = fi at *
  have HP := hd (And.intro p1 (And.intro p2 (And.intro p3 (And.intro m1 (And.intro p4 (And.intro m2 m3))))))
  clear HWT f1 f2 p1 p2 p3 m1 p4 m2 m3 hr0 hr1 hn hk hk2
  go_enter Tryd.func6, Tryd.ntmps6
  go_upto_region 1 with (fail)
  have hrb := blk_new W (.cells #[.int .u64 (r0 : Int), .int .u64 (r1 : Int), .int .i64 r2, .int .u64 (r3 : Int), .int .u64 (r4 : Int), .int .u64 (r5 : Int), .int .u64 (r6 : Int)] 24)
  have hal := below_alloc (Below.refl W.heap.size W) (.cells #[.int .u64 (r0 : Int), .int .u64 (r1 : Int), .int .i64 r2, .int .u64 (r3 : Int), .int .u64 (r4 : Int), .int .u64 (r5 : Int), .int .u64 (r6 : Int)] 24)
  generalize W.alloc (.cells #[.int .u64 (r0 : Int), .int .u64 (r1 : Int), .int .i64 r2, .int .u64 (r3 : Int), .int .u64 (r4 : Int), .int .u64 (r5 : Int), .int .u64 (r6 : Int)] 24) = w1 at hrb hal ⊢
  obtain ⟨q, hq⟩ : ∃ q, Aside0 (W.heap.size = q) := ⟨_, ⟨rfl⟩⟩
  rw [hq.out] at hrb ⊢
  go_wp2_with fail
  refine (awake_calls (hpl.below hal)).mono ?_
  rintro e w2 ⟨rfl, hb2⟩
  have HRB := hd (blk_below hrb hb2)
  have HBW := hd (below_seq hal hb2)
  clear hrb hal hb2
  have hg : Grow w2 w2 := Grow.refl w2
  have t0 := Grow.cells (show w2.cell? ⟨q, 0, none⟩ = some (.int .u64 (r0 : Int)) by rw [blk_cell HRB.out]; rfl)
  have t1 := Grow.cells (show w2.cell? ⟨q, 1, none⟩ = some (.int .u64 (r1 : Int)) by rw [blk_cell HRB.out]; rfl)
  have t2 := Grow.cells (show w2.cell? ⟨q, 2, none⟩ = some (.int .i64 r2) by rw [blk_cell HRB.out]; rfl)
  have t3 := Grow.cells (show w2.cell? ⟨q, 3, none⟩ = some (.int .u64 (r3 : Int)) by rw [blk_cell HRB.out]; rfl)
  have t4 := Grow.cells (show w2.cell? ⟨q, 4, none⟩ = some (.int .u64 (r4 : Int)) by rw [blk_cell HRB.out]; rfl)
  have t5 := Grow.cells (show w2.cell? ⟨q, 5, none⟩ = some (.int .u64 (r5 : Int)) by rw [blk_cell HRB.out]; rfl)
  have t6 := Grow.cells (show w2.cell? ⟨q, 6, none⟩ = some (.int .u64 (r6 : Int)) by rw [blk_cell HRB.out]; rfl)
  go_wp2_with fail
  refine (HA _).out.mono ?_
  rintro e w3 ⟨rfl, hb⟩
  replace hg : Grow w2 w3 := below_seq hg hb
  clear hb
  go_wp2_with fail
  refine (HB _).out.mono ?_
  rintro e w4 ⟨rfl, hb⟩
  replace hg : Grow w2 w4 := below_seq hg hb
  clear hb
  go_wp2_with fail
  refine (HF _).out.mono ?_
  rintro e w5 ⟨rfl, hb⟩
  replace hg : Grow w2 w5 := below_seq hg hb
  clear hb HA HB HF
  obtain ⟨p1, p2, p3, m1, p4, m2, m3⟩ := HP.out
  have q0 : decide (0 < a) = true := by simp; omega
  have q0' : decide ((0 : Int) < (a : Int)) = true := by simp; omega
  have q1 : decide (a ≤ mo) = true := by simp; omega
  have q1' : decide ((a : Int) ≤ (mo : Int)) = true := by simp; omega
  have hmost : ∃ x : Bool, decide (r1 < fi) = x ∧ decide ((r1 : Int) < (fi : Int)) = x ∧ (x = true → fi = mo) ∧ (x = false → r1 = mo) := by
    by_cases hm : r1 < fi
    · rw [if_pos hm] at m2
      exact ⟨true, by simp; exact hm, by simp; exact hm, fun _ => m2.symm, fun h => by cases h⟩
    · rw [if_neg hm] at m2
      exact ⟨false, by simp; omega, by simp; omega, fun h => (by cases h), fun _ => m2.symm⟩
  obtain ⟨c, hc⟩ : ∃ c, c = 2 * a % 2 ^ 64 := ⟨_, rfl⟩
  have hw2 : IntKind.u64.wrap (2 * (a : Int)) = (c : Int) := by
    rw [show 2 * (a : Int) = ((2 * a : Nat) : Int) by omega, hc]
    exact wrapM_u (k := .u64) rfl _
  have hcase : (b = c ∧ decide (a < b) = true ∧ decide ((a : Int) < (b : Int)) = true) ∨
      (b = c ∧ decide (a < b) = false ∧ decide ((a : Int) < (b : Int)) = false ∧ mo = b) ∨
      (((b : Int) == (c : Int)) = false ∧ decide (b = c) = false ∧ mo = b) := by
    by_cases hbc : b = c
    · by_cases hab : a < b
      · exact Or.inl ⟨hbc, by simp; exact hab, by simp; exact hab⟩
      · refine Or.inr (Or.inl ⟨hbc, by simp; omega, by simp; omega, ?_⟩)
        rcases p3 with h | h
        · exact h.symm
        · omega
    · refine Or.inr (Or.inr ⟨by simp; omega, by simp; exact hbc, ?_⟩)
      rcases p3 with h | h
      · exact h.symm
      · omega
  have hretry : fi = r0 ∨ (((fi : Int) == (r0 : Int)) = false ∧ ((r0 : Int) == 0) = true ∧ ((fi : Int) == 1) = true) := by
    by_cases h : fi = r0
    · exact Or.inl h
    · rcases m3 with h1 | h1
      · exact absurd h1 h
      · exact Or.inr ⟨by simp; omega, by simp; exact h1.1, by simp; omega⟩
  clear p1 p2 p3 m1 p4 m2 m3 HP hc
  obtain ⟨x, x1, x2, x3, x4⟩ := hmost
  rcases hcase with ⟨rfl, c3, c4⟩ | ⟨rfl, c3, c4, rfl⟩ | ⟨c1, c2, rfl⟩
  all_goals rcases hretry with rfl | ⟨d1, d2, d3⟩
  all_goals cases x
  all_goals
    first | (have x5 := x3 rfl; clear x3 x4; subst x5) | (have x5 := x4 rfl; clear x3 x4; subst x5)
    go_wp2_with fail
    refine (HN _).out.mono ?_
    rintro e w6 ⟨rfl, hb⟩
    have HBZ := hd (below_seq HBW.out (below_seq hg hb))
    replace hg : Grow w2 w6 := below_seq hg hb
    clear hb
    go_wp2
    go_ret
    exact ⟨by first | rfl | simp, HBZ.out⟩
end Go.Proofs.YtlgdplodglchaaaDoor
