/- The walks through the permutation's steps, with what their regions draw. -/
import Derived.Test.YtlgdplodglchaaaDoorM5
set_option linter.unusedVariables false
set_option linter.unusedSimpArgs false
namespace Go.Proofs.YtlgdplodglchaaaDoor
open Go.RowKit Go.Proofs.YtlgdplodglchaaaDoorW.PrintWords Go.Proofs.YtlgdplodglchaaaDoorW.PrintLast Go.Proofs.YtlgdplodglchaaaDoorW.PrintMore

set_option maxHeartbeats 4000000 in
set_option maxRecDepth 100000 in
theorem theta_calls {a : List Nat} (ha_ : a.length = 25) (hl_ : Lanes a) {w : World} : Calls Tryd.prog 127 #[.agg (cellsOf .u64 a)] w fun e w' => e = .returned (.agg (cellsOf .u64 (thetaN a))) ∧ Below w.heap.size w w' := by
  have ha := hd ha_
  have hl := hd hl_
  clear ha_ hl_
  go_enter Tryd.func127, Tryd.ntmps127
  go_upto_region 3 with (fail)
  have a0 := below_alloc (Below.refl _ w) (.cells (cellsOf .u64 a) 135)
  have b0 : Arr .u64 135 w.heap.size _ (a) := Arr.new w (cs := cellsOf .u64 a) rfl
  have a1 := below_alloc (Below.refl _ (w.alloc (.cells (cellsOf .u64 a) 135))) (.cells (#[.int .u64 0, .int .u64 0, .int .u64 0, .int .u64 0, .int .u64 0, .int .u64 0, .int .u64 0, .int .u64 0, .int .u64 0, .int .u64 0, .int .u64 0, .int .u64 0, .int .u64 0, .int .u64 0, .int .u64 0, .int .u64 0, .int .u64 0, .int .u64 0, .int .u64 0, .int .u64 0, .int .u64 0, .int .u64 0, .int .u64 0, .int .u64 0, .int .u64 0]) 135)
  have b1 : Arr .u64 135 (w.alloc (.cells (cellsOf .u64 a) 135)).heap.size _ (List.replicate 25 0) := Arr.new (w.alloc (.cells (cellsOf .u64 a) 135)) (cs := #[.int .u64 0, .int .u64 0, .int .u64 0, .int .u64 0, .int .u64 0, .int .u64 0, .int .u64 0, .int .u64 0, .int .u64 0, .int .u64 0, .int .u64 0, .int .u64 0, .int .u64 0, .int .u64 0, .int .u64 0, .int .u64 0, .int .u64 0, .int .u64 0, .int .u64 0, .int .u64 0, .int .u64 0, .int .u64 0, .int .u64 0, .int .u64 0, .int .u64 0]) rfl
  have a2 := below_alloc (Below.refl _ ((w.alloc (.cells (cellsOf .u64 a) 135)).alloc (.cells (#[.int .u64 0, .int .u64 0, .int .u64 0, .int .u64 0, .int .u64 0, .int .u64 0, .int .u64 0, .int .u64 0, .int .u64 0, .int .u64 0, .int .u64 0, .int .u64 0, .int .u64 0, .int .u64 0, .int .u64 0, .int .u64 0, .int .u64 0, .int .u64 0, .int .u64 0, .int .u64 0, .int .u64 0, .int .u64 0, .int .u64 0, .int .u64 0, .int .u64 0]) 135))) (.cells (#[.int .u64 0, .int .u64 0, .int .u64 0, .int .u64 0, .int .u64 0]) 182)
  have b2 : Arr .u64 182 ((w.alloc (.cells (cellsOf .u64 a) 135)).alloc (.cells (#[.int .u64 0, .int .u64 0, .int .u64 0, .int .u64 0, .int .u64 0, .int .u64 0, .int .u64 0, .int .u64 0, .int .u64 0, .int .u64 0, .int .u64 0, .int .u64 0, .int .u64 0, .int .u64 0, .int .u64 0, .int .u64 0, .int .u64 0, .int .u64 0, .int .u64 0, .int .u64 0, .int .u64 0, .int .u64 0, .int .u64 0, .int .u64 0, .int .u64 0]) 135)).heap.size _ (List.replicate 5 0) := Arr.new ((w.alloc (.cells (cellsOf .u64 a) 135)).alloc (.cells (#[.int .u64 0, .int .u64 0, .int .u64 0, .int .u64 0, .int .u64 0, .int .u64 0, .int .u64 0, .int .u64 0, .int .u64 0, .int .u64 0, .int .u64 0, .int .u64 0, .int .u64 0, .int .u64 0, .int .u64 0, .int .u64 0, .int .u64 0, .int .u64 0, .int .u64 0, .int .u64 0, .int .u64 0, .int .u64 0, .int .u64 0, .int .u64 0, .int .u64 0]) 135)) (cs := #[.int .u64 0, .int .u64 0, .int .u64 0, .int .u64 0, .int .u64 0]) rfl
  rw [World.size_alloc] at b1
  rw [World.size_alloc, World.size_alloc] at b2
  have HA := hd ((b0.below a1).below a2)
  have HR := hd (b1.below a2)
  have HC := hd b2
  have HBW := hd (below_seq (below_seq a0 a1) a2)
  clear a0 b0 a1 b1 a2 b2
  generalize (((w.alloc (.cells (cellsOf .u64 a) 135)).alloc (.cells (#[.int .u64 0, .int .u64 0, .int .u64 0, .int .u64 0, .int .u64 0, .int .u64 0, .int .u64 0, .int .u64 0, .int .u64 0, .int .u64 0, .int .u64 0, .int .u64 0, .int .u64 0, .int .u64 0, .int .u64 0, .int .u64 0, .int .u64 0, .int .u64 0, .int .u64 0, .int .u64 0, .int .u64 0, .int .u64 0, .int .u64 0, .int .u64 0, .int .u64 0]) 135)).alloc (.cells (#[.int .u64 0, .int .u64 0, .int .u64 0, .int .u64 0, .int .u64 0]) 182)) = w3 at HA HR HC HBW ⊢
  obtain ⟨q, hq⟩ : ∃ q, Aside0 (w.heap.size = q) := ⟨_, ⟨rfl⟩⟩
  have HQ := hd (show w.heap.size ≤ q by rw [hq.out]; exact Nat.le_refl _)
  rw [hq.out] at HA HR HC ⊢
  clear hq
  go_loopw [4, 7] (fun u4 u7 wr => ∃ i : Nat, i ≤ 5 ∧ u7 = .int .i64 i ∧ Aside0 (Arr .u64 135 q wr a) ∧ Aside0 (Arr .u64 135 (q + 1) wr (List.replicate 25 0)) ∧ Aside0 (Arr .u64 182 (q + 2) wr (upto (colF a) (List.replicate 5 0) i)) ∧ Aside0 (Below w.heap.size w wr)) (fun _ u7 _ => 5 - (intOf u7).toNat)
  case atStart => exact ⟨0, by decide, rfl, HA, HR, ⟨by rw [upto_zero]; exact HC.out⟩, HBW⟩
  case round =>
    obtain ⟨i, hi, rfl, HA, HR, HC, HBW⟩ := hrel
    by_cases hlt : i < 5
    · have i1 : (i : Int) < 5 := by omega
      clear hi
      go_upto_region 5 with (fail)
      refine upR_start Keeps.any [25] [(0, 1), (1, 1), (2, 1), (3, 1), (4, 1), (5, 1), (6, 1), (7, 1), (8, 1), (9, 1), (10, 1), (11, 1), (12, 1), (13, 1), (14, 1), (15, 1), (16, 1), (17, 1), (18, 1), (19, 1), (20, 1), (21, 1), (22, 1), (23, 1), (24, 1), (25, 0)] (by kernel_rfl) rfl (by kernel_rfl) (by kernel_rfl) ?_
      have hdr := below_drew (Below.refl wr.heap.size wr)
      replace HA := hd (HA.out.below hdr)
      replace HR := hd (HR.out.below hdr)
      replace HC := hd (HC.out.below hdr)
      replace HBW := hd (below_seq HBW.out hdr)
      generalize wr.drew = w5 at hdr HA HR HC HBW ⊢
      clear hdr
      obtain ⟨m1, M1⟩ : ∃ m, Aside0 (i + 5 = m) := ⟨_, ⟨rfl⟩⟩
      have wm1 : wrap64 ((i : Int) + 5) = (m1 : Int) := (IntWalk.wrap64_in _ (by omega)).trans (by rw [← M1.out]; push_cast; rfl)
      have jm1 : (m1 : Int) < 25 := by have := M1.out; omega
      obtain ⟨m2, M2⟩ : ∃ m, Aside0 (i + 10 = m) := ⟨_, ⟨rfl⟩⟩
      have wm2 : wrap64 ((i : Int) + 10) = (m2 : Int) := (IntWalk.wrap64_in _ (by omega)).trans (by rw [← M2.out]; push_cast; rfl)
      have jm2 : (m2 : Int) < 25 := by have := M2.out; omega
      obtain ⟨m3, M3⟩ : ∃ m, Aside0 (i + 15 = m) := ⟨_, ⟨rfl⟩⟩
      have wm3 : wrap64 ((i : Int) + 15) = (m3 : Int) := (IntWalk.wrap64_in _ (by omega)).trans (by rw [← M3.out]; push_cast; rfl)
      have jm3 : (m3 : Int) < 25 := by have := M3.out; omega
      obtain ⟨m4, M4⟩ : ∃ m, Aside0 (i + 20 = m) := ⟨_, ⟨rfl⟩⟩
      have wm4 : wrap64 ((i : Int) + 20) = (m4 : Int) := (IntWalk.wrap64_in _ (by omega)).trans (by rw [← M4.out]; push_cast; rfl)
      have jm4 : (m4 : Int) < 25 := by have := M4.out; omega
      obtain ⟨x0, X0, hx0, fx0⟩ := HA.out.cell (i) (by rw [ha.out]; omega)
      have gx0 := Grow.cells hx0
      clear hx0 fx0
      obtain ⟨x1, X1, hx1, fx1⟩ := HA.out.cell (m1) (by rw [ha.out]; omega)
      have gx1 := Grow.cells hx1
      clear hx1 fx1
      obtain ⟨x2, X2, hx2, fx2⟩ := HA.out.cell (m2) (by rw [ha.out]; omega)
      have gx2 := Grow.cells hx2
      clear hx2 fx2
      obtain ⟨x3, X3, hx3, fx3⟩ := HA.out.cell (m3) (by rw [ha.out]; omega)
      have gx3 := Grow.cells hx3
      clear hx3 fx3
      obtain ⟨x4, X4, hx4, fx4⟩ := HA.out.cell (m4) (by rw [ha.out]; omega)
      have gx4 := Grow.cells hx4
      clear hx4 fx4
      obtain ⟨cc, CC, hcc, fcc⟩ := HC.out.cell (i) (by rw [upto_length]; exact hlt)

      have j0 : (i : Int) < 25 := by omega
      obtain ⟨y, HY⟩ : ∃ y, Aside0 (colF a i = y) := ⟨_, ⟨rfl⟩⟩
      have e1 : bits .xor .u64 (x0 : Int) (x1 : Int) = ((x0 ^^^ x1 : Nat) : Int) := xor_u64 (by rw [← X0.out]; exact hl.out.getD _) (by rw [← X1.out]; exact hl.out.getD _)
      have e2 : bits .xor .u64 ((x0 ^^^ x1 : Nat) : Int) (x2 : Int) = ((x0 ^^^ x1 ^^^ x2 : Nat) : Int) := xor_u64 (by rw [← X0.out, ← X1.out]; exact xor64 (hl.out.getD _) (hl.out.getD _)) (by rw [← X2.out]; exact hl.out.getD _)
      have e3 : bits .xor .u64 ((x0 ^^^ x1 ^^^ x2 : Nat) : Int) (x3 : Int) = ((x0 ^^^ x1 ^^^ x2 ^^^ x3 : Nat) : Int) := xor_u64 (by rw [← X0.out, ← X1.out, ← X2.out]; exact xor64 (xor64 (hl.out.getD _) (hl.out.getD _)) (hl.out.getD _)) (by rw [← X3.out]; exact hl.out.getD _)
      have e4 : bits .xor .u64 ((x0 ^^^ x1 ^^^ x2 ^^^ x3 : Nat) : Int) (x4 : Int) = (y : Int) := by
        rw [← HY.out, xor_u64 (by rw [← X0.out, ← X1.out, ← X2.out, ← X3.out]; exact xor64 (xor64 (xor64 (hl.out.getD _) (hl.out.getD _)) (hl.out.getD _)) (hl.out.getD _)) (by rw [← X4.out]; exact hl.out.getD _), ← X0.out, ← X1.out, ← X2.out, ← X3.out, ← X4.out, ← M1.out, ← M2.out, ← M3.out, ← M4.out]
        rfl
      refine rseq_pure (i := 0) (N := some 10) (v := ?_) (a' := ?_) rfl rfl (by rfl) (fun _ _ _ h => h) ?_ ?_ ?_
      rotate_left 2
      · intro w' hg
        go_simp
        with_reducible rfl
      · simp only [Act.put, List.setIfInBounds_toArray, List.set_cons_zero, List.set_cons_succ, i64_w, i32_w]
        rfl
      refine rseq_pure (i := 1) (N := some 11) (v := ?_) (a' := ?_) rfl rfl (by rfl) (fun _ _ _ h => h) ?_ ?_ ?_
      rotate_left 2
      · intro w' hg
        go_simp
        with_reducible rfl
      · simp only [Act.put, List.setIfInBounds_toArray, List.set_cons_zero, List.set_cons_succ, i64_w, i32_w]
        rfl
      refine rseq_pure (i := 2) (N := some 12) (v := ?_) (a' := ?_) rfl rfl (by rfl) (fun _ _ _ h => h) ?_ ?_ ?_
      rotate_left 2
      · intro w' hg
        go_simp
        with_reducible rfl
      · simp only [Act.put, List.setIfInBounds_toArray, List.set_cons_zero, List.set_cons_succ, i64_w, i32_w]
        rfl
      refine rseq_pure (i := 3) (N := some 13) (v := ?_) (a' := ?_) rfl rfl (by rfl) (fun _ _ _ h => h) ?_ ?_ ?_
      rotate_left 2
      · intro w' hg
        go_simp
        with_reducible rfl
      · simp only [Act.put, List.setIfInBounds_toArray, List.set_cons_zero, List.set_cons_succ, i64_w, i32_w]
        rfl
      refine rseq_pure (i := 4) (N := some 14) (v := ?_) (a' := ?_) rfl rfl (by rfl) (fun _ _ _ h => h) ?_ ?_ ?_
      rotate_left 2
      · intro w' hg
        go_simp
        with_reducible rfl
      · simp only [Act.put, List.setIfInBounds_toArray, List.set_cons_zero, List.set_cons_succ, i64_w, i32_w]
        rfl
      refine rseq_pure (i := 5) (N := some 15) (v := ?_) (a' := ?_) rfl rfl (by rfl) (fun _ _ _ h => h) ?_ ?_ ?_
      rotate_left 2
      · intro w' hg
        go_simp
        with_reducible rfl
      · simp only [Act.put, List.setIfInBounds_toArray, List.set_cons_zero, List.set_cons_succ, i64_w, i32_w]
        rfl
      refine rseq_pure (i := 6) (N := some 16) (v := ?_) (a' := ?_) rfl rfl (by rfl) (fun _ _ _ h => h) ?_ ?_ ?_
      rotate_left 2
      · intro w' hg
        go_simp
        with_reducible rfl
      · simp only [Act.put, List.setIfInBounds_toArray, List.set_cons_zero, List.set_cons_succ, i64_w, i32_w]
        rfl
      refine rseq_pure (i := 7) (N := some 17) (v := ?_) (a' := ?_) rfl rfl (by rfl) (fun _ _ _ h => h) ?_ ?_ ?_
      rotate_left 2
      · intro w' hg
        go_simp
        with_reducible rfl
      · simp only [Act.put, List.setIfInBounds_toArray, List.set_cons_zero, List.set_cons_succ, i64_w, i32_w]
        rfl
      refine rseq_pure (i := 8) (N := some 18) (v := ?_) (a' := ?_) rfl rfl (by rfl) (fun _ _ _ h => h) ?_ ?_ ?_
      rotate_left 2
      · intro w' hg
        go_simp
        with_reducible rfl
      · simp only [Act.put, List.setIfInBounds_toArray, List.set_cons_zero, List.set_cons_succ, i64_w, i32_w]
        rfl
      refine rseq_pure (i := 9) (N := some 19) (v := ?_) (a' := ?_) rfl rfl (by rfl) (fun _ _ _ h => h) ?_ ?_ ?_
      rotate_left 2
      · intro w' hg
        go_simp
        with_reducible rfl
      · simp only [Act.put, List.setIfInBounds_toArray, List.set_cons_zero, List.set_cons_succ, i64_w, i32_w]
        rfl
      refine rseq_pure (i := 10) (N := some 20) (v := ?_) (a' := ?_) rfl rfl (by rfl) (fun _ _ _ h => h) ?_ ?_ ?_
      rotate_left 2
      · intro w' hg
        go_simp
        with_reducible rfl
      · simp only [Act.put, List.setIfInBounds_toArray, List.set_cons_zero, List.set_cons_succ, i64_w, i32_w]
        rfl
      refine rseq_pure (i := 11) (N := some 21) (v := ?_) (a' := ?_) rfl rfl (by rfl) (fun _ _ _ h => h) ?_ ?_ ?_
      rotate_left 2
      · intro w' hg
        go_simp
        with_reducible rfl
      · simp only [Act.put, List.setIfInBounds_toArray, List.set_cons_zero, List.set_cons_succ, i64_w, i32_w]
        rfl
      refine rseq_pure (i := 12) (N := some 22) (v := ?_) (a' := ?_) rfl rfl (by rfl) (fun _ _ _ h => h) ?_ ?_ ?_
      rotate_left 2
      · intro w' hg
        go_simp
        with_reducible rfl
      · simp only [Act.put, List.setIfInBounds_toArray, List.set_cons_zero, List.set_cons_succ, i64_w, i32_w]
        rfl
      refine rseq_pure (i := 13) (N := some 23) (v := ?_) (a' := ?_) rfl rfl (by rfl) (fun _ _ _ h => h) ?_ ?_ ?_
      rotate_left 2
      · intro w' hg
        go_simp
        with_reducible rfl
      · simp only [Act.put, List.setIfInBounds_toArray, List.set_cons_zero, List.set_cons_succ, i64_w, i32_w]
        rfl
      refine rseq_pure (i := 14) (N := some 24) (v := ?_) (a' := ?_) rfl rfl (by rfl) (fun _ _ _ h => h) ?_ ?_ ?_
      rotate_left 2
      · intro w' hg
        go_simp
        with_reducible rfl
      · simp only [Act.put, List.setIfInBounds_toArray, List.set_cons_zero, List.set_cons_succ, i64_w, i32_w]
        rfl
      refine rseq_pure (i := 15) (N := some 25) (v := ?_) (a' := ?_) rfl rfl (by rfl) (fun _ _ _ h => h) ?_ ?_ ?_
      rotate_left 2
      · intro w' hg
        go_simp
        with_reducible rfl
      · simp only [Act.put, List.setIfInBounds_toArray, List.set_cons_zero, List.set_cons_succ, i64_w, i32_w]
        rfl
      refine rseq_pure (i := 16) (N := some 26) (v := ?_) (a' := ?_) rfl rfl (by rfl) (fun _ _ _ h => h) ?_ ?_ ?_
      rotate_left 2
      · intro w' hg
        go_simp
        with_reducible rfl
      · simp only [Act.put, List.setIfInBounds_toArray, List.set_cons_zero, List.set_cons_succ, i64_w, i32_w]
        rfl
      refine rseq_pure (i := 17) (N := some 27) (v := ?_) (a' := ?_) rfl rfl (by rfl) (fun _ _ _ h => h) ?_ ?_ ?_
      rotate_left 2
      · intro w' hg
        go_simp
        with_reducible rfl
      · simp only [Act.put, List.setIfInBounds_toArray, List.set_cons_zero, List.set_cons_succ, i64_w, i32_w]
        rfl
      refine rseq_pure (i := 18) (N := some 28) (v := ?_) (a' := ?_) rfl rfl (by rfl) (fun _ _ _ h => h) ?_ ?_ ?_
      rotate_left 2
      · intro w' hg
        go_simp
        with_reducible rfl
      · simp only [Act.put, List.setIfInBounds_toArray, List.set_cons_zero, List.set_cons_succ, i64_w, i32_w]
        rfl
      refine rseq_pure (i := 19) (N := some 29) (v := ?_) (a' := ?_) rfl rfl (by rfl) (fun _ _ _ h => h) ?_ ?_ ?_
      rotate_left 2
      · intro w' hg
        go_simp
        with_reducible rfl
      · simp only [Act.put, List.setIfInBounds_toArray, List.set_cons_zero, List.set_cons_succ, i64_w, i32_w]
        rfl
      refine rseq_pure (i := 20) (N := some 30) (v := ?_) (a' := ?_) rfl rfl (by rfl) (fun _ _ _ h => h) ?_ ?_ ?_
      rotate_left 2
      · intro w' hg
        go_simp
        with_reducible rfl
      · simp only [Act.put, List.setIfInBounds_toArray, List.set_cons_zero, List.set_cons_succ, i64_w, i32_w]
        rfl
      refine rseq_pure (i := 21) (N := some 31) (v := ?_) (a' := ?_) rfl rfl (by rfl) (fun _ _ _ h => h) ?_ ?_ ?_
      rotate_left 2
      · intro w' hg
        go_simp
        with_reducible rfl
      · simp only [Act.put, List.setIfInBounds_toArray, List.set_cons_zero, List.set_cons_succ, i64_w, i32_w]
        rfl
      refine rseq_pure (i := 22) (N := some 32) (v := ?_) (a' := ?_) rfl rfl (by rfl) (fun _ _ _ h => h) ?_ ?_ ?_
      rotate_left 2
      · intro w' hg
        go_simp
        with_reducible rfl
      · simp only [Act.put, List.setIfInBounds_toArray, List.set_cons_zero, List.set_cons_succ, i64_w, i32_w]
        rfl
      refine rseq_pure (i := 23) (N := some 33) (v := ?_) (a' := ?_) rfl rfl (by rfl) (fun _ _ _ h => h) ?_ ?_ ?_
      rotate_left 2
      · intro w' hg
        go_simp
        with_reducible rfl
      · simp only [Act.put, List.setIfInBounds_toArray, List.set_cons_zero, List.set_cons_succ, i64_w, i32_w]
        rfl
      refine rseq_pure (i := 24) (N := some 34) (v := ?_) (a' := ?_) rfl rfl (by rfl) (fun _ _ _ h => h) ?_ ?_ ?_
      rotate_left 2
      · intro w' hg
        go_simp
        with_reducible rfl
      · simp only [Act.put, List.setIfInBounds_toArray, List.set_cons_zero, List.set_cons_succ, i64_w, i32_w]
        rfl
      refine rseq_skip (i := 25) (w1 := ?_) rfl rfl (by rfl) ?_ ?_ ?_
      rotate_left
      · go_simp
        rfl
      · exact ⟨fun h => absurd (by decide) h, trivial⟩
      refine rseq_done ?_
      have hc2 := hd (HC.out.set i y)
      rw [upto_succ _ _ i y (by simpa using hlt) HY.out.symm] at hc2
      replace HA := hd (HA.out.far (p := ⟨q + 2, i, none⟩) (by simp) (.int .u64 (y : Int)))
      replace HR := hd (HR.out.far (p := ⟨q + 2, i, none⟩) (by simp) (.int .u64 (y : Int)))
      replace HBW := hd (HBW.out.setCell (p := ⟨q + 2, i, none⟩) (show w.heap.size ≤ q + 2 by have := HQ.out; omega) (.int .u64 (y : Int)))
      generalize w5.setCell ⟨q + 2, i, none⟩ (.int .u64 (y : Int)) = w6 at hc2 HA HR HBW ⊢
      clear hcc fcc gx0 gx1 gx2 gx3 gx4 e1 e2 e3 e4 HC wm1 wm2 wm3 wm4 jm1 jm2 jm3 jm4 j0
      go_wp2
      go_roundw
      case rel => exact ⟨i + 1, hlt, by go_num, HA, HR, hc2, HBW⟩
      case measure => simp [intOf]; omega
    · have i1 : ¬ ((i : Int) < 5) := by omega
      obtain rfl : i = 5 := by omega
      clear hi hlt
      rw [upto_all _ _ 5 (by simp)] at HC
      go_upto_region 8 with (fail)
      go_loopw [5, 6, 36] (fun u5 u6 u36 wr => ∃ i : Nat, i ≤ 25 ∧ u36 = .int .i64 i ∧ Aside0 (Arr .u64 135 q wr (upto (thetaF a) a i)) ∧ Aside0 (Arr .u64 135 (q + 1) wr (List.replicate 25 0)) ∧ Aside0 (Arr .u64 182 (q + 2) wr ((List.range 5).map (colF a))) ∧ Aside0 (Below w.heap.size w wr)) (fun _ _ u36 _ => 25 - (intOf u36).toNat)
      case atStart => exact ⟨0, by decide, rfl, ⟨by rw [upto_zero]; exact HA.out⟩, HR, HC, HBW⟩
      case round =>
        obtain ⟨i, hi, rfl, HA, HR, HC, HBW⟩ := hrel
        by_cases hlt : i < 25
        · have i1 : (i : Int) < 25 := by omega
          obtain ⟨x, hx⟩ : ∃ x, Aside0 (i % 5 = x) := ⟨_, ⟨rfl⟩⟩
          obtain ⟨p, hp4⟩ : ∃ p, Aside0 ((x + 4) % 5 = p) := ⟨_, ⟨rfl⟩⟩
          obtain ⟨r, hr1⟩ : ∃ r, Aside0 ((x + 1) % 5 = r) := ⟨_, ⟨rfl⟩⟩
          have hp : p < 5 := by rw [← hp4.out]; exact Nat.mod_lt _ (by decide)
          have hr : r < 5 := by rw [← hr1.out]; exact Nat.mod_lt _ (by decide)
          have hx5 : x < 5 := by rw [← hx.out]; exact Nat.mod_lt _ (by decide)
          have t1 : Int.tmod (i : Int) 5 = (x : Int) := by rw [← hx.out]; exact (Int.ofNat_tmod i 5).symm
          have t1' : (i : Int) % 5 = (x : Int) := by rw [← hx.out]; exact (Int.natCast_emod i 5).symm
          have u1 : wrap64 ((x : Int) + 4) = (x : Int) + 4 := IntWalk.wrap64_in _ (by omega)
          have u2 : wrap64 ((x : Int) + 1) = (x : Int) + 1 := IntWalk.wrap64_in _ (by omega)
          have t2 : Int.tmod ((x : Int) + 4) 5 = (p : Int) := by rw [← hp4.out]; exact (Int.ofNat_tmod (x + 4) 5).symm
          have t3 : Int.tmod ((x : Int) + 1) 5 = (r : Int) := by rw [← hr1.out]; exact (Int.ofNat_tmod (x + 1) 5).symm
          have jp : (p : Int) < 5 := by omega
          have jr : (r : Int) < 5 := by omega
          clear hi hx5
          go_upto_region 11 with (fail)
          trace_state
          refine upR_start Keeps.any [17] [(0, 1), (1, 1), (2, 1), (3, 1), (4, 1), (5, 1), (6, 1), (7, 1), (8, 1), (9, 1), (10, 1), (11, 1), (12, 1), (13, 0), (14, 1), (15, 1), (16, 1), (17, 0)] (by kernel_rfl) rfl (by kernel_rfl) (by kernel_rfl) ?_
          have hdr := below_drew (Below.refl wr.heap.size wr)
          replace HA := hd (HA.out.below hdr)
          replace HR := hd (HR.out.below hdr)
          replace HC := hd (HC.out.below hdr)
          replace HBW := hd (below_seq HBW.out hdr)
          generalize wr.drew = w5 at hdr HA HR HC HBW ⊢
          clear hdr
          obtain ⟨x0, X0, hx0, fx0⟩ := HA.out.cell (i) (by rw [upto_length, ha.out]; exact hlt)

          have gx0 := Grow.cells hx0
          obtain ⟨y0, Y0, hy0, fy0⟩ := HC.out.cell (p) (by rw [List.length_map, List.length_range]; exact hp)
          have gy0 := Grow.cells hy0
          clear hy0 fy0
          obtain ⟨y1, Y1, hy1, fy1⟩ := HC.out.cell (r) (by rw [List.length_map, List.length_range]; exact hr)
          have gy1 := Grow.cells hy1
          clear hy1 fy1
          have X0' := X0.out
          rw [upto_old _ _ _ _ (Nat.le_refl i)] at X0'
          have Y0' := Y0.out
          have Y1' := Y1.out
          rw [List.getD_eq_getElem?_getD, List.getElem?_map, List.getElem?_range hp] at Y0'
          rw [List.getD_eq_getElem?_getD, List.getElem?_map, List.getElem?_range hr] at Y1'
          obtain ⟨z, HZ⟩ : ∃ z, Aside0 (rotL y1 1 = z) := ⟨_, ⟨rfl⟩⟩
          obtain ⟨y, HY⟩ : ∃ y, Aside0 (thetaF a i = y) := ⟨_, ⟨rfl⟩⟩
          have lx0 : x0 < 2 ^ 64 := by rw [← X0']; exact hl.out.getD _
          have ly0 : y0 < 2 ^ 64 := by rw [← Y0']; exact colF_lt hl.out _
          have ly1 : y1 < 2 ^ 64 := by rw [← Y1']; exact colF_lt hl.out _
          have HLY := hd ly1
          have lz : z < 2 ^ 64 := by rw [← HZ.out]; exact rotL_lt ly1 (by decide)
          have e1 : bits .xor .u64 (y0 : Int) (z : Int) = ((y0 ^^^ z : Nat) : Int) := xor_u64 ly0 lz
          have e2 : bits .xor .u64 (x0 : Int) ((y0 ^^^ z : Nat) : Int) = (y : Int) := by
            rw [xor_u64 lx0 (xor64 ly0 lz), ← HY.out]
            congr 1
            rw [thetaF, hx.out, hp4.out, hr1.out, X0', ← HZ.out, ← Y0', ← Y1']
            rfl
          clear X0' Y0' Y1' lx0 ly0 ly1 lz
          refine rseq_pure (i := 0) (N := some 41) (v := ?_) (a' := ?_) rfl rfl (by rfl) (fun _ _ _ h => h) ?_ ?_ ?_
          rotate_left 2
          · intro w' hg
            go_simp
            with_reducible rfl
          · simp only [Act.put, List.setIfInBounds_toArray, List.set_cons_zero, List.set_cons_succ, i64_w, i32_w]
            rfl
          refine rseq_pure (i := 1) (N := some 42) (v := ?_) (a' := ?_) rfl rfl (by rfl) (fun _ _ _ h => h) ?_ ?_ ?_
          rotate_left 2
          · intro w' hg
            go_simp
            with_reducible rfl
          · simp only [Act.put, List.setIfInBounds_toArray, List.set_cons_zero, List.set_cons_succ, i64_w, i32_w]
            rfl
          refine rseq_pure (i := 2) (N := some 43) (v := ?_) (a' := ?_) rfl rfl (by rfl) (fun _ _ _ h => h) ?_ ?_ ?_
          rotate_left 2
          · intro w' hg
            go_simp
            with_reducible rfl
          · simp only [Act.put, List.setIfInBounds_toArray, List.set_cons_zero, List.set_cons_succ, i64_w, i32_w]
            rfl
          refine rseq_pure (i := 3) (N := some 44) (v := ?_) (a' := ?_) rfl rfl (by rfl) (fun _ _ _ h => h) ?_ ?_ ?_
          rotate_left 2
          · intro w' hg
            go_simp
            with_reducible rfl
          · simp only [Act.put, List.setIfInBounds_toArray, List.set_cons_zero, List.set_cons_succ, i64_w, i32_w]
            rfl
          refine rseq_pure (i := 4) (N := some 45) (v := ?_) (a' := ?_) rfl rfl (by rfl) (fun _ _ _ h => h) ?_ ?_ ?_
          rotate_left 2
          · intro w' hg
            go_simp
            with_reducible rfl
          · simp only [Act.put, List.setIfInBounds_toArray, List.set_cons_zero, List.set_cons_succ, i64_w, i32_w]
            rfl
          refine rseq_pure (i := 5) (N := some 46) (v := ?_) (a' := ?_) rfl rfl (by rfl) (fun _ _ _ h => h) ?_ ?_ ?_
          rotate_left 2
          · intro w' hg
            go_simp
            with_reducible rfl
          · simp only [Act.put, List.setIfInBounds_toArray, List.set_cons_zero, List.set_cons_succ, i64_w, i32_w]
            rfl
          refine rseq_pure (i := 6) (N := some 47) (v := ?_) (a' := ?_) rfl rfl (by rfl) (fun _ _ _ h => h) ?_ ?_ ?_
          rotate_left 2
          · intro w' hg
            go_simp
            with_reducible rfl
          · simp only [Act.put, List.setIfInBounds_toArray, List.set_cons_zero, List.set_cons_succ, i64_w, i32_w]
            rfl
          refine rseq_pure (i := 7) (N := some 48) (v := ?_) (a' := ?_) rfl rfl (by rfl) (fun _ _ _ h => h) ?_ ?_ ?_
          rotate_left 2
          · intro w' hg
            go_simp
            with_reducible rfl
          · simp only [Act.put, List.setIfInBounds_toArray, List.set_cons_zero, List.set_cons_succ, i64_w, i32_w]
            rfl
          refine rseq_pure (i := 8) (N := some 49) (v := ?_) (a' := ?_) rfl rfl (by rfl) (fun _ _ _ h => h) ?_ ?_ ?_
          rotate_left 2
          · intro w' hg
            go_simp
            with_reducible rfl
          · simp only [Act.put, List.setIfInBounds_toArray, List.set_cons_zero, List.set_cons_succ, i64_w, i32_w]
            rfl
          refine rseq_pure (i := 9) (N := some 50) (v := ?_) (a' := ?_) rfl rfl (by rfl) (fun _ _ _ h => h) ?_ ?_ ?_
          rotate_left 2
          · intro w' hg
            go_simp
            with_reducible rfl
          · simp only [Act.put, List.setIfInBounds_toArray, List.set_cons_zero, List.set_cons_succ, i64_w, i32_w]
            rfl
          refine rseq_pure (i := 10) (N := some 51) (v := ?_) (a' := ?_) rfl rfl (by rfl) (fun _ _ _ h => h) ?_ ?_ ?_
          rotate_left 2
          · intro w' hg
            go_simp
            with_reducible rfl
          · simp only [Act.put, List.setIfInBounds_toArray, List.set_cons_zero, List.set_cons_succ, i64_w, i32_w]
            rfl
          refine rseq_pure (i := 11) (N := some 52) (v := ?_) (a' := ?_) rfl rfl (by rfl) (fun _ _ _ h => h) ?_ ?_ ?_
          rotate_left 2
          · intro w' hg
            go_simp
            with_reducible rfl
          · simp only [Act.put, List.setIfInBounds_toArray, List.set_cons_zero, List.set_cons_succ, i64_w, i32_w]
            rfl
          refine rseq_pure (i := 12) (N := some 53) (v := ?_) (a' := ?_) rfl rfl (by rfl) (fun _ _ _ h => h) ?_ ?_ ?_
          rotate_left 2
          · intro w' hg
            go_simp
            with_reducible rfl
          · simp only [Act.put, List.setIfInBounds_toArray, List.set_cons_zero, List.set_cons_succ, i64_w, i32_w]
            rfl
          refine rseq_call (i := 13) (N := some 54) rfl rfl Tryd.func133 (by kernel_rfl) rfl #[.int .u64 (y1 : Int), .int .i64 1] (by rfl) rfl ?_ ?_
          · simp only [List.map_toArray, List.map_cons, List.map_nil]
            rfl
          refine (rotl64_calls (k := 1) HLY.out (by decide)).mono ?_
          rintro e w6 ⟨rfl, rfl⟩
          rw [HZ.out]
          refine ⟨_, rfl, ⟨fun _ => Grow.refl _, trivial⟩, ?_⟩
          refine rseq_norm (a' := ?_) ?_ ?_
          rotate_left
          · show Act.put _ (some 54) _ = _
            simp only [Act.put, List.setIfInBounds_toArray, List.set_cons_zero, List.set_cons_succ, i64_w, i32_w]
            rfl
          refine rseq_pure (i := 14) (N := some 55) (v := ?_) (a' := ?_) rfl rfl (by rfl) (fun _ _ _ h => h) ?_ ?_ ?_
          rotate_left 2
          · intro w' hg
            go_simp
            with_reducible rfl
          · simp only [Act.put, List.setIfInBounds_toArray, List.set_cons_zero, List.set_cons_succ, i64_w, i32_w]
            rfl
          refine rseq_pure (i := 15) (N := some 56) (v := ?_) (a' := ?_) rfl rfl (by rfl) (fun _ _ _ h => h) ?_ ?_ ?_
          rotate_left 2
          · intro w' hg
            go_simp
            with_reducible rfl
          · simp only [Act.put, List.setIfInBounds_toArray, List.set_cons_zero, List.set_cons_succ, i64_w, i32_w]
            rfl
          refine rseq_pure (i := 16) (N := some 57) (v := ?_) (a' := ?_) rfl rfl (by rfl) (fun _ _ _ h => h) ?_ ?_ ?_
          rotate_left 2
          · intro w' hg
            go_simp
            with_reducible rfl
          · simp only [Act.put, List.setIfInBounds_toArray, List.set_cons_zero, List.set_cons_succ, i64_w, i32_w]
            rfl
          refine rseq_skip (i := 17) (w1 := ?_) rfl rfl (by rfl) ?_ ?_ ?_
          rotate_left
          · go_simp
            rfl
          · exact ⟨fun h => absurd (by decide) h, trivial⟩
          refine rseq_done ?_
          have ha2 := hd (HA.out.set i y)
          rw [upto_succ _ _ i y (by rw [ha.out]; exact hlt) HY.out.symm] at ha2
          replace HC := hd (HC.out.far (p := ⟨q, i, none⟩) (by simp) (.int .u64 (y : Int)))
          replace HR := hd (HR.out.far (p := ⟨q, i, none⟩) (by simp) (.int .u64 (y : Int)))
          replace HBW := hd (HBW.out.setCell (p := ⟨q, i, none⟩) HQ.out (.int .u64 (y : Int)))
          generalize w5.setCell ⟨q, i, none⟩ (.int .u64 (y : Int)) = w6 at ha2 HC HR HBW ⊢
          clear hx0 fx0 gx0 gy0 gy1 e1 e2 HA t1 t1' t2 t3 u1 u2 jp jr hp hr
          go_wp2
          go_roundw
          case rel => exact ⟨i + 1, hlt, by go_num, ha2, HR, HC, HBW⟩
          case measure => simp [intOf]; omega
        · have i1 : ¬ ((i : Int) < 25) := by omega
          obtain rfl : i = 25 := by omega
          clear hi hlt
          rw [upto_all _ _ 25 ha.out] at HA
          have HA2 := hd (show Arr .u64 135 q wr (thetaN a) from HA.out)
          go_wp2_with (first | ((with_reducible refine gate_dst (N := 59) rfl ?_); refine op_loadA 59 rfl rfl 135 22 25 _ rfl rfl HA2.out (cellsOf .u64 (thetaN a)) rfl Tryd.underlying135 (by kernel_rfl) (thetaN_length a) ?_) | ((with_reducible refine gate_store (t := 135) (p := 2) rfl ?_); refine op_storeA rfl rfl 135 25 _ _ rfl rfl (thetaN a) rfl HR.out (by kernel_rfl) (List.length_replicate) (thetaN_length a) ?_; intro w9 hz1 ho1))
          exact ret_cellA Tryd.results127 rfl hz1 rfl Tryd.underlying135 (by kernel_rfl) (thetaN_length a) ⟨rfl, below_only HBW.out ho1 (by have := HQ.out; omega)⟩
/-- What the two variables hold. -/
def TurnsAt (w : World) : Prop := ∃ t fr, w.heap[2]? = some (.cells (cellsOf .i64 kecT) t fr)
def ConstsAt (w : World) : Prop := ∃ t fr, w.heap[1]? = some (.cells (cellsOf .u64 kecC) t fr)
theorem TurnsAt.below {w w1 : World} (h : TurnsAt w) (hb : Below w.heap.size w w1) : TurnsAt w1 := by
  obtain ⟨t, fr, h⟩ := h
  exact ⟨t, fr, blk_below h hb⟩
theorem ConstsAt.below {w w1 : World} (h : ConstsAt w) (hb : Below w.heap.size w w1) : ConstsAt w1 := by
  obtain ⟨t, fr, h⟩ := h
  exact ⟨t, fr, blk_below h hb⟩
theorem cellsOf_at (k : IntKind) (l : List Nat) (i : Nat) (hi : i < l.length) : (cellsOf k l)[i]? = some (.int k ((l.getD i 0 : Nat) : Int)) := by
  simp [cellsOf, List.getD_eq_getElem?_getD, hi]
theorem TurnsAt.cell {w : World} (h : TurnsAt w) (i : Nat) (hi : i < 25) : ∃ x, Aside0 (kecT.getD i 0 = x) ∧ w.cell? ⟨2, i, none⟩ = some (.int .i64 (x : Int)) := by
  obtain ⟨t, fr, h⟩ := h
  exact ⟨_, ⟨rfl⟩, by simp only [World.cell?, h, cellsOf_at .i64 kecT i hi]; rfl⟩
theorem ConstsAt.cell {w : World} (h : ConstsAt w) (i : Nat) (hi : i < 24) : ∃ x, Aside0 (kecC.getD i 0 = x) ∧ w.cell? ⟨1, i, none⟩ = some (.int .u64 (x : Int)) := by
  obtain ⟨t, fr, h⟩ := h
  exact ⟨_, ⟨rfl⟩, by simp only [World.cell?, h, cellsOf_at .u64 kecC i hi]; rfl⟩

set_option maxHeartbeats 4000000 in
set_option maxRecDepth 100000 in
theorem rho_calls {a : List Nat} (ha_ : a.length = 25) (hl_ : Lanes a) {w : World} (ht_ : TurnsAt w) : Calls Tryd.prog 126 #[.agg (cellsOf .u64 a)] w fun e w' => e = .returned (.agg (cellsOf .u64 (rhoN a))) ∧ Below w.heap.size w w' := by
  have ha := hd ha_
  have hl := hd hl_
  have HT := hd ht_
  clear ha_ hl_ ht_
  go_enter Tryd.func126, Tryd.ntmps126
  go_upto_region 2 with (fail)
  have a0 := below_alloc (Below.refl _ w) (.cells (cellsOf .u64 a) 135)
  have b0 : Arr .u64 135 w.heap.size _ (a) := Arr.new w (cs := cellsOf .u64 a) rfl
  have a1 := below_alloc (Below.refl _ (w.alloc (.cells (cellsOf .u64 a) 135))) (.cells (#[.int .u64 0, .int .u64 0, .int .u64 0, .int .u64 0, .int .u64 0, .int .u64 0, .int .u64 0, .int .u64 0, .int .u64 0, .int .u64 0, .int .u64 0, .int .u64 0, .int .u64 0, .int .u64 0, .int .u64 0, .int .u64 0, .int .u64 0, .int .u64 0, .int .u64 0, .int .u64 0, .int .u64 0, .int .u64 0, .int .u64 0, .int .u64 0, .int .u64 0]) 135)
  have b1 : Arr .u64 135 (w.alloc (.cells (cellsOf .u64 a) 135)).heap.size _ (List.replicate 25 0) := Arr.new (w.alloc (.cells (cellsOf .u64 a) 135)) (cs := #[.int .u64 0, .int .u64 0, .int .u64 0, .int .u64 0, .int .u64 0, .int .u64 0, .int .u64 0, .int .u64 0, .int .u64 0, .int .u64 0, .int .u64 0, .int .u64 0, .int .u64 0, .int .u64 0, .int .u64 0, .int .u64 0, .int .u64 0, .int .u64 0, .int .u64 0, .int .u64 0, .int .u64 0, .int .u64 0, .int .u64 0, .int .u64 0, .int .u64 0]) rfl
  rw [World.size_alloc] at b1
  have HA := hd (b0.below a1)
  have HR := hd b1
  have HBW := hd (below_seq a0 a1)
  clear a0 b0 a1 b1
  generalize ((w.alloc (.cells (cellsOf .u64 a) 135)).alloc (.cells (#[.int .u64 0, .int .u64 0, .int .u64 0, .int .u64 0, .int .u64 0, .int .u64 0, .int .u64 0, .int .u64 0, .int .u64 0, .int .u64 0, .int .u64 0, .int .u64 0, .int .u64 0, .int .u64 0, .int .u64 0, .int .u64 0, .int .u64 0, .int .u64 0, .int .u64 0, .int .u64 0, .int .u64 0, .int .u64 0, .int .u64 0, .int .u64 0, .int .u64 0]) 135)) = w3 at HA HR HBW ⊢
  obtain ⟨q, hq⟩ : ∃ q, Aside0 (w.heap.size = q) := ⟨_, ⟨rfl⟩⟩
  have HQ := hd (show w.heap.size ≤ q by rw [hq.out]; exact Nat.le_refl _)
  rw [hq.out] at HA HR ⊢
  clear hq
  go_loopw [3, 4] (fun u3 u4 wr => ∃ i : Nat, i ≤ 25 ∧ u4 = .int .i64 i ∧ Aside0 (Arr .u64 135 q wr (upto (rhoF a) a i)) ∧ Aside0 (Arr .u64 135 (q + 1) wr (List.replicate 25 0)) ∧ Aside0 (Below w.heap.size w wr)) (fun _ u4 _ => 25 - (intOf u4).toNat)
  case atStart => exact ⟨0, by decide, rfl, ⟨by rw [upto_zero]; exact HA.out⟩, HR, HBW⟩
  case round =>
    obtain ⟨i, hi, rfl, HA, HR, HBW⟩ := hrel
    by_cases hlt : i < 25
    · have i1 : (i : Int) < 25 := by omega
      clear hi
      go_upto_region 4 with (fail)
      refine upR_start Keeps.any [9] [(0, 1), (1, 1), (2, 1), (3, 1), (4, 1), (5, 1), (6, 1), (7, 0), (8, 1), (9, 0)] (by kernel_rfl) rfl (by kernel_rfl) (by kernel_rfl) ?_
      have hdr := below_drew (Below.refl wr.heap.size wr)
      replace HA := hd (HA.out.below hdr)
      replace HR := hd (HR.out.below hdr)
      replace HBW := hd (below_seq HBW.out hdr)
      generalize wr.drew = w5 at hdr HA HR HBW ⊢
      clear hdr
      obtain ⟨x0, X0, hx0, fx0⟩ := HA.out.cell (i) (by rw [upto_length, ha.out]; exact hlt)

      have gx0 := Grow.cells hx0
      obtain ⟨n, HN, hn⟩ := (HT.out.below HBW.out).cell i hlt
      have gn := Grow.cells hn
      clear hn
      have X0' := X0.out
      rw [upto_old _ _ _ _ (Nat.le_refl i)] at X0'
      obtain ⟨y, HY⟩ : ∃ y, Aside0 (rotL x0 n = y) := ⟨_, ⟨rfl⟩⟩
      have HYF := hd (show y = rhoF a i by rw [← HY.out, rhoF, X0', HN.out])
      have HLX := hd (show x0 < 2 ^ 64 by rw [← X0']; exact hl.out.getD _)
      have HLN := hd (show n < 64 by rw [← HN.out]; exact kecT_lt i)
      clear X0'
      refine rseq_pure (i := 0) (N := some 7) (v := ?_) (a' := ?_) rfl rfl (by rfl) (fun _ _ _ h => h) ?_ ?_ ?_
      rotate_left 2
      · intro w' hg
        go_simp
        with_reducible rfl
      · simp only [Act.put, List.setIfInBounds_toArray, List.set_cons_zero, List.set_cons_succ, i64_w, i32_w]
        rfl
      refine rseq_pure (i := 1) (N := some 8) (v := ?_) (a' := ?_) rfl rfl (by rfl) (fun _ _ _ h => h) ?_ ?_ ?_
      rotate_left 2
      · intro w' hg
        go_simp
        with_reducible rfl
      · simp only [Act.put, List.setIfInBounds_toArray, List.set_cons_zero, List.set_cons_succ, i64_w, i32_w]
        rfl
      refine rseq_pure (i := 2) (N := some 9) (v := ?_) (a' := ?_) rfl rfl (by rfl) (fun _ _ _ h => h) ?_ ?_ ?_
      rotate_left 2
      · intro w' hg
        go_simp
        with_reducible rfl
      · simp only [Act.put, List.setIfInBounds_toArray, List.set_cons_zero, List.set_cons_succ, i64_w, i32_w]
        rfl
      refine rseq_pure (i := 3) (N := some 10) (v := ?_) (a' := ?_) rfl rfl (by rfl) (fun _ _ _ h => h) ?_ ?_ ?_
      rotate_left 2
      · intro w' hg
        go_simp
        with_reducible rfl
      · simp only [Act.put, List.setIfInBounds_toArray, List.set_cons_zero, List.set_cons_succ, i64_w, i32_w]
        rfl
      refine rseq_pure (i := 4) (N := some 11) (v := ?_) (a' := ?_) rfl rfl (by rfl) (fun _ _ _ h => h) ?_ ?_ ?_
      rotate_left 2
      · intro w' hg
        go_simp
        with_reducible rfl
      · simp only [Act.put, List.setIfInBounds_toArray, List.set_cons_zero, List.set_cons_succ, i64_w, i32_w]
        rfl
      refine rseq_pure (i := 5) (N := some 12) (v := ?_) (a' := ?_) rfl rfl (by rfl) (fun _ _ _ h => h) ?_ ?_ ?_
      rotate_left 2
      · intro w' hg
        go_simp
        with_reducible rfl
      · simp only [Act.put, List.setIfInBounds_toArray, List.set_cons_zero, List.set_cons_succ, i64_w, i32_w]
        rfl
      refine rseq_pure (i := 6) (N := some 13) (v := ?_) (a' := ?_) rfl rfl (by rfl) (fun _ _ _ h => h) ?_ ?_ ?_
      rotate_left 2
      · intro w' hg
        go_simp
        with_reducible rfl
      · simp only [Act.put, List.setIfInBounds_toArray, List.set_cons_zero, List.set_cons_succ, i64_w, i32_w]
        rfl
      refine rseq_call (i := 7) (N := some 14) rfl rfl Tryd.func133 (by kernel_rfl) rfl #[.int .u64 (x0 : Int), .int .i64 (n : Int)] (by rfl) rfl ?_ ?_
      · simp only [List.map_toArray, List.map_cons, List.map_nil]
        rfl
      refine (rotl64_calls HLX.out HLN.out).mono ?_
      rintro e w6 ⟨rfl, rfl⟩
      rw [HY.out]
      refine ⟨_, rfl, ⟨fun _ => Grow.refl _, trivial⟩, ?_⟩
      refine rseq_norm (a' := ?_) ?_ ?_
      rotate_left
      · show Act.put _ (some 14) _ = _
        simp only [Act.put, List.setIfInBounds_toArray, List.set_cons_zero, List.set_cons_succ, i64_w, i32_w]
        rfl
      refine rseq_pure (i := 8) (N := some 15) (v := ?_) (a' := ?_) rfl rfl (by rfl) (fun _ _ _ h => h) ?_ ?_ ?_
      rotate_left 2
      · intro w' hg
        go_simp
        with_reducible rfl
      · simp only [Act.put, List.setIfInBounds_toArray, List.set_cons_zero, List.set_cons_succ, i64_w, i32_w]
        rfl
      refine rseq_skip (i := 9) (w1 := ?_) rfl rfl (by rfl) ?_ ?_ ?_
      rotate_left
      · go_simp
        rfl
      · exact ⟨fun h => absurd (by decide) h, trivial⟩
      refine rseq_done ?_
      have ha2 := hd (HA.out.set i y)
      rw [upto_succ _ _ i y (by rw [ha.out]; exact hlt) HYF.out] at ha2
      replace HR := hd (HR.out.far (p := ⟨q, i, none⟩) (by simp) (.int .u64 (y : Int)))
      replace HBW := hd (HBW.out.setCell (p := ⟨q, i, none⟩) HQ.out (.int .u64 (y : Int)))
      generalize w5.setCell ⟨q, i, none⟩ (.int .u64 (y : Int)) = w6 at ha2 HR HBW ⊢
      clear hx0 fx0 gx0 gn HA
      go_wp2
      go_roundw
      case rel => exact ⟨i + 1, hlt, by go_num, ha2, HR, HBW⟩
      case measure => simp [intOf]; omega
    · have i1 : ¬ ((i : Int) < 25) := by omega
      obtain rfl : i = 25 := by omega
      clear hi hlt
      rw [upto_all _ _ 25 ha.out] at HA
      have HA2 := hd (show Arr .u64 135 q wr (rhoN a) from HA.out)
      go_wp2_with (first | ((with_reducible refine gate_dst (N := 17) rfl ?_); refine op_loadA 17 rfl rfl 135 22 25 _ rfl rfl HA2.out (cellsOf .u64 (rhoN a)) rfl Tryd.underlying135 (by kernel_rfl) (rhoN_length a) ?_) | ((with_reducible refine gate_store (t := 135) (p := 2) rfl ?_); refine op_storeA rfl rfl 135 25 _ _ rfl rfl (rhoN a) rfl HR.out (by kernel_rfl) (List.length_replicate) (rhoN_length a) ?_; intro w9 hz1 ho1))
      exact ret_cellA Tryd.results126 rfl hz1 rfl Tryd.underlying135 (by kernel_rfl) (rhoN_length a) ⟨rfl, below_only HBW.out ho1 (by have := HQ.out; omega)⟩

set_option maxHeartbeats 4000000 in
set_option maxRecDepth 100000 in
theorem pi_calls {a : List Nat} (ha_ : a.length = 25) {w : World} : Calls Tryd.prog 125 #[.agg (cellsOf .u64 a)] w fun e w' => e = .returned (.agg (cellsOf .u64 (piN a))) ∧ Below w.heap.size w w' := by
  have ha := hd ha_
  clear ha_
  go_enter Tryd.func125, Tryd.ntmps125
  go_upto_region 3 with (fail)
  have a0 := below_alloc (Below.refl _ w) (.cells (cellsOf .u64 a) 135)
  have b0 : Arr .u64 135 w.heap.size _ (a) := Arr.new w (cs := cellsOf .u64 a) rfl
  have a1 := below_alloc (Below.refl _ (w.alloc (.cells (cellsOf .u64 a) 135))) (.cells (#[.int .u64 0, .int .u64 0, .int .u64 0, .int .u64 0, .int .u64 0, .int .u64 0, .int .u64 0, .int .u64 0, .int .u64 0, .int .u64 0, .int .u64 0, .int .u64 0, .int .u64 0, .int .u64 0, .int .u64 0, .int .u64 0, .int .u64 0, .int .u64 0, .int .u64 0, .int .u64 0, .int .u64 0, .int .u64 0, .int .u64 0, .int .u64 0, .int .u64 0]) 135)
  have b1 : Arr .u64 135 (w.alloc (.cells (cellsOf .u64 a) 135)).heap.size _ (List.replicate 25 0) := Arr.new (w.alloc (.cells (cellsOf .u64 a) 135)) (cs := #[.int .u64 0, .int .u64 0, .int .u64 0, .int .u64 0, .int .u64 0, .int .u64 0, .int .u64 0, .int .u64 0, .int .u64 0, .int .u64 0, .int .u64 0, .int .u64 0, .int .u64 0, .int .u64 0, .int .u64 0, .int .u64 0, .int .u64 0, .int .u64 0, .int .u64 0, .int .u64 0, .int .u64 0, .int .u64 0, .int .u64 0, .int .u64 0, .int .u64 0]) rfl
  have a2 := below_alloc (Below.refl _ ((w.alloc (.cells (cellsOf .u64 a) 135)).alloc (.cells (#[.int .u64 0, .int .u64 0, .int .u64 0, .int .u64 0, .int .u64 0, .int .u64 0, .int .u64 0, .int .u64 0, .int .u64 0, .int .u64 0, .int .u64 0, .int .u64 0, .int .u64 0, .int .u64 0, .int .u64 0, .int .u64 0, .int .u64 0, .int .u64 0, .int .u64 0, .int .u64 0, .int .u64 0, .int .u64 0, .int .u64 0, .int .u64 0, .int .u64 0]) 135))) (.cells (#[.int .u64 0, .int .u64 0, .int .u64 0, .int .u64 0, .int .u64 0, .int .u64 0, .int .u64 0, .int .u64 0, .int .u64 0, .int .u64 0, .int .u64 0, .int .u64 0, .int .u64 0, .int .u64 0, .int .u64 0, .int .u64 0, .int .u64 0, .int .u64 0, .int .u64 0, .int .u64 0, .int .u64 0, .int .u64 0, .int .u64 0, .int .u64 0, .int .u64 0]) 135)
  have b2 : Arr .u64 135 ((w.alloc (.cells (cellsOf .u64 a) 135)).alloc (.cells (#[.int .u64 0, .int .u64 0, .int .u64 0, .int .u64 0, .int .u64 0, .int .u64 0, .int .u64 0, .int .u64 0, .int .u64 0, .int .u64 0, .int .u64 0, .int .u64 0, .int .u64 0, .int .u64 0, .int .u64 0, .int .u64 0, .int .u64 0, .int .u64 0, .int .u64 0, .int .u64 0, .int .u64 0, .int .u64 0, .int .u64 0, .int .u64 0, .int .u64 0]) 135)).heap.size _ (List.replicate 25 0) := Arr.new ((w.alloc (.cells (cellsOf .u64 a) 135)).alloc (.cells (#[.int .u64 0, .int .u64 0, .int .u64 0, .int .u64 0, .int .u64 0, .int .u64 0, .int .u64 0, .int .u64 0, .int .u64 0, .int .u64 0, .int .u64 0, .int .u64 0, .int .u64 0, .int .u64 0, .int .u64 0, .int .u64 0, .int .u64 0, .int .u64 0, .int .u64 0, .int .u64 0, .int .u64 0, .int .u64 0, .int .u64 0, .int .u64 0, .int .u64 0]) 135)) (cs := #[.int .u64 0, .int .u64 0, .int .u64 0, .int .u64 0, .int .u64 0, .int .u64 0, .int .u64 0, .int .u64 0, .int .u64 0, .int .u64 0, .int .u64 0, .int .u64 0, .int .u64 0, .int .u64 0, .int .u64 0, .int .u64 0, .int .u64 0, .int .u64 0, .int .u64 0, .int .u64 0, .int .u64 0, .int .u64 0, .int .u64 0, .int .u64 0, .int .u64 0]) rfl
  rw [World.size_alloc] at b1
  rw [World.size_alloc, World.size_alloc] at b2
  have HA := hd ((b0.below a1).below a2)
  have HR := hd (b1.below a2)
  have HO := hd b2
  have HBW := hd (below_seq (below_seq a0 a1) a2)
  clear a0 b0 a1 b1 a2 b2
  generalize (((w.alloc (.cells (cellsOf .u64 a) 135)).alloc (.cells (#[.int .u64 0, .int .u64 0, .int .u64 0, .int .u64 0, .int .u64 0, .int .u64 0, .int .u64 0, .int .u64 0, .int .u64 0, .int .u64 0, .int .u64 0, .int .u64 0, .int .u64 0, .int .u64 0, .int .u64 0, .int .u64 0, .int .u64 0, .int .u64 0, .int .u64 0, .int .u64 0, .int .u64 0, .int .u64 0, .int .u64 0, .int .u64 0, .int .u64 0]) 135)).alloc (.cells (#[.int .u64 0, .int .u64 0, .int .u64 0, .int .u64 0, .int .u64 0, .int .u64 0, .int .u64 0, .int .u64 0, .int .u64 0, .int .u64 0, .int .u64 0, .int .u64 0, .int .u64 0, .int .u64 0, .int .u64 0, .int .u64 0, .int .u64 0, .int .u64 0, .int .u64 0, .int .u64 0, .int .u64 0, .int .u64 0, .int .u64 0, .int .u64 0, .int .u64 0]) 135)) = w3 at HA HR HO HBW ⊢
  obtain ⟨q, hq⟩ : ∃ q, Aside0 (w.heap.size = q) := ⟨_, ⟨rfl⟩⟩
  have HQ := hd (show w.heap.size ≤ q by rw [hq.out]; exact Nat.le_refl _)
  rw [hq.out] at HA HR HO ⊢
  clear hq
  go_loopw [4, 5, 6, 7] (fun u4 u5 u6 u7 wr => ∃ i : Nat, i ≤ 25 ∧ u7 = .int .i64 i ∧ Aside0 (Arr .u64 135 q wr a) ∧ Aside0 (Arr .u64 135 (q + 1) wr (List.replicate 25 0)) ∧ Aside0 (Arr .u64 135 (q + 2) wr (upto (piF a) (List.replicate 25 0) i)) ∧ Aside0 (Below w.heap.size w wr)) (fun _ _ _ u7 _ => 25 - (intOf u7).toNat)
  case atStart => exact ⟨0, by decide, rfl, HA, HR, ⟨by rw [upto_zero]; exact HO.out⟩, HBW⟩
  case round =>
    obtain ⟨i, hi, rfl, HA, HR, HO, HBW⟩ := hrel
    by_cases hlt : i < 25
    · have i1 : (i : Int) < 25 := by omega
      obtain ⟨x, hx⟩ : ∃ x, Aside0 (i % 5 = x) := ⟨_, ⟨rfl⟩⟩
      obtain ⟨z, hz⟩ : ∃ z, Aside0 (i / 5 = z) := ⟨_, ⟨rfl⟩⟩
      obtain ⟨p, hp⟩ : ∃ p, Aside0 ((x + 3 * z) % 5 = p) := ⟨_, ⟨rfl⟩⟩
      obtain ⟨r, hr⟩ : ∃ r, Aside0 (p + 5 * x = r) := ⟨_, ⟨rfl⟩⟩
      have hx5 : x < 5 := by rw [← hx.out]; exact Nat.mod_lt _ (by decide)
      have hz5 : z < 5 := by have := hz.out; omega
      have hp5 : p < 5 := by rw [← hp.out]; exact Nat.mod_lt _ (by decide)
      have hr25 : r < 25 := by have := hr.out; omega
      have t1 : Int.tmod (i : Int) 5 = (x : Int) := by rw [← hx.out]; exact (Int.ofNat_tmod i 5).symm
      have t1' : (i : Int) % 5 = (x : Int) := by rw [← hx.out]; exact (Int.natCast_emod i 5).symm
      have t2 : Int.tdiv (i : Int) 5 = (z : Int) := by rw [← hz.out]; exact (Int.ofNat_tdiv i 5).symm
      have t2' : (i : Int) / 5 = (z : Int) := by rw [← hz.out]; exact (Int.natCast_ediv i 5).symm
      have t3 : Int.tmod ((x : Int) + 3 * (z : Int)) 5 = (p : Int) := by rw [← hp.out]; exact (Int.ofNat_tmod (x + 3 * z) 5).symm
      have t3' : ((x : Int) + 3 * (z : Int)) % 5 = (p : Int) := by rw [← hp.out]; exact (Int.natCast_emod (x + 3 * z) 5).symm
      have t4 : (p : Int) + 5 * (x : Int) = (r : Int) := by rw [← hr.out]; push_cast; rfl
      have jr : (r : Int) < 25 := by omega
      obtain ⟨y, HY, hy, fy⟩ := HA.out.cell r (by rw [ha.out]; exact hr25)
      obtain ⟨c, HC, hc, fc⟩ := HO.out.cell i (by rw [upto_length]; simpa using hlt)
      have HYF := hd (show y = piF a i by rw [← HY.out, piF, hx.out, hz.out, hp.out, hr.out])
      have hxi : (x : Int) < 5 := by omega
      have hzi : (z : Int) < 5 := by omega
      have hpi : (p : Int) < 5 := by omega
      clear hi hx5 hz5 hp5 hr25
      go_upto_region 7 with (fail)
      have ho2 := hd (HO.out.set i y)
      rw [upto_succ _ _ i y (by simpa using hlt) HYF.out] at ho2
      replace HA := hd (HA.out.far (p := ⟨q + 2, i, none⟩) (by simp) (.int .u64 (y : Int)))
      replace HR := hd (HR.out.far (p := ⟨q + 2, i, none⟩) (by simp) (.int .u64 (y : Int)))
      replace HBW := hd (HBW.out.setCell (p := ⟨q + 2, i, none⟩) (show w.heap.size ≤ q + 2 by have := HQ.out; omega) (.int .u64 (y : Int)))
      generalize wr.setCell ⟨q + 2, i, none⟩ (.int .u64 (y : Int)) = w6 at ho2 HA HR HBW ⊢
      clear hy fy hc fc HO t1 t1' t2 t2' t3 t3' t4 jr hxi hzi hpi
      go_wp2
      go_roundw
      case rel => exact ⟨i + 1, hlt, by go_num, HA, HR, ho2, HBW⟩
      case measure => simp [intOf]; omega
    · have i1 : ¬ ((i : Int) < 25) := by omega
      obtain rfl : i = 25 := by omega
      clear hi hlt
      rw [upto_all _ _ 25 (by simp)] at HO
      have HA2 := hd (show Arr .u64 135 (q + 2) wr (piN a) from HO.out)
      go_wp2_with (first | ((with_reducible refine gate_dst (N := 27) rfl ?_); refine op_loadA 27 rfl rfl 135 22 25 _ rfl rfl HA2.out (cellsOf .u64 (piN a)) rfl Tryd.underlying135 (by kernel_rfl) (piN_length a) ?_) | ((with_reducible refine gate_store (t := 135) (p := 2) rfl ?_); refine op_storeA rfl rfl 135 25 _ _ rfl rfl (piN a) rfl HR.out (by kernel_rfl) (List.length_replicate) (piN_length a) ?_; intro w9 hz1 ho1))
      exact ret_cellA Tryd.results125 rfl hz1 rfl Tryd.underlying135 (by kernel_rfl) (piN_length a) ⟨rfl, below_only HBW.out ho1 (by have := HQ.out; omega)⟩
theorem chi_ix : ∀ i, i < 25 → i % 5 < 5 ∧ i % 5 ≤ i ∧ (i % 5 + 2) % 5 < 5 ∧ (i % 5 + 1) % 5 < 5 ∧ i - i % 5 ≤ 20 ∧ i - i % 5 + (i % 5 + 2) % 5 < 25 ∧ i - i % 5 + (i % 5 + 1) % 5 < 25 := by decide
theorem wrap_sum {a b : Nat} (ha : a ≤ 1000000) (hb : b ≤ 1000000) : wrap64 ((a : Int) + (b : Int)) = (a : Int) + (b : Int) := IntWalk.wrap64_in _ (by omega)

set_option maxHeartbeats 4000000 in
set_option maxRecDepth 100000 in
theorem chi_calls {a : List Nat} (ha_ : a.length = 25) (hl_ : Lanes a) {w : World} : Calls Tryd.prog 124 #[.agg (cellsOf .u64 a)] w fun e w' => e = .returned (.agg (cellsOf .u64 (chiN a))) ∧ Below w.heap.size w w' := by
  have ha := hd ha_
  have hl := hd hl_
  clear ha_ hl_
  go_enter Tryd.func124, Tryd.ntmps124
  go_upto_region 1 with (fail)
  have a0 := below_alloc (Below.refl _ w) (.cells (cellsOf .u64 a) 135)
  have b0 : Arr .u64 135 w.heap.size _ (a) := Arr.new w (cs := cellsOf .u64 a) rfl
  have a1 := below_alloc (Below.refl _ (w.alloc (.cells (cellsOf .u64 a) 135))) (.cells (#[.int .u64 0, .int .u64 0, .int .u64 0, .int .u64 0, .int .u64 0, .int .u64 0, .int .u64 0, .int .u64 0, .int .u64 0, .int .u64 0, .int .u64 0, .int .u64 0, .int .u64 0, .int .u64 0, .int .u64 0, .int .u64 0, .int .u64 0, .int .u64 0, .int .u64 0, .int .u64 0, .int .u64 0, .int .u64 0, .int .u64 0, .int .u64 0, .int .u64 0]) 135)
  have b1 : Arr .u64 135 (w.alloc (.cells (cellsOf .u64 a) 135)).heap.size _ (List.replicate 25 0) := Arr.new (w.alloc (.cells (cellsOf .u64 a) 135)) (cs := #[.int .u64 0, .int .u64 0, .int .u64 0, .int .u64 0, .int .u64 0, .int .u64 0, .int .u64 0, .int .u64 0, .int .u64 0, .int .u64 0, .int .u64 0, .int .u64 0, .int .u64 0, .int .u64 0, .int .u64 0, .int .u64 0, .int .u64 0, .int .u64 0, .int .u64 0, .int .u64 0, .int .u64 0, .int .u64 0, .int .u64 0, .int .u64 0, .int .u64 0]) rfl
  rw [World.size_alloc] at b1
  have HA := hd (b0.below a1)
  have HR := hd b1
  have HBW := hd (below_seq a0 a1)
  clear a0 b0 a1 b1
  generalize ((w.alloc (.cells (cellsOf .u64 a) 135)).alloc (.cells (#[.int .u64 0, .int .u64 0, .int .u64 0, .int .u64 0, .int .u64 0, .int .u64 0, .int .u64 0, .int .u64 0, .int .u64 0, .int .u64 0, .int .u64 0, .int .u64 0, .int .u64 0, .int .u64 0, .int .u64 0, .int .u64 0, .int .u64 0, .int .u64 0, .int .u64 0, .int .u64 0, .int .u64 0, .int .u64 0, .int .u64 0, .int .u64 0, .int .u64 0]) 135)) = w3 at HA HR HBW ⊢
  obtain ⟨q, hq⟩ : ∃ q, Aside0 (w.heap.size = q) := ⟨_, ⟨rfl⟩⟩
  have HQ := hd (show w.heap.size ≤ q by rw [hq.out]; exact Nat.le_refl _)
  rw [hq.out] at HA HR ⊢
  clear hq
  have hR0 := hd HR.out.lt
  have hz0 := HA.out
  go_upto_region 2 with (first | ((with_reducible refine gate_dst (N := 7) rfl ?_); refine op_loadA 7 rfl rfl 135 22 25 _ rfl rfl hz0 (cellsOf .u64 (a)) rfl Tryd.underlying135 (by kernel_rfl) (ha.out) ?_) | ((with_reducible refine gate_store (t := 135) (p := 3) rfl ?_); refine op_storeA rfl rfl 135 25 _ _ rfl rfl (a) rfl (Arr.new w3 (l := List.replicate 25 0) (cs := #[.int .u64 0, .int .u64 0, .int .u64 0, .int .u64 0, .int .u64 0, .int .u64 0, .int .u64 0, .int .u64 0, .int .u64 0, .int .u64 0, .int .u64 0, .int .u64 0, .int .u64 0, .int .u64 0, .int .u64 0, .int .u64 0, .int .u64 0, .int .u64 0, .int .u64 0, .int .u64 0, .int .u64 0, .int .u64 0, .int .u64 0, .int .u64 0, .int .u64 0]) rfl) (by kernel_rfl) (List.length_replicate) (ha.out) ?_; intro w4 hz4 ho4))
  have hal := below_alloc (Below.refl w3.heap.size w3) (.cells #[.int .u64 0, .int .u64 0, .int .u64 0, .int .u64 0, .int .u64 0, .int .u64 0, .int .u64 0, .int .u64 0, .int .u64 0, .int .u64 0, .int .u64 0, .int .u64 0, .int .u64 0, .int .u64 0, .int .u64 0, .int .u64 0, .int .u64 0, .int .u64 0, .int .u64 0, .int .u64 0, .int .u64 0, .int .u64 0, .int .u64 0, .int .u64 0, .int .u64 0] 135)
  have hsz := HBW.out.size
  have HG := hd (show w.heap.size ≤ w3.heap.size ∧ q + 1 < w3.heap.size from ⟨hsz, hR0.out⟩)
  replace HA := hd ((HA.out.below hal).only ho4 (by have := HG.out.2; omega))
  replace HR := hd ((HR.out.below hal).only ho4 (by have := HG.out.2; omega))
  have HO := hd hz4
  replace HBW := hd (below_only (below_seq HBW.out hal) ho4 HG.out.1)
  clear hz0 hal hsz hR0 ho4 hz4
  generalize w3.heap.size = g at HG HO ⊢
  go_upto_region 3 with (fail)
  go_loopw [4, 5, 6, 8] (fun u4 u5 u6 u8 wr => ∃ i : Nat, i ≤ 25 ∧ u8 = .int .i64 i ∧ Aside0 (Arr .u64 135 q wr a) ∧ Aside0 (Arr .u64 135 (q + 1) wr (List.replicate 25 0)) ∧ Aside0 (Arr .u64 135 g wr (upto (chiF a) a i)) ∧ Aside0 (Below w.heap.size w wr)) (fun _ _ _ u8 _ => 25 - (intOf u8).toNat)
  case atStart => exact ⟨0, by decide, rfl, HA, HR, ⟨by rw [upto_zero]; exact HO.out⟩, HBW⟩
  case round =>
    obtain ⟨i, hi, rfl, HA, HR, HO, HBW⟩ := hrel
    by_cases hlt : i < 25
    · have i1 : (i : Int) < 25 := by omega
      obtain ⟨x, hx⟩ : ∃ x, Aside0 (i % 5 = x) := ⟨_, ⟨rfl⟩⟩
      obtain ⟨row, hrow⟩ : ∃ row, Aside0 (i - x = row) := ⟨_, ⟨rfl⟩⟩
      obtain ⟨p, hp⟩ : ∃ p, Aside0 ((x + 2) % 5 = p) := ⟨_, ⟨rfl⟩⟩
      obtain ⟨r, hr⟩ : ∃ r, Aside0 ((x + 1) % 5 = r) := ⟨_, ⟨rfl⟩⟩
      obtain ⟨p2, hp2⟩ : ∃ p2, Aside0 (row + p = p2) := ⟨_, ⟨rfl⟩⟩
      obtain ⟨r2, hr2⟩ : ∃ r2, Aside0 (row + r = r2) := ⟨_, ⟨rfl⟩⟩
      obtain ⟨HX5, HXI, HP5, HR5, HR20, HP25, HR25⟩ : Aside0 (x < 5) ∧ Aside0 (x ≤ i) ∧ Aside0 (p < 5) ∧ Aside0 (r < 5) ∧ Aside0 (row ≤ 20) ∧ Aside0 (p2 < 25) ∧ Aside0 (r2 < 25) := by
        obtain ⟨h1, h2, h3, h4, h5, h6, h7⟩ := chi_ix i hlt
        rw [hx.out] at h1 h2 h3 h4 h5 h6 h7
        rw [hrow.out] at h5 h6 h7
        rw [hp.out] at h3 h6
        rw [hr.out] at h4 h7
        exact ⟨⟨h1⟩, ⟨h2⟩, ⟨h3⟩, ⟨h4⟩, ⟨h5⟩, ⟨by rw [← hp2.out]; exact h6⟩, ⟨by rw [← hr2.out]; exact h7⟩⟩
      have hp25 := HP25.out
      have hr25 := HR25.out
      have t1 : Int.tmod (i : Int) 5 = (x : Int) := by rw [← hx.out]; exact (Int.ofNat_tmod i 5).symm
      have t1' : (i : Int) % 5 = (x : Int) := by rw [← hx.out]; exact (Int.natCast_emod i 5).symm
      have t5 : (i : Int) - (x : Int) = (row : Int) := by rw [← hrow.out]; exact (Int.natCast_sub HXI.out).symm
      have u1 : wrap64 ((x : Int) + 2) = (x : Int) + 2 := wrap_sum (b := 2) (Nat.le_of_lt (Nat.lt_of_lt_of_le HX5.out (by decide))) (by decide)
      have u2 : wrap64 ((x : Int) + 1) = (x : Int) + 1 := wrap_sum (b := 1) (Nat.le_of_lt (Nat.lt_of_lt_of_le HX5.out (by decide))) (by decide)
      have t2 : Int.tmod ((x : Int) + 2) 5 = (p : Int) := by rw [← hp.out]; exact (Int.ofNat_tmod (x + 2) 5).symm
      have t3 : Int.tmod ((x : Int) + 1) 5 = (r : Int) := by rw [← hr.out]; exact (Int.ofNat_tmod (x + 1) 5).symm
      have u3 : wrap64 ((row : Int) + (p : Int)) = (p2 : Int) := (wrap_sum (Nat.le_trans HR20.out (by decide)) (Nat.le_trans (Nat.le_of_lt HP5.out) (by decide))).trans (by rw [← hp2.out]; push_cast; rfl)
      have u4' : wrap64 ((row : Int) + (r : Int)) = (r2 : Int) := (wrap_sum (Nat.le_trans HR20.out (by decide)) (Nat.le_trans (Nat.le_of_lt HR5.out) (by decide))).trans (by rw [← hr2.out]; push_cast; rfl)
      have jp : (p2 : Int) < 25 := Int.ofNat_lt.2 hp25
      have jr : (r2 : Int) < 25 := Int.ofNat_lt.2 hr25
      have hxx : (x : Int) ≤ i := Int.ofNat_le.2 HXI.out
      have hxy : (x : Int) < 5 := Int.ofNat_lt.2 HX5.out
      clear hi
      go_upto_region 6 with (fail)
      refine upR_start Keeps.any [20] [(0, 1), (1, 1), (2, 1), (3, 1), (4, 1), (5, 1), (6, 1), (7, 1), (8, 1), (9, 1), (10, 1), (11, 1), (12, 1), (13, 1), (14, 1), (15, 1), (16, 1), (17, 1), (18, 1), (19, 1), (20, 0)] (by kernel_rfl) rfl (by kernel_rfl) (by kernel_rfl) ?_
      have hdr := below_drew (Below.refl wr.heap.size wr)
      replace HA := hd (HA.out.below hdr)
      replace HR := hd (HR.out.below hdr)
      replace HO := hd (HO.out.below hdr)
      replace HBW := hd (below_seq HBW.out hdr)
      generalize wr.drew = w5 at hdr HA HR HO HBW ⊢
      clear hdr
      obtain ⟨x0, X0, hx0, fx0⟩ := HO.out.cell (i) (by rw [upto_length, ha.out]; exact hlt)

      have gx0 := Grow.cells hx0
      obtain ⟨y0, Y0, hy0, fy0⟩ := HA.out.cell (p2) (by rw [ha.out]; exact hp25)
      have gy0 := Grow.cells hy0
      clear hy0 fy0
      obtain ⟨y1, Y1, hy1, fy1⟩ := HA.out.cell (r2) (by rw [ha.out]; exact hr25)
      have gy1 := Grow.cells hy1
      clear hy1 fy1
      have X0' := X0.out
      rw [upto_old _ _ _ _ (Nat.le_refl i)] at X0'
      obtain ⟨y, HY⟩ : ∃ y, Aside0 (chiF a i = y) := ⟨_, ⟨rfl⟩⟩
      have lx0 : x0 < 2 ^ 64 := by rw [← X0']; exact hl.out.getD _
      have ly0 : y0 < 2 ^ 64 := by rw [← Y0.out]; exact hl.out.getD _
      have ly1 : y1 < 2 ^ 64 := by rw [← Y1.out]; exact hl.out.getD _
      obtain ⟨s, HS⟩ : ∃ s, Aside0 (y0 - (y0 &&& y1) = s) := ⟨_, ⟨rfl⟩⟩
      have e1 : bits .andNot .u64 (y0 : Int) (y1 : Int) = (s : Int) := by rw [← HS.out]; exact andNot_u64 ly0 ly1
      have e2 : bits .xor .u64 (x0 : Int) (s : Int) = (y : Int) := by
        rw [xor_u64 lx0 (by rw [← HS.out]; exact Nat.lt_of_le_of_lt (Nat.sub_le _ _) ly0), ← HY.out, chiF, farF, nearF, hx.out, hrow.out, hp.out, hr.out, hp2.out, hr2.out, X0', Y0.out, Y1.out, HS.out]
      clear X0' lx0 ly0 ly1
      refine rseq_pure (i := 0) (N := some 17) (v := ?_) (a' := ?_) rfl rfl (by rfl) (fun _ _ _ h => h) ?_ ?_ ?_
      rotate_left 2
      · intro w' hg
        go_simp
        with_reducible rfl
      · simp only [Act.put, List.setIfInBounds_toArray, List.set_cons_zero, List.set_cons_succ, i64_w, i32_w]
        rfl
      refine rseq_pure (i := 1) (N := some 18) (v := ?_) (a' := ?_) rfl rfl (by rfl) (fun _ _ _ h => h) ?_ ?_ ?_
      rotate_left 2
      · intro w' hg
        go_simp
        with_reducible rfl
      · simp only [Act.put, List.setIfInBounds_toArray, List.set_cons_zero, List.set_cons_succ, i64_w, i32_w]
        rfl
      refine rseq_pure (i := 2) (N := some 19) (v := ?_) (a' := ?_) rfl rfl (by rfl) (fun _ _ _ h => h) ?_ ?_ ?_
      rotate_left 2
      · intro w' hg
        go_simp
        with_reducible rfl
      · simp only [Act.put, List.setIfInBounds_toArray, List.set_cons_zero, List.set_cons_succ, i64_w, i32_w]
        rfl
      refine rseq_pure (i := 3) (N := some 20) (v := ?_) (a' := ?_) rfl rfl (by rfl) (fun _ _ _ h => h) ?_ ?_ ?_
      rotate_left 2
      · intro w' hg
        go_simp
        with_reducible rfl
      · simp only [Act.put, List.setIfInBounds_toArray, List.set_cons_zero, List.set_cons_succ, i64_w, i32_w]
        rfl
      refine rseq_pure (i := 4) (N := some 21) (v := ?_) (a' := ?_) rfl rfl (by rfl) (fun _ _ _ h => h) ?_ ?_ ?_
      rotate_left 2
      · intro w' hg
        go_simp
        with_reducible rfl
      · simp only [Act.put, List.setIfInBounds_toArray, List.set_cons_zero, List.set_cons_succ, i64_w, i32_w]
        rfl
      refine rseq_pure (i := 5) (N := some 22) (v := ?_) (a' := ?_) rfl rfl (by rfl) (fun _ _ _ h => h) ?_ ?_ ?_
      rotate_left 2
      · intro w' hg
        go_simp
        with_reducible rfl
      · simp only [Act.put, List.setIfInBounds_toArray, List.set_cons_zero, List.set_cons_succ, i64_w, i32_w]
        rfl
      refine rseq_pure (i := 6) (N := some 23) (v := ?_) (a' := ?_) rfl rfl (by rfl) (fun _ _ _ h => h) ?_ ?_ ?_
      rotate_left 2
      · intro w' hg
        go_simp
        with_reducible rfl
      · simp only [Act.put, List.setIfInBounds_toArray, List.set_cons_zero, List.set_cons_succ, i64_w, i32_w]
        rfl
      refine rseq_pure (i := 7) (N := some 24) (v := ?_) (a' := ?_) rfl rfl (by rfl) (fun _ _ _ h => h) ?_ ?_ ?_
      rotate_left 2
      · intro w' hg
        go_simp
        with_reducible rfl
      · simp only [Act.put, List.setIfInBounds_toArray, List.set_cons_zero, List.set_cons_succ, i64_w, i32_w]
        rfl
      refine rseq_pure (i := 8) (N := some 25) (v := ?_) (a' := ?_) rfl rfl (by rfl) (fun _ _ _ h => h) ?_ ?_ ?_
      rotate_left 2
      · intro w' hg
        go_simp
        with_reducible rfl
      · simp only [Act.put, List.setIfInBounds_toArray, List.set_cons_zero, List.set_cons_succ, i64_w, i32_w]
        rfl
      refine rseq_pure (i := 9) (N := some 26) (v := ?_) (a' := ?_) rfl rfl (by rfl) (fun _ _ _ h => h) ?_ ?_ ?_
      rotate_left 2
      · intro w' hg
        go_simp
        with_reducible rfl
      · simp only [Act.put, List.setIfInBounds_toArray, List.set_cons_zero, List.set_cons_succ, i64_w, i32_w]
        rfl
      refine rseq_pure (i := 10) (N := some 27) (v := ?_) (a' := ?_) rfl rfl (by rfl) (fun _ _ _ h => h) ?_ ?_ ?_
      rotate_left 2
      · intro w' hg
        go_simp
        with_reducible rfl
      · simp only [Act.put, List.setIfInBounds_toArray, List.set_cons_zero, List.set_cons_succ, i64_w, i32_w]
        rfl
      refine rseq_pure (i := 11) (N := some 28) (v := ?_) (a' := ?_) rfl rfl (by rfl) (fun _ _ _ h => h) ?_ ?_ ?_
      rotate_left 2
      · intro w' hg
        go_simp
        with_reducible rfl
      · simp only [Act.put, List.setIfInBounds_toArray, List.set_cons_zero, List.set_cons_succ, i64_w, i32_w]
        rfl
      refine rseq_pure (i := 12) (N := some 29) (v := ?_) (a' := ?_) rfl rfl (by rfl) (fun _ _ _ h => h) ?_ ?_ ?_
      rotate_left 2
      · intro w' hg
        go_simp
        with_reducible rfl
      · simp only [Act.put, List.setIfInBounds_toArray, List.set_cons_zero, List.set_cons_succ, i64_w, i32_w]
        rfl
      refine rseq_pure (i := 13) (N := some 30) (v := ?_) (a' := ?_) rfl rfl (by rfl) (fun _ _ _ h => h) ?_ ?_ ?_
      rotate_left 2
      · intro w' hg
        go_simp
        with_reducible rfl
      · simp only [Act.put, List.setIfInBounds_toArray, List.set_cons_zero, List.set_cons_succ, i64_w, i32_w]
        rfl
      refine rseq_pure (i := 14) (N := some 31) (v := ?_) (a' := ?_) rfl rfl (by rfl) (fun _ _ _ h => h) ?_ ?_ ?_
      rotate_left 2
      · intro w' hg
        go_simp
        with_reducible rfl
      · simp only [Act.put, List.setIfInBounds_toArray, List.set_cons_zero, List.set_cons_succ, i64_w, i32_w]
        rfl
      refine rseq_pure (i := 15) (N := some 32) (v := ?_) (a' := ?_) rfl rfl (by rfl) (fun _ _ _ h => h) ?_ ?_ ?_
      rotate_left 2
      · intro w' hg
        go_simp
        with_reducible rfl
      · simp only [Act.put, List.setIfInBounds_toArray, List.set_cons_zero, List.set_cons_succ, i64_w, i32_w]
        rfl
      refine rseq_pure (i := 16) (N := some 33) (v := ?_) (a' := ?_) rfl rfl (by rfl) (fun _ _ _ h => h) ?_ ?_ ?_
      rotate_left 2
      · intro w' hg
        go_simp
        with_reducible rfl
      · simp only [Act.put, List.setIfInBounds_toArray, List.set_cons_zero, List.set_cons_succ, i64_w, i32_w]
        rfl
      refine rseq_pure (i := 17) (N := some 34) (v := ?_) (a' := ?_) rfl rfl (by rfl) (fun _ _ _ h => h) ?_ ?_ ?_
      rotate_left 2
      · intro w' hg
        go_simp
        with_reducible rfl
      · simp only [Act.put, List.setIfInBounds_toArray, List.set_cons_zero, List.set_cons_succ, i64_w, i32_w]
        rfl
      refine rseq_pure (i := 18) (N := some 35) (v := ?_) (a' := ?_) rfl rfl (by rfl) (fun _ _ _ h => h) ?_ ?_ ?_
      rotate_left 2
      · intro w' hg
        go_simp
        with_reducible rfl
      · simp only [Act.put, List.setIfInBounds_toArray, List.set_cons_zero, List.set_cons_succ, i64_w, i32_w]
        rfl
      refine rseq_pure (i := 19) (N := some 36) (v := ?_) (a' := ?_) rfl rfl (by rfl) (fun _ _ _ h => h) ?_ ?_ ?_
      rotate_left 2
      · intro w' hg
        go_simp
        with_reducible rfl
      · simp only [Act.put, List.setIfInBounds_toArray, List.set_cons_zero, List.set_cons_succ, i64_w, i32_w]
        rfl
      refine rseq_skip (i := 20) (w1 := ?_) rfl rfl (by rfl) ?_ ?_ ?_
      rotate_left
      · go_simp
        rfl
      · exact ⟨fun h => absurd (by decide) h, trivial⟩
      refine rseq_done ?_
      have ho2 := hd (HO.out.set i y)
      rw [upto_succ _ _ i y (by rw [ha.out]; exact hlt) HY.out.symm] at ho2
      replace HA := hd (HA.out.far (p := ⟨g, i, none⟩) (show q ≠ g by have := HG.out.2; omega) (.int .u64 (y : Int)))
      replace HR := hd (HR.out.far (p := ⟨g, i, none⟩) (show q + 1 ≠ g by have := HG.out.2; omega) (.int .u64 (y : Int)))
      replace HBW := hd (HBW.out.setCell (p := ⟨g, i, none⟩) HG.out.1 (.int .u64 (y : Int)))
      generalize w5.setCell ⟨g, i, none⟩ (.int .u64 (y : Int)) = w6 at ho2 HA HR HBW ⊢
      clear hx0 fx0 gx0 gy0 gy1 e1 e2 HO t1 t1' t2 t3 t5 u1 u2 u3 u4' jp jr hxx hxy hp25 hr25
      go_wp2
      go_roundw
      case rel => exact ⟨i + 1, hlt, by go_num, HA, HR, ho2, HBW⟩
      case measure => simp [intOf]; omega
    · have i1 : ¬ ((i : Int) < 25) := by omega
      obtain rfl : i = 25 := by omega
      clear hi hlt
      rw [upto_all _ _ 25 ha.out] at HO
      have HA2 := hd (show Arr .u64 135 g wr (chiN a) from HO.out)
      go_wp2_with (first | ((with_reducible refine gate_dst (N := 38) rfl ?_); refine op_loadA 38 rfl rfl 135 22 25 _ rfl rfl HA2.out (cellsOf .u64 (chiN a)) rfl Tryd.underlying135 (by kernel_rfl) (chiN_length a) ?_) | ((with_reducible refine gate_store (t := 135) (p := 2) rfl ?_); refine op_storeA rfl rfl 135 25 _ _ rfl rfl (chiN a) rfl HR.out (by kernel_rfl) (List.length_replicate) (chiN_length a) ?_; intro w9 hz1 ho1))
      exact ret_cellA Tryd.results124 rfl hz1 rfl Tryd.underlying135 (by kernel_rfl) (chiN_length a) ⟨rfl, below_only HBW.out ho1 (by have := HQ.out; omega)⟩

set_option maxHeartbeats 4000000 in
set_option maxRecDepth 100000 in
theorem iota_calls {a : List Nat} (ha_ : a.length = 25) (hl_ : Lanes a) {r : Nat} (hr : r < 24) {w : World} (ht_ : ConstsAt w) : Calls Tryd.prog 123 #[.agg (cellsOf .u64 a), .int .i64 (r : Int)] w fun e w' => e = .returned (.agg (cellsOf .u64 (iotaN a r))) ∧ Below w.heap.size w w' := by
  have ha := hd ha_
  have hl := hd hl_
  have HT := hd ht_
  have r1 : (r : Int) < 24 := by omega
  clear ha_ hl_ ht_
  go_enter Tryd.func123, Tryd.ntmps123
  go_upto_region 1 with (fail)
  have a0 := below_alloc (Below.refl _ w) (.cells (cellsOf .u64 a) 135)
  have b0 : Arr .u64 135 w.heap.size _ (a) := Arr.new w (cs := cellsOf .u64 a) rfl
  have a1 := below_alloc (Below.refl _ (w.alloc (.cells (cellsOf .u64 a) 135))) (.cells (#[.int .u64 0, .int .u64 0, .int .u64 0, .int .u64 0, .int .u64 0, .int .u64 0, .int .u64 0, .int .u64 0, .int .u64 0, .int .u64 0, .int .u64 0, .int .u64 0, .int .u64 0, .int .u64 0, .int .u64 0, .int .u64 0, .int .u64 0, .int .u64 0, .int .u64 0, .int .u64 0, .int .u64 0, .int .u64 0, .int .u64 0, .int .u64 0, .int .u64 0]) 135)
  have b1 : Arr .u64 135 (w.alloc (.cells (cellsOf .u64 a) 135)).heap.size _ (List.replicate 25 0) := Arr.new (w.alloc (.cells (cellsOf .u64 a) 135)) (cs := #[.int .u64 0, .int .u64 0, .int .u64 0, .int .u64 0, .int .u64 0, .int .u64 0, .int .u64 0, .int .u64 0, .int .u64 0, .int .u64 0, .int .u64 0, .int .u64 0, .int .u64 0, .int .u64 0, .int .u64 0, .int .u64 0, .int .u64 0, .int .u64 0, .int .u64 0, .int .u64 0, .int .u64 0, .int .u64 0, .int .u64 0, .int .u64 0, .int .u64 0]) rfl
  rw [World.size_alloc] at b1
  have HA := hd (b0.below a1)
  have HR := hd b1
  have HBW := hd (below_seq a0 a1)
  clear a0 b0 a1 b1
  generalize ((w.alloc (.cells (cellsOf .u64 a) 135)).alloc (.cells (#[.int .u64 0, .int .u64 0, .int .u64 0, .int .u64 0, .int .u64 0, .int .u64 0, .int .u64 0, .int .u64 0, .int .u64 0, .int .u64 0, .int .u64 0, .int .u64 0, .int .u64 0, .int .u64 0, .int .u64 0, .int .u64 0, .int .u64 0, .int .u64 0, .int .u64 0, .int .u64 0, .int .u64 0, .int .u64 0, .int .u64 0, .int .u64 0, .int .u64 0]) 135)) = w3 at HA HR HBW ⊢
  obtain ⟨q, hq⟩ : ∃ q, Aside0 (w.heap.size = q) := ⟨_, ⟨rfl⟩⟩
  have HQ := hd (show w.heap.size ≤ q by rw [hq.out]; exact Nat.le_refl _)
  rw [hq.out] at HA HR ⊢
  clear hq
  go_upto_region 2 with (fail)
  refine upR_start Keeps.any [7] [(0, 1), (1, 1), (2, 1), (3, 1), (4, 1), (5, 1), (6, 1), (7, 0)] (by kernel_rfl) rfl (by kernel_rfl) (by kernel_rfl) ?_
  have hdr := below_drew (Below.refl w3.heap.size w3)
  replace HA := hd (HA.out.below hdr)
  replace HR := hd (HR.out.below hdr)
  replace HBW := hd (below_seq HBW.out hdr)
  generalize w3.drew = w5 at hdr HA HR HBW ⊢
  clear hdr
  obtain ⟨x0, X0, hx0, fx0⟩ := HA.out.cell (0) (by rw [ha.out]; decide)

  have gx0 := Grow.cells hx0
  obtain ⟨n, HN, hn⟩ := (HT.out.below HBW.out).cell r hr
  have gn := Grow.cells hn
  clear hn
  obtain ⟨y, HY⟩ : ∃ y, Aside0 (x0 ^^^ n = y) := ⟨_, ⟨rfl⟩⟩
  have e1 : bits .xor .u64 (x0 : Int) (n : Int) = (y : Int) := by rw [← HY.out]; exact xor_u64 (by rw [← X0.out]; exact hl.out.getD _) (by rw [← HN.out]; exact kecC_lt r)
  refine rseq_pure (i := 0) (N := some 11) (v := ?_) (a' := ?_) rfl rfl (by rfl) (fun _ _ _ h => h) ?_ ?_ ?_
  rotate_left 2
  · intro w' hg
    go_simp
    with_reducible rfl
  · simp only [Act.put, List.setIfInBounds_toArray, List.set_cons_zero, List.set_cons_succ, i64_w, i32_w]
    rfl
  refine rseq_pure (i := 1) (N := some 12) (v := ?_) (a' := ?_) rfl rfl (by rfl) (fun _ _ _ h => h) ?_ ?_ ?_
  rotate_left 2
  · intro w' hg
    go_simp
    with_reducible rfl
  · simp only [Act.put, List.setIfInBounds_toArray, List.set_cons_zero, List.set_cons_succ, i64_w, i32_w]
    rfl
  refine rseq_pure (i := 2) (N := some 13) (v := ?_) (a' := ?_) rfl rfl (by rfl) (fun _ _ _ h => h) ?_ ?_ ?_
  rotate_left 2
  · intro w' hg
    go_simp
    with_reducible rfl
  · simp only [Act.put, List.setIfInBounds_toArray, List.set_cons_zero, List.set_cons_succ, i64_w, i32_w]
    rfl
  refine rseq_pure (i := 3) (N := some 14) (v := ?_) (a' := ?_) rfl rfl (by rfl) (fun _ _ _ h => h) ?_ ?_ ?_
  rotate_left 2
  · intro w' hg
    go_simp
    with_reducible rfl
  · simp only [Act.put, List.setIfInBounds_toArray, List.set_cons_zero, List.set_cons_succ, i64_w, i32_w]
    rfl
  refine rseq_pure (i := 4) (N := some 15) (v := ?_) (a' := ?_) rfl rfl (by rfl) (fun _ _ _ h => h) ?_ ?_ ?_
  rotate_left 2
  · intro w' hg
    go_simp
    with_reducible rfl
  · simp only [Act.put, List.setIfInBounds_toArray, List.set_cons_zero, List.set_cons_succ, i64_w, i32_w]
    rfl
  refine rseq_pure (i := 5) (N := some 16) (v := ?_) (a' := ?_) rfl rfl (by rfl) (fun _ _ _ h => h) ?_ ?_ ?_
  rotate_left 2
  · intro w' hg
    go_simp
    with_reducible rfl
  · simp only [Act.put, List.setIfInBounds_toArray, List.set_cons_zero, List.set_cons_succ, i64_w, i32_w]
    rfl
  refine rseq_pure (i := 6) (N := some 17) (v := ?_) (a' := ?_) rfl rfl (by rfl) (fun _ _ _ h => h) ?_ ?_ ?_
  rotate_left 2
  · intro w' hg
    go_simp
    with_reducible rfl
  · simp only [Act.put, List.setIfInBounds_toArray, List.set_cons_zero, List.set_cons_succ, i64_w, i32_w]
    rfl
  refine rseq_skip (i := 7) (w1 := ?_) rfl rfl (by rfl) ?_ ?_ ?_
  rotate_left
  · go_simp
    rfl
  · exact ⟨fun h => absurd (by decide) h, trivial⟩
  refine rseq_done ?_
  have ha2 := hd (HA.out.set 0 y)
  have hli : (iotaN a r).length = 25 := by rw [iotaN_length]; exact ha.out
  have HA2 := hd (show Arr .u64 135 q _ (iotaN a r) from (show a.set 0 y = iotaN a r by rw [iotaN, X0.out, HN.out, HY.out]) ▸ ha2.out)
  replace HR := hd (HR.out.far (p := ⟨q, 0, none⟩) (by simp) (.int .u64 (y : Int)))
  replace HBW := hd (HBW.out.setCell (p := ⟨q, 0, none⟩) HQ.out (.int .u64 (y : Int)))
  generalize w5.setCell ⟨q, 0, none⟩ (.int .u64 (y : Int)) = w6 at ha2 HA2 HR HBW ⊢
  clear hx0 fx0 gx0 gn e1 HA ha2
  go_wp2_with (first | ((with_reducible refine gate_dst (N := 18) rfl ?_); refine op_loadA 18 rfl rfl 135 22 25 _ rfl rfl HA2.out (cellsOf .u64 (iotaN a r)) rfl Tryd.underlying135 (by kernel_rfl) (hli) ?_) | ((with_reducible refine gate_store (t := 135) (p := 4) rfl ?_); refine op_storeA rfl rfl 135 25 _ _ rfl rfl (iotaN a r) rfl HR.out (by kernel_rfl) (List.length_replicate) (hli) ?_; intro w9 hz1 ho1))
  exact ret_cellA Tryd.results123 rfl hz1 rfl Tryd.underlying135 (by kernel_rfl) (hli) ⟨rfl, below_only HBW.out ho1 (by have := HQ.out; omega)⟩
end Go.Proofs.YtlgdplodglchaaaDoor
