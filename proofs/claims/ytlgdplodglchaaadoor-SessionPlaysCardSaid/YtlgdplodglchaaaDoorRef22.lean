/- The walks through redanref22.Rekey, Expired, Seal, Open. -/
import Derived.Test.YtlgdplodglchaaaDoorRef16
import Derived.Test.YtlgdplodglchaaaDoorRef20
import Derived.Test.YtlgdplodglchaaaDoorGSesG
import Derived.Test.YtlgdplodglchaaaDoorStruct
set_option linter.unusedVariables false
set_option linter.unusedSimpArgs false
namespace Go.Proofs.YtlgdplodglchaaaDoor
open Go.RowKit Go.Proofs.YtlgdplodglchaaaDoorW.PrintWords Go.Proofs.YtlgdplodglchaaaDoorW.PrintLast Go.Proofs.YtlgdplodglchaaaDoorW.PrintMore
def refS (k1 : Sl) (N1 : Nat) (k2 : Sl) (N2 born sent : Nat) (ca : Sl) : Array Value := #[.slice k1.A k1.n k1.c, .int .u64 (N1 : Int), .slice k2.A k2.n k2.c, .int .u64 (N2 : Int), .int .u64 (born : Int), .int .u64 (sent : Int), .slice ca.A ca.n ca.c]
theorem useC_err {key b : List Nat} {N : Nat} {r : List Nat × Nat} (h : (useC key N b r).2.1 ≠ 0) : (useC key N b r).2.2 = N := by
  unfold useC at h ⊢
  repeat' split at h
  all_goals simp_all
section
variable {w : World} {r : Rul} {k1 k2 ca : Sl} {N1 N2 born sent now n : Nat} {D : Option Addr} {nd cd : Nat} {key1 key2 b l : List Nat}
set_option maxRecDepth 100000 in
theorem refrekey_calls (hnow : now < 2 ^ 64) : Calls Tryd.prog 28 #[r.v, .agg (refS k1 N1 k2 N2 born sent ca), .int .u64 (now : Int)] w fun e w' => e = .returned (.bool (rekB r born sent now)) ∧ Below w.heap.size w w' := by
  obtain ⟨r0, r1, r2, r3, r4, r5, r6⟩ := r
  obtain ⟨A1, n1, c1⟩ := k1
  obtain ⟨A2, n2, c2⟩ := k2
  obtain ⟨A3, n3, c3⟩ := ca
  unfold Rul.v refS
  dsimp only
  have HSI := fun w => hd (refsince_calls (a := born) (b := now) (w := w))
  obtain ⟨x, hx⟩ : ∃ x, Aside0 (rekB ⟨r0, r1, r2, r3, r4, r5, r6⟩ born sent now = x) := ⟨_, ⟨rfl⟩⟩
  rw [hx.out]
  have hxx := hx.out
  unfold rekB at hxx
  dsimp only at hxx
  obtain ⟨y, hy⟩ : ∃ y, y = sinceN born now := ⟨_, rfl⟩
  rw [← hy] at hxx HSI
  have HNOW := hd hnow
  clear hy hnow
  have a1 := below_alloc (Below.refl w.heap.size w) (.cells #[.int .u64 (r0 : Int), .int .u64 (r1 : Int), .int .i64 r2, .int .u64 (r3 : Int), .int .u64 (r4 : Int), .int .u64 (r5 : Int), .int .u64 (r6 : Int)] 27)
  have a2 := below_alloc (Below.refl _ (w.alloc (.cells #[.int .u64 (r0 : Int), .int .u64 (r1 : Int), .int .i64 r2, .int .u64 (r3 : Int), .int .u64 (r4 : Int), .int .u64 (r5 : Int), .int .u64 (r6 : Int)] 27))) (.cells #[.slice A1 n1 c1, .int .u64 (N1 : Int), .slice A2 n2 c2, .int .u64 (N2 : Int), .int .u64 (born : Int), .int .u64 (sent : Int), .slice A3 n3 c3] 50)
  have b1 := blk_new w (.cells #[.int .u64 (r0 : Int), .int .u64 (r1 : Int), .int .i64 r2, .int .u64 (r3 : Int), .int .u64 (r4 : Int), .int .u64 (r5 : Int), .int .u64 (r6 : Int)] 27)
  have b2 := blk_new (w.alloc (.cells #[.int .u64 (r0 : Int), .int .u64 (r1 : Int), .int .i64 r2, .int .u64 (r3 : Int), .int .u64 (r4 : Int), .int .u64 (r5 : Int), .int .u64 (r6 : Int)] 27)) (.cells #[.slice A1 n1 c1, .int .u64 (N1 : Int), .slice A2 n2 c2, .int .u64 (N2 : Int), .int .u64 (born : Int), .int .u64 (sent : Int), .slice A3 n3 c3] 50)
  rw [World.size_alloc] at b2
  have HBW := hd (below_seq a1 a2)
  have HR := hd (blk_below b1 a2)
  have HS := hd b2
  clear a1 a2 b1 b2
  go_enter Tryd.func28, Tryd.ntmps28
  go_upto_region 1 with (fail)
  generalize ((w.alloc (.cells #[.int .u64 (r0 : Int), .int .u64 (r1 : Int), .int .i64 r2, .int .u64 (r3 : Int), .int .u64 (r4 : Int), .int .u64 (r5 : Int), .int .u64 (r6 : Int)] 27)).alloc (.cells #[.slice A1 n1 c1, .int .u64 (N1 : Int), .slice A2 n2 c2, .int .u64 (N2 : Int), .int .u64 (born : Int), .int .u64 (sent : Int), .slice A3 n3 c3] 50)) = w3 at HBW HR HS  ⊢
  obtain ⟨q, hq⟩ : ∃ q, w.heap.size = q := ⟨_, rfl⟩
  have HQ := hd (show w.heap.size ≤ q by omega)
  rw [hq] at HR HS  ⊢
  clear hq
  cases ho : decide (r3 ≤ y)
  · rw [ho, Bool.false_or] at hxx
    have ho' : decide ((r3 : Int) ≤ (y : Int)) = false := by simpa using ho
    have HXX := hd hxx
    clear hxx
    refine up_start [] [(0, true), (1, true), (2, true), (4, true), (5, true), (3, false), (6, true), (7, true), (8, true), (9, true), (10, true), (11, true), (12, true), (13, true), (14, true)] (by kernel_rfl) rfl (by kernel_rfl) (by kernel_rfl) ?_
    have hdr := below_drew (Below.refl w3.heap.size w3)
    replace HR := hd (blk_below HR.out hdr)
    replace HS := hd (blk_below HS.out hdr)
    replace HBW := hd (below_seq HBW.out hdr)
    generalize w3.drew = w5 at hdr HR HS HBW ⊢
    clear hdr
    have t0 := Grow.cells (show w5.cell? ⟨q, 0, none⟩ = some (.int .u64 (r0 : Int)) by rw [blk_cell HR.out]; rfl)
    have t1 := Grow.cells (show w5.cell? ⟨q, 1, none⟩ = some (.int .u64 (r1 : Int)) by rw [blk_cell HR.out]; rfl)
    have t2 := Grow.cells (show w5.cell? ⟨q, 2, none⟩ = some (.int .i64 r2) by rw [blk_cell HR.out]; rfl)
    have t3 := Grow.cells (show w5.cell? ⟨q, 3, none⟩ = some (.int .u64 (r3 : Int)) by rw [blk_cell HR.out]; rfl)
    have t4 := Grow.cells (show w5.cell? ⟨q, 4, none⟩ = some (.int .u64 (r4 : Int)) by rw [blk_cell HR.out]; rfl)
    have t5 := Grow.cells (show w5.cell? ⟨q, 5, none⟩ = some (.int .u64 (r5 : Int)) by rw [blk_cell HR.out]; rfl)
    have t6 := Grow.cells (show w5.cell? ⟨q, 6, none⟩ = some (.int .u64 (r6 : Int)) by rw [blk_cell HR.out]; rfl)
    have u0 := Grow.cells (show w5.cell? ⟨q + 1, 0, none⟩ = some (.slice A1 n1 c1) by rw [blk_cell HS.out]; rfl)
    have u1 := Grow.cells (show w5.cell? ⟨q + 1, 1, none⟩ = some (.int .u64 (N1 : Int)) by rw [blk_cell HS.out]; rfl)
    have u2 := Grow.cells (show w5.cell? ⟨q + 1, 2, none⟩ = some (.slice A2 n2 c2) by rw [blk_cell HS.out]; rfl)
    have u3 := Grow.cells (show w5.cell? ⟨q + 1, 3, none⟩ = some (.int .u64 (N2 : Int)) by rw [blk_cell HS.out]; rfl)
    have u4 := Grow.cells (show w5.cell? ⟨q + 1, 4, none⟩ = some (.int .u64 (born : Int)) by rw [blk_cell HS.out]; rfl)
    have u5 := Grow.cells (show w5.cell? ⟨q + 1, 5, none⟩ = some (.int .u64 (sent : Int)) by rw [blk_cell HS.out]; rfl)
    have u6 := Grow.cells (show w5.cell? ⟨q + 1, 6, none⟩ = some (.slice A3 n3 c3) by rw [blk_cell HS.out]; rfl)
    refine seq_pure (i := 0) (N := some 7) (v := ?_) (a' := ?_) rfl rfl (by rfl) (fun _ _ _ h => h) ?_ ?_ ?_
    rotate_left 2
    · intro w' hg
      go_simp
      with_reducible rfl
    · simp only [Act.put, List.setIfInBounds_toArray, List.set_cons_zero, List.set_cons_succ, i64_w, i32_w]
      rfl
    refine seq_pure (i := 1) (N := some 8) (v := ?_) (a' := ?_) rfl rfl (by rfl) (fun _ _ _ h => h) ?_ ?_ ?_
    rotate_left 2
    · intro w' hg
      go_simp
      with_reducible rfl
    · simp only [Act.put, List.setIfInBounds_toArray, List.set_cons_zero, List.set_cons_succ, i64_w, i32_w]
      rfl
    refine seq_pure (i := 2) (N := some 9) (v := ?_) (a' := ?_) rfl rfl (by rfl) (fun _ _ _ h => h) ?_ ?_ ?_
    rotate_left 2
    · intro w' hg
      go_simp
      with_reducible rfl
    · simp only [Act.put, List.setIfInBounds_toArray, List.set_cons_zero, List.set_cons_succ, i64_w, i32_w]
      rfl
    refine seq_pure (i := 4) (N := some 11) (v := ?_) (a' := ?_) rfl rfl (by rfl) (fun _ _ _ h => h) ?_ ?_ ?_
    rotate_left 2
    · intro w' hg
      go_simp
      with_reducible rfl
    · simp only [Act.put, List.setIfInBounds_toArray, List.set_cons_zero, List.set_cons_succ, i64_w, i32_w]
      rfl
    refine seq_pure (i := 5) (N := some 12) (v := ?_) (a' := ?_) rfl rfl (by rfl) (fun _ _ _ h => h) ?_ ?_ ?_
    rotate_left 2
    · intro w' hg
      go_simp
      with_reducible rfl
    · simp only [Act.put, List.setIfInBounds_toArray, List.set_cons_zero, List.set_cons_succ, i64_w, i32_w]
      rfl
    refine seq_call (i := 3) (N := some 10) rfl rfl Tryd.func54 (by kernel_rfl) rfl #[.int .u64 (born : Int), .int .u64 (now : Int)] (by rfl) rfl ?_ ?_
    · simp only [List.map_toArray, List.map_cons, List.map_nil]
      rfl
    refine (HSI w5).out.mono ?_
    rintro e w6 h
    obtain ⟨rfl, rfl⟩ := h HNOW.out
    refine ⟨_, rfl, fun _ => Below.refl _ _, ?_⟩
    refine seq_norm (a' := ?_) ?_ ?_
    rotate_left
    · show Act.put _ (some 10) _ = _
      simp only [Act.put, List.setIfInBounds_toArray, List.set_cons_zero, List.set_cons_succ, i64_w, i32_w]
      rfl
    refine seq_pure (i := 6) (N := some 13) (v := ?_) (a' := ?_) rfl rfl (by rfl) (fun _ _ _ h => h) ?_ ?_ ?_
    rotate_left 2
    · intro w' hg
      go_simp
      with_reducible rfl
    · simp only [Act.put, List.setIfInBounds_toArray, List.set_cons_zero, List.set_cons_succ, i64_w, i32_w]
      rfl
    refine seq_pure (i := 7) (N := some 14) (v := ?_) (a' := ?_) rfl rfl (by rfl) (fun _ _ _ h => h) ?_ ?_ ?_
    rotate_left 2
    · intro w' hg
      go_simp
      with_reducible rfl
    · simp only [Act.put, List.setIfInBounds_toArray, List.set_cons_zero, List.set_cons_succ, i64_w, i32_w]
      rfl
    refine seq_pure (i := 8) (N := some 15) (v := ?_) (a' := ?_) rfl rfl (by rfl) (fun _ _ _ h => h) ?_ ?_ ?_
    rotate_left 2
    · intro w' hg
      go_simp
      with_reducible rfl
    · simp only [Act.put, List.setIfInBounds_toArray, List.set_cons_zero, List.set_cons_succ, i64_w, i32_w]
      rfl
    refine seq_pure (i := 9) (N := some 16) (v := ?_) (a' := ?_) rfl rfl (by rfl) (fun _ _ _ h => h) ?_ ?_ ?_
    rotate_left 2
    · intro w' hg
      go_simp
      with_reducible rfl
    · simp only [Act.put, List.setIfInBounds_toArray, List.set_cons_zero, List.set_cons_succ, i64_w, i32_w]
      rfl
    refine seq_pure (i := 10) (N := some 17) (v := ?_) (a' := ?_) rfl rfl (by rfl) (fun _ _ _ h => h) ?_ ?_ ?_
    rotate_left 2
    · intro w' hg
      go_simp
      with_reducible rfl
    · simp only [Act.put, List.setIfInBounds_toArray, List.set_cons_zero, List.set_cons_succ, i64_w, i32_w]
      rfl
    refine seq_pure (i := 11) (N := some 18) (v := ?_) (a' := ?_) rfl rfl (by rfl) (fun _ _ _ h => h) ?_ ?_ ?_
    rotate_left 2
    · intro w' hg
      go_simp
      with_reducible rfl
    · simp only [Act.put, List.setIfInBounds_toArray, List.set_cons_zero, List.set_cons_succ, i64_w, i32_w]
      rfl
    refine seq_pure (i := 12) (N := some 19) (v := ?_) (a' := ?_) rfl rfl (by rfl) (fun _ _ _ h => h) ?_ ?_ ?_
    rotate_left 2
    · intro w' hg
      go_simp
      with_reducible rfl
    · simp only [Act.put, List.setIfInBounds_toArray, List.set_cons_zero, List.set_cons_succ, i64_w, i32_w]
      rfl
    refine seq_pure (i := 13) (N := some 20) (v := ?_) (a' := ?_) rfl rfl (by rfl) (fun _ _ _ h => h) ?_ ?_ ?_
    rotate_left 2
    · intro w' hg
      go_simp
      with_reducible rfl
    · simp only [Act.put, List.setIfInBounds_toArray, List.set_cons_zero, List.set_cons_succ, i64_w, i32_w]
      rfl
    refine seq_pure (i := 14) (N := some 6) (v := ?_) (a' := ?_) rfl rfl (by rfl) (fun _ _ _ h => h) ?_ ?_ ?_
    rotate_left 2
    · intro w' hg
      go_simp
      with_reducible rfl
    · simp only [Act.put, List.setIfInBounds_toArray, List.set_cons_zero, List.set_cons_succ, i64_w, i32_w]
      rfl
    refine seq_done ?_
    go_wp2
    go_ret
    exact ⟨by rw [← HXX.out]; first | rfl | simp, HBW.out⟩
  · rw [ho, Bool.true_or] at hxx
    have ho' : decide ((r3 : Int) ≤ (y : Int)) = true := by simpa using ho
    have HXX := hd hxx
    clear hxx
    refine up_start [] [(0, true), (1, true), (2, true), (4, true), (5, true), (3, false), (6, true), (7, true), (8, true), (9, true), (10, true), (11, true), (12, true), (13, true), (14, true)] (by kernel_rfl) rfl (by kernel_rfl) (by kernel_rfl) ?_
    have hdr := below_drew (Below.refl w3.heap.size w3)
    replace HR := hd (blk_below HR.out hdr)
    replace HS := hd (blk_below HS.out hdr)
    replace HBW := hd (below_seq HBW.out hdr)
    generalize w3.drew = w5 at hdr HR HS HBW ⊢
    clear hdr
    have t0 := Grow.cells (show w5.cell? ⟨q, 0, none⟩ = some (.int .u64 (r0 : Int)) by rw [blk_cell HR.out]; rfl)
    have t1 := Grow.cells (show w5.cell? ⟨q, 1, none⟩ = some (.int .u64 (r1 : Int)) by rw [blk_cell HR.out]; rfl)
    have t2 := Grow.cells (show w5.cell? ⟨q, 2, none⟩ = some (.int .i64 r2) by rw [blk_cell HR.out]; rfl)
    have t3 := Grow.cells (show w5.cell? ⟨q, 3, none⟩ = some (.int .u64 (r3 : Int)) by rw [blk_cell HR.out]; rfl)
    have t4 := Grow.cells (show w5.cell? ⟨q, 4, none⟩ = some (.int .u64 (r4 : Int)) by rw [blk_cell HR.out]; rfl)
    have t5 := Grow.cells (show w5.cell? ⟨q, 5, none⟩ = some (.int .u64 (r5 : Int)) by rw [blk_cell HR.out]; rfl)
    have t6 := Grow.cells (show w5.cell? ⟨q, 6, none⟩ = some (.int .u64 (r6 : Int)) by rw [blk_cell HR.out]; rfl)
    have u0 := Grow.cells (show w5.cell? ⟨q + 1, 0, none⟩ = some (.slice A1 n1 c1) by rw [blk_cell HS.out]; rfl)
    have u1 := Grow.cells (show w5.cell? ⟨q + 1, 1, none⟩ = some (.int .u64 (N1 : Int)) by rw [blk_cell HS.out]; rfl)
    have u2 := Grow.cells (show w5.cell? ⟨q + 1, 2, none⟩ = some (.slice A2 n2 c2) by rw [blk_cell HS.out]; rfl)
    have u3 := Grow.cells (show w5.cell? ⟨q + 1, 3, none⟩ = some (.int .u64 (N2 : Int)) by rw [blk_cell HS.out]; rfl)
    have u4 := Grow.cells (show w5.cell? ⟨q + 1, 4, none⟩ = some (.int .u64 (born : Int)) by rw [blk_cell HS.out]; rfl)
    have u5 := Grow.cells (show w5.cell? ⟨q + 1, 5, none⟩ = some (.int .u64 (sent : Int)) by rw [blk_cell HS.out]; rfl)
    have u6 := Grow.cells (show w5.cell? ⟨q + 1, 6, none⟩ = some (.slice A3 n3 c3) by rw [blk_cell HS.out]; rfl)
    refine seq_pure (i := 0) (N := some 7) (v := ?_) (a' := ?_) rfl rfl (by rfl) (fun _ _ _ h => h) ?_ ?_ ?_
    rotate_left 2
    · intro w' hg
      go_simp
      with_reducible rfl
    · simp only [Act.put, List.setIfInBounds_toArray, List.set_cons_zero, List.set_cons_succ, i64_w, i32_w]
      rfl
    refine seq_pure (i := 1) (N := some 8) (v := ?_) (a' := ?_) rfl rfl (by rfl) (fun _ _ _ h => h) ?_ ?_ ?_
    rotate_left 2
    · intro w' hg
      go_simp
      with_reducible rfl
    · simp only [Act.put, List.setIfInBounds_toArray, List.set_cons_zero, List.set_cons_succ, i64_w, i32_w]
      rfl
    refine seq_pure (i := 2) (N := some 9) (v := ?_) (a' := ?_) rfl rfl (by rfl) (fun _ _ _ h => h) ?_ ?_ ?_
    rotate_left 2
    · intro w' hg
      go_simp
      with_reducible rfl
    · simp only [Act.put, List.setIfInBounds_toArray, List.set_cons_zero, List.set_cons_succ, i64_w, i32_w]
      rfl
    refine seq_pure (i := 4) (N := some 11) (v := ?_) (a' := ?_) rfl rfl (by rfl) (fun _ _ _ h => h) ?_ ?_ ?_
    rotate_left 2
    · intro w' hg
      go_simp
      with_reducible rfl
    · simp only [Act.put, List.setIfInBounds_toArray, List.set_cons_zero, List.set_cons_succ, i64_w, i32_w]
      rfl
    refine seq_pure (i := 5) (N := some 12) (v := ?_) (a' := ?_) rfl rfl (by rfl) (fun _ _ _ h => h) ?_ ?_ ?_
    rotate_left 2
    · intro w' hg
      go_simp
      with_reducible rfl
    · simp only [Act.put, List.setIfInBounds_toArray, List.set_cons_zero, List.set_cons_succ, i64_w, i32_w]
      rfl
    refine seq_call (i := 3) (N := some 10) rfl rfl Tryd.func54 (by kernel_rfl) rfl #[.int .u64 (born : Int), .int .u64 (now : Int)] (by rfl) rfl ?_ ?_
    · simp only [List.map_toArray, List.map_cons, List.map_nil]
      rfl
    refine (HSI w5).out.mono ?_
    rintro e w6 h
    obtain ⟨rfl, rfl⟩ := h HNOW.out
    refine ⟨_, rfl, fun _ => Below.refl _ _, ?_⟩
    refine seq_norm (a' := ?_) ?_ ?_
    rotate_left
    · show Act.put _ (some 10) _ = _
      simp only [Act.put, List.setIfInBounds_toArray, List.set_cons_zero, List.set_cons_succ, i64_w, i32_w]
      rfl
    refine seq_pure (i := 6) (N := some 13) (v := ?_) (a' := ?_) rfl rfl (by rfl) (fun _ _ _ h => h) ?_ ?_ ?_
    rotate_left 2
    · intro w' hg
      go_simp
      with_reducible rfl
    · simp only [Act.put, List.setIfInBounds_toArray, List.set_cons_zero, List.set_cons_succ, i64_w, i32_w]
      rfl
    refine seq_pure (i := 7) (N := some 14) (v := ?_) (a' := ?_) rfl rfl (by rfl) (fun _ _ _ h => h) ?_ ?_ ?_
    rotate_left 2
    · intro w' hg
      go_simp
      with_reducible rfl
    · simp only [Act.put, List.setIfInBounds_toArray, List.set_cons_zero, List.set_cons_succ, i64_w, i32_w]
      rfl
    refine seq_off (i := 8) (N := some 15) (a' := ?_) rfl rfl (by rfl) (fun _ _ _ h => h) ?_ ?_
    rotate_left
    · simp only [Act.put, List.setIfInBounds_toArray, List.set_cons_zero, List.set_cons_succ, i64_w, i32_w]
      rfl
    refine seq_off (i := 9) (N := some 16) (a' := ?_) rfl rfl (by rfl) (fun _ _ _ h => h) ?_ ?_
    rotate_left
    · simp only [Act.put, List.setIfInBounds_toArray, List.set_cons_zero, List.set_cons_succ, i64_w, i32_w]
      rfl
    refine seq_off (i := 10) (N := some 17) (a' := ?_) rfl rfl (by rfl) (fun _ _ _ h => h) ?_ ?_
    rotate_left
    · simp only [Act.put, List.setIfInBounds_toArray, List.set_cons_zero, List.set_cons_succ, i64_w, i32_w]
      rfl
    refine seq_off (i := 11) (N := some 18) (a' := ?_) rfl rfl (by rfl) (fun _ _ _ h => h) ?_ ?_
    rotate_left
    · simp only [Act.put, List.setIfInBounds_toArray, List.set_cons_zero, List.set_cons_succ, i64_w, i32_w]
      rfl
    refine seq_off (i := 12) (N := some 19) (a' := ?_) rfl rfl (by rfl) (fun _ _ _ h => h) ?_ ?_
    rotate_left
    · simp only [Act.put, List.setIfInBounds_toArray, List.set_cons_zero, List.set_cons_succ, i64_w, i32_w]
      rfl
    refine seq_pure (i := 13) (N := some 20) (v := ?_) (a' := ?_) rfl rfl (by rfl) (fun _ _ _ h => h) ?_ ?_ ?_
    rotate_left 2
    · intro w' hg
      go_simp
      with_reducible rfl
    · simp only [Act.put, List.setIfInBounds_toArray, List.set_cons_zero, List.set_cons_succ, i64_w, i32_w]
      rfl
    refine seq_pure (i := 14) (N := some 6) (v := ?_) (a' := ?_) rfl rfl (by rfl) (fun _ _ _ h => h) ?_ ?_ ?_
    rotate_left 2
    · intro w' hg
      go_simp
      with_reducible rfl
    · simp only [Act.put, List.setIfInBounds_toArray, List.set_cons_zero, List.set_cons_succ, i64_w, i32_w]
      rfl
    refine seq_done ?_
    go_wp2
    go_ret
    exact ⟨by rw [← HXX.out]; first | rfl | simp, HBW.out⟩
set_option maxRecDepth 100000 in
theorem refexpired_calls (hnow : now < 2 ^ 64) : Calls Tryd.prog 30 #[r.v, .agg (refS k1 N1 k2 N2 born sent ca), .int .u64 (now : Int)] w fun e w' => e = .returned (.bool (expB r born sent now)) ∧ Below w.heap.size w w' := by
  obtain ⟨r0, r1, r2, r3, r4, r5, r6⟩ := r
  obtain ⟨A1, n1, c1⟩ := k1
  obtain ⟨A2, n2, c2⟩ := k2
  obtain ⟨A3, n3, c3⟩ := ca
  unfold Rul.v refS
  dsimp only
  have HSI := fun w => hd (refsince_calls (a := born) (b := now) (w := w))
  obtain ⟨x, hx⟩ : ∃ x, Aside0 (expB ⟨r0, r1, r2, r3, r4, r5, r6⟩ born sent now = x) := ⟨_, ⟨rfl⟩⟩
  rw [hx.out]
  have hxx := hx.out
  unfold expB oldB at hxx
  dsimp only at hxx
  obtain ⟨y, hy⟩ : ∃ y, y = sinceN born now := ⟨_, rfl⟩
  rw [← hy] at hxx HSI
  have HNOW := hd hnow
  clear hy hnow
  have a1 := below_alloc (Below.refl w.heap.size w) (.cells #[.int .u64 (r0 : Int), .int .u64 (r1 : Int), .int .i64 r2, .int .u64 (r3 : Int), .int .u64 (r4 : Int), .int .u64 (r5 : Int), .int .u64 (r6 : Int)] 27)
  have a2 := below_alloc (Below.refl _ (w.alloc (.cells #[.int .u64 (r0 : Int), .int .u64 (r1 : Int), .int .i64 r2, .int .u64 (r3 : Int), .int .u64 (r4 : Int), .int .u64 (r5 : Int), .int .u64 (r6 : Int)] 27))) (.cells #[.slice A1 n1 c1, .int .u64 (N1 : Int), .slice A2 n2 c2, .int .u64 (N2 : Int), .int .u64 (born : Int), .int .u64 (sent : Int), .slice A3 n3 c3] 50)
  have b1 := blk_new w (.cells #[.int .u64 (r0 : Int), .int .u64 (r1 : Int), .int .i64 r2, .int .u64 (r3 : Int), .int .u64 (r4 : Int), .int .u64 (r5 : Int), .int .u64 (r6 : Int)] 27)
  have b2 := blk_new (w.alloc (.cells #[.int .u64 (r0 : Int), .int .u64 (r1 : Int), .int .i64 r2, .int .u64 (r3 : Int), .int .u64 (r4 : Int), .int .u64 (r5 : Int), .int .u64 (r6 : Int)] 27)) (.cells #[.slice A1 n1 c1, .int .u64 (N1 : Int), .slice A2 n2 c2, .int .u64 (N2 : Int), .int .u64 (born : Int), .int .u64 (sent : Int), .slice A3 n3 c3] 50)
  rw [World.size_alloc] at b2
  have HBW := hd (below_seq a1 a2)
  have HR := hd (blk_below b1 a2)
  have HS := hd b2
  clear a1 a2 b1 b2
  go_enter Tryd.func30, Tryd.ntmps30
  go_upto_region 1 with (fail)
  generalize ((w.alloc (.cells #[.int .u64 (r0 : Int), .int .u64 (r1 : Int), .int .i64 r2, .int .u64 (r3 : Int), .int .u64 (r4 : Int), .int .u64 (r5 : Int), .int .u64 (r6 : Int)] 27)).alloc (.cells #[.slice A1 n1 c1, .int .u64 (N1 : Int), .slice A2 n2 c2, .int .u64 (N2 : Int), .int .u64 (born : Int), .int .u64 (sent : Int), .slice A3 n3 c3] 50)) = w3 at HBW HR HS  ⊢
  obtain ⟨q, hq⟩ : ∃ q, w.heap.size = q := ⟨_, rfl⟩
  have HQ := hd (show w.heap.size ≤ q by omega)
  rw [hq] at HR HS  ⊢
  clear hq
  cases ho : decide (r4 ≤ y)
  · rw [ho, Bool.false_or] at hxx
    have ho' : decide ((r4 : Int) ≤ (y : Int)) = false := by simpa using ho
    have HXX := hd hxx
    clear hxx
    refine up_start [] [(0, true), (1, true), (2, true), (4, true), (5, true), (3, false), (6, true), (7, true), (8, true), (9, true), (10, true), (11, true), (12, true), (13, true), (14, true)] (by kernel_rfl) rfl (by kernel_rfl) (by kernel_rfl) ?_
    have hdr := below_drew (Below.refl w3.heap.size w3)
    replace HR := hd (blk_below HR.out hdr)
    replace HS := hd (blk_below HS.out hdr)
    replace HBW := hd (below_seq HBW.out hdr)
    generalize w3.drew = w5 at hdr HR HS HBW ⊢
    clear hdr
    have t0 := Grow.cells (show w5.cell? ⟨q, 0, none⟩ = some (.int .u64 (r0 : Int)) by rw [blk_cell HR.out]; rfl)
    have t1 := Grow.cells (show w5.cell? ⟨q, 1, none⟩ = some (.int .u64 (r1 : Int)) by rw [blk_cell HR.out]; rfl)
    have t2 := Grow.cells (show w5.cell? ⟨q, 2, none⟩ = some (.int .i64 r2) by rw [blk_cell HR.out]; rfl)
    have t3 := Grow.cells (show w5.cell? ⟨q, 3, none⟩ = some (.int .u64 (r3 : Int)) by rw [blk_cell HR.out]; rfl)
    have t4 := Grow.cells (show w5.cell? ⟨q, 4, none⟩ = some (.int .u64 (r4 : Int)) by rw [blk_cell HR.out]; rfl)
    have t5 := Grow.cells (show w5.cell? ⟨q, 5, none⟩ = some (.int .u64 (r5 : Int)) by rw [blk_cell HR.out]; rfl)
    have t6 := Grow.cells (show w5.cell? ⟨q, 6, none⟩ = some (.int .u64 (r6 : Int)) by rw [blk_cell HR.out]; rfl)
    have u0 := Grow.cells (show w5.cell? ⟨q + 1, 0, none⟩ = some (.slice A1 n1 c1) by rw [blk_cell HS.out]; rfl)
    have u1 := Grow.cells (show w5.cell? ⟨q + 1, 1, none⟩ = some (.int .u64 (N1 : Int)) by rw [blk_cell HS.out]; rfl)
    have u2 := Grow.cells (show w5.cell? ⟨q + 1, 2, none⟩ = some (.slice A2 n2 c2) by rw [blk_cell HS.out]; rfl)
    have u3 := Grow.cells (show w5.cell? ⟨q + 1, 3, none⟩ = some (.int .u64 (N2 : Int)) by rw [blk_cell HS.out]; rfl)
    have u4 := Grow.cells (show w5.cell? ⟨q + 1, 4, none⟩ = some (.int .u64 (born : Int)) by rw [blk_cell HS.out]; rfl)
    have u5 := Grow.cells (show w5.cell? ⟨q + 1, 5, none⟩ = some (.int .u64 (sent : Int)) by rw [blk_cell HS.out]; rfl)
    have u6 := Grow.cells (show w5.cell? ⟨q + 1, 6, none⟩ = some (.slice A3 n3 c3) by rw [blk_cell HS.out]; rfl)
    refine seq_pure (i := 0) (N := some 7) (v := ?_) (a' := ?_) rfl rfl (by rfl) (fun _ _ _ h => h) ?_ ?_ ?_
    rotate_left 2
    · intro w' hg
      go_simp
      with_reducible rfl
    · simp only [Act.put, List.setIfInBounds_toArray, List.set_cons_zero, List.set_cons_succ, i64_w, i32_w]
      rfl
    refine seq_pure (i := 1) (N := some 8) (v := ?_) (a' := ?_) rfl rfl (by rfl) (fun _ _ _ h => h) ?_ ?_ ?_
    rotate_left 2
    · intro w' hg
      go_simp
      with_reducible rfl
    · simp only [Act.put, List.setIfInBounds_toArray, List.set_cons_zero, List.set_cons_succ, i64_w, i32_w]
      rfl
    refine seq_pure (i := 2) (N := some 9) (v := ?_) (a' := ?_) rfl rfl (by rfl) (fun _ _ _ h => h) ?_ ?_ ?_
    rotate_left 2
    · intro w' hg
      go_simp
      with_reducible rfl
    · simp only [Act.put, List.setIfInBounds_toArray, List.set_cons_zero, List.set_cons_succ, i64_w, i32_w]
      rfl
    refine seq_pure (i := 4) (N := some 11) (v := ?_) (a' := ?_) rfl rfl (by rfl) (fun _ _ _ h => h) ?_ ?_ ?_
    rotate_left 2
    · intro w' hg
      go_simp
      with_reducible rfl
    · simp only [Act.put, List.setIfInBounds_toArray, List.set_cons_zero, List.set_cons_succ, i64_w, i32_w]
      rfl
    refine seq_pure (i := 5) (N := some 12) (v := ?_) (a' := ?_) rfl rfl (by rfl) (fun _ _ _ h => h) ?_ ?_ ?_
    rotate_left 2
    · intro w' hg
      go_simp
      with_reducible rfl
    · simp only [Act.put, List.setIfInBounds_toArray, List.set_cons_zero, List.set_cons_succ, i64_w, i32_w]
      rfl
    refine seq_call (i := 3) (N := some 10) rfl rfl Tryd.func54 (by kernel_rfl) rfl #[.int .u64 (born : Int), .int .u64 (now : Int)] (by rfl) rfl ?_ ?_
    · simp only [List.map_toArray, List.map_cons, List.map_nil]
      rfl
    refine (HSI w5).out.mono ?_
    rintro e w6 h
    obtain ⟨rfl, rfl⟩ := h HNOW.out
    refine ⟨_, rfl, fun _ => Below.refl _ _, ?_⟩
    refine seq_norm (a' := ?_) ?_ ?_
    rotate_left
    · show Act.put _ (some 10) _ = _
      simp only [Act.put, List.setIfInBounds_toArray, List.set_cons_zero, List.set_cons_succ, i64_w, i32_w]
      rfl
    refine seq_pure (i := 6) (N := some 13) (v := ?_) (a' := ?_) rfl rfl (by rfl) (fun _ _ _ h => h) ?_ ?_ ?_
    rotate_left 2
    · intro w' hg
      go_simp
      with_reducible rfl
    · simp only [Act.put, List.setIfInBounds_toArray, List.set_cons_zero, List.set_cons_succ, i64_w, i32_w]
      rfl
    refine seq_pure (i := 7) (N := some 14) (v := ?_) (a' := ?_) rfl rfl (by rfl) (fun _ _ _ h => h) ?_ ?_ ?_
    rotate_left 2
    · intro w' hg
      go_simp
      with_reducible rfl
    · simp only [Act.put, List.setIfInBounds_toArray, List.set_cons_zero, List.set_cons_succ, i64_w, i32_w]
      rfl
    refine seq_pure (i := 8) (N := some 15) (v := ?_) (a' := ?_) rfl rfl (by rfl) (fun _ _ _ h => h) ?_ ?_ ?_
    rotate_left 2
    · intro w' hg
      go_simp
      with_reducible rfl
    · simp only [Act.put, List.setIfInBounds_toArray, List.set_cons_zero, List.set_cons_succ, i64_w, i32_w]
      rfl
    refine seq_pure (i := 9) (N := some 16) (v := ?_) (a' := ?_) rfl rfl (by rfl) (fun _ _ _ h => h) ?_ ?_ ?_
    rotate_left 2
    · intro w' hg
      go_simp
      with_reducible rfl
    · simp only [Act.put, List.setIfInBounds_toArray, List.set_cons_zero, List.set_cons_succ, i64_w, i32_w]
      rfl
    refine seq_pure (i := 10) (N := some 17) (v := ?_) (a' := ?_) rfl rfl (by rfl) (fun _ _ _ h => h) ?_ ?_ ?_
    rotate_left 2
    · intro w' hg
      go_simp
      with_reducible rfl
    · simp only [Act.put, List.setIfInBounds_toArray, List.set_cons_zero, List.set_cons_succ, i64_w, i32_w]
      rfl
    refine seq_pure (i := 11) (N := some 18) (v := ?_) (a' := ?_) rfl rfl (by rfl) (fun _ _ _ h => h) ?_ ?_ ?_
    rotate_left 2
    · intro w' hg
      go_simp
      with_reducible rfl
    · simp only [Act.put, List.setIfInBounds_toArray, List.set_cons_zero, List.set_cons_succ, i64_w, i32_w]
      rfl
    refine seq_pure (i := 12) (N := some 19) (v := ?_) (a' := ?_) rfl rfl (by rfl) (fun _ _ _ h => h) ?_ ?_ ?_
    rotate_left 2
    · intro w' hg
      go_simp
      with_reducible rfl
    · simp only [Act.put, List.setIfInBounds_toArray, List.set_cons_zero, List.set_cons_succ, i64_w, i32_w]
      rfl
    refine seq_pure (i := 13) (N := some 20) (v := ?_) (a' := ?_) rfl rfl (by rfl) (fun _ _ _ h => h) ?_ ?_ ?_
    rotate_left 2
    · intro w' hg
      go_simp
      with_reducible rfl
    · simp only [Act.put, List.setIfInBounds_toArray, List.set_cons_zero, List.set_cons_succ, i64_w, i32_w]
      rfl
    refine seq_pure (i := 14) (N := some 6) (v := ?_) (a' := ?_) rfl rfl (by rfl) (fun _ _ _ h => h) ?_ ?_ ?_
    rotate_left 2
    · intro w' hg
      go_simp
      with_reducible rfl
    · simp only [Act.put, List.setIfInBounds_toArray, List.set_cons_zero, List.set_cons_succ, i64_w, i32_w]
      rfl
    refine seq_done ?_
    go_wp2
    go_ret
    exact ⟨by rw [← HXX.out]; first | rfl | simp, HBW.out⟩
  · rw [ho, Bool.true_or] at hxx
    have ho' : decide ((r4 : Int) ≤ (y : Int)) = true := by simpa using ho
    have HXX := hd hxx
    clear hxx
    refine up_start [] [(0, true), (1, true), (2, true), (4, true), (5, true), (3, false), (6, true), (7, true), (8, true), (9, true), (10, true), (11, true), (12, true), (13, true), (14, true)] (by kernel_rfl) rfl (by kernel_rfl) (by kernel_rfl) ?_
    have hdr := below_drew (Below.refl w3.heap.size w3)
    replace HR := hd (blk_below HR.out hdr)
    replace HS := hd (blk_below HS.out hdr)
    replace HBW := hd (below_seq HBW.out hdr)
    generalize w3.drew = w5 at hdr HR HS HBW ⊢
    clear hdr
    have t0 := Grow.cells (show w5.cell? ⟨q, 0, none⟩ = some (.int .u64 (r0 : Int)) by rw [blk_cell HR.out]; rfl)
    have t1 := Grow.cells (show w5.cell? ⟨q, 1, none⟩ = some (.int .u64 (r1 : Int)) by rw [blk_cell HR.out]; rfl)
    have t2 := Grow.cells (show w5.cell? ⟨q, 2, none⟩ = some (.int .i64 r2) by rw [blk_cell HR.out]; rfl)
    have t3 := Grow.cells (show w5.cell? ⟨q, 3, none⟩ = some (.int .u64 (r3 : Int)) by rw [blk_cell HR.out]; rfl)
    have t4 := Grow.cells (show w5.cell? ⟨q, 4, none⟩ = some (.int .u64 (r4 : Int)) by rw [blk_cell HR.out]; rfl)
    have t5 := Grow.cells (show w5.cell? ⟨q, 5, none⟩ = some (.int .u64 (r5 : Int)) by rw [blk_cell HR.out]; rfl)
    have t6 := Grow.cells (show w5.cell? ⟨q, 6, none⟩ = some (.int .u64 (r6 : Int)) by rw [blk_cell HR.out]; rfl)
    have u0 := Grow.cells (show w5.cell? ⟨q + 1, 0, none⟩ = some (.slice A1 n1 c1) by rw [blk_cell HS.out]; rfl)
    have u1 := Grow.cells (show w5.cell? ⟨q + 1, 1, none⟩ = some (.int .u64 (N1 : Int)) by rw [blk_cell HS.out]; rfl)
    have u2 := Grow.cells (show w5.cell? ⟨q + 1, 2, none⟩ = some (.slice A2 n2 c2) by rw [blk_cell HS.out]; rfl)
    have u3 := Grow.cells (show w5.cell? ⟨q + 1, 3, none⟩ = some (.int .u64 (N2 : Int)) by rw [blk_cell HS.out]; rfl)
    have u4 := Grow.cells (show w5.cell? ⟨q + 1, 4, none⟩ = some (.int .u64 (born : Int)) by rw [blk_cell HS.out]; rfl)
    have u5 := Grow.cells (show w5.cell? ⟨q + 1, 5, none⟩ = some (.int .u64 (sent : Int)) by rw [blk_cell HS.out]; rfl)
    have u6 := Grow.cells (show w5.cell? ⟨q + 1, 6, none⟩ = some (.slice A3 n3 c3) by rw [blk_cell HS.out]; rfl)
    refine seq_pure (i := 0) (N := some 7) (v := ?_) (a' := ?_) rfl rfl (by rfl) (fun _ _ _ h => h) ?_ ?_ ?_
    rotate_left 2
    · intro w' hg
      go_simp
      with_reducible rfl
    · simp only [Act.put, List.setIfInBounds_toArray, List.set_cons_zero, List.set_cons_succ, i64_w, i32_w]
      rfl
    refine seq_pure (i := 1) (N := some 8) (v := ?_) (a' := ?_) rfl rfl (by rfl) (fun _ _ _ h => h) ?_ ?_ ?_
    rotate_left 2
    · intro w' hg
      go_simp
      with_reducible rfl
    · simp only [Act.put, List.setIfInBounds_toArray, List.set_cons_zero, List.set_cons_succ, i64_w, i32_w]
      rfl
    refine seq_pure (i := 2) (N := some 9) (v := ?_) (a' := ?_) rfl rfl (by rfl) (fun _ _ _ h => h) ?_ ?_ ?_
    rotate_left 2
    · intro w' hg
      go_simp
      with_reducible rfl
    · simp only [Act.put, List.setIfInBounds_toArray, List.set_cons_zero, List.set_cons_succ, i64_w, i32_w]
      rfl
    refine seq_pure (i := 4) (N := some 11) (v := ?_) (a' := ?_) rfl rfl (by rfl) (fun _ _ _ h => h) ?_ ?_ ?_
    rotate_left 2
    · intro w' hg
      go_simp
      with_reducible rfl
    · simp only [Act.put, List.setIfInBounds_toArray, List.set_cons_zero, List.set_cons_succ, i64_w, i32_w]
      rfl
    refine seq_pure (i := 5) (N := some 12) (v := ?_) (a' := ?_) rfl rfl (by rfl) (fun _ _ _ h => h) ?_ ?_ ?_
    rotate_left 2
    · intro w' hg
      go_simp
      with_reducible rfl
    · simp only [Act.put, List.setIfInBounds_toArray, List.set_cons_zero, List.set_cons_succ, i64_w, i32_w]
      rfl
    refine seq_call (i := 3) (N := some 10) rfl rfl Tryd.func54 (by kernel_rfl) rfl #[.int .u64 (born : Int), .int .u64 (now : Int)] (by rfl) rfl ?_ ?_
    · simp only [List.map_toArray, List.map_cons, List.map_nil]
      rfl
    refine (HSI w5).out.mono ?_
    rintro e w6 h
    obtain ⟨rfl, rfl⟩ := h HNOW.out
    refine ⟨_, rfl, fun _ => Below.refl _ _, ?_⟩
    refine seq_norm (a' := ?_) ?_ ?_
    rotate_left
    · show Act.put _ (some 10) _ = _
      simp only [Act.put, List.setIfInBounds_toArray, List.set_cons_zero, List.set_cons_succ, i64_w, i32_w]
      rfl
    refine seq_pure (i := 6) (N := some 13) (v := ?_) (a' := ?_) rfl rfl (by rfl) (fun _ _ _ h => h) ?_ ?_ ?_
    rotate_left 2
    · intro w' hg
      go_simp
      with_reducible rfl
    · simp only [Act.put, List.setIfInBounds_toArray, List.set_cons_zero, List.set_cons_succ, i64_w, i32_w]
      rfl
    refine seq_pure (i := 7) (N := some 14) (v := ?_) (a' := ?_) rfl rfl (by rfl) (fun _ _ _ h => h) ?_ ?_ ?_
    rotate_left 2
    · intro w' hg
      go_simp
      with_reducible rfl
    · simp only [Act.put, List.setIfInBounds_toArray, List.set_cons_zero, List.set_cons_succ, i64_w, i32_w]
      rfl
    refine seq_off (i := 8) (N := some 15) (a' := ?_) rfl rfl (by rfl) (fun _ _ _ h => h) ?_ ?_
    rotate_left
    · simp only [Act.put, List.setIfInBounds_toArray, List.set_cons_zero, List.set_cons_succ, i64_w, i32_w]
      rfl
    refine seq_off (i := 9) (N := some 16) (a' := ?_) rfl rfl (by rfl) (fun _ _ _ h => h) ?_ ?_
    rotate_left
    · simp only [Act.put, List.setIfInBounds_toArray, List.set_cons_zero, List.set_cons_succ, i64_w, i32_w]
      rfl
    refine seq_off (i := 10) (N := some 17) (a' := ?_) rfl rfl (by rfl) (fun _ _ _ h => h) ?_ ?_
    rotate_left
    · simp only [Act.put, List.setIfInBounds_toArray, List.set_cons_zero, List.set_cons_succ, i64_w, i32_w]
      rfl
    refine seq_off (i := 11) (N := some 18) (a' := ?_) rfl rfl (by rfl) (fun _ _ _ h => h) ?_ ?_
    rotate_left
    · simp only [Act.put, List.setIfInBounds_toArray, List.set_cons_zero, List.set_cons_succ, i64_w, i32_w]
      rfl
    refine seq_off (i := 12) (N := some 19) (a' := ?_) rfl rfl (by rfl) (fun _ _ _ h => h) ?_ ?_
    rotate_left
    · simp only [Act.put, List.setIfInBounds_toArray, List.set_cons_zero, List.set_cons_succ, i64_w, i32_w]
      rfl
    refine seq_pure (i := 13) (N := some 20) (v := ?_) (a' := ?_) rfl rfl (by rfl) (fun _ _ _ h => h) ?_ ?_ ?_
    rotate_left 2
    · intro w' hg
      go_simp
      with_reducible rfl
    · simp only [Act.put, List.setIfInBounds_toArray, List.set_cons_zero, List.set_cons_succ, i64_w, i32_w]
      rfl
    refine seq_pure (i := 14) (N := some 6) (v := ?_) (a' := ?_) rfl rfl (by rfl) (fun _ _ _ h => h) ?_ ?_ ?_
    rotate_left 2
    · intro w' hg
      go_simp
      with_reducible rfl
    · simp only [Act.put, List.setIfInBounds_toArray, List.set_cons_zero, List.set_cons_succ, i64_w, i32_w]
      rfl
    refine seq_done ?_
    go_wp2
    go_ret
    exact ⟨by rw [← HXX.out]; first | rfl | simp, HBW.out⟩
def R22Post (w : World) (k1 k2 ca : Sl) (N2 born : Nat) (D : Option Addr) (nd cd : Nat) (b : List Nat) (x : Nat × List Nat × Nat × Nat × Nat) (e : Ending) (w' : World) : Prop :=
  ∃ v, e = .returned (.tuple #[.agg (refS k1 x.2.2.2.1 k2 N2 born x.2.2.2.2 ca), .int .u64 (x.1 : Int), v, .int .i64 (x.2.2.1 : Int)]) ∧ (OwnK .u8 5 w.heap.size w' v x.2.1 ∨ (v = .slice D nd cd ∧ x.2.1 = b)) ∧ Below w.heap.size w w'
set_option maxHeartbeats 8000000 in
set_option maxRecDepth 100000 in
theorem refseal22_calls (hk : Bytes w k1.A k1.n k1.c key1) (hN : N1 < 2 ^ 64) (hs : sent ≤ 1000000) (hb : Bytes w D nd cd b) (hnd : nd ≤ 10000) (hnow : now < 2 ^ 64) :
    Calls Tryd.prog 23 #[r.v, .agg (refS k1 N1 k2 N2 born sent ca), .slice D nd cd, .int .u64 (now : Int)] w (R22Post w k1 k2 ca N2 born D nd cd b (sealS r born sent N1 key1 b now)) := by
  obtain ⟨post, hpost⟩ : ∃ post, Aside0 (R22Post w k1 k2 ca N2 born D nd cd b (sealS r born sent N1 key1 b now) = post) := ⟨_, ⟨rfl⟩⟩
  rw [hpost.out]
  have HEX := fun w => hd (refexpired_calls (w := w) (r := r) (k1 := k1) (N1 := N1) (k2 := k2) (N2 := N2) (born := born) (sent := sent) (ca := ca) hnow)
  have HK := hd hk
  have HD := hd hb
  have HND := hd hnd
  have HNL := hd hN
  have HWR := hd (wrap_sent hs)
  have HSL := hd (show sealS r born sent N1 key1 b now = if expB r born sent now then (0, [], 52, N1, sent) else if (useC key1 N1 b (sealA key1 (nonceN N1) [] b)).2.1 ≠ 0 then (0, [], (useC key1 N1 b (sealA key1 (nonceN N1) [] b)).2.1, (useC key1 N1 b (sealA key1 (nonceN N1) [] b)).2.2, sent)
      else (N1, (useC key1 N1 b (sealA key1 (nonceN N1) [] b)).1, 0, (useC key1 N1 b (sealA key1 (nonceN N1) [] b)).2.2, sent + 1) from rfl)
  have HUE := hd (useC_err (key := key1) (b := b) (N := N1) (r := sealA key1 (nonceN N1) [] b))
  obtain ⟨u, hu⟩ : ∃ u, Aside0 (useC key1 N1 b (sealA key1 (nonceN N1) [] b) = u) := ⟨_, ⟨rfl⟩⟩
  rw [hu.out] at HSL HUE
  cases hex : expB r born sent now
  all_goals
    rw [hex] at HSL HEX
  all_goals
    clear hex hk hb hnd hN hs hnow
    obtain ⟨r0, r1, r2, r3, r4, r5, r6⟩ := r
    obtain ⟨A1, n1, c1⟩ := k1
    obtain ⟨A2, n2, c2⟩ := k2
    obtain ⟨A3, n3, c3⟩ := ca
    unfold Rul.v refS
    dsimp only
    dsimp only at HK
    unfold Rul.v refS at HEX
    dsimp only at HEX
    have a1 := below_alloc (Below.refl w.heap.size w) (.cells #[.int .u64 (r0 : Int), .int .u64 (r1 : Int), .int .i64 r2, .int .u64 (r3 : Int), .int .u64 (r4 : Int), .int .u64 (r5 : Int), .int .u64 (r6 : Int)] 27)
    have a2 := below_alloc (Below.refl _ (w.alloc (.cells #[.int .u64 (r0 : Int), .int .u64 (r1 : Int), .int .i64 r2, .int .u64 (r3 : Int), .int .u64 (r4 : Int), .int .u64 (r5 : Int), .int .u64 (r6 : Int)] 27))) (.cells #[.slice A1 n1 c1, .int .u64 (N1 : Int), .slice A2 n2 c2, .int .u64 (N2 : Int), .int .u64 (born : Int), .int .u64 (sent : Int), .slice A3 n3 c3] 50)
    have b1 := blk_new w (.cells #[.int .u64 (r0 : Int), .int .u64 (r1 : Int), .int .i64 r2, .int .u64 (r3 : Int), .int .u64 (r4 : Int), .int .u64 (r5 : Int), .int .u64 (r6 : Int)] 27)
    have b2 := blk_new (w.alloc (.cells #[.int .u64 (r0 : Int), .int .u64 (r1 : Int), .int .i64 r2, .int .u64 (r3 : Int), .int .u64 (r4 : Int), .int .u64 (r5 : Int), .int .u64 (r6 : Int)] 27)) (.cells #[.slice A1 n1 c1, .int .u64 (N1 : Int), .slice A2 n2 c2, .int .u64 (N2 : Int), .int .u64 (born : Int), .int .u64 (sent : Int), .slice A3 n3 c3] 50)
    rw [World.size_alloc] at b2
    have a3 := below_alloc (Below.refl _ ((w.alloc (.cells #[.int .u64 (r0 : Int), .int .u64 (r1 : Int), .int .i64 r2, .int .u64 (r3 : Int), .int .u64 (r4 : Int), .int .u64 (r5 : Int), .int .u64 (r6 : Int)] 27)).alloc (.cells #[.slice A1 n1 c1, .int .u64 (N1 : Int), .slice A2 n2 c2, .int .u64 (N2 : Int), .int .u64 (born : Int), .int .u64 (sent : Int), .slice A3 n3 c3] 50))) (.cells #[.slice none 0 0, .int .u64 0, .slice none 0 0, .int .u64 0, .int .u64 0, .int .u64 0, .slice none 0 0] 50)
    have b3 := blk_new ((w.alloc (.cells #[.int .u64 (r0 : Int), .int .u64 (r1 : Int), .int .i64 r2, .int .u64 (r3 : Int), .int .u64 (r4 : Int), .int .u64 (r5 : Int), .int .u64 (r6 : Int)] 27)).alloc (.cells #[.slice A1 n1 c1, .int .u64 (N1 : Int), .slice A2 n2 c2, .int .u64 (N2 : Int), .int .u64 (born : Int), .int .u64 (sent : Int), .slice A3 n3 c3] 50)) (.cells #[.slice none 0 0, .int .u64 0, .slice none 0 0, .int .u64 0, .int .u64 0, .int .u64 0, .slice none 0 0] 50)
    rw [World.size_alloc, World.size_alloc] at b3
    have HBW := hd (below_seq (below_seq a1 a2) a3)
    have HR := hd (blk_below (blk_below b1 a2) a3)
    have HS := hd (blk_below b2 a3)
    have HZ := hd b3
    clear a1 a2 a3 b1 b2 b3
    go_enter Tryd.func23, Tryd.ntmps23
    go_upto_region 1 with (fail)
    generalize (((w.alloc (.cells #[.int .u64 (r0 : Int), .int .u64 (r1 : Int), .int .i64 r2, .int .u64 (r3 : Int), .int .u64 (r4 : Int), .int .u64 (r5 : Int), .int .u64 (r6 : Int)] 27)).alloc (.cells #[.slice A1 n1 c1, .int .u64 (N1 : Int), .slice A2 n2 c2, .int .u64 (N2 : Int), .int .u64 (born : Int), .int .u64 (sent : Int), .slice A3 n3 c3] 50)).alloc (.cells #[.slice none 0 0, .int .u64 0, .slice none 0 0, .int .u64 0, .int .u64 0, .int .u64 0, .slice none 0 0] 50)) = w3 at HBW HR HS HZ ⊢
    obtain ⟨q, hq⟩ : ∃ q, w.heap.size = q := ⟨_, rfl⟩
    have HQ := hd (show w.heap.size ≤ q by omega)
    rw [hq] at HR HS HZ ⊢
    clear hq
    replace HK := hd (HK.out.below HBW.out)
    replace HD := hd (HD.out.below HBW.out)
    have kc0 : w3.cell? ⟨q, 0, none⟩ = some (.int .u64 (r0 : Int)) := by rw [blk_cell HR.out]; rfl
    have kc1 : w3.cell? ⟨q, 1, none⟩ = some (.int .u64 (r1 : Int)) := by rw [blk_cell HR.out]; rfl
    have kc2 : w3.cell? ⟨q, 2, none⟩ = some (.int .i64 r2) := by rw [blk_cell HR.out]; rfl
    have kc3 : w3.cell? ⟨q, 3, none⟩ = some (.int .u64 (r3 : Int)) := by rw [blk_cell HR.out]; rfl
    have kc4 : w3.cell? ⟨q, 4, none⟩ = some (.int .u64 (r4 : Int)) := by rw [blk_cell HR.out]; rfl
    have kc5 : w3.cell? ⟨q, 5, none⟩ = some (.int .u64 (r5 : Int)) := by rw [blk_cell HR.out]; rfl
    have kc6 : w3.cell? ⟨q, 6, none⟩ = some (.int .u64 (r6 : Int)) := by rw [blk_cell HR.out]; rfl
    have d0 : w3.cell? ⟨q + 1, 0, none⟩ = some (.slice A1 n1 c1) := by rw [blk_cell HS.out]; rfl
    have d1 : w3.cell? ⟨q + 1, 1, none⟩ = some (.int .u64 (N1 : Int)) := by rw [blk_cell HS.out]; rfl
    have d2 : w3.cell? ⟨q + 1, 2, none⟩ = some (.slice A2 n2 c2) := by rw [blk_cell HS.out]; rfl
    have d3 : w3.cell? ⟨q + 1, 3, none⟩ = some (.int .u64 (N2 : Int)) := by rw [blk_cell HS.out]; rfl
    have d4 : w3.cell? ⟨q + 1, 4, none⟩ = some (.int .u64 (born : Int)) := by rw [blk_cell HS.out]; rfl
    have d5 : w3.cell? ⟨q + 1, 5, none⟩ = some (.int .u64 (sent : Int)) := by rw [blk_cell HS.out]; rfl
    have d6 : w3.cell? ⟨q + 1, 6, none⟩ = some (.slice A3 n3 c3) := by rw [blk_cell HS.out]; rfl
    go_wp2_with fail
    refine (HEX w3).out.mono ?_
    rintro e w4 ⟨rfl, hb4⟩
    replace HR := hd (blk_below HR.out hb4)
    replace HS := hd (blk_below HS.out hb4)
    replace HZ := hd (blk_below HZ.out hb4)
    replace HBW := hd (below_seq HBW.out hb4)
    replace HK := hd (HK.out.below hb4)
    replace HD := hd (HD.out.below hb4)
    clear hb4 kc0 kc1 kc2 kc3 kc4 kc5 kc6 d0 d1 d2 d3 d4 d5 d6
  · rw [if_neg (by simp)] at HSL
    have d0 : w4.cell? ⟨q + 1, 0, none⟩ = some (.slice A1 n1 c1) := by rw [blk_cell HS.out]; rfl
    have d1 : w4.cell? ⟨q + 1, 1, none⟩ = some (.int .u64 (N1 : Int)) := by rw [blk_cell HS.out]; rfl
    have HSE := hd (refseal16_calls (C := none) (nc := 0) (cc := 0) (ad := []) HK.out HNL.out (Bytes.nil _ _ _) HD.out (by decide) HND.out)
    rw [hu.out] at HSE
    go_wp2_with fail
    refine HSE.out.mono ?_
    rintro e w5 ⟨v, rfl, hv, hb5⟩
    have HSZ := hd HBW.out.size
    replace HR := hd (blk_below HR.out hb5)
    replace HS := hd (blk_below HS.out hb5)
    replace HZ := hd (blk_below HZ.out hb5)
    replace HBW := hd (below_seq HBW.out hb5)
    replace HK := hd (HK.out.below hb5)
    replace HD := hd (HD.out.below hb5)
    have hv' : OwnK .u8 5 w.heap.size w5 v u.1 ∨ (v = .slice D nd cd ∧ u.1 = b) := hv.imp (fun h => h.lower HSZ.out) id
    clear hb5 d0 d1 HSE hv HSZ
    go_upto_region 5 with (fail)
    have hal := below_alloc (Below.refl w5.heap.size w5) (.cells #[.slice A1 n1 c1, .int .u64 (u.2.2 : Int)] 48)
    have HC := hd (blk_new w5 (.cells #[.slice A1 n1 c1, .int .u64 (u.2.2 : Int)] 48))
    have HV := hd (show OwnK .u8 5 w.heap.size (w5.alloc (.cells #[.slice A1 n1 c1, .int .u64 (u.2.2 : Int)] 48)) v u.1 ∨ (v = .slice D nd cd ∧ u.1 = b) from hv'.imp (fun h => h.below hal) id)
    replace HR := hd (blk_below HR.out hal)
    replace HS := hd (blk_below HS.out hal)
    replace HZ := hd (blk_below HZ.out hal)
    replace HBW := hd (below_seq HBW.out hal)
    replace HK := hd (HK.out.below hal)
    replace HD := hd (HD.out.below hal)
    generalize w5.alloc (.cells #[.slice A1 n1 c1, .int .u64 (u.2.2 : Int)] 48) = w6 at hal HC HV HR HS HZ HBW HK HD ⊢
    obtain ⟨g, hg⟩ : ∃ g, g = w5.heap.size := ⟨_, rfl⟩
    rw [← hg] at HC ⊢
    clear hal hv' hg
    by_cases hr : u.2.1 = 0
    · rw [if_neg (by simp [hr])] at HSL
      rw [hr, show ((0 : Nat) : Int) = 0 from rfl]
      clear hr HUE
      obtain ⟨N', hN'⟩ : ∃ N', Aside0 (u.2.2 = N') := ⟨_, ⟨rfl⟩⟩
      rw [hN'.out] at HC HSL ⊢
      have x0 : w6.cell? ⟨g, 0, none⟩ = some (.slice A1 n1 c1) := by rw [blk_cell HC.out]; rfl
      have x1 : w6.cell? ⟨g, 1, none⟩ = some (.int .u64 (N' : Int)) := by rw [blk_cell HC.out]; rfl
      have d1 : w6.cell? ⟨q + 1, 1, none⟩ = some (.int .u64 (N1 : Int)) := by rw [blk_cell HS.out]; rfl
      have z0 : (w6).cell? ⟨q + 1, 0, none⟩ = some (.slice A1 n1 c1) := by rw [blk_cell (HS.out)]; rfl
      have zf0 := blk_frozen (HS.out) 0
      have z1 : ((w6).setCell ⟨q + 1, 0, none⟩ (.slice A1 n1 c1)).cell? ⟨q + 1, 1, none⟩ = some (.int .u64 (N1 : Int)) := by rw [blk_cell (blk_set (HS.out) 0 (.slice A1 n1 c1))]; rfl
      have zf1 := blk_frozen (blk_set (HS.out) 0 (.slice A1 n1 c1)) 1
      go_upto_region 9 with (fail)
      have hm := ((Mod.set (S := fun k => k = q + 1) (g := q + 1) (i := 0) (w6) rfl (.slice A1 n1 c1)).trans (Mod.set (S := fun k => k = q + 1) (g := q + 1) (i := 1) ((w6).setCell ⟨q + 1, 0, none⟩ (.slice A1 n1 c1)) rfl (.int .u64 (N' : Int))))
      have hsb := blk_set (blk_set (HS.out) 0 (.slice A1 n1 c1)) 1 (.int .u64 (N' : Int))
      have hsz := HBW.out.size
      replace HBW := hd (HBW.out.trans (hm.toBelow (fun k hk => by rw [hk]; have := HQ.out; omega) HBW.out.size))
      replace HV := hd (HV.out.imp (fun h => h.mod hm (Apart.one HS.out (by decide))) id)
      replace HZ := hd (hm.block HZ.out (by omega))
      replace HS := hd hsb
      clear z0 zf0 z1 zf1
      clear x0 x1 d1 hm hsb hsz HC HK HD HR
      generalize ((w6).setCell ⟨q + 1, 0, none⟩ (.slice A1 n1 c1)).setCell ⟨q + 1, 1, none⟩ (.int .u64 (N' : Int)) = w7 at HBW HV HZ HS ⊢
      have z5 : (w7).cell? ⟨q + 1, 5, none⟩ = some (.int .u64 (sent : Int)) := by rw [blk_cell (HS.out)]; rfl
      have zf5 := blk_frozen (HS.out) 5
      have hw := HWR.out
      go_upto_region 10 with (fail)
      have hm := (Mod.set (S := fun k => k = q + 1) (g := q + 1) (i := 5) (w7) rfl (.int .u64 ((sent : Int) + 1)))
      have hsb := blk_set (HS.out) 5 (.int .u64 ((sent : Int) + 1))
      replace HBW := hd (HBW.out.trans (hm.toBelow (fun k hk => by rw [hk]; have := HQ.out; omega) HBW.out.size))
      replace HV := hd (HV.out.imp (fun h => h.mod hm (Apart.one HS.out (by decide))) id)
      replace HZ := hd (hm.block HZ.out (by omega))
      replace HS := hd hsb
      clear z5 zf5
      clear hm hsb hw HWR
      generalize (w7).setCell ⟨q + 1, 5, none⟩ (.int .u64 ((sent : Int) + 1)) = w8 at HBW HV HZ HS ⊢
      have d0 : w8.cell? ⟨q + 1, 0, none⟩ = some (.slice A1 n1 c1) := by rw [blk_cell HS.out]; rfl
      have d1 : w8.cell? ⟨q + 1, 1, none⟩ = some (.int .u64 (N' : Int)) := by rw [blk_cell HS.out]; rfl
      have d2 : w8.cell? ⟨q + 1, 2, none⟩ = some (.slice A2 n2 c2) := by rw [blk_cell HS.out]; rfl
      have d3 : w8.cell? ⟨q + 1, 3, none⟩ = some (.int .u64 (N2 : Int)) := by rw [blk_cell HS.out]; rfl
      have d4 : w8.cell? ⟨q + 1, 4, none⟩ = some (.int .u64 (born : Int)) := by rw [blk_cell HS.out]; rfl
      have d5 : w8.cell? ⟨q + 1, 5, none⟩ = some (.int .u64 ((sent : Int) + 1 : Int)) := by rw [blk_cell HS.out]; rfl
      have d6 : w8.cell? ⟨q + 1, 6, none⟩ = some (.slice A3 n3 c3) := by rw [blk_cell HS.out]; rfl
      go_wp2_with ((with_reducible refine gate_store (t := 50) (p := 8) rfl ?_); go_loud (refine op_storeSt rfl rfl 50 _ _ rfl (q + 2) 0 #[.slice A1 n1 c1, .int .u64 (N' : Int), .slice A2 n2 c2, .int .u64 (N2 : Int), .int .u64 (born : Int), .int .u64 ((sent : Int) + 1 : Int), .slice A3 n3 c3] #[.slice none 0 0, .int .u64 0, .slice none 0 0, .int .u64 0, .int .u64 0, .int .u64 0, .slice none 0 0] _ rfl rfl _ HZ.out (by kernel_rfl) (by simp) (by simp [Value.oneCell']) rfl ?_); intro wz hbz hmz)
      refine bodyPost_ret (resc_3 rfl _ _ (q + 2) 50 _ (0, 0) _ rfl hbz Tryd.underlying50 rfl (by kernel_rfl)) rfl ?_
      rw [← hpost.out, HSL.out]
      exact ⟨v, rfl, HV.out.imp (fun h => h.mod hmz (Apart.one HZ.out (by decide))) id, HBW.out.trans (hmz.toBelow (fun k hk => by rw [hk]; have := HQ.out; omega) HBW.out.size)⟩
    · rw [if_pos hr] at HSL
      have hn' := HUE.out hr
      rw [hn'] at HSL
      have q1 : (((u.2.1 : Nat) : Int) != 0) = true := by simp; exact hr
      have q2 : (((u.2.1 : Nat) : Int) == 0) = false := by simp; exact hr
      clear hn' HUE HK HD HR
      have d0 : w6.cell? ⟨q + 1, 0, none⟩ = some (.slice A1 n1 c1) := by rw [blk_cell HS.out]; rfl
      have d1 : w6.cell? ⟨q + 1, 1, none⟩ = some (.int .u64 (N1 : Int)) := by rw [blk_cell HS.out]; rfl
      have d2 : w6.cell? ⟨q + 1, 2, none⟩ = some (.slice A2 n2 c2) := by rw [blk_cell HS.out]; rfl
      have d3 : w6.cell? ⟨q + 1, 3, none⟩ = some (.int .u64 (N2 : Int)) := by rw [blk_cell HS.out]; rfl
      have d4 : w6.cell? ⟨q + 1, 4, none⟩ = some (.int .u64 (born : Int)) := by rw [blk_cell HS.out]; rfl
      have d5 : w6.cell? ⟨q + 1, 5, none⟩ = some (.int .u64 (sent : Int)) := by rw [blk_cell HS.out]; rfl
      have d6 : w6.cell? ⟨q + 1, 6, none⟩ = some (.slice A3 n3 c3) := by rw [blk_cell HS.out]; rfl
      clear hr
      go_wp2_with ((with_reducible refine gate_store (t := 50) (p := 8) rfl ?_); go_loud (refine op_storeSt rfl rfl 50 _ _ rfl (q + 2) 0 #[.slice A1 n1 c1, .int .u64 (N1 : Int), .slice A2 n2 c2, .int .u64 (N2 : Int), .int .u64 (born : Int), .int .u64 (sent : Int), .slice A3 n3 c3] #[.slice none 0 0, .int .u64 0, .slice none 0 0, .int .u64 0, .int .u64 0, .int .u64 0, .slice none 0 0] _ rfl rfl _ HZ.out (by kernel_rfl) (by simp) (by simp [Value.oneCell']) rfl ?_); intro wz hbz hmz)
      refine bodyPost_ret (resc_3 rfl _ _ (q + 2) 50 _ (0, 0) _ rfl hbz Tryd.underlying50 rfl (by kernel_rfl)) rfl ?_
      rw [← hpost.out, HSL.out]
      exact ⟨_, rfl, Or.inl (OwnK.nil _ _ _ _), HBW.out.trans (hmz.toBelow (fun k hk => by rw [hk]; have := HQ.out; omega) HBW.out.size)⟩
  · rw [if_pos trivial] at HSL
    clear HK HD HR
    have d0 : w4.cell? ⟨q + 1, 0, none⟩ = some (.slice A1 n1 c1) := by rw [blk_cell HS.out]; rfl
    have d1 : w4.cell? ⟨q + 1, 1, none⟩ = some (.int .u64 (N1 : Int)) := by rw [blk_cell HS.out]; rfl
    have d2 : w4.cell? ⟨q + 1, 2, none⟩ = some (.slice A2 n2 c2) := by rw [blk_cell HS.out]; rfl
    have d3 : w4.cell? ⟨q + 1, 3, none⟩ = some (.int .u64 (N2 : Int)) := by rw [blk_cell HS.out]; rfl
    have d4 : w4.cell? ⟨q + 1, 4, none⟩ = some (.int .u64 (born : Int)) := by rw [blk_cell HS.out]; rfl
    have d5 : w4.cell? ⟨q + 1, 5, none⟩ = some (.int .u64 (sent : Int)) := by rw [blk_cell HS.out]; rfl
    have d6 : w4.cell? ⟨q + 1, 6, none⟩ = some (.slice A3 n3 c3) := by rw [blk_cell HS.out]; rfl
    go_wp2_with ((with_reducible refine gate_store (t := 50) (p := 8) rfl ?_); go_loud (refine op_storeSt rfl rfl 50 _ _ rfl (q + 2) 0 #[.slice A1 n1 c1, .int .u64 (N1 : Int), .slice A2 n2 c2, .int .u64 (N2 : Int), .int .u64 (born : Int), .int .u64 (sent : Int), .slice A3 n3 c3] #[.slice none 0 0, .int .u64 0, .slice none 0 0, .int .u64 0, .int .u64 0, .int .u64 0, .slice none 0 0] _ rfl rfl _ HZ.out (by kernel_rfl) (by simp) (by simp [Value.oneCell']) rfl ?_); intro wz hbz hmz)
    refine bodyPost_ret (resc_3 rfl _ _ (q + 2) 50 _ (0, 0) _ rfl hbz Tryd.underlying50 rfl (by kernel_rfl)) rfl ?_
    rw [← hpost.out, HSL.out]
    exact ⟨_, rfl, Or.inl (OwnK.nil _ _ _ _), HBW.out.trans (hmz.toBelow (fun k hk => by rw [hk]; have := HQ.out; omega) HBW.out.size)⟩
def R22OPost (w : World) (k1 k2 ca : Sl) (N1 N2 born sent n : Nat) (v : Win) (l : List Nat) (D : Option Addr) (nd cd : Nat) (b : List Nat) (x : List Nat × Nat × Win) (e : Ending) (w' : World) : Prop :=
  ∃ vt ca', e = .returned (.tuple #[.agg (refS k1 N1 k2 N2 born sent ca'), vt, .int .i64 (x.2.1 : Int)]) ∧ (OwnK .u8 5 w.heap.size w' vt x.1 ∨ (vt = .slice D nd cd ∧ x.1 = b)) ∧ ((ca' = ca ∧ x.2.2 = v) ∨ (OwnK .u64 22 w.heap.size w' ca'.v (l ++ [n]) ∧ x.2.2 = markW v n ∧ checkR l n = 0)) ∧ Below w.heap.size w w'
set_option maxHeartbeats 8000000 in
set_option maxRecDepth 100000 in
theorem refopen22_calls {v : Win} (hw : WinOf v l) (hl : NRow w ca.A ca.n ca.c l) (hln : ca.n ≤ 1000000) (hk : Bytes w k2.A k2.n k2.c key2) (hn : n < 2 ^ 64) (hb : Bytes w D nd cd b) (hnd : nd ≤ 10000) (hnow : now < 2 ^ 64) :
    Calls Tryd.prog 25 #[r.v, .agg (refS k1 N1 k2 N2 born sent ca), .int .u64 (n : Int), .slice D nd cd, .int .u64 (now : Int)] w (R22OPost w k1 k2 ca N1 N2 born sent n v l D nd cd b (openS r born v key2 n b now)) := by
  obtain ⟨post, hpost⟩ : ∃ post, Aside0 (R22OPost w k1 k2 ca N1 N2 born sent n v l D nd cd b (openS r born v key2 n b now) = post) := ⟨_, ⟨rfl⟩⟩
  rw [hpost.out]
  have HSI := fun w => hd (refsince_calls (a := born) (b := now) (w := w))
  have HNOW := hd hnow
  have HK := hd hk
  have HD := hd hb
  have HL := hd hl
  have HLN := hd hln
  have HND := hd hnd
  have HNL := hd hn
  have hck := hw.check n
  have HSL := hd (show openS r born v key2 n b now = if oldB r born now then ([], 52, v) else if checkR l n ≠ 0 then ([], checkR l n, v) else if (useC key2 n b (openA key2 (nonceN n) [] b)).2.1 ≠ 0 then ([], (useC key2 n b (openA key2 (nonceN n) [] b)).2.1, v)
      else ((useC key2 n b (openA key2 (nonceN n) [] b)).1, 0, markW v n) by unfold openS; rw [hck])
  obtain ⟨u, hu⟩ : ∃ u, Aside0 (useC key2 n b (openA key2 (nonceN n) [] b) = u) := ⟨_, ⟨rfl⟩⟩
  rw [hu.out] at HSL
  obtain ⟨y, hy⟩ : ∃ y, y = sinceN born now := ⟨_, rfl⟩
  have hold : oldB r born now = decide (r.r4 ≤ y) := by rw [hy]; rfl
  rw [← hy] at HSI
  rw [hold] at HSL
  clear hck hold hw hl hln hk hn hb hnd hnow hy
  obtain ⟨r0, r1, r2, r3, r4, r5, r6⟩ := r
  obtain ⟨A1, n1, c1⟩ := k1
  obtain ⟨A2, n2, c2⟩ := k2
  obtain ⟨A3, n3, c3⟩ := ca
  unfold Rul.v refS
  dsimp only
  dsimp only at HK HL HLN HSL
  have a1 := below_alloc (Below.refl w.heap.size w) (.cells #[.int .u64 (r0 : Int), .int .u64 (r1 : Int), .int .i64 r2, .int .u64 (r3 : Int), .int .u64 (r4 : Int), .int .u64 (r5 : Int), .int .u64 (r6 : Int)] 27)
  have a2 := below_alloc (Below.refl _ (w.alloc (.cells #[.int .u64 (r0 : Int), .int .u64 (r1 : Int), .int .i64 r2, .int .u64 (r3 : Int), .int .u64 (r4 : Int), .int .u64 (r5 : Int), .int .u64 (r6 : Int)] 27))) (.cells #[.slice A1 n1 c1, .int .u64 (N1 : Int), .slice A2 n2 c2, .int .u64 (N2 : Int), .int .u64 (born : Int), .int .u64 (sent : Int), .slice A3 n3 c3] 50)
  have b1 := blk_new w (.cells #[.int .u64 (r0 : Int), .int .u64 (r1 : Int), .int .i64 r2, .int .u64 (r3 : Int), .int .u64 (r4 : Int), .int .u64 (r5 : Int), .int .u64 (r6 : Int)] 27)
  have b2 := blk_new (w.alloc (.cells #[.int .u64 (r0 : Int), .int .u64 (r1 : Int), .int .i64 r2, .int .u64 (r3 : Int), .int .u64 (r4 : Int), .int .u64 (r5 : Int), .int .u64 (r6 : Int)] 27)) (.cells #[.slice A1 n1 c1, .int .u64 (N1 : Int), .slice A2 n2 c2, .int .u64 (N2 : Int), .int .u64 (born : Int), .int .u64 (sent : Int), .slice A3 n3 c3] 50)
  rw [World.size_alloc] at b2
  have a3 := below_alloc (Below.refl _ ((w.alloc (.cells #[.int .u64 (r0 : Int), .int .u64 (r1 : Int), .int .i64 r2, .int .u64 (r3 : Int), .int .u64 (r4 : Int), .int .u64 (r5 : Int), .int .u64 (r6 : Int)] 27)).alloc (.cells #[.slice A1 n1 c1, .int .u64 (N1 : Int), .slice A2 n2 c2, .int .u64 (N2 : Int), .int .u64 (born : Int), .int .u64 (sent : Int), .slice A3 n3 c3] 50))) (.cells #[.slice none 0 0, .int .u64 0, .slice none 0 0, .int .u64 0, .int .u64 0, .int .u64 0, .slice none 0 0] 50)
  have b3 := blk_new ((w.alloc (.cells #[.int .u64 (r0 : Int), .int .u64 (r1 : Int), .int .i64 r2, .int .u64 (r3 : Int), .int .u64 (r4 : Int), .int .u64 (r5 : Int), .int .u64 (r6 : Int)] 27)).alloc (.cells #[.slice A1 n1 c1, .int .u64 (N1 : Int), .slice A2 n2 c2, .int .u64 (N2 : Int), .int .u64 (born : Int), .int .u64 (sent : Int), .slice A3 n3 c3] 50)) (.cells #[.slice none 0 0, .int .u64 0, .slice none 0 0, .int .u64 0, .int .u64 0, .int .u64 0, .slice none 0 0] 50)
  rw [World.size_alloc, World.size_alloc] at b3
  have HBW := hd (below_seq (below_seq a1 a2) a3)
  have HR := hd (blk_below (blk_below b1 a2) a3)
  have HS := hd (blk_below b2 a3)
  have HZ := hd b3
  clear a1 a2 a3 b1 b2 b3
  go_enter Tryd.func25, Tryd.ntmps25
  go_upto_region 1 with (fail)
  generalize (((w.alloc (.cells #[.int .u64 (r0 : Int), .int .u64 (r1 : Int), .int .i64 r2, .int .u64 (r3 : Int), .int .u64 (r4 : Int), .int .u64 (r5 : Int), .int .u64 (r6 : Int)] 27)).alloc (.cells #[.slice A1 n1 c1, .int .u64 (N1 : Int), .slice A2 n2 c2, .int .u64 (N2 : Int), .int .u64 (born : Int), .int .u64 (sent : Int), .slice A3 n3 c3] 50)).alloc (.cells #[.slice none 0 0, .int .u64 0, .slice none 0 0, .int .u64 0, .int .u64 0, .int .u64 0, .slice none 0 0] 50)) = w3 at HBW HR HS HZ ⊢
  obtain ⟨q, hq⟩ : ∃ q, w.heap.size = q := ⟨_, rfl⟩
  have HQ := hd (show w.heap.size ≤ q by omega)
  rw [hq] at HR HS HZ ⊢
  clear hq
  replace HK := hd (HK.out.below HBW.out)
  replace HD := hd (HD.out.below HBW.out)
  replace HL := hd (HL.out.below HBW.out)
  refine up_start [] [(0, true), (1, true), (2, true), (4, true), (5, true), (3, false), (6, true)] (by kernel_rfl) rfl (by kernel_rfl) (by kernel_rfl) ?_
  have hdr := below_drew (Below.refl w3.heap.size w3)
  replace HR := hd (blk_below HR.out hdr)
  replace HS := hd (blk_below HS.out hdr)
  replace HZ := hd (blk_below HZ.out hdr)
  replace HBW := hd (below_seq HBW.out hdr)
  replace HK := hd (HK.out.below hdr)
  replace HD := hd (HD.out.below hdr)
  replace HL := hd (HL.out.below hdr)
  generalize w3.drew = w4 at hdr HR HS HZ HBW HK HD HL ⊢
  clear hdr
  have t0 := Grow.cells (show w4.cell? ⟨q, 0, none⟩ = some (.int .u64 (r0 : Int)) by rw [blk_cell HR.out]; rfl)
  have t1 := Grow.cells (show w4.cell? ⟨q, 1, none⟩ = some (.int .u64 (r1 : Int)) by rw [blk_cell HR.out]; rfl)
  have t2 := Grow.cells (show w4.cell? ⟨q, 2, none⟩ = some (.int .i64 r2) by rw [blk_cell HR.out]; rfl)
  have t3 := Grow.cells (show w4.cell? ⟨q, 3, none⟩ = some (.int .u64 (r3 : Int)) by rw [blk_cell HR.out]; rfl)
  have t4 := Grow.cells (show w4.cell? ⟨q, 4, none⟩ = some (.int .u64 (r4 : Int)) by rw [blk_cell HR.out]; rfl)
  have t5 := Grow.cells (show w4.cell? ⟨q, 5, none⟩ = some (.int .u64 (r5 : Int)) by rw [blk_cell HR.out]; rfl)
  have t6 := Grow.cells (show w4.cell? ⟨q, 6, none⟩ = some (.int .u64 (r6 : Int)) by rw [blk_cell HR.out]; rfl)
  have u0 := Grow.cells (show w4.cell? ⟨q + 1, 0, none⟩ = some (.slice A1 n1 c1) by rw [blk_cell HS.out]; rfl)
  have u1 := Grow.cells (show w4.cell? ⟨q + 1, 1, none⟩ = some (.int .u64 (N1 : Int)) by rw [blk_cell HS.out]; rfl)
  have u2 := Grow.cells (show w4.cell? ⟨q + 1, 2, none⟩ = some (.slice A2 n2 c2) by rw [blk_cell HS.out]; rfl)
  have u3 := Grow.cells (show w4.cell? ⟨q + 1, 3, none⟩ = some (.int .u64 (N2 : Int)) by rw [blk_cell HS.out]; rfl)
  have u4 := Grow.cells (show w4.cell? ⟨q + 1, 4, none⟩ = some (.int .u64 (born : Int)) by rw [blk_cell HS.out]; rfl)
  have u5 := Grow.cells (show w4.cell? ⟨q + 1, 5, none⟩ = some (.int .u64 (sent : Int)) by rw [blk_cell HS.out]; rfl)
  have u6 := Grow.cells (show w4.cell? ⟨q + 1, 6, none⟩ = some (.slice A3 n3 c3) by rw [blk_cell HS.out]; rfl)
  refine seq_pure (i := 0) (N := some 17) (v := ?_) (a' := ?_) rfl rfl (by rfl) (fun _ _ _ h => h) ?_ ?_ ?_
  rotate_left 2
  · intro w' hg
    go_simp
    with_reducible rfl
  · simp only [Act.put, List.setIfInBounds_toArray, List.set_cons_zero, List.set_cons_succ, i64_w, i32_w]
    rfl
  refine seq_pure (i := 1) (N := some 18) (v := ?_) (a' := ?_) rfl rfl (by rfl) (fun _ _ _ h => h) ?_ ?_ ?_
  rotate_left 2
  · intro w' hg
    go_simp
    with_reducible rfl
  · simp only [Act.put, List.setIfInBounds_toArray, List.set_cons_zero, List.set_cons_succ, i64_w, i32_w]
    rfl
  refine seq_pure (i := 2) (N := some 19) (v := ?_) (a' := ?_) rfl rfl (by rfl) (fun _ _ _ h => h) ?_ ?_ ?_
  rotate_left 2
  · intro w' hg
    go_simp
    with_reducible rfl
  · simp only [Act.put, List.setIfInBounds_toArray, List.set_cons_zero, List.set_cons_succ, i64_w, i32_w]
    rfl
  refine seq_pure (i := 4) (N := some 21) (v := ?_) (a' := ?_) rfl rfl (by rfl) (fun _ _ _ h => h) ?_ ?_ ?_
  rotate_left 2
  · intro w' hg
    go_simp
    with_reducible rfl
  · simp only [Act.put, List.setIfInBounds_toArray, List.set_cons_zero, List.set_cons_succ, i64_w, i32_w]
    rfl
  refine seq_pure (i := 5) (N := some 22) (v := ?_) (a' := ?_) rfl rfl (by rfl) (fun _ _ _ h => h) ?_ ?_ ?_
  rotate_left 2
  · intro w' hg
    go_simp
    with_reducible rfl
  · simp only [Act.put, List.setIfInBounds_toArray, List.set_cons_zero, List.set_cons_succ, i64_w, i32_w]
    rfl
  refine seq_call (i := 3) (N := some 20) rfl rfl Tryd.func54 (by kernel_rfl) rfl #[.int .u64 (born : Int), .int .u64 (now : Int)] (by rfl) rfl ?_ ?_
  · simp only [List.map_toArray, List.map_cons, List.map_nil]
    rfl
  refine (HSI w4).out.mono ?_
  rintro e w6 h
  obtain ⟨rfl, rfl⟩ := h HNOW.out
  refine ⟨_, rfl, fun _ => Below.refl _ _, ?_⟩
  refine seq_norm (a' := ?_) ?_ ?_
  rotate_left
  · show Act.put _ (some 20) _ = _
    simp only [Act.put, List.setIfInBounds_toArray, List.set_cons_zero, List.set_cons_succ, i64_w, i32_w]
    rfl
  refine seq_pure (i := 6) (N := some 23) (v := ?_) (a' := ?_) rfl rfl (by rfl) (fun _ _ _ h => h) ?_ ?_ ?_
  rotate_left 2
  · intro w' hg
    go_simp
    with_reducible rfl
  · simp only [Act.put, List.setIfInBounds_toArray, List.set_cons_zero, List.set_cons_succ, i64_w, i32_w]
    rfl
  refine seq_done ?_
  go_upto_if 23 with (fail)
  clear HR t0 t1 t2 t3 t4 t5 t6 u0 u1 u2 u3 u4 u5 u6
  cases ho : decide (r4 ≤ y)
  · rw [ho, if_neg (by simp)] at HSL
    have ho' : decide ((r4 : Int) ≤ (y : Int)) = false := by simpa using ho
    have d6 : w4.cell? ⟨q + 1, 6, none⟩ = some (.slice A3 n3 c3) := by rw [blk_cell HS.out]; rfl
    have d2 : w4.cell? ⟨q + 1, 2, none⟩ = some (.slice A2 n2 c2) := by rw [blk_cell HS.out]; rfl
    have HCK := hd (refcheck_calls (x := n) HL.out)
    have HMK := fun (h : checkR l n = 0) => fun (wy : World) (hb : Below w4.heap.size w4 wy) => hd (refmark_calls (HL.out.below hb) HNL.out HLN.out h)
    obtain ⟨ck, hck⟩ : ∃ ck, Aside0 (checkR l n = ck) := ⟨_, ⟨rfl⟩⟩
    rw [hck.out] at HSL HCK HMK
    go_wp2_with fail
    refine HCK.out.mono ?_
    rintro e _ ⟨rfl, rfl⟩
    by_cases hc0 : ck = 0
    · subst hc0
      rw [if_neg (by simp)] at HSL
      have HSE := hd (refopen16_calls (C := none) (nc := 0) (cc := 0) (ad := []) HK.out HNL.out (Bytes.nil _ _ _) HD.out (by decide) HND.out)
      rw [hu.out] at HSE
      go_wp2_with fail
      refine HSE.out.mono ?_
      rintro e w5 ⟨vt, rfl, hv, hb5⟩
      have HSZ := hd HBW.out.size
      have HM5 := hd (HMK (by first | rfl | trivial))
      replace HS := hd (blk_below HS.out hb5)
      replace HZ := hd (blk_below HZ.out hb5)
      replace HBW := hd (below_seq HBW.out hb5)
      replace HK := hd (HK.out.below hb5)
      replace HD := hd (HD.out.below hb5)
      replace HL := hd (HL.out.below hb5)
      have hv' : OwnK .u8 5 w.heap.size w5 vt u.1 ∨ (vt = .slice D nd cd ∧ u.1 = b) := hv.imp (fun h => h.lower HSZ.out) id
      clear d2 d6 HSE hv HSZ HMK HCK
      go_upto_region 7 with (fail)
      have hal := below_alloc (Below.refl w5.heap.size w5) (.cells #[.slice A2 n2 c2, .int .u64 (u.2.2 : Int)] 48)
      have HV := hd (show OwnK .u8 5 w.heap.size (w5.alloc (.cells #[.slice A2 n2 c2, .int .u64 (u.2.2 : Int)] 48)) vt u.1 ∨ (vt = .slice D nd cd ∧ u.1 = b) from hv'.imp (fun h => h.below hal) id)
      have HB46 := hd (below_seq hb5 hal)
      replace HS := hd (blk_below HS.out hal)
      replace HZ := hd (blk_below HZ.out hal)
      replace HBW := hd (below_seq HBW.out hal)
      replace HK := hd (HK.out.below hal)
      replace HD := hd (HD.out.below hal)
      replace HL := hd (HL.out.below hal)
      generalize w5.alloc (.cells #[.slice A2 n2 c2, .int .u64 (u.2.2 : Int)] 48) = w6 at hal HV HS HZ HBW HK HD HL HB46 ⊢
      clear hal hv' hb5
      by_cases hr : u.2.1 = 0
      · rw [if_neg (by simp [hr])] at HSL
        rw [hr, show ((0 : Nat) : Int) = 0 from rfl]
        clear hr
        have d6 : w6.cell? ⟨q + 1, 6, none⟩ = some (.slice A3 n3 c3) := by rw [blk_cell HS.out]; rfl
        have HMK := (HM5.out w6 HB46.out)
        go_wp2_with fail
        refine HMK.out.mono ?_
        rintro e w7 ⟨vc, rfl, hoc, hb7⟩
        obtain ⟨A4, c4, rfl, _, _⟩ := hoc.slice
        obtain ⟨n4, hn4⟩ : ∃ n4, n4 = (l ++ [n]).length := ⟨_, rfl⟩
        rw [← hn4] at hoc ⊢
        have HSZ := hd HBW.out.size
        have HOC := hd (hoc.lower HSZ.out)
        replace HV := hd (HV.out.imp (fun h => h.below hb7) id)
        replace HS := hd (blk_below HS.out hb7)
        replace HZ := hd (blk_below HZ.out hb7)
        replace HBW := hd (below_seq HBW.out hb7)
        clear d6 HMK hoc hb7 hn4 HSZ HM5 HK HD HL HB46
        have z6 : (w7).cell? ⟨q + 1, 6, none⟩ = some (.slice A3 n3 c3) := by rw [blk_cell (HS.out)]; rfl
        have zf6 := blk_frozen (HS.out) 6
        go_upto_region 10 with (fail)
        have hm := (Mod.set (S := fun k => k = q + 1) (g := q + 1) (i := 6) (w7) rfl (.slice A4 n4 c4))
        have hsb := blk_set (HS.out) 6 (.slice A4 n4 c4)
        replace HBW := hd (HBW.out.trans (hm.toBelow (fun k hk => by rw [hk]; have := HQ.out; omega) HBW.out.size))
        replace HV := hd (HV.out.imp (fun h => h.mod hm (Apart.one HS.out (by decide))) id)
        replace HOC := hd (HOC.out.mod hm (Apart.one HS.out (by decide)))
        replace HZ := hd (hm.block HZ.out (by omega))
        replace HS := hd hsb
        clear z6 zf6
        clear hm hsb
        generalize (w7).setCell ⟨q + 1, 6, none⟩ (.slice A4 n4 c4) = w8 at HBW HV HOC HZ HS ⊢
        have d0 : w8.cell? ⟨q + 1, 0, none⟩ = some (.slice A1 n1 c1) := by rw [blk_cell HS.out]; rfl
        have d1 : w8.cell? ⟨q + 1, 1, none⟩ = some (.int .u64 (N1 : Int)) := by rw [blk_cell HS.out]; rfl
        have d2 : w8.cell? ⟨q + 1, 2, none⟩ = some (.slice A2 n2 c2) := by rw [blk_cell HS.out]; rfl
        have d3 : w8.cell? ⟨q + 1, 3, none⟩ = some (.int .u64 (N2 : Int)) := by rw [blk_cell HS.out]; rfl
        have d4 : w8.cell? ⟨q + 1, 4, none⟩ = some (.int .u64 (born : Int)) := by rw [blk_cell HS.out]; rfl
        have d5 : w8.cell? ⟨q + 1, 5, none⟩ = some (.int .u64 (sent : Int)) := by rw [blk_cell HS.out]; rfl
        have d6 : w8.cell? ⟨q + 1, 6, none⟩ = some (.slice A4 n4 c4) := by rw [blk_cell HS.out]; rfl
        go_wp2_with ((with_reducible refine gate_store (t := 50) (p := 10) rfl ?_); go_loud (refine op_storeSt rfl rfl 50 _ _ rfl (q + 2) 0 #[.slice A1 n1 c1, .int .u64 (N1 : Int), .slice A2 n2 c2, .int .u64 (N2 : Int), .int .u64 (born : Int), .int .u64 (sent : Int), .slice A4 n4 c4] #[.slice none 0 0, .int .u64 0, .slice none 0 0, .int .u64 0, .int .u64 0, .int .u64 0, .slice none 0 0] _ rfl rfl _ HZ.out (by kernel_rfl) (by simp) (by simp [Value.oneCell']) rfl ?_); intro wz hbz hmz)
        refine bodyPost_ret (resc_2 rfl _ _ (q + 2) 50 _ (0, 0) _ rfl hbz Tryd.underlying50 rfl (by kernel_rfl)) rfl ?_
        rw [← hpost.out, HSL.out]
        exact ⟨vt, ⟨A4, n4, c4⟩, rfl, HV.out.imp (fun h => h.mod hmz (Apart.one HZ.out (by decide))) id, Or.inr ⟨HOC.out.mod hmz (Apart.one HZ.out (by decide)), rfl, hck.out⟩, HBW.out.trans (hmz.toBelow (fun k hk => by rw [hk]; have := HQ.out; omega) HBW.out.size)⟩
      · rw [if_pos hr] at HSL
        have q1 : (((u.2.1 : Nat) : Int) != 0) = true := by simp; exact hr
        have q2 : (((u.2.1 : Nat) : Int) == 0) = false := by simp; exact hr
        clear HK HD HL HM5 HB46
        have d0 : w6.cell? ⟨q + 1, 0, none⟩ = some (.slice A1 n1 c1) := by rw [blk_cell HS.out]; rfl
        have d1 : w6.cell? ⟨q + 1, 1, none⟩ = some (.int .u64 (N1 : Int)) := by rw [blk_cell HS.out]; rfl
        have d2 : w6.cell? ⟨q + 1, 2, none⟩ = some (.slice A2 n2 c2) := by rw [blk_cell HS.out]; rfl
        have d3 : w6.cell? ⟨q + 1, 3, none⟩ = some (.int .u64 (N2 : Int)) := by rw [blk_cell HS.out]; rfl
        have d4 : w6.cell? ⟨q + 1, 4, none⟩ = some (.int .u64 (born : Int)) := by rw [blk_cell HS.out]; rfl
        have d5 : w6.cell? ⟨q + 1, 5, none⟩ = some (.int .u64 (sent : Int)) := by rw [blk_cell HS.out]; rfl
        have d6 : w6.cell? ⟨q + 1, 6, none⟩ = some (.slice A3 n3 c3) := by rw [blk_cell HS.out]; rfl
        clear hr
        go_wp2_with ((with_reducible refine gate_store (t := 50) (p := 10) rfl ?_); go_loud (refine op_storeSt rfl rfl 50 _ _ rfl (q + 2) 0 #[.slice A1 n1 c1, .int .u64 (N1 : Int), .slice A2 n2 c2, .int .u64 (N2 : Int), .int .u64 (born : Int), .int .u64 (sent : Int), .slice A3 n3 c3] #[.slice none 0 0, .int .u64 0, .slice none 0 0, .int .u64 0, .int .u64 0, .int .u64 0, .slice none 0 0] _ rfl rfl _ HZ.out (by kernel_rfl) (by simp) (by simp [Value.oneCell']) rfl ?_); intro wz hbz hmz)
        refine bodyPost_ret (resc_2 rfl _ _ (q + 2) 50 _ (0, 0) _ rfl hbz Tryd.underlying50 rfl (by kernel_rfl)) rfl ?_
        rw [← hpost.out, HSL.out]
        exact ⟨_, ⟨A3, n3, c3⟩, rfl, Or.inl (OwnK.nil _ _ _ _), Or.inl ⟨rfl, rfl⟩, HBW.out.trans (hmz.toBelow (fun k hk => by rw [hk]; have := HQ.out; omega) HBW.out.size)⟩
    · rw [if_pos hc0] at HSL
      have q1 : ((ck : Int) != 0) = true := by simp; exact hc0
      have q2 : ((ck : Int) == 0) = false := by simp; exact hc0
      clear HK HD HL HMK HCK d2 d6 hc0
      have d0 : w4.cell? ⟨q + 1, 0, none⟩ = some (.slice A1 n1 c1) := by rw [blk_cell HS.out]; rfl
      have d1 : w4.cell? ⟨q + 1, 1, none⟩ = some (.int .u64 (N1 : Int)) := by rw [blk_cell HS.out]; rfl
      have d2 : w4.cell? ⟨q + 1, 2, none⟩ = some (.slice A2 n2 c2) := by rw [blk_cell HS.out]; rfl
      have d3 : w4.cell? ⟨q + 1, 3, none⟩ = some (.int .u64 (N2 : Int)) := by rw [blk_cell HS.out]; rfl
      have d4 : w4.cell? ⟨q + 1, 4, none⟩ = some (.int .u64 (born : Int)) := by rw [blk_cell HS.out]; rfl
      have d5 : w4.cell? ⟨q + 1, 5, none⟩ = some (.int .u64 (sent : Int)) := by rw [blk_cell HS.out]; rfl
      have d6 : w4.cell? ⟨q + 1, 6, none⟩ = some (.slice A3 n3 c3) := by rw [blk_cell HS.out]; rfl
      go_wp2_with ((with_reducible refine gate_store (t := 50) (p := 10) rfl ?_); go_loud (refine op_storeSt rfl rfl 50 _ _ rfl (q + 2) 0 #[.slice A1 n1 c1, .int .u64 (N1 : Int), .slice A2 n2 c2, .int .u64 (N2 : Int), .int .u64 (born : Int), .int .u64 (sent : Int), .slice A3 n3 c3] #[.slice none 0 0, .int .u64 0, .slice none 0 0, .int .u64 0, .int .u64 0, .int .u64 0, .slice none 0 0] _ rfl rfl _ HZ.out (by kernel_rfl) (by simp) (by simp [Value.oneCell']) rfl ?_); intro wz hbz hmz)
      refine bodyPost_ret (resc_2 rfl _ _ (q + 2) 50 _ (0, 0) _ rfl hbz Tryd.underlying50 rfl (by kernel_rfl)) rfl ?_
      rw [← hpost.out, HSL.out]
      exact ⟨_, ⟨A3, n3, c3⟩, rfl, Or.inl (OwnK.nil _ _ _ _), Or.inl ⟨rfl, rfl⟩, HBW.out.trans (hmz.toBelow (fun k hk => by rw [hk]; have := HQ.out; omega) HBW.out.size)⟩
  · rw [ho, if_pos rfl] at HSL
    have ho' : decide ((r4 : Int) ≤ (y : Int)) = true := by simpa using ho
    clear HK HD HL
    have d0 : w4.cell? ⟨q + 1, 0, none⟩ = some (.slice A1 n1 c1) := by rw [blk_cell HS.out]; rfl
    have d1 : w4.cell? ⟨q + 1, 1, none⟩ = some (.int .u64 (N1 : Int)) := by rw [blk_cell HS.out]; rfl
    have d2 : w4.cell? ⟨q + 1, 2, none⟩ = some (.slice A2 n2 c2) := by rw [blk_cell HS.out]; rfl
    have d3 : w4.cell? ⟨q + 1, 3, none⟩ = some (.int .u64 (N2 : Int)) := by rw [blk_cell HS.out]; rfl
    have d4 : w4.cell? ⟨q + 1, 4, none⟩ = some (.int .u64 (born : Int)) := by rw [blk_cell HS.out]; rfl
    have d5 : w4.cell? ⟨q + 1, 5, none⟩ = some (.int .u64 (sent : Int)) := by rw [blk_cell HS.out]; rfl
    have d6 : w4.cell? ⟨q + 1, 6, none⟩ = some (.slice A3 n3 c3) := by rw [blk_cell HS.out]; rfl
    go_wp2_with ((with_reducible refine gate_store (t := 50) (p := 10) rfl ?_); go_loud (refine op_storeSt rfl rfl 50 _ _ rfl (q + 2) 0 #[.slice A1 n1 c1, .int .u64 (N1 : Int), .slice A2 n2 c2, .int .u64 (N2 : Int), .int .u64 (born : Int), .int .u64 (sent : Int), .slice A3 n3 c3] #[.slice none 0 0, .int .u64 0, .slice none 0 0, .int .u64 0, .int .u64 0, .int .u64 0, .slice none 0 0] _ rfl rfl _ HZ.out (by kernel_rfl) (by simp) (by simp [Value.oneCell']) rfl ?_); intro wz hbz hmz)
    refine bodyPost_ret (resc_2 rfl _ _ (q + 2) 50 _ (0, 0) _ rfl hbz Tryd.underlying50 rfl (by kernel_rfl)) rfl ?_
    rw [← hpost.out, HSL.out]
    exact ⟨_, ⟨A3, n3, c3⟩, rfl, Or.inl (OwnK.nil _ _ _ _), Or.inl ⟨rfl, rfl⟩, HBW.out.trans (hmz.toBelow (fun k hk => by rw [hk]; have := HQ.out; omega) HBW.out.size)⟩
end
end Go.Proofs.YtlgdplodglchaaaDoor
