/- SessionWaits: the walk. -/
import Derived.Test.YtlgdplodglchaaaDoorGSesG
import Derived.Test.YtlgdplodglchaaaDoorRefT
import Derived.Test.YtlgdplodglchaaaDoorNRow
import Derived.Test.YtlgdplodglchaaaDoorUq2
import Derived.Deep.Cut
import Derived.Deep.DeepCutAuto
set_option linter.unusedVariables false
set_option linter.unusedSimpArgs false
namespace Go.Proofs.YtlgdplodglchaaaDoor
open Go.RowKit Go.Proofs.YtlgdplodglchaaaDoorW.PrintWords Go.Proofs.YtlgdplodglchaaaDoorW.PrintLast Go.Proofs.YtlgdplodglchaaaDoorW.PrintMore
set_option maxHeartbeats 40000000 in
set_option maxRecDepth 100000 in
theorem sessionWaits_walk (W : World) (hpl : PlacesAt W) (r : Rul) (hr : r.all) (tries : Int) (htw : (Lit.int .i64 tries).wf = true) (start : Int) (hsw : (Lit.int .u64 start).wf = true) {A : Option Addr} {n c : Nat} {l : List Nat} (hz : NRow W A n c l) :
    Calls Tryd.prog 3 #[r.v, .int .i64 tries, .int .u64 start, .slice A n c] W fun e w' => e = .returned (.bool true) ∧ Below W.heap.size W w' := by
  obtain ⟨s, rfl, hs⟩ : ∃ s : Nat, start = (s : Int) ∧ s < 2 ^ 64 := by
    have := bounds_u64 hsw
    exact ⟨start.toNat, by omega, by omega⟩
  have hrok : r.ok := ⟨hr.1, hr.2.1⟩
  have HROK := hd hrok
  have HS := hd hs
  have HZ := hd hz
  have HZW := hd hz
  have HPL := hd hpl
  clear hsw htw hz hrok hs hpl
  obtain ⟨r0, r1, r2, r3, r4, r5, r6⟩ := r
  unfold Rul.v
  dsimp only
  have HRA := hd hr
  clear hr
  go_enter Tryd.func3, Tryd.ntmps3
  go_upto_region 1 with (fail)
  have hrb := blk_new W (.cells #[.int .u64 (r0 : Int), .int .u64 (r1 : Int), .int .i64 r2, .int .u64 (r3 : Int), .int .u64 (r4 : Int), .int .u64 (r5 : Int), .int .u64 (r6 : Int)] 24)
  have hal := below_alloc (Below.refl W.heap.size W) (.cells #[.int .u64 (r0 : Int), .int .u64 (r1 : Int), .int .i64 r2, .int .u64 (r3 : Int), .int .u64 (r4 : Int), .int .u64 (r5 : Int), .int .u64 (r6 : Int)] 24)
  replace HZ := hd (HZ.out.below hal)
  generalize W.alloc (.cells #[.int .u64 (r0 : Int), .int .u64 (r1 : Int), .int .i64 r2, .int .u64 (r3 : Int), .int .u64 (r4 : Int), .int .u64 (r5 : Int), .int .u64 (r6 : Int)] 24) = w1 at hrb hal HZ ⊢
  obtain ⟨q, hq⟩ : ∃ q, Aside0 (W.heap.size = q) := ⟨_, ⟨rfl⟩⟩
  rw [hq.out] at hrb ⊢
  go_wp2_with fail
  refine (awake_calls (HPL.out.below hal)).mono ?_
  rintro e w2 ⟨rfl, hb2⟩
  have HRB := hd (blk_below hrb hb2)
  have HBW := hd (below_seq hal hb2)
  replace HZ := hd (HZ.out.below hb2)
  clear hrb hal hb2 HPL
  by_cases h100 : 100 < tries
  · have q100 : decide ((100 : Int) < tries) = true := by simp; exact h100
    go_wp2
    go_ret
    exact ⟨rfl, HBW.out⟩
  have q100 : decide ((100 : Int) < tries) = false := by simp; omega
  have HTR := hd (show tries ≤ 100 by omega)
  clear h100
  have x0 : w2.cell? ⟨q, 0, none⟩ = some (.int .u64 (r0 : Int)) := by rw [blk_cell HRB.out]; rfl
  have x1 : w2.cell? ⟨q, 1, none⟩ = some (.int .u64 (r1 : Int)) := by rw [blk_cell HRB.out]; rfl
  have x2 : w2.cell? ⟨q, 2, none⟩ = some (.int .i64 r2) := by rw [blk_cell HRB.out]; rfl
  have x3 : w2.cell? ⟨q, 3, none⟩ = some (.int .u64 (r3 : Int)) := by rw [blk_cell HRB.out]; rfl
  have x4 : w2.cell? ⟨q, 4, none⟩ = some (.int .u64 (r4 : Int)) := by rw [blk_cell HRB.out]; rfl
  have x5 : w2.cell? ⟨q, 5, none⟩ = some (.int .u64 (r5 : Int)) := by rw [blk_cell HRB.out]; rfl
  have x6 : w2.cell? ⟨q, 6, none⟩ = some (.int .u64 (r6 : Int)) := by rw [blk_cell HRB.out]; rfl
  go_upto_region 6 with (fail)
  go_wp2_with fail
  refine (rules_calls (r := ⟨r0, r1, r2, r3, r4, r5, r6⟩)).mono ?_
  rintro e w3 ⟨rfl, hb3⟩
  replace HRB := hd (blk_below HRB.out hb3)
  replace HBW := hd (below_seq HBW.out hb3)
  replace HZ := hd (HZ.out.below hb3)
  clear hb3 x0 x1 x2 x3 x4 x5 x6
  unfold Rul.v
  dsimp only
  go_upto_region 7 with (fail)
  have hal := below_alloc (Below.refl w3.heap.size w3) (.cells #[.int .u64 (r0 : Int), .int .u64 (r1 : Int), .int .i64 r2, .int .u64 (r3 : Int), .int .u64 (r4 : Int), .int .u64 (r5 : Int), .int .u64 (r6 : Int)] 27)
  have HQB := hd (blk_new w3 (.cells #[.int .u64 (r0 : Int), .int .u64 (r1 : Int), .int .i64 r2, .int .u64 (r3 : Int), .int .u64 (r4 : Int), .int .u64 (r5 : Int), .int .u64 (r6 : Int)] 27))
  replace HRB := hd (blk_below HRB.out hal)
  replace HBW := hd (below_seq HBW.out hal)
  replace HZ := hd (HZ.out.below hal)
  generalize w3.alloc (.cells #[.int .u64 (r0 : Int), .int .u64 (r1 : Int), .int .i64 r2, .int .u64 (r3 : Int), .int .u64 (r4 : Int), .int .u64 (r5 : Int), .int .u64 (r6 : Int)] 27) = w4 at hal HQB HRB HBW HZ ⊢
  obtain ⟨p, hp⟩ : ∃ p, Aside0 (w3.heap.size = p) := ⟨_, ⟨rfl⟩⟩
  rw [hp.out] at HQB ⊢
  clear hal
  have HWT := fun w => hd (wait_calls (r2 := r2) (r3 := r3) (r4 := r4) (r5 := r5) (r6 := r6) (tries := tries) (w := w) HROK.out.1 HROK.out.2 (by have := HTR.out; omega))
  have HRW := fun w => hd (refwait_calls (tries := tries) (w := w) HROK.out (by have := HTR.out; omega))
  unfold Rul.v at HRW
  dsimp only at HWT HRW
  generalize waitF r0 r1 tries = x at HWT HRW
  refine up_start [] [(0, true), (1, true), (3, true), (4, true), (2, false), (5, false), (6, true)] (by kernel_rfl) rfl (by kernel_rfl) (by kernel_rfl) ?_
  have hdr := below_drew (Below.refl w4.heap.size w4)
  replace HRB := hd (blk_below HRB.out hdr)
  replace HQB := hd (blk_below HQB.out hdr)
  replace HBW := hd (below_seq HBW.out hdr)
  generalize w4.drew = w5 at hdr HRB HQB HBW ⊢
  clear hdr
  have t0 := Grow.cells (show w5.cell? ⟨q, 0, none⟩ = some (.int .u64 (r0 : Int)) by rw [blk_cell HRB.out]; rfl)
  have t1 := Grow.cells (show w5.cell? ⟨q, 1, none⟩ = some (.int .u64 (r1 : Int)) by rw [blk_cell HRB.out]; rfl)
  have t2 := Grow.cells (show w5.cell? ⟨q, 2, none⟩ = some (.int .i64 r2) by rw [blk_cell HRB.out]; rfl)
  have t3 := Grow.cells (show w5.cell? ⟨q, 3, none⟩ = some (.int .u64 (r3 : Int)) by rw [blk_cell HRB.out]; rfl)
  have t4 := Grow.cells (show w5.cell? ⟨q, 4, none⟩ = some (.int .u64 (r4 : Int)) by rw [blk_cell HRB.out]; rfl)
  have t5 := Grow.cells (show w5.cell? ⟨q, 5, none⟩ = some (.int .u64 (r5 : Int)) by rw [blk_cell HRB.out]; rfl)
  have t6 := Grow.cells (show w5.cell? ⟨q, 6, none⟩ = some (.int .u64 (r6 : Int)) by rw [blk_cell HRB.out]; rfl)
  have u0 := Grow.cells (show w5.cell? ⟨p, 0, none⟩ = some (.int .u64 (r0 : Int)) by rw [blk_cell HQB.out]; rfl)
  have u1 := Grow.cells (show w5.cell? ⟨p, 1, none⟩ = some (.int .u64 (r1 : Int)) by rw [blk_cell HQB.out]; rfl)
  have u2 := Grow.cells (show w5.cell? ⟨p, 2, none⟩ = some (.int .i64 r2) by rw [blk_cell HQB.out]; rfl)
  have u3 := Grow.cells (show w5.cell? ⟨p, 3, none⟩ = some (.int .u64 (r3 : Int)) by rw [blk_cell HQB.out]; rfl)
  have u4 := Grow.cells (show w5.cell? ⟨p, 4, none⟩ = some (.int .u64 (r4 : Int)) by rw [blk_cell HQB.out]; rfl)
  have u5 := Grow.cells (show w5.cell? ⟨p, 5, none⟩ = some (.int .u64 (r5 : Int)) by rw [blk_cell HQB.out]; rfl)
  have u6 := Grow.cells (show w5.cell? ⟨p, 6, none⟩ = some (.int .u64 (r6 : Int)) by rw [blk_cell HQB.out]; rfl)
  refine seq_pure (i := 0) (N := some 24) (v := ?_) (a' := ?_) rfl rfl (by rfl) (fun _ _ _ h => h) ?_ ?_ ?_
  rotate_left 2
  · intro w' hg
    go_simp
    with_reducible rfl
  · simp only [Act.put, List.setIfInBounds_toArray, List.set_cons_zero, List.set_cons_succ, i64_w, i32_w]
    rfl
  refine seq_pure (i := 1) (N := some 25) (v := ?_) (a' := ?_) rfl rfl (by rfl) (fun _ _ _ h => h) ?_ ?_ ?_
  rotate_left 2
  · intro w' hg
    go_simp
    with_reducible rfl
  · simp only [Act.put, List.setIfInBounds_toArray, List.set_cons_zero, List.set_cons_succ, i64_w, i32_w]
    rfl
  refine seq_pure (i := 3) (N := some 27) (v := ?_) (a' := ?_) rfl rfl (by rfl) (fun _ _ _ h => h) ?_ ?_ ?_
  rotate_left 2
  · intro w' hg
    go_simp
    with_reducible rfl
  · simp only [Act.put, List.setIfInBounds_toArray, List.set_cons_zero, List.set_cons_succ, i64_w, i32_w]
    rfl
  refine seq_pure (i := 4) (N := some 28) (v := ?_) (a' := ?_) rfl rfl (by rfl) (fun _ _ _ h => h) ?_ ?_ ?_
  rotate_left 2
  · intro w' hg
    go_simp
    with_reducible rfl
  · simp only [Act.put, List.setIfInBounds_toArray, List.set_cons_zero, List.set_cons_succ, i64_w, i32_w]
    rfl
  refine seq_call (i := 2) (N := some 26) rfl rfl Tryd.func14 (by kernel_rfl) rfl #[.agg #[.int .u64 (r0 : Int), .int .u64 (r1 : Int), .int .i64 r2, .int .u64 (r3 : Int), .int .u64 (r4 : Int), .int .u64 (r5 : Int), .int .u64 (r6 : Int)], .int .i64 tries] (by rfl) rfl ?_ ?_
  · simp only [List.map_toArray, List.map_cons, List.map_nil]
    rfl
  refine (HWT w5).out.mono ?_
  rintro e w6 ⟨rfl, hb6⟩
  refine ⟨_, rfl, fun _ => hb6, ?_⟩
  refine seq_norm (a' := ?_) ?_ ?_
  rotate_left
  · show Act.put _ (some 26) _ = _
    simp only [Act.put, List.setIfInBounds_toArray, List.set_cons_zero, List.set_cons_succ, i64_w, i32_w]
    rfl
  refine seq_call (i := 5) (N := some 29) rfl rfl Tryd.func15 (by kernel_rfl) rfl #[.agg #[.int .u64 (r0 : Int), .int .u64 (r1 : Int), .int .i64 r2, .int .u64 (r3 : Int), .int .u64 (r4 : Int), .int .u64 (r5 : Int), .int .u64 (r6 : Int)], .int .i64 tries] (by rfl) rfl ?_ ?_
  · simp only [List.map_toArray, List.map_cons, List.map_nil]
    rfl
  refine (HRW w6).out.mono ?_
  rintro e w7 ⟨rfl, hb7⟩
  replace HRB := hd (blk_below (blk_below HRB.out hb6) hb7)
  replace HQB := hd (blk_below (blk_below HQB.out hb6) hb7)
  replace HBW := hd (below_seq (below_seq HBW.out hb6) hb7)
  refine ⟨_, rfl, fun _ => hb7, ?_⟩
  clear hb6 hb7
  refine seq_norm (a' := ?_) ?_ ?_
  rotate_left
  · show Act.put _ (some 29) _ = _
    simp only [Act.put, List.setIfInBounds_toArray, List.set_cons_zero, List.set_cons_succ, i64_w, i32_w]
    rfl
  refine seq_pure (i := 6) (N := some 30) (v := ?_) (a' := ?_) rfl rfl (by rfl) (fun _ _ _ h => h) ?_ ?_ ?_
  rotate_left 2
  · intro w' hg
    go_simp
    with_reducible rfl
  · simp only [Act.put, List.setIfInBounds_toArray, List.set_cons_zero, List.set_cons_succ, i64_w, i32_w]
    rfl
  refine seq_done ?_
  clear HWT HRW
  go_upto_region 9 with (fail)
  clear t0 t1 t2 t3 t4 t5 t6 u0 u1 u2 u3 u4 u5 u6
  have x0 : w7.cell? ⟨q, 0, none⟩ = some (.int .u64 (r0 : Int)) := by rw [blk_cell HRB.out]; rfl
  have x1 : w7.cell? ⟨q, 1, none⟩ = some (.int .u64 (r1 : Int)) := by rw [blk_cell HRB.out]; rfl
  have x2 : w7.cell? ⟨q, 2, none⟩ = some (.int .i64 r2) := by rw [blk_cell HRB.out]; rfl
  have x3 : w7.cell? ⟨q, 3, none⟩ = some (.int .u64 (r3 : Int)) := by rw [blk_cell HRB.out]; rfl
  have x4 : w7.cell? ⟨q, 4, none⟩ = some (.int .u64 (r4 : Int)) := by rw [blk_cell HRB.out]; rfl
  have x5 : w7.cell? ⟨q, 5, none⟩ = some (.int .u64 (r5 : Int)) := by rw [blk_cell HRB.out]; rfl
  have x6 : w7.cell? ⟨q, 6, none⟩ = some (.int .u64 (r6 : Int)) := by rw [blk_cell HRB.out]; rfl
  have HB7 := HBW
  go_wp2_with fail
  refine (start_calls (r := ⟨r0, r1, r2, r3, r4, r5, r6⟩) (now := s)).mono ?_
  rintro e w8 ⟨rfl, ht8, hb8⟩
  replace HQB := hd (blk_below HQB.out hb8)
  replace HBW := hd (below_seq HBW.out hb8)
  obtain ⟨g, hg⟩ : ∃ g, g = w7.heap.size + 1 := ⟨_, rfl⟩
  rw [← hg] at ht8 ⊢
  have HGL := hd (show W.heap.size ≤ g by have := HB7.out.size; omega)
  clear x0 x1 x2 x3 x4 x5 x6 hb8 hg
  have HTM := hd ht8
  have HB8 := HBW
  clear ht8
  go_upto_region 11 with (fail)
  have hal := below_alloc (Below.refl w8.heap.size w8) (.cells #[.int .u64 (s : Int), .int .i64 0] 34)
  have HMB := hd (blk_new w8 (.cells #[.int .u64 (s : Int), .int .i64 0] 34))
  replace HTM := hd (HTM.out.below hal)
  replace HQB := hd (blk_below HQB.out hal)
  replace HBW := hd (below_seq HBW.out hal)
  generalize w8.alloc (.cells #[.int .u64 (s : Int), .int .i64 0] 34) = w9 at hal HMB HTM HQB HBW ⊢
  obtain ⟨m, hm⟩ : ∃ m, m = w8.heap.size := ⟨_, rfl⟩
  rw [← hm] at HMB ⊢
  have HMG := hd (show W.heap.size ≤ m by rw [hm]; exact HB8.out.size)
  have HGG := hd HGL.out
  clear hm
  clear hal
  have HZ0 := HZW
  clear HZ HZW
  go_upto_region 12 with (fail)
  go_loopw [13] (fun u13 wr => ∃ (i last : Nat) (tr : Int), i ≤ 50 ∧ u13 = .int .i64 i ∧ Aside0 (0 ≤ tr ∧ tr ≤ i ∧ last < 2 ^ 64) ∧ Aside0 (TimAt wr g ⟨r0, r1, r2, r3, r4, r5, r6⟩ last tr) ∧ Aside0 (wr.heap[m]? = some (.cells #[.int .u64 (last : Int), .int .i64 tr] 34)) ∧ Aside0 (wr.heap[p]? = some (.cells #[.int .u64 (r0 : Int), .int .u64 (r1 : Int), .int .i64 r2, .int .u64 (r3 : Int), .int .u64 (r4 : Int), .int .u64 (r5 : Int), .int .u64 (r6 : Int)] 27)) ∧ Aside0 (Below W.heap.size W wr)) (fun u13 _ => 50 - (intOf u13).toNat)
  case atStart => exact ⟨0, s, 0, by decide, rfl, ⟨by decide, by decide, HS.out⟩, HTM, HMB, HQB, HBW⟩
  case round =>
    obtain ⟨i, last, tr, hi, rfl, HIL, HTM, HMB, HQB, HBW⟩ := hrel
    have hi9 : (i : Int) ≤ 50 := by omega
    by_cases hlt : i < n ∧ i < 50
    · obtain ⟨h1, h2⟩ := hlt
      have i1 : (i : Int) < n := by omega
      have i2 : (i : Int) < 50 := by omega
      obtain ⟨ad, tm, rfl, htW, htm⟩ := HZ0.out.at_ i h1
      have HTW := hd htW
      have ht := pw_cell_below HBW.out htW
      clear htW
      have hnc : (n : Int) ≤ c := by have := HZ0.out.2.2.1; omega
      have HTMB := hd htm
      have HI2 := hd h2
      obtain ⟨b, hb⟩ : ∃ b, Aside0 (dueB ⟨r0, r1, r2, r3, r4, r5, r6⟩ last tr tm = b) := ⟨_, ⟨rfl⟩⟩
      have HRD := fun w => hd (refdue_calls (r := ⟨r0, r1, r2, r3, r4, r5, r6⟩) (last := last) (tries := tr) (now := tm) (w := w) HROK.out HTMB.out (by have := HIL.out.2.1; omega))
      rw [hb.out] at HRD
      unfold Rul.v timV at HRD
      dsimp only at HRD
      clear htm hi hi9 h1 h2
      go_upto_region 14 with (fail)
      refine up_start [] [(0, true), (1, true), (2, true), (3, true), (4, true), (5, true), (6, false), (7, true)] (by kernel_rfl) rfl (by kernel_rfl) (by kernel_rfl) ?_
      have hdr := below_drew (Below.refl wr.heap.size wr)
      replace HTM := hd (HTM.out.below hdr)
      replace HQB := hd (blk_below HQB.out hdr)
      replace HMB := hd (blk_below HMB.out hdr)
      replace HBW := hd (below_seq HBW.out hdr)
      have ht := Grow.cells (pw_cell_below hdr ht)
      generalize wr.drew = w5 at hdr HTM HQB HMB HBW ht ⊢
      clear hdr
      have t0 := Grow.cells (show w5.cell? ⟨p, 0, none⟩ = some (.int .u64 (r0 : Int)) by rw [blk_cell HQB.out]; rfl)
      have t1 := Grow.cells (show w5.cell? ⟨p, 1, none⟩ = some (.int .u64 (r1 : Int)) by rw [blk_cell HQB.out]; rfl)
      have t2 := Grow.cells (show w5.cell? ⟨p, 2, none⟩ = some (.int .i64 r2) by rw [blk_cell HQB.out]; rfl)
      have t3 := Grow.cells (show w5.cell? ⟨p, 3, none⟩ = some (.int .u64 (r3 : Int)) by rw [blk_cell HQB.out]; rfl)
      have t4 := Grow.cells (show w5.cell? ⟨p, 4, none⟩ = some (.int .u64 (r4 : Int)) by rw [blk_cell HQB.out]; rfl)
      have t5 := Grow.cells (show w5.cell? ⟨p, 5, none⟩ = some (.int .u64 (r5 : Int)) by rw [blk_cell HQB.out]; rfl)
      have t6 := Grow.cells (show w5.cell? ⟨p, 6, none⟩ = some (.int .u64 (r6 : Int)) by rw [blk_cell HQB.out]; rfl)
      have u0 := Grow.cells (show w5.cell? ⟨m, 0, none⟩ = some (.int .u64 (last : Int)) by rw [blk_cell HMB.out]; rfl)
      have u1 := Grow.cells (show w5.cell? ⟨m, 1, none⟩ = some (.int .i64 tr) by rw [blk_cell HMB.out]; rfl)
      refine seq_pure (i := 0) (N := some 46) (v := ?_) (a' := ?_) rfl rfl (by rfl) (fun _ _ _ h => h) ?_ ?_ ?_
      rotate_left 2
      · intro w' hg
        go_simp
        with_reducible rfl
      · simp only [Act.put, List.setIfInBounds_toArray, List.set_cons_zero, List.set_cons_succ, i64_w, i32_w]
        rfl
      refine seq_pure (i := 1) (N := some 47) (v := ?_) (a' := ?_) rfl rfl (by rfl) (fun _ _ _ h => h) ?_ ?_ ?_
      rotate_left 2
      · intro w' hg
        go_simp
        with_reducible rfl
      · simp only [Act.put, List.setIfInBounds_toArray, List.set_cons_zero, List.set_cons_succ, i64_w, i32_w]
        rfl
      refine seq_pure (i := 2) (N := some 48) (v := ?_) (a' := ?_) rfl rfl (by rfl) (fun _ _ _ h => h) ?_ ?_ ?_
      rotate_left 2
      · intro w' hg
        go_simp
        with_reducible rfl
      · simp only [Act.put, List.setIfInBounds_toArray, List.set_cons_zero, List.set_cons_succ, i64_w, i32_w]
        rfl
      refine seq_pure (i := 3) (N := some 49) (v := ?_) (a' := ?_) rfl rfl (by rfl) (fun _ _ _ h => h) ?_ ?_ ?_
      rotate_left 2
      · intro w' hg
        go_simp
        with_reducible rfl
      · simp only [Act.put, List.setIfInBounds_toArray, List.set_cons_zero, List.set_cons_succ, i64_w, i32_w]
        rfl
      refine seq_pure (i := 4) (N := some 50) (v := ?_) (a' := ?_) rfl rfl (by rfl) (fun _ _ _ h => h) ?_ ?_ ?_
      rotate_left 2
      · intro w' hg
        go_simp
        with_reducible rfl
      · simp only [Act.put, List.setIfInBounds_toArray, List.set_cons_zero, List.set_cons_succ, i64_w, i32_w]
        rfl
      refine seq_pure (i := 5) (N := some 51) (v := ?_) (a' := ?_) rfl rfl (by rfl) (fun _ _ _ h => h) ?_ ?_ ?_
      rotate_left 2
      · intro w' hg
        go_simp
        with_reducible rfl
      · simp only [Act.put, List.setIfInBounds_toArray, List.set_cons_zero, List.set_cons_succ, i64_w, i32_w]
        rfl
      refine seq_call (i := 6) (N := some 52) rfl rfl Tryd.func17 (by kernel_rfl) rfl #[.agg #[.int .u64 (r0 : Int), .int .u64 (r1 : Int), .int .i64 r2, .int .u64 (r3 : Int), .int .u64 (r4 : Int), .int .u64 (r5 : Int), .int .u64 (r6 : Int)], .agg #[.int .u64 (last : Int), .int .i64 tr], .int .u64 (tm : Int)] (by rfl) rfl ?_ ?_
      · simp only [List.map_toArray, List.map_cons, List.map_nil]
        rfl
      refine (HRD w5).out.mono ?_
      rintro e w7 ⟨rfl, hb7⟩
      replace HTM := hd (HTM.out.below hb7)
      replace HQB := hd (blk_below HQB.out hb7)
      replace HMB := hd (blk_below HMB.out hb7)
      replace HBW := hd (below_seq HBW.out hb7)
      have ht7 := ht _ hb7
      refine ⟨_, rfl, fun _ => hb7, ?_⟩
      clear hb7
      refine seq_norm (a' := ?_) ?_ ?_
      rotate_left
      · show Act.put _ (some 52) _ = _
        simp only [Act.put, List.setIfInBounds_toArray, List.set_cons_zero, List.set_cons_succ, i64_w, i32_w]
        rfl
      refine seq_pure (i := 7) (N := some 14) (v := ?_) (a' := ?_) rfl rfl (by rfl) (fun _ _ _ h => h) ?_ ?_ ?_
      rotate_left 2
      · intro w' hg
        go_simp
        with_reducible rfl
      · simp only [Act.put, List.setIfInBounds_toArray, List.set_cons_zero, List.set_cons_succ, i64_w, i32_w]
        rfl
      refine seq_done ?_
      go_upto_region 15 with (fail)
      clear t0 t1 t2 t3 t4 t5 t6 u0 u1 ht HRD
      have HDU := due_calls (now := tm) HTM.out HROK.out HTMB.out (by have := HIL.out.2.1; have := HI2.out; omega)
      rw [hb.out] at HDU
      have hbn : (b != b) = false := by simp
      go_wp2_with fail
      refine HDU.mono ?_
      rintro e w8 ⟨rfl, hb8⟩
      replace HTM := hd (HTM.out.below hb8)
      replace HQB := hd (blk_below HQB.out hb8)
      replace HMB := hd (blk_below HMB.out hb8)
      replace HBW := hd (below_seq HBW.out hb8)
      have ht8 := pw_cell_below HBW.out HTW.out
      clear hb8 ht7 HDU
      cases b
      · go_wp2
        go_roundw
        case rel => exact ⟨i + 1, last, tr, by have := HI2.out; omega, by go_num, ⟨HIL.out.1, by have := HIL.out.2.1; omega, HIL.out.2.2⟩, HTM, HMB, HQB, HBW⟩
        case measure => simp [intOf]; have := HI2.out; omega
      · obtain ⟨l2, t2, b2, HTU, HB2, HT2, HLE⟩ : ∃ (l2 : Nat) (t2 : Int) (b2 : Bool), Aside0 ((if tr < r2 then #[timV tm (tr + 1), .bool true] else #[timV last tr, .bool false] : Array Value) = #[timV l2 t2, .bool b2]) ∧ Aside0 (decide (tr < r2) = b2) ∧ Aside0 (∀ w', (if tr < r2 then TimAt w' g ⟨r0, r1, r2, r3, r4, r5, r6⟩ tm (tr + 1) else TimAt w' g ⟨r0, r1, r2, r3, r4, r5, r6⟩ last tr) → TimAt w' g ⟨r0, r1, r2, r3, r4, r5, r6⟩ l2 t2) ∧ Aside0 (0 ≤ t2 ∧ t2 ≤ ((i + 1 : Nat) : Int) ∧ l2 < 2 ^ 64) := by
          have h5 := HIL.out
          by_cases h : tr < r2
          · exact ⟨tm, tr + 1, true, ⟨by rw [if_pos h]⟩, ⟨by simp; exact h⟩, ⟨fun w' h' => by rw [if_pos h] at h'; exact h'⟩, ⟨by omega, by omega, HTMB.out⟩⟩
          · exact ⟨last, tr, false, ⟨by rw [if_neg h]⟩, ⟨by simp; omega⟩, ⟨fun w' h' => by rw [if_neg h] at h'; exact h'⟩, ⟨by omega, by omega, h5.2.2⟩⟩
        have HAG := fun w => hd (show Calls Tryd.prog 19 #[.agg #[.int .u64 (r0 : Int), .int .u64 (r1 : Int), .int .i64 r2, .int .u64 (r3 : Int), .int .u64 (r4 : Int), .int .u64 (r5 : Int), .int .u64 (r6 : Int)], .agg #[.int .u64 (last : Int), .int .i64 tr], .int .u64 (tm : Int)] w (fun e w' => e = .returned (.tuple #[.agg #[.int .u64 (l2 : Int), .int .i64 t2], .bool b2]) ∧ Below w.heap.size w w') from by
          have h := refagain_calls (r := ⟨r0, r1, r2, r3, r4, r5, r6⟩) (last := last) (tries := tr) (now := tm) (w := w) (by have := HIL.out.2.1; have := HI2.out; omega) (by have := HIL.out.1; omega)
          dsimp only at h
          rw [HTU.out] at h
          exact h)
        have HAT := fun w (h : TimAt w g ⟨r0, r1, r2, r3, r4, r5, r6⟩ last tr) => hd (show Calls Tryd.prog 20 #[.pointer (some ⟨g, 0, none⟩), .int .u64 (tm : Int)] w (fun e w' => e = .returned (.bool b2) ∧ TimAt w' g ⟨r0, r1, r2, r3, r4, r5, r6⟩ l2 t2 ∧ Mod (fun k => k = g) w w') from by
          have h := again_calls (now := tm) h (by have := HIL.out.2.1; have := HI2.out; omega) (by have := HIL.out.1; omega)
          dsimp only at h
          rw [HB2.out] at h
          exact h.mono (fun e w' ⟨a, b, c⟩ => ⟨a, HT2.out w' b, c⟩))
        have HHM := hd (blk_lt HMB.out)
        go_upto_region 18 with (fail)
        go_cut [15, 16] (fun u15 u16 wz => ∃ nb : Nat, u15 = .pointer (some ⟨nb, 0, none⟩) ∧ u16 = .bool b2 ∧ Aside0 (wz.heap[nb]? = some (.cells #[.int .u64 (l2 : Int), .int .i64 t2] 34)) ∧ Aside0 (wz.heap[m]? = some (.cells #[.int .u64 (last : Int), .int .i64 tr] 34)) ∧ Aside0 (TimAt wz g ⟨r0, r1, r2, r3, r4, r5, r6⟩ last tr) ∧ Aside0 (wz.heap[p]? = some (.cells #[.int .u64 (r0 : Int), .int .u64 (r1 : Int), .int .i64 r2, .int .u64 (r3 : Int), .int .u64 (r4 : Int), .int .u64 (r5 : Int), .int .u64 (r6 : Int)] 27)) ∧ Aside0 (Below W.heap.size W wz))
        case first =>
          refine uq_start (fun _ _ => True) [11] 13 rfl (by kernel_rfl) ?_
          have hdr := below_drew (Below.refl w8.heap.size w8)
          replace HTM := hd (HTM.out.below hdr)
          replace HQB := hd (blk_below HQB.out hdr)
          replace HMB := hd (blk_below HMB.out hdr)
          replace HBW := hd (below_seq HBW.out hdr)
          have ht := Grow.cells (pw_cell_below hdr ht8)
          generalize w8.drew = w9 at hdr HTM HQB HMB HBW ht ⊢
          clear hdr
          have tt0 := Grow.cells (show w9.cell? ⟨p, 0, none⟩ = some (.int .u64 (r0 : Int)) by rw [blk_cell HQB.out]; rfl)
          have tt1 := Grow.cells (show w9.cell? ⟨p, 1, none⟩ = some (.int .u64 (r1 : Int)) by rw [blk_cell HQB.out]; rfl)
          have tt2 := Grow.cells (show w9.cell? ⟨p, 2, none⟩ = some (.int .i64 r2) by rw [blk_cell HQB.out]; rfl)
          have tt3 := Grow.cells (show w9.cell? ⟨p, 3, none⟩ = some (.int .u64 (r3 : Int)) by rw [blk_cell HQB.out]; rfl)
          have tt4 := Grow.cells (show w9.cell? ⟨p, 4, none⟩ = some (.int .u64 (r4 : Int)) by rw [blk_cell HQB.out]; rfl)
          have tt5 := Grow.cells (show w9.cell? ⟨p, 5, none⟩ = some (.int .u64 (r5 : Int)) by rw [blk_cell HQB.out]; rfl)
          have tt6 := Grow.cells (show w9.cell? ⟨p, 6, none⟩ = some (.int .u64 (r6 : Int)) by rw [blk_cell HQB.out]; rfl)
          have uu0 := Grow.cells (show w9.cell? ⟨m, 0, none⟩ = some (.int .u64 (last : Int)) by rw [blk_cell HMB.out]; rfl)
          have uu1 := Grow.cells (show w9.cell? ⟨m, 1, none⟩ = some (.int .i64 tr) by rw [blk_cell HMB.out]; rfl)
          refine uq_pure Keeps.any (i := 0) (N := some 63) (v := ?_) (a' := ?_) (by kernel_rfl) (by kernel_rfl) rfl rfl (by rfl) (fun _ _ _ h => h) ?_ ?_ ?_
          rotate_left 2
          · intro w' hg
            go_simp
            with_reducible rfl
          · simp only [Act.put, List.setIfInBounds_toArray, List.set_cons_zero, List.set_cons_succ, i64_w, i32_w]
            rfl
          refine uq_pure Keeps.any (i := 1) (N := some 64) (v := ?_) (a' := ?_) (by kernel_rfl) (by kernel_rfl) rfl rfl (by rfl) (fun _ _ _ h => h) ?_ ?_ ?_
          rotate_left 2
          · intro w' hg
            go_simp
            with_reducible rfl
          · simp only [Act.put, List.setIfInBounds_toArray, List.set_cons_zero, List.set_cons_succ, i64_w, i32_w]
            rfl
          refine uq_pure Keeps.any (i := 2) (N := some 65) (v := ?_) (a' := ?_) (by kernel_rfl) (by kernel_rfl) rfl rfl (by rfl) (fun _ _ _ h => h) ?_ ?_ ?_
          rotate_left 2
          · intro w' hg
            go_simp
            with_reducible rfl
          · simp only [Act.put, List.setIfInBounds_toArray, List.set_cons_zero, List.set_cons_succ, i64_w, i32_w]
            rfl
          refine uq_pure Keeps.any (i := 3) (N := some 66) (v := ?_) (a' := ?_) (by kernel_rfl) (by kernel_rfl) rfl rfl (by rfl) (fun _ _ _ h => h) ?_ ?_ ?_
          rotate_left 2
          · intro w' hg
            go_simp
            with_reducible rfl
          · simp only [Act.put, List.setIfInBounds_toArray, List.set_cons_zero, List.set_cons_succ, i64_w, i32_w]
            rfl
          refine uq_pure Keeps.any (i := 4) (N := some 67) (v := ?_) (a' := ?_) (by kernel_rfl) (by kernel_rfl) rfl rfl (by rfl) (fun _ _ _ h => h) ?_ ?_ ?_
          rotate_left 2
          · intro w' hg
            go_simp
            with_reducible rfl
          · simp only [Act.put, List.setIfInBounds_toArray, List.set_cons_zero, List.set_cons_succ, i64_w, i32_w]
            rfl
          refine uq_pure Keeps.any (i := 5) (N := some 68) (v := ?_) (a' := ?_) (by kernel_rfl) (by kernel_rfl) rfl rfl (by rfl) (fun _ _ _ h => h) ?_ ?_ ?_
          rotate_left 2
          · intro w' hg
            go_simp
            with_reducible rfl
          · simp only [Act.put, List.setIfInBounds_toArray, List.set_cons_zero, List.set_cons_succ, i64_w, i32_w]
            rfl
          refine uq_two (i := 6) (j := 10) (by kernel_rfl) ?_ ?_
          · refine uq_call (R := fun _ _ => True) (i := 6) (N := some 69) rfl rfl Tryd.func19 (by kernel_rfl) rfl #[.agg #[.int .u64 (r0 : Int), .int .u64 (r1 : Int), .int .i64 r2, .int .u64 (r3 : Int), .int .u64 (r4 : Int), .int .u64 (r5 : Int), .int .u64 (r6 : Int)], .agg #[.int .u64 (last : Int), .int .i64 tr], .int .u64 (tm : Int)] (by rfl) rfl ?_ ?_
            · simp only [List.map_toArray, List.map_cons, List.map_nil]
              rfl
            refine ((HAG w9).out).mono ?_
            rintro e w21 ⟨rfl, hb21⟩
            replace HTM := hd (HTM.out.below hb21)
            replace HQB := hd (blk_below HQB.out hb21)
            replace HMB := hd (blk_below HMB.out hb21)
            replace HBW := hd (below_seq HBW.out hb21)
            refine ⟨_, rfl, ⟨fun _ => hb21, trivial⟩, ?_⟩
            refine uq_norm (a' := ?_) ?_ ?_
            rotate_left
            · show Act.put _ (some 69) _ = _
              simp only [Act.put, List.setIfInBounds_toArray, List.set_cons_zero, List.set_cons_succ, i64_w, i32_w]
              rfl
            clear hb21
            refine uq_pure Keeps.any (i := 7) (N := some 62) (v := ?_) (a' := ?_) (by kernel_rfl) (by kernel_rfl) rfl rfl (by rfl) (fun _ _ _ h => h) ?_ ?_ ?_
            rotate_left 2
            · intro w' hg
              go_simp
              with_reducible rfl
            · simp only [Act.put, List.setIfInBounds_toArray, List.set_cons_zero, List.set_cons_succ, i64_w, i32_w]
              rfl
            refine uq_pure Keeps.any (i := 8) (N := some 70) (v := ?_) (a' := ?_) (by kernel_rfl) (by kernel_rfl) rfl rfl (by rfl) (fun _ _ _ h => h) ?_ ?_ ?_
            rotate_left 2
            · intro w' hg
              go_simp
              with_reducible rfl
            · simp only [Act.put, List.setIfInBounds_toArray, List.set_cons_zero, List.set_cons_succ, i64_w, i32_w]
              rfl
            refine uq_pure2 Keeps.any (i := 9) (N := some 71) (v := ?_) (a' := ?_) (by kernel_rfl) (by kernel_rfl) rfl rfl (by rfl) (fun _ _ _ h => h) ?_ ?_ ?_
            rotate_left 2
            · intro w' hg
              go_simp
              with_reducible rfl
            · simp only [Act.put, List.setIfInBounds_toArray, List.set_cons_zero, List.set_cons_succ, i64_w, i32_w]
              rfl
            refine uq_one (i := 10) (by kernel_rfl) ?_
            refine uq_value (R := fun _ _ => True) (i := 10) (N := some 15) (v := .pointer (some ⟨w21.heap.size, 0, none⟩)) (a' := ?_) (w1 := w21.alloc (.cells #[.int .u64 0, .int .i64 0] 34)) rfl rfl (by rfl) ?_ ⟨fun _ => below_alloc (Below.refl _ _) _, trivial⟩ ?_ ?_
            rotate_left
            · go_simp
            · simp only [Act.put, List.setIfInBounds_toArray, List.set_cons_zero, List.set_cons_succ, i64_w, i32_w]
              rfl
            have hal22 := below_alloc (Below.refl w21.heap.size w21) (.cells #[.int .u64 0, .int .i64 0] 34)
            have HNB := hd (blk_new w21 (.cells #[.int .u64 0, .int .i64 0] 34))
            have hlt := blk_lt HMB.out
            have hsz := HBW.out.size
            replace HTM := hd (HTM.out.below hal22)
            replace HQB := hd (blk_below HQB.out hal22)
            replace HMB := hd (blk_below HMB.out hal22)
            replace HBW := hd (below_seq HBW.out hal22)
            generalize w21.alloc (.cells #[.int .u64 0, .int .i64 0] 34) = w22 at HTM HQB HMB HBW HNB hal22 ⊢
            obtain ⟨nb, hq22⟩ : ∃ q, Aside0 (w21.heap.size = q) := ⟨_, ⟨rfl⟩⟩
            have HNF := hd (show W.heap.size ≤ nb ∧ ¬ m = nb by have := hq22.out; omega)
            clear hlt hsz
            rw [hq22.out] at HNB ⊢
            clear hal22
            refine uq_one (i := 11) (by kernel_rfl) ?_
            have rr0 : (w22).cell? ⟨nb, 0, none⟩ = some (.int .u64 0) := by rw [blk_cell (HNB.out)]; rfl
            have ff0 := blk_frozen (HNB.out) 0
            have rr1 : ((w22).setCell ⟨nb, 0, none⟩ (.int .u64 (l2 : Int))).cell? ⟨nb, 1, none⟩ = some (.int .i64 0) := by rw [blk_cell (blk_set (HNB.out) 0 (.int .u64 (l2 : Int)))]; rfl
            have ff1 := blk_frozen (blk_set (HNB.out) 0 (.int .u64 (l2 : Int))) 1
            refine uq_skip (R := fun _ _ => True) (i := 11) (w1 := ((w22).setCell ⟨nb, 0, none⟩ (.int .u64 (l2 : Int))).setCell ⟨nb, 1, none⟩ (.int .i64 t2)) rfl rfl (by rfl) ?_ ⟨fun h => absurd (by decide) h, trivial⟩ ?_
            · go_simp
            clear rr0 ff0 rr1 ff1
            refine uq_pure Keeps.any (i := 12) (N := some 16) (v := ?_) (a' := ?_) (by kernel_rfl) (by kernel_rfl) rfl rfl (by rfl) (fun _ _ _ h => h) ?_ ?_ ?_
            rotate_left 2
            · intro w' hg
              go_simp
              with_reducible rfl
            · simp only [Act.put, List.setIfInBounds_toArray, List.set_cons_zero, List.set_cons_succ, i64_w, i32_w]
              rfl
            refine uq_end (by kernel_rfl) ?_
            go_wp2_with fail
            go_meet
            case rel =>
              have hm := (Mod.set (S := fun k => k = nb) (g := nb) (i := 0) w22 rfl (.int .u64 (l2 : Int))).trans (Mod.set (S := fun k => k = nb) (g := nb) (i := 1) _ rfl (.int .i64 t2))
              exact ⟨nb, rfl, rfl, ⟨blk_set (blk_set (HNB.out) 0 (.int .u64 (l2 : Int))) 1 (.int .i64 t2)⟩, ⟨hm.block HMB.out HNF.out.2⟩, ⟨hm.block HTM.out (ne_types HTM.out HNB.out (by decide))⟩, ⟨hm.block HQB.out (ne_types HQB.out HNB.out (by decide))⟩, ⟨HBW.out.trans (hm.toBelow (fun k hk => by rw [hk]; exact HNF.out.1) HBW.out.size)⟩⟩
          · refine uq_value (R := fun _ _ => True) (i := 10) (N := some 15) (v := .pointer (some ⟨w9.heap.size, 0, none⟩)) (a' := ?_) (w1 := w9.alloc (.cells #[.int .u64 0, .int .i64 0] 34)) rfl rfl (by rfl) ?_ ⟨fun _ => below_alloc (Below.refl _ _) _, trivial⟩ ?_ ?_
            rotate_left
            · go_simp
            · simp only [Act.put, List.setIfInBounds_toArray, List.set_cons_zero, List.set_cons_succ, i64_w, i32_w]
              rfl
            have hal21 := below_alloc (Below.refl w9.heap.size w9) (.cells #[.int .u64 0, .int .i64 0] 34)
            have HNB := hd (blk_new w9 (.cells #[.int .u64 0, .int .i64 0] 34))
            have hlt := blk_lt HMB.out
            have hsz := HBW.out.size
            replace HTM := hd (HTM.out.below hal21)
            replace HQB := hd (blk_below HQB.out hal21)
            replace HMB := hd (blk_below HMB.out hal21)
            replace HBW := hd (below_seq HBW.out hal21)
            generalize w9.alloc (.cells #[.int .u64 0, .int .i64 0] 34) = w21 at HTM HQB HMB HBW HNB hal21 ⊢
            obtain ⟨nb, hq21⟩ : ∃ q, Aside0 (w9.heap.size = q) := ⟨_, ⟨rfl⟩⟩
            have HNF := hd (show W.heap.size ≤ nb ∧ ¬ m = nb by have := hq21.out; omega)
            clear hlt hsz
            rw [hq21.out] at HNB ⊢
            clear hal21
            refine uq_one (i := 6) (by kernel_rfl) ?_
            refine uq_call (R := fun _ _ => True) (i := 6) (N := some 69) rfl rfl Tryd.func19 (by kernel_rfl) rfl #[.agg #[.int .u64 (r0 : Int), .int .u64 (r1 : Int), .int .i64 r2, .int .u64 (r3 : Int), .int .u64 (r4 : Int), .int .u64 (r5 : Int), .int .u64 (r6 : Int)], .agg #[.int .u64 (last : Int), .int .i64 tr], .int .u64 (tm : Int)] (by rfl) rfl ?_ ?_
            · simp only [List.map_toArray, List.map_cons, List.map_nil]
              rfl
            refine ((HAG w21).out).mono ?_
            rintro e w22 ⟨rfl, hb22⟩
            replace HTM := hd (HTM.out.below hb22)
            replace HQB := hd (blk_below HQB.out hb22)
            replace HMB := hd (blk_below HMB.out hb22)
            replace HBW := hd (below_seq HBW.out hb22)
            replace HNB := hd (blk_below HNB.out hb22)
            refine ⟨_, rfl, ⟨fun _ => hb22, trivial⟩, ?_⟩
            refine uq_norm (a' := ?_) ?_ ?_
            rotate_left
            · show Act.put _ (some 69) _ = _
              simp only [Act.put, List.setIfInBounds_toArray, List.set_cons_zero, List.set_cons_succ, i64_w, i32_w]
              rfl
            clear hb22
            refine uq_pure Keeps.any (i := 7) (N := some 62) (v := ?_) (a' := ?_) (by kernel_rfl) (by kernel_rfl) rfl rfl (by rfl) (fun _ _ _ h => h) ?_ ?_ ?_
            rotate_left 2
            · intro w' hg
              go_simp
              with_reducible rfl
            · simp only [Act.put, List.setIfInBounds_toArray, List.set_cons_zero, List.set_cons_succ, i64_w, i32_w]
              rfl
            refine uq_pure Keeps.any (i := 8) (N := some 70) (v := ?_) (a' := ?_) (by kernel_rfl) (by kernel_rfl) rfl rfl (by rfl) (fun _ _ _ h => h) ?_ ?_ ?_
            rotate_left 2
            · intro w' hg
              go_simp
              with_reducible rfl
            · simp only [Act.put, List.setIfInBounds_toArray, List.set_cons_zero, List.set_cons_succ, i64_w, i32_w]
              rfl
            refine uq_pure2 Keeps.any (i := 9) (N := some 71) (v := ?_) (a' := ?_) (by kernel_rfl) (by kernel_rfl) rfl rfl (by rfl) (fun _ _ _ h => h) ?_ ?_ ?_
            rotate_left 2
            · intro w' hg
              go_simp
              with_reducible rfl
            · simp only [Act.put, List.setIfInBounds_toArray, List.set_cons_zero, List.set_cons_succ, i64_w, i32_w]
              rfl
            refine uq_one (i := 11) (by kernel_rfl) ?_
            have rr0 : (w22).cell? ⟨nb, 0, none⟩ = some (.int .u64 0) := by rw [blk_cell (HNB.out)]; rfl
            have ff0 := blk_frozen (HNB.out) 0
            have rr1 : ((w22).setCell ⟨nb, 0, none⟩ (.int .u64 (l2 : Int))).cell? ⟨nb, 1, none⟩ = some (.int .i64 0) := by rw [blk_cell (blk_set (HNB.out) 0 (.int .u64 (l2 : Int)))]; rfl
            have ff1 := blk_frozen (blk_set (HNB.out) 0 (.int .u64 (l2 : Int))) 1
            refine uq_skip (R := fun _ _ => True) (i := 11) (w1 := ((w22).setCell ⟨nb, 0, none⟩ (.int .u64 (l2 : Int))).setCell ⟨nb, 1, none⟩ (.int .i64 t2)) rfl rfl (by rfl) ?_ ⟨fun h => absurd (by decide) h, trivial⟩ ?_
            · go_simp
            clear rr0 ff0 rr1 ff1
            refine uq_pure Keeps.any (i := 12) (N := some 16) (v := ?_) (a' := ?_) (by kernel_rfl) (by kernel_rfl) rfl rfl (by rfl) (fun _ _ _ h => h) ?_ ?_ ?_
            rotate_left 2
            · intro w' hg
              go_simp
              with_reducible rfl
            · simp only [Act.put, List.setIfInBounds_toArray, List.set_cons_zero, List.set_cons_succ, i64_w, i32_w]
              rfl
            refine uq_end (by kernel_rfl) ?_
            go_wp2_with fail
            go_meet
            case rel =>
              have hm := (Mod.set (S := fun k => k = nb) (g := nb) (i := 0) w22 rfl (.int .u64 (l2 : Int))).trans (Mod.set (S := fun k => k = nb) (g := nb) (i := 1) _ rfl (.int .i64 t2))
              exact ⟨nb, rfl, rfl, ⟨blk_set (blk_set (HNB.out) 0 (.int .u64 (l2 : Int))) 1 (.int .i64 t2)⟩, ⟨hm.block HMB.out HNF.out.2⟩, ⟨hm.block HTM.out (ne_types HTM.out HNB.out (by decide))⟩, ⟨hm.block HQB.out (ne_types HQB.out HNB.out (by decide))⟩, ⟨HBW.out.trans (hm.toBelow (fun k hk => by rw [hk]; exact HNF.out.1) HBW.out.size)⟩⟩
        case rest =>
          obtain ⟨nb, rfl, rfl, HNB, HMB, HTM, HQB, HBW⟩ := hcut
          have y0 : wc.cell? ⟨nb, 0, none⟩ = some (.int .u64 (l2 : Int)) := by rw [blk_cell HNB.out]; rfl
          have y1 : wc.cell? ⟨nb, 1, none⟩ = some (.int .i64 t2) := by rw [blk_cell HNB.out]; rfl
          have z0 : wc.cell? ⟨m, 0, none⟩ = some (.int .u64 (last : Int)) := by rw [blk_cell HMB.out]; rfl
          have z1 : (wc.setCell ⟨m, 0, none⟩ (.int .u64 (l2 : Int))).cell? ⟨m, 1, none⟩ = some (.int .i64 tr) := by rw [blk_cell (blk_set HMB.out 0 (.int .u64 (l2 : Int)))]; rfl
          have f0 := blk_frozen HMB.out 0
          have f1 := blk_frozen (blk_set HMB.out 0 (.int .u64 (l2 : Int))) 1
          go_upto_region 20 with (fail)
          have hm := (Mod.set (S := fun k => k = m) (g := m) (i := 0) wc rfl (.int .u64 (l2 : Int))).trans (Mod.set (S := fun k => k = m) (g := m) (i := 1) _ rfl (.int .i64 t2))
          have hmb := blk_set (blk_set HMB.out 0 (.int .u64 (l2 : Int))) 1 (.int .i64 t2)
          replace HTM := hd (show TimAt _ g ⟨r0, r1, r2, r3, r4, r5, r6⟩ last tr from hm.block HTM.out (ne_types HTM.out HMB.out (by decide)))
          replace HQB := hd (hm.block HQB.out (ne_types HQB.out HMB.out (by decide)))
          replace HBW := hd (HBW.out.trans (hm.toBelow (fun k hk => by rw [hk]; exact HMG.out) HBW.out.size))
          replace HMB := hd hmb
          clear y0 y1 z0 z1 f0 f1 hm hmb
          generalize (wc.setCell ⟨m, 0, none⟩ (.int .u64 (l2 : Int))).setCell ⟨m, 1, none⟩ (.int .i64 t2) = w10 at HTM HQB HMB HBW ⊢
          have ht10 := pw_cell_below HBW.out HTW.out
          have hbn2 : (b2 != b2) = false := by simp
          go_wp2_with fail
          refine (HAT w10 HTM.out).out.mono ?_
          rintro e w11 ⟨rfl, ht11, hm11⟩
          replace HMB := hd (hm11.block HMB.out (fun e => ne_types HTM.out HMB.out (by decide) e.symm))
          replace HQB := hd (hm11.block HQB.out (fun e => ne_types HTM.out HQB.out (by decide) e.symm))
          replace HBW := hd (HBW.out.trans (hm11.toBelow (fun k hk => by rw [hk]; exact HGG.out) HBW.out.size))
          replace HTM := hd ht11
          clear ht10 ht11 hm11
          go_wp2
          go_roundw
          case rel => exact ⟨i + 1, l2, t2, by have := HI2.out; omega, by go_num, HLE, HTM, HMB, HQB, HBW⟩
          case measure => simp [intOf]; have := HI2.out; omega
    · have hx : ¬ (i < n) ∨ ¬ (i < 50) := by omega
      by_cases h1 : i < n
      · have h2 : ¬ (i < 50) := by omega
        have i1 : (i : Int) < n := by omega
        have i2 : ¬ ((i : Int) < 50) := by omega
        clear hx hlt h1 h2
        go_wp2
        go_ret
        exact ⟨rfl, HBW.out⟩
      · have i1 : ¬ ((i : Int) < n) := by omega
        clear hx hlt
        go_wp2
        go_ret
        exact ⟨rfl, HBW.out⟩
end Go.Proofs.YtlgdplodglchaaaDoor
