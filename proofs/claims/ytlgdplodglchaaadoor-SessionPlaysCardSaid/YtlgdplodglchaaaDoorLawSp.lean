/- SessionPlays: the walk. -/
import Derived.Test.YtlgdplodglchaaaDoorGSesG
import Derived.Test.YtlgdplodglchaaaDoorPlayP
import Derived.Deep.Cut
import Derived.Deep.DeepCutAuto
set_option linter.unusedVariables false
set_option linter.unusedSimpArgs false
namespace Go.Proofs.YtlgdplodglchaaaDoor
open Go.RowKit Go.Proofs.YtlgdplodglchaaaDoorW.PrintWords Go.Proofs.YtlgdplodglchaaaDoorW.PrintLast Go.Proofs.YtlgdplodglchaaaDoorW.PrintMore
set_option maxHeartbeats 40000000 in
set_option maxRecDepth 100000 in
theorem sessionPlays_walk (W : World) (hpl : PlacesAt W) {A0 A1 : Option Addr} {m0 d0 m1 d1 : Nat} {key0 key1 : List Nat} (hk0 : Bytes W A0 m0 d0 key0) (hk1 : Bytes W A1 m1 d1 key1) (from_ : Int) (hf : (Lit.int .u64 from_).wf = true) (r : Rul) (hr : r.all) (start : Int) (hs : (Lit.int .u64 start).wf = true) {A : Option Addr} {n c : Nat} (hz : PlayRow W A n c) :
 Calls Tryd.prog 4 #[.agg #[.slice A0 m0 d0, .slice A1 m1 d1], .int .u64 from_, r.v, .int .u64 start, .slice A n c] W fun e w' => e = .returned (.bool true) ∧ Below W.heap.size W w' := by
 obtain ⟨st, rfl, hst⟩ : ∃ st : Nat, start = (st : Int) ∧ st < 2 ^ 64 := by
  have := bounds_u64 hs
  exact ⟨start.toNat, by omega, by omega⟩
 obtain ⟨fr, rfl, hfr⟩ : ∃ fr : Nat, from_ = (fr : Int) ∧ fr < 2 ^ 64 := by
  have := bounds_u64 hf
  exact ⟨from_.toNat, by omega, by omega⟩
 have HZ := hd hz
 have HPL := hd hpl
 have HK0 := hd hk0
 have HK1 := hd hk1
 have HFR := hd hfr
 have HST := hd hst
 clear hz hpl hk0 hk1 hf hs hfr hst
 obtain ⟨r0, r1, r2, r3, r4, r5, r6⟩ := r
 unfold Rul.v
 dsimp only
 have HRA := hd hr
 clear hr
 have a1 := below_alloc (Below.refl W.heap.size W) (.cells #[.slice A0 m0 d0, .slice A1 m1 d1] 41)
 have b1 := blk_new W (.cells #[.slice A0 m0 d0, .slice A1 m1 d1] 41)
 have a2 := below_alloc (Below.refl _ (W.alloc (.cells #[.slice A0 m0 d0, .slice A1 m1 d1] 41))) (.cells #[.int .u64 (r0 : Int), .int .u64 (r1 : Int), .int .i64 r2, .int .u64 (r3 : Int), .int .u64 (r4 : Int), .int .u64 (r5 : Int), .int .u64 (r6 : Int)] 24)
 have b2 := blk_new (W.alloc (.cells #[.slice A0 m0 d0, .slice A1 m1 d1] 41)) (.cells #[.int .u64 (r0 : Int), .int .u64 (r1 : Int), .int .i64 r2, .int .u64 (r3 : Int), .int .u64 (r4 : Int), .int .u64 (r5 : Int), .int .u64 (r6 : Int)] 24)
 rw [World.size_alloc] at b2
 have HKB := hd (blk_below b1 a2)
 have HRB := hd b2
 have HBW := hd (below_seq a1 a2)
 clear a1 a2 b1 b2
 go_enter Tryd.func4, Tryd.ntmps4
 go_upto_region 1 with (fail)
 generalize (W.alloc (.cells #[.slice A0 m0 d0, .slice A1 m1 d1] 41)).alloc (.cells #[.int .u64 (r0 : Int), .int .u64 (r1 : Int), .int .i64 r2, .int .u64 (r3 : Int), .int .u64 (r4 : Int), .int .u64 (r5 : Int), .int .u64 (r6 : Int)] 24) = w1 at HKB HRB HBW ⊢
 obtain ⟨q, hq⟩ : ∃ q, Aside0 (W.heap.size = q) := ⟨_, ⟨rfl⟩⟩
 rw [hq.out] at HKB HRB ⊢
 go_wp2_with fail
 refine (awake_calls (HPL.out.below HBW.out)).mono ?_
 rintro e w2 ⟨rfl, hb⟩
 replace HKB := hd (blk_below HKB.out hb)
 replace HRB := hd (blk_below HRB.out hb)
 replace HBW := hd (below_seq HBW.out hb)
 clear hb
 have k0 : w2.cell? ⟨q, 0, none⟩ = some (.slice A0 m0 d0) := by rw [blk_cell HKB.out]; rfl
 have k1 : w2.cell? ⟨q, 1, none⟩ = some (.slice A1 m1 d1) := by rw [blk_cell HKB.out]; rfl
 by_cases h0 : 100 < m0
 · have q0 : decide ((100 : Int) < (m0 : Int)) = true := by simp; omega
   go_wp2
   go_ret
   exact ⟨rfl, HBW.out⟩
 by_cases h1 : 100 < m1
 · have q0 : decide ((100 : Int) < (m0 : Int)) = false := by simp; omega
   have q1 : decide ((100 : Int) < (m1 : Int)) = true := by simp; omega
   clear h0
   go_wp2
   go_ret
   exact ⟨rfl, HBW.out⟩
 have q0 : decide ((100 : Int) < (m0 : Int)) = false := by simp; omega
 have q1 : decide ((100 : Int) < (m1 : Int)) = false := by simp; omega
 have HM0 := hd (show m0 ≤ 100000000 by omega)
 have HM1 := hd (show m1 ≤ 100000000 by omega)
 clear h0 h1
 go_upto_region 6 with (fail)
 clear k0 k1 q0 q1
 have x0 : w2.cell? ⟨q + 1, 0, none⟩ = some (.int .u64 (r0 : Int)) := by rw [blk_cell HRB.out]; rfl
 have x1 : w2.cell? ⟨q + 1, 1, none⟩ = some (.int .u64 (r1 : Int)) := by rw [blk_cell HRB.out]; rfl
 have x2 : w2.cell? ⟨q + 1, 2, none⟩ = some (.int .i64 r2) := by rw [blk_cell HRB.out]; rfl
 have x3 : w2.cell? ⟨q + 1, 3, none⟩ = some (.int .u64 (r3 : Int)) := by rw [blk_cell HRB.out]; rfl
 have x4 : w2.cell? ⟨q + 1, 4, none⟩ = some (.int .u64 (r4 : Int)) := by rw [blk_cell HRB.out]; rfl
 have x5 : w2.cell? ⟨q + 1, 5, none⟩ = some (.int .u64 (r5 : Int)) := by rw [blk_cell HRB.out]; rfl
 have x6 : w2.cell? ⟨q + 1, 6, none⟩ = some (.int .u64 (r6 : Int)) := by rw [blk_cell HRB.out]; rfl
 go_wp2_with fail
 refine (rules_calls (r := ⟨r0, r1, r2, r3, r4, r5, r6⟩)).mono ?_
 rintro e w3 ⟨rfl, hb⟩
 replace HKB := hd (blk_below HKB.out hb)
 replace HRB := hd (blk_below HRB.out hb)
 replace HBW := hd (below_seq HBW.out hb)
 clear hb x0 x1 x2 x3 x4 x5 x6
 unfold Rul.v
 dsimp only
 go_upto_region 7 with (fail)
 have hal := below_alloc (Below.refl w3.heap.size w3) (.cells #[.int .u64 (r0 : Int), .int .u64 (r1 : Int), .int .i64 r2, .int .u64 (r3 : Int), .int .u64 (r4 : Int), .int .u64 (r5 : Int), .int .u64 (r6 : Int)] 27)
 have HQB := hd (blk_new w3 (.cells #[.int .u64 (r0 : Int), .int .u64 (r1 : Int), .int .i64 r2, .int .u64 (r3 : Int), .int .u64 (r4 : Int), .int .u64 (r5 : Int), .int .u64 (r6 : Int)] 27))
 replace HKB := hd (blk_below HKB.out hal)
 replace HRB := hd (blk_below HRB.out hal)
 replace HBW := hd (below_seq HBW.out hal)
 generalize w3.alloc (.cells #[.int .u64 (r0 : Int), .int .u64 (r1 : Int), .int .i64 r2, .int .u64 (r3 : Int), .int .u64 (r4 : Int), .int .u64 (r5 : Int), .int .u64 (r6 : Int)] 27) = w4 at hal HQB HRB HKB HBW ⊢
 obtain ⟨p, hp⟩ : ∃ p, p = w3.heap.size := ⟨_, rfl⟩
 rw [← hp] at HQB ⊢
 clear hal hp
 go_cut [13] (fun u13 wz => ∃ (gx g0 g1 : Nat) (ka0 kb0 ka1 kb1 : Sl), u13 = .pointer (some ⟨gx, 0, none⟩) ∧ Aside0 (wz.heap[gx]? = some (.cells #[.pointer (some ⟨g0, 0, none⟩), .pointer (some ⟨g1, 0, none⟩)] 47 (0, 0))) ∧ Aside0 (SesAt wz g0 ⟨r0, r1, r2, r3, r4, r5, r6⟩ st 0 ka0 fr kb0 0 ⟨false, 0, (0, 0)⟩) ∧ Aside0 (SesAt wz g1 ⟨r0, r1, r2, r3, r4, r5, r6⟩ st 0 ka1 0 kb1 0 ⟨false, 0, (0, 0)⟩) ∧ Aside0 (OwnK .u8 5 W.heap.size wz ka0.v key0) ∧ Aside0 (OwnK .u8 5 W.heap.size wz kb0.v key1) ∧ Aside0 (OwnK .u8 5 W.heap.size wz ka1.v key1) ∧ Aside0 (OwnK .u8 5 W.heap.size wz kb1.v key0) ∧ Aside0 (wz.heap[q]? = some (.cells #[.slice A0 m0 d0, .slice A1 m1 d1] 41 (0, 0))) ∧ Aside0 (wz.heap[p]? = some (.cells #[.int .u64 (r0 : Int), .int .u64 (r1 : Int), .int .i64 r2, .int .u64 (r3 : Int), .int .u64 (r4 : Int), .int .u64 (r5 : Int), .int .u64 (r6 : Int)] 27 (0, 0))) ∧ Aside0 (Below W.heap.size W wz) ∧ Aside0 (W.heap.size ≤ gx ∧ W.heap.size ≤ g0 ∧ W.heap.size ≤ g1 ∧ g0 ≠ g1))
 case first =>
  as_aux_lemma =>
   refine uq_start (fun _ _ => True) [21] 22 rfl (by kernel_rfl) ?_
   have hdr := below_drew (Below.refl w4.heap.size w4)
   replace HKB := hd (blk_below HKB.out hdr)
   replace HQB := hd (blk_below HQB.out hdr)
   replace HRB := hd (blk_below HRB.out hdr)
   replace HBW := hd (below_seq HBW.out hdr)
   generalize w4.drew = w5 at hdr HKB HQB HRB HBW ⊢
   clear hdr
   have t0 := Grow.cells (show w5.cell? ⟨q + 1, 0, none⟩ = some (.int .u64 (r0 : Int)) by rw [blk_cell HRB.out]; rfl)
   have t1 := Grow.cells (show w5.cell? ⟨q + 1, 1, none⟩ = some (.int .u64 (r1 : Int)) by rw [blk_cell HRB.out]; rfl)
   have t2 := Grow.cells (show w5.cell? ⟨q + 1, 2, none⟩ = some (.int .i64 r2) by rw [blk_cell HRB.out]; rfl)
   have t3 := Grow.cells (show w5.cell? ⟨q + 1, 3, none⟩ = some (.int .u64 (r3 : Int)) by rw [blk_cell HRB.out]; rfl)
   have t4 := Grow.cells (show w5.cell? ⟨q + 1, 4, none⟩ = some (.int .u64 (r4 : Int)) by rw [blk_cell HRB.out]; rfl)
   have t5 := Grow.cells (show w5.cell? ⟨q + 1, 5, none⟩ = some (.int .u64 (r5 : Int)) by rw [blk_cell HRB.out]; rfl)
   have t6 := Grow.cells (show w5.cell? ⟨q + 1, 6, none⟩ = some (.int .u64 (r6 : Int)) by rw [blk_cell HRB.out]; rfl)
   have tk0 := Grow.cells (show w5.cell? ⟨q, 0, none⟩ = some (.slice A0 m0 d0) by rw [blk_cell HKB.out]; rfl)
   have tk1 := Grow.cells (show w5.cell? ⟨q, 1, none⟩ = some (.slice A1 m1 d1) by rw [blk_cell HKB.out]; rfl)
   refine uq_pure Keeps.any (i := 0) (N := some 50) (v := ?_) (a' := ?_) (by kernel_rfl) (by kernel_rfl) rfl rfl (by rfl) (fun _ _ _ h => h) ?_ ?_ ?_
   rotate_left 2
   · intro w' hg; go_simp; with_reducible rfl
   · simp only [Act.put, List.setIfInBounds_toArray, List.set_cons_zero, List.set_cons_succ, i64_w, i32_w]; rfl
   refine uq_pure Keeps.any (i := 1) (N := some 51) (v := ?_) (a' := ?_) (by kernel_rfl) (by kernel_rfl) rfl rfl (by rfl) (fun _ _ _ h => h) ?_ ?_ ?_
   rotate_left 2
   · intro w' hg; go_simp; with_reducible rfl
   · simp only [Act.put, List.setIfInBounds_toArray, List.set_cons_zero, List.set_cons_succ, i64_w, i32_w]; rfl
   refine uq_pure Keeps.any (i := 2) (N := some 52) (v := ?_) (a' := ?_) (by kernel_rfl) (by kernel_rfl) rfl rfl (by rfl) (fun _ _ _ h => h) ?_ ?_ ?_
   rotate_left 2
   · intro w' hg; go_simp; with_reducible rfl
   · simp only [Act.put, List.setIfInBounds_toArray, List.set_cons_zero, List.set_cons_succ, i64_w, i32_w]; rfl
   refine uq_pure Keeps.any (i := 3) (N := some 53) (v := ?_) (a' := ?_) (by kernel_rfl) (by kernel_rfl) rfl rfl (by rfl) (fun _ _ _ h => h) ?_ ?_ ?_
   rotate_left 2
   · intro w' hg; go_simp; with_reducible rfl
   · simp only [Act.put, List.setIfInBounds_toArray, List.set_cons_zero, List.set_cons_succ, i64_w, i32_w]; rfl
   refine uq_pure Keeps.any (i := 4) (N := some 54) (v := ?_) (a' := ?_) (by kernel_rfl) (by kernel_rfl) rfl rfl (by rfl) (fun _ _ _ h => h) ?_ ?_ ?_
   rotate_left 2
   · intro w' hg; go_simp; with_reducible rfl
   · simp only [Act.put, List.setIfInBounds_toArray, List.set_cons_zero, List.set_cons_succ, i64_w, i32_w]; rfl
   refine uq_pure Keeps.any (i := 5) (N := some 55) (v := ?_) (a' := ?_) (by kernel_rfl) (by kernel_rfl) rfl rfl (by rfl) (fun _ _ _ h => h) ?_ ?_ ?_
   rotate_left 2
   · intro w' hg; go_simp; with_reducible rfl
   · simp only [Act.put, List.setIfInBounds_toArray, List.set_cons_zero, List.set_cons_succ, i64_w, i32_w]; rfl
   refine uq_pure Keeps.any (i := 6) (N := some 56) (v := ?_) (a' := ?_) (by kernel_rfl) (by kernel_rfl) rfl rfl (by rfl) (fun _ _ _ h => h) ?_ ?_ ?_
   rotate_left 2
   · intro w' hg; go_simp; with_reducible rfl
   · simp only [Act.put, List.setIfInBounds_toArray, List.set_cons_zero, List.set_cons_succ, i64_w, i32_w]; rfl
   refine uq_pure Keeps.any (i := 7) (N := some 57) (v := ?_) (a' := ?_) (by kernel_rfl) (by kernel_rfl) rfl rfl (by rfl) (fun _ _ _ h => h) ?_ ?_ ?_
   rotate_left 2
   · intro w' hg; go_simp; with_reducible rfl
   · simp only [Act.put, List.setIfInBounds_toArray, List.set_cons_zero, List.set_cons_succ, i64_w, i32_w]; rfl
   refine uq_pure Keeps.any (i := 8) (N := some 58) (v := ?_) (a' := ?_) (by kernel_rfl) (by kernel_rfl) rfl rfl (by rfl) (fun _ _ _ h => h) ?_ ?_ ?_
   rotate_left 2
   · intro w' hg; go_simp; with_reducible rfl
   · simp only [Act.put, List.setIfInBounds_toArray, List.set_cons_zero, List.set_cons_succ, i64_w, i32_w]; rfl
   refine uq_pure Keeps.any (i := 10) (N := some 60) (v := ?_) (a' := ?_) (by kernel_rfl) (by kernel_rfl) rfl rfl (by rfl) (fun _ _ _ h => h) ?_ ?_ ?_
   rotate_left 2
   · intro w' hg; go_simp; with_reducible rfl
   · simp only [Act.put, List.setIfInBounds_toArray, List.set_cons_zero, List.set_cons_succ, i64_w, i32_w]; rfl
   refine uq_pure Keeps.any (i := 11) (N := some 61) (v := ?_) (a' := ?_) (by kernel_rfl) (by kernel_rfl) rfl rfl (by rfl) (fun _ _ _ h => h) ?_ ?_ ?_
   rotate_left 2
   · intro w' hg; go_simp; with_reducible rfl
   · simp only [Act.put, List.setIfInBounds_toArray, List.set_cons_zero, List.set_cons_succ, i64_w, i32_w]; rfl
   refine uq_pure Keeps.any (i := 12) (N := some 62) (v := ?_) (a' := ?_) (by kernel_rfl) (by kernel_rfl) rfl rfl (by rfl) (fun _ _ _ h => h) ?_ ?_ ?_
   rotate_left 2
   · intro w' hg; go_simp; with_reducible rfl
   · simp only [Act.put, List.setIfInBounds_toArray, List.set_cons_zero, List.set_cons_succ, i64_w, i32_w]; rfl
   refine uq_pure Keeps.any (i := 13) (N := some 63) (v := ?_) (a' := ?_) (by kernel_rfl) (by kernel_rfl) rfl rfl (by rfl) (fun _ _ _ h => h) ?_ ?_ ?_
   rotate_left 2
   · intro w' hg; go_simp; with_reducible rfl
   · simp only [Act.put, List.setIfInBounds_toArray, List.set_cons_zero, List.set_cons_succ, i64_w, i32_w]; rfl
   refine uq_pure Keeps.any (i := 14) (N := some 64) (v := ?_) (a' := ?_) (by kernel_rfl) (by kernel_rfl) rfl rfl (by rfl) (fun _ _ _ h => h) ?_ ?_ ?_
   rotate_left 2
   · intro w' hg; go_simp; with_reducible rfl
   · simp only [Act.put, List.setIfInBounds_toArray, List.set_cons_zero, List.set_cons_succ, i64_w, i32_w]; rfl
   refine uq_pure Keeps.any (i := 15) (N := some 65) (v := ?_) (a' := ?_) (by kernel_rfl) (by kernel_rfl) rfl rfl (by rfl) (fun _ _ _ h => h) ?_ ?_ ?_
   rotate_left 2
   · intro w' hg; go_simp; with_reducible rfl
   · simp only [Act.put, List.setIfInBounds_toArray, List.set_cons_zero, List.set_cons_succ, i64_w, i32_w]; rfl
   refine uq_pure Keeps.any (i := 16) (N := some 66) (v := ?_) (a' := ?_) (by kernel_rfl) (by kernel_rfl) rfl rfl (by rfl) (fun _ _ _ h => h) ?_ ?_ ?_
   rotate_left 2
   · intro w' hg; go_simp; with_reducible rfl
   · simp only [Act.put, List.setIfInBounds_toArray, List.set_cons_zero, List.set_cons_succ, i64_w, i32_w]; rfl
   refine uq_pure Keeps.any (i := 17) (N := some 67) (v := ?_) (a' := ?_) (by kernel_rfl) (by kernel_rfl) rfl rfl (by rfl) (fun _ _ _ h => h) ?_ ?_ ?_
   rotate_left 2
   · intro w' hg; go_simp; with_reducible rfl
   · simp only [Act.put, List.setIfInBounds_toArray, List.set_cons_zero, List.set_cons_succ, i64_w, i32_w]; rfl
   refine uq_two (i := 9) (j := 20) (by kernel_rfl) ?_ ?_
   · refine uq_call (R := fun _ _ => True) (i := 9) (N := some 59) rfl rfl Tryd.func21 (by kernel_rfl) rfl #[.agg #[.slice A0 m0 d0, .int .u64 (fr : Int)], .agg #[.slice A1 m1 d1, .int .u64 0], .agg #[.int .u64 (r0 : Int), .int .u64 (r1 : Int), .int .i64 r2, .int .u64 (r3 : Int), .int .u64 (r4 : Int), .int .u64 (r5 : Int), .int .u64 (r6 : Int)], .int .u64 (st : Int)] (by rfl) rfl ?_ ?_
     · simp only [List.map_toArray, List.map_cons, List.map_nil]
       rfl
     have hsz := HBW.out.size
     refine (new_calls (r := ⟨r0, r1, r2, r3, r4, r5, r6⟩) (N1 := fr) (N2 := 0) (now := st) (HK0.out.below HBW.out) (HK1.out.below HBW.out) HM0.out HM1.out).mono ?_
     rintro e w21 ⟨g0, ka0, kb0, rfl, hs, ho1, ho2, hg, hb21⟩
     replace HKB := hd (blk_below HKB.out hb21)
     replace HQB := hd (blk_below HQB.out hb21)
     replace HRB := hd (blk_below HRB.out hb21)
     replace HBW := hd (below_seq HBW.out hb21)
     have HS0 := hd hs
     have HA0 := hd (ho1.lower hsz)
     have HB0 := hd (ho2.lower hsz)
     have HG0 := hd (Nat.le_trans hsz hg)
     clear hs ho1 ho2 hg hsz
     refine ⟨_, rfl, ⟨fun _ => hb21, trivial⟩, ?_⟩
     refine uq_norm (a' := ?_) ?_ ?_
     rotate_left
     · show Act.put _ (some 59) _ = _; simp only [Act.put, List.setIfInBounds_toArray, List.set_cons_zero, List.set_cons_succ, i64_w, i32_w]; rfl
     clear hb21
     refine uq_two (i := 18) (j := 20) (by kernel_rfl) ?_ ?_
     · refine uq_call (R := fun _ _ => True) (i := 18) (N := some 68) rfl rfl Tryd.func21 (by kernel_rfl) rfl #[.agg #[.slice A1 m1 d1, .int .u64 0], .agg #[.slice A0 m0 d0, .int .u64 0], .agg #[.int .u64 (r0 : Int), .int .u64 (r1 : Int), .int .i64 r2, .int .u64 (r3 : Int), .int .u64 (r4 : Int), .int .u64 (r5 : Int), .int .u64 (r6 : Int)], .int .u64 (st : Int)] (by rfl) rfl ?_ ?_
       · simp only [List.map_toArray, List.map_cons, List.map_nil]
         rfl
       have hsz := HBW.out.size
       have hlt := blk_lt HS0.out
       refine (new_calls (r := ⟨r0, r1, r2, r3, r4, r5, r6⟩) (N1 := 0) (N2 := 0) (now := st) (HK1.out.below HBW.out) (HK0.out.below HBW.out) HM1.out HM0.out).mono ?_
       rintro e w22 ⟨g1, ka1, kb1, rfl, hs, ho1, ho2, hg, hb22⟩
       replace HKB := hd (blk_below HKB.out hb22)
       replace HQB := hd (blk_below HQB.out hb22)
       replace HRB := hd (blk_below HRB.out hb22)
       replace HBW := hd (below_seq HBW.out hb22)
       replace HS0 := hd (HS0.out.below hb22)
       replace HA0 := hd (HA0.out.below hb22)
       replace HB0 := hd (HB0.out.below hb22)
       have HS1 := hd hs
       have HA1 := hd (ho1.lower hsz)
       have HB1 := hd (ho2.lower hsz)
       have HG1 := hd (Nat.le_trans hsz hg)
       have HNE := hd (show g0 ≠ g1 by omega)
       clear hlt
       clear hs ho1 ho2 hg hsz
       refine ⟨_, rfl, ⟨fun _ => hb22, trivial⟩, ?_⟩
       refine uq_norm (a' := ?_) ?_ ?_
       rotate_left
       · show Act.put _ (some 68) _ = _; simp only [Act.put, List.setIfInBounds_toArray, List.set_cons_zero, List.set_cons_succ, i64_w, i32_w]; rfl
       clear hb22
       refine uq_pure Keeps.any (i := 19) (N := some 69) (v := ?_) (a' := ?_) (by kernel_rfl) (by kernel_rfl) rfl rfl (by rfl) (fun _ _ _ h => h) ?_ ?_ ?_
       rotate_left 2
       · intro w' hg; go_simp; with_reducible rfl
       · simp only [Act.put, List.setIfInBounds_toArray, List.set_cons_zero, List.set_cons_succ, i64_w, i32_w]; rfl
       refine uq_one (i := 20) (by kernel_rfl) ?_
       refine uq_value (R := fun _ _ => True) (i := 20) (N := some 13) (v := .pointer (some ⟨w22.heap.size, 0, none⟩)) (a' := ?_) (w1 := w22.alloc (.cells #[.pointer none, .pointer none] 47)) rfl rfl (by rfl) ?_ ⟨fun _ => below_alloc (Below.refl _ _) _, trivial⟩ ?_ ?_
       rotate_left
       · go_simp
       · simp only [Act.put, List.setIfInBounds_toArray, List.set_cons_zero, List.set_cons_succ, i64_w, i32_w]; rfl
       have hal23 := below_alloc (Below.refl w22.heap.size w22) (.cells #[.pointer none, .pointer none] 47)
       have HX := hd (blk_new w22 (.cells #[.pointer none, .pointer none] 47))
       have hsz := HBW.out.size
       replace HKB := hd (blk_below HKB.out hal23)
       replace HQB := hd (blk_below HQB.out hal23)
       replace HRB := hd (blk_below HRB.out hal23)
       replace HBW := hd (below_seq HBW.out hal23)
       replace HS0 := hd (HS0.out.below hal23)
       replace HA0 := hd (HA0.out.below hal23)
       replace HB0 := hd (HB0.out.below hal23)
       replace HS1 := hd (HS1.out.below hal23)
       replace HA1 := hd (HA1.out.below hal23)
       replace HB1 := hd (HB1.out.below hal23)
       generalize w22.alloc (.cells #[.pointer none, .pointer none] 47) = w23 at HKB HQB HRB HBW HS0 HA0 HB0 HS1 HA1 HB1 HX hal23 ⊢
       obtain ⟨gx, hq23⟩ : ∃ q, Aside0 (w22.heap.size = q) := ⟨_, ⟨rfl⟩⟩
       have HGXX := hd (show W.heap.size ≤ gx by have := hq23.out; omega)
       clear hsz
       rw [hq23.out] at HX ⊢
       clear hal23
       refine uq_one (i := 21) (by kernel_rfl) ?_
       refine uq_storeSt (R := fun _ _ => True) rfl rfl (by rfl) 47 _ _ rfl gx 0 #[.pointer (some ⟨g0, 0, none⟩), .pointer (some ⟨g1, 0, none⟩)] #[.pointer none, .pointer none] _ rfl rfl _ HX.out (by kernel_rfl) (by simp) (by simp [Value.oneCell']) rfl ?_
       intro wz hbz hmz
       refine ⟨⟨fun h => absurd (by decide) h, trivial⟩, ?_⟩
       refine uq_end (by kernel_rfl) ?_
       go_wp2_with fail
       go_meet
       case rel =>
        have hap := Apart.one HX.out (e := 5) (by decide)
        exact ⟨gx, g0, g1, ka0, kb0, ka1, kb1, rfl, ⟨hbz⟩, ⟨hmz.block HS0.out (ne_types HS0.out HX.out (by decide))⟩, ⟨hmz.block HS1.out (ne_types HS1.out HX.out (by decide))⟩, ⟨HA0.out.mod hmz hap⟩, ⟨HB0.out.mod hmz hap⟩, ⟨HA1.out.mod hmz hap⟩, ⟨HB1.out.mod hmz hap⟩, ⟨hmz.block HKB.out (ne_types HKB.out HX.out (by decide))⟩, ⟨hmz.block HQB.out (ne_types HQB.out HX.out (by decide))⟩, ⟨HBW.out.trans (hmz.toBelow (fun k hk => by rw [hk]; exact HGXX.out) HBW.out.size)⟩, ⟨HGXX.out, HG0.out, HG1.out, HNE.out⟩⟩
     · refine uq_value (R := fun _ _ => True) (i := 20) (N := some 13) (v := .pointer (some ⟨w21.heap.size, 0, none⟩)) (a' := ?_) (w1 := w21.alloc (.cells #[.pointer none, .pointer none] 47)) rfl rfl (by rfl) ?_ ⟨fun _ => below_alloc (Below.refl _ _) _, trivial⟩ ?_ ?_
       rotate_left
       · go_simp
       · simp only [Act.put, List.setIfInBounds_toArray, List.set_cons_zero, List.set_cons_succ, i64_w, i32_w]; rfl
       have hal22 := below_alloc (Below.refl w21.heap.size w21) (.cells #[.pointer none, .pointer none] 47)
       have HX := hd (blk_new w21 (.cells #[.pointer none, .pointer none] 47))
       have hsz := HBW.out.size
       replace HKB := hd (blk_below HKB.out hal22)
       replace HQB := hd (blk_below HQB.out hal22)
       replace HRB := hd (blk_below HRB.out hal22)
       replace HBW := hd (below_seq HBW.out hal22)
       replace HS0 := hd (HS0.out.below hal22)
       replace HA0 := hd (HA0.out.below hal22)
       replace HB0 := hd (HB0.out.below hal22)
       generalize w21.alloc (.cells #[.pointer none, .pointer none] 47) = w22 at HKB HQB HRB HBW HS0 HA0 HB0 HX hal22 ⊢
       obtain ⟨gx, hq22⟩ : ∃ q, Aside0 (w21.heap.size = q) := ⟨_, ⟨rfl⟩⟩
       have HGXX := hd (show W.heap.size ≤ gx by have := hq22.out; omega)
       clear hsz
       rw [hq22.out] at HX ⊢
       clear hal22
       refine uq_one (i := 18) (by kernel_rfl) ?_
       refine uq_call (R := fun _ _ => True) (i := 18) (N := some 68) rfl rfl Tryd.func21 (by kernel_rfl) rfl #[.agg #[.slice A1 m1 d1, .int .u64 0], .agg #[.slice A0 m0 d0, .int .u64 0], .agg #[.int .u64 (r0 : Int), .int .u64 (r1 : Int), .int .i64 r2, .int .u64 (r3 : Int), .int .u64 (r4 : Int), .int .u64 (r5 : Int), .int .u64 (r6 : Int)], .int .u64 (st : Int)] (by rfl) rfl ?_ ?_
       · simp only [List.map_toArray, List.map_cons, List.map_nil]
         rfl
       have hsz := HBW.out.size
       have hlt := blk_lt HS0.out
       refine (new_calls (r := ⟨r0, r1, r2, r3, r4, r5, r6⟩) (N1 := 0) (N2 := 0) (now := st) (HK1.out.below HBW.out) (HK0.out.below HBW.out) HM1.out HM0.out).mono ?_
       rintro e w23 ⟨g1, ka1, kb1, rfl, hs, ho1, ho2, hg, hb23⟩
       replace HKB := hd (blk_below HKB.out hb23)
       replace HQB := hd (blk_below HQB.out hb23)
       replace HRB := hd (blk_below HRB.out hb23)
       replace HBW := hd (below_seq HBW.out hb23)
       replace HS0 := hd (HS0.out.below hb23)
       replace HA0 := hd (HA0.out.below hb23)
       replace HB0 := hd (HB0.out.below hb23)
       replace HX := hd (blk_below HX.out hb23)
       have HS1 := hd hs
       have HA1 := hd (ho1.lower hsz)
       have HB1 := hd (ho2.lower hsz)
       have HG1 := hd (Nat.le_trans hsz hg)
       have HNE := hd (show g0 ≠ g1 by omega)
       clear hlt
       clear hs ho1 ho2 hg hsz
       refine ⟨_, rfl, ⟨fun _ => hb23, trivial⟩, ?_⟩
       refine uq_norm (a' := ?_) ?_ ?_
       rotate_left
       · show Act.put _ (some 68) _ = _; simp only [Act.put, List.setIfInBounds_toArray, List.set_cons_zero, List.set_cons_succ, i64_w, i32_w]; rfl
       clear hb23
       refine uq_pure Keeps.any (i := 19) (N := some 69) (v := ?_) (a' := ?_) (by kernel_rfl) (by kernel_rfl) rfl rfl (by rfl) (fun _ _ _ h => h) ?_ ?_ ?_
       rotate_left 2
       · intro w' hg; go_simp; with_reducible rfl
       · simp only [Act.put, List.setIfInBounds_toArray, List.set_cons_zero, List.set_cons_succ, i64_w, i32_w]; rfl
       refine uq_one (i := 21) (by kernel_rfl) ?_
       refine uq_storeSt (R := fun _ _ => True) rfl rfl (by rfl) 47 _ _ rfl gx 0 #[.pointer (some ⟨g0, 0, none⟩), .pointer (some ⟨g1, 0, none⟩)] #[.pointer none, .pointer none] _ rfl rfl _ HX.out (by kernel_rfl) (by simp) (by simp [Value.oneCell']) rfl ?_
       intro wz hbz hmz
       refine ⟨⟨fun h => absurd (by decide) h, trivial⟩, ?_⟩
       refine uq_end (by kernel_rfl) ?_
       go_wp2_with fail
       go_meet
       case rel =>
        have hap := Apart.one HX.out (e := 5) (by decide)
        exact ⟨gx, g0, g1, ka0, kb0, ka1, kb1, rfl, ⟨hbz⟩, ⟨hmz.block HS0.out (ne_types HS0.out HX.out (by decide))⟩, ⟨hmz.block HS1.out (ne_types HS1.out HX.out (by decide))⟩, ⟨HA0.out.mod hmz hap⟩, ⟨HB0.out.mod hmz hap⟩, ⟨HA1.out.mod hmz hap⟩, ⟨HB1.out.mod hmz hap⟩, ⟨hmz.block HKB.out (ne_types HKB.out HX.out (by decide))⟩, ⟨hmz.block HQB.out (ne_types HQB.out HX.out (by decide))⟩, ⟨HBW.out.trans (hmz.toBelow (fun k hk => by rw [hk]; exact HGXX.out) HBW.out.size)⟩, ⟨HGXX.out, HG0.out, HG1.out, HNE.out⟩⟩
   · refine uq_value (R := fun _ _ => True) (i := 20) (N := some 13) (v := .pointer (some ⟨w5.heap.size, 0, none⟩)) (a' := ?_) (w1 := w5.alloc (.cells #[.pointer none, .pointer none] 47)) rfl rfl (by rfl) ?_ ⟨fun _ => below_alloc (Below.refl _ _) _, trivial⟩ ?_ ?_
     rotate_left
     · go_simp
     · simp only [Act.put, List.setIfInBounds_toArray, List.set_cons_zero, List.set_cons_succ, i64_w, i32_w]; rfl
     have hal21 := below_alloc (Below.refl w5.heap.size w5) (.cells #[.pointer none, .pointer none] 47)
     have HX := hd (blk_new w5 (.cells #[.pointer none, .pointer none] 47))
     have hsz := HBW.out.size
     replace HKB := hd (blk_below HKB.out hal21)
     replace HQB := hd (blk_below HQB.out hal21)
     replace HRB := hd (blk_below HRB.out hal21)
     replace HBW := hd (below_seq HBW.out hal21)
     generalize w5.alloc (.cells #[.pointer none, .pointer none] 47) = w21 at HKB HQB HRB HBW HX hal21 ⊢
     obtain ⟨gx, hq21⟩ : ∃ q, Aside0 (w5.heap.size = q) := ⟨_, ⟨rfl⟩⟩
     have HGXX := hd (show W.heap.size ≤ gx by have := hq21.out; omega)
     clear hsz
     rw [hq21.out] at HX ⊢
     clear hal21
     refine uq_one (i := 9) (by kernel_rfl) ?_
     refine uq_call (R := fun _ _ => True) (i := 9) (N := some 59) rfl rfl Tryd.func21 (by kernel_rfl) rfl #[.agg #[.slice A0 m0 d0, .int .u64 (fr : Int)], .agg #[.slice A1 m1 d1, .int .u64 0], .agg #[.int .u64 (r0 : Int), .int .u64 (r1 : Int), .int .i64 r2, .int .u64 (r3 : Int), .int .u64 (r4 : Int), .int .u64 (r5 : Int), .int .u64 (r6 : Int)], .int .u64 (st : Int)] (by rfl) rfl ?_ ?_
     · simp only [List.map_toArray, List.map_cons, List.map_nil]
       rfl
     have hsz := HBW.out.size
     refine (new_calls (r := ⟨r0, r1, r2, r3, r4, r5, r6⟩) (N1 := fr) (N2 := 0) (now := st) (HK0.out.below HBW.out) (HK1.out.below HBW.out) HM0.out HM1.out).mono ?_
     rintro e w22 ⟨g0, ka0, kb0, rfl, hs, ho1, ho2, hg, hb22⟩
     replace HKB := hd (blk_below HKB.out hb22)
     replace HQB := hd (blk_below HQB.out hb22)
     replace HRB := hd (blk_below HRB.out hb22)
     replace HBW := hd (below_seq HBW.out hb22)
     replace HX := hd (blk_below HX.out hb22)
     have HS0 := hd hs
     have HA0 := hd (ho1.lower hsz)
     have HB0 := hd (ho2.lower hsz)
     have HG0 := hd (Nat.le_trans hsz hg)
     clear hs ho1 ho2 hg hsz
     refine ⟨_, rfl, ⟨fun _ => hb22, trivial⟩, ?_⟩
     refine uq_norm (a' := ?_) ?_ ?_
     rotate_left
     · show Act.put _ (some 59) _ = _; simp only [Act.put, List.setIfInBounds_toArray, List.set_cons_zero, List.set_cons_succ, i64_w, i32_w]; rfl
     clear hb22
     refine uq_one (i := 18) (by kernel_rfl) ?_
     refine uq_call (R := fun _ _ => True) (i := 18) (N := some 68) rfl rfl Tryd.func21 (by kernel_rfl) rfl #[.agg #[.slice A1 m1 d1, .int .u64 0], .agg #[.slice A0 m0 d0, .int .u64 0], .agg #[.int .u64 (r0 : Int), .int .u64 (r1 : Int), .int .i64 r2, .int .u64 (r3 : Int), .int .u64 (r4 : Int), .int .u64 (r5 : Int), .int .u64 (r6 : Int)], .int .u64 (st : Int)] (by rfl) rfl ?_ ?_
     · simp only [List.map_toArray, List.map_cons, List.map_nil]
       rfl
     have hsz := HBW.out.size
     have hlt := blk_lt HS0.out
     refine (new_calls (r := ⟨r0, r1, r2, r3, r4, r5, r6⟩) (N1 := 0) (N2 := 0) (now := st) (HK1.out.below HBW.out) (HK0.out.below HBW.out) HM1.out HM0.out).mono ?_
     rintro e w23 ⟨g1, ka1, kb1, rfl, hs, ho1, ho2, hg, hb23⟩
     replace HKB := hd (blk_below HKB.out hb23)
     replace HQB := hd (blk_below HQB.out hb23)
     replace HRB := hd (blk_below HRB.out hb23)
     replace HBW := hd (below_seq HBW.out hb23)
     replace HX := hd (blk_below HX.out hb23)
     replace HS0 := hd (HS0.out.below hb23)
     replace HA0 := hd (HA0.out.below hb23)
     replace HB0 := hd (HB0.out.below hb23)
     have HS1 := hd hs
     have HA1 := hd (ho1.lower hsz)
     have HB1 := hd (ho2.lower hsz)
     have HG1 := hd (Nat.le_trans hsz hg)
     have HNE := hd (show g0 ≠ g1 by omega)
     clear hlt
     clear hs ho1 ho2 hg hsz
     refine ⟨_, rfl, ⟨fun _ => hb23, trivial⟩, ?_⟩
     refine uq_norm (a' := ?_) ?_ ?_
     rotate_left
     · show Act.put _ (some 68) _ = _; simp only [Act.put, List.setIfInBounds_toArray, List.set_cons_zero, List.set_cons_succ, i64_w, i32_w]; rfl
     clear hb23
     refine uq_pure Keeps.any (i := 19) (N := some 69) (v := ?_) (a' := ?_) (by kernel_rfl) (by kernel_rfl) rfl rfl (by rfl) (fun _ _ _ h => h) ?_ ?_ ?_
     rotate_left 2
     · intro w' hg; go_simp; with_reducible rfl
     · simp only [Act.put, List.setIfInBounds_toArray, List.set_cons_zero, List.set_cons_succ, i64_w, i32_w]; rfl
     refine uq_one (i := 21) (by kernel_rfl) ?_
     refine uq_storeSt (R := fun _ _ => True) rfl rfl (by rfl) 47 _ _ rfl gx 0 #[.pointer (some ⟨g0, 0, none⟩), .pointer (some ⟨g1, 0, none⟩)] #[.pointer none, .pointer none] _ rfl rfl _ HX.out (by kernel_rfl) (by simp) (by simp [Value.oneCell']) rfl ?_
     intro wz hbz hmz
     refine ⟨⟨fun h => absurd (by decide) h, trivial⟩, ?_⟩
     refine uq_end (by kernel_rfl) ?_
     go_wp2_with fail
     go_meet
     case rel =>
      have hap := Apart.one HX.out (e := 5) (by decide)
      exact ⟨gx, g0, g1, ka0, kb0, ka1, kb1, rfl, ⟨hbz⟩, ⟨hmz.block HS0.out (ne_types HS0.out HX.out (by decide))⟩, ⟨hmz.block HS1.out (ne_types HS1.out HX.out (by decide))⟩, ⟨HA0.out.mod hmz hap⟩, ⟨HB0.out.mod hmz hap⟩, ⟨HA1.out.mod hmz hap⟩, ⟨HB1.out.mod hmz hap⟩, ⟨hmz.block HKB.out (ne_types HKB.out HX.out (by decide))⟩, ⟨hmz.block HQB.out (ne_types HQB.out HX.out (by decide))⟩, ⟨HBW.out.trans (hmz.toBelow (fun k hk => by rw [hk]; exact HGXX.out) HBW.out.size)⟩, ⟨HGXX.out, HG0.out, HG1.out, HNE.out⟩⟩
 case rest =>
  obtain ⟨gx, g0, g1, ka0, kb0, ka1, kb1, rfl, HGX, HS0, HS1, HA0, HB0, HA1, HB1, HKB, HQB, HBW, HGG⟩ := hcut
  have k0 : wc.cell? ⟨q, 0, none⟩ = some (.slice A0 m0 d0) := by rw [blk_cell HKB.out]; rfl
  have k1 : wc.cell? ⟨q, 1, none⟩ = some (.slice A1 m1 d1) := by rw [blk_cell HKB.out]; rfl
  go_upto_region 12 with (fail)
  clear k0 k1 HKB
  have hal := below_alloc (Below.refl wc.heap.size wc) (.cells (refW ⟨A0, m0, d0⟩ ⟨A1, m1, d1⟩ st ⟨0, fr, ⟨false, 0, (0, 0)⟩, [], ⟨none, 0, 0⟩⟩ ⟨0, 0, ⟨false, 0, (0, 0)⟩, [], ⟨none, 0, 0⟩⟩) 51)
  have HGW := hd (blk_new wc (.cells (refW ⟨A0, m0, d0⟩ ⟨A1, m1, d1⟩ st ⟨0, fr, ⟨false, 0, (0, 0)⟩, [], ⟨none, 0, 0⟩⟩ ⟨0, 0, ⟨false, 0, (0, 0)⟩, [], ⟨none, 0, 0⟩⟩) 51))
  rw [show wc.alloc (.cells #[.slice A0 m0 d0, .int .u64 (fr : Int), .slice A1 m1 d1, .int .u64 0, .int .u64 (st : Int), .int .u64 0, .slice none 0 0, .slice A1 m1 d1, .int .u64 0, .slice A0 m0 d0, .int .u64 0, .int .u64 (st : Int), .int .u64 0, .slice none 0 0] 51) = wc.alloc (.cells (refW ⟨A0, m0, d0⟩ ⟨A1, m1, d1⟩ st ⟨0, fr, ⟨false, 0, (0, 0)⟩, [], ⟨none, 0, 0⟩⟩ ⟨0, 0, ⟨false, 0, (0, 0)⟩, [], ⟨none, 0, 0⟩⟩) 51) from rfl]
  replace HS0 := hd (HS0.out.below hal)
  replace HS1 := hd (HS1.out.below hal)
  replace HA0 := hd (HA0.out.below hal)
  replace HB0 := hd (HB0.out.below hal)
  replace HA1 := hd (HA1.out.below hal)
  replace HB1 := hd (HB1.out.below hal)
  replace HGX := hd (blk_below HGX.out hal)
  replace HQB := hd (blk_below HQB.out hal)
  have hsz := HBW.out.size
  replace HBW := hd (below_seq HBW.out hal)
  generalize wc.alloc (.cells (refW ⟨A0, m0, d0⟩ ⟨A1, m1, d1⟩ st ⟨0, fr, ⟨false, 0, (0, 0)⟩, [], ⟨none, 0, 0⟩⟩ ⟨0, 0, ⟨false, 0, (0, 0)⟩, [], ⟨none, 0, 0⟩⟩) 51) = w6 at hal HGW HGX HS0 HS1 HA0 HB0 HA1 HB1 HQB HBW ⊢
  obtain ⟨gw, hgw⟩ : ∃ gw, gw = wc.heap.size := ⟨_, rfl⟩
  have HGWW := hd (show W.heap.size ≤ gw by rw [hgw]; exact hsz)
  rw [← hgw] at HGW ⊢
  clear hal hsz hgw
  go_loopw [15, 16, 17] (fun u15 u16 u17 wr => ∃ (i : Nat) (s0 s1 : Sst) (nums : List Nat) (ls : List (List Nat)), i ≤ 20 ∧ u17 = .int .i64 i ∧ Aside0 (s0.ok i ∧ s1.ok i ∧ ls.length = nums.length ∧ nums.length ≤ i ∧ (∀ x ∈ nums, x < 2 ^ 64) ∧ (∀ b ∈ ls, b.length ≤ 316) ∧ FarN u15 s0 s1) ∧ Aside0 (OwnK .u64 22 W.heap.size wr u15 nums) ∧ Aside0 (BoxIn W wr u16 ls) ∧ Aside0 (SesAt wr g0 ⟨r0, r1, r2, r3, r4, r5, r6⟩ st s0.sent ka0 s0.N kb0 0 s0.v) ∧ Aside0 (SesAt wr g1 ⟨r0, r1, r2, r3, r4, r5, r6⟩ st s1.sent ka1 s1.N kb1 0 s1.v) ∧ Aside0 (OwnK .u8 5 W.heap.size wr ka0.v key0) ∧ Aside0 (OwnK .u8 5 W.heap.size wr kb0.v key1) ∧ Aside0 (OwnK .u8 5 W.heap.size wr ka1.v key1) ∧ Aside0 (OwnK .u8 5 W.heap.size wr kb1.v key0) ∧ Aside0 (wr.heap[gx]? = some (.cells #[.pointer (some ⟨g0, 0, none⟩), .pointer (some ⟨g1, 0, none⟩)] 47 (0, 0))) ∧ Aside0 (wr.heap[p]? = some (.cells #[.int .u64 (r0 : Int), .int .u64 (r1 : Int), .int .i64 r2, .int .u64 (r3 : Int), .int .u64 (r4 : Int), .int .u64 (r5 : Int), .int .u64 (r6 : Int)] 27 (0, 0))) ∧ Aside0 (wr.heap[gw]? = some (.cells (refW ⟨A0, m0, d0⟩ ⟨A1, m1, d1⟩ st s0 s1) 51 (0, 0))) ∧ Aside0 (OwnK .u64 22 W.heap.size wr s0.ca.v s0.l) ∧ Aside0 (OwnK .u64 22 W.heap.size wr s1.ca.v s1.l) ∧ Aside0 (Below W.heap.size W wr))
   (fun _ _ u17 _ => 20 - (intOf u17).toNat)
  case atStart => exact ⟨0, ⟨0, fr, ⟨false, 0, (0, 0)⟩, [], ⟨none, 0, 0⟩⟩, ⟨0, 0, ⟨false, 0, (0, 0)⟩, [], ⟨none, 0, 0⟩⟩, [], [], by decide, rfl, ⟨Sst.init fr 0 HFR.out, Sst.init 0 0 (by decide), rfl, Nat.le_refl _, (fun x hx => by cases hx), (fun b hb => by cases hb), FarN.nil _ _⟩, ⟨OwnK.nil _ _ _ _⟩, ⟨BoxIn.nil _ _⟩, HS0, HS1, HA0, HB0, HA1, HB1, HGX, HQB, HGW, ⟨OwnK.nil _ _ _ _⟩, ⟨OwnK.nil _ _ _ _⟩, HBW⟩
  case round =>
   obtain ⟨i, s0, s1, nums, ls, hi, rfl, HI, HN, HX, HS0, HS1, HA0, HB0, HA1, HB1, HGX, HQB, HGW, HC0, HC1, HBW⟩ := hrel
   have hi9 : (i : Int) ≤ 20 := by omega
   by_cases hlt : i < n ∧ i < 20
   · obtain ⟨h1, h2⟩ := hlt
     have i1 : (i : Int) < n := by omega
     have i2 : (i : Int) < 20 := by omega
     obtain ⟨ad, rfl, hcz⟩ := HZ.out.2.2 (by omega)
     have hnc : (n : Int) ≤ c := by have := HZ.out.1; omega
     obtain ⟨bb, oo, kd, B, m, d, b, nn, nw, hq9, e0, e1, e2, e3, hby, hnn, hnw⟩ := hcz i h1
     replace e0 := pw_cell_below HBW.out e0
     replace e1 := pw_cell_below HBW.out e1
     replace e2 := pw_cell_below HBW.out e2
     replace e3 := pw_cell_below HBW.out e3
     have HBY := hd hby
     have HNN := hd hnn
     have HNW := hd hnw
     have HI2 := hd h2
     clear hcz hby hnn hnw h1 h2 hi
     go_upto_region 14 with (fail)
     go_cut [18] (fun u18 wz => ∃ pa : Nat, u18 = .pointer (some ⟨pa, 0, none⟩) ∧ Aside0 (s0.ok i ∧ s1.ok i ∧ ls.length = nums.length ∧ nums.length ≤ i ∧ (∀ x ∈ nums, x < 2 ^ 64) ∧ (∀ b ∈ ls, b.length ≤ 316) ∧ FarN u15 s0 s1) ∧ Aside0 (OwnK .u64 22 W.heap.size wz u15 nums) ∧ Aside0 (BoxIn W wz u16 ls) ∧ Aside0 (SesAt wz g0 ⟨r0, r1, r2, r3, r4, r5, r6⟩ st s0.sent ka0 s0.N kb0 0 s0.v) ∧ Aside0 (SesAt wz g1 ⟨r0, r1, r2, r3, r4, r5, r6⟩ st s1.sent ka1 s1.N kb1 0 s1.v) ∧ Aside0 (OwnK .u8 5 W.heap.size wz ka0.v key0) ∧ Aside0 (OwnK .u8 5 W.heap.size wz kb0.v key1) ∧ Aside0 (OwnK .u8 5 W.heap.size wz ka1.v key1) ∧ Aside0 (OwnK .u8 5 W.heap.size wz kb1.v key0) ∧ Aside0 (wz.heap[gx]? = some (.cells #[.pointer (some ⟨g0, 0, none⟩), .pointer (some ⟨g1, 0, none⟩)] 47 (0, 0))) ∧ Aside0 (wz.heap[p]? = some (.cells #[.int .u64 (r0 : Int), .int .u64 (r1 : Int), .int .i64 r2, .int .u64 (r3 : Int), .int .u64 (r4 : Int), .int .u64 (r5 : Int), .int .u64 (r6 : Int)] 27 (0, 0))) ∧ Aside0 (wz.heap[gw]? = some (.cells (refW ⟨A0, m0, d0⟩ ⟨A1, m1, d1⟩ st s0 s1) 51 (0, 0))) ∧ Aside0 (OwnK .u64 22 W.heap.size wz s0.ca.v s0.l) ∧ Aside0 (OwnK .u64 22 W.heap.size wz s1.ca.v s1.l) ∧ Aside0 (Below W.heap.size W wz) ∧ Aside0 (wz.heap[pa]? = some (.cells #[.int .i64 kd, .slice B m d, .int .u64 (nn : Int), .int .u64 (nw : Int)] 54 (0, 0))))
     case first =>
      as_aux_lemma =>
       go_wp2_with fail
       go_meet
       case rel =>
        have hal := below_alloc (Below.refl wr.heap.size wr) (.cells #[.int .i64 kd, .slice B m d, .int .u64 (nn : Int), .int .u64 (nw : Int)] 54)
        have HP := hd (blk_new wr (.cells #[.int .i64 kd, .slice B m d, .int .u64 (nn : Int), .int .u64 (nw : Int)] 54))
        replace HN := hd (HN.out.below hal)
        replace HX := hd (HX.out.below hal)
        replace HS0 := hd (HS0.out.below hal)
        replace HS1 := hd (HS1.out.below hal)
        replace HA0 := hd (HA0.out.below hal)
        replace HB0 := hd (HB0.out.below hal)
        replace HA1 := hd (HA1.out.below hal)
        replace HB1 := hd (HB1.out.below hal)
        replace HGX := hd (blk_below HGX.out hal)
        replace HQB := hd (blk_below HQB.out hal)
        replace HGW := hd (blk_below HGW.out hal)
        replace HC0 := hd (HC0.out.below hal)
        replace HC1 := hd (HC1.out.below hal)
        replace HBW := hd (below_seq HBW.out hal)
        exact ⟨wr.heap.size, rfl, HI, HN, HX, HS0, HS1, HA0, HB0, HA1, HB1, HGX, HQB, HGW, HC0, HC1, HBW, HP⟩
     case rest =>
     obtain ⟨pa, rfl, HI, HN, HX, HS0, HS1, HA0, HB0, HA1, HB1, HGX, HQB, HGW, HC0, HC1, HBW, HP⟩ := hcut
     go_upto_region 15 with (fail)
     generalize wc = w7 at HP HN HX HS0 HS1 HA0 HB0 HA1 HB1 HGX HQB HGW HC0 HC1 HBW ⊢
     clear hq9 e0 e1 e2 e3
     have c0 : w7.cell? ⟨pa, 0, none⟩ = some (.int .i64 kd) := by rw [blk_cell HP.out]; rfl
     have c1 : w7.cell? ⟨pa, 1, none⟩ = some (.slice B m d) := by rw [blk_cell HP.out]; rfl
     by_cases h300 : 300 < m
     · have q300 : decide ((300 : Int) < (m : Int)) = true := by simp; omega
       clear h300
       go_wp2
       go_ret
       exact ⟨rfl, HBW.out⟩
     have q300 : decide ((300 : Int) < (m : Int)) = false := by simp; omega
     have HBL := hd (show b.length ≤ 300 by have := HBY.out.2.1; omega)
     have HML := hd (show m ≤ 300 by omega)
     clear h300
     obtain ⟨k, hk, hk2⟩ := and_mask_i64 kd 1 (by decide)
     have hk1 : bits .and .i64 kd 1 = (k : Int) := hk
     obtain ⟨z2, hz2⟩ : ∃ z2, bits .and .i64 kd 2 = z2 := ⟨_, rfl⟩
     obtain ⟨z4, hz4⟩ : ∃ z4, bits .and .i64 kd 4 = z4 := ⟨_, rfl⟩
     go_upto_if 112 with (fail)
     clear c0 c1 q300 hk i1 i2 hnc hi9
     have hk01 : k = 0 ∨ k = 1 := by omega
     clear hk2 hk1
     have HZ2 := hd hz2
     clear hz2
     rcases hk01 with rfl | rfl
     · go_cut [15, 16] (fun u15 u16 wz => ∃ (s0 s1 : Sst) (nums : List Nat) (ls : List (List Nat)), Aside0 (s0.ok (i + 1) ∧ s1.ok (i + 1) ∧ ls.length = nums.length ∧ nums.length ≤ (i + 1) ∧ (∀ x ∈ nums, x < 2 ^ 64) ∧ (∀ b ∈ ls, b.length ≤ 316) ∧ FarN u15 s0 s1) ∧ Aside0 (OwnK .u64 22 W.heap.size wz u15 nums) ∧ Aside0 (BoxIn W wz u16 ls) ∧ Aside0 (SesAt wz g0 ⟨r0, r1, r2, r3, r4, r5, r6⟩ st s0.sent ka0 s0.N kb0 0 s0.v) ∧ Aside0 (SesAt wz g1 ⟨r0, r1, r2, r3, r4, r5, r6⟩ st s1.sent ka1 s1.N kb1 0 s1.v) ∧ Aside0 (OwnK .u8 5 W.heap.size wz ka0.v key0) ∧ Aside0 (OwnK .u8 5 W.heap.size wz kb0.v key1) ∧ Aside0 (OwnK .u8 5 W.heap.size wz ka1.v key1) ∧ Aside0 (OwnK .u8 5 W.heap.size wz kb1.v key0) ∧ Aside0 (wz.heap[gx]? = some (.cells #[.pointer (some ⟨g0, 0, none⟩), .pointer (some ⟨g1, 0, none⟩)] 47 (0, 0))) ∧ Aside0 (wz.heap[p]? = some (.cells #[.int .u64 (r0 : Int), .int .u64 (r1 : Int), .int .i64 r2, .int .u64 (r3 : Int), .int .u64 (r4 : Int), .int .u64 (r5 : Int), .int .u64 (r6 : Int)] 27 (0, 0))) ∧ Aside0 (wz.heap[gw]? = some (.cells (refW ⟨A0, m0, d0⟩ ⟨A1, m1, d1⟩ st s0 s1) 51 (0, 0))) ∧ Aside0 (OwnK .u64 22 W.heap.size wz s0.ca.v s0.l) ∧ Aside0 (OwnK .u64 22 W.heap.size wz s1.ca.v s1.l) ∧ Aside0 (Below W.heap.size W wz) ∧ Aside0 (wz.heap[pa]? = some (.cells #[.int .i64 kd, .slice B m d, .int .u64 (nn : Int), .int .u64 (nw : Int)] 54 (0, 0))))
       case first =>
        by_cases hz : z2 = 0
        · have qz : (z2 == 0) = true := by simp; exact hz
          as_aux_lemma =>
           obtain ⟨x, hx⟩ : ∃ x, Aside0 (sealS ⟨r0, r1, r2, r3, r4, r5, r6⟩ st s0.sent s0.N key0 b nw = x) := ⟨_, ⟨rfl⟩⟩
           have HXF := hd (sealS_fin (r := ⟨r0, r1, r2, r3, r4, r5, r6⟩) (born := st) (sent := s0.sent) (N1 := s0.N) (now := nw) (key := key0) HBY.out.ok HI.out.1.2.1)
           rw [hx.out] at HXF
           have HRS := fun wy (hb : Below W.heap.size W wy) => hd (refseal22_calls (w := wy) (r := ⟨r0, r1, r2, r3, r4, r5, r6⟩) (k1 := ⟨A0, m0, d0⟩) (k2 := ⟨A1, m1, d1⟩) (ca := s0.ca) (N2 := 0) (born := st) (sent := s0.sent) (N1 := s0.N) (now := nw) (HK0.out.below hb) HI.out.1.2.1 (by have := HI.out.1.1; have := HI2.out; omega) (HBY.out.below hb) (by have := HML.out; omega) HNW.out)
           rw [hx.out] at HRS
           unfold R22Post Rul.v refS at HRS
           dsimp only at HRS
           go_upto_region 19 with (fail)
           refine upR_start Keeps.any [7] [(0, 1), (1, 1), (2, 1), (3, 1), (4, 1), (5, 1), (6, 1), (7, 0), (8, 1), (9, 1), (10, 1), (11, 1), (12, 1), (13, 1), (14, 1)] (by kernel_rfl) rfl (by kernel_rfl) (by kernel_rfl) ?_
           have hdr := below_drew (Below.refl w7.heap.size w7)
           replace HN := hd (HN.out.below hdr)
           replace HX := hd (HX.out.below hdr)
           replace HS0 := hd (HS0.out.below hdr)
           replace HS1 := hd (HS1.out.below hdr)
           replace HA0 := hd (HA0.out.below hdr)
           replace HB0 := hd (HB0.out.below hdr)
           replace HA1 := hd (HA1.out.below hdr)
           replace HB1 := hd (HB1.out.below hdr)
           replace HGX := hd (blk_below HGX.out hdr)
           replace HQB := hd (blk_below HQB.out hdr)
           replace HGW := hd (blk_below HGW.out hdr)
           replace HC0 := hd (HC0.out.below hdr)
           replace HC1 := hd (HC1.out.below hdr)
           replace HBW := hd (below_seq HBW.out hdr)
           replace HP := hd (blk_below HP.out hdr)
           generalize w7.drew = w8 at hdr HN HX HS0 HS1 HA0 HB0 HA1 HB1 HGX HQB HGW HC0 HC1 HBW HP ⊢
           clear hdr
           have t0 := Grow.cells (show w8.cell? ⟨gx, 0, none⟩ = some (.pointer (some ⟨g0, 0, none⟩)) by rw [blk_cell HGX.out]; rfl)
           have t1 := Grow.cells (show w8.cell? ⟨gx, 1, none⟩ = some (.pointer (some ⟨g1, 0, none⟩)) by rw [blk_cell HGX.out]; rfl)
           have tp0 := Grow.cells (show w8.cell? ⟨pa, 0, none⟩ = some (.int .i64 kd) by rw [blk_cell HP.out]; rfl)
           have tp1 := Grow.cells (show w8.cell? ⟨pa, 1, none⟩ = some (.slice B m d) by rw [blk_cell HP.out]; rfl)
           have tp2 := Grow.cells (show w8.cell? ⟨pa, 2, none⟩ = some (.int .u64 (nn : Int)) by rw [blk_cell HP.out]; rfl)
           have tp3 := Grow.cells (show w8.cell? ⟨pa, 3, none⟩ = some (.int .u64 (nw : Int)) by rw [blk_cell HP.out]; rfl)
           have HSE := hd (sseal_calls (r := ⟨r0, r1, r2, r3, r4, r5, r6⟩) (now := nw) HS0.out (own_bytes HA0.out HK0.out.ok) HI.out.1.2.1 (by have := HI.out.1.1; have := HI2.out; omega) (HBY.out.below HBW.out) (HPL.out.below HBW.out) (by have := HML.out; omega) HNW.out)
           rw [hx.out] at HSE
           refine rseq_pure (i := 0) (N := some 114) (v := ?_) (a' := ?_) rfl rfl (by rfl) (fun _ _ _ h => h) ?_ ?_ ?_
           rotate_left 2
           · intro w' hg; go_simp; with_reducible rfl
           · simp only [Act.put, List.setIfInBounds_toArray, List.set_cons_zero, List.set_cons_succ, i64_w, i32_w]; rfl
           refine rseq_pure (i := 1) (N := some 115) (v := ?_) (a' := ?_) rfl rfl (by rfl) (fun _ _ _ h => h) ?_ ?_ ?_
           rotate_left 2
           · intro w' hg; go_simp; with_reducible rfl
           · simp only [Act.put, List.setIfInBounds_toArray, List.set_cons_zero, List.set_cons_succ, i64_w, i32_w]; rfl
           refine rseq_pure (i := 2) (N := some 116) (v := ?_) (a' := ?_) rfl rfl (by rfl) (fun _ _ _ h => h) ?_ ?_ ?_
           rotate_left 2
           · intro w' hg; go_simp; with_reducible rfl
           · simp only [Act.put, List.setIfInBounds_toArray, List.set_cons_zero, List.set_cons_succ, i64_w, i32_w]; rfl
           refine rseq_pure (i := 3) (N := some 117) (v := ?_) (a' := ?_) rfl rfl (by rfl) (fun _ _ _ h => h) ?_ ?_ ?_
           rotate_left 2
           · intro w' hg; go_simp; with_reducible rfl
           · simp only [Act.put, List.setIfInBounds_toArray, List.set_cons_zero, List.set_cons_succ, i64_w, i32_w]; rfl
           refine rseq_pure (i := 4) (N := some 118) (v := ?_) (a' := ?_) rfl rfl (by rfl) (fun _ _ _ h => h) ?_ ?_ ?_
           rotate_left 2
           · intro w' hg; go_simp; with_reducible rfl
           · simp only [Act.put, List.setIfInBounds_toArray, List.set_cons_zero, List.set_cons_succ, i64_w, i32_w]; rfl
           refine rseq_pure (i := 5) (N := some 119) (v := ?_) (a' := ?_) rfl rfl (by rfl) (fun _ _ _ h => h) ?_ ?_ ?_
           rotate_left 2
           · intro w' hg; go_simp; with_reducible rfl
           · simp only [Act.put, List.setIfInBounds_toArray, List.set_cons_zero, List.set_cons_succ, i64_w, i32_w]; rfl
           refine rseq_pure (i := 6) (N := some 120) (v := ?_) (a' := ?_) rfl rfl (by rfl) (fun _ _ _ h => h) ?_ ?_ ?_
           rotate_left 2
           · intro w' hg; go_simp; with_reducible rfl
           · simp only [Act.put, List.setIfInBounds_toArray, List.set_cons_zero, List.set_cons_succ, i64_w, i32_w]; rfl
           refine rseq_call (i := 7) (N := some 121) rfl rfl Tryd.func22 (by kernel_rfl) rfl #[.pointer (some ⟨g0, 0, none⟩), .slice B m d, .int .u64 (nw : Int)] (by rfl) rfl ?_ ?_
           · simp only [List.map_toArray, List.map_cons, List.map_nil]
             rfl
           refine HSE.out.mono ?_
           rintro e w9 ⟨vb, rfl, hob, hs2, hm2⟩
           have hsz := HBW.out.size
           obtain ⟨Ab, cb, rfl, hcb, _⟩ := hob.slice
           have hap := Apart.one HS0.out (e := 5) (by decide)
           have hap64 := Apart.one HS0.out (e := 22) (by decide)
           replace HN := hd (HN.out.mod hm2 hap64)
           replace HX := hd (HX.out.mod hm2 hap (Apart.one HS0.out (by decide)))
           replace HS1 := hd (show SesAt _ g1 ⟨r0, r1, r2, r3, r4, r5, r6⟩ st s1.sent ka1 s1.N kb1 0 s1.v from hm2.block HS1.out (fun e => HGG.out.2.2.2 e.symm))
           replace HA0 := hd (HA0.out.mod hm2 hap)
           replace HB0 := hd (HB0.out.mod hm2 hap)
           replace HA1 := hd (HA1.out.mod hm2 hap)
           replace HB1 := hd (HB1.out.mod hm2 hap)
           replace HGX := hd (hm2.block HGX.out (ne_types HGX.out HS0.out (by decide)))
           replace HQB := hd (hm2.block HQB.out (ne_types HQB.out HS0.out (by decide)))
           replace HGW := hd (hm2.block HGW.out (ne_types HGW.out HS0.out (by decide)))
           replace HP := hd (hm2.block HP.out (ne_types HP.out HS0.out (by decide)))
           replace HC0 := hd (HC0.out.mod hm2 hap64)
           replace HC1 := hd (HC1.out.mod hm2 hap64)
           replace HBW := hd (HBW.out.trans (hm2.toBelow (fun k hk => by rw [hk]; exact HGG.out.2.1) HBW.out.size))
           clear hap hap64
           have HVB := hd (hob.lower hsz)
           replace HS0 := hd hs2
           refine ⟨_, rfl, ⟨fun h => absurd (by decide) h, trivial⟩, ?_⟩
           clear hob hs2 hm2 HSE hsz hcb
           refine rseq_norm (a' := ?_) ?_ ?_
           rotate_left
           · show Act.put _ (some 121) _ = _; simp only [Act.put, List.setIfInBounds_toArray, List.set_cons_zero, List.set_cons_succ, i64_w, i32_w]; rfl
           refine rseq_pure (i := 8) (N := some 113) (v := ?_) (a' := ?_) rfl rfl (by rfl) (fun _ _ _ h => h) ?_ ?_ ?_
           rotate_left 2
           · intro w' hg; go_simp; with_reducible rfl
           · simp only [Act.put, List.setIfInBounds_toArray, List.set_cons_zero, List.set_cons_succ, i64_w, i32_w]; rfl
           refine rseq_pure (i := 9) (N := some 122) (v := ?_) (a' := ?_) rfl rfl (by rfl) (fun _ _ _ h => h) ?_ ?_ ?_
           rotate_left 2
           · intro w' hg; go_simp; with_reducible rfl
           · simp only [Act.put, List.setIfInBounds_toArray, List.set_cons_zero, List.set_cons_succ, i64_w, i32_w]; rfl
           refine rseq_pure (i := 10) (N := some 123) (v := ?_) (a' := ?_) rfl rfl (by rfl) (fun _ _ _ h => h) ?_ ?_ ?_
           rotate_left 2
           · intro w' hg; go_simp; with_reducible rfl
           · simp only [Act.put, List.setIfInBounds_toArray, List.set_cons_zero, List.set_cons_succ, i64_w, i32_w]; rfl
           refine rseq_pure (i := 11) (N := some 124) (v := ?_) (a' := ?_) rfl rfl (by rfl) (fun _ _ _ h => h) ?_ ?_ ?_
           rotate_left 2
           · intro w' hg; go_simp; with_reducible rfl
           · simp only [Act.put, List.setIfInBounds_toArray, List.set_cons_zero, List.set_cons_succ, i64_w, i32_w]; rfl
           refine rseq_pure (i := 12) (N := some 20) (v := ?_) (a' := ?_) rfl rfl (by rfl) (fun _ _ _ h => h) ?_ ?_ ?_
           rotate_left 2
           · intro w' hg; go_simp; with_reducible rfl
           · simp only [Act.put, List.setIfInBounds_toArray, List.set_cons_zero, List.set_cons_succ, i64_w, i32_w]; rfl
           refine rseq_pure (i := 13) (N := some 21) (v := ?_) (a' := ?_) rfl rfl (by rfl) (fun _ _ _ h => h) ?_ ?_ ?_
           rotate_left 2
           · intro w' hg; go_simp; with_reducible rfl
           · simp only [Act.put, List.setIfInBounds_toArray, List.set_cons_zero, List.set_cons_succ, i64_w, i32_w]; rfl
           refine rseq_pure (i := 14) (N := some 22) (v := ?_) (a' := ?_) rfl rfl (by rfl) (fun _ _ _ h => h) ?_ ?_ ?_
           rotate_left 2
           · intro w' hg; go_simp; with_reducible rfl
           · simp only [Act.put, List.setIfInBounds_toArray, List.set_cons_zero, List.set_cons_succ, i64_w, i32_w]; rfl
           refine rseq_done ?_
           go_upto_region 20 with (fail)
           clear t0 t1 tp0 tp1 tp2 tp3
           go_cut [23, 24, 25, 26] (fun u23 u24 u25 u26 wz => ∃ (nb : Nat) (Ay : Option Addr) (ny cy : Nat), u23 = .pointer (some ⟨nb, 0, none⟩) ∧ u24 = .int .u64 (x.1 : Int) ∧ u25 = .slice Ay ny cy ∧ u26 = .int .i64 (x.2.2.1 : Int) ∧ Aside0 (wz.heap[nb]? = some (.cells #[.slice A0 m0 d0, .int .u64 (x.2.2.2.1 : Int), .slice A1 m1 d1, .int .u64 0, .int .u64 (st : Int), .int .u64 (x.2.2.2.2 : Int), .slice s0.ca.A s0.ca.n s0.ca.c] 50 (0, 0))) ∧ Aside0 (OwnK .u8 5 W.heap.size wz (.slice Ab x.2.1.length cb) x.2.1) ∧ Aside0 (Box W wz (Ay, ny, cy) x.2.1) ∧ Aside0 (ny = x.2.1.length) ∧ Aside0 (OwnK .u64 22 W.heap.size wz u15 nums) ∧ Aside0 (BoxIn W wz u16 ls) ∧ Aside0 (SesAt wz g0 ⟨r0, r1, r2, r3, r4, r5, r6⟩ st x.2.2.2.2 ka0 x.2.2.2.1 kb0 0 s0.v) ∧ Aside0 (SesAt wz g1 ⟨r0, r1, r2, r3, r4, r5, r6⟩ st s1.sent ka1 s1.N kb1 0 s1.v) ∧ Aside0 (OwnK .u8 5 W.heap.size wz ka0.v key0) ∧ Aside0 (OwnK .u8 5 W.heap.size wz kb0.v key1) ∧ Aside0 (OwnK .u8 5 W.heap.size wz ka1.v key1) ∧ Aside0 (OwnK .u8 5 W.heap.size wz kb1.v key0) ∧ Aside0 (wz.heap[gx]? = some (.cells #[.pointer (some ⟨g0, 0, none⟩), .pointer (some ⟨g1, 0, none⟩)] 47 (0, 0))) ∧ Aside0 (wz.heap[p]? = some (.cells #[.int .u64 (r0 : Int), .int .u64 (r1 : Int), .int .i64 r2, .int .u64 (r3 : Int), .int .u64 (r4 : Int), .int .u64 (r5 : Int), .int .u64 (r6 : Int)] 27 (0, 0))) ∧ Aside0 (wz.heap[gw]? = some (.cells (refW ⟨A0, m0, d0⟩ ⟨A1, m1, d1⟩ st s0 s1) 51 (0, 0))) ∧ Aside0 (OwnK .u64 22 W.heap.size wz s0.ca.v s0.l) ∧ Aside0 (OwnK .u64 22 W.heap.size wz s1.ca.v s1.l) ∧ Aside0 (Below W.heap.size W wz) ∧ Aside0 (wz.heap[pa]? = some (.cells #[.int .i64 kd, .slice B m d, .int .u64 (nn : Int), .int .u64 (nw : Int)] 54 (0, 0))))
           case first =>
            as_aux_lemma =>
             refine uq_start (fun _ _ => True) [15] 19 rfl (by kernel_rfl) ?_
             have hdr := below_drew (Below.refl w9.heap.size w9)
             replace HN := hd (HN.out.below hdr)
             replace HX := hd (HX.out.below hdr)
             replace HS0 := hd (HS0.out.below hdr)
             replace HS1 := hd (HS1.out.below hdr)
             replace HA0 := hd (HA0.out.below hdr)
             replace HB0 := hd (HB0.out.below hdr)
             replace HA1 := hd (HA1.out.below hdr)
             replace HB1 := hd (HB1.out.below hdr)
             replace HGX := hd (blk_below HGX.out hdr)
             replace HQB := hd (blk_below HQB.out hdr)
             replace HGW := hd (blk_below HGW.out hdr)
             replace HC0 := hd (HC0.out.below hdr)
             replace HC1 := hd (HC1.out.below hdr)
             replace HBW := hd (below_seq HBW.out hdr)
             replace HP := hd (blk_below HP.out hdr)
             replace HVB := hd (HVB.out.below hdr)
             generalize w9.drew = w10 at hdr HN HX HS0 HS1 HA0 HB0 HA1 HB1 HGX HQB HGW HC0 HC1 HBW HP HVB ⊢
             clear hdr
             have t0 := Grow.cells (show w10.cell? ⟨p, 0, none⟩ = some (.int .u64 (r0 : Int)) by rw [blk_cell HQB.out]; rfl)
             have t1 := Grow.cells (show w10.cell? ⟨p, 1, none⟩ = some (.int .u64 (r1 : Int)) by rw [blk_cell HQB.out]; rfl)
             have t2 := Grow.cells (show w10.cell? ⟨p, 2, none⟩ = some (.int .i64 r2) by rw [blk_cell HQB.out]; rfl)
             have t3 := Grow.cells (show w10.cell? ⟨p, 3, none⟩ = some (.int .u64 (r3 : Int)) by rw [blk_cell HQB.out]; rfl)
             have t4 := Grow.cells (show w10.cell? ⟨p, 4, none⟩ = some (.int .u64 (r4 : Int)) by rw [blk_cell HQB.out]; rfl)
             have t5 := Grow.cells (show w10.cell? ⟨p, 5, none⟩ = some (.int .u64 (r5 : Int)) by rw [blk_cell HQB.out]; rfl)
             have t6 := Grow.cells (show w10.cell? ⟨p, 6, none⟩ = some (.int .u64 (r6 : Int)) by rw [blk_cell HQB.out]; rfl)
             have tp0 := Grow.cells (show w10.cell? ⟨pa, 0, none⟩ = some (.int .i64 kd) by rw [blk_cell HP.out]; rfl)
             have tp1 := Grow.cells (show w10.cell? ⟨pa, 1, none⟩ = some (.slice B m d) by rw [blk_cell HP.out]; rfl)
             have tp2 := Grow.cells (show w10.cell? ⟨pa, 2, none⟩ = some (.int .u64 (nn : Int)) by rw [blk_cell HP.out]; rfl)
             have tp3 := Grow.cells (show w10.cell? ⟨pa, 3, none⟩ = some (.int .u64 (nw : Int)) by rw [blk_cell HP.out]; rfl)
             have tw0 := Grow.cells (show w10.cell? ⟨gw, 0, none⟩ = some (.slice A0 m0 d0) by rw [blk_cell HGW.out]; rfl)
             have tw1 := Grow.cells (show w10.cell? ⟨gw, 1, none⟩ = some (.int .u64 (s0.N : Int)) by rw [blk_cell HGW.out]; rfl)
             have tw2 := Grow.cells (show w10.cell? ⟨gw, 2, none⟩ = some (.slice A1 m1 d1) by rw [blk_cell HGW.out]; rfl)
             have tw3 := Grow.cells (show w10.cell? ⟨gw, 3, none⟩ = some (.int .u64 0) by rw [blk_cell HGW.out]; rfl)
             have tw4 := Grow.cells (show w10.cell? ⟨gw, 4, none⟩ = some (.int .u64 (st : Int)) by rw [blk_cell HGW.out]; rfl)
             have tw5 := Grow.cells (show w10.cell? ⟨gw, 5, none⟩ = some (.int .u64 (s0.sent : Int)) by rw [blk_cell HGW.out]; rfl)
             have tw6 := Grow.cells (show w10.cell? ⟨gw, 6, none⟩ = some (.slice s0.ca.A s0.ca.n s0.ca.c) by rw [blk_cell HGW.out]; rfl)
             have tw7 := Grow.cells (show w10.cell? ⟨gw, 7, none⟩ = some (.slice A1 m1 d1) by rw [blk_cell HGW.out]; rfl)
             have tw8 := Grow.cells (show w10.cell? ⟨gw, 8, none⟩ = some (.int .u64 (s1.N : Int)) by rw [blk_cell HGW.out]; rfl)
             have tw9 := Grow.cells (show w10.cell? ⟨gw, 9, none⟩ = some (.slice A0 m0 d0) by rw [blk_cell HGW.out]; rfl)
             have tw10 := Grow.cells (show w10.cell? ⟨gw, 10, none⟩ = some (.int .u64 0) by rw [blk_cell HGW.out]; rfl)
             have tw11 := Grow.cells (show w10.cell? ⟨gw, 11, none⟩ = some (.int .u64 (st : Int)) by rw [blk_cell HGW.out]; rfl)
             have tw12 := Grow.cells (show w10.cell? ⟨gw, 12, none⟩ = some (.int .u64 (s1.sent : Int)) by rw [blk_cell HGW.out]; rfl)
             have tw13 := Grow.cells (show w10.cell? ⟨gw, 13, none⟩ = some (.slice s1.ca.A s1.ca.n s1.ca.c) by rw [blk_cell HGW.out]; rfl)
             refine uq_pure Keeps.any (i := 0) (N := some 126) (v := ?_) (a' := ?_) (by kernel_rfl) (by kernel_rfl) rfl rfl (by rfl) (fun _ _ _ h => h) ?_ ?_ ?_
             rotate_left 2
             · intro w' hg; go_simp; with_reducible rfl
             · simp only [Act.put, List.setIfInBounds_toArray, List.set_cons_zero, List.set_cons_succ, i64_w, i32_w]; rfl
             refine uq_pure Keeps.any (i := 1) (N := some 127) (v := ?_) (a' := ?_) (by kernel_rfl) (by kernel_rfl) rfl rfl (by rfl) (fun _ _ _ h => h) ?_ ?_ ?_
             rotate_left 2
             · intro w' hg; go_simp; with_reducible rfl
             · simp only [Act.put, List.setIfInBounds_toArray, List.set_cons_zero, List.set_cons_succ, i64_w, i32_w]; rfl
             refine uq_pure Keeps.any (i := 2) (N := some 128) (v := ?_) (a' := ?_) (by kernel_rfl) (by kernel_rfl) rfl rfl (by rfl) (fun _ _ _ h => h) ?_ ?_ ?_
             rotate_left 2
             · intro w' hg; go_simp; with_reducible rfl
             · simp only [Act.put, List.setIfInBounds_toArray, List.set_cons_zero, List.set_cons_succ, i64_w, i32_w]; rfl
             refine uq_pure Keeps.any (i := 3) (N := some 129) (v := ?_) (a' := ?_) (by kernel_rfl) (by kernel_rfl) rfl rfl (by rfl) (fun _ _ _ h => h) ?_ ?_ ?_
             rotate_left 2
             · intro w' hg; go_simp; with_reducible rfl
             · simp only [Act.put, List.setIfInBounds_toArray, List.set_cons_zero, List.set_cons_succ, i64_w, i32_w]; rfl
             refine uq_pure Keeps.any (i := 4) (N := some 130) (v := ?_) (a' := ?_) (by kernel_rfl) (by kernel_rfl) rfl rfl (by rfl) (fun _ _ _ h => h) ?_ ?_ ?_
             rotate_left 2
             · intro w' hg; go_simp; with_reducible rfl
             · simp only [Act.put, List.setIfInBounds_toArray, List.set_cons_zero, List.set_cons_succ, i64_w, i32_w]; rfl
             refine uq_pure Keeps.any (i := 5) (N := some 131) (v := ?_) (a' := ?_) (by kernel_rfl) (by kernel_rfl) rfl rfl (by rfl) (fun _ _ _ h => h) ?_ ?_ ?_
             rotate_left 2
             · intro w' hg; go_simp; with_reducible rfl
             · simp only [Act.put, List.setIfInBounds_toArray, List.set_cons_zero, List.set_cons_succ, i64_w, i32_w]; rfl
             refine uq_pure Keeps.any (i := 6) (N := some 132) (v := ?_) (a' := ?_) (by kernel_rfl) (by kernel_rfl) rfl rfl (by rfl) (fun _ _ _ h => h) ?_ ?_ ?_
             rotate_left 2
             · intro w' hg; go_simp; with_reducible rfl
             · simp only [Act.put, List.setIfInBounds_toArray, List.set_cons_zero, List.set_cons_succ, i64_w, i32_w]; rfl
             refine uq_pure Keeps.any (i := 7) (N := some 133) (v := ?_) (a' := ?_) (by kernel_rfl) (by kernel_rfl) rfl rfl (by rfl) (fun _ _ _ h => h) ?_ ?_ ?_
             rotate_left 2
             · intro w' hg; go_simp; with_reducible rfl
             · simp only [Act.put, List.setIfInBounds_toArray, List.set_cons_zero, List.set_cons_succ, i64_w, i32_w]; rfl
             refine uq_two (i := 8) (j := 14) (by kernel_rfl) ?_ ?_
             · refine uq_call (R := fun _ _ => True) (i := 8) (N := some 134) rfl rfl Tryd.func23 (by kernel_rfl) rfl #[.agg #[.int .u64 (r0 : Int), .int .u64 (r1 : Int), .int .i64 r2, .int .u64 (r3 : Int), .int .u64 (r4 : Int), .int .u64 (r5 : Int), .int .u64 (r6 : Int)], .agg #[.slice A0 m0 d0, .int .u64 (s0.N : Int), .slice A1 m1 d1, .int .u64 0, .int .u64 (st : Int), .int .u64 (s0.sent : Int), .slice s0.ca.A s0.ca.n s0.ca.c], .slice B m d, .int .u64 (nw : Int)] (by rfl) rfl ?_ ?_
               · simp only [List.map_toArray, List.map_cons, List.map_nil]
                 rfl
               have hsz := HBW.out.size
               refine ((HRS w10 HBW.out).out).mono ?_
               rintro e w21 ⟨vt, rfl, hv, hb21⟩
               replace HN := hd (HN.out.below hb21)
               replace HX := hd (HX.out.below hb21)
               replace HS0 := hd (HS0.out.below hb21)
               replace HS1 := hd (HS1.out.below hb21)
               replace HA0 := hd (HA0.out.below hb21)
               replace HB0 := hd (HB0.out.below hb21)
               replace HA1 := hd (HA1.out.below hb21)
               replace HB1 := hd (HB1.out.below hb21)
               replace HGX := hd (blk_below HGX.out hb21)
               replace HQB := hd (blk_below HQB.out hb21)
               replace HGW := hd (blk_below HGW.out hb21)
               replace HC0 := hd (HC0.out.below hb21)
               replace HC1 := hd (HC1.out.below hb21)
               replace HBW := hd (below_seq HBW.out hb21)
               replace HP := hd (blk_below HP.out hb21)
               replace HVB := hd (HVB.out.below hb21)
               have hbx : Box W w21 (B, m, d) b := Box.old HBY.out (by have := HBL.out; omega)
               obtain ⟨Ay, ny, cy, rfl, hny, hby⟩ := out_box (w := w10) hv hbx HBW.out hsz HXF.out.2.1 (by have := HXF.out.2.2.1; have := HBL.out; omega)
               have HYB := hd hby
               have HNY := hd hny
               clear hv hbx hby hny hsz
               refine ⟨_, rfl, ⟨fun _ => hb21, trivial⟩, ?_⟩
               refine uq_norm (a' := ?_) ?_ ?_
               rotate_left
               · show Act.put _ (some 134) _ = _; simp only [Act.put, List.setIfInBounds_toArray, List.set_cons_zero, List.set_cons_succ, i64_w, i32_w]; rfl
               clear hb21
               refine uq_pure Keeps.any (i := 9) (N := some 125) (v := ?_) (a' := ?_) (by kernel_rfl) (by kernel_rfl) rfl rfl (by rfl) (fun _ _ _ h => h) ?_ ?_ ?_
               rotate_left 2
               · intro w' hg; go_simp; with_reducible rfl
               · simp only [Act.put, List.setIfInBounds_toArray, List.set_cons_zero, List.set_cons_succ, i64_w, i32_w]; rfl
               refine uq_pure Keeps.any (i := 10) (N := some 135) (v := ?_) (a' := ?_) (by kernel_rfl) (by kernel_rfl) rfl rfl (by rfl) (fun _ _ _ h => h) ?_ ?_ ?_
               rotate_left 2
               · intro w' hg; go_simp; with_reducible rfl
               · simp only [Act.put, List.setIfInBounds_toArray, List.set_cons_zero, List.set_cons_succ, i64_w, i32_w]; rfl
               refine uq_pure2 Keeps.any (i := 11) (N := some 136) (v := ?_) (a' := ?_) (by kernel_rfl) (by kernel_rfl) rfl rfl (by rfl) (fun _ _ _ h => h) ?_ ?_ ?_
               rotate_left 2
               · intro w' hg; go_simp; with_reducible rfl
               · simp only [Act.put, List.setIfInBounds_toArray, List.set_cons_zero, List.set_cons_succ, i64_w, i32_w]; rfl
               refine uq_pure2 Keeps.any (i := 12) (N := some 137) (v := ?_) (a' := ?_) (by kernel_rfl) (by kernel_rfl) rfl rfl (by rfl) (fun _ _ _ h => h) ?_ ?_ ?_
               rotate_left 2
               · intro w' hg; go_simp; with_reducible rfl
               · simp only [Act.put, List.setIfInBounds_toArray, List.set_cons_zero, List.set_cons_succ, i64_w, i32_w]; rfl
               refine uq_pure2 Keeps.any (i := 13) (N := some 138) (v := ?_) (a' := ?_) (by kernel_rfl) (by kernel_rfl) rfl rfl (by rfl) (fun _ _ _ h => h) ?_ ?_ ?_
               rotate_left 2
               · intro w' hg; go_simp; with_reducible rfl
               · simp only [Act.put, List.setIfInBounds_toArray, List.set_cons_zero, List.set_cons_succ, i64_w, i32_w]; rfl
               refine uq_one (i := 14) (by kernel_rfl) ?_
               refine uq_value (R := fun _ _ => True) (i := 14) (N := some 23) (v := .pointer (some ⟨w21.heap.size, 0, none⟩)) (a' := ?_) (w1 := w21.alloc (.cells #[.slice none 0 0, .int .u64 0, .slice none 0 0, .int .u64 0, .int .u64 0, .int .u64 0, .slice none 0 0] 50)) rfl rfl (by rfl) ?_ ⟨fun _ => below_alloc (Below.refl _ _) _, trivial⟩ ?_ ?_
               rotate_left
               · go_simp
               · simp only [Act.put, List.setIfInBounds_toArray, List.set_cons_zero, List.set_cons_succ, i64_w, i32_w]; rfl
               have hal22 := below_alloc (Below.refl w21.heap.size w21) (.cells #[.slice none 0 0, .int .u64 0, .slice none 0 0, .int .u64 0, .int .u64 0, .int .u64 0, .slice none 0 0] 50)
               have HNB := hd (blk_new w21 (.cells #[.slice none 0 0, .int .u64 0, .slice none 0 0, .int .u64 0, .int .u64 0, .int .u64 0, .slice none 0 0] 50))
               have hsz := HBW.out.size
               replace HN := hd (HN.out.below hal22)
               replace HX := hd (HX.out.below hal22)
               replace HS0 := hd (HS0.out.below hal22)
               replace HS1 := hd (HS1.out.below hal22)
               replace HA0 := hd (HA0.out.below hal22)
               replace HB0 := hd (HB0.out.below hal22)
               replace HA1 := hd (HA1.out.below hal22)
               replace HB1 := hd (HB1.out.below hal22)
               replace HGX := hd (blk_below HGX.out hal22)
               replace HQB := hd (blk_below HQB.out hal22)
               replace HGW := hd (blk_below HGW.out hal22)
               replace HC0 := hd (HC0.out.below hal22)
               replace HC1 := hd (HC1.out.below hal22)
               replace HBW := hd (below_seq HBW.out hal22)
               replace HP := hd (blk_below HP.out hal22)
               replace HVB := hd (HVB.out.below hal22)
               replace HYB := hd (HYB.out.mod (S := fun _ => False) (Mod.below hal22) (fun _ _ _ h => h))
               generalize w21.alloc (.cells #[.slice none 0 0, .int .u64 0, .slice none 0 0, .int .u64 0, .int .u64 0, .int .u64 0, .slice none 0 0] 50) = w22 at HN HX HS0 HS1 HA0 HB0 HA1 HB1 HGX HQB HGW HC0 HC1 HBW HP HVB HYB HNB hal22 ⊢
               obtain ⟨nb, hq22⟩ : ∃ q, Aside0 (w21.heap.size = q) := ⟨_, ⟨rfl⟩⟩
               have HNBL := hd (show W.heap.size ≤ nb by have := hq22.out; omega)
               clear hsz
               rw [hq22.out] at HNB ⊢
               clear hal22
               refine uq_one (i := 15) (by kernel_rfl) ?_
               refine uq_storeSt (R := fun _ _ => True) rfl rfl (by rfl) 50 _ _ rfl nb 0 #[.slice A0 m0 d0, .int .u64 (x.2.2.2.1 : Int), .slice A1 m1 d1, .int .u64 0, .int .u64 (st : Int), .int .u64 (x.2.2.2.2 : Int), .slice s0.ca.A s0.ca.n s0.ca.c] #[.slice none 0 0, .int .u64 0, .slice none 0 0, .int .u64 0, .int .u64 0, .int .u64 0, .slice none 0 0] _ rfl rfl _ HNB.out (by kernel_rfl) (by simp) (by simp [Value.oneCell']) rfl ?_
               intro wz hbz hmz
               refine ⟨⟨fun h => absurd (by decide) h, trivial⟩, ?_⟩
               refine uq_pure Keeps.any (i := 16) (N := some 24) (v := ?_) (a' := ?_) (by kernel_rfl) (by kernel_rfl) rfl rfl (by rfl) (fun _ _ _ h => h) ?_ ?_ ?_
               rotate_left 2
               · intro w' hg; go_simp; with_reducible rfl
               · simp only [Act.put, List.setIfInBounds_toArray, List.set_cons_zero, List.set_cons_succ, i64_w, i32_w]; rfl
               refine uq_pure Keeps.any (i := 17) (N := some 25) (v := ?_) (a' := ?_) (by kernel_rfl) (by kernel_rfl) rfl rfl (by rfl) (fun _ _ _ h => h) ?_ ?_ ?_
               rotate_left 2
               · intro w' hg; go_simp; with_reducible rfl
               · simp only [Act.put, List.setIfInBounds_toArray, List.set_cons_zero, List.set_cons_succ, i64_w, i32_w]; rfl
               refine uq_pure Keeps.any (i := 18) (N := some 26) (v := ?_) (a' := ?_) (by kernel_rfl) (by kernel_rfl) rfl rfl (by rfl) (fun _ _ _ h => h) ?_ ?_ ?_
               rotate_left 2
               · intro w' hg; go_simp; with_reducible rfl
               · simp only [Act.put, List.setIfInBounds_toArray, List.set_cons_zero, List.set_cons_succ, i64_w, i32_w]; rfl
               refine uq_end (by kernel_rfl) ?_
               go_wp2_with fail
               go_meet
               case rel =>
                have hap := Apart.one HNB.out (e := 5) (by decide)
                have hap64 := Apart.one HNB.out (e := 22) (by decide)
                replace HN := hd (HN.out.mod hmz hap64)
                replace HX := hd (HX.out.mod hmz hap (Apart.one HNB.out (by decide)))
                replace HS0 := hd (show SesAt _ g0 ⟨r0, r1, r2, r3, r4, r5, r6⟩ st (x.2.2.2.2) ka0 (x.2.2.2.1) kb0 0 (s0.v) from hmz.block HS0.out (ne_types HS0.out HNB.out (by decide)))
                replace HS1 := hd (show SesAt _ g1 ⟨r0, r1, r2, r3, r4, r5, r6⟩ st (s1.sent) ka1 (s1.N) kb1 0 (s1.v) from hmz.block HS1.out (ne_types HS1.out HNB.out (by decide)))
                replace HA0 := hd (HA0.out.mod hmz hap)
                replace HB0 := hd (HB0.out.mod hmz hap)
                replace HA1 := hd (HA1.out.mod hmz hap)
                replace HB1 := hd (HB1.out.mod hmz hap)
                replace HGX := hd (hmz.block HGX.out (ne_types HGX.out HNB.out (by decide)))
                replace HQB := hd (hmz.block HQB.out (ne_types HQB.out HNB.out (by decide)))
                replace HGW := hd (hmz.block HGW.out (ne_types HGW.out HNB.out (by decide)))
                replace HP := hd (hmz.block HP.out (ne_types HP.out HNB.out (by decide)))
                replace HC0 := hd (HC0.out.mod hmz hap64)
                replace HC1 := hd (HC1.out.mod hmz hap64)
                replace HBW := hd (HBW.out.trans (hmz.toBelow (fun k hk => by rw [hk]; exact HNBL.out) HBW.out.size))
                clear hap hap64
                exact ⟨nb, Ay, ny, cy, rfl, rfl, rfl, rfl, ⟨hbz⟩, ⟨HVB.out.mod hmz (Apart.one HNB.out (by decide))⟩, ⟨HYB.out.mod hmz (Apart.one HNB.out (by decide))⟩, HNY, HN, HX, HS0, HS1, HA0, HB0, HA1, HB1, HGX, HQB, HGW, HC0, HC1, HBW, HP⟩
             · refine uq_value (R := fun _ _ => True) (i := 14) (N := some 23) (v := .pointer (some ⟨w10.heap.size, 0, none⟩)) (a' := ?_) (w1 := w10.alloc (.cells #[.slice none 0 0, .int .u64 0, .slice none 0 0, .int .u64 0, .int .u64 0, .int .u64 0, .slice none 0 0] 50)) rfl rfl (by rfl) ?_ ⟨fun _ => below_alloc (Below.refl _ _) _, trivial⟩ ?_ ?_
               rotate_left
               · go_simp
               · simp only [Act.put, List.setIfInBounds_toArray, List.set_cons_zero, List.set_cons_succ, i64_w, i32_w]; rfl
               have hal21 := below_alloc (Below.refl w10.heap.size w10) (.cells #[.slice none 0 0, .int .u64 0, .slice none 0 0, .int .u64 0, .int .u64 0, .int .u64 0, .slice none 0 0] 50)
               have HNB := hd (blk_new w10 (.cells #[.slice none 0 0, .int .u64 0, .slice none 0 0, .int .u64 0, .int .u64 0, .int .u64 0, .slice none 0 0] 50))
               have hsz := HBW.out.size
               replace HN := hd (HN.out.below hal21)
               replace HX := hd (HX.out.below hal21)
               replace HS0 := hd (HS0.out.below hal21)
               replace HS1 := hd (HS1.out.below hal21)
               replace HA0 := hd (HA0.out.below hal21)
               replace HB0 := hd (HB0.out.below hal21)
               replace HA1 := hd (HA1.out.below hal21)
               replace HB1 := hd (HB1.out.below hal21)
               replace HGX := hd (blk_below HGX.out hal21)
               replace HQB := hd (blk_below HQB.out hal21)
               replace HGW := hd (blk_below HGW.out hal21)
               replace HC0 := hd (HC0.out.below hal21)
               replace HC1 := hd (HC1.out.below hal21)
               replace HBW := hd (below_seq HBW.out hal21)
               replace HP := hd (blk_below HP.out hal21)
               replace HVB := hd (HVB.out.below hal21)
               generalize w10.alloc (.cells #[.slice none 0 0, .int .u64 0, .slice none 0 0, .int .u64 0, .int .u64 0, .int .u64 0, .slice none 0 0] 50) = w21 at HN HX HS0 HS1 HA0 HB0 HA1 HB1 HGX HQB HGW HC0 HC1 HBW HP HVB HNB hal21 ⊢
               obtain ⟨nb, hq21⟩ : ∃ q, Aside0 (w10.heap.size = q) := ⟨_, ⟨rfl⟩⟩
               have HNBL := hd (show W.heap.size ≤ nb by have := hq21.out; omega)
               clear hsz
               rw [hq21.out] at HNB ⊢
               clear hal21
               refine uq_one (i := 8) (by kernel_rfl) ?_
               refine uq_call (R := fun _ _ => True) (i := 8) (N := some 134) rfl rfl Tryd.func23 (by kernel_rfl) rfl #[.agg #[.int .u64 (r0 : Int), .int .u64 (r1 : Int), .int .i64 r2, .int .u64 (r3 : Int), .int .u64 (r4 : Int), .int .u64 (r5 : Int), .int .u64 (r6 : Int)], .agg #[.slice A0 m0 d0, .int .u64 (s0.N : Int), .slice A1 m1 d1, .int .u64 0, .int .u64 (st : Int), .int .u64 (s0.sent : Int), .slice s0.ca.A s0.ca.n s0.ca.c], .slice B m d, .int .u64 (nw : Int)] (by rfl) rfl ?_ ?_
               · simp only [List.map_toArray, List.map_cons, List.map_nil]
                 rfl
               have hsz := HBW.out.size
               refine ((HRS w21 HBW.out).out).mono ?_
               rintro e w22 ⟨vt, rfl, hv, hb22⟩
               replace HN := hd (HN.out.below hb22)
               replace HX := hd (HX.out.below hb22)
               replace HS0 := hd (HS0.out.below hb22)
               replace HS1 := hd (HS1.out.below hb22)
               replace HA0 := hd (HA0.out.below hb22)
               replace HB0 := hd (HB0.out.below hb22)
               replace HA1 := hd (HA1.out.below hb22)
               replace HB1 := hd (HB1.out.below hb22)
               replace HGX := hd (blk_below HGX.out hb22)
               replace HQB := hd (blk_below HQB.out hb22)
               replace HGW := hd (blk_below HGW.out hb22)
               replace HC0 := hd (HC0.out.below hb22)
               replace HC1 := hd (HC1.out.below hb22)
               replace HBW := hd (below_seq HBW.out hb22)
               replace HP := hd (blk_below HP.out hb22)
               replace HVB := hd (HVB.out.below hb22)
               replace HNB := hd (blk_below HNB.out hb22)
               have hbx : Box W w22 (B, m, d) b := Box.old HBY.out (by have := HBL.out; omega)
               obtain ⟨Ay, ny, cy, rfl, hny, hby⟩ := out_box (w := w21) hv hbx HBW.out hsz HXF.out.2.1 (by have := HXF.out.2.2.1; have := HBL.out; omega)
               have HYB := hd hby
               have HNY := hd hny
               clear hv hbx hby hny hsz
               refine ⟨_, rfl, ⟨fun _ => hb22, trivial⟩, ?_⟩
               refine uq_norm (a' := ?_) ?_ ?_
               rotate_left
               · show Act.put _ (some 134) _ = _; simp only [Act.put, List.setIfInBounds_toArray, List.set_cons_zero, List.set_cons_succ, i64_w, i32_w]; rfl
               clear hb22
               refine uq_pure Keeps.any (i := 9) (N := some 125) (v := ?_) (a' := ?_) (by kernel_rfl) (by kernel_rfl) rfl rfl (by rfl) (fun _ _ _ h => h) ?_ ?_ ?_
               rotate_left 2
               · intro w' hg; go_simp; with_reducible rfl
               · simp only [Act.put, List.setIfInBounds_toArray, List.set_cons_zero, List.set_cons_succ, i64_w, i32_w]; rfl
               refine uq_pure Keeps.any (i := 10) (N := some 135) (v := ?_) (a' := ?_) (by kernel_rfl) (by kernel_rfl) rfl rfl (by rfl) (fun _ _ _ h => h) ?_ ?_ ?_
               rotate_left 2
               · intro w' hg; go_simp; with_reducible rfl
               · simp only [Act.put, List.setIfInBounds_toArray, List.set_cons_zero, List.set_cons_succ, i64_w, i32_w]; rfl
               refine uq_pure2 Keeps.any (i := 11) (N := some 136) (v := ?_) (a' := ?_) (by kernel_rfl) (by kernel_rfl) rfl rfl (by rfl) (fun _ _ _ h => h) ?_ ?_ ?_
               rotate_left 2
               · intro w' hg; go_simp; with_reducible rfl
               · simp only [Act.put, List.setIfInBounds_toArray, List.set_cons_zero, List.set_cons_succ, i64_w, i32_w]; rfl
               refine uq_pure2 Keeps.any (i := 12) (N := some 137) (v := ?_) (a' := ?_) (by kernel_rfl) (by kernel_rfl) rfl rfl (by rfl) (fun _ _ _ h => h) ?_ ?_ ?_
               rotate_left 2
               · intro w' hg; go_simp; with_reducible rfl
               · simp only [Act.put, List.setIfInBounds_toArray, List.set_cons_zero, List.set_cons_succ, i64_w, i32_w]; rfl
               refine uq_pure2 Keeps.any (i := 13) (N := some 138) (v := ?_) (a' := ?_) (by kernel_rfl) (by kernel_rfl) rfl rfl (by rfl) (fun _ _ _ h => h) ?_ ?_ ?_
               rotate_left 2
               · intro w' hg; go_simp; with_reducible rfl
               · simp only [Act.put, List.setIfInBounds_toArray, List.set_cons_zero, List.set_cons_succ, i64_w, i32_w]; rfl
               refine uq_one (i := 15) (by kernel_rfl) ?_
               refine uq_storeSt (R := fun _ _ => True) rfl rfl (by rfl) 50 _ _ rfl nb 0 #[.slice A0 m0 d0, .int .u64 (x.2.2.2.1 : Int), .slice A1 m1 d1, .int .u64 0, .int .u64 (st : Int), .int .u64 (x.2.2.2.2 : Int), .slice s0.ca.A s0.ca.n s0.ca.c] #[.slice none 0 0, .int .u64 0, .slice none 0 0, .int .u64 0, .int .u64 0, .int .u64 0, .slice none 0 0] _ rfl rfl _ HNB.out (by kernel_rfl) (by simp) (by simp [Value.oneCell']) rfl ?_
               intro wz hbz hmz
               refine ⟨⟨fun h => absurd (by decide) h, trivial⟩, ?_⟩
               refine uq_pure Keeps.any (i := 16) (N := some 24) (v := ?_) (a' := ?_) (by kernel_rfl) (by kernel_rfl) rfl rfl (by rfl) (fun _ _ _ h => h) ?_ ?_ ?_
               rotate_left 2
               · intro w' hg; go_simp; with_reducible rfl
               · simp only [Act.put, List.setIfInBounds_toArray, List.set_cons_zero, List.set_cons_succ, i64_w, i32_w]; rfl
               refine uq_pure Keeps.any (i := 17) (N := some 25) (v := ?_) (a' := ?_) (by kernel_rfl) (by kernel_rfl) rfl rfl (by rfl) (fun _ _ _ h => h) ?_ ?_ ?_
               rotate_left 2
               · intro w' hg; go_simp; with_reducible rfl
               · simp only [Act.put, List.setIfInBounds_toArray, List.set_cons_zero, List.set_cons_succ, i64_w, i32_w]; rfl
               refine uq_pure Keeps.any (i := 18) (N := some 26) (v := ?_) (a' := ?_) (by kernel_rfl) (by kernel_rfl) rfl rfl (by rfl) (fun _ _ _ h => h) ?_ ?_ ?_
               rotate_left 2
               · intro w' hg; go_simp; with_reducible rfl
               · simp only [Act.put, List.setIfInBounds_toArray, List.set_cons_zero, List.set_cons_succ, i64_w, i32_w]; rfl
               refine uq_end (by kernel_rfl) ?_
               go_wp2_with fail
               go_meet
               case rel =>
                have hap := Apart.one HNB.out (e := 5) (by decide)
                have hap64 := Apart.one HNB.out (e := 22) (by decide)
                replace HN := hd (HN.out.mod hmz hap64)
                replace HX := hd (HX.out.mod hmz hap (Apart.one HNB.out (by decide)))
                replace HS0 := hd (show SesAt _ g0 ⟨r0, r1, r2, r3, r4, r5, r6⟩ st (x.2.2.2.2) ka0 (x.2.2.2.1) kb0 0 (s0.v) from hmz.block HS0.out (ne_types HS0.out HNB.out (by decide)))
                replace HS1 := hd (show SesAt _ g1 ⟨r0, r1, r2, r3, r4, r5, r6⟩ st (s1.sent) ka1 (s1.N) kb1 0 (s1.v) from hmz.block HS1.out (ne_types HS1.out HNB.out (by decide)))
                replace HA0 := hd (HA0.out.mod hmz hap)
                replace HB0 := hd (HB0.out.mod hmz hap)
                replace HA1 := hd (HA1.out.mod hmz hap)
                replace HB1 := hd (HB1.out.mod hmz hap)
                replace HGX := hd (hmz.block HGX.out (ne_types HGX.out HNB.out (by decide)))
                replace HQB := hd (hmz.block HQB.out (ne_types HQB.out HNB.out (by decide)))
                replace HGW := hd (hmz.block HGW.out (ne_types HGW.out HNB.out (by decide)))
                replace HP := hd (hmz.block HP.out (ne_types HP.out HNB.out (by decide)))
                replace HC0 := hd (HC0.out.mod hmz hap64)
                replace HC1 := hd (HC1.out.mod hmz hap64)
                replace HBW := hd (HBW.out.trans (hmz.toBelow (fun k hk => by rw [hk]; exact HNBL.out) HBW.out.size))
                clear hap hap64
                exact ⟨nb, Ay, ny, cy, rfl, rfl, rfl, rfl, ⟨hbz⟩, ⟨HVB.out.mod hmz (Apart.one HNB.out (by decide))⟩, ⟨HYB.out.mod hmz (Apart.one HNB.out (by decide))⟩, HNY, HN, HX, HS0, HS1, HA0, HB0, HA1, HB1, HGX, HQB, HGW, HC0, HC1, HBW, HP⟩
           case rest =>
            obtain ⟨nb, Ay, ny, cy, rfl, rfl, rfl, rfl, HNB, HVB, HYB, HNY, HN, HX, HS0, HS1, HA0, HB0, HA1, HB1, HGX, HQB, HGW, HC0, HC1, HBW, HP⟩ := hcut
            as_aux_lemma =>
             have t0 : wc.cell? ⟨nb, 0, none⟩ = some (.slice A0 m0 d0) := by rw [blk_cell HNB.out]; rfl
             have t1 : wc.cell? ⟨nb, 1, none⟩ = some (.int .u64 (x.2.2.2.1 : Int)) := by rw [blk_cell HNB.out]; rfl
             have t2 : wc.cell? ⟨nb, 2, none⟩ = some (.slice A1 m1 d1) := by rw [blk_cell HNB.out]; rfl
             have t3 : wc.cell? ⟨nb, 3, none⟩ = some (.int .u64 0) := by rw [blk_cell HNB.out]; rfl
             have t4 : wc.cell? ⟨nb, 4, none⟩ = some (.int .u64 (st : Int)) := by rw [blk_cell HNB.out]; rfl
             have t5 : wc.cell? ⟨nb, 5, none⟩ = some (.int .u64 (x.2.2.2.2 : Int)) := by rw [blk_cell HNB.out]; rfl
             have t6 : wc.cell? ⟨nb, 6, none⟩ = some (.slice s0.ca.A s0.ca.n s0.ca.c) := by rw [blk_cell HNB.out]; rfl
             go_upto_region 22 with ((with_reducible refine gate_store (t := 50) (p := 141) rfl ?_); go_loud (refine op_storeSt rfl rfl 50 _ _ rfl gw 0 #[.slice A0 m0 d0, .int .u64 (x.2.2.2.1 : Int), .slice A1 m1 d1, .int .u64 0, .int .u64 (st : Int), .int .u64 (x.2.2.2.2 : Int), .slice s0.ca.A s0.ca.n s0.ca.c] (refW ⟨A0, m0, d0⟩ ⟨A1, m1, d1⟩ st s0 s1) (refW ⟨A0, m0, d0⟩ ⟨A1, m1, d1⟩ st ⟨x.2.2.2.2, x.2.2.2.1, s0.v, s0.l, s0.ca⟩ s1) rfl rfl _ HGW.out (by kernel_rfl) (by simp [refW]) (by simp [Value.oneCell']) rfl ?_); intro wz hbz hmz)
             clear t0 t1 t2 t3 t4 t5 t6
             have hap := Apart.one HGW.out (e := 5) (by decide)
             have hap64 := Apart.one HGW.out (e := 22) (by decide)
             replace HN := hd (HN.out.mod hmz hap64)
             replace HX := hd (HX.out.mod hmz hap (Apart.one HGW.out (by decide)))
             replace HS0 := hd (show SesAt _ g0 ⟨r0, r1, r2, r3, r4, r5, r6⟩ st (x.2.2.2.2) ka0 (x.2.2.2.1) kb0 0 (s0.v) from hmz.block HS0.out (ne_types HS0.out HGW.out (by decide)))
             replace HS1 := hd (show SesAt _ g1 ⟨r0, r1, r2, r3, r4, r5, r6⟩ st (s1.sent) ka1 (s1.N) kb1 0 (s1.v) from hmz.block HS1.out (ne_types HS1.out HGW.out (by decide)))
             replace HA0 := hd (HA0.out.mod hmz hap)
             replace HB0 := hd (HB0.out.mod hmz hap)
             replace HA1 := hd (HA1.out.mod hmz hap)
             replace HB1 := hd (HB1.out.mod hmz hap)
             replace HVB := hd (HVB.out.mod hmz hap)
             replace HYB := hd (HYB.out.mod hmz hap)
             replace HGX := hd (hmz.block HGX.out (ne_types HGX.out HGW.out (by decide)))
             replace HQB := hd (hmz.block HQB.out (ne_types HQB.out HGW.out (by decide)))
             replace HP := hd (hmz.block HP.out (ne_types HP.out HGW.out (by decide)))
             replace HC0 := hd (HC0.out.mod hmz hap64)
             replace HC1 := hd (HC1.out.mod hmz hap64)
             replace HBW := hd (HBW.out.trans (hmz.toBelow (fun k hk => by rw [hk]; exact HGWW.out) HBW.out.size))
             clear hap hap64
             replace HGW := hd hbz
             clear hbz hmz HNB HRS hx
             have s1' := (own_bytes HVB.out HXF.out.2.1).str (P := Tryd.prog) Tryd.underlying40 Tryd.underlying5 Tryd.underlying9
             have s2' := (HYB.out.bytes HBW.out).str (P := Tryd.prog) Tryd.underlying40 Tryd.underlying5 Tryd.underlying9
             go_upto_region 24 with (fail)
             clear s1' s2'
             have hsz := HBW.out.size
             have hkk : (nums.length + 1) * 8 ≤ 140737488355328 := by have := HI.out.2.2.2.1; have := HI2.out; omega
             go_upto_region 25 with ((with_reducible refine gate_dst (N := 160) rfl ?_); at_builtin; refine op_appendD (k := .u64) (w0 := W) 160 rfl W.heap.size 22 25 (.tmp 157) (.tmp 159) rfl rfl Tryd.underlying25 Tryd.infoU64 (by decide) u15 nums _ x.1 rfl rfl rfl HN.out HBW.out hsz hkk ?_; intro v4 w4 ho4 hb4 hg4 hat4)
             have hm4 : Mod (fun j => u15.ownBlock = some j) _ w4 := Mod.grown hg4 (fun k hk => hk)
             have HFAR := hd (FarN.grow (t0 := ⟨x.2.2.2.2, x.2.2.2.1, s0.v, s0.l, s0.ca⟩) (t1 := s1) HI.out.2.2.2.2.2.2 hat4 HC0.out HC1.out rfl rfl)
             replace HS0 := hd (show SesAt _ g0 ⟨r0, r1, r2, r3, r4, r5, r6⟩ st (x.2.2.2.2) ka0 (x.2.2.2.1) kb0 0 (s0.v) from hm4.block HS0.out (R_not HN.out HS0.out (by decide)))
             replace HS1 := hd (show SesAt _ g1 ⟨r0, r1, r2, r3, r4, r5, r6⟩ st (s1.sent) ka1 (s1.N) kb1 0 (s1.v) from hm4.block HS1.out (R_not HN.out HS1.out (by decide)))
             replace HA0 := hd (HA0.out.mod hm4 (R_apart HN.out (by decide)))
             replace HB0 := hd (HB0.out.mod hm4 (R_apart HN.out (by decide)))
             replace HA1 := hd (HA1.out.mod hm4 (R_apart HN.out (by decide)))
             replace HB1 := hd (HB1.out.mod hm4 (R_apart HN.out (by decide)))
             replace HYB := hd (HYB.out.mod hm4 (R_apart HN.out (by decide)))
             replace HGX := hd (hm4.block HGX.out (R_not HN.out HGX.out (by decide)))
             replace HQB := hd (hm4.block HQB.out (R_not HN.out HQB.out (by decide)))
             replace HGW := hd (hm4.block HGW.out (R_not HN.out HGW.out (by decide)))
             replace HP := hd (hm4.block HP.out (R_not HN.out HP.out (by decide)))
             replace HC0 := hd (OwnK.other HC0.out hg4 (fun j hj => (HI.out.2.2.2.2.2.2 j hj).1))
             replace HC1 := hd (OwnK.other HC1.out hg4 (fun j hj => (HI.out.2.2.2.2.2.2 j hj).2))
             replace HX := hd (HX.out.mod hm4 (R_apart HN.out (by decide)) (R_apart HN.out (by decide)))
             replace HN := hd ho4
             replace HBW := hd hb4
             clear hm4 hg4 ho4 hb4 hsz hkk hat4
             have hsz := HBW.out.size
             obtain ⟨ss, hss, hsl, hsb⟩ := HX.out
             have HSS := hd hss
             have HSL := hd (And.intro hsl hsb)
             have hsn : ss.length ≤ 2000000 := by have := HI.out.2.2.1; have := HI.out.2.2.2.1; have := HI2.out; omega
             clear hss hsl hsb
             go_wp2_with ((with_reducible refine gate_dst (N := 164) rfl ?_); at_builtin; refine op_appendS (w0 := W) 164 rfl W.heap.size (.tmp 161) (.tmp 163) rfl rfl u16 ss (Ay, ny, cy) rfl rfl HSS.out HBW.out hsz hsn ?_; intro v5 w5 hr5 hb5 hg5)
             have hm5 : Mod (fun j => u16.ownBlock = some j) w4 w5 := Mod.grown hg5 (fun k hk => hk)
             have hx5 := hd (BoxIn.snoc HSS.out HSL.out.1 HSL.out.2 HYB.out hr5 hg5)
             replace HS0 := hd (show SesAt _ g0 ⟨r0, r1, r2, r3, r4, r5, r6⟩ st (x.2.2.2.2) ka0 (x.2.2.2.1) kb0 0 (s0.v) from hm5.block HS0.out (R_not HSS.out HS0.out (by decide)))
             replace HS1 := hd (show SesAt _ g1 ⟨r0, r1, r2, r3, r4, r5, r6⟩ st (s1.sent) ka1 (s1.N) kb1 0 (s1.v) from hm5.block HS1.out (R_not HSS.out HS1.out (by decide)))
             replace HA0 := hd (HA0.out.mod hm5 (R_apart HSS.out (by decide)))
             replace HB0 := hd (HB0.out.mod hm5 (R_apart HSS.out (by decide)))
             replace HA1 := hd (HA1.out.mod hm5 (R_apart HSS.out (by decide)))
             replace HB1 := hd (HB1.out.mod hm5 (R_apart HSS.out (by decide)))
             replace HGX := hd (hm5.block HGX.out (R_not HSS.out HGX.out (by decide)))
             replace HQB := hd (hm5.block HQB.out (R_not HSS.out HQB.out (by decide)))
             replace HGW := hd (hm5.block HGW.out (R_not HSS.out HGW.out (by decide)))
             replace HP := hd (hm5.block HP.out (R_not HSS.out HP.out (by decide)))
             replace HC0 := hd (HC0.out.mod hm5 (R_apart HSS.out (by decide)))
             replace HC1 := hd (HC1.out.mod hm5 (R_apart HSS.out (by decide)))
             replace HN := hd (HN.out.mod hm5 (R_apart HSS.out (by decide)))
             replace HX := hx5
             replace HBW := hd hb5
             clear hm5 hg5 hr5 hb5 hsz hsn hx5
             go_meet
             case rel =>
              exact ⟨⟨x.2.2.2.2, x.2.2.2.1, s0.v, s0.l, s0.ca⟩, s1, nums ++ [x.1], ls ++ [x.2.1], ⟨HI.out.1.seal HXF.out.2.2.2.1 HXF.out.2.2.2.2, HI.out.2.1.mono (Nat.le_succ i), by rw [List.length_append, List.length_append, HI.out.2.2.1]; rfl, by rw [List.length_append]; exact Nat.succ_le_succ HI.out.2.2.2.1, fun y hy => (by rcases List.mem_append.1 hy with hy | hy; exact HI.out.2.2.2.2.1 y hy; rw [List.mem_singleton.1 hy]; exact HXF.out.1), fun y hy => (by rcases List.mem_append.1 hy with hy | hy; exact HI.out.2.2.2.2.2.1 y hy; rw [List.mem_singleton.1 hy]; have := HXF.out.2.2.1; have := HBL.out; omega), HFAR.out⟩, HN, HX, HS0, HS1, HA0, HB0, HA1, HB1, HGX, HQB, HGW, HC0, HC1, HBW, HP⟩
        · have qz : (z2 == 0) = false := by simp; exact hz
          as_aux_lemma =>
           have c0 : w7.cell? ⟨pa, 0, none⟩ = some ((.int .i64 kd)) := by rw [blk_cell HP.out]; rfl
           have c1 : w7.cell? ⟨pa, 1, none⟩ = some ((.slice B m d)) := by rw [blk_cell HP.out]; rfl
           have c2 : w7.cell? ⟨pa, 2, none⟩ = some ((.int .u64 (nn : Int))) := by rw [blk_cell HP.out]; rfl
           have c3 : w7.cell? ⟨pa, 3, none⟩ = some ((.int .u64 (nw : Int))) := by rw [blk_cell HP.out]; rfl
           obtain ⟨Ax, cx, hu16, hcx⟩ := HX.out.form
           subst hu16
           obtain ⟨nl, hnl⟩ : ∃ nl, Aside0 (ls.length = nl) := ⟨_, ⟨rfl⟩⟩
           rw [hnl.out] at hcx HX ⊢
           go_upto_region 28 with (fail)
           go_cut [177] (fun u177 wz => ∃ cc : Bool, u177 = .bool cc ∧ w7 = wz ∧ Aside0 (cc = true → 0 < nl))
           case first =>
            as_aux_lemma =>
             by_cases hb0 : nl = 0
             · have qb : decide ((0 : Int) < (nl : Int)) = false := decide_eq_false (by omega)
               have qb' : decide (0 < nl) = false := decide_eq_false (by omega)
               clear hb0 hcx
               go_wp2
               go_meet
               case rel => exact ⟨false, by first | rfl | (simp; done), rfl, ⟨fun h => by cases h⟩⟩
             · have qb : decide ((0 : Int) < (nl : Int)) = true := decide_eq_true (by omega)
               have qb' : decide (0 < nl) = true := decide_eq_true (by omega)
               have HB0 := hd (show 0 < nl by omega)
               by_cases h4 : 0 < z4
               · have q4 : decide (0 < z4) = true := decide_eq_true h4
                 clear hb0 hcx h4
                 go_wp2
                 go_meet
                 case rel => exact ⟨true, by first | rfl | (simp; done), rfl, ⟨fun h => HB0.out⟩⟩
               · have q4 : decide (0 < z4) = false := decide_eq_false h4
                 clear hb0 hcx h4
                 go_wp2
                 go_meet
                 case rel => exact ⟨false, by first | rfl | (simp; done), rfl, ⟨fun h => by cases h⟩⟩
           case rest =>
           obtain ⟨cc, rfl, rfl, HCC⟩ := hcut
           go_upto_if 177 with (fail)
           go_cut [27, 28] (fun u27 u28 wz => ∃ (no : Nat) (Bo : Option Addr) (mo dd : Nat) (bo : List Nat), u27 = .int .u64 (no : Int) ∧ u28 = .slice Bo mo dd ∧ w7 = wz ∧ Aside0 (no < 2 ^ 64 ∧ mo ≤ 316) ∧ Aside0 (Box W wz (Bo, mo, dd) bo))
           case first =>
            as_aux_lemma =>
             cases cc
             · go_wp2
               go_meet
               case rel => exact ⟨nn, B, m, d, b, rfl, rfl, rfl, ⟨HNN.out, by have := HML.out; omega⟩, ⟨Box.old HBY.out (by have := HBL.out; omega)⟩⟩
             · have hlp := HCC.out rfl
               have hln : nl = nums.length := hnl.out.symm.trans HI.out.2.2.1
               obtain ⟨zq, hzq, hzl⟩ := and_mask_u64 (nn : Int) 16 (by decide)
               have hz1 : bits .and .u64 (nn : Int) 65535 = (zq : Int) := hzq
               have hz2 : IntKind.i64.wrap (zq : Int) = (zq : Int) := IntWalk.i64_in _ (by omega)
               have hp0 : (nl : Int) ≠ 0 := by omega
               have hp1 : decide ((nl : Int) = 0) = false := decide_eq_false hp0
               have hp2 : ((nl : Int) == 0) = false := by simp; omega
               obtain ⟨at_, hat⟩ : ∃ at_, at_ = zq % nl := ⟨_, rfl⟩
               have hlt : at_ < nl := by rw [hat]; exact Nat.mod_lt _ (by omega)
               have hz3 : Int.tmod (zq : Int) (nl : Int) = (at_ : Int) := by rw [hat]; exact (Int.ofNat_tmod zq nl).symm
               have hz4 : (zq : Int) % (nl : Int) = (at_ : Int) := by rw [hat]; exact (Int.natCast_emod zq nl).symm
               obtain ⟨gq, cq, Aq, mq, dq, hu16, hcell, hcq, hbox⟩ := HX.out.box_at HBW.out at_ (by rw [hnl.out]; exact hlt)
               injection hu16 with hu1 hu2 hu3
               subst hu1
               subst hu3
               rw [hnl.out] at hcq
               obtain ⟨gn, cn, hu15, _, _, hcn⟩ := HN.out.form (by omega)
               rw [← hln] at hu15 hcn
               subst hu15
               obtain ⟨no, HNO, hcn1, _⟩ := HN.out.cellx at_ hlt
               have hi1 : (at_ : Int) < nl := by omega
               have hi3 : (nl : Int) ≤ cx := by omega
               have hi4 : (nl : Int) ≤ cn := by omega
               have HBO := hd hbox
               have hmq : mq = (ls.getD at_ []).length := HBO.out.len HBW.out
               have HNO2 := hd (show no < 2 ^ 64 from by rw [← HNO.out]; exact HI.out.2.2.2.2.1 _ (by rw [List.getD_eq_getElem?_getD, List.getElem?_eq_getElem (by omega)]; exact List.getElem_mem _))
               have HMQ := hd (show mq ≤ 316 from by
                have h1 := HI.out.2.2.2.2.2.1 (ls.getD at_ []) (by rw [List.getD_eq_getElem?_getD, List.getElem?_eq_getElem (by rw [hnl.out]; exact hlt)]; exact List.getElem_mem _)
                omega)
               have hwat : IntKind.i64.wrap (at_ : Int) = (at_ : Int) := IntWalk.i64_in _ (by have := HI.out.2.2.2.1; have := HI2.out; omega)
               clear hat hbox hmq hzq hzl hlt hln hlp hu2 hcx
               go_wp2
               go_meet
               case rel => exact ⟨no, Aq, mq, dq, _, rfl, rfl, rfl, ⟨HNO2.out, HMQ.out⟩, HBO⟩
           case rest =>
            obtain ⟨no, Bo, mo, dd, bo, rfl, rfl, rfl, HNO, HOB⟩ := hcut
            clear hz4 c0 c1 c2 c3 hcx HCC
            obtain ⟨x, hx⟩ : ∃ x, Aside0 (openS ⟨r0, r1, r2, r3, r4, r5, r6⟩ st s0.v key1 no bo nw = x) := ⟨_, ⟨rfl⟩⟩
            have HXF := hd (openS_fin (r := ⟨r0, r1, r2, r3, r4, r5, r6⟩) (born := st) (no := no) (now := nw) (v := s0.v) (key := key1) HOB.out.1)
            rw [hx.out] at HXF
            go_upto_region 32 with (fail)
            refine upR_start Keeps.any [7] [(0, 1), (1, 1), (2, 1), (3, 1), (4, 1), (5, 1), (6, 1), (7, 0), (8, 1), (9, 1), (10, 1), (11, 1), (12, 1)] (by kernel_rfl) rfl (by kernel_rfl) (by kernel_rfl) ?_
            have hdr := below_drew (Below.refl w7.heap.size w7)
            replace HN := hd (HN.out.below hdr)
            replace HX := hd (HX.out.below hdr)
            replace HS0 := hd (HS0.out.below hdr)
            replace HS1 := hd (HS1.out.below hdr)
            replace HA0 := hd (HA0.out.below hdr)
            replace HB0 := hd (HB0.out.below hdr)
            replace HA1 := hd (HA1.out.below hdr)
            replace HB1 := hd (HB1.out.below hdr)
            replace HGX := hd (blk_below HGX.out hdr)
            replace HQB := hd (blk_below HQB.out hdr)
            replace HGW := hd (blk_below HGW.out hdr)
            replace HC0 := hd (HC0.out.below hdr)
            replace HC1 := hd (HC1.out.below hdr)
            replace HBW := hd (below_seq HBW.out hdr)
            replace HP := hd (blk_below HP.out hdr)
            replace HOB := hd (HOB.out.mod (S := fun _ => False) (Mod.below hdr) (fun _ _ _ h => h))
            generalize w7.drew = w8 at hdr HN HX HS0 HS1 HA0 HB0 HA1 HB1 HGX HQB HGW HC0 HC1 HBW HP HOB ⊢
            clear hdr
            have t0 := Grow.cells (show w8.cell? ⟨gx, 0, none⟩ = some (.pointer (some ⟨g0, 0, none⟩)) by rw [blk_cell HGX.out]; rfl)
            have t1 := Grow.cells (show w8.cell? ⟨gx, 1, none⟩ = some (.pointer (some ⟨g1, 0, none⟩)) by rw [blk_cell HGX.out]; rfl)
            have tp0 := Grow.cells (show w8.cell? ⟨pa, 0, none⟩ = some (.int .i64 kd) by rw [blk_cell HP.out]; rfl)
            have tp1 := Grow.cells (show w8.cell? ⟨pa, 1, none⟩ = some (.slice B m d) by rw [blk_cell HP.out]; rfl)
            have tp2 := Grow.cells (show w8.cell? ⟨pa, 2, none⟩ = some (.int .u64 (nn : Int)) by rw [blk_cell HP.out]; rfl)
            have tp3 := Grow.cells (show w8.cell? ⟨pa, 3, none⟩ = some (.int .u64 (nw : Int)) by rw [blk_cell HP.out]; rfl)
            have HSE := hd (sopen_calls (r := ⟨r0, r1, r2, r3, r4, r5, r6⟩) (now := nw) (n := no) HS0.out HI.out.1.2.2.2.1 (own_bytes HB0.out HK1.out.ok) HNO.out.1 (HOB.out.bytes HBW.out) (HPL.out.below HBW.out) (show mo ≤ 100000000 by have := HNO.out.2; omega) HNW.out)
            rw [hx.out] at HSE
            refine rseq_pure (i := 0) (N := some 194) (v := ?_) (a' := ?_) rfl rfl (by rfl) (fun _ _ _ h => h) ?_ ?_ ?_
            rotate_left 2
            · intro w' hg; go_simp; with_reducible rfl
            · simp only [Act.put, List.setIfInBounds_toArray, List.set_cons_zero, List.set_cons_succ, i64_w, i32_w]; rfl
            refine rseq_pure (i := 1) (N := some 195) (v := ?_) (a' := ?_) rfl rfl (by rfl) (fun _ _ _ h => h) ?_ ?_ ?_
            rotate_left 2
            · intro w' hg; go_simp; with_reducible rfl
            · simp only [Act.put, List.setIfInBounds_toArray, List.set_cons_zero, List.set_cons_succ, i64_w, i32_w]; rfl
            refine rseq_pure (i := 2) (N := some 196) (v := ?_) (a' := ?_) rfl rfl (by rfl) (fun _ _ _ h => h) ?_ ?_ ?_
            rotate_left 2
            · intro w' hg; go_simp; with_reducible rfl
            · simp only [Act.put, List.setIfInBounds_toArray, List.set_cons_zero, List.set_cons_succ, i64_w, i32_w]; rfl
            refine rseq_pure (i := 3) (N := some 197) (v := ?_) (a' := ?_) rfl rfl (by rfl) (fun _ _ _ h => h) ?_ ?_ ?_
            rotate_left 2
            · intro w' hg; go_simp; with_reducible rfl
            · simp only [Act.put, List.setIfInBounds_toArray, List.set_cons_zero, List.set_cons_succ, i64_w, i32_w]; rfl
            refine rseq_pure (i := 4) (N := some 198) (v := ?_) (a' := ?_) rfl rfl (by rfl) (fun _ _ _ h => h) ?_ ?_ ?_
            rotate_left 2
            · intro w' hg; go_simp; with_reducible rfl
            · simp only [Act.put, List.setIfInBounds_toArray, List.set_cons_zero, List.set_cons_succ, i64_w, i32_w]; rfl
            refine rseq_pure (i := 5) (N := some 199) (v := ?_) (a' := ?_) rfl rfl (by rfl) (fun _ _ _ h => h) ?_ ?_ ?_
            rotate_left 2
            · intro w' hg; go_simp; with_reducible rfl
            · simp only [Act.put, List.setIfInBounds_toArray, List.set_cons_zero, List.set_cons_succ, i64_w, i32_w]; rfl
            refine rseq_pure (i := 6) (N := some 200) (v := ?_) (a' := ?_) rfl rfl (by rfl) (fun _ _ _ h => h) ?_ ?_ ?_
            rotate_left 2
            · intro w' hg; go_simp; with_reducible rfl
            · simp only [Act.put, List.setIfInBounds_toArray, List.set_cons_zero, List.set_cons_succ, i64_w, i32_w]; rfl
            refine rseq_call (i := 7) (N := some 201) rfl rfl Tryd.func24 (by kernel_rfl) rfl #[.pointer (some ⟨g0, 0, none⟩), .int .u64 (no : Int), .slice Bo mo dd, .int .u64 (nw : Int)] (by rfl) rfl ?_ ?_
            · simp only [List.map_toArray, List.map_cons, List.map_nil]
              rfl
            refine HSE.out.mono ?_
            rintro e w9 ⟨vb, rfl, hob, hs2, hm2⟩
            have hsz := HBW.out.size
            obtain ⟨Ab, cb, rfl, hcb, _⟩ := hob.slice
            have hap := Apart.one HS0.out (e := 5) (by decide)
            have hap64 := Apart.one HS0.out (e := 22) (by decide)
            replace HN := hd (HN.out.mod hm2 hap64)
            replace HX := hd (HX.out.mod hm2 hap (Apart.one HS0.out (by decide)))
            replace HS1 := hd (show SesAt _ g1 ⟨r0, r1, r2, r3, r4, r5, r6⟩ st s1.sent ka1 s1.N kb1 0 s1.v from hm2.block HS1.out (fun e => HGG.out.2.2.2 e.symm))
            replace HA0 := hd (HA0.out.mod hm2 hap)
            replace HB0 := hd (HB0.out.mod hm2 hap)
            replace HA1 := hd (HA1.out.mod hm2 hap)
            replace HB1 := hd (HB1.out.mod hm2 hap)
            replace HOB := hd (HOB.out.mod hm2 hap)
            replace HGX := hd (hm2.block HGX.out (ne_types HGX.out HS0.out (by decide)))
            replace HQB := hd (hm2.block HQB.out (ne_types HQB.out HS0.out (by decide)))
            replace HGW := hd (hm2.block HGW.out (ne_types HGW.out HS0.out (by decide)))
            replace HP := hd (hm2.block HP.out (ne_types HP.out HS0.out (by decide)))
            replace HC0 := hd (HC0.out.mod hm2 hap64)
            replace HC1 := hd (HC1.out.mod hm2 hap64)
            replace HBW := hd (HBW.out.trans (hm2.toBelow (fun k hk => by rw [hk]; exact HGG.out.2.1) HBW.out.size))
            clear hap hap64
            have HVB := hd (hob.lower hsz)
            replace HS0 := hd hs2
            refine ⟨_, rfl, ⟨fun h => absurd (by decide) h, trivial⟩, ?_⟩
            clear hob hs2 hm2 HSE hsz hcb
            refine rseq_norm (a' := ?_) ?_ ?_
            rotate_left
            · show Act.put _ (some 201) _ = _; simp only [Act.put, List.setIfInBounds_toArray, List.set_cons_zero, List.set_cons_succ, i64_w, i32_w]; rfl
            refine rseq_pure (i := 8) (N := some 193) (v := ?_) (a' := ?_) rfl rfl (by rfl) (fun _ _ _ h => h) ?_ ?_ ?_
            rotate_left 2
            · intro w' hg; go_simp; with_reducible rfl
            · simp only [Act.put, List.setIfInBounds_toArray, List.set_cons_zero, List.set_cons_succ, i64_w, i32_w]; rfl
            refine rseq_pure (i := 9) (N := some 202) (v := ?_) (a' := ?_) rfl rfl (by rfl) (fun _ _ _ h => h) ?_ ?_ ?_
            rotate_left 2
            · intro w' hg; go_simp; with_reducible rfl
            · simp only [Act.put, List.setIfInBounds_toArray, List.set_cons_zero, List.set_cons_succ, i64_w, i32_w]; rfl
            refine rseq_pure (i := 10) (N := some 203) (v := ?_) (a' := ?_) rfl rfl (by rfl) (fun _ _ _ h => h) ?_ ?_ ?_
            rotate_left 2
            · intro w' hg; go_simp; with_reducible rfl
            · simp only [Act.put, List.setIfInBounds_toArray, List.set_cons_zero, List.set_cons_succ, i64_w, i32_w]; rfl
            refine rseq_pure (i := 11) (N := some 30) (v := ?_) (a' := ?_) rfl rfl (by rfl) (fun _ _ _ h => h) ?_ ?_ ?_
            rotate_left 2
            · intro w' hg; go_simp; with_reducible rfl
            · simp only [Act.put, List.setIfInBounds_toArray, List.set_cons_zero, List.set_cons_succ, i64_w, i32_w]; rfl
            refine rseq_pure (i := 12) (N := some 31) (v := ?_) (a' := ?_) rfl rfl (by rfl) (fun _ _ _ h => h) ?_ ?_ ?_
            rotate_left 2
            · intro w' hg; go_simp; with_reducible rfl
            · simp only [Act.put, List.setIfInBounds_toArray, List.set_cons_zero, List.set_cons_succ, i64_w, i32_w]; rfl
            refine rseq_done ?_
            go_upto_region 33 with (fail)
            clear t0 t1 tp0 tp1 tp2 tp3
            go_cut [32, 33, 34] (fun u32 u33 u34 wz => ∃ (nb : Nat) (Ay : Option Addr) (ny cy : Nat) (ca' : Sl) (l' : List Nat), u32 = .pointer (some ⟨nb, 0, none⟩) ∧ u33 = .slice Ay ny cy ∧ u34 = .int .i64 (x.2.1 : Int) ∧ Aside0 (wz.heap[nb]? = some (.cells #[.slice A0 m0 d0, .int .u64 (s0.N : Int), .slice A1 m1 d1, .int .u64 0, .int .u64 (st : Int), .int .u64 (s0.sent : Int), .slice ca'.A ca'.n ca'.c] 50 (0, 0))) ∧ Aside0 (OwnK .u8 5 W.heap.size wz (.slice Ab x.1.length cb) x.1) ∧ Aside0 (Box W wz (Ay, ny, cy) x.1) ∧ Aside0 (ny = x.1.length) ∧ Aside0 (Sst.ok ⟨s0.sent, s0.N, x.2.2, l', ca'⟩ (i + 1)) ∧ Aside0 (FarN u15 ⟨s0.sent, s0.N, x.2.2, l', ca'⟩ s1) ∧ Aside0 (OwnK .u64 22 W.heap.size wz u15 nums) ∧ Aside0 (BoxIn W wz (.slice Ax nl cx) ls) ∧ Aside0 (SesAt wz g0 ⟨r0, r1, r2, r3, r4, r5, r6⟩ st s0.sent ka0 s0.N kb0 0 x.2.2) ∧ Aside0 (SesAt wz g1 ⟨r0, r1, r2, r3, r4, r5, r6⟩ st s1.sent ka1 s1.N kb1 0 s1.v) ∧ Aside0 (OwnK .u8 5 W.heap.size wz ka0.v key0) ∧ Aside0 (OwnK .u8 5 W.heap.size wz kb0.v key1) ∧ Aside0 (OwnK .u8 5 W.heap.size wz ka1.v key1) ∧ Aside0 (OwnK .u8 5 W.heap.size wz kb1.v key0) ∧ Aside0 (wz.heap[gx]? = some (.cells #[.pointer (some ⟨g0, 0, none⟩), .pointer (some ⟨g1, 0, none⟩)] 47 (0, 0))) ∧ Aside0 (wz.heap[p]? = some (.cells #[.int .u64 (r0 : Int), .int .u64 (r1 : Int), .int .i64 r2, .int .u64 (r3 : Int), .int .u64 (r4 : Int), .int .u64 (r5 : Int), .int .u64 (r6 : Int)] 27 (0, 0))) ∧ Aside0 (wz.heap[gw]? = some (.cells (refW ⟨A0, m0, d0⟩ ⟨A1, m1, d1⟩ st s0 s1) 51 (0, 0))) ∧ Aside0 (OwnK .u64 22 W.heap.size wz ca'.v l') ∧ Aside0 (OwnK .u64 22 W.heap.size wz s1.ca.v s1.l) ∧ Aside0 (Below W.heap.size W wz) ∧ Aside0 (wz.heap[pa]? = some (.cells #[.int .i64 kd, .slice B m d, .int .u64 (nn : Int), .int .u64 (nw : Int)] 54 (0, 0))))
            case first =>
             as_aux_lemma =>
              refine uq_start (fun _ _ => True) [14] 17 rfl (by kernel_rfl) ?_
              have hdr := below_drew (Below.refl w9.heap.size w9)
              replace HN := hd (HN.out.below hdr)
              replace HX := hd (HX.out.below hdr)
              replace HS0 := hd (HS0.out.below hdr)
              replace HS1 := hd (HS1.out.below hdr)
              replace HA0 := hd (HA0.out.below hdr)
              replace HB0 := hd (HB0.out.below hdr)
              replace HA1 := hd (HA1.out.below hdr)
              replace HB1 := hd (HB1.out.below hdr)
              replace HGX := hd (blk_below HGX.out hdr)
              replace HQB := hd (blk_below HQB.out hdr)
              replace HGW := hd (blk_below HGW.out hdr)
              replace HC0 := hd (HC0.out.below hdr)
              replace HC1 := hd (HC1.out.below hdr)
              replace HBW := hd (below_seq HBW.out hdr)
              replace HP := hd (blk_below HP.out hdr)
              replace HOB := hd (HOB.out.mod (S := fun _ => False) (Mod.below hdr) (fun _ _ _ h => h))
              replace HVB := hd (HVB.out.below hdr)
              generalize w9.drew = w10 at hdr HN HX HS0 HS1 HA0 HB0 HA1 HB1 HGX HQB HGW HC0 HC1 HBW HP HOB HVB ⊢
              clear hdr
              have t0 := Grow.cells (show w10.cell? ⟨p, 0, none⟩ = some (.int .u64 (r0 : Int)) by rw [blk_cell HQB.out]; rfl)
              have t1 := Grow.cells (show w10.cell? ⟨p, 1, none⟩ = some (.int .u64 (r1 : Int)) by rw [blk_cell HQB.out]; rfl)
              have t2 := Grow.cells (show w10.cell? ⟨p, 2, none⟩ = some (.int .i64 r2) by rw [blk_cell HQB.out]; rfl)
              have t3 := Grow.cells (show w10.cell? ⟨p, 3, none⟩ = some (.int .u64 (r3 : Int)) by rw [blk_cell HQB.out]; rfl)
              have t4 := Grow.cells (show w10.cell? ⟨p, 4, none⟩ = some (.int .u64 (r4 : Int)) by rw [blk_cell HQB.out]; rfl)
              have t5 := Grow.cells (show w10.cell? ⟨p, 5, none⟩ = some (.int .u64 (r5 : Int)) by rw [blk_cell HQB.out]; rfl)
              have t6 := Grow.cells (show w10.cell? ⟨p, 6, none⟩ = some (.int .u64 (r6 : Int)) by rw [blk_cell HQB.out]; rfl)
              have tp0 := Grow.cells (show w10.cell? ⟨pa, 0, none⟩ = some (.int .i64 kd) by rw [blk_cell HP.out]; rfl)
              have tp1 := Grow.cells (show w10.cell? ⟨pa, 1, none⟩ = some (.slice B m d) by rw [blk_cell HP.out]; rfl)
              have tp2 := Grow.cells (show w10.cell? ⟨pa, 2, none⟩ = some (.int .u64 (nn : Int)) by rw [blk_cell HP.out]; rfl)
              have tp3 := Grow.cells (show w10.cell? ⟨pa, 3, none⟩ = some (.int .u64 (nw : Int)) by rw [blk_cell HP.out]; rfl)
              have tw0 := Grow.cells (show w10.cell? ⟨gw, 0, none⟩ = some (.slice A0 m0 d0) by rw [blk_cell HGW.out]; rfl)
              have tw1 := Grow.cells (show w10.cell? ⟨gw, 1, none⟩ = some (.int .u64 (s0.N : Int)) by rw [blk_cell HGW.out]; rfl)
              have tw2 := Grow.cells (show w10.cell? ⟨gw, 2, none⟩ = some (.slice A1 m1 d1) by rw [blk_cell HGW.out]; rfl)
              have tw3 := Grow.cells (show w10.cell? ⟨gw, 3, none⟩ = some (.int .u64 0) by rw [blk_cell HGW.out]; rfl)
              have tw4 := Grow.cells (show w10.cell? ⟨gw, 4, none⟩ = some (.int .u64 (st : Int)) by rw [blk_cell HGW.out]; rfl)
              have tw5 := Grow.cells (show w10.cell? ⟨gw, 5, none⟩ = some (.int .u64 (s0.sent : Int)) by rw [blk_cell HGW.out]; rfl)
              have tw6 := Grow.cells (show w10.cell? ⟨gw, 6, none⟩ = some (.slice s0.ca.A s0.ca.n s0.ca.c) by rw [blk_cell HGW.out]; rfl)
              have tw7 := Grow.cells (show w10.cell? ⟨gw, 7, none⟩ = some (.slice A1 m1 d1) by rw [blk_cell HGW.out]; rfl)
              have tw8 := Grow.cells (show w10.cell? ⟨gw, 8, none⟩ = some (.int .u64 (s1.N : Int)) by rw [blk_cell HGW.out]; rfl)
              have tw9 := Grow.cells (show w10.cell? ⟨gw, 9, none⟩ = some (.slice A0 m0 d0) by rw [blk_cell HGW.out]; rfl)
              have tw10 := Grow.cells (show w10.cell? ⟨gw, 10, none⟩ = some (.int .u64 0) by rw [blk_cell HGW.out]; rfl)
              have tw11 := Grow.cells (show w10.cell? ⟨gw, 11, none⟩ = some (.int .u64 (st : Int)) by rw [blk_cell HGW.out]; rfl)
              have tw12 := Grow.cells (show w10.cell? ⟨gw, 12, none⟩ = some (.int .u64 (s1.sent : Int)) by rw [blk_cell HGW.out]; rfl)
              have tw13 := Grow.cells (show w10.cell? ⟨gw, 13, none⟩ = some (.slice s1.ca.A s1.ca.n s1.ca.c) by rw [blk_cell HGW.out]; rfl)
              refine uq_pure Keeps.any (i := 0) (N := some 205) (v := ?_) (a' := ?_) (by kernel_rfl) (by kernel_rfl) rfl rfl (by rfl) (fun _ _ _ h => h) ?_ ?_ ?_
              rotate_left 2
              · intro w' hg; go_simp; with_reducible rfl
              · simp only [Act.put, List.setIfInBounds_toArray, List.set_cons_zero, List.set_cons_succ, i64_w, i32_w]; rfl
              refine uq_pure Keeps.any (i := 1) (N := some 206) (v := ?_) (a' := ?_) (by kernel_rfl) (by kernel_rfl) rfl rfl (by rfl) (fun _ _ _ h => h) ?_ ?_ ?_
              rotate_left 2
              · intro w' hg; go_simp; with_reducible rfl
              · simp only [Act.put, List.setIfInBounds_toArray, List.set_cons_zero, List.set_cons_succ, i64_w, i32_w]; rfl
              refine uq_pure Keeps.any (i := 2) (N := some 207) (v := ?_) (a' := ?_) (by kernel_rfl) (by kernel_rfl) rfl rfl (by rfl) (fun _ _ _ h => h) ?_ ?_ ?_
              rotate_left 2
              · intro w' hg; go_simp; with_reducible rfl
              · simp only [Act.put, List.setIfInBounds_toArray, List.set_cons_zero, List.set_cons_succ, i64_w, i32_w]; rfl
              refine uq_pure Keeps.any (i := 3) (N := some 208) (v := ?_) (a' := ?_) (by kernel_rfl) (by kernel_rfl) rfl rfl (by rfl) (fun _ _ _ h => h) ?_ ?_ ?_
              rotate_left 2
              · intro w' hg; go_simp; with_reducible rfl
              · simp only [Act.put, List.setIfInBounds_toArray, List.set_cons_zero, List.set_cons_succ, i64_w, i32_w]; rfl
              refine uq_pure Keeps.any (i := 4) (N := some 209) (v := ?_) (a' := ?_) (by kernel_rfl) (by kernel_rfl) rfl rfl (by rfl) (fun _ _ _ h => h) ?_ ?_ ?_
              rotate_left 2
              · intro w' hg; go_simp; with_reducible rfl
              · simp only [Act.put, List.setIfInBounds_toArray, List.set_cons_zero, List.set_cons_succ, i64_w, i32_w]; rfl
              refine uq_pure Keeps.any (i := 5) (N := some 210) (v := ?_) (a' := ?_) (by kernel_rfl) (by kernel_rfl) rfl rfl (by rfl) (fun _ _ _ h => h) ?_ ?_ ?_
              rotate_left 2
              · intro w' hg; go_simp; with_reducible rfl
              · simp only [Act.put, List.setIfInBounds_toArray, List.set_cons_zero, List.set_cons_succ, i64_w, i32_w]; rfl
              refine uq_pure Keeps.any (i := 6) (N := some 211) (v := ?_) (a' := ?_) (by kernel_rfl) (by kernel_rfl) rfl rfl (by rfl) (fun _ _ _ h => h) ?_ ?_ ?_
              rotate_left 2
              · intro w' hg; go_simp; with_reducible rfl
              · simp only [Act.put, List.setIfInBounds_toArray, List.set_cons_zero, List.set_cons_succ, i64_w, i32_w]; rfl
              refine uq_pure Keeps.any (i := 7) (N := some 212) (v := ?_) (a' := ?_) (by kernel_rfl) (by kernel_rfl) rfl rfl (by rfl) (fun _ _ _ h => h) ?_ ?_ ?_
              rotate_left 2
              · intro w' hg; go_simp; with_reducible rfl
              · simp only [Act.put, List.setIfInBounds_toArray, List.set_cons_zero, List.set_cons_succ, i64_w, i32_w]; rfl
              refine uq_two (i := 8) (j := 13) (by kernel_rfl) ?_ ?_
              · refine uq_call (R := fun _ _ => True) (i := 8) (N := some 213) rfl rfl Tryd.func25 (by kernel_rfl) rfl #[.agg #[.int .u64 (r0 : Int), .int .u64 (r1 : Int), .int .i64 r2, .int .u64 (r3 : Int), .int .u64 (r4 : Int), .int .u64 (r5 : Int), .int .u64 (r6 : Int)], .agg #[.slice A0 m0 d0, .int .u64 (s0.N : Int), .slice A1 m1 d1, .int .u64 0, .int .u64 (st : Int), .int .u64 (s0.sent : Int), .slice s0.ca.A s0.ca.n s0.ca.c], .int .u64 (no : Int), .slice Bo mo dd, .int .u64 (nw : Int)] (by rfl) rfl ?_ ?_
                · simp only [List.map_toArray, List.map_cons, List.map_nil]
                  rfl
                have hsz := HBW.out.size
                have hn0 := HN.out
                have hc0 := HC0.out.row
                have HRS := hd (refopen22_calls (r := ⟨r0, r1, r2, r3, r4, r5, r6⟩) (k1 := ⟨A0, m0, d0⟩) (k2 := ⟨A1, m1, d1⟩) (ca := s0.ca) (N1 := s0.N) (N2 := 0) (born := st) (sent := s0.sent) (now := nw) (n := no) HI.out.1.2.2.1 (NRow.own HC0.out HI.out.1.2.2.2.2.1) (by have := hc0.1; have := HI.out.1.2.2.2.2.2; have := HI2.out; omega) (HK1.out.below HBW.out) HNO.out.1 (HOB.out.bytes HBW.out) (show mo ≤ 10000 by have := HNO.out.2; omega) HNW.out)
                rw [hx.out] at HRS
                unfold R22OPost Rul.v refS at HRS
                dsimp only at HRS
                refine (HRS.out).mono ?_
                rintro e w21 ⟨vt, ca', rfl, hv, ho, hb21⟩
                replace HN := hd (HN.out.below hb21)
                replace HX := hd (HX.out.below hb21)
                replace HS0 := hd (HS0.out.below hb21)
                replace HS1 := hd (HS1.out.below hb21)
                replace HA0 := hd (HA0.out.below hb21)
                replace HB0 := hd (HB0.out.below hb21)
                replace HA1 := hd (HA1.out.below hb21)
                replace HB1 := hd (HB1.out.below hb21)
                replace HGX := hd (blk_below HGX.out hb21)
                replace HQB := hd (blk_below HQB.out hb21)
                replace HGW := hd (blk_below HGW.out hb21)
                replace HC0 := hd (HC0.out.below hb21)
                replace HC1 := hd (HC1.out.below hb21)
                replace HBW := hd (below_seq HBW.out hb21)
                replace HP := hd (blk_below HP.out hb21)
                replace HOB := hd (HOB.out.mod (S := fun _ => False) (Mod.below hb21) (fun _ _ _ h => h))
                replace HVB := hd (HVB.out.below hb21)
                obtain ⟨Ay, ny, cy, rfl, hny, hby⟩ := out_box (w := w10) hv HOB.out HBW.out hsz HXF.out.1 (by have := HXF.out.2; have := HOB.out.2.1; omega)
                have HYB := hd hby
                have HNY := hd hny
                obtain ⟨l', hto, htc, hta⟩ := Sst.opened HI.out.1 HNO.out.1 hsz ho HC0.out
                have HTO := hd hto
                have HFAR := hd (FarN.open0 (t0 := ⟨s0.sent, s0.N, x.2.2, l', ca'⟩) (t1 := s1) HI.out.2.2.2.2.2.2 hn0 hta rfl)
                replace HC0 := hd htc
                clear hv hby hny hsz hn0 hc0 HRS ho hto htc hta
                refine ⟨_, rfl, ⟨fun _ => hb21, trivial⟩, ?_⟩
                refine uq_norm (a' := ?_) ?_ ?_
                rotate_left
                · show Act.put _ (some 213) _ = _; simp only [Act.put, List.setIfInBounds_toArray, List.set_cons_zero, List.set_cons_succ, i64_w, i32_w]; rfl
                clear hb21
                refine uq_pure Keeps.any (i := 9) (N := some 204) (v := ?_) (a' := ?_) (by kernel_rfl) (by kernel_rfl) rfl rfl (by rfl) (fun _ _ _ h => h) ?_ ?_ ?_
                rotate_left 2
                · intro w' hg; go_simp; with_reducible rfl
                · simp only [Act.put, List.setIfInBounds_toArray, List.set_cons_zero, List.set_cons_succ, i64_w, i32_w]; rfl
                refine uq_pure Keeps.any (i := 10) (N := some 214) (v := ?_) (a' := ?_) (by kernel_rfl) (by kernel_rfl) rfl rfl (by rfl) (fun _ _ _ h => h) ?_ ?_ ?_
                rotate_left 2
                · intro w' hg; go_simp; with_reducible rfl
                · simp only [Act.put, List.setIfInBounds_toArray, List.set_cons_zero, List.set_cons_succ, i64_w, i32_w]; rfl
                refine uq_pure2 Keeps.any (i := 11) (N := some 215) (v := ?_) (a' := ?_) (by kernel_rfl) (by kernel_rfl) rfl rfl (by rfl) (fun _ _ _ h => h) ?_ ?_ ?_
                rotate_left 2
                · intro w' hg; go_simp; with_reducible rfl
                · simp only [Act.put, List.setIfInBounds_toArray, List.set_cons_zero, List.set_cons_succ, i64_w, i32_w]; rfl
                refine uq_pure2 Keeps.any (i := 12) (N := some 216) (v := ?_) (a' := ?_) (by kernel_rfl) (by kernel_rfl) rfl rfl (by rfl) (fun _ _ _ h => h) ?_ ?_ ?_
                rotate_left 2
                · intro w' hg; go_simp; with_reducible rfl
                · simp only [Act.put, List.setIfInBounds_toArray, List.set_cons_zero, List.set_cons_succ, i64_w, i32_w]; rfl
                refine uq_one (i := 13) (by kernel_rfl) ?_
                refine uq_value (R := fun _ _ => True) (i := 13) (N := some 32) (v := .pointer (some ⟨w21.heap.size, 0, none⟩)) (a' := ?_) (w1 := w21.alloc (.cells #[.slice none 0 0, .int .u64 0, .slice none 0 0, .int .u64 0, .int .u64 0, .int .u64 0, .slice none 0 0] 50)) rfl rfl (by rfl) ?_ ⟨fun _ => below_alloc (Below.refl _ _) _, trivial⟩ ?_ ?_
                rotate_left
                · go_simp
                · simp only [Act.put, List.setIfInBounds_toArray, List.set_cons_zero, List.set_cons_succ, i64_w, i32_w]; rfl
                have hal22 := below_alloc (Below.refl w21.heap.size w21) (.cells #[.slice none 0 0, .int .u64 0, .slice none 0 0, .int .u64 0, .int .u64 0, .int .u64 0, .slice none 0 0] 50)
                have HNB := hd (blk_new w21 (.cells #[.slice none 0 0, .int .u64 0, .slice none 0 0, .int .u64 0, .int .u64 0, .int .u64 0, .slice none 0 0] 50))
                have hsz := HBW.out.size
                replace HN := hd (HN.out.below hal22)
                replace HX := hd (HX.out.below hal22)
                replace HS0 := hd (HS0.out.below hal22)
                replace HS1 := hd (HS1.out.below hal22)
                replace HA0 := hd (HA0.out.below hal22)
                replace HB0 := hd (HB0.out.below hal22)
                replace HA1 := hd (HA1.out.below hal22)
                replace HB1 := hd (HB1.out.below hal22)
                replace HGX := hd (blk_below HGX.out hal22)
                replace HQB := hd (blk_below HQB.out hal22)
                replace HGW := hd (blk_below HGW.out hal22)
                replace HC0 := hd (HC0.out.below hal22)
                replace HC1 := hd (HC1.out.below hal22)
                replace HBW := hd (below_seq HBW.out hal22)
                replace HP := hd (blk_below HP.out hal22)
                replace HOB := hd (HOB.out.mod (S := fun _ => False) (Mod.below hal22) (fun _ _ _ h => h))
                replace HVB := hd (HVB.out.below hal22)
                replace HYB := hd (HYB.out.mod (S := fun _ => False) (Mod.below hal22) (fun _ _ _ h => h))
                generalize w21.alloc (.cells #[.slice none 0 0, .int .u64 0, .slice none 0 0, .int .u64 0, .int .u64 0, .int .u64 0, .slice none 0 0] 50) = w22 at HN HX HS0 HS1 HA0 HB0 HA1 HB1 HGX HQB HGW HC0 HC1 HBW HP HOB HVB HYB HNB hal22 ⊢
                obtain ⟨nb, hq22⟩ : ∃ q, Aside0 (w21.heap.size = q) := ⟨_, ⟨rfl⟩⟩
                have HNBL := hd (show W.heap.size ≤ nb by have := hq22.out; omega)
                clear hsz
                rw [hq22.out] at HNB ⊢
                clear hal22
                refine uq_one (i := 14) (by kernel_rfl) ?_
                refine uq_storeSt (R := fun _ _ => True) rfl rfl (by rfl) 50 _ _ rfl nb 0 #[.slice A0 m0 d0, .int .u64 (s0.N : Int), .slice A1 m1 d1, .int .u64 0, .int .u64 (st : Int), .int .u64 (s0.sent : Int), .slice ca'.A ca'.n ca'.c] #[.slice none 0 0, .int .u64 0, .slice none 0 0, .int .u64 0, .int .u64 0, .int .u64 0, .slice none 0 0] _ rfl rfl _ HNB.out (by kernel_rfl) (by simp) (by simp [Value.oneCell']) rfl ?_
                intro wz hbz hmz
                refine ⟨⟨fun h => absurd (by decide) h, trivial⟩, ?_⟩
                refine uq_pure Keeps.any (i := 15) (N := some 33) (v := ?_) (a' := ?_) (by kernel_rfl) (by kernel_rfl) rfl rfl (by rfl) (fun _ _ _ h => h) ?_ ?_ ?_
                rotate_left 2
                · intro w' hg; go_simp; with_reducible rfl
                · simp only [Act.put, List.setIfInBounds_toArray, List.set_cons_zero, List.set_cons_succ, i64_w, i32_w]; rfl
                refine uq_pure Keeps.any (i := 16) (N := some 34) (v := ?_) (a' := ?_) (by kernel_rfl) (by kernel_rfl) rfl rfl (by rfl) (fun _ _ _ h => h) ?_ ?_ ?_
                rotate_left 2
                · intro w' hg; go_simp; with_reducible rfl
                · simp only [Act.put, List.setIfInBounds_toArray, List.set_cons_zero, List.set_cons_succ, i64_w, i32_w]; rfl
                refine uq_end (by kernel_rfl) ?_
                go_wp2_with fail
                go_meet
                case rel =>
                 have hap := Apart.one HNB.out (e := 5) (by decide)
                 have hap64 := Apart.one HNB.out (e := 22) (by decide)
                 replace HN := hd (HN.out.mod hmz hap64)
                 replace HX := hd (HX.out.mod hmz hap (Apart.one HNB.out (by decide)))
                 replace HS0 := hd (show SesAt _ g0 ⟨r0, r1, r2, r3, r4, r5, r6⟩ st (s0.sent) ka0 (s0.N) kb0 0 (x.2.2) from hmz.block HS0.out (ne_types HS0.out HNB.out (by decide)))
                 replace HS1 := hd (show SesAt _ g1 ⟨r0, r1, r2, r3, r4, r5, r6⟩ st (s1.sent) ka1 (s1.N) kb1 0 (s1.v) from hmz.block HS1.out (ne_types HS1.out HNB.out (by decide)))
                 replace HA0 := hd (HA0.out.mod hmz hap)
                 replace HB0 := hd (HB0.out.mod hmz hap)
                 replace HA1 := hd (HA1.out.mod hmz hap)
                 replace HB1 := hd (HB1.out.mod hmz hap)
                 replace HGX := hd (hmz.block HGX.out (ne_types HGX.out HNB.out (by decide)))
                 replace HQB := hd (hmz.block HQB.out (ne_types HQB.out HNB.out (by decide)))
                 replace HGW := hd (hmz.block HGW.out (ne_types HGW.out HNB.out (by decide)))
                 replace HP := hd (hmz.block HP.out (ne_types HP.out HNB.out (by decide)))
                 replace HC0 := hd (HC0.out.mod hmz hap64)
                 replace HC1 := hd (HC1.out.mod hmz hap64)
                 replace HBW := hd (HBW.out.trans (hmz.toBelow (fun k hk => by rw [hk]; exact HNBL.out) HBW.out.size))
                 clear hap hap64
                 exact ⟨nb, Ay, ny, cy, ca', l', rfl, rfl, rfl, ⟨hbz⟩, ⟨HVB.out.mod hmz (Apart.one HNB.out (by decide))⟩, ⟨HYB.out.mod hmz (Apart.one HNB.out (by decide))⟩, HNY, HTO, HFAR, HN, HX, HS0, HS1, HA0, HB0, HA1, HB1, HGX, HQB, HGW, HC0, HC1, HBW, HP⟩
              · refine uq_value (R := fun _ _ => True) (i := 13) (N := some 32) (v := .pointer (some ⟨w10.heap.size, 0, none⟩)) (a' := ?_) (w1 := w10.alloc (.cells #[.slice none 0 0, .int .u64 0, .slice none 0 0, .int .u64 0, .int .u64 0, .int .u64 0, .slice none 0 0] 50)) rfl rfl (by rfl) ?_ ⟨fun _ => below_alloc (Below.refl _ _) _, trivial⟩ ?_ ?_
                rotate_left
                · go_simp
                · simp only [Act.put, List.setIfInBounds_toArray, List.set_cons_zero, List.set_cons_succ, i64_w, i32_w]; rfl
                have hal21 := below_alloc (Below.refl w10.heap.size w10) (.cells #[.slice none 0 0, .int .u64 0, .slice none 0 0, .int .u64 0, .int .u64 0, .int .u64 0, .slice none 0 0] 50)
                have HNB := hd (blk_new w10 (.cells #[.slice none 0 0, .int .u64 0, .slice none 0 0, .int .u64 0, .int .u64 0, .int .u64 0, .slice none 0 0] 50))
                have hsz := HBW.out.size
                replace HN := hd (HN.out.below hal21)
                replace HX := hd (HX.out.below hal21)
                replace HS0 := hd (HS0.out.below hal21)
                replace HS1 := hd (HS1.out.below hal21)
                replace HA0 := hd (HA0.out.below hal21)
                replace HB0 := hd (HB0.out.below hal21)
                replace HA1 := hd (HA1.out.below hal21)
                replace HB1 := hd (HB1.out.below hal21)
                replace HGX := hd (blk_below HGX.out hal21)
                replace HQB := hd (blk_below HQB.out hal21)
                replace HGW := hd (blk_below HGW.out hal21)
                replace HC0 := hd (HC0.out.below hal21)
                replace HC1 := hd (HC1.out.below hal21)
                replace HBW := hd (below_seq HBW.out hal21)
                replace HP := hd (blk_below HP.out hal21)
                replace HOB := hd (HOB.out.mod (S := fun _ => False) (Mod.below hal21) (fun _ _ _ h => h))
                replace HVB := hd (HVB.out.below hal21)
                generalize w10.alloc (.cells #[.slice none 0 0, .int .u64 0, .slice none 0 0, .int .u64 0, .int .u64 0, .int .u64 0, .slice none 0 0] 50) = w21 at HN HX HS0 HS1 HA0 HB0 HA1 HB1 HGX HQB HGW HC0 HC1 HBW HP HOB HVB HNB hal21 ⊢
                obtain ⟨nb, hq21⟩ : ∃ q, Aside0 (w10.heap.size = q) := ⟨_, ⟨rfl⟩⟩
                have HNBL := hd (show W.heap.size ≤ nb by have := hq21.out; omega)
                clear hsz
                rw [hq21.out] at HNB ⊢
                clear hal21
                refine uq_one (i := 8) (by kernel_rfl) ?_
                refine uq_call (R := fun _ _ => True) (i := 8) (N := some 213) rfl rfl Tryd.func25 (by kernel_rfl) rfl #[.agg #[.int .u64 (r0 : Int), .int .u64 (r1 : Int), .int .i64 r2, .int .u64 (r3 : Int), .int .u64 (r4 : Int), .int .u64 (r5 : Int), .int .u64 (r6 : Int)], .agg #[.slice A0 m0 d0, .int .u64 (s0.N : Int), .slice A1 m1 d1, .int .u64 0, .int .u64 (st : Int), .int .u64 (s0.sent : Int), .slice s0.ca.A s0.ca.n s0.ca.c], .int .u64 (no : Int), .slice Bo mo dd, .int .u64 (nw : Int)] (by rfl) rfl ?_ ?_
                · simp only [List.map_toArray, List.map_cons, List.map_nil]
                  rfl
                have hsz := HBW.out.size
                have hn0 := HN.out
                have hc0 := HC0.out.row
                have HRS := hd (refopen22_calls (r := ⟨r0, r1, r2, r3, r4, r5, r6⟩) (k1 := ⟨A0, m0, d0⟩) (k2 := ⟨A1, m1, d1⟩) (ca := s0.ca) (N1 := s0.N) (N2 := 0) (born := st) (sent := s0.sent) (now := nw) (n := no) HI.out.1.2.2.1 (NRow.own HC0.out HI.out.1.2.2.2.2.1) (by have := hc0.1; have := HI.out.1.2.2.2.2.2; have := HI2.out; omega) (HK1.out.below HBW.out) HNO.out.1 (HOB.out.bytes HBW.out) (show mo ≤ 10000 by have := HNO.out.2; omega) HNW.out)
                rw [hx.out] at HRS
                unfold R22OPost Rul.v refS at HRS
                dsimp only at HRS
                refine (HRS.out).mono ?_
                rintro e w22 ⟨vt, ca', rfl, hv, ho, hb22⟩
                replace HN := hd (HN.out.below hb22)
                replace HX := hd (HX.out.below hb22)
                replace HS0 := hd (HS0.out.below hb22)
                replace HS1 := hd (HS1.out.below hb22)
                replace HA0 := hd (HA0.out.below hb22)
                replace HB0 := hd (HB0.out.below hb22)
                replace HA1 := hd (HA1.out.below hb22)
                replace HB1 := hd (HB1.out.below hb22)
                replace HGX := hd (blk_below HGX.out hb22)
                replace HQB := hd (blk_below HQB.out hb22)
                replace HGW := hd (blk_below HGW.out hb22)
                replace HC0 := hd (HC0.out.below hb22)
                replace HC1 := hd (HC1.out.below hb22)
                replace HBW := hd (below_seq HBW.out hb22)
                replace HP := hd (blk_below HP.out hb22)
                replace HOB := hd (HOB.out.mod (S := fun _ => False) (Mod.below hb22) (fun _ _ _ h => h))
                replace HVB := hd (HVB.out.below hb22)
                replace HNB := hd (blk_below HNB.out hb22)
                obtain ⟨Ay, ny, cy, rfl, hny, hby⟩ := out_box (w := w21) hv HOB.out HBW.out hsz HXF.out.1 (by have := HXF.out.2; have := HOB.out.2.1; omega)
                have HYB := hd hby
                have HNY := hd hny
                obtain ⟨l', hto, htc, hta⟩ := Sst.opened HI.out.1 HNO.out.1 hsz ho HC0.out
                have HTO := hd hto
                have HFAR := hd (FarN.open0 (t0 := ⟨s0.sent, s0.N, x.2.2, l', ca'⟩) (t1 := s1) HI.out.2.2.2.2.2.2 hn0 hta rfl)
                replace HC0 := hd htc
                clear hv hby hny hsz hn0 hc0 HRS ho hto htc hta
                refine ⟨_, rfl, ⟨fun _ => hb22, trivial⟩, ?_⟩
                refine uq_norm (a' := ?_) ?_ ?_
                rotate_left
                · show Act.put _ (some 213) _ = _; simp only [Act.put, List.setIfInBounds_toArray, List.set_cons_zero, List.set_cons_succ, i64_w, i32_w]; rfl
                clear hb22
                refine uq_pure Keeps.any (i := 9) (N := some 204) (v := ?_) (a' := ?_) (by kernel_rfl) (by kernel_rfl) rfl rfl (by rfl) (fun _ _ _ h => h) ?_ ?_ ?_
                rotate_left 2
                · intro w' hg; go_simp; with_reducible rfl
                · simp only [Act.put, List.setIfInBounds_toArray, List.set_cons_zero, List.set_cons_succ, i64_w, i32_w]; rfl
                refine uq_pure Keeps.any (i := 10) (N := some 214) (v := ?_) (a' := ?_) (by kernel_rfl) (by kernel_rfl) rfl rfl (by rfl) (fun _ _ _ h => h) ?_ ?_ ?_
                rotate_left 2
                · intro w' hg; go_simp; with_reducible rfl
                · simp only [Act.put, List.setIfInBounds_toArray, List.set_cons_zero, List.set_cons_succ, i64_w, i32_w]; rfl
                refine uq_pure2 Keeps.any (i := 11) (N := some 215) (v := ?_) (a' := ?_) (by kernel_rfl) (by kernel_rfl) rfl rfl (by rfl) (fun _ _ _ h => h) ?_ ?_ ?_
                rotate_left 2
                · intro w' hg; go_simp; with_reducible rfl
                · simp only [Act.put, List.setIfInBounds_toArray, List.set_cons_zero, List.set_cons_succ, i64_w, i32_w]; rfl
                refine uq_pure2 Keeps.any (i := 12) (N := some 216) (v := ?_) (a' := ?_) (by kernel_rfl) (by kernel_rfl) rfl rfl (by rfl) (fun _ _ _ h => h) ?_ ?_ ?_
                rotate_left 2
                · intro w' hg; go_simp; with_reducible rfl
                · simp only [Act.put, List.setIfInBounds_toArray, List.set_cons_zero, List.set_cons_succ, i64_w, i32_w]; rfl
                refine uq_one (i := 14) (by kernel_rfl) ?_
                refine uq_storeSt (R := fun _ _ => True) rfl rfl (by rfl) 50 _ _ rfl nb 0 #[.slice A0 m0 d0, .int .u64 (s0.N : Int), .slice A1 m1 d1, .int .u64 0, .int .u64 (st : Int), .int .u64 (s0.sent : Int), .slice ca'.A ca'.n ca'.c] #[.slice none 0 0, .int .u64 0, .slice none 0 0, .int .u64 0, .int .u64 0, .int .u64 0, .slice none 0 0] _ rfl rfl _ HNB.out (by kernel_rfl) (by simp) (by simp [Value.oneCell']) rfl ?_
                intro wz hbz hmz
                refine ⟨⟨fun h => absurd (by decide) h, trivial⟩, ?_⟩
                refine uq_pure Keeps.any (i := 15) (N := some 33) (v := ?_) (a' := ?_) (by kernel_rfl) (by kernel_rfl) rfl rfl (by rfl) (fun _ _ _ h => h) ?_ ?_ ?_
                rotate_left 2
                · intro w' hg; go_simp; with_reducible rfl
                · simp only [Act.put, List.setIfInBounds_toArray, List.set_cons_zero, List.set_cons_succ, i64_w, i32_w]; rfl
                refine uq_pure Keeps.any (i := 16) (N := some 34) (v := ?_) (a' := ?_) (by kernel_rfl) (by kernel_rfl) rfl rfl (by rfl) (fun _ _ _ h => h) ?_ ?_ ?_
                rotate_left 2
                · intro w' hg; go_simp; with_reducible rfl
                · simp only [Act.put, List.setIfInBounds_toArray, List.set_cons_zero, List.set_cons_succ, i64_w, i32_w]; rfl
                refine uq_end (by kernel_rfl) ?_
                go_wp2_with fail
                go_meet
                case rel =>
                 have hap := Apart.one HNB.out (e := 5) (by decide)
                 have hap64 := Apart.one HNB.out (e := 22) (by decide)
                 replace HN := hd (HN.out.mod hmz hap64)
                 replace HX := hd (HX.out.mod hmz hap (Apart.one HNB.out (by decide)))
                 replace HS0 := hd (show SesAt _ g0 ⟨r0, r1, r2, r3, r4, r5, r6⟩ st (s0.sent) ka0 (s0.N) kb0 0 (x.2.2) from hmz.block HS0.out (ne_types HS0.out HNB.out (by decide)))
                 replace HS1 := hd (show SesAt _ g1 ⟨r0, r1, r2, r3, r4, r5, r6⟩ st (s1.sent) ka1 (s1.N) kb1 0 (s1.v) from hmz.block HS1.out (ne_types HS1.out HNB.out (by decide)))
                 replace HA0 := hd (HA0.out.mod hmz hap)
                 replace HB0 := hd (HB0.out.mod hmz hap)
                 replace HA1 := hd (HA1.out.mod hmz hap)
                 replace HB1 := hd (HB1.out.mod hmz hap)
                 replace HGX := hd (hmz.block HGX.out (ne_types HGX.out HNB.out (by decide)))
                 replace HQB := hd (hmz.block HQB.out (ne_types HQB.out HNB.out (by decide)))
                 replace HGW := hd (hmz.block HGW.out (ne_types HGW.out HNB.out (by decide)))
                 replace HP := hd (hmz.block HP.out (ne_types HP.out HNB.out (by decide)))
                 replace HC0 := hd (HC0.out.mod hmz hap64)
                 replace HC1 := hd (HC1.out.mod hmz hap64)
                 replace HBW := hd (HBW.out.trans (hmz.toBelow (fun k hk => by rw [hk]; exact HNBL.out) HBW.out.size))
                 clear hap hap64
                 exact ⟨nb, Ay, ny, cy, ca', l', rfl, rfl, rfl, ⟨hbz⟩, ⟨HVB.out.mod hmz (Apart.one HNB.out (by decide))⟩, ⟨HYB.out.mod hmz (Apart.one HNB.out (by decide))⟩, HNY, HTO, HFAR, HN, HX, HS0, HS1, HA0, HB0, HA1, HB1, HGX, HQB, HGW, HC0, HC1, HBW, HP⟩
            case rest =>
             obtain ⟨nb, Ay, ny, cy, ca', l', rfl, rfl, rfl, HNB, HVB, HYB, HNY, HTO, HFAR, HN, HX, HS0, HS1, HA0, HB0, HA1, HB1, HGX, HQB, HGW, HC0, HC1, HBW, HP⟩ := hcut
             as_aux_lemma =>
              have t0 : wc.cell? ⟨nb, 0, none⟩ = some (.slice A0 m0 d0) := by rw [blk_cell HNB.out]; rfl
              have t1 : wc.cell? ⟨nb, 1, none⟩ = some (.int .u64 (s0.N : Int)) := by rw [blk_cell HNB.out]; rfl
              have t2 : wc.cell? ⟨nb, 2, none⟩ = some (.slice A1 m1 d1) := by rw [blk_cell HNB.out]; rfl
              have t3 : wc.cell? ⟨nb, 3, none⟩ = some (.int .u64 0) := by rw [blk_cell HNB.out]; rfl
              have t4 : wc.cell? ⟨nb, 4, none⟩ = some (.int .u64 (st : Int)) := by rw [blk_cell HNB.out]; rfl
              have t5 : wc.cell? ⟨nb, 5, none⟩ = some (.int .u64 (s0.sent : Int)) := by rw [blk_cell HNB.out]; rfl
              have t6 : wc.cell? ⟨nb, 6, none⟩ = some (.slice ca'.A ca'.n ca'.c) := by rw [blk_cell HNB.out]; rfl
              go_upto_region 35 with ((with_reducible refine gate_store (t := 50) (p := 219) rfl ?_); go_loud (refine op_storeSt rfl rfl 50 _ _ rfl gw 0 #[.slice A0 m0 d0, .int .u64 (s0.N : Int), .slice A1 m1 d1, .int .u64 0, .int .u64 (st : Int), .int .u64 (s0.sent : Int), .slice ca'.A ca'.n ca'.c] (refW ⟨A0, m0, d0⟩ ⟨A1, m1, d1⟩ st s0 s1) (refW ⟨A0, m0, d0⟩ ⟨A1, m1, d1⟩ st ⟨s0.sent, s0.N, x.2.2, l', ca'⟩ s1) rfl rfl _ HGW.out (by kernel_rfl) (by simp [refW]) (by simp [Value.oneCell']) rfl ?_); intro wz hbz hmz)
              clear t0 t1 t2 t3 t4 t5 t6
              have hap := Apart.one HGW.out (e := 5) (by decide)
              have hap64 := Apart.one HGW.out (e := 22) (by decide)
              replace HN := hd (HN.out.mod hmz hap64)
              replace HX := hd (HX.out.mod hmz hap (Apart.one HGW.out (by decide)))
              replace HS0 := hd (show SesAt _ g0 ⟨r0, r1, r2, r3, r4, r5, r6⟩ st (s0.sent) ka0 (s0.N) kb0 0 (x.2.2) from hmz.block HS0.out (ne_types HS0.out HGW.out (by decide)))
              replace HS1 := hd (show SesAt _ g1 ⟨r0, r1, r2, r3, r4, r5, r6⟩ st (s1.sent) ka1 (s1.N) kb1 0 (s1.v) from hmz.block HS1.out (ne_types HS1.out HGW.out (by decide)))
              replace HA0 := hd (HA0.out.mod hmz hap)
              replace HB0 := hd (HB0.out.mod hmz hap)
              replace HA1 := hd (HA1.out.mod hmz hap)
              replace HB1 := hd (HB1.out.mod hmz hap)
              replace HVB := hd (HVB.out.mod hmz hap)
              replace HYB := hd (HYB.out.mod hmz hap)
              replace HGX := hd (hmz.block HGX.out (ne_types HGX.out HGW.out (by decide)))
              replace HQB := hd (hmz.block HQB.out (ne_types HQB.out HGW.out (by decide)))
              replace HP := hd (hmz.block HP.out (ne_types HP.out HGW.out (by decide)))
              replace HC0 := hd (HC0.out.mod hmz hap64)
              replace HC1 := hd (HC1.out.mod hmz hap64)
              replace HBW := hd (HBW.out.trans (hmz.toBelow (fun k hk => by rw [hk]; exact HGWW.out) HBW.out.size))
              clear hap hap64
              replace HGW := hd hbz
              clear hbz hmz HNB hx
              have s1' := (own_bytes HVB.out HXF.out.1).str (P := Tryd.prog) Tryd.underlying40 Tryd.underlying5 Tryd.underlying9
              have s2' := (HYB.out.bytes HBW.out).str (P := Tryd.prog) Tryd.underlying40 Tryd.underlying5 Tryd.underlying9
              go_wp2
              go_meet
              case rel =>
               exact ⟨⟨s0.sent, s0.N, x.2.2, l', ca'⟩, s1, nums, ls, ⟨HTO.out, HI.out.2.1.mono (Nat.le_succ i), HI.out.2.2.1, Nat.le_succ_of_le HI.out.2.2.2.1, HI.out.2.2.2.2.1, HI.out.2.2.2.2.2.1, HFAR.out⟩, HN, HX, HS0, HS1, HA0, HB0, HA1, HB1, HGX, HQB, HGW, HC0, HC1, HBW, HP⟩
       case rest =>
        obtain ⟨s0, s1, nums, ls, HI, HN, HX, HS0, HS1, HA0, HB0, HA1, HB1, HGX, HQB, HGW, HC0, HC1, HBW, HP⟩ := hcut
        as_aux_lemma =>
         go_upto_region 37 with (fail)
         refine up_start [] [(0, true), (1, true), (2, true), (4, true), (5, true), (6, true), (7, true), (3, false), (8, true), (9, true), (10, true), (11, true), (12, true), (13, true), (14, true), (16, true), (17, true), (18, true), (19, true), (20, true), (21, true), (15, false), (22, false), (23, true), (24, true), (25, true), (26, true), (27, true), (28, true), (29, true), (30, true), (32, true), (33, true), (34, true), (35, true), (36, true), (37, true), (31, false), (38, false), (39, true), (40, true)] (by kernel_rfl) rfl (by kernel_rfl) (by kernel_rfl) ?_
         have hdr := below_drew (Below.refl wc.heap.size wc)
         replace HN := hd (HN.out.below hdr)
         replace HX := hd (HX.out.below hdr)
         replace HS0 := hd (HS0.out.below hdr)
         replace HS1 := hd (HS1.out.below hdr)
         replace HA0 := hd (HA0.out.below hdr)
         replace HB0 := hd (HB0.out.below hdr)
         replace HA1 := hd (HA1.out.below hdr)
         replace HB1 := hd (HB1.out.below hdr)
         replace HGX := hd (blk_below HGX.out hdr)
         replace HQB := hd (blk_below HQB.out hdr)
         replace HGW := hd (blk_below HGW.out hdr)
         replace HC0 := hd (HC0.out.below hdr)
         replace HC1 := hd (HC1.out.below hdr)
         replace HBW := hd (below_seq HBW.out hdr)
         replace HP := hd (blk_below HP.out hdr)
         generalize wc.drew = w8 at hdr HN HX HS0 HS1 HA0 HB0 HA1 HB1 HGX HQB HGW HC0 HC1 HBW HP ⊢
         clear hdr
         have t0 := Grow.cells (show w8.cell? ⟨gx, 0, none⟩ = some (.pointer (some ⟨g0, 0, none⟩)) by rw [blk_cell HGX.out]; rfl)
         have t1 := Grow.cells (show w8.cell? ⟨gx, 1, none⟩ = some (.pointer (some ⟨g1, 0, none⟩)) by rw [blk_cell HGX.out]; rfl)
         have tp0 := Grow.cells (show w8.cell? ⟨pa, 0, none⟩ = some (.int .i64 kd) by rw [blk_cell HP.out]; rfl)
         have tp1 := Grow.cells (show w8.cell? ⟨pa, 1, none⟩ = some (.slice B m d) by rw [blk_cell HP.out]; rfl)
         have tp2 := Grow.cells (show w8.cell? ⟨pa, 2, none⟩ = some (.int .u64 (nn : Int)) by rw [blk_cell HP.out]; rfl)
         have tp3 := Grow.cells (show w8.cell? ⟨pa, 3, none⟩ = some (.int .u64 (nw : Int)) by rw [blk_cell HP.out]; rfl)
         have tw0 := Grow.cells (show w8.cell? ⟨gw, 0, none⟩ = some (.slice A0 m0 d0) by rw [blk_cell HGW.out]; rfl)
         have tw1 := Grow.cells (show w8.cell? ⟨gw, 1, none⟩ = some (.int .u64 (s0.N : Int)) by rw [blk_cell HGW.out]; rfl)
         have tw2 := Grow.cells (show w8.cell? ⟨gw, 2, none⟩ = some (.slice A1 m1 d1) by rw [blk_cell HGW.out]; rfl)
         have tw3 := Grow.cells (show w8.cell? ⟨gw, 3, none⟩ = some (.int .u64 0) by rw [blk_cell HGW.out]; rfl)
         have tw4 := Grow.cells (show w8.cell? ⟨gw, 4, none⟩ = some (.int .u64 (st : Int)) by rw [blk_cell HGW.out]; rfl)
         have tw5 := Grow.cells (show w8.cell? ⟨gw, 5, none⟩ = some (.int .u64 (s0.sent : Int)) by rw [blk_cell HGW.out]; rfl)
         have tw6 := Grow.cells (show w8.cell? ⟨gw, 6, none⟩ = some (.slice s0.ca.A s0.ca.n s0.ca.c) by rw [blk_cell HGW.out]; rfl)
         have tw7 := Grow.cells (show w8.cell? ⟨gw, 7, none⟩ = some (.slice A1 m1 d1) by rw [blk_cell HGW.out]; rfl)
         have tw8 := Grow.cells (show w8.cell? ⟨gw, 8, none⟩ = some (.int .u64 (s1.N : Int)) by rw [blk_cell HGW.out]; rfl)
         have tw9 := Grow.cells (show w8.cell? ⟨gw, 9, none⟩ = some (.slice A0 m0 d0) by rw [blk_cell HGW.out]; rfl)
         have tw10 := Grow.cells (show w8.cell? ⟨gw, 10, none⟩ = some (.int .u64 0) by rw [blk_cell HGW.out]; rfl)
         have tw11 := Grow.cells (show w8.cell? ⟨gw, 11, none⟩ = some (.int .u64 (st : Int)) by rw [blk_cell HGW.out]; rfl)
         have tw12 := Grow.cells (show w8.cell? ⟨gw, 12, none⟩ = some (.int .u64 (s1.sent : Int)) by rw [blk_cell HGW.out]; rfl)
         have tw13 := Grow.cells (show w8.cell? ⟨gw, 13, none⟩ = some (.slice s1.ca.A s1.ca.n s1.ca.c) by rw [blk_cell HGW.out]; rfl)
         have tq0 := Grow.cells (show w8.cell? ⟨p, 0, none⟩ = some (.int .u64 (r0 : Int)) by rw [blk_cell HQB.out]; rfl)
         have tq1 := Grow.cells (show w8.cell? ⟨p, 1, none⟩ = some (.int .u64 (r1 : Int)) by rw [blk_cell HQB.out]; rfl)
         have tq2 := Grow.cells (show w8.cell? ⟨p, 2, none⟩ = some (.int .i64 r2) by rw [blk_cell HQB.out]; rfl)
         have tq3 := Grow.cells (show w8.cell? ⟨p, 3, none⟩ = some (.int .u64 (r3 : Int)) by rw [blk_cell HQB.out]; rfl)
         have tq4 := Grow.cells (show w8.cell? ⟨p, 4, none⟩ = some (.int .u64 (r4 : Int)) by rw [blk_cell HQB.out]; rfl)
         have tq5 := Grow.cells (show w8.cell? ⟨p, 5, none⟩ = some (.int .u64 (r5 : Int)) by rw [blk_cell HQB.out]; rfl)
         have tq6 := Grow.cells (show w8.cell? ⟨p, 6, none⟩ = some (.int .u64 (r6 : Int)) by rw [blk_cell HQB.out]; rfl)
         refine seq_pure (i := 0) (N := some 230) (v := ?_) (a' := ?_) rfl rfl (by rfl) (fun _ _ _ h => h) ?_ ?_ ?_
         rotate_left 2
         · intro w' hg; go_simp; with_reducible rfl
         · simp only [Act.put, List.setIfInBounds_toArray, List.set_cons_zero, List.set_cons_succ, i64_w, i32_w]; rfl
         refine seq_pure (i := 1) (N := some 231) (v := ?_) (a' := ?_) rfl rfl (by rfl) (fun _ _ _ h => h) ?_ ?_ ?_
         rotate_left 2
         · intro w' hg; go_simp; with_reducible rfl
         · simp only [Act.put, List.setIfInBounds_toArray, List.set_cons_zero, List.set_cons_succ, i64_w, i32_w]; rfl
         refine seq_pure (i := 2) (N := some 232) (v := ?_) (a' := ?_) rfl rfl (by rfl) (fun _ _ _ h => h) ?_ ?_ ?_
         rotate_left 2
         · intro w' hg; go_simp; with_reducible rfl
         · simp only [Act.put, List.setIfInBounds_toArray, List.set_cons_zero, List.set_cons_succ, i64_w, i32_w]; rfl
         refine seq_pure (i := 4) (N := some 234) (v := ?_) (a' := ?_) rfl rfl (by rfl) (fun _ _ _ h => h) ?_ ?_ ?_
         rotate_left 2
         · intro w' hg; go_simp; with_reducible rfl
         · simp only [Act.put, List.setIfInBounds_toArray, List.set_cons_zero, List.set_cons_succ, i64_w, i32_w]; rfl
         refine seq_pure (i := 5) (N := some 235) (v := ?_) (a' := ?_) rfl rfl (by rfl) (fun _ _ _ h => h) ?_ ?_ ?_
         rotate_left 2
         · intro w' hg; go_simp; with_reducible rfl
         · simp only [Act.put, List.setIfInBounds_toArray, List.set_cons_zero, List.set_cons_succ, i64_w, i32_w]; rfl
         refine seq_pure (i := 6) (N := some 236) (v := ?_) (a' := ?_) rfl rfl (by rfl) (fun _ _ _ h => h) ?_ ?_ ?_
         rotate_left 2
         · intro w' hg; go_simp; with_reducible rfl
         · simp only [Act.put, List.setIfInBounds_toArray, List.set_cons_zero, List.set_cons_succ, i64_w, i32_w]; rfl
         refine seq_pure (i := 7) (N := some 237) (v := ?_) (a' := ?_) rfl rfl (by rfl) (fun _ _ _ h => h) ?_ ?_ ?_
         rotate_left 2
         · intro w' hg; go_simp; with_reducible rfl
         · simp only [Act.put, List.setIfInBounds_toArray, List.set_cons_zero, List.set_cons_succ, i64_w, i32_w]; rfl
         refine seq_call (i := 3) (N := some 233) rfl rfl Tryd.func26 (by kernel_rfl) rfl #[.pointer (some ⟨g0, 0, none⟩)] (by rfl) rfl ?_ ?_
         · simp only [List.map_toArray, List.map_cons, List.map_nil]
           rfl
         refine (sent_calls HS0.out).mono ?_
         rintro e w9 ⟨rfl, rfl⟩
         refine ⟨_, rfl, fun _ => Below.refl _ _, ?_⟩
         refine seq_norm (a' := ?_) ?_ ?_
         rotate_left
         · show Act.put _ (some 233) _ = _; simp only [Act.put, List.setIfInBounds_toArray, List.set_cons_zero, List.set_cons_succ, i64_w, i32_w]; rfl
         refine seq_pure (i := 8) (N := some 238) (v := ?_) (a' := ?_) rfl rfl (by rfl) (fun _ _ _ h => h) ?_ ?_ ?_
         rotate_left 2
         · intro w' hg; go_simp; with_reducible rfl
         · simp only [Act.put, List.setIfInBounds_toArray, List.set_cons_zero, List.set_cons_succ, i64_w, i32_w]; rfl
         refine seq_pure (i := 9) (N := some 239) (v := ?_) (a' := ?_) rfl rfl (by rfl) (fun _ _ _ h => h) ?_ ?_ ?_
         rotate_left 2
         · intro w' hg; go_simp; with_reducible rfl
         · simp only [Act.put, List.setIfInBounds_toArray, List.set_cons_zero, List.set_cons_succ, i64_w, i32_w]; rfl
         refine seq_pure (i := 10) (N := some 240) (v := ?_) (a' := ?_) rfl rfl (by rfl) (fun _ _ _ h => h) ?_ ?_ ?_
         rotate_left 2
         · intro w' hg; go_simp; with_reducible rfl
         · simp only [Act.put, List.setIfInBounds_toArray, List.set_cons_zero, List.set_cons_succ, i64_w, i32_w]; rfl
         refine seq_pure (i := 11) (N := some 241) (v := ?_) (a' := ?_) rfl rfl (by rfl) (fun _ _ _ h => h) ?_ ?_ ?_
         rotate_left 2
         · intro w' hg; go_simp; with_reducible rfl
         · simp only [Act.put, List.setIfInBounds_toArray, List.set_cons_zero, List.set_cons_succ, i64_w, i32_w]; rfl
         refine seq_pure (i := 12) (N := some 242) (v := ?_) (a' := ?_) rfl rfl (by rfl) (fun _ _ _ h => h) ?_ ?_ ?_
         rotate_left 2
         · intro w' hg; go_simp; with_reducible rfl
         · simp only [Act.put, List.setIfInBounds_toArray, List.set_cons_zero, List.set_cons_succ, i64_w, i32_w]; rfl
         refine seq_pure (i := 13) (N := some 243) (v := ?_) (a' := ?_) rfl rfl (by rfl) (fun _ _ _ h => h) ?_ ?_ ?_
         rotate_left 2
         · intro w' hg; go_simp; with_reducible rfl
         · simp only [Act.put, List.setIfInBounds_toArray, List.set_cons_zero, List.set_cons_succ, i64_w, i32_w]; rfl
         refine seq_pure (i := 14) (N := some 244) (v := ?_) (a' := ?_) rfl rfl (by rfl) (fun _ _ _ h => h) ?_ ?_ ?_
         rotate_left 2
         · intro w' hg; go_simp; with_reducible rfl
         · simp only [Act.put, List.setIfInBounds_toArray, List.set_cons_zero, List.set_cons_succ, i64_w, i32_w]; rfl
         refine seq_pure (i := 16) (N := some 246) (v := ?_) (a' := ?_) rfl rfl (by rfl) (fun _ _ _ h => h) ?_ ?_ ?_
         rotate_left 2
         · intro w' hg; go_simp; with_reducible rfl
         · simp only [Act.put, List.setIfInBounds_toArray, List.set_cons_zero, List.set_cons_succ, i64_w, i32_w]; rfl
         refine seq_pure (i := 17) (N := some 247) (v := ?_) (a' := ?_) rfl rfl (by rfl) (fun _ _ _ h => h) ?_ ?_ ?_
         rotate_left 2
         · intro w' hg; go_simp; with_reducible rfl
         · simp only [Act.put, List.setIfInBounds_toArray, List.set_cons_zero, List.set_cons_succ, i64_w, i32_w]; rfl
         refine seq_pure (i := 18) (N := some 248) (v := ?_) (a' := ?_) rfl rfl (by rfl) (fun _ _ _ h => h) ?_ ?_ ?_
         rotate_left 2
         · intro w' hg; go_simp; with_reducible rfl
         · simp only [Act.put, List.setIfInBounds_toArray, List.set_cons_zero, List.set_cons_succ, i64_w, i32_w]; rfl
         refine seq_pure (i := 19) (N := some 249) (v := ?_) (a' := ?_) rfl rfl (by rfl) (fun _ _ _ h => h) ?_ ?_ ?_
         rotate_left 2
         · intro w' hg; go_simp; with_reducible rfl
         · simp only [Act.put, List.setIfInBounds_toArray, List.set_cons_zero, List.set_cons_succ, i64_w, i32_w]; rfl
         refine seq_pure (i := 20) (N := some 250) (v := ?_) (a' := ?_) rfl rfl (by rfl) (fun _ _ _ h => h) ?_ ?_ ?_
         rotate_left 2
         · intro w' hg; go_simp; with_reducible rfl
         · simp only [Act.put, List.setIfInBounds_toArray, List.set_cons_zero, List.set_cons_succ, i64_w, i32_w]; rfl
         refine seq_pure (i := 21) (N := some 251) (v := ?_) (a' := ?_) rfl rfl (by rfl) (fun _ _ _ h => h) ?_ ?_ ?_
         rotate_left 2
         · intro w' hg; go_simp; with_reducible rfl
         · simp only [Act.put, List.setIfInBounds_toArray, List.set_cons_zero, List.set_cons_succ, i64_w, i32_w]; rfl
         refine seq_call (i := 15) (N := some 245) rfl rfl Tryd.func27 (by kernel_rfl) rfl #[.pointer (some ⟨g0, 0, none⟩), .int .u64 (nw : Int)] (by rfl) rfl ?_ ?_
         · simp only [List.map_toArray, List.map_cons, List.map_nil]
           rfl
         refine (rekey_calls HS0.out HNW.out).mono ?_
         rintro e w9 ⟨rfl, hb⟩
         replace HN := hd (HN.out.below hb)
         replace HX := hd (HX.out.below hb)
         replace HS0 := hd (HS0.out.below hb)
         replace HS1 := hd (HS1.out.below hb)
         replace HA0 := hd (HA0.out.below hb)
         replace HB0 := hd (HB0.out.below hb)
         replace HA1 := hd (HA1.out.below hb)
         replace HB1 := hd (HB1.out.below hb)
         replace HGX := hd (blk_below HGX.out hb)
         replace HQB := hd (blk_below HQB.out hb)
         replace HGW := hd (blk_below HGW.out hb)
         replace HC0 := hd (HC0.out.below hb)
         replace HC1 := hd (HC1.out.below hb)
         replace HBW := hd (below_seq HBW.out hb)
         replace HP := hd (blk_below HP.out hb)
         refine ⟨_, rfl, fun _ => hb, ?_⟩
         clear hb
         refine seq_norm (a' := ?_) ?_ ?_
         rotate_left
         · show Act.put _ (some 245) _ = _; simp only [Act.put, List.setIfInBounds_toArray, List.set_cons_zero, List.set_cons_succ, i64_w, i32_w]; rfl
         refine seq_call (i := 22) (N := some 252) rfl rfl Tryd.func28 (by kernel_rfl) rfl #[.agg #[.int .u64 (r0 : Int), .int .u64 (r1 : Int), .int .i64 r2, .int .u64 (r3 : Int), .int .u64 (r4 : Int), .int .u64 (r5 : Int), .int .u64 (r6 : Int)], .agg #[.slice A0 m0 d0, .int .u64 (s0.N : Int), .slice A1 m1 d1, .int .u64 0, .int .u64 (st : Int), .int .u64 (s0.sent : Int), .slice s0.ca.A s0.ca.n s0.ca.c], .int .u64 (nw : Int)] (by rfl) rfl ?_ ?_
         · simp only [List.map_toArray, List.map_cons, List.map_nil]
           rfl
         refine (refrekey_calls (r := ⟨r0, r1, r2, r3, r4, r5, r6⟩) (k1 := ⟨A0, m0, d0⟩) (k2 := ⟨A1, m1, d1⟩) (ca := s0.ca) (N1 := s0.N) (N2 := 0) (born := st) (sent := s0.sent) (now := nw) HNW.out).mono ?_
         rintro e w10 ⟨rfl, hb⟩
         replace HN := hd (HN.out.below hb)
         replace HX := hd (HX.out.below hb)
         replace HS0 := hd (HS0.out.below hb)
         replace HS1 := hd (HS1.out.below hb)
         replace HA0 := hd (HA0.out.below hb)
         replace HB0 := hd (HB0.out.below hb)
         replace HA1 := hd (HA1.out.below hb)
         replace HB1 := hd (HB1.out.below hb)
         replace HGX := hd (blk_below HGX.out hb)
         replace HQB := hd (blk_below HQB.out hb)
         replace HGW := hd (blk_below HGW.out hb)
         replace HC0 := hd (HC0.out.below hb)
         replace HC1 := hd (HC1.out.below hb)
         replace HBW := hd (below_seq HBW.out hb)
         replace HP := hd (blk_below HP.out hb)
         refine ⟨_, rfl, fun _ => hb, ?_⟩
         clear hb t0 t1 tp0 tp1 tp2 tp3 tw0 tw1 tw2 tw3 tw4 tw5 tw6 tw7 tw8 tw9 tw10 tw11 tw12 tw13 tq0 tq1 tq2 tq3 tq4 tq5 tq6
         have t0 := Grow.cells (show w10.cell? ⟨gx, 0, none⟩ = some (.pointer (some ⟨g0, 0, none⟩)) by rw [blk_cell HGX.out]; rfl)
         have t1 := Grow.cells (show w10.cell? ⟨gx, 1, none⟩ = some (.pointer (some ⟨g1, 0, none⟩)) by rw [blk_cell HGX.out]; rfl)
         have tp0 := Grow.cells (show w10.cell? ⟨pa, 0, none⟩ = some (.int .i64 kd) by rw [blk_cell HP.out]; rfl)
         have tp1 := Grow.cells (show w10.cell? ⟨pa, 1, none⟩ = some (.slice B m d) by rw [blk_cell HP.out]; rfl)
         have tp2 := Grow.cells (show w10.cell? ⟨pa, 2, none⟩ = some (.int .u64 (nn : Int)) by rw [blk_cell HP.out]; rfl)
         have tp3 := Grow.cells (show w10.cell? ⟨pa, 3, none⟩ = some (.int .u64 (nw : Int)) by rw [blk_cell HP.out]; rfl)
         have tw0 := Grow.cells (show w10.cell? ⟨gw, 0, none⟩ = some (.slice A0 m0 d0) by rw [blk_cell HGW.out]; rfl)
         have tw1 := Grow.cells (show w10.cell? ⟨gw, 1, none⟩ = some (.int .u64 (s0.N : Int)) by rw [blk_cell HGW.out]; rfl)
         have tw2 := Grow.cells (show w10.cell? ⟨gw, 2, none⟩ = some (.slice A1 m1 d1) by rw [blk_cell HGW.out]; rfl)
         have tw3 := Grow.cells (show w10.cell? ⟨gw, 3, none⟩ = some (.int .u64 0) by rw [blk_cell HGW.out]; rfl)
         have tw4 := Grow.cells (show w10.cell? ⟨gw, 4, none⟩ = some (.int .u64 (st : Int)) by rw [blk_cell HGW.out]; rfl)
         have tw5 := Grow.cells (show w10.cell? ⟨gw, 5, none⟩ = some (.int .u64 (s0.sent : Int)) by rw [blk_cell HGW.out]; rfl)
         have tw6 := Grow.cells (show w10.cell? ⟨gw, 6, none⟩ = some (.slice s0.ca.A s0.ca.n s0.ca.c) by rw [blk_cell HGW.out]; rfl)
         have tw7 := Grow.cells (show w10.cell? ⟨gw, 7, none⟩ = some (.slice A1 m1 d1) by rw [blk_cell HGW.out]; rfl)
         have tw8 := Grow.cells (show w10.cell? ⟨gw, 8, none⟩ = some (.int .u64 (s1.N : Int)) by rw [blk_cell HGW.out]; rfl)
         have tw9 := Grow.cells (show w10.cell? ⟨gw, 9, none⟩ = some (.slice A0 m0 d0) by rw [blk_cell HGW.out]; rfl)
         have tw10 := Grow.cells (show w10.cell? ⟨gw, 10, none⟩ = some (.int .u64 0) by rw [blk_cell HGW.out]; rfl)
         have tw11 := Grow.cells (show w10.cell? ⟨gw, 11, none⟩ = some (.int .u64 (st : Int)) by rw [blk_cell HGW.out]; rfl)
         have tw12 := Grow.cells (show w10.cell? ⟨gw, 12, none⟩ = some (.int .u64 (s1.sent : Int)) by rw [blk_cell HGW.out]; rfl)
         have tw13 := Grow.cells (show w10.cell? ⟨gw, 13, none⟩ = some (.slice s1.ca.A s1.ca.n s1.ca.c) by rw [blk_cell HGW.out]; rfl)
         have tq0 := Grow.cells (show w10.cell? ⟨p, 0, none⟩ = some (.int .u64 (r0 : Int)) by rw [blk_cell HQB.out]; rfl)
         have tq1 := Grow.cells (show w10.cell? ⟨p, 1, none⟩ = some (.int .u64 (r1 : Int)) by rw [blk_cell HQB.out]; rfl)
         have tq2 := Grow.cells (show w10.cell? ⟨p, 2, none⟩ = some (.int .i64 r2) by rw [blk_cell HQB.out]; rfl)
         have tq3 := Grow.cells (show w10.cell? ⟨p, 3, none⟩ = some (.int .u64 (r3 : Int)) by rw [blk_cell HQB.out]; rfl)
         have tq4 := Grow.cells (show w10.cell? ⟨p, 4, none⟩ = some (.int .u64 (r4 : Int)) by rw [blk_cell HQB.out]; rfl)
         have tq5 := Grow.cells (show w10.cell? ⟨p, 5, none⟩ = some (.int .u64 (r5 : Int)) by rw [blk_cell HQB.out]; rfl)
         have tq6 := Grow.cells (show w10.cell? ⟨p, 6, none⟩ = some (.int .u64 (r6 : Int)) by rw [blk_cell HQB.out]; rfl)
         refine seq_norm (a' := ?_) ?_ ?_
         rotate_left
         · show Act.put _ (some 252) _ = _; simp only [Act.put, List.setIfInBounds_toArray, List.set_cons_zero, List.set_cons_succ, i64_w, i32_w]; rfl
         refine seq_pure (i := 23) (N := some 253) (v := ?_) (a' := ?_) rfl rfl (by rfl) (fun _ _ _ h => h) ?_ ?_ ?_
         rotate_left 2
         · intro w' hg; go_simp; with_reducible rfl
         · simp only [Act.put, List.setIfInBounds_toArray, List.set_cons_zero, List.set_cons_succ, i64_w, i32_w]; rfl
         refine seq_pure (i := 24) (N := some 254) (v := ?_) (a' := ?_) rfl rfl (by rfl) (fun _ _ _ h => h) ?_ ?_ ?_
         rotate_left 2
         · intro w' hg; go_simp; with_reducible rfl
         · simp only [Act.put, List.setIfInBounds_toArray, List.set_cons_zero, List.set_cons_succ, i64_w, i32_w]; rfl
         refine seq_pure (i := 25) (N := some 255) (v := ?_) (a' := ?_) rfl rfl (by rfl) (fun _ _ _ h => h) ?_ ?_ ?_
         rotate_left 2
         · intro w' hg; go_simp; with_reducible rfl
         · simp only [Act.put, List.setIfInBounds_toArray, List.set_cons_zero, List.set_cons_succ, i64_w, i32_w]; rfl
         refine seq_pure (i := 26) (N := some 256) (v := ?_) (a' := ?_) rfl rfl (by rfl) (fun _ _ _ h => h) ?_ ?_ ?_
         rotate_left 2
         · intro w' hg; go_simp; with_reducible rfl
         · simp only [Act.put, List.setIfInBounds_toArray, List.set_cons_zero, List.set_cons_succ, i64_w, i32_w]; rfl
         refine seq_pure (i := 27) (N := some 257) (v := ?_) (a' := ?_) rfl rfl (by rfl) (fun _ _ _ h => h) ?_ ?_ ?_
         rotate_left 2
         · intro w' hg; go_simp; with_reducible rfl
         · simp only [Act.put, List.setIfInBounds_toArray, List.set_cons_zero, List.set_cons_succ, i64_w, i32_w]; rfl
         refine seq_pure (i := 28) (N := some 258) (v := ?_) (a' := ?_) rfl rfl (by rfl) (fun _ _ _ h => h) ?_ ?_ ?_
         rotate_left 2
         · intro w' hg; go_simp; with_reducible rfl
         · simp only [Act.put, List.setIfInBounds_toArray, List.set_cons_zero, List.set_cons_succ, i64_w, i32_w]; rfl
         refine seq_pure (i := 29) (N := some 259) (v := ?_) (a' := ?_) rfl rfl (by rfl) (fun _ _ _ h => h) ?_ ?_ ?_
         rotate_left 2
         · intro w' hg; go_simp; with_reducible rfl
         · simp only [Act.put, List.setIfInBounds_toArray, List.set_cons_zero, List.set_cons_succ, i64_w, i32_w]; rfl
         refine seq_pure (i := 30) (N := some 260) (v := ?_) (a' := ?_) rfl rfl (by rfl) (fun _ _ _ h => h) ?_ ?_ ?_
         rotate_left 2
         · intro w' hg; go_simp; with_reducible rfl
         · simp only [Act.put, List.setIfInBounds_toArray, List.set_cons_zero, List.set_cons_succ, i64_w, i32_w]; rfl
         refine seq_pure (i := 32) (N := some 262) (v := ?_) (a' := ?_) rfl rfl (by rfl) (fun _ _ _ h => h) ?_ ?_ ?_
         rotate_left 2
         · intro w' hg; go_simp; with_reducible rfl
         · simp only [Act.put, List.setIfInBounds_toArray, List.set_cons_zero, List.set_cons_succ, i64_w, i32_w]; rfl
         refine seq_pure (i := 33) (N := some 263) (v := ?_) (a' := ?_) rfl rfl (by rfl) (fun _ _ _ h => h) ?_ ?_ ?_
         rotate_left 2
         · intro w' hg; go_simp; with_reducible rfl
         · simp only [Act.put, List.setIfInBounds_toArray, List.set_cons_zero, List.set_cons_succ, i64_w, i32_w]; rfl
         refine seq_pure (i := 34) (N := some 264) (v := ?_) (a' := ?_) rfl rfl (by rfl) (fun _ _ _ h => h) ?_ ?_ ?_
         rotate_left 2
         · intro w' hg; go_simp; with_reducible rfl
         · simp only [Act.put, List.setIfInBounds_toArray, List.set_cons_zero, List.set_cons_succ, i64_w, i32_w]; rfl
         refine seq_pure (i := 35) (N := some 265) (v := ?_) (a' := ?_) rfl rfl (by rfl) (fun _ _ _ h => h) ?_ ?_ ?_
         rotate_left 2
         · intro w' hg; go_simp; with_reducible rfl
         · simp only [Act.put, List.setIfInBounds_toArray, List.set_cons_zero, List.set_cons_succ, i64_w, i32_w]; rfl
         refine seq_pure (i := 36) (N := some 266) (v := ?_) (a' := ?_) rfl rfl (by rfl) (fun _ _ _ h => h) ?_ ?_ ?_
         rotate_left 2
         · intro w' hg; go_simp; with_reducible rfl
         · simp only [Act.put, List.setIfInBounds_toArray, List.set_cons_zero, List.set_cons_succ, i64_w, i32_w]; rfl
         refine seq_pure (i := 37) (N := some 267) (v := ?_) (a' := ?_) rfl rfl (by rfl) (fun _ _ _ h => h) ?_ ?_ ?_
         rotate_left 2
         · intro w' hg; go_simp; with_reducible rfl
         · simp only [Act.put, List.setIfInBounds_toArray, List.set_cons_zero, List.set_cons_succ, i64_w, i32_w]; rfl
         refine seq_call (i := 31) (N := some 261) rfl rfl Tryd.func29 (by kernel_rfl) rfl #[.pointer (some ⟨g0, 0, none⟩), .int .u64 (nw : Int)] (by rfl) rfl ?_ ?_
         · simp only [List.map_toArray, List.map_cons, List.map_nil]
           rfl
         refine (expired_calls HS0.out HNW.out).mono ?_
         rintro e w11 ⟨rfl, hb⟩
         replace HN := hd (HN.out.below hb)
         replace HX := hd (HX.out.below hb)
         replace HS0 := hd (HS0.out.below hb)
         replace HS1 := hd (HS1.out.below hb)
         replace HA0 := hd (HA0.out.below hb)
         replace HB0 := hd (HB0.out.below hb)
         replace HA1 := hd (HA1.out.below hb)
         replace HB1 := hd (HB1.out.below hb)
         replace HGX := hd (blk_below HGX.out hb)
         replace HQB := hd (blk_below HQB.out hb)
         replace HGW := hd (blk_below HGW.out hb)
         replace HC0 := hd (HC0.out.below hb)
         replace HC1 := hd (HC1.out.below hb)
         replace HBW := hd (below_seq HBW.out hb)
         replace HP := hd (blk_below HP.out hb)
         refine ⟨_, rfl, fun _ => hb, ?_⟩
         clear hb
         refine seq_norm (a' := ?_) ?_ ?_
         rotate_left
         · show Act.put _ (some 261) _ = _; simp only [Act.put, List.setIfInBounds_toArray, List.set_cons_zero, List.set_cons_succ, i64_w, i32_w]; rfl
         refine seq_call (i := 38) (N := some 268) rfl rfl Tryd.func30 (by kernel_rfl) rfl #[.agg #[.int .u64 (r0 : Int), .int .u64 (r1 : Int), .int .i64 r2, .int .u64 (r3 : Int), .int .u64 (r4 : Int), .int .u64 (r5 : Int), .int .u64 (r6 : Int)], .agg #[.slice A0 m0 d0, .int .u64 (s0.N : Int), .slice A1 m1 d1, .int .u64 0, .int .u64 (st : Int), .int .u64 (s0.sent : Int), .slice s0.ca.A s0.ca.n s0.ca.c], .int .u64 (nw : Int)] (by rfl) rfl ?_ ?_
         · simp only [List.map_toArray, List.map_cons, List.map_nil]
           rfl
         refine (refexpired_calls (r := ⟨r0, r1, r2, r3, r4, r5, r6⟩) (k1 := ⟨A0, m0, d0⟩) (k2 := ⟨A1, m1, d1⟩) (ca := s0.ca) (N1 := s0.N) (N2 := 0) (born := st) (sent := s0.sent) (now := nw) HNW.out).mono ?_
         rintro e w12 ⟨rfl, hb⟩
         replace HN := hd (HN.out.below hb)
         replace HX := hd (HX.out.below hb)
         replace HS0 := hd (HS0.out.below hb)
         replace HS1 := hd (HS1.out.below hb)
         replace HA0 := hd (HA0.out.below hb)
         replace HB0 := hd (HB0.out.below hb)
         replace HA1 := hd (HA1.out.below hb)
         replace HB1 := hd (HB1.out.below hb)
         replace HGX := hd (blk_below HGX.out hb)
         replace HQB := hd (blk_below HQB.out hb)
         replace HGW := hd (blk_below HGW.out hb)
         replace HC0 := hd (HC0.out.below hb)
         replace HC1 := hd (HC1.out.below hb)
         replace HBW := hd (below_seq HBW.out hb)
         replace HP := hd (blk_below HP.out hb)
         refine ⟨_, rfl, fun _ => hb, ?_⟩
         clear hb t0 t1 tp0 tp1 tp2 tp3 tw0 tw1 tw2 tw3 tw4 tw5 tw6 tw7 tw8 tw9 tw10 tw11 tw12 tw13 tq0 tq1 tq2 tq3 tq4 tq5 tq6
         refine seq_norm (a' := ?_) ?_ ?_
         rotate_left
         · show Act.put _ (some 268) _ = _; simp only [Act.put, List.setIfInBounds_toArray, List.set_cons_zero, List.set_cons_succ, i64_w, i32_w]; rfl
         refine seq_pure (i := 39) (N := some 269) (v := ?_) (a' := ?_) rfl rfl (by rfl) (fun _ _ _ h => h) ?_ ?_ ?_
         rotate_left 2
         · intro w' hg; go_simp; with_reducible rfl
         · simp only [Act.put, List.setIfInBounds_toArray, List.set_cons_zero, List.set_cons_succ, i64_w, i32_w]; rfl
         refine seq_pure (i := 40) (N := some 270) (v := ?_) (a' := ?_) rfl rfl (by rfl) (fun _ _ _ h => h) ?_ ?_ ?_
         rotate_left 2
         · intro w' hg; go_simp; with_reducible rfl
         · simp only [Act.put, List.setIfInBounds_toArray, List.set_cons_zero, List.set_cons_succ, i64_w, i32_w]; rfl
         refine seq_done ?_
         have i2 : (i : Int) < 20 := by have := HI2.out; omega
         go_wp2
         go_roundw
         case rel => exact ⟨i + 1, s0, s1, nums, ls, by have := HI2.out; omega, by go_num, HI, HN, HX, HS0, HS1, HA0, HB0, HA1, HB1, HGX, HQB, HGW, HC0, HC1, HBW⟩
         case measure => simp [intOf]; have := HI2.out; omega
     · go_cut [15, 16] (fun u15 u16 wz => ∃ (s0 s1 : Sst) (nums : List Nat) (ls : List (List Nat)), Aside0 (s0.ok (i + 1) ∧ s1.ok (i + 1) ∧ ls.length = nums.length ∧ nums.length ≤ (i + 1) ∧ (∀ x ∈ nums, x < 2 ^ 64) ∧ (∀ b ∈ ls, b.length ≤ 316) ∧ FarN u15 s0 s1) ∧ Aside0 (OwnK .u64 22 W.heap.size wz u15 nums) ∧ Aside0 (BoxIn W wz u16 ls) ∧ Aside0 (SesAt wz g0 ⟨r0, r1, r2, r3, r4, r5, r6⟩ st s0.sent ka0 s0.N kb0 0 s0.v) ∧ Aside0 (SesAt wz g1 ⟨r0, r1, r2, r3, r4, r5, r6⟩ st s1.sent ka1 s1.N kb1 0 s1.v) ∧ Aside0 (OwnK .u8 5 W.heap.size wz ka0.v key0) ∧ Aside0 (OwnK .u8 5 W.heap.size wz kb0.v key1) ∧ Aside0 (OwnK .u8 5 W.heap.size wz ka1.v key1) ∧ Aside0 (OwnK .u8 5 W.heap.size wz kb1.v key0) ∧ Aside0 (wz.heap[gx]? = some (.cells #[.pointer (some ⟨g0, 0, none⟩), .pointer (some ⟨g1, 0, none⟩)] 47 (0, 0))) ∧ Aside0 (wz.heap[p]? = some (.cells #[.int .u64 (r0 : Int), .int .u64 (r1 : Int), .int .i64 r2, .int .u64 (r3 : Int), .int .u64 (r4 : Int), .int .u64 (r5 : Int), .int .u64 (r6 : Int)] 27 (0, 0))) ∧ Aside0 (wz.heap[gw]? = some (.cells (refW ⟨A0, m0, d0⟩ ⟨A1, m1, d1⟩ st s0 s1) 51 (0, 0))) ∧ Aside0 (OwnK .u64 22 W.heap.size wz s0.ca.v s0.l) ∧ Aside0 (OwnK .u64 22 W.heap.size wz s1.ca.v s1.l) ∧ Aside0 (Below W.heap.size W wz) ∧ Aside0 (wz.heap[pa]? = some (.cells #[.int .i64 kd, .slice B m d, .int .u64 (nn : Int), .int .u64 (nw : Int)] 54 (0, 0))))
       case first =>
        by_cases hz : z2 = 0
        · have qz : (z2 == 0) = true := by simp; exact hz
          as_aux_lemma =>
           obtain ⟨x, hx⟩ : ∃ x, Aside0 (sealS ⟨r0, r1, r2, r3, r4, r5, r6⟩ st s1.sent s1.N key1 b nw = x) := ⟨_, ⟨rfl⟩⟩
           have HXF := hd (sealS_fin (r := ⟨r0, r1, r2, r3, r4, r5, r6⟩) (born := st) (sent := s1.sent) (N1 := s1.N) (now := nw) (key := key1) HBY.out.ok HI.out.2.1.2.1)
           rw [hx.out] at HXF
           have HRS := fun wy (hb : Below W.heap.size W wy) => hd (refseal22_calls (w := wy) (r := ⟨r0, r1, r2, r3, r4, r5, r6⟩) (k1 := ⟨A1, m1, d1⟩) (k2 := ⟨A0, m0, d0⟩) (ca := s1.ca) (N2 := 0) (born := st) (sent := s1.sent) (N1 := s1.N) (now := nw) (HK1.out.below hb) HI.out.2.1.2.1 (by have := HI.out.2.1.1; have := HI2.out; omega) (HBY.out.below hb) (by have := HML.out; omega) HNW.out)
           rw [hx.out] at HRS
           unfold R22Post Rul.v refS at HRS
           dsimp only at HRS
           go_upto_region 19 with (fail)
           refine upR_start Keeps.any [7] [(0, 1), (1, 1), (2, 1), (3, 1), (4, 1), (5, 1), (6, 1), (7, 0), (8, 1), (9, 1), (10, 1), (11, 1), (12, 1), (13, 1), (14, 1)] (by kernel_rfl) rfl (by kernel_rfl) (by kernel_rfl) ?_
           have hdr := below_drew (Below.refl w7.heap.size w7)
           replace HN := hd (HN.out.below hdr)
           replace HX := hd (HX.out.below hdr)
           replace HS0 := hd (HS0.out.below hdr)
           replace HS1 := hd (HS1.out.below hdr)
           replace HA0 := hd (HA0.out.below hdr)
           replace HB0 := hd (HB0.out.below hdr)
           replace HA1 := hd (HA1.out.below hdr)
           replace HB1 := hd (HB1.out.below hdr)
           replace HGX := hd (blk_below HGX.out hdr)
           replace HQB := hd (blk_below HQB.out hdr)
           replace HGW := hd (blk_below HGW.out hdr)
           replace HC0 := hd (HC0.out.below hdr)
           replace HC1 := hd (HC1.out.below hdr)
           replace HBW := hd (below_seq HBW.out hdr)
           replace HP := hd (blk_below HP.out hdr)
           generalize w7.drew = w8 at hdr HN HX HS0 HS1 HA0 HB0 HA1 HB1 HGX HQB HGW HC0 HC1 HBW HP ⊢
           clear hdr
           have t0 := Grow.cells (show w8.cell? ⟨gx, 0, none⟩ = some (.pointer (some ⟨g0, 0, none⟩)) by rw [blk_cell HGX.out]; rfl)
           have t1 := Grow.cells (show w8.cell? ⟨gx, 1, none⟩ = some (.pointer (some ⟨g1, 0, none⟩)) by rw [blk_cell HGX.out]; rfl)
           have tp0 := Grow.cells (show w8.cell? ⟨pa, 0, none⟩ = some (.int .i64 kd) by rw [blk_cell HP.out]; rfl)
           have tp1 := Grow.cells (show w8.cell? ⟨pa, 1, none⟩ = some (.slice B m d) by rw [blk_cell HP.out]; rfl)
           have tp2 := Grow.cells (show w8.cell? ⟨pa, 2, none⟩ = some (.int .u64 (nn : Int)) by rw [blk_cell HP.out]; rfl)
           have tp3 := Grow.cells (show w8.cell? ⟨pa, 3, none⟩ = some (.int .u64 (nw : Int)) by rw [blk_cell HP.out]; rfl)
           have HSE := hd (sseal_calls (r := ⟨r0, r1, r2, r3, r4, r5, r6⟩) (now := nw) HS1.out (own_bytes HA1.out HK1.out.ok) HI.out.2.1.2.1 (by have := HI.out.2.1.1; have := HI2.out; omega) (HBY.out.below HBW.out) (HPL.out.below HBW.out) (by have := HML.out; omega) HNW.out)
           rw [hx.out] at HSE
           refine rseq_pure (i := 0) (N := some 114) (v := ?_) (a' := ?_) rfl rfl (by rfl) (fun _ _ _ h => h) ?_ ?_ ?_
           rotate_left 2
           · intro w' hg; go_simp; with_reducible rfl
           · simp only [Act.put, List.setIfInBounds_toArray, List.set_cons_zero, List.set_cons_succ, i64_w, i32_w]; rfl
           refine rseq_pure (i := 1) (N := some 115) (v := ?_) (a' := ?_) rfl rfl (by rfl) (fun _ _ _ h => h) ?_ ?_ ?_
           rotate_left 2
           · intro w' hg; go_simp; with_reducible rfl
           · simp only [Act.put, List.setIfInBounds_toArray, List.set_cons_zero, List.set_cons_succ, i64_w, i32_w]; rfl
           refine rseq_pure (i := 2) (N := some 116) (v := ?_) (a' := ?_) rfl rfl (by rfl) (fun _ _ _ h => h) ?_ ?_ ?_
           rotate_left 2
           · intro w' hg; go_simp; with_reducible rfl
           · simp only [Act.put, List.setIfInBounds_toArray, List.set_cons_zero, List.set_cons_succ, i64_w, i32_w]; rfl
           refine rseq_pure (i := 3) (N := some 117) (v := ?_) (a' := ?_) rfl rfl (by rfl) (fun _ _ _ h => h) ?_ ?_ ?_
           rotate_left 2
           · intro w' hg; go_simp; with_reducible rfl
           · simp only [Act.put, List.setIfInBounds_toArray, List.set_cons_zero, List.set_cons_succ, i64_w, i32_w]; rfl
           refine rseq_pure (i := 4) (N := some 118) (v := ?_) (a' := ?_) rfl rfl (by rfl) (fun _ _ _ h => h) ?_ ?_ ?_
           rotate_left 2
           · intro w' hg; go_simp; with_reducible rfl
           · simp only [Act.put, List.setIfInBounds_toArray, List.set_cons_zero, List.set_cons_succ, i64_w, i32_w]; rfl
           refine rseq_pure (i := 5) (N := some 119) (v := ?_) (a' := ?_) rfl rfl (by rfl) (fun _ _ _ h => h) ?_ ?_ ?_
           rotate_left 2
           · intro w' hg; go_simp; with_reducible rfl
           · simp only [Act.put, List.setIfInBounds_toArray, List.set_cons_zero, List.set_cons_succ, i64_w, i32_w]; rfl
           refine rseq_pure (i := 6) (N := some 120) (v := ?_) (a' := ?_) rfl rfl (by rfl) (fun _ _ _ h => h) ?_ ?_ ?_
           rotate_left 2
           · intro w' hg; go_simp; with_reducible rfl
           · simp only [Act.put, List.setIfInBounds_toArray, List.set_cons_zero, List.set_cons_succ, i64_w, i32_w]; rfl
           refine rseq_call (i := 7) (N := some 121) rfl rfl Tryd.func22 (by kernel_rfl) rfl #[.pointer (some ⟨g1, 0, none⟩), .slice B m d, .int .u64 (nw : Int)] (by rfl) rfl ?_ ?_
           · simp only [List.map_toArray, List.map_cons, List.map_nil]
             rfl
           refine HSE.out.mono ?_
           rintro e w9 ⟨vb, rfl, hob, hs2, hm2⟩
           have hsz := HBW.out.size
           obtain ⟨Ab, cb, rfl, hcb, _⟩ := hob.slice
           have hap := Apart.one HS1.out (e := 5) (by decide)
           have hap64 := Apart.one HS1.out (e := 22) (by decide)
           replace HN := hd (HN.out.mod hm2 hap64)
           replace HX := hd (HX.out.mod hm2 hap (Apart.one HS1.out (by decide)))
           replace HS0 := hd (show SesAt _ g0 ⟨r0, r1, r2, r3, r4, r5, r6⟩ st s0.sent ka0 s0.N kb0 0 s0.v from hm2.block HS0.out HGG.out.2.2.2)
           replace HA0 := hd (HA0.out.mod hm2 hap)
           replace HB0 := hd (HB0.out.mod hm2 hap)
           replace HA1 := hd (HA1.out.mod hm2 hap)
           replace HB1 := hd (HB1.out.mod hm2 hap)
           replace HGX := hd (hm2.block HGX.out (ne_types HGX.out HS1.out (by decide)))
           replace HQB := hd (hm2.block HQB.out (ne_types HQB.out HS1.out (by decide)))
           replace HGW := hd (hm2.block HGW.out (ne_types HGW.out HS1.out (by decide)))
           replace HP := hd (hm2.block HP.out (ne_types HP.out HS1.out (by decide)))
           replace HC0 := hd (HC0.out.mod hm2 hap64)
           replace HC1 := hd (HC1.out.mod hm2 hap64)
           replace HBW := hd (HBW.out.trans (hm2.toBelow (fun k hk => by rw [hk]; exact HGG.out.2.2.1) HBW.out.size))
           clear hap hap64
           have HVB := hd (hob.lower hsz)
           replace HS1 := hd hs2
           refine ⟨_, rfl, ⟨fun h => absurd (by decide) h, trivial⟩, ?_⟩
           clear hob hs2 hm2 HSE hsz hcb
           refine rseq_norm (a' := ?_) ?_ ?_
           rotate_left
           · show Act.put _ (some 121) _ = _; simp only [Act.put, List.setIfInBounds_toArray, List.set_cons_zero, List.set_cons_succ, i64_w, i32_w]; rfl
           refine rseq_pure (i := 8) (N := some 113) (v := ?_) (a' := ?_) rfl rfl (by rfl) (fun _ _ _ h => h) ?_ ?_ ?_
           rotate_left 2
           · intro w' hg; go_simp; with_reducible rfl
           · simp only [Act.put, List.setIfInBounds_toArray, List.set_cons_zero, List.set_cons_succ, i64_w, i32_w]; rfl
           refine rseq_pure (i := 9) (N := some 122) (v := ?_) (a' := ?_) rfl rfl (by rfl) (fun _ _ _ h => h) ?_ ?_ ?_
           rotate_left 2
           · intro w' hg; go_simp; with_reducible rfl
           · simp only [Act.put, List.setIfInBounds_toArray, List.set_cons_zero, List.set_cons_succ, i64_w, i32_w]; rfl
           refine rseq_pure (i := 10) (N := some 123) (v := ?_) (a' := ?_) rfl rfl (by rfl) (fun _ _ _ h => h) ?_ ?_ ?_
           rotate_left 2
           · intro w' hg; go_simp; with_reducible rfl
           · simp only [Act.put, List.setIfInBounds_toArray, List.set_cons_zero, List.set_cons_succ, i64_w, i32_w]; rfl
           refine rseq_pure (i := 11) (N := some 124) (v := ?_) (a' := ?_) rfl rfl (by rfl) (fun _ _ _ h => h) ?_ ?_ ?_
           rotate_left 2
           · intro w' hg; go_simp; with_reducible rfl
           · simp only [Act.put, List.setIfInBounds_toArray, List.set_cons_zero, List.set_cons_succ, i64_w, i32_w]; rfl
           refine rseq_pure (i := 12) (N := some 20) (v := ?_) (a' := ?_) rfl rfl (by rfl) (fun _ _ _ h => h) ?_ ?_ ?_
           rotate_left 2
           · intro w' hg; go_simp; with_reducible rfl
           · simp only [Act.put, List.setIfInBounds_toArray, List.set_cons_zero, List.set_cons_succ, i64_w, i32_w]; rfl
           refine rseq_pure (i := 13) (N := some 21) (v := ?_) (a' := ?_) rfl rfl (by rfl) (fun _ _ _ h => h) ?_ ?_ ?_
           rotate_left 2
           · intro w' hg; go_simp; with_reducible rfl
           · simp only [Act.put, List.setIfInBounds_toArray, List.set_cons_zero, List.set_cons_succ, i64_w, i32_w]; rfl
           refine rseq_pure (i := 14) (N := some 22) (v := ?_) (a' := ?_) rfl rfl (by rfl) (fun _ _ _ h => h) ?_ ?_ ?_
           rotate_left 2
           · intro w' hg; go_simp; with_reducible rfl
           · simp only [Act.put, List.setIfInBounds_toArray, List.set_cons_zero, List.set_cons_succ, i64_w, i32_w]; rfl
           refine rseq_done ?_
           go_upto_region 20 with (fail)
           clear t0 t1 tp0 tp1 tp2 tp3
           go_cut [23, 24, 25, 26] (fun u23 u24 u25 u26 wz => ∃ (nb : Nat) (Ay : Option Addr) (ny cy : Nat), u23 = .pointer (some ⟨nb, 0, none⟩) ∧ u24 = .int .u64 (x.1 : Int) ∧ u25 = .slice Ay ny cy ∧ u26 = .int .i64 (x.2.2.1 : Int) ∧ Aside0 (wz.heap[nb]? = some (.cells #[.slice A1 m1 d1, .int .u64 (x.2.2.2.1 : Int), .slice A0 m0 d0, .int .u64 0, .int .u64 (st : Int), .int .u64 (x.2.2.2.2 : Int), .slice s1.ca.A s1.ca.n s1.ca.c] 50 (0, 0))) ∧ Aside0 (OwnK .u8 5 W.heap.size wz (.slice Ab x.2.1.length cb) x.2.1) ∧ Aside0 (Box W wz (Ay, ny, cy) x.2.1) ∧ Aside0 (ny = x.2.1.length) ∧ Aside0 (OwnK .u64 22 W.heap.size wz u15 nums) ∧ Aside0 (BoxIn W wz u16 ls) ∧ Aside0 (SesAt wz g0 ⟨r0, r1, r2, r3, r4, r5, r6⟩ st s0.sent ka0 s0.N kb0 0 s0.v) ∧ Aside0 (SesAt wz g1 ⟨r0, r1, r2, r3, r4, r5, r6⟩ st x.2.2.2.2 ka1 x.2.2.2.1 kb1 0 s1.v) ∧ Aside0 (OwnK .u8 5 W.heap.size wz ka0.v key0) ∧ Aside0 (OwnK .u8 5 W.heap.size wz kb0.v key1) ∧ Aside0 (OwnK .u8 5 W.heap.size wz ka1.v key1) ∧ Aside0 (OwnK .u8 5 W.heap.size wz kb1.v key0) ∧ Aside0 (wz.heap[gx]? = some (.cells #[.pointer (some ⟨g0, 0, none⟩), .pointer (some ⟨g1, 0, none⟩)] 47 (0, 0))) ∧ Aside0 (wz.heap[p]? = some (.cells #[.int .u64 (r0 : Int), .int .u64 (r1 : Int), .int .i64 r2, .int .u64 (r3 : Int), .int .u64 (r4 : Int), .int .u64 (r5 : Int), .int .u64 (r6 : Int)] 27 (0, 0))) ∧ Aside0 (wz.heap[gw]? = some (.cells (refW ⟨A0, m0, d0⟩ ⟨A1, m1, d1⟩ st s0 s1) 51 (0, 0))) ∧ Aside0 (OwnK .u64 22 W.heap.size wz s0.ca.v s0.l) ∧ Aside0 (OwnK .u64 22 W.heap.size wz s1.ca.v s1.l) ∧ Aside0 (Below W.heap.size W wz) ∧ Aside0 (wz.heap[pa]? = some (.cells #[.int .i64 kd, .slice B m d, .int .u64 (nn : Int), .int .u64 (nw : Int)] 54 (0, 0))))
           case first =>
            as_aux_lemma =>
             refine uq_start (fun _ _ => True) [15] 19 rfl (by kernel_rfl) ?_
             have hdr := below_drew (Below.refl w9.heap.size w9)
             replace HN := hd (HN.out.below hdr)
             replace HX := hd (HX.out.below hdr)
             replace HS0 := hd (HS0.out.below hdr)
             replace HS1 := hd (HS1.out.below hdr)
             replace HA0 := hd (HA0.out.below hdr)
             replace HB0 := hd (HB0.out.below hdr)
             replace HA1 := hd (HA1.out.below hdr)
             replace HB1 := hd (HB1.out.below hdr)
             replace HGX := hd (blk_below HGX.out hdr)
             replace HQB := hd (blk_below HQB.out hdr)
             replace HGW := hd (blk_below HGW.out hdr)
             replace HC0 := hd (HC0.out.below hdr)
             replace HC1 := hd (HC1.out.below hdr)
             replace HBW := hd (below_seq HBW.out hdr)
             replace HP := hd (blk_below HP.out hdr)
             replace HVB := hd (HVB.out.below hdr)
             generalize w9.drew = w10 at hdr HN HX HS0 HS1 HA0 HB0 HA1 HB1 HGX HQB HGW HC0 HC1 HBW HP HVB ⊢
             clear hdr
             have t0 := Grow.cells (show w10.cell? ⟨p, 0, none⟩ = some (.int .u64 (r0 : Int)) by rw [blk_cell HQB.out]; rfl)
             have t1 := Grow.cells (show w10.cell? ⟨p, 1, none⟩ = some (.int .u64 (r1 : Int)) by rw [blk_cell HQB.out]; rfl)
             have t2 := Grow.cells (show w10.cell? ⟨p, 2, none⟩ = some (.int .i64 r2) by rw [blk_cell HQB.out]; rfl)
             have t3 := Grow.cells (show w10.cell? ⟨p, 3, none⟩ = some (.int .u64 (r3 : Int)) by rw [blk_cell HQB.out]; rfl)
             have t4 := Grow.cells (show w10.cell? ⟨p, 4, none⟩ = some (.int .u64 (r4 : Int)) by rw [blk_cell HQB.out]; rfl)
             have t5 := Grow.cells (show w10.cell? ⟨p, 5, none⟩ = some (.int .u64 (r5 : Int)) by rw [blk_cell HQB.out]; rfl)
             have t6 := Grow.cells (show w10.cell? ⟨p, 6, none⟩ = some (.int .u64 (r6 : Int)) by rw [blk_cell HQB.out]; rfl)
             have tp0 := Grow.cells (show w10.cell? ⟨pa, 0, none⟩ = some (.int .i64 kd) by rw [blk_cell HP.out]; rfl)
             have tp1 := Grow.cells (show w10.cell? ⟨pa, 1, none⟩ = some (.slice B m d) by rw [blk_cell HP.out]; rfl)
             have tp2 := Grow.cells (show w10.cell? ⟨pa, 2, none⟩ = some (.int .u64 (nn : Int)) by rw [blk_cell HP.out]; rfl)
             have tp3 := Grow.cells (show w10.cell? ⟨pa, 3, none⟩ = some (.int .u64 (nw : Int)) by rw [blk_cell HP.out]; rfl)
             have tw0 := Grow.cells (show w10.cell? ⟨gw, 0, none⟩ = some (.slice A0 m0 d0) by rw [blk_cell HGW.out]; rfl)
             have tw1 := Grow.cells (show w10.cell? ⟨gw, 1, none⟩ = some (.int .u64 (s0.N : Int)) by rw [blk_cell HGW.out]; rfl)
             have tw2 := Grow.cells (show w10.cell? ⟨gw, 2, none⟩ = some (.slice A1 m1 d1) by rw [blk_cell HGW.out]; rfl)
             have tw3 := Grow.cells (show w10.cell? ⟨gw, 3, none⟩ = some (.int .u64 0) by rw [blk_cell HGW.out]; rfl)
             have tw4 := Grow.cells (show w10.cell? ⟨gw, 4, none⟩ = some (.int .u64 (st : Int)) by rw [blk_cell HGW.out]; rfl)
             have tw5 := Grow.cells (show w10.cell? ⟨gw, 5, none⟩ = some (.int .u64 (s0.sent : Int)) by rw [blk_cell HGW.out]; rfl)
             have tw6 := Grow.cells (show w10.cell? ⟨gw, 6, none⟩ = some (.slice s0.ca.A s0.ca.n s0.ca.c) by rw [blk_cell HGW.out]; rfl)
             have tw7 := Grow.cells (show w10.cell? ⟨gw, 7, none⟩ = some (.slice A1 m1 d1) by rw [blk_cell HGW.out]; rfl)
             have tw8 := Grow.cells (show w10.cell? ⟨gw, 8, none⟩ = some (.int .u64 (s1.N : Int)) by rw [blk_cell HGW.out]; rfl)
             have tw9 := Grow.cells (show w10.cell? ⟨gw, 9, none⟩ = some (.slice A0 m0 d0) by rw [blk_cell HGW.out]; rfl)
             have tw10 := Grow.cells (show w10.cell? ⟨gw, 10, none⟩ = some (.int .u64 0) by rw [blk_cell HGW.out]; rfl)
             have tw11 := Grow.cells (show w10.cell? ⟨gw, 11, none⟩ = some (.int .u64 (st : Int)) by rw [blk_cell HGW.out]; rfl)
             have tw12 := Grow.cells (show w10.cell? ⟨gw, 12, none⟩ = some (.int .u64 (s1.sent : Int)) by rw [blk_cell HGW.out]; rfl)
             have tw13 := Grow.cells (show w10.cell? ⟨gw, 13, none⟩ = some (.slice s1.ca.A s1.ca.n s1.ca.c) by rw [blk_cell HGW.out]; rfl)
             refine uq_pure Keeps.any (i := 0) (N := some 126) (v := ?_) (a' := ?_) (by kernel_rfl) (by kernel_rfl) rfl rfl (by rfl) (fun _ _ _ h => h) ?_ ?_ ?_
             rotate_left 2
             · intro w' hg; go_simp; with_reducible rfl
             · simp only [Act.put, List.setIfInBounds_toArray, List.set_cons_zero, List.set_cons_succ, i64_w, i32_w]; rfl
             refine uq_pure Keeps.any (i := 1) (N := some 127) (v := ?_) (a' := ?_) (by kernel_rfl) (by kernel_rfl) rfl rfl (by rfl) (fun _ _ _ h => h) ?_ ?_ ?_
             rotate_left 2
             · intro w' hg; go_simp; with_reducible rfl
             · simp only [Act.put, List.setIfInBounds_toArray, List.set_cons_zero, List.set_cons_succ, i64_w, i32_w]; rfl
             refine uq_pure Keeps.any (i := 2) (N := some 128) (v := ?_) (a' := ?_) (by kernel_rfl) (by kernel_rfl) rfl rfl (by rfl) (fun _ _ _ h => h) ?_ ?_ ?_
             rotate_left 2
             · intro w' hg; go_simp; with_reducible rfl
             · simp only [Act.put, List.setIfInBounds_toArray, List.set_cons_zero, List.set_cons_succ, i64_w, i32_w]; rfl
             refine uq_pure Keeps.any (i := 3) (N := some 129) (v := ?_) (a' := ?_) (by kernel_rfl) (by kernel_rfl) rfl rfl (by rfl) (fun _ _ _ h => h) ?_ ?_ ?_
             rotate_left 2
             · intro w' hg; go_simp; with_reducible rfl
             · simp only [Act.put, List.setIfInBounds_toArray, List.set_cons_zero, List.set_cons_succ, i64_w, i32_w]; rfl
             refine uq_pure Keeps.any (i := 4) (N := some 130) (v := ?_) (a' := ?_) (by kernel_rfl) (by kernel_rfl) rfl rfl (by rfl) (fun _ _ _ h => h) ?_ ?_ ?_
             rotate_left 2
             · intro w' hg; go_simp; with_reducible rfl
             · simp only [Act.put, List.setIfInBounds_toArray, List.set_cons_zero, List.set_cons_succ, i64_w, i32_w]; rfl
             refine uq_pure Keeps.any (i := 5) (N := some 131) (v := ?_) (a' := ?_) (by kernel_rfl) (by kernel_rfl) rfl rfl (by rfl) (fun _ _ _ h => h) ?_ ?_ ?_
             rotate_left 2
             · intro w' hg; go_simp; with_reducible rfl
             · simp only [Act.put, List.setIfInBounds_toArray, List.set_cons_zero, List.set_cons_succ, i64_w, i32_w]; rfl
             refine uq_pure Keeps.any (i := 6) (N := some 132) (v := ?_) (a' := ?_) (by kernel_rfl) (by kernel_rfl) rfl rfl (by rfl) (fun _ _ _ h => h) ?_ ?_ ?_
             rotate_left 2
             · intro w' hg; go_simp; with_reducible rfl
             · simp only [Act.put, List.setIfInBounds_toArray, List.set_cons_zero, List.set_cons_succ, i64_w, i32_w]; rfl
             refine uq_pure Keeps.any (i := 7) (N := some 133) (v := ?_) (a' := ?_) (by kernel_rfl) (by kernel_rfl) rfl rfl (by rfl) (fun _ _ _ h => h) ?_ ?_ ?_
             rotate_left 2
             · intro w' hg; go_simp; with_reducible rfl
             · simp only [Act.put, List.setIfInBounds_toArray, List.set_cons_zero, List.set_cons_succ, i64_w, i32_w]; rfl
             refine uq_two (i := 8) (j := 14) (by kernel_rfl) ?_ ?_
             · refine uq_call (R := fun _ _ => True) (i := 8) (N := some 134) rfl rfl Tryd.func23 (by kernel_rfl) rfl #[.agg #[.int .u64 (r0 : Int), .int .u64 (r1 : Int), .int .i64 r2, .int .u64 (r3 : Int), .int .u64 (r4 : Int), .int .u64 (r5 : Int), .int .u64 (r6 : Int)], .agg #[.slice A1 m1 d1, .int .u64 (s1.N : Int), .slice A0 m0 d0, .int .u64 0, .int .u64 (st : Int), .int .u64 (s1.sent : Int), .slice s1.ca.A s1.ca.n s1.ca.c], .slice B m d, .int .u64 (nw : Int)] (by rfl) rfl ?_ ?_
               · simp only [List.map_toArray, List.map_cons, List.map_nil]
                 rfl
               have hsz := HBW.out.size
               refine ((HRS w10 HBW.out).out).mono ?_
               rintro e w21 ⟨vt, rfl, hv, hb21⟩
               replace HN := hd (HN.out.below hb21)
               replace HX := hd (HX.out.below hb21)
               replace HS0 := hd (HS0.out.below hb21)
               replace HS1 := hd (HS1.out.below hb21)
               replace HA0 := hd (HA0.out.below hb21)
               replace HB0 := hd (HB0.out.below hb21)
               replace HA1 := hd (HA1.out.below hb21)
               replace HB1 := hd (HB1.out.below hb21)
               replace HGX := hd (blk_below HGX.out hb21)
               replace HQB := hd (blk_below HQB.out hb21)
               replace HGW := hd (blk_below HGW.out hb21)
               replace HC0 := hd (HC0.out.below hb21)
               replace HC1 := hd (HC1.out.below hb21)
               replace HBW := hd (below_seq HBW.out hb21)
               replace HP := hd (blk_below HP.out hb21)
               replace HVB := hd (HVB.out.below hb21)
               have hbx : Box W w21 (B, m, d) b := Box.old HBY.out (by have := HBL.out; omega)
               obtain ⟨Ay, ny, cy, rfl, hny, hby⟩ := out_box (w := w10) hv hbx HBW.out hsz HXF.out.2.1 (by have := HXF.out.2.2.1; have := HBL.out; omega)
               have HYB := hd hby
               have HNY := hd hny
               clear hv hbx hby hny hsz
               refine ⟨_, rfl, ⟨fun _ => hb21, trivial⟩, ?_⟩
               refine uq_norm (a' := ?_) ?_ ?_
               rotate_left
               · show Act.put _ (some 134) _ = _; simp only [Act.put, List.setIfInBounds_toArray, List.set_cons_zero, List.set_cons_succ, i64_w, i32_w]; rfl
               clear hb21
               refine uq_pure Keeps.any (i := 9) (N := some 125) (v := ?_) (a' := ?_) (by kernel_rfl) (by kernel_rfl) rfl rfl (by rfl) (fun _ _ _ h => h) ?_ ?_ ?_
               rotate_left 2
               · intro w' hg; go_simp; with_reducible rfl
               · simp only [Act.put, List.setIfInBounds_toArray, List.set_cons_zero, List.set_cons_succ, i64_w, i32_w]; rfl
               refine uq_pure Keeps.any (i := 10) (N := some 135) (v := ?_) (a' := ?_) (by kernel_rfl) (by kernel_rfl) rfl rfl (by rfl) (fun _ _ _ h => h) ?_ ?_ ?_
               rotate_left 2
               · intro w' hg; go_simp; with_reducible rfl
               · simp only [Act.put, List.setIfInBounds_toArray, List.set_cons_zero, List.set_cons_succ, i64_w, i32_w]; rfl
               refine uq_pure2 Keeps.any (i := 11) (N := some 136) (v := ?_) (a' := ?_) (by kernel_rfl) (by kernel_rfl) rfl rfl (by rfl) (fun _ _ _ h => h) ?_ ?_ ?_
               rotate_left 2
               · intro w' hg; go_simp; with_reducible rfl
               · simp only [Act.put, List.setIfInBounds_toArray, List.set_cons_zero, List.set_cons_succ, i64_w, i32_w]; rfl
               refine uq_pure2 Keeps.any (i := 12) (N := some 137) (v := ?_) (a' := ?_) (by kernel_rfl) (by kernel_rfl) rfl rfl (by rfl) (fun _ _ _ h => h) ?_ ?_ ?_
               rotate_left 2
               · intro w' hg; go_simp; with_reducible rfl
               · simp only [Act.put, List.setIfInBounds_toArray, List.set_cons_zero, List.set_cons_succ, i64_w, i32_w]; rfl
               refine uq_pure2 Keeps.any (i := 13) (N := some 138) (v := ?_) (a' := ?_) (by kernel_rfl) (by kernel_rfl) rfl rfl (by rfl) (fun _ _ _ h => h) ?_ ?_ ?_
               rotate_left 2
               · intro w' hg; go_simp; with_reducible rfl
               · simp only [Act.put, List.setIfInBounds_toArray, List.set_cons_zero, List.set_cons_succ, i64_w, i32_w]; rfl
               refine uq_one (i := 14) (by kernel_rfl) ?_
               refine uq_value (R := fun _ _ => True) (i := 14) (N := some 23) (v := .pointer (some ⟨w21.heap.size, 0, none⟩)) (a' := ?_) (w1 := w21.alloc (.cells #[.slice none 0 0, .int .u64 0, .slice none 0 0, .int .u64 0, .int .u64 0, .int .u64 0, .slice none 0 0] 50)) rfl rfl (by rfl) ?_ ⟨fun _ => below_alloc (Below.refl _ _) _, trivial⟩ ?_ ?_
               rotate_left
               · go_simp
               · simp only [Act.put, List.setIfInBounds_toArray, List.set_cons_zero, List.set_cons_succ, i64_w, i32_w]; rfl
               have hal22 := below_alloc (Below.refl w21.heap.size w21) (.cells #[.slice none 0 0, .int .u64 0, .slice none 0 0, .int .u64 0, .int .u64 0, .int .u64 0, .slice none 0 0] 50)
               have HNB := hd (blk_new w21 (.cells #[.slice none 0 0, .int .u64 0, .slice none 0 0, .int .u64 0, .int .u64 0, .int .u64 0, .slice none 0 0] 50))
               have hsz := HBW.out.size
               replace HN := hd (HN.out.below hal22)
               replace HX := hd (HX.out.below hal22)
               replace HS0 := hd (HS0.out.below hal22)
               replace HS1 := hd (HS1.out.below hal22)
               replace HA0 := hd (HA0.out.below hal22)
               replace HB0 := hd (HB0.out.below hal22)
               replace HA1 := hd (HA1.out.below hal22)
               replace HB1 := hd (HB1.out.below hal22)
               replace HGX := hd (blk_below HGX.out hal22)
               replace HQB := hd (blk_below HQB.out hal22)
               replace HGW := hd (blk_below HGW.out hal22)
               replace HC0 := hd (HC0.out.below hal22)
               replace HC1 := hd (HC1.out.below hal22)
               replace HBW := hd (below_seq HBW.out hal22)
               replace HP := hd (blk_below HP.out hal22)
               replace HVB := hd (HVB.out.below hal22)
               replace HYB := hd (HYB.out.mod (S := fun _ => False) (Mod.below hal22) (fun _ _ _ h => h))
               generalize w21.alloc (.cells #[.slice none 0 0, .int .u64 0, .slice none 0 0, .int .u64 0, .int .u64 0, .int .u64 0, .slice none 0 0] 50) = w22 at HN HX HS0 HS1 HA0 HB0 HA1 HB1 HGX HQB HGW HC0 HC1 HBW HP HVB HYB HNB hal22 ⊢
               obtain ⟨nb, hq22⟩ : ∃ q, Aside0 (w21.heap.size = q) := ⟨_, ⟨rfl⟩⟩
               have HNBL := hd (show W.heap.size ≤ nb by have := hq22.out; omega)
               clear hsz
               rw [hq22.out] at HNB ⊢
               clear hal22
               refine uq_one (i := 15) (by kernel_rfl) ?_
               refine uq_storeSt (R := fun _ _ => True) rfl rfl (by rfl) 50 _ _ rfl nb 0 #[.slice A1 m1 d1, .int .u64 (x.2.2.2.1 : Int), .slice A0 m0 d0, .int .u64 0, .int .u64 (st : Int), .int .u64 (x.2.2.2.2 : Int), .slice s1.ca.A s1.ca.n s1.ca.c] #[.slice none 0 0, .int .u64 0, .slice none 0 0, .int .u64 0, .int .u64 0, .int .u64 0, .slice none 0 0] _ rfl rfl _ HNB.out (by kernel_rfl) (by simp) (by simp [Value.oneCell']) rfl ?_
               intro wz hbz hmz
               refine ⟨⟨fun h => absurd (by decide) h, trivial⟩, ?_⟩
               refine uq_pure Keeps.any (i := 16) (N := some 24) (v := ?_) (a' := ?_) (by kernel_rfl) (by kernel_rfl) rfl rfl (by rfl) (fun _ _ _ h => h) ?_ ?_ ?_
               rotate_left 2
               · intro w' hg; go_simp; with_reducible rfl
               · simp only [Act.put, List.setIfInBounds_toArray, List.set_cons_zero, List.set_cons_succ, i64_w, i32_w]; rfl
               refine uq_pure Keeps.any (i := 17) (N := some 25) (v := ?_) (a' := ?_) (by kernel_rfl) (by kernel_rfl) rfl rfl (by rfl) (fun _ _ _ h => h) ?_ ?_ ?_
               rotate_left 2
               · intro w' hg; go_simp; with_reducible rfl
               · simp only [Act.put, List.setIfInBounds_toArray, List.set_cons_zero, List.set_cons_succ, i64_w, i32_w]; rfl
               refine uq_pure Keeps.any (i := 18) (N := some 26) (v := ?_) (a' := ?_) (by kernel_rfl) (by kernel_rfl) rfl rfl (by rfl) (fun _ _ _ h => h) ?_ ?_ ?_
               rotate_left 2
               · intro w' hg; go_simp; with_reducible rfl
               · simp only [Act.put, List.setIfInBounds_toArray, List.set_cons_zero, List.set_cons_succ, i64_w, i32_w]; rfl
               refine uq_end (by kernel_rfl) ?_
               go_wp2_with fail
               go_meet
               case rel =>
                have hap := Apart.one HNB.out (e := 5) (by decide)
                have hap64 := Apart.one HNB.out (e := 22) (by decide)
                replace HN := hd (HN.out.mod hmz hap64)
                replace HX := hd (HX.out.mod hmz hap (Apart.one HNB.out (by decide)))
                replace HS0 := hd (show SesAt _ g0 ⟨r0, r1, r2, r3, r4, r5, r6⟩ st (s0.sent) ka0 (s0.N) kb0 0 (s0.v) from hmz.block HS0.out (ne_types HS0.out HNB.out (by decide)))
                replace HS1 := hd (show SesAt _ g1 ⟨r0, r1, r2, r3, r4, r5, r6⟩ st (x.2.2.2.2) ka1 (x.2.2.2.1) kb1 0 (s1.v) from hmz.block HS1.out (ne_types HS1.out HNB.out (by decide)))
                replace HA0 := hd (HA0.out.mod hmz hap)
                replace HB0 := hd (HB0.out.mod hmz hap)
                replace HA1 := hd (HA1.out.mod hmz hap)
                replace HB1 := hd (HB1.out.mod hmz hap)
                replace HGX := hd (hmz.block HGX.out (ne_types HGX.out HNB.out (by decide)))
                replace HQB := hd (hmz.block HQB.out (ne_types HQB.out HNB.out (by decide)))
                replace HGW := hd (hmz.block HGW.out (ne_types HGW.out HNB.out (by decide)))
                replace HP := hd (hmz.block HP.out (ne_types HP.out HNB.out (by decide)))
                replace HC0 := hd (HC0.out.mod hmz hap64)
                replace HC1 := hd (HC1.out.mod hmz hap64)
                replace HBW := hd (HBW.out.trans (hmz.toBelow (fun k hk => by rw [hk]; exact HNBL.out) HBW.out.size))
                clear hap hap64
                exact ⟨nb, Ay, ny, cy, rfl, rfl, rfl, rfl, ⟨hbz⟩, ⟨HVB.out.mod hmz (Apart.one HNB.out (by decide))⟩, ⟨HYB.out.mod hmz (Apart.one HNB.out (by decide))⟩, HNY, HN, HX, HS0, HS1, HA0, HB0, HA1, HB1, HGX, HQB, HGW, HC0, HC1, HBW, HP⟩
             · refine uq_value (R := fun _ _ => True) (i := 14) (N := some 23) (v := .pointer (some ⟨w10.heap.size, 0, none⟩)) (a' := ?_) (w1 := w10.alloc (.cells #[.slice none 0 0, .int .u64 0, .slice none 0 0, .int .u64 0, .int .u64 0, .int .u64 0, .slice none 0 0] 50)) rfl rfl (by rfl) ?_ ⟨fun _ => below_alloc (Below.refl _ _) _, trivial⟩ ?_ ?_
               rotate_left
               · go_simp
               · simp only [Act.put, List.setIfInBounds_toArray, List.set_cons_zero, List.set_cons_succ, i64_w, i32_w]; rfl
               have hal21 := below_alloc (Below.refl w10.heap.size w10) (.cells #[.slice none 0 0, .int .u64 0, .slice none 0 0, .int .u64 0, .int .u64 0, .int .u64 0, .slice none 0 0] 50)
               have HNB := hd (blk_new w10 (.cells #[.slice none 0 0, .int .u64 0, .slice none 0 0, .int .u64 0, .int .u64 0, .int .u64 0, .slice none 0 0] 50))
               have hsz := HBW.out.size
               replace HN := hd (HN.out.below hal21)
               replace HX := hd (HX.out.below hal21)
               replace HS0 := hd (HS0.out.below hal21)
               replace HS1 := hd (HS1.out.below hal21)
               replace HA0 := hd (HA0.out.below hal21)
               replace HB0 := hd (HB0.out.below hal21)
               replace HA1 := hd (HA1.out.below hal21)
               replace HB1 := hd (HB1.out.below hal21)
               replace HGX := hd (blk_below HGX.out hal21)
               replace HQB := hd (blk_below HQB.out hal21)
               replace HGW := hd (blk_below HGW.out hal21)
               replace HC0 := hd (HC0.out.below hal21)
               replace HC1 := hd (HC1.out.below hal21)
               replace HBW := hd (below_seq HBW.out hal21)
               replace HP := hd (blk_below HP.out hal21)
               replace HVB := hd (HVB.out.below hal21)
               generalize w10.alloc (.cells #[.slice none 0 0, .int .u64 0, .slice none 0 0, .int .u64 0, .int .u64 0, .int .u64 0, .slice none 0 0] 50) = w21 at HN HX HS0 HS1 HA0 HB0 HA1 HB1 HGX HQB HGW HC0 HC1 HBW HP HVB HNB hal21 ⊢
               obtain ⟨nb, hq21⟩ : ∃ q, Aside0 (w10.heap.size = q) := ⟨_, ⟨rfl⟩⟩
               have HNBL := hd (show W.heap.size ≤ nb by have := hq21.out; omega)
               clear hsz
               rw [hq21.out] at HNB ⊢
               clear hal21
               refine uq_one (i := 8) (by kernel_rfl) ?_
               refine uq_call (R := fun _ _ => True) (i := 8) (N := some 134) rfl rfl Tryd.func23 (by kernel_rfl) rfl #[.agg #[.int .u64 (r0 : Int), .int .u64 (r1 : Int), .int .i64 r2, .int .u64 (r3 : Int), .int .u64 (r4 : Int), .int .u64 (r5 : Int), .int .u64 (r6 : Int)], .agg #[.slice A1 m1 d1, .int .u64 (s1.N : Int), .slice A0 m0 d0, .int .u64 0, .int .u64 (st : Int), .int .u64 (s1.sent : Int), .slice s1.ca.A s1.ca.n s1.ca.c], .slice B m d, .int .u64 (nw : Int)] (by rfl) rfl ?_ ?_
               · simp only [List.map_toArray, List.map_cons, List.map_nil]
                 rfl
               have hsz := HBW.out.size
               refine ((HRS w21 HBW.out).out).mono ?_
               rintro e w22 ⟨vt, rfl, hv, hb22⟩
               replace HN := hd (HN.out.below hb22)
               replace HX := hd (HX.out.below hb22)
               replace HS0 := hd (HS0.out.below hb22)
               replace HS1 := hd (HS1.out.below hb22)
               replace HA0 := hd (HA0.out.below hb22)
               replace HB0 := hd (HB0.out.below hb22)
               replace HA1 := hd (HA1.out.below hb22)
               replace HB1 := hd (HB1.out.below hb22)
               replace HGX := hd (blk_below HGX.out hb22)
               replace HQB := hd (blk_below HQB.out hb22)
               replace HGW := hd (blk_below HGW.out hb22)
               replace HC0 := hd (HC0.out.below hb22)
               replace HC1 := hd (HC1.out.below hb22)
               replace HBW := hd (below_seq HBW.out hb22)
               replace HP := hd (blk_below HP.out hb22)
               replace HVB := hd (HVB.out.below hb22)
               replace HNB := hd (blk_below HNB.out hb22)
               have hbx : Box W w22 (B, m, d) b := Box.old HBY.out (by have := HBL.out; omega)
               obtain ⟨Ay, ny, cy, rfl, hny, hby⟩ := out_box (w := w21) hv hbx HBW.out hsz HXF.out.2.1 (by have := HXF.out.2.2.1; have := HBL.out; omega)
               have HYB := hd hby
               have HNY := hd hny
               clear hv hbx hby hny hsz
               refine ⟨_, rfl, ⟨fun _ => hb22, trivial⟩, ?_⟩
               refine uq_norm (a' := ?_) ?_ ?_
               rotate_left
               · show Act.put _ (some 134) _ = _; simp only [Act.put, List.setIfInBounds_toArray, List.set_cons_zero, List.set_cons_succ, i64_w, i32_w]; rfl
               clear hb22
               refine uq_pure Keeps.any (i := 9) (N := some 125) (v := ?_) (a' := ?_) (by kernel_rfl) (by kernel_rfl) rfl rfl (by rfl) (fun _ _ _ h => h) ?_ ?_ ?_
               rotate_left 2
               · intro w' hg; go_simp; with_reducible rfl
               · simp only [Act.put, List.setIfInBounds_toArray, List.set_cons_zero, List.set_cons_succ, i64_w, i32_w]; rfl
               refine uq_pure Keeps.any (i := 10) (N := some 135) (v := ?_) (a' := ?_) (by kernel_rfl) (by kernel_rfl) rfl rfl (by rfl) (fun _ _ _ h => h) ?_ ?_ ?_
               rotate_left 2
               · intro w' hg; go_simp; with_reducible rfl
               · simp only [Act.put, List.setIfInBounds_toArray, List.set_cons_zero, List.set_cons_succ, i64_w, i32_w]; rfl
               refine uq_pure2 Keeps.any (i := 11) (N := some 136) (v := ?_) (a' := ?_) (by kernel_rfl) (by kernel_rfl) rfl rfl (by rfl) (fun _ _ _ h => h) ?_ ?_ ?_
               rotate_left 2
               · intro w' hg; go_simp; with_reducible rfl
               · simp only [Act.put, List.setIfInBounds_toArray, List.set_cons_zero, List.set_cons_succ, i64_w, i32_w]; rfl
               refine uq_pure2 Keeps.any (i := 12) (N := some 137) (v := ?_) (a' := ?_) (by kernel_rfl) (by kernel_rfl) rfl rfl (by rfl) (fun _ _ _ h => h) ?_ ?_ ?_
               rotate_left 2
               · intro w' hg; go_simp; with_reducible rfl
               · simp only [Act.put, List.setIfInBounds_toArray, List.set_cons_zero, List.set_cons_succ, i64_w, i32_w]; rfl
               refine uq_pure2 Keeps.any (i := 13) (N := some 138) (v := ?_) (a' := ?_) (by kernel_rfl) (by kernel_rfl) rfl rfl (by rfl) (fun _ _ _ h => h) ?_ ?_ ?_
               rotate_left 2
               · intro w' hg; go_simp; with_reducible rfl
               · simp only [Act.put, List.setIfInBounds_toArray, List.set_cons_zero, List.set_cons_succ, i64_w, i32_w]; rfl
               refine uq_one (i := 15) (by kernel_rfl) ?_
               refine uq_storeSt (R := fun _ _ => True) rfl rfl (by rfl) 50 _ _ rfl nb 0 #[.slice A1 m1 d1, .int .u64 (x.2.2.2.1 : Int), .slice A0 m0 d0, .int .u64 0, .int .u64 (st : Int), .int .u64 (x.2.2.2.2 : Int), .slice s1.ca.A s1.ca.n s1.ca.c] #[.slice none 0 0, .int .u64 0, .slice none 0 0, .int .u64 0, .int .u64 0, .int .u64 0, .slice none 0 0] _ rfl rfl _ HNB.out (by kernel_rfl) (by simp) (by simp [Value.oneCell']) rfl ?_
               intro wz hbz hmz
               refine ⟨⟨fun h => absurd (by decide) h, trivial⟩, ?_⟩
               refine uq_pure Keeps.any (i := 16) (N := some 24) (v := ?_) (a' := ?_) (by kernel_rfl) (by kernel_rfl) rfl rfl (by rfl) (fun _ _ _ h => h) ?_ ?_ ?_
               rotate_left 2
               · intro w' hg; go_simp; with_reducible rfl
               · simp only [Act.put, List.setIfInBounds_toArray, List.set_cons_zero, List.set_cons_succ, i64_w, i32_w]; rfl
               refine uq_pure Keeps.any (i := 17) (N := some 25) (v := ?_) (a' := ?_) (by kernel_rfl) (by kernel_rfl) rfl rfl (by rfl) (fun _ _ _ h => h) ?_ ?_ ?_
               rotate_left 2
               · intro w' hg; go_simp; with_reducible rfl
               · simp only [Act.put, List.setIfInBounds_toArray, List.set_cons_zero, List.set_cons_succ, i64_w, i32_w]; rfl
               refine uq_pure Keeps.any (i := 18) (N := some 26) (v := ?_) (a' := ?_) (by kernel_rfl) (by kernel_rfl) rfl rfl (by rfl) (fun _ _ _ h => h) ?_ ?_ ?_
               rotate_left 2
               · intro w' hg; go_simp; with_reducible rfl
               · simp only [Act.put, List.setIfInBounds_toArray, List.set_cons_zero, List.set_cons_succ, i64_w, i32_w]; rfl
               refine uq_end (by kernel_rfl) ?_
               go_wp2_with fail
               go_meet
               case rel =>
                have hap := Apart.one HNB.out (e := 5) (by decide)
                have hap64 := Apart.one HNB.out (e := 22) (by decide)
                replace HN := hd (HN.out.mod hmz hap64)
                replace HX := hd (HX.out.mod hmz hap (Apart.one HNB.out (by decide)))
                replace HS0 := hd (show SesAt _ g0 ⟨r0, r1, r2, r3, r4, r5, r6⟩ st (s0.sent) ka0 (s0.N) kb0 0 (s0.v) from hmz.block HS0.out (ne_types HS0.out HNB.out (by decide)))
                replace HS1 := hd (show SesAt _ g1 ⟨r0, r1, r2, r3, r4, r5, r6⟩ st (x.2.2.2.2) ka1 (x.2.2.2.1) kb1 0 (s1.v) from hmz.block HS1.out (ne_types HS1.out HNB.out (by decide)))
                replace HA0 := hd (HA0.out.mod hmz hap)
                replace HB0 := hd (HB0.out.mod hmz hap)
                replace HA1 := hd (HA1.out.mod hmz hap)
                replace HB1 := hd (HB1.out.mod hmz hap)
                replace HGX := hd (hmz.block HGX.out (ne_types HGX.out HNB.out (by decide)))
                replace HQB := hd (hmz.block HQB.out (ne_types HQB.out HNB.out (by decide)))
                replace HGW := hd (hmz.block HGW.out (ne_types HGW.out HNB.out (by decide)))
                replace HP := hd (hmz.block HP.out (ne_types HP.out HNB.out (by decide)))
                replace HC0 := hd (HC0.out.mod hmz hap64)
                replace HC1 := hd (HC1.out.mod hmz hap64)
                replace HBW := hd (HBW.out.trans (hmz.toBelow (fun k hk => by rw [hk]; exact HNBL.out) HBW.out.size))
                clear hap hap64
                exact ⟨nb, Ay, ny, cy, rfl, rfl, rfl, rfl, ⟨hbz⟩, ⟨HVB.out.mod hmz (Apart.one HNB.out (by decide))⟩, ⟨HYB.out.mod hmz (Apart.one HNB.out (by decide))⟩, HNY, HN, HX, HS0, HS1, HA0, HB0, HA1, HB1, HGX, HQB, HGW, HC0, HC1, HBW, HP⟩
           case rest =>
            obtain ⟨nb, Ay, ny, cy, rfl, rfl, rfl, rfl, HNB, HVB, HYB, HNY, HN, HX, HS0, HS1, HA0, HB0, HA1, HB1, HGX, HQB, HGW, HC0, HC1, HBW, HP⟩ := hcut
            as_aux_lemma =>
             have t0 : wc.cell? ⟨nb, 0, none⟩ = some (.slice A1 m1 d1) := by rw [blk_cell HNB.out]; rfl
             have t1 : wc.cell? ⟨nb, 1, none⟩ = some (.int .u64 (x.2.2.2.1 : Int)) := by rw [blk_cell HNB.out]; rfl
             have t2 : wc.cell? ⟨nb, 2, none⟩ = some (.slice A0 m0 d0) := by rw [blk_cell HNB.out]; rfl
             have t3 : wc.cell? ⟨nb, 3, none⟩ = some (.int .u64 0) := by rw [blk_cell HNB.out]; rfl
             have t4 : wc.cell? ⟨nb, 4, none⟩ = some (.int .u64 (st : Int)) := by rw [blk_cell HNB.out]; rfl
             have t5 : wc.cell? ⟨nb, 5, none⟩ = some (.int .u64 (x.2.2.2.2 : Int)) := by rw [blk_cell HNB.out]; rfl
             have t6 : wc.cell? ⟨nb, 6, none⟩ = some (.slice s1.ca.A s1.ca.n s1.ca.c) := by rw [blk_cell HNB.out]; rfl
             go_upto_region 22 with ((with_reducible refine gate_store (t := 50) (p := 141) rfl ?_); go_loud (refine op_storeSt rfl rfl 50 _ _ rfl gw 7 #[.slice A1 m1 d1, .int .u64 (x.2.2.2.1 : Int), .slice A0 m0 d0, .int .u64 0, .int .u64 (st : Int), .int .u64 (x.2.2.2.2 : Int), .slice s1.ca.A s1.ca.n s1.ca.c] (refW ⟨A0, m0, d0⟩ ⟨A1, m1, d1⟩ st s0 s1) (refW ⟨A0, m0, d0⟩ ⟨A1, m1, d1⟩ st s0 ⟨x.2.2.2.2, x.2.2.2.1, s1.v, s1.l, s1.ca⟩) rfl rfl _ HGW.out (by kernel_rfl) (by simp [refW]) (by simp [Value.oneCell']) rfl ?_); intro wz hbz hmz)
             clear t0 t1 t2 t3 t4 t5 t6
             have hap := Apart.one HGW.out (e := 5) (by decide)
             have hap64 := Apart.one HGW.out (e := 22) (by decide)
             replace HN := hd (HN.out.mod hmz hap64)
             replace HX := hd (HX.out.mod hmz hap (Apart.one HGW.out (by decide)))
             replace HS0 := hd (show SesAt _ g0 ⟨r0, r1, r2, r3, r4, r5, r6⟩ st (s0.sent) ka0 (s0.N) kb0 0 (s0.v) from hmz.block HS0.out (ne_types HS0.out HGW.out (by decide)))
             replace HS1 := hd (show SesAt _ g1 ⟨r0, r1, r2, r3, r4, r5, r6⟩ st (x.2.2.2.2) ka1 (x.2.2.2.1) kb1 0 (s1.v) from hmz.block HS1.out (ne_types HS1.out HGW.out (by decide)))
             replace HA0 := hd (HA0.out.mod hmz hap)
             replace HB0 := hd (HB0.out.mod hmz hap)
             replace HA1 := hd (HA1.out.mod hmz hap)
             replace HB1 := hd (HB1.out.mod hmz hap)
             replace HVB := hd (HVB.out.mod hmz hap)
             replace HYB := hd (HYB.out.mod hmz hap)
             replace HGX := hd (hmz.block HGX.out (ne_types HGX.out HGW.out (by decide)))
             replace HQB := hd (hmz.block HQB.out (ne_types HQB.out HGW.out (by decide)))
             replace HP := hd (hmz.block HP.out (ne_types HP.out HGW.out (by decide)))
             replace HC0 := hd (HC0.out.mod hmz hap64)
             replace HC1 := hd (HC1.out.mod hmz hap64)
             replace HBW := hd (HBW.out.trans (hmz.toBelow (fun k hk => by rw [hk]; exact HGWW.out) HBW.out.size))
             clear hap hap64
             replace HGW := hd hbz
             clear hbz hmz HNB HRS hx
             have s1' := (own_bytes HVB.out HXF.out.2.1).str (P := Tryd.prog) Tryd.underlying40 Tryd.underlying5 Tryd.underlying9
             have s2' := (HYB.out.bytes HBW.out).str (P := Tryd.prog) Tryd.underlying40 Tryd.underlying5 Tryd.underlying9
             go_upto_region 24 with (fail)
             clear s1' s2'
             have hsz := HBW.out.size
             have hkk : (nums.length + 1) * 8 ≤ 140737488355328 := by have := HI.out.2.2.2.1; have := HI2.out; omega
             go_upto_region 25 with ((with_reducible refine gate_dst (N := 160) rfl ?_); at_builtin; refine op_appendD (k := .u64) (w0 := W) 160 rfl W.heap.size 22 25 (.tmp 157) (.tmp 159) rfl rfl Tryd.underlying25 Tryd.infoU64 (by decide) u15 nums _ x.1 rfl rfl rfl HN.out HBW.out hsz hkk ?_; intro v4 w4 ho4 hb4 hg4 hat4)
             have hm4 : Mod (fun j => u15.ownBlock = some j) _ w4 := Mod.grown hg4 (fun k hk => hk)
             have HFAR := hd (FarN.grow (t0 := s0) (t1 := ⟨x.2.2.2.2, x.2.2.2.1, s1.v, s1.l, s1.ca⟩) HI.out.2.2.2.2.2.2 hat4 HC0.out HC1.out rfl rfl)
             replace HS0 := hd (show SesAt _ g0 ⟨r0, r1, r2, r3, r4, r5, r6⟩ st (s0.sent) ka0 (s0.N) kb0 0 (s0.v) from hm4.block HS0.out (R_not HN.out HS0.out (by decide)))
             replace HS1 := hd (show SesAt _ g1 ⟨r0, r1, r2, r3, r4, r5, r6⟩ st (x.2.2.2.2) ka1 (x.2.2.2.1) kb1 0 (s1.v) from hm4.block HS1.out (R_not HN.out HS1.out (by decide)))
             replace HA0 := hd (HA0.out.mod hm4 (R_apart HN.out (by decide)))
             replace HB0 := hd (HB0.out.mod hm4 (R_apart HN.out (by decide)))
             replace HA1 := hd (HA1.out.mod hm4 (R_apart HN.out (by decide)))
             replace HB1 := hd (HB1.out.mod hm4 (R_apart HN.out (by decide)))
             replace HYB := hd (HYB.out.mod hm4 (R_apart HN.out (by decide)))
             replace HGX := hd (hm4.block HGX.out (R_not HN.out HGX.out (by decide)))
             replace HQB := hd (hm4.block HQB.out (R_not HN.out HQB.out (by decide)))
             replace HGW := hd (hm4.block HGW.out (R_not HN.out HGW.out (by decide)))
             replace HP := hd (hm4.block HP.out (R_not HN.out HP.out (by decide)))
             replace HC0 := hd (OwnK.other HC0.out hg4 (fun j hj => (HI.out.2.2.2.2.2.2 j hj).1))
             replace HC1 := hd (OwnK.other HC1.out hg4 (fun j hj => (HI.out.2.2.2.2.2.2 j hj).2))
             replace HX := hd (HX.out.mod hm4 (R_apart HN.out (by decide)) (R_apart HN.out (by decide)))
             replace HN := hd ho4
             replace HBW := hd hb4
             clear hm4 hg4 ho4 hb4 hsz hkk hat4
             have hsz := HBW.out.size
             obtain ⟨ss, hss, hsl, hsb⟩ := HX.out
             have HSS := hd hss
             have HSL := hd (And.intro hsl hsb)
             have hsn : ss.length ≤ 2000000 := by have := HI.out.2.2.1; have := HI.out.2.2.2.1; have := HI2.out; omega
             clear hss hsl hsb
             go_wp2_with ((with_reducible refine gate_dst (N := 164) rfl ?_); at_builtin; refine op_appendS (w0 := W) 164 rfl W.heap.size (.tmp 161) (.tmp 163) rfl rfl u16 ss (Ay, ny, cy) rfl rfl HSS.out HBW.out hsz hsn ?_; intro v5 w5 hr5 hb5 hg5)
             have hm5 : Mod (fun j => u16.ownBlock = some j) w4 w5 := Mod.grown hg5 (fun k hk => hk)
             have hx5 := hd (BoxIn.snoc HSS.out HSL.out.1 HSL.out.2 HYB.out hr5 hg5)
             replace HS0 := hd (show SesAt _ g0 ⟨r0, r1, r2, r3, r4, r5, r6⟩ st (s0.sent) ka0 (s0.N) kb0 0 (s0.v) from hm5.block HS0.out (R_not HSS.out HS0.out (by decide)))
             replace HS1 := hd (show SesAt _ g1 ⟨r0, r1, r2, r3, r4, r5, r6⟩ st (x.2.2.2.2) ka1 (x.2.2.2.1) kb1 0 (s1.v) from hm5.block HS1.out (R_not HSS.out HS1.out (by decide)))
             replace HA0 := hd (HA0.out.mod hm5 (R_apart HSS.out (by decide)))
             replace HB0 := hd (HB0.out.mod hm5 (R_apart HSS.out (by decide)))
             replace HA1 := hd (HA1.out.mod hm5 (R_apart HSS.out (by decide)))
             replace HB1 := hd (HB1.out.mod hm5 (R_apart HSS.out (by decide)))
             replace HGX := hd (hm5.block HGX.out (R_not HSS.out HGX.out (by decide)))
             replace HQB := hd (hm5.block HQB.out (R_not HSS.out HQB.out (by decide)))
             replace HGW := hd (hm5.block HGW.out (R_not HSS.out HGW.out (by decide)))
             replace HP := hd (hm5.block HP.out (R_not HSS.out HP.out (by decide)))
             replace HC0 := hd (HC0.out.mod hm5 (R_apart HSS.out (by decide)))
             replace HC1 := hd (HC1.out.mod hm5 (R_apart HSS.out (by decide)))
             replace HN := hd (HN.out.mod hm5 (R_apart HSS.out (by decide)))
             replace HX := hx5
             replace HBW := hd hb5
             clear hm5 hg5 hr5 hb5 hsz hsn hx5
             go_meet
             case rel =>
              exact ⟨s0, ⟨x.2.2.2.2, x.2.2.2.1, s1.v, s1.l, s1.ca⟩, nums ++ [x.1], ls ++ [x.2.1], ⟨HI.out.1.mono (Nat.le_succ i), HI.out.2.1.seal HXF.out.2.2.2.1 HXF.out.2.2.2.2, by rw [List.length_append, List.length_append, HI.out.2.2.1]; rfl, by rw [List.length_append]; exact Nat.succ_le_succ HI.out.2.2.2.1, fun y hy => (by rcases List.mem_append.1 hy with hy | hy; exact HI.out.2.2.2.2.1 y hy; rw [List.mem_singleton.1 hy]; exact HXF.out.1), fun y hy => (by rcases List.mem_append.1 hy with hy | hy; exact HI.out.2.2.2.2.2.1 y hy; rw [List.mem_singleton.1 hy]; have := HXF.out.2.2.1; have := HBL.out; omega), HFAR.out⟩, HN, HX, HS0, HS1, HA0, HB0, HA1, HB1, HGX, HQB, HGW, HC0, HC1, HBW, HP⟩
        · have qz : (z2 == 0) = false := by simp; exact hz
          as_aux_lemma =>
           have c0 : w7.cell? ⟨pa, 0, none⟩ = some ((.int .i64 kd)) := by rw [blk_cell HP.out]; rfl
           have c1 : w7.cell? ⟨pa, 1, none⟩ = some ((.slice B m d)) := by rw [blk_cell HP.out]; rfl
           have c2 : w7.cell? ⟨pa, 2, none⟩ = some ((.int .u64 (nn : Int))) := by rw [blk_cell HP.out]; rfl
           have c3 : w7.cell? ⟨pa, 3, none⟩ = some ((.int .u64 (nw : Int))) := by rw [blk_cell HP.out]; rfl
           obtain ⟨Ax, cx, hu16, hcx⟩ := HX.out.form
           subst hu16
           obtain ⟨nl, hnl⟩ : ∃ nl, Aside0 (ls.length = nl) := ⟨_, ⟨rfl⟩⟩
           rw [hnl.out] at hcx HX ⊢
           go_upto_region 28 with (fail)
           go_cut [177] (fun u177 wz => ∃ cc : Bool, u177 = .bool cc ∧ w7 = wz ∧ Aside0 (cc = true → 0 < nl))
           case first =>
            as_aux_lemma =>
             by_cases hb0 : nl = 0
             · have qb : decide ((0 : Int) < (nl : Int)) = false := decide_eq_false (by omega)
               have qb' : decide (0 < nl) = false := decide_eq_false (by omega)
               clear hb0 hcx
               go_wp2
               go_meet
               case rel => exact ⟨false, by first | rfl | (simp; done), rfl, ⟨fun h => by cases h⟩⟩
             · have qb : decide ((0 : Int) < (nl : Int)) = true := decide_eq_true (by omega)
               have qb' : decide (0 < nl) = true := decide_eq_true (by omega)
               have HB0 := hd (show 0 < nl by omega)
               by_cases h4 : 0 < z4
               · have q4 : decide (0 < z4) = true := decide_eq_true h4
                 clear hb0 hcx h4
                 go_wp2
                 go_meet
                 case rel => exact ⟨true, by first | rfl | (simp; done), rfl, ⟨fun h => HB0.out⟩⟩
               · have q4 : decide (0 < z4) = false := decide_eq_false h4
                 clear hb0 hcx h4
                 go_wp2
                 go_meet
                 case rel => exact ⟨false, by first | rfl | (simp; done), rfl, ⟨fun h => by cases h⟩⟩
           case rest =>
           obtain ⟨cc, rfl, rfl, HCC⟩ := hcut
           go_upto_if 177 with (fail)
           go_cut [27, 28] (fun u27 u28 wz => ∃ (no : Nat) (Bo : Option Addr) (mo dd : Nat) (bo : List Nat), u27 = .int .u64 (no : Int) ∧ u28 = .slice Bo mo dd ∧ w7 = wz ∧ Aside0 (no < 2 ^ 64 ∧ mo ≤ 316) ∧ Aside0 (Box W wz (Bo, mo, dd) bo))
           case first =>
            as_aux_lemma =>
             cases cc
             · go_wp2
               go_meet
               case rel => exact ⟨nn, B, m, d, b, rfl, rfl, rfl, ⟨HNN.out, by have := HML.out; omega⟩, ⟨Box.old HBY.out (by have := HBL.out; omega)⟩⟩
             · have hlp := HCC.out rfl
               have hln : nl = nums.length := hnl.out.symm.trans HI.out.2.2.1
               obtain ⟨zq, hzq, hzl⟩ := and_mask_u64 (nn : Int) 16 (by decide)
               have hz1 : bits .and .u64 (nn : Int) 65535 = (zq : Int) := hzq
               have hz2 : IntKind.i64.wrap (zq : Int) = (zq : Int) := IntWalk.i64_in _ (by omega)
               have hp0 : (nl : Int) ≠ 0 := by omega
               have hp1 : decide ((nl : Int) = 0) = false := decide_eq_false hp0
               have hp2 : ((nl : Int) == 0) = false := by simp; omega
               obtain ⟨at_, hat⟩ : ∃ at_, at_ = zq % nl := ⟨_, rfl⟩
               have hlt : at_ < nl := by rw [hat]; exact Nat.mod_lt _ (by omega)
               have hz3 : Int.tmod (zq : Int) (nl : Int) = (at_ : Int) := by rw [hat]; exact (Int.ofNat_tmod zq nl).symm
               have hz4 : (zq : Int) % (nl : Int) = (at_ : Int) := by rw [hat]; exact (Int.natCast_emod zq nl).symm
               obtain ⟨gq, cq, Aq, mq, dq, hu16, hcell, hcq, hbox⟩ := HX.out.box_at HBW.out at_ (by rw [hnl.out]; exact hlt)
               injection hu16 with hu1 hu2 hu3
               subst hu1
               subst hu3
               rw [hnl.out] at hcq
               obtain ⟨gn, cn, hu15, _, _, hcn⟩ := HN.out.form (by omega)
               rw [← hln] at hu15 hcn
               subst hu15
               obtain ⟨no, HNO, hcn1, _⟩ := HN.out.cellx at_ hlt
               have hi1 : (at_ : Int) < nl := by omega
               have hi3 : (nl : Int) ≤ cx := by omega
               have hi4 : (nl : Int) ≤ cn := by omega
               have HBO := hd hbox
               have hmq : mq = (ls.getD at_ []).length := HBO.out.len HBW.out
               have HNO2 := hd (show no < 2 ^ 64 from by rw [← HNO.out]; exact HI.out.2.2.2.2.1 _ (by rw [List.getD_eq_getElem?_getD, List.getElem?_eq_getElem (by omega)]; exact List.getElem_mem _))
               have HMQ := hd (show mq ≤ 316 from by
                have h1 := HI.out.2.2.2.2.2.1 (ls.getD at_ []) (by rw [List.getD_eq_getElem?_getD, List.getElem?_eq_getElem (by rw [hnl.out]; exact hlt)]; exact List.getElem_mem _)
                omega)
               have hwat : IntKind.i64.wrap (at_ : Int) = (at_ : Int) := IntWalk.i64_in _ (by have := HI.out.2.2.2.1; have := HI2.out; omega)
               clear hat hbox hmq hzq hzl hlt hln hlp hu2 hcx
               go_wp2
               go_meet
               case rel => exact ⟨no, Aq, mq, dq, _, rfl, rfl, rfl, ⟨HNO2.out, HMQ.out⟩, HBO⟩
           case rest =>
            obtain ⟨no, Bo, mo, dd, bo, rfl, rfl, rfl, HNO, HOB⟩ := hcut
            clear hz4 c0 c1 c2 c3 hcx HCC
            obtain ⟨x, hx⟩ : ∃ x, Aside0 (openS ⟨r0, r1, r2, r3, r4, r5, r6⟩ st s1.v key0 no bo nw = x) := ⟨_, ⟨rfl⟩⟩
            have HXF := hd (openS_fin (r := ⟨r0, r1, r2, r3, r4, r5, r6⟩) (born := st) (no := no) (now := nw) (v := s1.v) (key := key0) HOB.out.1)
            rw [hx.out] at HXF
            go_upto_region 32 with (fail)
            refine upR_start Keeps.any [7] [(0, 1), (1, 1), (2, 1), (3, 1), (4, 1), (5, 1), (6, 1), (7, 0), (8, 1), (9, 1), (10, 1), (11, 1), (12, 1)] (by kernel_rfl) rfl (by kernel_rfl) (by kernel_rfl) ?_
            have hdr := below_drew (Below.refl w7.heap.size w7)
            replace HN := hd (HN.out.below hdr)
            replace HX := hd (HX.out.below hdr)
            replace HS0 := hd (HS0.out.below hdr)
            replace HS1 := hd (HS1.out.below hdr)
            replace HA0 := hd (HA0.out.below hdr)
            replace HB0 := hd (HB0.out.below hdr)
            replace HA1 := hd (HA1.out.below hdr)
            replace HB1 := hd (HB1.out.below hdr)
            replace HGX := hd (blk_below HGX.out hdr)
            replace HQB := hd (blk_below HQB.out hdr)
            replace HGW := hd (blk_below HGW.out hdr)
            replace HC0 := hd (HC0.out.below hdr)
            replace HC1 := hd (HC1.out.below hdr)
            replace HBW := hd (below_seq HBW.out hdr)
            replace HP := hd (blk_below HP.out hdr)
            replace HOB := hd (HOB.out.mod (S := fun _ => False) (Mod.below hdr) (fun _ _ _ h => h))
            generalize w7.drew = w8 at hdr HN HX HS0 HS1 HA0 HB0 HA1 HB1 HGX HQB HGW HC0 HC1 HBW HP HOB ⊢
            clear hdr
            have t0 := Grow.cells (show w8.cell? ⟨gx, 0, none⟩ = some (.pointer (some ⟨g0, 0, none⟩)) by rw [blk_cell HGX.out]; rfl)
            have t1 := Grow.cells (show w8.cell? ⟨gx, 1, none⟩ = some (.pointer (some ⟨g1, 0, none⟩)) by rw [blk_cell HGX.out]; rfl)
            have tp0 := Grow.cells (show w8.cell? ⟨pa, 0, none⟩ = some (.int .i64 kd) by rw [blk_cell HP.out]; rfl)
            have tp1 := Grow.cells (show w8.cell? ⟨pa, 1, none⟩ = some (.slice B m d) by rw [blk_cell HP.out]; rfl)
            have tp2 := Grow.cells (show w8.cell? ⟨pa, 2, none⟩ = some (.int .u64 (nn : Int)) by rw [blk_cell HP.out]; rfl)
            have tp3 := Grow.cells (show w8.cell? ⟨pa, 3, none⟩ = some (.int .u64 (nw : Int)) by rw [blk_cell HP.out]; rfl)
            have HSE := hd (sopen_calls (r := ⟨r0, r1, r2, r3, r4, r5, r6⟩) (now := nw) (n := no) HS1.out HI.out.2.1.2.2.2.1 (own_bytes HB1.out HK0.out.ok) HNO.out.1 (HOB.out.bytes HBW.out) (HPL.out.below HBW.out) (show mo ≤ 100000000 by have := HNO.out.2; omega) HNW.out)
            rw [hx.out] at HSE
            refine rseq_pure (i := 0) (N := some 194) (v := ?_) (a' := ?_) rfl rfl (by rfl) (fun _ _ _ h => h) ?_ ?_ ?_
            rotate_left 2
            · intro w' hg; go_simp; with_reducible rfl
            · simp only [Act.put, List.setIfInBounds_toArray, List.set_cons_zero, List.set_cons_succ, i64_w, i32_w]; rfl
            refine rseq_pure (i := 1) (N := some 195) (v := ?_) (a' := ?_) rfl rfl (by rfl) (fun _ _ _ h => h) ?_ ?_ ?_
            rotate_left 2
            · intro w' hg; go_simp; with_reducible rfl
            · simp only [Act.put, List.setIfInBounds_toArray, List.set_cons_zero, List.set_cons_succ, i64_w, i32_w]; rfl
            refine rseq_pure (i := 2) (N := some 196) (v := ?_) (a' := ?_) rfl rfl (by rfl) (fun _ _ _ h => h) ?_ ?_ ?_
            rotate_left 2
            · intro w' hg; go_simp; with_reducible rfl
            · simp only [Act.put, List.setIfInBounds_toArray, List.set_cons_zero, List.set_cons_succ, i64_w, i32_w]; rfl
            refine rseq_pure (i := 3) (N := some 197) (v := ?_) (a' := ?_) rfl rfl (by rfl) (fun _ _ _ h => h) ?_ ?_ ?_
            rotate_left 2
            · intro w' hg; go_simp; with_reducible rfl
            · simp only [Act.put, List.setIfInBounds_toArray, List.set_cons_zero, List.set_cons_succ, i64_w, i32_w]; rfl
            refine rseq_pure (i := 4) (N := some 198) (v := ?_) (a' := ?_) rfl rfl (by rfl) (fun _ _ _ h => h) ?_ ?_ ?_
            rotate_left 2
            · intro w' hg; go_simp; with_reducible rfl
            · simp only [Act.put, List.setIfInBounds_toArray, List.set_cons_zero, List.set_cons_succ, i64_w, i32_w]; rfl
            refine rseq_pure (i := 5) (N := some 199) (v := ?_) (a' := ?_) rfl rfl (by rfl) (fun _ _ _ h => h) ?_ ?_ ?_
            rotate_left 2
            · intro w' hg; go_simp; with_reducible rfl
            · simp only [Act.put, List.setIfInBounds_toArray, List.set_cons_zero, List.set_cons_succ, i64_w, i32_w]; rfl
            refine rseq_pure (i := 6) (N := some 200) (v := ?_) (a' := ?_) rfl rfl (by rfl) (fun _ _ _ h => h) ?_ ?_ ?_
            rotate_left 2
            · intro w' hg; go_simp; with_reducible rfl
            · simp only [Act.put, List.setIfInBounds_toArray, List.set_cons_zero, List.set_cons_succ, i64_w, i32_w]; rfl
            refine rseq_call (i := 7) (N := some 201) rfl rfl Tryd.func24 (by kernel_rfl) rfl #[.pointer (some ⟨g1, 0, none⟩), .int .u64 (no : Int), .slice Bo mo dd, .int .u64 (nw : Int)] (by rfl) rfl ?_ ?_
            · simp only [List.map_toArray, List.map_cons, List.map_nil]
              rfl
            refine HSE.out.mono ?_
            rintro e w9 ⟨vb, rfl, hob, hs2, hm2⟩
            have hsz := HBW.out.size
            obtain ⟨Ab, cb, rfl, hcb, _⟩ := hob.slice
            have hap := Apart.one HS1.out (e := 5) (by decide)
            have hap64 := Apart.one HS1.out (e := 22) (by decide)
            replace HN := hd (HN.out.mod hm2 hap64)
            replace HX := hd (HX.out.mod hm2 hap (Apart.one HS1.out (by decide)))
            replace HS0 := hd (show SesAt _ g0 ⟨r0, r1, r2, r3, r4, r5, r6⟩ st s0.sent ka0 s0.N kb0 0 s0.v from hm2.block HS0.out HGG.out.2.2.2)
            replace HA0 := hd (HA0.out.mod hm2 hap)
            replace HB0 := hd (HB0.out.mod hm2 hap)
            replace HA1 := hd (HA1.out.mod hm2 hap)
            replace HB1 := hd (HB1.out.mod hm2 hap)
            replace HOB := hd (HOB.out.mod hm2 hap)
            replace HGX := hd (hm2.block HGX.out (ne_types HGX.out HS1.out (by decide)))
            replace HQB := hd (hm2.block HQB.out (ne_types HQB.out HS1.out (by decide)))
            replace HGW := hd (hm2.block HGW.out (ne_types HGW.out HS1.out (by decide)))
            replace HP := hd (hm2.block HP.out (ne_types HP.out HS1.out (by decide)))
            replace HC0 := hd (HC0.out.mod hm2 hap64)
            replace HC1 := hd (HC1.out.mod hm2 hap64)
            replace HBW := hd (HBW.out.trans (hm2.toBelow (fun k hk => by rw [hk]; exact HGG.out.2.2.1) HBW.out.size))
            clear hap hap64
            have HVB := hd (hob.lower hsz)
            replace HS1 := hd hs2
            refine ⟨_, rfl, ⟨fun h => absurd (by decide) h, trivial⟩, ?_⟩
            clear hob hs2 hm2 HSE hsz hcb
            refine rseq_norm (a' := ?_) ?_ ?_
            rotate_left
            · show Act.put _ (some 201) _ = _; simp only [Act.put, List.setIfInBounds_toArray, List.set_cons_zero, List.set_cons_succ, i64_w, i32_w]; rfl
            refine rseq_pure (i := 8) (N := some 193) (v := ?_) (a' := ?_) rfl rfl (by rfl) (fun _ _ _ h => h) ?_ ?_ ?_
            rotate_left 2
            · intro w' hg; go_simp; with_reducible rfl
            · simp only [Act.put, List.setIfInBounds_toArray, List.set_cons_zero, List.set_cons_succ, i64_w, i32_w]; rfl
            refine rseq_pure (i := 9) (N := some 202) (v := ?_) (a' := ?_) rfl rfl (by rfl) (fun _ _ _ h => h) ?_ ?_ ?_
            rotate_left 2
            · intro w' hg; go_simp; with_reducible rfl
            · simp only [Act.put, List.setIfInBounds_toArray, List.set_cons_zero, List.set_cons_succ, i64_w, i32_w]; rfl
            refine rseq_pure (i := 10) (N := some 203) (v := ?_) (a' := ?_) rfl rfl (by rfl) (fun _ _ _ h => h) ?_ ?_ ?_
            rotate_left 2
            · intro w' hg; go_simp; with_reducible rfl
            · simp only [Act.put, List.setIfInBounds_toArray, List.set_cons_zero, List.set_cons_succ, i64_w, i32_w]; rfl
            refine rseq_pure (i := 11) (N := some 30) (v := ?_) (a' := ?_) rfl rfl (by rfl) (fun _ _ _ h => h) ?_ ?_ ?_
            rotate_left 2
            · intro w' hg; go_simp; with_reducible rfl
            · simp only [Act.put, List.setIfInBounds_toArray, List.set_cons_zero, List.set_cons_succ, i64_w, i32_w]; rfl
            refine rseq_pure (i := 12) (N := some 31) (v := ?_) (a' := ?_) rfl rfl (by rfl) (fun _ _ _ h => h) ?_ ?_ ?_
            rotate_left 2
            · intro w' hg; go_simp; with_reducible rfl
            · simp only [Act.put, List.setIfInBounds_toArray, List.set_cons_zero, List.set_cons_succ, i64_w, i32_w]; rfl
            refine rseq_done ?_
            go_upto_region 33 with (fail)
            clear t0 t1 tp0 tp1 tp2 tp3
            go_cut [32, 33, 34] (fun u32 u33 u34 wz => ∃ (nb : Nat) (Ay : Option Addr) (ny cy : Nat) (ca' : Sl) (l' : List Nat), u32 = .pointer (some ⟨nb, 0, none⟩) ∧ u33 = .slice Ay ny cy ∧ u34 = .int .i64 (x.2.1 : Int) ∧ Aside0 (wz.heap[nb]? = some (.cells #[.slice A1 m1 d1, .int .u64 (s1.N : Int), .slice A0 m0 d0, .int .u64 0, .int .u64 (st : Int), .int .u64 (s1.sent : Int), .slice ca'.A ca'.n ca'.c] 50 (0, 0))) ∧ Aside0 (OwnK .u8 5 W.heap.size wz (.slice Ab x.1.length cb) x.1) ∧ Aside0 (Box W wz (Ay, ny, cy) x.1) ∧ Aside0 (ny = x.1.length) ∧ Aside0 (Sst.ok ⟨s1.sent, s1.N, x.2.2, l', ca'⟩ (i + 1)) ∧ Aside0 (FarN u15 s0 ⟨s1.sent, s1.N, x.2.2, l', ca'⟩) ∧ Aside0 (OwnK .u64 22 W.heap.size wz u15 nums) ∧ Aside0 (BoxIn W wz (.slice Ax nl cx) ls) ∧ Aside0 (SesAt wz g0 ⟨r0, r1, r2, r3, r4, r5, r6⟩ st s0.sent ka0 s0.N kb0 0 s0.v) ∧ Aside0 (SesAt wz g1 ⟨r0, r1, r2, r3, r4, r5, r6⟩ st s1.sent ka1 s1.N kb1 0 x.2.2) ∧ Aside0 (OwnK .u8 5 W.heap.size wz ka0.v key0) ∧ Aside0 (OwnK .u8 5 W.heap.size wz kb0.v key1) ∧ Aside0 (OwnK .u8 5 W.heap.size wz ka1.v key1) ∧ Aside0 (OwnK .u8 5 W.heap.size wz kb1.v key0) ∧ Aside0 (wz.heap[gx]? = some (.cells #[.pointer (some ⟨g0, 0, none⟩), .pointer (some ⟨g1, 0, none⟩)] 47 (0, 0))) ∧ Aside0 (wz.heap[p]? = some (.cells #[.int .u64 (r0 : Int), .int .u64 (r1 : Int), .int .i64 r2, .int .u64 (r3 : Int), .int .u64 (r4 : Int), .int .u64 (r5 : Int), .int .u64 (r6 : Int)] 27 (0, 0))) ∧ Aside0 (wz.heap[gw]? = some (.cells (refW ⟨A0, m0, d0⟩ ⟨A1, m1, d1⟩ st s0 s1) 51 (0, 0))) ∧ Aside0 (OwnK .u64 22 W.heap.size wz s0.ca.v s0.l) ∧ Aside0 (OwnK .u64 22 W.heap.size wz ca'.v l') ∧ Aside0 (Below W.heap.size W wz) ∧ Aside0 (wz.heap[pa]? = some (.cells #[.int .i64 kd, .slice B m d, .int .u64 (nn : Int), .int .u64 (nw : Int)] 54 (0, 0))))
            case first =>
             as_aux_lemma =>
              refine uq_start (fun _ _ => True) [14] 17 rfl (by kernel_rfl) ?_
              have hdr := below_drew (Below.refl w9.heap.size w9)
              replace HN := hd (HN.out.below hdr)
              replace HX := hd (HX.out.below hdr)
              replace HS0 := hd (HS0.out.below hdr)
              replace HS1 := hd (HS1.out.below hdr)
              replace HA0 := hd (HA0.out.below hdr)
              replace HB0 := hd (HB0.out.below hdr)
              replace HA1 := hd (HA1.out.below hdr)
              replace HB1 := hd (HB1.out.below hdr)
              replace HGX := hd (blk_below HGX.out hdr)
              replace HQB := hd (blk_below HQB.out hdr)
              replace HGW := hd (blk_below HGW.out hdr)
              replace HC0 := hd (HC0.out.below hdr)
              replace HC1 := hd (HC1.out.below hdr)
              replace HBW := hd (below_seq HBW.out hdr)
              replace HP := hd (blk_below HP.out hdr)
              replace HOB := hd (HOB.out.mod (S := fun _ => False) (Mod.below hdr) (fun _ _ _ h => h))
              replace HVB := hd (HVB.out.below hdr)
              generalize w9.drew = w10 at hdr HN HX HS0 HS1 HA0 HB0 HA1 HB1 HGX HQB HGW HC0 HC1 HBW HP HOB HVB ⊢
              clear hdr
              have t0 := Grow.cells (show w10.cell? ⟨p, 0, none⟩ = some (.int .u64 (r0 : Int)) by rw [blk_cell HQB.out]; rfl)
              have t1 := Grow.cells (show w10.cell? ⟨p, 1, none⟩ = some (.int .u64 (r1 : Int)) by rw [blk_cell HQB.out]; rfl)
              have t2 := Grow.cells (show w10.cell? ⟨p, 2, none⟩ = some (.int .i64 r2) by rw [blk_cell HQB.out]; rfl)
              have t3 := Grow.cells (show w10.cell? ⟨p, 3, none⟩ = some (.int .u64 (r3 : Int)) by rw [blk_cell HQB.out]; rfl)
              have t4 := Grow.cells (show w10.cell? ⟨p, 4, none⟩ = some (.int .u64 (r4 : Int)) by rw [blk_cell HQB.out]; rfl)
              have t5 := Grow.cells (show w10.cell? ⟨p, 5, none⟩ = some (.int .u64 (r5 : Int)) by rw [blk_cell HQB.out]; rfl)
              have t6 := Grow.cells (show w10.cell? ⟨p, 6, none⟩ = some (.int .u64 (r6 : Int)) by rw [blk_cell HQB.out]; rfl)
              have tp0 := Grow.cells (show w10.cell? ⟨pa, 0, none⟩ = some (.int .i64 kd) by rw [blk_cell HP.out]; rfl)
              have tp1 := Grow.cells (show w10.cell? ⟨pa, 1, none⟩ = some (.slice B m d) by rw [blk_cell HP.out]; rfl)
              have tp2 := Grow.cells (show w10.cell? ⟨pa, 2, none⟩ = some (.int .u64 (nn : Int)) by rw [blk_cell HP.out]; rfl)
              have tp3 := Grow.cells (show w10.cell? ⟨pa, 3, none⟩ = some (.int .u64 (nw : Int)) by rw [blk_cell HP.out]; rfl)
              have tw0 := Grow.cells (show w10.cell? ⟨gw, 0, none⟩ = some (.slice A0 m0 d0) by rw [blk_cell HGW.out]; rfl)
              have tw1 := Grow.cells (show w10.cell? ⟨gw, 1, none⟩ = some (.int .u64 (s0.N : Int)) by rw [blk_cell HGW.out]; rfl)
              have tw2 := Grow.cells (show w10.cell? ⟨gw, 2, none⟩ = some (.slice A1 m1 d1) by rw [blk_cell HGW.out]; rfl)
              have tw3 := Grow.cells (show w10.cell? ⟨gw, 3, none⟩ = some (.int .u64 0) by rw [blk_cell HGW.out]; rfl)
              have tw4 := Grow.cells (show w10.cell? ⟨gw, 4, none⟩ = some (.int .u64 (st : Int)) by rw [blk_cell HGW.out]; rfl)
              have tw5 := Grow.cells (show w10.cell? ⟨gw, 5, none⟩ = some (.int .u64 (s0.sent : Int)) by rw [blk_cell HGW.out]; rfl)
              have tw6 := Grow.cells (show w10.cell? ⟨gw, 6, none⟩ = some (.slice s0.ca.A s0.ca.n s0.ca.c) by rw [blk_cell HGW.out]; rfl)
              have tw7 := Grow.cells (show w10.cell? ⟨gw, 7, none⟩ = some (.slice A1 m1 d1) by rw [blk_cell HGW.out]; rfl)
              have tw8 := Grow.cells (show w10.cell? ⟨gw, 8, none⟩ = some (.int .u64 (s1.N : Int)) by rw [blk_cell HGW.out]; rfl)
              have tw9 := Grow.cells (show w10.cell? ⟨gw, 9, none⟩ = some (.slice A0 m0 d0) by rw [blk_cell HGW.out]; rfl)
              have tw10 := Grow.cells (show w10.cell? ⟨gw, 10, none⟩ = some (.int .u64 0) by rw [blk_cell HGW.out]; rfl)
              have tw11 := Grow.cells (show w10.cell? ⟨gw, 11, none⟩ = some (.int .u64 (st : Int)) by rw [blk_cell HGW.out]; rfl)
              have tw12 := Grow.cells (show w10.cell? ⟨gw, 12, none⟩ = some (.int .u64 (s1.sent : Int)) by rw [blk_cell HGW.out]; rfl)
              have tw13 := Grow.cells (show w10.cell? ⟨gw, 13, none⟩ = some (.slice s1.ca.A s1.ca.n s1.ca.c) by rw [blk_cell HGW.out]; rfl)
              refine uq_pure Keeps.any (i := 0) (N := some 205) (v := ?_) (a' := ?_) (by kernel_rfl) (by kernel_rfl) rfl rfl (by rfl) (fun _ _ _ h => h) ?_ ?_ ?_
              rotate_left 2
              · intro w' hg; go_simp; with_reducible rfl
              · simp only [Act.put, List.setIfInBounds_toArray, List.set_cons_zero, List.set_cons_succ, i64_w, i32_w]; rfl
              refine uq_pure Keeps.any (i := 1) (N := some 206) (v := ?_) (a' := ?_) (by kernel_rfl) (by kernel_rfl) rfl rfl (by rfl) (fun _ _ _ h => h) ?_ ?_ ?_
              rotate_left 2
              · intro w' hg; go_simp; with_reducible rfl
              · simp only [Act.put, List.setIfInBounds_toArray, List.set_cons_zero, List.set_cons_succ, i64_w, i32_w]; rfl
              refine uq_pure Keeps.any (i := 2) (N := some 207) (v := ?_) (a' := ?_) (by kernel_rfl) (by kernel_rfl) rfl rfl (by rfl) (fun _ _ _ h => h) ?_ ?_ ?_
              rotate_left 2
              · intro w' hg; go_simp; with_reducible rfl
              · simp only [Act.put, List.setIfInBounds_toArray, List.set_cons_zero, List.set_cons_succ, i64_w, i32_w]; rfl
              refine uq_pure Keeps.any (i := 3) (N := some 208) (v := ?_) (a' := ?_) (by kernel_rfl) (by kernel_rfl) rfl rfl (by rfl) (fun _ _ _ h => h) ?_ ?_ ?_
              rotate_left 2
              · intro w' hg; go_simp; with_reducible rfl
              · simp only [Act.put, List.setIfInBounds_toArray, List.set_cons_zero, List.set_cons_succ, i64_w, i32_w]; rfl
              refine uq_pure Keeps.any (i := 4) (N := some 209) (v := ?_) (a' := ?_) (by kernel_rfl) (by kernel_rfl) rfl rfl (by rfl) (fun _ _ _ h => h) ?_ ?_ ?_
              rotate_left 2
              · intro w' hg; go_simp; with_reducible rfl
              · simp only [Act.put, List.setIfInBounds_toArray, List.set_cons_zero, List.set_cons_succ, i64_w, i32_w]; rfl
              refine uq_pure Keeps.any (i := 5) (N := some 210) (v := ?_) (a' := ?_) (by kernel_rfl) (by kernel_rfl) rfl rfl (by rfl) (fun _ _ _ h => h) ?_ ?_ ?_
              rotate_left 2
              · intro w' hg; go_simp; with_reducible rfl
              · simp only [Act.put, List.setIfInBounds_toArray, List.set_cons_zero, List.set_cons_succ, i64_w, i32_w]; rfl
              refine uq_pure Keeps.any (i := 6) (N := some 211) (v := ?_) (a' := ?_) (by kernel_rfl) (by kernel_rfl) rfl rfl (by rfl) (fun _ _ _ h => h) ?_ ?_ ?_
              rotate_left 2
              · intro w' hg; go_simp; with_reducible rfl
              · simp only [Act.put, List.setIfInBounds_toArray, List.set_cons_zero, List.set_cons_succ, i64_w, i32_w]; rfl
              refine uq_pure Keeps.any (i := 7) (N := some 212) (v := ?_) (a' := ?_) (by kernel_rfl) (by kernel_rfl) rfl rfl (by rfl) (fun _ _ _ h => h) ?_ ?_ ?_
              rotate_left 2
              · intro w' hg; go_simp; with_reducible rfl
              · simp only [Act.put, List.setIfInBounds_toArray, List.set_cons_zero, List.set_cons_succ, i64_w, i32_w]; rfl
              refine uq_two (i := 8) (j := 13) (by kernel_rfl) ?_ ?_
              · refine uq_call (R := fun _ _ => True) (i := 8) (N := some 213) rfl rfl Tryd.func25 (by kernel_rfl) rfl #[.agg #[.int .u64 (r0 : Int), .int .u64 (r1 : Int), .int .i64 r2, .int .u64 (r3 : Int), .int .u64 (r4 : Int), .int .u64 (r5 : Int), .int .u64 (r6 : Int)], .agg #[.slice A1 m1 d1, .int .u64 (s1.N : Int), .slice A0 m0 d0, .int .u64 0, .int .u64 (st : Int), .int .u64 (s1.sent : Int), .slice s1.ca.A s1.ca.n s1.ca.c], .int .u64 (no : Int), .slice Bo mo dd, .int .u64 (nw : Int)] (by rfl) rfl ?_ ?_
                · simp only [List.map_toArray, List.map_cons, List.map_nil]
                  rfl
                have hsz := HBW.out.size
                have hn0 := HN.out
                have hc0 := HC1.out.row
                have HRS := hd (refopen22_calls (r := ⟨r0, r1, r2, r3, r4, r5, r6⟩) (k1 := ⟨A1, m1, d1⟩) (k2 := ⟨A0, m0, d0⟩) (ca := s1.ca) (N1 := s1.N) (N2 := 0) (born := st) (sent := s1.sent) (now := nw) (n := no) HI.out.2.1.2.2.1 (NRow.own HC1.out HI.out.2.1.2.2.2.2.1) (by have := hc0.1; have := HI.out.2.1.2.2.2.2.2; have := HI2.out; omega) (HK0.out.below HBW.out) HNO.out.1 (HOB.out.bytes HBW.out) (show mo ≤ 10000 by have := HNO.out.2; omega) HNW.out)
                rw [hx.out] at HRS
                unfold R22OPost Rul.v refS at HRS
                dsimp only at HRS
                refine (HRS.out).mono ?_
                rintro e w21 ⟨vt, ca', rfl, hv, ho, hb21⟩
                replace HN := hd (HN.out.below hb21)
                replace HX := hd (HX.out.below hb21)
                replace HS0 := hd (HS0.out.below hb21)
                replace HS1 := hd (HS1.out.below hb21)
                replace HA0 := hd (HA0.out.below hb21)
                replace HB0 := hd (HB0.out.below hb21)
                replace HA1 := hd (HA1.out.below hb21)
                replace HB1 := hd (HB1.out.below hb21)
                replace HGX := hd (blk_below HGX.out hb21)
                replace HQB := hd (blk_below HQB.out hb21)
                replace HGW := hd (blk_below HGW.out hb21)
                replace HC0 := hd (HC0.out.below hb21)
                replace HC1 := hd (HC1.out.below hb21)
                replace HBW := hd (below_seq HBW.out hb21)
                replace HP := hd (blk_below HP.out hb21)
                replace HOB := hd (HOB.out.mod (S := fun _ => False) (Mod.below hb21) (fun _ _ _ h => h))
                replace HVB := hd (HVB.out.below hb21)
                obtain ⟨Ay, ny, cy, rfl, hny, hby⟩ := out_box (w := w10) hv HOB.out HBW.out hsz HXF.out.1 (by have := HXF.out.2; have := HOB.out.2.1; omega)
                have HYB := hd hby
                have HNY := hd hny
                obtain ⟨l', hto, htc, hta⟩ := Sst.opened HI.out.2.1 HNO.out.1 hsz ho HC1.out
                have HTO := hd hto
                have HFAR := hd (FarN.open1 (t0 := s0) (t1 := ⟨s1.sent, s1.N, x.2.2, l', ca'⟩) HI.out.2.2.2.2.2.2 hn0 hta rfl)
                replace HC1 := hd htc
                clear hv hby hny hsz hn0 hc0 HRS ho hto htc hta
                refine ⟨_, rfl, ⟨fun _ => hb21, trivial⟩, ?_⟩
                refine uq_norm (a' := ?_) ?_ ?_
                rotate_left
                · show Act.put _ (some 213) _ = _; simp only [Act.put, List.setIfInBounds_toArray, List.set_cons_zero, List.set_cons_succ, i64_w, i32_w]; rfl
                clear hb21
                refine uq_pure Keeps.any (i := 9) (N := some 204) (v := ?_) (a' := ?_) (by kernel_rfl) (by kernel_rfl) rfl rfl (by rfl) (fun _ _ _ h => h) ?_ ?_ ?_
                rotate_left 2
                · intro w' hg; go_simp; with_reducible rfl
                · simp only [Act.put, List.setIfInBounds_toArray, List.set_cons_zero, List.set_cons_succ, i64_w, i32_w]; rfl
                refine uq_pure Keeps.any (i := 10) (N := some 214) (v := ?_) (a' := ?_) (by kernel_rfl) (by kernel_rfl) rfl rfl (by rfl) (fun _ _ _ h => h) ?_ ?_ ?_
                rotate_left 2
                · intro w' hg; go_simp; with_reducible rfl
                · simp only [Act.put, List.setIfInBounds_toArray, List.set_cons_zero, List.set_cons_succ, i64_w, i32_w]; rfl
                refine uq_pure2 Keeps.any (i := 11) (N := some 215) (v := ?_) (a' := ?_) (by kernel_rfl) (by kernel_rfl) rfl rfl (by rfl) (fun _ _ _ h => h) ?_ ?_ ?_
                rotate_left 2
                · intro w' hg; go_simp; with_reducible rfl
                · simp only [Act.put, List.setIfInBounds_toArray, List.set_cons_zero, List.set_cons_succ, i64_w, i32_w]; rfl
                refine uq_pure2 Keeps.any (i := 12) (N := some 216) (v := ?_) (a' := ?_) (by kernel_rfl) (by kernel_rfl) rfl rfl (by rfl) (fun _ _ _ h => h) ?_ ?_ ?_
                rotate_left 2
                · intro w' hg; go_simp; with_reducible rfl
                · simp only [Act.put, List.setIfInBounds_toArray, List.set_cons_zero, List.set_cons_succ, i64_w, i32_w]; rfl
                refine uq_one (i := 13) (by kernel_rfl) ?_
                refine uq_value (R := fun _ _ => True) (i := 13) (N := some 32) (v := .pointer (some ⟨w21.heap.size, 0, none⟩)) (a' := ?_) (w1 := w21.alloc (.cells #[.slice none 0 0, .int .u64 0, .slice none 0 0, .int .u64 0, .int .u64 0, .int .u64 0, .slice none 0 0] 50)) rfl rfl (by rfl) ?_ ⟨fun _ => below_alloc (Below.refl _ _) _, trivial⟩ ?_ ?_
                rotate_left
                · go_simp
                · simp only [Act.put, List.setIfInBounds_toArray, List.set_cons_zero, List.set_cons_succ, i64_w, i32_w]; rfl
                have hal22 := below_alloc (Below.refl w21.heap.size w21) (.cells #[.slice none 0 0, .int .u64 0, .slice none 0 0, .int .u64 0, .int .u64 0, .int .u64 0, .slice none 0 0] 50)
                have HNB := hd (blk_new w21 (.cells #[.slice none 0 0, .int .u64 0, .slice none 0 0, .int .u64 0, .int .u64 0, .int .u64 0, .slice none 0 0] 50))
                have hsz := HBW.out.size
                replace HN := hd (HN.out.below hal22)
                replace HX := hd (HX.out.below hal22)
                replace HS0 := hd (HS0.out.below hal22)
                replace HS1 := hd (HS1.out.below hal22)
                replace HA0 := hd (HA0.out.below hal22)
                replace HB0 := hd (HB0.out.below hal22)
                replace HA1 := hd (HA1.out.below hal22)
                replace HB1 := hd (HB1.out.below hal22)
                replace HGX := hd (blk_below HGX.out hal22)
                replace HQB := hd (blk_below HQB.out hal22)
                replace HGW := hd (blk_below HGW.out hal22)
                replace HC0 := hd (HC0.out.below hal22)
                replace HC1 := hd (HC1.out.below hal22)
                replace HBW := hd (below_seq HBW.out hal22)
                replace HP := hd (blk_below HP.out hal22)
                replace HOB := hd (HOB.out.mod (S := fun _ => False) (Mod.below hal22) (fun _ _ _ h => h))
                replace HVB := hd (HVB.out.below hal22)
                replace HYB := hd (HYB.out.mod (S := fun _ => False) (Mod.below hal22) (fun _ _ _ h => h))
                generalize w21.alloc (.cells #[.slice none 0 0, .int .u64 0, .slice none 0 0, .int .u64 0, .int .u64 0, .int .u64 0, .slice none 0 0] 50) = w22 at HN HX HS0 HS1 HA0 HB0 HA1 HB1 HGX HQB HGW HC0 HC1 HBW HP HOB HVB HYB HNB hal22 ⊢
                obtain ⟨nb, hq22⟩ : ∃ q, Aside0 (w21.heap.size = q) := ⟨_, ⟨rfl⟩⟩
                have HNBL := hd (show W.heap.size ≤ nb by have := hq22.out; omega)
                clear hsz
                rw [hq22.out] at HNB ⊢
                clear hal22
                refine uq_one (i := 14) (by kernel_rfl) ?_
                refine uq_storeSt (R := fun _ _ => True) rfl rfl (by rfl) 50 _ _ rfl nb 0 #[.slice A1 m1 d1, .int .u64 (s1.N : Int), .slice A0 m0 d0, .int .u64 0, .int .u64 (st : Int), .int .u64 (s1.sent : Int), .slice ca'.A ca'.n ca'.c] #[.slice none 0 0, .int .u64 0, .slice none 0 0, .int .u64 0, .int .u64 0, .int .u64 0, .slice none 0 0] _ rfl rfl _ HNB.out (by kernel_rfl) (by simp) (by simp [Value.oneCell']) rfl ?_
                intro wz hbz hmz
                refine ⟨⟨fun h => absurd (by decide) h, trivial⟩, ?_⟩
                refine uq_pure Keeps.any (i := 15) (N := some 33) (v := ?_) (a' := ?_) (by kernel_rfl) (by kernel_rfl) rfl rfl (by rfl) (fun _ _ _ h => h) ?_ ?_ ?_
                rotate_left 2
                · intro w' hg; go_simp; with_reducible rfl
                · simp only [Act.put, List.setIfInBounds_toArray, List.set_cons_zero, List.set_cons_succ, i64_w, i32_w]; rfl
                refine uq_pure Keeps.any (i := 16) (N := some 34) (v := ?_) (a' := ?_) (by kernel_rfl) (by kernel_rfl) rfl rfl (by rfl) (fun _ _ _ h => h) ?_ ?_ ?_
                rotate_left 2
                · intro w' hg; go_simp; with_reducible rfl
                · simp only [Act.put, List.setIfInBounds_toArray, List.set_cons_zero, List.set_cons_succ, i64_w, i32_w]; rfl
                refine uq_end (by kernel_rfl) ?_
                go_wp2_with fail
                go_meet
                case rel =>
                 have hap := Apart.one HNB.out (e := 5) (by decide)
                 have hap64 := Apart.one HNB.out (e := 22) (by decide)
                 replace HN := hd (HN.out.mod hmz hap64)
                 replace HX := hd (HX.out.mod hmz hap (Apart.one HNB.out (by decide)))
                 replace HS0 := hd (show SesAt _ g0 ⟨r0, r1, r2, r3, r4, r5, r6⟩ st (s0.sent) ka0 (s0.N) kb0 0 (s0.v) from hmz.block HS0.out (ne_types HS0.out HNB.out (by decide)))
                 replace HS1 := hd (show SesAt _ g1 ⟨r0, r1, r2, r3, r4, r5, r6⟩ st (s1.sent) ka1 (s1.N) kb1 0 (x.2.2) from hmz.block HS1.out (ne_types HS1.out HNB.out (by decide)))
                 replace HA0 := hd (HA0.out.mod hmz hap)
                 replace HB0 := hd (HB0.out.mod hmz hap)
                 replace HA1 := hd (HA1.out.mod hmz hap)
                 replace HB1 := hd (HB1.out.mod hmz hap)
                 replace HGX := hd (hmz.block HGX.out (ne_types HGX.out HNB.out (by decide)))
                 replace HQB := hd (hmz.block HQB.out (ne_types HQB.out HNB.out (by decide)))
                 replace HGW := hd (hmz.block HGW.out (ne_types HGW.out HNB.out (by decide)))
                 replace HP := hd (hmz.block HP.out (ne_types HP.out HNB.out (by decide)))
                 replace HC0 := hd (HC0.out.mod hmz hap64)
                 replace HC1 := hd (HC1.out.mod hmz hap64)
                 replace HBW := hd (HBW.out.trans (hmz.toBelow (fun k hk => by rw [hk]; exact HNBL.out) HBW.out.size))
                 clear hap hap64
                 exact ⟨nb, Ay, ny, cy, ca', l', rfl, rfl, rfl, ⟨hbz⟩, ⟨HVB.out.mod hmz (Apart.one HNB.out (by decide))⟩, ⟨HYB.out.mod hmz (Apart.one HNB.out (by decide))⟩, HNY, HTO, HFAR, HN, HX, HS0, HS1, HA0, HB0, HA1, HB1, HGX, HQB, HGW, HC0, HC1, HBW, HP⟩
              · refine uq_value (R := fun _ _ => True) (i := 13) (N := some 32) (v := .pointer (some ⟨w10.heap.size, 0, none⟩)) (a' := ?_) (w1 := w10.alloc (.cells #[.slice none 0 0, .int .u64 0, .slice none 0 0, .int .u64 0, .int .u64 0, .int .u64 0, .slice none 0 0] 50)) rfl rfl (by rfl) ?_ ⟨fun _ => below_alloc (Below.refl _ _) _, trivial⟩ ?_ ?_
                rotate_left
                · go_simp
                · simp only [Act.put, List.setIfInBounds_toArray, List.set_cons_zero, List.set_cons_succ, i64_w, i32_w]; rfl
                have hal21 := below_alloc (Below.refl w10.heap.size w10) (.cells #[.slice none 0 0, .int .u64 0, .slice none 0 0, .int .u64 0, .int .u64 0, .int .u64 0, .slice none 0 0] 50)
                have HNB := hd (blk_new w10 (.cells #[.slice none 0 0, .int .u64 0, .slice none 0 0, .int .u64 0, .int .u64 0, .int .u64 0, .slice none 0 0] 50))
                have hsz := HBW.out.size
                replace HN := hd (HN.out.below hal21)
                replace HX := hd (HX.out.below hal21)
                replace HS0 := hd (HS0.out.below hal21)
                replace HS1 := hd (HS1.out.below hal21)
                replace HA0 := hd (HA0.out.below hal21)
                replace HB0 := hd (HB0.out.below hal21)
                replace HA1 := hd (HA1.out.below hal21)
                replace HB1 := hd (HB1.out.below hal21)
                replace HGX := hd (blk_below HGX.out hal21)
                replace HQB := hd (blk_below HQB.out hal21)
                replace HGW := hd (blk_below HGW.out hal21)
                replace HC0 := hd (HC0.out.below hal21)
                replace HC1 := hd (HC1.out.below hal21)
                replace HBW := hd (below_seq HBW.out hal21)
                replace HP := hd (blk_below HP.out hal21)
                replace HOB := hd (HOB.out.mod (S := fun _ => False) (Mod.below hal21) (fun _ _ _ h => h))
                replace HVB := hd (HVB.out.below hal21)
                generalize w10.alloc (.cells #[.slice none 0 0, .int .u64 0, .slice none 0 0, .int .u64 0, .int .u64 0, .int .u64 0, .slice none 0 0] 50) = w21 at HN HX HS0 HS1 HA0 HB0 HA1 HB1 HGX HQB HGW HC0 HC1 HBW HP HOB HVB HNB hal21 ⊢
                obtain ⟨nb, hq21⟩ : ∃ q, Aside0 (w10.heap.size = q) := ⟨_, ⟨rfl⟩⟩
                have HNBL := hd (show W.heap.size ≤ nb by have := hq21.out; omega)
                clear hsz
                rw [hq21.out] at HNB ⊢
                clear hal21
                refine uq_one (i := 8) (by kernel_rfl) ?_
                refine uq_call (R := fun _ _ => True) (i := 8) (N := some 213) rfl rfl Tryd.func25 (by kernel_rfl) rfl #[.agg #[.int .u64 (r0 : Int), .int .u64 (r1 : Int), .int .i64 r2, .int .u64 (r3 : Int), .int .u64 (r4 : Int), .int .u64 (r5 : Int), .int .u64 (r6 : Int)], .agg #[.slice A1 m1 d1, .int .u64 (s1.N : Int), .slice A0 m0 d0, .int .u64 0, .int .u64 (st : Int), .int .u64 (s1.sent : Int), .slice s1.ca.A s1.ca.n s1.ca.c], .int .u64 (no : Int), .slice Bo mo dd, .int .u64 (nw : Int)] (by rfl) rfl ?_ ?_
                · simp only [List.map_toArray, List.map_cons, List.map_nil]
                  rfl
                have hsz := HBW.out.size
                have hn0 := HN.out
                have hc0 := HC1.out.row
                have HRS := hd (refopen22_calls (r := ⟨r0, r1, r2, r3, r4, r5, r6⟩) (k1 := ⟨A1, m1, d1⟩) (k2 := ⟨A0, m0, d0⟩) (ca := s1.ca) (N1 := s1.N) (N2 := 0) (born := st) (sent := s1.sent) (now := nw) (n := no) HI.out.2.1.2.2.1 (NRow.own HC1.out HI.out.2.1.2.2.2.2.1) (by have := hc0.1; have := HI.out.2.1.2.2.2.2.2; have := HI2.out; omega) (HK0.out.below HBW.out) HNO.out.1 (HOB.out.bytes HBW.out) (show mo ≤ 10000 by have := HNO.out.2; omega) HNW.out)
                rw [hx.out] at HRS
                unfold R22OPost Rul.v refS at HRS
                dsimp only at HRS
                refine (HRS.out).mono ?_
                rintro e w22 ⟨vt, ca', rfl, hv, ho, hb22⟩
                replace HN := hd (HN.out.below hb22)
                replace HX := hd (HX.out.below hb22)
                replace HS0 := hd (HS0.out.below hb22)
                replace HS1 := hd (HS1.out.below hb22)
                replace HA0 := hd (HA0.out.below hb22)
                replace HB0 := hd (HB0.out.below hb22)
                replace HA1 := hd (HA1.out.below hb22)
                replace HB1 := hd (HB1.out.below hb22)
                replace HGX := hd (blk_below HGX.out hb22)
                replace HQB := hd (blk_below HQB.out hb22)
                replace HGW := hd (blk_below HGW.out hb22)
                replace HC0 := hd (HC0.out.below hb22)
                replace HC1 := hd (HC1.out.below hb22)
                replace HBW := hd (below_seq HBW.out hb22)
                replace HP := hd (blk_below HP.out hb22)
                replace HOB := hd (HOB.out.mod (S := fun _ => False) (Mod.below hb22) (fun _ _ _ h => h))
                replace HVB := hd (HVB.out.below hb22)
                replace HNB := hd (blk_below HNB.out hb22)
                obtain ⟨Ay, ny, cy, rfl, hny, hby⟩ := out_box (w := w21) hv HOB.out HBW.out hsz HXF.out.1 (by have := HXF.out.2; have := HOB.out.2.1; omega)
                have HYB := hd hby
                have HNY := hd hny
                obtain ⟨l', hto, htc, hta⟩ := Sst.opened HI.out.2.1 HNO.out.1 hsz ho HC1.out
                have HTO := hd hto
                have HFAR := hd (FarN.open1 (t0 := s0) (t1 := ⟨s1.sent, s1.N, x.2.2, l', ca'⟩) HI.out.2.2.2.2.2.2 hn0 hta rfl)
                replace HC1 := hd htc
                clear hv hby hny hsz hn0 hc0 HRS ho hto htc hta
                refine ⟨_, rfl, ⟨fun _ => hb22, trivial⟩, ?_⟩
                refine uq_norm (a' := ?_) ?_ ?_
                rotate_left
                · show Act.put _ (some 213) _ = _; simp only [Act.put, List.setIfInBounds_toArray, List.set_cons_zero, List.set_cons_succ, i64_w, i32_w]; rfl
                clear hb22
                refine uq_pure Keeps.any (i := 9) (N := some 204) (v := ?_) (a' := ?_) (by kernel_rfl) (by kernel_rfl) rfl rfl (by rfl) (fun _ _ _ h => h) ?_ ?_ ?_
                rotate_left 2
                · intro w' hg; go_simp; with_reducible rfl
                · simp only [Act.put, List.setIfInBounds_toArray, List.set_cons_zero, List.set_cons_succ, i64_w, i32_w]; rfl
                refine uq_pure Keeps.any (i := 10) (N := some 214) (v := ?_) (a' := ?_) (by kernel_rfl) (by kernel_rfl) rfl rfl (by rfl) (fun _ _ _ h => h) ?_ ?_ ?_
                rotate_left 2
                · intro w' hg; go_simp; with_reducible rfl
                · simp only [Act.put, List.setIfInBounds_toArray, List.set_cons_zero, List.set_cons_succ, i64_w, i32_w]; rfl
                refine uq_pure2 Keeps.any (i := 11) (N := some 215) (v := ?_) (a' := ?_) (by kernel_rfl) (by kernel_rfl) rfl rfl (by rfl) (fun _ _ _ h => h) ?_ ?_ ?_
                rotate_left 2
                · intro w' hg; go_simp; with_reducible rfl
                · simp only [Act.put, List.setIfInBounds_toArray, List.set_cons_zero, List.set_cons_succ, i64_w, i32_w]; rfl
                refine uq_pure2 Keeps.any (i := 12) (N := some 216) (v := ?_) (a' := ?_) (by kernel_rfl) (by kernel_rfl) rfl rfl (by rfl) (fun _ _ _ h => h) ?_ ?_ ?_
                rotate_left 2
                · intro w' hg; go_simp; with_reducible rfl
                · simp only [Act.put, List.setIfInBounds_toArray, List.set_cons_zero, List.set_cons_succ, i64_w, i32_w]; rfl
                refine uq_one (i := 14) (by kernel_rfl) ?_
                refine uq_storeSt (R := fun _ _ => True) rfl rfl (by rfl) 50 _ _ rfl nb 0 #[.slice A1 m1 d1, .int .u64 (s1.N : Int), .slice A0 m0 d0, .int .u64 0, .int .u64 (st : Int), .int .u64 (s1.sent : Int), .slice ca'.A ca'.n ca'.c] #[.slice none 0 0, .int .u64 0, .slice none 0 0, .int .u64 0, .int .u64 0, .int .u64 0, .slice none 0 0] _ rfl rfl _ HNB.out (by kernel_rfl) (by simp) (by simp [Value.oneCell']) rfl ?_
                intro wz hbz hmz
                refine ⟨⟨fun h => absurd (by decide) h, trivial⟩, ?_⟩
                refine uq_pure Keeps.any (i := 15) (N := some 33) (v := ?_) (a' := ?_) (by kernel_rfl) (by kernel_rfl) rfl rfl (by rfl) (fun _ _ _ h => h) ?_ ?_ ?_
                rotate_left 2
                · intro w' hg; go_simp; with_reducible rfl
                · simp only [Act.put, List.setIfInBounds_toArray, List.set_cons_zero, List.set_cons_succ, i64_w, i32_w]; rfl
                refine uq_pure Keeps.any (i := 16) (N := some 34) (v := ?_) (a' := ?_) (by kernel_rfl) (by kernel_rfl) rfl rfl (by rfl) (fun _ _ _ h => h) ?_ ?_ ?_
                rotate_left 2
                · intro w' hg; go_simp; with_reducible rfl
                · simp only [Act.put, List.setIfInBounds_toArray, List.set_cons_zero, List.set_cons_succ, i64_w, i32_w]; rfl
                refine uq_end (by kernel_rfl) ?_
                go_wp2_with fail
                go_meet
                case rel =>
                 have hap := Apart.one HNB.out (e := 5) (by decide)
                 have hap64 := Apart.one HNB.out (e := 22) (by decide)
                 replace HN := hd (HN.out.mod hmz hap64)
                 replace HX := hd (HX.out.mod hmz hap (Apart.one HNB.out (by decide)))
                 replace HS0 := hd (show SesAt _ g0 ⟨r0, r1, r2, r3, r4, r5, r6⟩ st (s0.sent) ka0 (s0.N) kb0 0 (s0.v) from hmz.block HS0.out (ne_types HS0.out HNB.out (by decide)))
                 replace HS1 := hd (show SesAt _ g1 ⟨r0, r1, r2, r3, r4, r5, r6⟩ st (s1.sent) ka1 (s1.N) kb1 0 (x.2.2) from hmz.block HS1.out (ne_types HS1.out HNB.out (by decide)))
                 replace HA0 := hd (HA0.out.mod hmz hap)
                 replace HB0 := hd (HB0.out.mod hmz hap)
                 replace HA1 := hd (HA1.out.mod hmz hap)
                 replace HB1 := hd (HB1.out.mod hmz hap)
                 replace HGX := hd (hmz.block HGX.out (ne_types HGX.out HNB.out (by decide)))
                 replace HQB := hd (hmz.block HQB.out (ne_types HQB.out HNB.out (by decide)))
                 replace HGW := hd (hmz.block HGW.out (ne_types HGW.out HNB.out (by decide)))
                 replace HP := hd (hmz.block HP.out (ne_types HP.out HNB.out (by decide)))
                 replace HC0 := hd (HC0.out.mod hmz hap64)
                 replace HC1 := hd (HC1.out.mod hmz hap64)
                 replace HBW := hd (HBW.out.trans (hmz.toBelow (fun k hk => by rw [hk]; exact HNBL.out) HBW.out.size))
                 clear hap hap64
                 exact ⟨nb, Ay, ny, cy, ca', l', rfl, rfl, rfl, ⟨hbz⟩, ⟨HVB.out.mod hmz (Apart.one HNB.out (by decide))⟩, ⟨HYB.out.mod hmz (Apart.one HNB.out (by decide))⟩, HNY, HTO, HFAR, HN, HX, HS0, HS1, HA0, HB0, HA1, HB1, HGX, HQB, HGW, HC0, HC1, HBW, HP⟩
            case rest =>
             obtain ⟨nb, Ay, ny, cy, ca', l', rfl, rfl, rfl, HNB, HVB, HYB, HNY, HTO, HFAR, HN, HX, HS0, HS1, HA0, HB0, HA1, HB1, HGX, HQB, HGW, HC0, HC1, HBW, HP⟩ := hcut
             as_aux_lemma =>
              have t0 : wc.cell? ⟨nb, 0, none⟩ = some (.slice A1 m1 d1) := by rw [blk_cell HNB.out]; rfl
              have t1 : wc.cell? ⟨nb, 1, none⟩ = some (.int .u64 (s1.N : Int)) := by rw [blk_cell HNB.out]; rfl
              have t2 : wc.cell? ⟨nb, 2, none⟩ = some (.slice A0 m0 d0) := by rw [blk_cell HNB.out]; rfl
              have t3 : wc.cell? ⟨nb, 3, none⟩ = some (.int .u64 0) := by rw [blk_cell HNB.out]; rfl
              have t4 : wc.cell? ⟨nb, 4, none⟩ = some (.int .u64 (st : Int)) := by rw [blk_cell HNB.out]; rfl
              have t5 : wc.cell? ⟨nb, 5, none⟩ = some (.int .u64 (s1.sent : Int)) := by rw [blk_cell HNB.out]; rfl
              have t6 : wc.cell? ⟨nb, 6, none⟩ = some (.slice ca'.A ca'.n ca'.c) := by rw [blk_cell HNB.out]; rfl
              go_upto_region 35 with ((with_reducible refine gate_store (t := 50) (p := 219) rfl ?_); go_loud (refine op_storeSt rfl rfl 50 _ _ rfl gw 7 #[.slice A1 m1 d1, .int .u64 (s1.N : Int), .slice A0 m0 d0, .int .u64 0, .int .u64 (st : Int), .int .u64 (s1.sent : Int), .slice ca'.A ca'.n ca'.c] (refW ⟨A0, m0, d0⟩ ⟨A1, m1, d1⟩ st s0 s1) (refW ⟨A0, m0, d0⟩ ⟨A1, m1, d1⟩ st s0 ⟨s1.sent, s1.N, x.2.2, l', ca'⟩) rfl rfl _ HGW.out (by kernel_rfl) (by simp [refW]) (by simp [Value.oneCell']) rfl ?_); intro wz hbz hmz)
              clear t0 t1 t2 t3 t4 t5 t6
              have hap := Apart.one HGW.out (e := 5) (by decide)
              have hap64 := Apart.one HGW.out (e := 22) (by decide)
              replace HN := hd (HN.out.mod hmz hap64)
              replace HX := hd (HX.out.mod hmz hap (Apart.one HGW.out (by decide)))
              replace HS0 := hd (show SesAt _ g0 ⟨r0, r1, r2, r3, r4, r5, r6⟩ st (s0.sent) ka0 (s0.N) kb0 0 (s0.v) from hmz.block HS0.out (ne_types HS0.out HGW.out (by decide)))
              replace HS1 := hd (show SesAt _ g1 ⟨r0, r1, r2, r3, r4, r5, r6⟩ st (s1.sent) ka1 (s1.N) kb1 0 (x.2.2) from hmz.block HS1.out (ne_types HS1.out HGW.out (by decide)))
              replace HA0 := hd (HA0.out.mod hmz hap)
              replace HB0 := hd (HB0.out.mod hmz hap)
              replace HA1 := hd (HA1.out.mod hmz hap)
              replace HB1 := hd (HB1.out.mod hmz hap)
              replace HVB := hd (HVB.out.mod hmz hap)
              replace HYB := hd (HYB.out.mod hmz hap)
              replace HGX := hd (hmz.block HGX.out (ne_types HGX.out HGW.out (by decide)))
              replace HQB := hd (hmz.block HQB.out (ne_types HQB.out HGW.out (by decide)))
              replace HP := hd (hmz.block HP.out (ne_types HP.out HGW.out (by decide)))
              replace HC0 := hd (HC0.out.mod hmz hap64)
              replace HC1 := hd (HC1.out.mod hmz hap64)
              replace HBW := hd (HBW.out.trans (hmz.toBelow (fun k hk => by rw [hk]; exact HGWW.out) HBW.out.size))
              clear hap hap64
              replace HGW := hd hbz
              clear hbz hmz HNB hx
              have s1' := (own_bytes HVB.out HXF.out.1).str (P := Tryd.prog) Tryd.underlying40 Tryd.underlying5 Tryd.underlying9
              have s2' := (HYB.out.bytes HBW.out).str (P := Tryd.prog) Tryd.underlying40 Tryd.underlying5 Tryd.underlying9
              go_wp2
              go_meet
              case rel =>
               exact ⟨s0, ⟨s1.sent, s1.N, x.2.2, l', ca'⟩, nums, ls, ⟨HI.out.1.mono (Nat.le_succ i), HTO.out, HI.out.2.2.1, Nat.le_succ_of_le HI.out.2.2.2.1, HI.out.2.2.2.2.1, HI.out.2.2.2.2.2.1, HFAR.out⟩, HN, HX, HS0, HS1, HA0, HB0, HA1, HB1, HGX, HQB, HGW, HC0, HC1, HBW, HP⟩
       case rest =>
        obtain ⟨s0, s1, nums, ls, HI, HN, HX, HS0, HS1, HA0, HB0, HA1, HB1, HGX, HQB, HGW, HC0, HC1, HBW, HP⟩ := hcut
        as_aux_lemma =>
         go_upto_region 37 with (fail)
         refine up_start [] [(0, true), (1, true), (2, true), (4, true), (5, true), (6, true), (7, true), (3, false), (8, true), (9, true), (10, true), (11, true), (12, true), (13, true), (14, true), (16, true), (17, true), (18, true), (19, true), (20, true), (21, true), (15, false), (22, false), (23, true), (24, true), (25, true), (26, true), (27, true), (28, true), (29, true), (30, true), (32, true), (33, true), (34, true), (35, true), (36, true), (37, true), (31, false), (38, false), (39, true), (40, true)] (by kernel_rfl) rfl (by kernel_rfl) (by kernel_rfl) ?_
         have hdr := below_drew (Below.refl wc.heap.size wc)
         replace HN := hd (HN.out.below hdr)
         replace HX := hd (HX.out.below hdr)
         replace HS0 := hd (HS0.out.below hdr)
         replace HS1 := hd (HS1.out.below hdr)
         replace HA0 := hd (HA0.out.below hdr)
         replace HB0 := hd (HB0.out.below hdr)
         replace HA1 := hd (HA1.out.below hdr)
         replace HB1 := hd (HB1.out.below hdr)
         replace HGX := hd (blk_below HGX.out hdr)
         replace HQB := hd (blk_below HQB.out hdr)
         replace HGW := hd (blk_below HGW.out hdr)
         replace HC0 := hd (HC0.out.below hdr)
         replace HC1 := hd (HC1.out.below hdr)
         replace HBW := hd (below_seq HBW.out hdr)
         replace HP := hd (blk_below HP.out hdr)
         generalize wc.drew = w8 at hdr HN HX HS0 HS1 HA0 HB0 HA1 HB1 HGX HQB HGW HC0 HC1 HBW HP ⊢
         clear hdr
         have t0 := Grow.cells (show w8.cell? ⟨gx, 0, none⟩ = some (.pointer (some ⟨g0, 0, none⟩)) by rw [blk_cell HGX.out]; rfl)
         have t1 := Grow.cells (show w8.cell? ⟨gx, 1, none⟩ = some (.pointer (some ⟨g1, 0, none⟩)) by rw [blk_cell HGX.out]; rfl)
         have tp0 := Grow.cells (show w8.cell? ⟨pa, 0, none⟩ = some (.int .i64 kd) by rw [blk_cell HP.out]; rfl)
         have tp1 := Grow.cells (show w8.cell? ⟨pa, 1, none⟩ = some (.slice B m d) by rw [blk_cell HP.out]; rfl)
         have tp2 := Grow.cells (show w8.cell? ⟨pa, 2, none⟩ = some (.int .u64 (nn : Int)) by rw [blk_cell HP.out]; rfl)
         have tp3 := Grow.cells (show w8.cell? ⟨pa, 3, none⟩ = some (.int .u64 (nw : Int)) by rw [blk_cell HP.out]; rfl)
         have tw0 := Grow.cells (show w8.cell? ⟨gw, 0, none⟩ = some (.slice A0 m0 d0) by rw [blk_cell HGW.out]; rfl)
         have tw1 := Grow.cells (show w8.cell? ⟨gw, 1, none⟩ = some (.int .u64 (s0.N : Int)) by rw [blk_cell HGW.out]; rfl)
         have tw2 := Grow.cells (show w8.cell? ⟨gw, 2, none⟩ = some (.slice A1 m1 d1) by rw [blk_cell HGW.out]; rfl)
         have tw3 := Grow.cells (show w8.cell? ⟨gw, 3, none⟩ = some (.int .u64 0) by rw [blk_cell HGW.out]; rfl)
         have tw4 := Grow.cells (show w8.cell? ⟨gw, 4, none⟩ = some (.int .u64 (st : Int)) by rw [blk_cell HGW.out]; rfl)
         have tw5 := Grow.cells (show w8.cell? ⟨gw, 5, none⟩ = some (.int .u64 (s0.sent : Int)) by rw [blk_cell HGW.out]; rfl)
         have tw6 := Grow.cells (show w8.cell? ⟨gw, 6, none⟩ = some (.slice s0.ca.A s0.ca.n s0.ca.c) by rw [blk_cell HGW.out]; rfl)
         have tw7 := Grow.cells (show w8.cell? ⟨gw, 7, none⟩ = some (.slice A1 m1 d1) by rw [blk_cell HGW.out]; rfl)
         have tw8 := Grow.cells (show w8.cell? ⟨gw, 8, none⟩ = some (.int .u64 (s1.N : Int)) by rw [blk_cell HGW.out]; rfl)
         have tw9 := Grow.cells (show w8.cell? ⟨gw, 9, none⟩ = some (.slice A0 m0 d0) by rw [blk_cell HGW.out]; rfl)
         have tw10 := Grow.cells (show w8.cell? ⟨gw, 10, none⟩ = some (.int .u64 0) by rw [blk_cell HGW.out]; rfl)
         have tw11 := Grow.cells (show w8.cell? ⟨gw, 11, none⟩ = some (.int .u64 (st : Int)) by rw [blk_cell HGW.out]; rfl)
         have tw12 := Grow.cells (show w8.cell? ⟨gw, 12, none⟩ = some (.int .u64 (s1.sent : Int)) by rw [blk_cell HGW.out]; rfl)
         have tw13 := Grow.cells (show w8.cell? ⟨gw, 13, none⟩ = some (.slice s1.ca.A s1.ca.n s1.ca.c) by rw [blk_cell HGW.out]; rfl)
         have tq0 := Grow.cells (show w8.cell? ⟨p, 0, none⟩ = some (.int .u64 (r0 : Int)) by rw [blk_cell HQB.out]; rfl)
         have tq1 := Grow.cells (show w8.cell? ⟨p, 1, none⟩ = some (.int .u64 (r1 : Int)) by rw [blk_cell HQB.out]; rfl)
         have tq2 := Grow.cells (show w8.cell? ⟨p, 2, none⟩ = some (.int .i64 r2) by rw [blk_cell HQB.out]; rfl)
         have tq3 := Grow.cells (show w8.cell? ⟨p, 3, none⟩ = some (.int .u64 (r3 : Int)) by rw [blk_cell HQB.out]; rfl)
         have tq4 := Grow.cells (show w8.cell? ⟨p, 4, none⟩ = some (.int .u64 (r4 : Int)) by rw [blk_cell HQB.out]; rfl)
         have tq5 := Grow.cells (show w8.cell? ⟨p, 5, none⟩ = some (.int .u64 (r5 : Int)) by rw [blk_cell HQB.out]; rfl)
         have tq6 := Grow.cells (show w8.cell? ⟨p, 6, none⟩ = some (.int .u64 (r6 : Int)) by rw [blk_cell HQB.out]; rfl)
         refine seq_pure (i := 0) (N := some 230) (v := ?_) (a' := ?_) rfl rfl (by rfl) (fun _ _ _ h => h) ?_ ?_ ?_
         rotate_left 2
         · intro w' hg; go_simp; with_reducible rfl
         · simp only [Act.put, List.setIfInBounds_toArray, List.set_cons_zero, List.set_cons_succ, i64_w, i32_w]; rfl
         refine seq_pure (i := 1) (N := some 231) (v := ?_) (a' := ?_) rfl rfl (by rfl) (fun _ _ _ h => h) ?_ ?_ ?_
         rotate_left 2
         · intro w' hg; go_simp; with_reducible rfl
         · simp only [Act.put, List.setIfInBounds_toArray, List.set_cons_zero, List.set_cons_succ, i64_w, i32_w]; rfl
         refine seq_pure (i := 2) (N := some 232) (v := ?_) (a' := ?_) rfl rfl (by rfl) (fun _ _ _ h => h) ?_ ?_ ?_
         rotate_left 2
         · intro w' hg; go_simp; with_reducible rfl
         · simp only [Act.put, List.setIfInBounds_toArray, List.set_cons_zero, List.set_cons_succ, i64_w, i32_w]; rfl
         refine seq_pure (i := 4) (N := some 234) (v := ?_) (a' := ?_) rfl rfl (by rfl) (fun _ _ _ h => h) ?_ ?_ ?_
         rotate_left 2
         · intro w' hg; go_simp; with_reducible rfl
         · simp only [Act.put, List.setIfInBounds_toArray, List.set_cons_zero, List.set_cons_succ, i64_w, i32_w]; rfl
         refine seq_pure (i := 5) (N := some 235) (v := ?_) (a' := ?_) rfl rfl (by rfl) (fun _ _ _ h => h) ?_ ?_ ?_
         rotate_left 2
         · intro w' hg; go_simp; with_reducible rfl
         · simp only [Act.put, List.setIfInBounds_toArray, List.set_cons_zero, List.set_cons_succ, i64_w, i32_w]; rfl
         refine seq_pure (i := 6) (N := some 236) (v := ?_) (a' := ?_) rfl rfl (by rfl) (fun _ _ _ h => h) ?_ ?_ ?_
         rotate_left 2
         · intro w' hg; go_simp; with_reducible rfl
         · simp only [Act.put, List.setIfInBounds_toArray, List.set_cons_zero, List.set_cons_succ, i64_w, i32_w]; rfl
         refine seq_pure (i := 7) (N := some 237) (v := ?_) (a' := ?_) rfl rfl (by rfl) (fun _ _ _ h => h) ?_ ?_ ?_
         rotate_left 2
         · intro w' hg; go_simp; with_reducible rfl
         · simp only [Act.put, List.setIfInBounds_toArray, List.set_cons_zero, List.set_cons_succ, i64_w, i32_w]; rfl
         refine seq_call (i := 3) (N := some 233) rfl rfl Tryd.func26 (by kernel_rfl) rfl #[.pointer (some ⟨g1, 0, none⟩)] (by rfl) rfl ?_ ?_
         · simp only [List.map_toArray, List.map_cons, List.map_nil]
           rfl
         refine (sent_calls HS1.out).mono ?_
         rintro e w9 ⟨rfl, rfl⟩
         refine ⟨_, rfl, fun _ => Below.refl _ _, ?_⟩
         refine seq_norm (a' := ?_) ?_ ?_
         rotate_left
         · show Act.put _ (some 233) _ = _; simp only [Act.put, List.setIfInBounds_toArray, List.set_cons_zero, List.set_cons_succ, i64_w, i32_w]; rfl
         refine seq_pure (i := 8) (N := some 238) (v := ?_) (a' := ?_) rfl rfl (by rfl) (fun _ _ _ h => h) ?_ ?_ ?_
         rotate_left 2
         · intro w' hg; go_simp; with_reducible rfl
         · simp only [Act.put, List.setIfInBounds_toArray, List.set_cons_zero, List.set_cons_succ, i64_w, i32_w]; rfl
         refine seq_pure (i := 9) (N := some 239) (v := ?_) (a' := ?_) rfl rfl (by rfl) (fun _ _ _ h => h) ?_ ?_ ?_
         rotate_left 2
         · intro w' hg; go_simp; with_reducible rfl
         · simp only [Act.put, List.setIfInBounds_toArray, List.set_cons_zero, List.set_cons_succ, i64_w, i32_w]; rfl
         refine seq_pure (i := 10) (N := some 240) (v := ?_) (a' := ?_) rfl rfl (by rfl) (fun _ _ _ h => h) ?_ ?_ ?_
         rotate_left 2
         · intro w' hg; go_simp; with_reducible rfl
         · simp only [Act.put, List.setIfInBounds_toArray, List.set_cons_zero, List.set_cons_succ, i64_w, i32_w]; rfl
         refine seq_pure (i := 11) (N := some 241) (v := ?_) (a' := ?_) rfl rfl (by rfl) (fun _ _ _ h => h) ?_ ?_ ?_
         rotate_left 2
         · intro w' hg; go_simp; with_reducible rfl
         · simp only [Act.put, List.setIfInBounds_toArray, List.set_cons_zero, List.set_cons_succ, i64_w, i32_w]; rfl
         refine seq_pure (i := 12) (N := some 242) (v := ?_) (a' := ?_) rfl rfl (by rfl) (fun _ _ _ h => h) ?_ ?_ ?_
         rotate_left 2
         · intro w' hg; go_simp; with_reducible rfl
         · simp only [Act.put, List.setIfInBounds_toArray, List.set_cons_zero, List.set_cons_succ, i64_w, i32_w]; rfl
         refine seq_pure (i := 13) (N := some 243) (v := ?_) (a' := ?_) rfl rfl (by rfl) (fun _ _ _ h => h) ?_ ?_ ?_
         rotate_left 2
         · intro w' hg; go_simp; with_reducible rfl
         · simp only [Act.put, List.setIfInBounds_toArray, List.set_cons_zero, List.set_cons_succ, i64_w, i32_w]; rfl
         refine seq_pure (i := 14) (N := some 244) (v := ?_) (a' := ?_) rfl rfl (by rfl) (fun _ _ _ h => h) ?_ ?_ ?_
         rotate_left 2
         · intro w' hg; go_simp; with_reducible rfl
         · simp only [Act.put, List.setIfInBounds_toArray, List.set_cons_zero, List.set_cons_succ, i64_w, i32_w]; rfl
         refine seq_pure (i := 16) (N := some 246) (v := ?_) (a' := ?_) rfl rfl (by rfl) (fun _ _ _ h => h) ?_ ?_ ?_
         rotate_left 2
         · intro w' hg; go_simp; with_reducible rfl
         · simp only [Act.put, List.setIfInBounds_toArray, List.set_cons_zero, List.set_cons_succ, i64_w, i32_w]; rfl
         refine seq_pure (i := 17) (N := some 247) (v := ?_) (a' := ?_) rfl rfl (by rfl) (fun _ _ _ h => h) ?_ ?_ ?_
         rotate_left 2
         · intro w' hg; go_simp; with_reducible rfl
         · simp only [Act.put, List.setIfInBounds_toArray, List.set_cons_zero, List.set_cons_succ, i64_w, i32_w]; rfl
         refine seq_pure (i := 18) (N := some 248) (v := ?_) (a' := ?_) rfl rfl (by rfl) (fun _ _ _ h => h) ?_ ?_ ?_
         rotate_left 2
         · intro w' hg; go_simp; with_reducible rfl
         · simp only [Act.put, List.setIfInBounds_toArray, List.set_cons_zero, List.set_cons_succ, i64_w, i32_w]; rfl
         refine seq_pure (i := 19) (N := some 249) (v := ?_) (a' := ?_) rfl rfl (by rfl) (fun _ _ _ h => h) ?_ ?_ ?_
         rotate_left 2
         · intro w' hg; go_simp; with_reducible rfl
         · simp only [Act.put, List.setIfInBounds_toArray, List.set_cons_zero, List.set_cons_succ, i64_w, i32_w]; rfl
         refine seq_pure (i := 20) (N := some 250) (v := ?_) (a' := ?_) rfl rfl (by rfl) (fun _ _ _ h => h) ?_ ?_ ?_
         rotate_left 2
         · intro w' hg; go_simp; with_reducible rfl
         · simp only [Act.put, List.setIfInBounds_toArray, List.set_cons_zero, List.set_cons_succ, i64_w, i32_w]; rfl
         refine seq_pure (i := 21) (N := some 251) (v := ?_) (a' := ?_) rfl rfl (by rfl) (fun _ _ _ h => h) ?_ ?_ ?_
         rotate_left 2
         · intro w' hg; go_simp; with_reducible rfl
         · simp only [Act.put, List.setIfInBounds_toArray, List.set_cons_zero, List.set_cons_succ, i64_w, i32_w]; rfl
         refine seq_call (i := 15) (N := some 245) rfl rfl Tryd.func27 (by kernel_rfl) rfl #[.pointer (some ⟨g1, 0, none⟩), .int .u64 (nw : Int)] (by rfl) rfl ?_ ?_
         · simp only [List.map_toArray, List.map_cons, List.map_nil]
           rfl
         refine (rekey_calls HS1.out HNW.out).mono ?_
         rintro e w9 ⟨rfl, hb⟩
         replace HN := hd (HN.out.below hb)
         replace HX := hd (HX.out.below hb)
         replace HS0 := hd (HS0.out.below hb)
         replace HS1 := hd (HS1.out.below hb)
         replace HA0 := hd (HA0.out.below hb)
         replace HB0 := hd (HB0.out.below hb)
         replace HA1 := hd (HA1.out.below hb)
         replace HB1 := hd (HB1.out.below hb)
         replace HGX := hd (blk_below HGX.out hb)
         replace HQB := hd (blk_below HQB.out hb)
         replace HGW := hd (blk_below HGW.out hb)
         replace HC0 := hd (HC0.out.below hb)
         replace HC1 := hd (HC1.out.below hb)
         replace HBW := hd (below_seq HBW.out hb)
         replace HP := hd (blk_below HP.out hb)
         refine ⟨_, rfl, fun _ => hb, ?_⟩
         clear hb
         refine seq_norm (a' := ?_) ?_ ?_
         rotate_left
         · show Act.put _ (some 245) _ = _; simp only [Act.put, List.setIfInBounds_toArray, List.set_cons_zero, List.set_cons_succ, i64_w, i32_w]; rfl
         refine seq_call (i := 22) (N := some 252) rfl rfl Tryd.func28 (by kernel_rfl) rfl #[.agg #[.int .u64 (r0 : Int), .int .u64 (r1 : Int), .int .i64 r2, .int .u64 (r3 : Int), .int .u64 (r4 : Int), .int .u64 (r5 : Int), .int .u64 (r6 : Int)], .agg #[.slice A1 m1 d1, .int .u64 (s1.N : Int), .slice A0 m0 d0, .int .u64 0, .int .u64 (st : Int), .int .u64 (s1.sent : Int), .slice s1.ca.A s1.ca.n s1.ca.c], .int .u64 (nw : Int)] (by rfl) rfl ?_ ?_
         · simp only [List.map_toArray, List.map_cons, List.map_nil]
           rfl
         refine (refrekey_calls (r := ⟨r0, r1, r2, r3, r4, r5, r6⟩) (k1 := ⟨A1, m1, d1⟩) (k2 := ⟨A0, m0, d0⟩) (ca := s1.ca) (N1 := s1.N) (N2 := 0) (born := st) (sent := s1.sent) (now := nw) HNW.out).mono ?_
         rintro e w10 ⟨rfl, hb⟩
         replace HN := hd (HN.out.below hb)
         replace HX := hd (HX.out.below hb)
         replace HS0 := hd (HS0.out.below hb)
         replace HS1 := hd (HS1.out.below hb)
         replace HA0 := hd (HA0.out.below hb)
         replace HB0 := hd (HB0.out.below hb)
         replace HA1 := hd (HA1.out.below hb)
         replace HB1 := hd (HB1.out.below hb)
         replace HGX := hd (blk_below HGX.out hb)
         replace HQB := hd (blk_below HQB.out hb)
         replace HGW := hd (blk_below HGW.out hb)
         replace HC0 := hd (HC0.out.below hb)
         replace HC1 := hd (HC1.out.below hb)
         replace HBW := hd (below_seq HBW.out hb)
         replace HP := hd (blk_below HP.out hb)
         refine ⟨_, rfl, fun _ => hb, ?_⟩
         clear hb t0 t1 tp0 tp1 tp2 tp3 tw0 tw1 tw2 tw3 tw4 tw5 tw6 tw7 tw8 tw9 tw10 tw11 tw12 tw13 tq0 tq1 tq2 tq3 tq4 tq5 tq6
         have t0 := Grow.cells (show w10.cell? ⟨gx, 0, none⟩ = some (.pointer (some ⟨g0, 0, none⟩)) by rw [blk_cell HGX.out]; rfl)
         have t1 := Grow.cells (show w10.cell? ⟨gx, 1, none⟩ = some (.pointer (some ⟨g1, 0, none⟩)) by rw [blk_cell HGX.out]; rfl)
         have tp0 := Grow.cells (show w10.cell? ⟨pa, 0, none⟩ = some (.int .i64 kd) by rw [blk_cell HP.out]; rfl)
         have tp1 := Grow.cells (show w10.cell? ⟨pa, 1, none⟩ = some (.slice B m d) by rw [blk_cell HP.out]; rfl)
         have tp2 := Grow.cells (show w10.cell? ⟨pa, 2, none⟩ = some (.int .u64 (nn : Int)) by rw [blk_cell HP.out]; rfl)
         have tp3 := Grow.cells (show w10.cell? ⟨pa, 3, none⟩ = some (.int .u64 (nw : Int)) by rw [blk_cell HP.out]; rfl)
         have tw0 := Grow.cells (show w10.cell? ⟨gw, 0, none⟩ = some (.slice A0 m0 d0) by rw [blk_cell HGW.out]; rfl)
         have tw1 := Grow.cells (show w10.cell? ⟨gw, 1, none⟩ = some (.int .u64 (s0.N : Int)) by rw [blk_cell HGW.out]; rfl)
         have tw2 := Grow.cells (show w10.cell? ⟨gw, 2, none⟩ = some (.slice A1 m1 d1) by rw [blk_cell HGW.out]; rfl)
         have tw3 := Grow.cells (show w10.cell? ⟨gw, 3, none⟩ = some (.int .u64 0) by rw [blk_cell HGW.out]; rfl)
         have tw4 := Grow.cells (show w10.cell? ⟨gw, 4, none⟩ = some (.int .u64 (st : Int)) by rw [blk_cell HGW.out]; rfl)
         have tw5 := Grow.cells (show w10.cell? ⟨gw, 5, none⟩ = some (.int .u64 (s0.sent : Int)) by rw [blk_cell HGW.out]; rfl)
         have tw6 := Grow.cells (show w10.cell? ⟨gw, 6, none⟩ = some (.slice s0.ca.A s0.ca.n s0.ca.c) by rw [blk_cell HGW.out]; rfl)
         have tw7 := Grow.cells (show w10.cell? ⟨gw, 7, none⟩ = some (.slice A1 m1 d1) by rw [blk_cell HGW.out]; rfl)
         have tw8 := Grow.cells (show w10.cell? ⟨gw, 8, none⟩ = some (.int .u64 (s1.N : Int)) by rw [blk_cell HGW.out]; rfl)
         have tw9 := Grow.cells (show w10.cell? ⟨gw, 9, none⟩ = some (.slice A0 m0 d0) by rw [blk_cell HGW.out]; rfl)
         have tw10 := Grow.cells (show w10.cell? ⟨gw, 10, none⟩ = some (.int .u64 0) by rw [blk_cell HGW.out]; rfl)
         have tw11 := Grow.cells (show w10.cell? ⟨gw, 11, none⟩ = some (.int .u64 (st : Int)) by rw [blk_cell HGW.out]; rfl)
         have tw12 := Grow.cells (show w10.cell? ⟨gw, 12, none⟩ = some (.int .u64 (s1.sent : Int)) by rw [blk_cell HGW.out]; rfl)
         have tw13 := Grow.cells (show w10.cell? ⟨gw, 13, none⟩ = some (.slice s1.ca.A s1.ca.n s1.ca.c) by rw [blk_cell HGW.out]; rfl)
         have tq0 := Grow.cells (show w10.cell? ⟨p, 0, none⟩ = some (.int .u64 (r0 : Int)) by rw [blk_cell HQB.out]; rfl)
         have tq1 := Grow.cells (show w10.cell? ⟨p, 1, none⟩ = some (.int .u64 (r1 : Int)) by rw [blk_cell HQB.out]; rfl)
         have tq2 := Grow.cells (show w10.cell? ⟨p, 2, none⟩ = some (.int .i64 r2) by rw [blk_cell HQB.out]; rfl)
         have tq3 := Grow.cells (show w10.cell? ⟨p, 3, none⟩ = some (.int .u64 (r3 : Int)) by rw [blk_cell HQB.out]; rfl)
         have tq4 := Grow.cells (show w10.cell? ⟨p, 4, none⟩ = some (.int .u64 (r4 : Int)) by rw [blk_cell HQB.out]; rfl)
         have tq5 := Grow.cells (show w10.cell? ⟨p, 5, none⟩ = some (.int .u64 (r5 : Int)) by rw [blk_cell HQB.out]; rfl)
         have tq6 := Grow.cells (show w10.cell? ⟨p, 6, none⟩ = some (.int .u64 (r6 : Int)) by rw [blk_cell HQB.out]; rfl)
         refine seq_norm (a' := ?_) ?_ ?_
         rotate_left
         · show Act.put _ (some 252) _ = _; simp only [Act.put, List.setIfInBounds_toArray, List.set_cons_zero, List.set_cons_succ, i64_w, i32_w]; rfl
         refine seq_pure (i := 23) (N := some 253) (v := ?_) (a' := ?_) rfl rfl (by rfl) (fun _ _ _ h => h) ?_ ?_ ?_
         rotate_left 2
         · intro w' hg; go_simp; with_reducible rfl
         · simp only [Act.put, List.setIfInBounds_toArray, List.set_cons_zero, List.set_cons_succ, i64_w, i32_w]; rfl
         refine seq_pure (i := 24) (N := some 254) (v := ?_) (a' := ?_) rfl rfl (by rfl) (fun _ _ _ h => h) ?_ ?_ ?_
         rotate_left 2
         · intro w' hg; go_simp; with_reducible rfl
         · simp only [Act.put, List.setIfInBounds_toArray, List.set_cons_zero, List.set_cons_succ, i64_w, i32_w]; rfl
         refine seq_pure (i := 25) (N := some 255) (v := ?_) (a' := ?_) rfl rfl (by rfl) (fun _ _ _ h => h) ?_ ?_ ?_
         rotate_left 2
         · intro w' hg; go_simp; with_reducible rfl
         · simp only [Act.put, List.setIfInBounds_toArray, List.set_cons_zero, List.set_cons_succ, i64_w, i32_w]; rfl
         refine seq_pure (i := 26) (N := some 256) (v := ?_) (a' := ?_) rfl rfl (by rfl) (fun _ _ _ h => h) ?_ ?_ ?_
         rotate_left 2
         · intro w' hg; go_simp; with_reducible rfl
         · simp only [Act.put, List.setIfInBounds_toArray, List.set_cons_zero, List.set_cons_succ, i64_w, i32_w]; rfl
         refine seq_pure (i := 27) (N := some 257) (v := ?_) (a' := ?_) rfl rfl (by rfl) (fun _ _ _ h => h) ?_ ?_ ?_
         rotate_left 2
         · intro w' hg; go_simp; with_reducible rfl
         · simp only [Act.put, List.setIfInBounds_toArray, List.set_cons_zero, List.set_cons_succ, i64_w, i32_w]; rfl
         refine seq_pure (i := 28) (N := some 258) (v := ?_) (a' := ?_) rfl rfl (by rfl) (fun _ _ _ h => h) ?_ ?_ ?_
         rotate_left 2
         · intro w' hg; go_simp; with_reducible rfl
         · simp only [Act.put, List.setIfInBounds_toArray, List.set_cons_zero, List.set_cons_succ, i64_w, i32_w]; rfl
         refine seq_pure (i := 29) (N := some 259) (v := ?_) (a' := ?_) rfl rfl (by rfl) (fun _ _ _ h => h) ?_ ?_ ?_
         rotate_left 2
         · intro w' hg; go_simp; with_reducible rfl
         · simp only [Act.put, List.setIfInBounds_toArray, List.set_cons_zero, List.set_cons_succ, i64_w, i32_w]; rfl
         refine seq_pure (i := 30) (N := some 260) (v := ?_) (a' := ?_) rfl rfl (by rfl) (fun _ _ _ h => h) ?_ ?_ ?_
         rotate_left 2
         · intro w' hg; go_simp; with_reducible rfl
         · simp only [Act.put, List.setIfInBounds_toArray, List.set_cons_zero, List.set_cons_succ, i64_w, i32_w]; rfl
         refine seq_pure (i := 32) (N := some 262) (v := ?_) (a' := ?_) rfl rfl (by rfl) (fun _ _ _ h => h) ?_ ?_ ?_
         rotate_left 2
         · intro w' hg; go_simp; with_reducible rfl
         · simp only [Act.put, List.setIfInBounds_toArray, List.set_cons_zero, List.set_cons_succ, i64_w, i32_w]; rfl
         refine seq_pure (i := 33) (N := some 263) (v := ?_) (a' := ?_) rfl rfl (by rfl) (fun _ _ _ h => h) ?_ ?_ ?_
         rotate_left 2
         · intro w' hg; go_simp; with_reducible rfl
         · simp only [Act.put, List.setIfInBounds_toArray, List.set_cons_zero, List.set_cons_succ, i64_w, i32_w]; rfl
         refine seq_pure (i := 34) (N := some 264) (v := ?_) (a' := ?_) rfl rfl (by rfl) (fun _ _ _ h => h) ?_ ?_ ?_
         rotate_left 2
         · intro w' hg; go_simp; with_reducible rfl
         · simp only [Act.put, List.setIfInBounds_toArray, List.set_cons_zero, List.set_cons_succ, i64_w, i32_w]; rfl
         refine seq_pure (i := 35) (N := some 265) (v := ?_) (a' := ?_) rfl rfl (by rfl) (fun _ _ _ h => h) ?_ ?_ ?_
         rotate_left 2
         · intro w' hg; go_simp; with_reducible rfl
         · simp only [Act.put, List.setIfInBounds_toArray, List.set_cons_zero, List.set_cons_succ, i64_w, i32_w]; rfl
         refine seq_pure (i := 36) (N := some 266) (v := ?_) (a' := ?_) rfl rfl (by rfl) (fun _ _ _ h => h) ?_ ?_ ?_
         rotate_left 2
         · intro w' hg; go_simp; with_reducible rfl
         · simp only [Act.put, List.setIfInBounds_toArray, List.set_cons_zero, List.set_cons_succ, i64_w, i32_w]; rfl
         refine seq_pure (i := 37) (N := some 267) (v := ?_) (a' := ?_) rfl rfl (by rfl) (fun _ _ _ h => h) ?_ ?_ ?_
         rotate_left 2
         · intro w' hg; go_simp; with_reducible rfl
         · simp only [Act.put, List.setIfInBounds_toArray, List.set_cons_zero, List.set_cons_succ, i64_w, i32_w]; rfl
         refine seq_call (i := 31) (N := some 261) rfl rfl Tryd.func29 (by kernel_rfl) rfl #[.pointer (some ⟨g1, 0, none⟩), .int .u64 (nw : Int)] (by rfl) rfl ?_ ?_
         · simp only [List.map_toArray, List.map_cons, List.map_nil]
           rfl
         refine (expired_calls HS1.out HNW.out).mono ?_
         rintro e w11 ⟨rfl, hb⟩
         replace HN := hd (HN.out.below hb)
         replace HX := hd (HX.out.below hb)
         replace HS0 := hd (HS0.out.below hb)
         replace HS1 := hd (HS1.out.below hb)
         replace HA0 := hd (HA0.out.below hb)
         replace HB0 := hd (HB0.out.below hb)
         replace HA1 := hd (HA1.out.below hb)
         replace HB1 := hd (HB1.out.below hb)
         replace HGX := hd (blk_below HGX.out hb)
         replace HQB := hd (blk_below HQB.out hb)
         replace HGW := hd (blk_below HGW.out hb)
         replace HC0 := hd (HC0.out.below hb)
         replace HC1 := hd (HC1.out.below hb)
         replace HBW := hd (below_seq HBW.out hb)
         replace HP := hd (blk_below HP.out hb)
         refine ⟨_, rfl, fun _ => hb, ?_⟩
         clear hb
         refine seq_norm (a' := ?_) ?_ ?_
         rotate_left
         · show Act.put _ (some 261) _ = _; simp only [Act.put, List.setIfInBounds_toArray, List.set_cons_zero, List.set_cons_succ, i64_w, i32_w]; rfl
         refine seq_call (i := 38) (N := some 268) rfl rfl Tryd.func30 (by kernel_rfl) rfl #[.agg #[.int .u64 (r0 : Int), .int .u64 (r1 : Int), .int .i64 r2, .int .u64 (r3 : Int), .int .u64 (r4 : Int), .int .u64 (r5 : Int), .int .u64 (r6 : Int)], .agg #[.slice A1 m1 d1, .int .u64 (s1.N : Int), .slice A0 m0 d0, .int .u64 0, .int .u64 (st : Int), .int .u64 (s1.sent : Int), .slice s1.ca.A s1.ca.n s1.ca.c], .int .u64 (nw : Int)] (by rfl) rfl ?_ ?_
         · simp only [List.map_toArray, List.map_cons, List.map_nil]
           rfl
         refine (refexpired_calls (r := ⟨r0, r1, r2, r3, r4, r5, r6⟩) (k1 := ⟨A1, m1, d1⟩) (k2 := ⟨A0, m0, d0⟩) (ca := s1.ca) (N1 := s1.N) (N2 := 0) (born := st) (sent := s1.sent) (now := nw) HNW.out).mono ?_
         rintro e w12 ⟨rfl, hb⟩
         replace HN := hd (HN.out.below hb)
         replace HX := hd (HX.out.below hb)
         replace HS0 := hd (HS0.out.below hb)
         replace HS1 := hd (HS1.out.below hb)
         replace HA0 := hd (HA0.out.below hb)
         replace HB0 := hd (HB0.out.below hb)
         replace HA1 := hd (HA1.out.below hb)
         replace HB1 := hd (HB1.out.below hb)
         replace HGX := hd (blk_below HGX.out hb)
         replace HQB := hd (blk_below HQB.out hb)
         replace HGW := hd (blk_below HGW.out hb)
         replace HC0 := hd (HC0.out.below hb)
         replace HC1 := hd (HC1.out.below hb)
         replace HBW := hd (below_seq HBW.out hb)
         replace HP := hd (blk_below HP.out hb)
         refine ⟨_, rfl, fun _ => hb, ?_⟩
         clear hb t0 t1 tp0 tp1 tp2 tp3 tw0 tw1 tw2 tw3 tw4 tw5 tw6 tw7 tw8 tw9 tw10 tw11 tw12 tw13 tq0 tq1 tq2 tq3 tq4 tq5 tq6
         refine seq_norm (a' := ?_) ?_ ?_
         rotate_left
         · show Act.put _ (some 268) _ = _; simp only [Act.put, List.setIfInBounds_toArray, List.set_cons_zero, List.set_cons_succ, i64_w, i32_w]; rfl
         refine seq_pure (i := 39) (N := some 269) (v := ?_) (a' := ?_) rfl rfl (by rfl) (fun _ _ _ h => h) ?_ ?_ ?_
         rotate_left 2
         · intro w' hg; go_simp; with_reducible rfl
         · simp only [Act.put, List.setIfInBounds_toArray, List.set_cons_zero, List.set_cons_succ, i64_w, i32_w]; rfl
         refine seq_pure (i := 40) (N := some 270) (v := ?_) (a' := ?_) rfl rfl (by rfl) (fun _ _ _ h => h) ?_ ?_ ?_
         rotate_left 2
         · intro w' hg; go_simp; with_reducible rfl
         · simp only [Act.put, List.setIfInBounds_toArray, List.set_cons_zero, List.set_cons_succ, i64_w, i32_w]; rfl
         refine seq_done ?_
         have i2 : (i : Int) < 20 := by have := HI2.out; omega
         go_wp2
         go_roundw
         case rel => exact ⟨i + 1, s0, s1, nums, ls, by have := HI2.out; omega, by go_num, HI, HN, HX, HS0, HS1, HA0, HB0, HA1, HB1, HGX, HQB, HGW, HC0, HC1, HBW⟩
         case measure => simp [intOf]; have := HI2.out; omega
   · by_cases h1 : i < n
     · have i1 : (i : Int) < n := by omega
       have i2 : ¬ ((i : Int) < 20) := by omega
       clear hlt h1 hi
       go_wp2
       go_ret
       exact ⟨rfl, HBW.out⟩
     · have i1 : ¬ ((i : Int) < n) := by omega
       clear hlt h1 hi
       go_wp2
       go_ret
       exact ⟨rfl, HBW.out⟩
end Go.Proofs.YtlgdplodglchaaaDoor
