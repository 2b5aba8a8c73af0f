/- The walk through redanref02.Fast. -/
import Derived.Test.YtlgdplodglchaaaDoorFa
set_option linter.unusedVariables false
set_option linter.unusedSimpArgs false
namespace Go.Proofs.YtlgdplodglchaaaDoor
open Go.RowKit Go.Proofs.YtlgdplodglchaaaDoorW.PrintWords Go.Proofs.YtlgdplodglchaaaDoorW.PrintLast Go.Proofs.YtlgdplodglchaaaDoorW.PrintMore
theorem moves_ix : ∀ t, t < 24 → srcX t < 25 ∧ dstX t < 25 ∧ (t + 1) * (t + 2) ≤ 600 := by decide
set_option maxHeartbeats 8000000 in
set_option maxRecDepth 100000 in
theorem fast_calls {A0 : Option Addr} {c0 : Nat} {a : List Nat} (hl_ : Lanes a) (ha_ : a.length = 25) {w : World} (hr_ : RowK .u64 w A0 a) (hc_ : 25 ≤ c0) : Calls Tryd.prog 96 #[.slice A0 25 c0] w fun e w' => ∃ g c, e = .returned (.slice (some ⟨g, 0, none⟩) 25 c) ∧ 25 ≤ c ∧ w.heap.size ≤ g ∧ OwnK .u64 22 w.heap.size w' (.slice (some ⟨g, 0, none⟩) 25 c) (kecN a) ∧ Below w.heap.size w w' := by
 have ha := hd ha_
 have hl := hd hl_
 have HR := hd hr_
 clear ha_ hl_ hr_ hc_
 go_enter Tryd.func96, Tryd.ntmps96
 go_wp2_with fail
 refine lanes_calls.mono ?_
 rintro e w1 ⟨gs, cs, rfl, hcs, hg1, hg2, ho, hb⟩
 have HS := hd ho
 have HG := hd (And.intro hg1 (And.intro hg2 hcs))
 have HBW := hd hb
 have hcs1 : (25 : Int) ≤ cs := by omega
 clear ho hb hg1 hg2 hcs
 go_upto_region 3 with ((with_reducible refine gate_dst (N := 20) rfl ?_); refine op_copyK (w0 := w) 20 rfl w.heap.size 22 25 (.tmp 18) (.tmp 19) rfl rfl Tryd.underlying25 (by kernel_rfl) _ (List.replicate 25 0) a A0 25 c0 rfl rfl ha.out.symm (by simp) HS.out (HR.out.below HBW.out) HBW.out HBW.out.size ?_; intro w2 ho2 hb2 hg2)
 rw [show (List.replicate 25 0).drop 25 = ([] : List Nat) from rfl, List.append_nil] at ho2
 replace HS := hd ho2
 replace HBW := hd hb2
 clear ho2 hb2 hg2
 go_wp2_with fail
 refine consts_calls.mono ?_
 rintro e w3 ⟨gk, rfl, hg3, hg4, ho, hb⟩
 have HK := hd (ho.lower HBW.out.size)
 have hgs2 := hd (HS.out.lt gs rfl).2
 replace HS := hd (HS.out.below hb)
 have HSK := hd (show gs ≠ gk by have := hgs2.out; omega)
 replace HBW := hd (below_seq HBW.out hb)
 clear ho hb hg3 hg4 hgs2
 go_upto_region 5 with (fail)
 go_loopw [5, 6, 7, 8, 9, 10, 11, 12, 13, 14, 15, 16] (fun u5 u6 u7 u8 u9 u10 u11 u12 u13 u14 u15 u16 wr => ∃ i : Nat, i ≤ 24 ∧ u5 = .int .i64 i ∧ Aside0 (OwnK .u64 22 w.heap.size wr (.slice (some ⟨gs, 0, none⟩) 25 cs) (roundsN a i)) ∧ Aside0 (OwnK .u64 22 w.heap.size wr (.slice (some ⟨gk, 0, none⟩) 24 24) (kecC)) ∧ Aside0 (Below w.heap.size w wr)) (fun u5 _ _ _ _ _ _ _ _ _ _ _ _ => 24 - (intOf u5).toNat)
 case atStart => exact ⟨0, by decide, rfl, HS, HK, HBW⟩
 case round =>
  obtain ⟨i, hi, rfl, HS, HK, HBW⟩ := hrel
  by_cases hlt : i < 24
  · have i1 : (i : Int) < 24 := by omega
    have HLT := hd hlt
    obtain ⟨l, hll⟩ : ∃ l, Aside0 (roundsN a i = l) := ⟨_, ⟨rfl⟩⟩
    rw [hll.out] at HS
    have HLN := hd (show l.length = 25 by rw [← hll.out]; exact roundsN_length ha.out i)
    have HLL := hd (show Lanes l by rw [← hll.out]; exact roundsN_ok hl.out i)
    clear hi hlt
    go_upto_region 8 with ((with_reducible refine gate_dst (N := 26) rfl ?_); refine op_make 26 rfl 22 25 _ _ rfl rfl 5 rfl rfl Tryd.underlying25 Tryd.infoU64 (by decide) 5 rfl (by decide) ?_; intro Ac cc w4 hck hok hbk)
    obtain ⟨gc, rfl, hgc, hgc2⟩ := hok.at_ (by decide)
    have HC := hd (hok.lower HBW.out.size)
    have HGC := hd (show w.heap.size ≤ gc ∧ gs ≠ gc ∧ gk ≠ gc from ⟨Nat.le_trans HBW.out.size hgc, by have := (HS.out.lt gs rfl).2; omega, by have := (HK.out.lt gk rfl).2; omega⟩)
    have hck1 : (5 : Int) ≤ cc := by omega
    replace HS := hd (HS.out.below hbk)
    replace HK := hd (HK.out.below hbk)
    replace HBW := hd (below_seq HBW.out hbk)
    clear hok hbk hgc hgc2 hck i1
    go_upto_region 9 with (fail)
    go_loopw [7] (fun u7 wr => ∃ x : Nat, x ≤ 5 ∧ u7 = .int .i64 x ∧ Aside0 (OwnK .u64 22 w.heap.size wr (.slice (some ⟨gc, 0, none⟩) 5 cc) (upto (colF l) (List.replicate 5 0) x)) ∧ Aside0 (OwnK .u64 22 w.heap.size wr (.slice (some ⟨gs, 0, none⟩) 25 cs) (l)) ∧ Aside0 (OwnK .u64 22 w.heap.size wr (.slice (some ⟨gk, 0, none⟩) 24 24) (kecC)) ∧ Aside0 (Below w.heap.size w wr)) (fun u7 _ => 5 - (intOf u7).toNat)
    case atStart => exact ⟨0, by decide, rfl, ⟨by rw [upto_zero]; exact HC.out⟩, HS, HK, HBW⟩
    case round =>
     obtain ⟨x, hi, rfl, HC, HS, HK, HBW⟩ := hrel
     by_cases hlt : x < 5
     · have i1 : (x : Int) < 5 := by omega
       clear hi
       go_upto_region 11 with (fail)
       refine upR_start Keeps.any [31] [(0, 1), (1, 1), (2, 1), (3, 1), (4, 1), (5, 1), (6, 1), (7, 1), (8, 1), (9, 1), (10, 1), (11, 1), (12, 1), (13, 1), (14, 1), (15, 1), (16, 1), (17, 1), (18, 1), (19, 1), (20, 1), (21, 1), (22, 1), (23, 1), (24, 1), (25, 1), (26, 1), (27, 1), (28, 1), (29, 1), (30, 1), (31, 0)] (by kernel_rfl) rfl (by kernel_rfl) (by kernel_rfl) ?_
       have hdr := below_drew (Below.refl wr.heap.size wr)
       replace HC := hd (HC.out.below hdr)
       replace HS := hd (HS.out.below hdr)
       replace HK := hd (HK.out.below hdr)
       replace HBW := hd (below_seq HBW.out hdr)
       generalize wr.drew = w5 at hdr HC HS HK HBW ⊢
       clear hdr
       obtain ⟨m1, M1⟩ : ∃ m, Aside0 (x + 5 = m) := ⟨_, ⟨rfl⟩⟩
       have wm1 : wrap64 ((x : Int) + 5) = (m1 : Int) := (IntWalk.wrap64_in _ (by omega)).trans (by rw [← M1.out]; push_cast; rfl)
       have jm1 : (m1 : Int) < 25 := by have := M1.out; omega
       obtain ⟨m2, M2⟩ : ∃ m, Aside0 (x + 10 = m) := ⟨_, ⟨rfl⟩⟩
       have wm2 : wrap64 ((x : Int) + 10) = (m2 : Int) := (IntWalk.wrap64_in _ (by omega)).trans (by rw [← M2.out]; push_cast; rfl)
       have jm2 : (m2 : Int) < 25 := by have := M2.out; omega
       obtain ⟨m3, M3⟩ : ∃ m, Aside0 (x + 15 = m) := ⟨_, ⟨rfl⟩⟩
       have wm3 : wrap64 ((x : Int) + 15) = (m3 : Int) := (IntWalk.wrap64_in _ (by omega)).trans (by rw [← M3.out]; push_cast; rfl)
       have jm3 : (m3 : Int) < 25 := by have := M3.out; omega
       obtain ⟨m4, M4⟩ : ∃ m, Aside0 (x + 20 = m) := ⟨_, ⟨rfl⟩⟩
       have wm4 : wrap64 ((x : Int) + 20) = (m4 : Int) := (IntWalk.wrap64_in _ (by omega)).trans (by rw [← M4.out]; push_cast; rfl)
       have jm4 : (m4 : Int) < 25 := by have := M4.out; omega
       obtain ⟨x0, X0, hx0, fx0⟩ := HS.out.cellx (x) (by omega)
       have gx0 := Grow.cells hx0
       clear hx0 fx0
       obtain ⟨x1, X1, hx1, fx1⟩ := HS.out.cellx (m1) (by omega)
       have gx1 := Grow.cells hx1
       clear hx1 fx1
       obtain ⟨x2, X2, hx2, fx2⟩ := HS.out.cellx (m2) (by omega)
       have gx2 := Grow.cells hx2
       clear hx2 fx2
       obtain ⟨x3, X3, hx3, fx3⟩ := HS.out.cellx (m3) (by omega)
       have gx3 := Grow.cells hx3
       clear hx3 fx3
       obtain ⟨x4, X4, hx4, fx4⟩ := HS.out.cellx (m4) (by omega)
       have gx4 := Grow.cells hx4
       clear hx4 fx4
       obtain ⟨cc0, CC0, hcc0, fcc0⟩ := HC.out.cellx (x) (hlt)

       have j0 : (x : Int) < 25 := by omega
       obtain ⟨y, HY⟩ : ∃ y, Aside0 (colF l x = y) := ⟨_, ⟨rfl⟩⟩
       have e1 : bits .xor .u64 (x0 : Int) (x1 : Int) = ((x0 ^^^ x1 : Nat) : Int) := xor_u64 (by rw [← X0.out]; exact HLL.out.getD _) (by rw [← X1.out]; exact HLL.out.getD _)
       have e2 : bits .xor .u64 ((x0 ^^^ x1 : Nat) : Int) (x2 : Int) = ((x0 ^^^ x1 ^^^ x2 : Nat) : Int) := xor_u64 (by rw [← X0.out, ← X1.out]; exact xor64 (HLL.out.getD _) (HLL.out.getD _)) (by rw [← X2.out]; exact HLL.out.getD _)
       have e3 : bits .xor .u64 ((x0 ^^^ x1 ^^^ x2 : Nat) : Int) (x3 : Int) = ((x0 ^^^ x1 ^^^ x2 ^^^ x3 : Nat) : Int) := xor_u64 (by rw [← X0.out, ← X1.out, ← X2.out]; exact xor64 (xor64 (HLL.out.getD _) (HLL.out.getD _)) (HLL.out.getD _)) (by rw [← X3.out]; exact HLL.out.getD _)
       have e4 : bits .xor .u64 ((x0 ^^^ x1 ^^^ x2 ^^^ x3 : Nat) : Int) (x4 : Int) = (y : Int) := by
        rw [← HY.out, xor_u64 (by rw [← X0.out, ← X1.out, ← X2.out, ← X3.out]; exact xor64 (xor64 (xor64 (HLL.out.getD _) (HLL.out.getD _)) (HLL.out.getD _)) (HLL.out.getD _)) (by rw [← X4.out]; exact HLL.out.getD _), ← X0.out, ← X1.out, ← X2.out, ← X3.out, ← X4.out, ← M1.out, ← M2.out, ← M3.out, ← M4.out]
        rfl
       refine rseq_pure (i := 0) (N := some 31) (v := ?_) (a' := ?_) rfl rfl (by rfl) (fun _ _ _ h => h) ?_ ?_ ?_
       rotate_left 2
       · intro w' hg; go_simp; with_reducible rfl
       · simp only [Act.put, List.setIfInBounds_toArray, List.set_cons_zero, List.set_cons_succ, i64_w, i32_w]; rfl
       refine rseq_pure (i := 1) (N := some 32) (v := ?_) (a' := ?_) rfl rfl (by rfl) (fun _ _ _ h => h) ?_ ?_ ?_
       rotate_left 2
       · intro w' hg; go_simp; with_reducible rfl
       · simp only [Act.put, List.setIfInBounds_toArray, List.set_cons_zero, List.set_cons_succ, i64_w, i32_w]; rfl
       refine rseq_pure (i := 2) (N := some 33) (v := ?_) (a' := ?_) rfl rfl (by rfl) (fun _ _ _ h => h) ?_ ?_ ?_
       rotate_left 2
       · intro w' hg; go_simp; with_reducible rfl
       · simp only [Act.put, List.setIfInBounds_toArray, List.set_cons_zero, List.set_cons_succ, i64_w, i32_w]; rfl
       refine rseq_pure (i := 3) (N := some 34) (v := ?_) (a' := ?_) rfl rfl (by rfl) (fun _ _ _ h => h) ?_ ?_ ?_
       rotate_left 2
       · intro w' hg; go_simp; with_reducible rfl
       · simp only [Act.put, List.setIfInBounds_toArray, List.set_cons_zero, List.set_cons_succ, i64_w, i32_w]; rfl
       refine rseq_pure (i := 4) (N := some 35) (v := ?_) (a' := ?_) rfl rfl (by rfl) (fun _ _ _ h => h) ?_ ?_ ?_
       rotate_left 2
       · intro w' hg; go_simp; with_reducible rfl
       · simp only [Act.put, List.setIfInBounds_toArray, List.set_cons_zero, List.set_cons_succ, i64_w, i32_w]; rfl
       refine rseq_pure (i := 5) (N := some 36) (v := ?_) (a' := ?_) rfl rfl (by rfl) (fun _ _ _ h => h) ?_ ?_ ?_
       rotate_left 2
       · intro w' hg; go_simp; with_reducible rfl
       · simp only [Act.put, List.setIfInBounds_toArray, List.set_cons_zero, List.set_cons_succ, i64_w, i32_w]; rfl
       refine rseq_pure (i := 6) (N := some 37) (v := ?_) (a' := ?_) rfl rfl (by rfl) (fun _ _ _ h => h) ?_ ?_ ?_
       rotate_left 2
       · intro w' hg; go_simp; with_reducible rfl
       · simp only [Act.put, List.setIfInBounds_toArray, List.set_cons_zero, List.set_cons_succ, i64_w, i32_w]; rfl
       refine rseq_pure (i := 7) (N := some 38) (v := ?_) (a' := ?_) rfl rfl (by rfl) (fun _ _ _ h => h) ?_ ?_ ?_
       rotate_left 2
       · intro w' hg; go_simp; with_reducible rfl
       · simp only [Act.put, List.setIfInBounds_toArray, List.set_cons_zero, List.set_cons_succ, i64_w, i32_w]; rfl
       refine rseq_pure (i := 8) (N := some 39) (v := ?_) (a' := ?_) rfl rfl (by rfl) (fun _ _ _ h => h) ?_ ?_ ?_
       rotate_left 2
       · intro w' hg; go_simp; with_reducible rfl
       · simp only [Act.put, List.setIfInBounds_toArray, List.set_cons_zero, List.set_cons_succ, i64_w, i32_w]; rfl
       refine rseq_pure (i := 9) (N := some 40) (v := ?_) (a' := ?_) rfl rfl (by rfl) (fun _ _ _ h => h) ?_ ?_ ?_
       rotate_left 2
       · intro w' hg; go_simp; with_reducible rfl
       · simp only [Act.put, List.setIfInBounds_toArray, List.set_cons_zero, List.set_cons_succ, i64_w, i32_w]; rfl
       refine rseq_pure (i := 10) (N := some 41) (v := ?_) (a' := ?_) rfl rfl (by rfl) (fun _ _ _ h => h) ?_ ?_ ?_
       rotate_left 2
       · intro w' hg; go_simp; with_reducible rfl
       · simp only [Act.put, List.setIfInBounds_toArray, List.set_cons_zero, List.set_cons_succ, i64_w, i32_w]; rfl
       refine rseq_pure (i := 11) (N := some 42) (v := ?_) (a' := ?_) rfl rfl (by rfl) (fun _ _ _ h => h) ?_ ?_ ?_
       rotate_left 2
       · intro w' hg; go_simp; with_reducible rfl
       · simp only [Act.put, List.setIfInBounds_toArray, List.set_cons_zero, List.set_cons_succ, i64_w, i32_w]; rfl
       refine rseq_pure (i := 12) (N := some 43) (v := ?_) (a' := ?_) rfl rfl (by rfl) (fun _ _ _ h => h) ?_ ?_ ?_
       rotate_left 2
       · intro w' hg; go_simp; with_reducible rfl
       · simp only [Act.put, List.setIfInBounds_toArray, List.set_cons_zero, List.set_cons_succ, i64_w, i32_w]; rfl
       refine rseq_pure (i := 13) (N := some 44) (v := ?_) (a' := ?_) rfl rfl (by rfl) (fun _ _ _ h => h) ?_ ?_ ?_
       rotate_left 2
       · intro w' hg; go_simp; with_reducible rfl
       · simp only [Act.put, List.setIfInBounds_toArray, List.set_cons_zero, List.set_cons_succ, i64_w, i32_w]; rfl
       refine rseq_pure (i := 14) (N := some 45) (v := ?_) (a' := ?_) rfl rfl (by rfl) (fun _ _ _ h => h) ?_ ?_ ?_
       rotate_left 2
       · intro w' hg; go_simp; with_reducible rfl
       · simp only [Act.put, List.setIfInBounds_toArray, List.set_cons_zero, List.set_cons_succ, i64_w, i32_w]; rfl
       refine rseq_pure (i := 15) (N := some 46) (v := ?_) (a' := ?_) rfl rfl (by rfl) (fun _ _ _ h => h) ?_ ?_ ?_
       rotate_left 2
       · intro w' hg; go_simp; with_reducible rfl
       · simp only [Act.put, List.setIfInBounds_toArray, List.set_cons_zero, List.set_cons_succ, i64_w, i32_w]; rfl
       refine rseq_pure (i := 16) (N := some 47) (v := ?_) (a' := ?_) rfl rfl (by rfl) (fun _ _ _ h => h) ?_ ?_ ?_
       rotate_left 2
       · intro w' hg; go_simp; with_reducible rfl
       · simp only [Act.put, List.setIfInBounds_toArray, List.set_cons_zero, List.set_cons_succ, i64_w, i32_w]; rfl
       refine rseq_pure (i := 17) (N := some 48) (v := ?_) (a' := ?_) rfl rfl (by rfl) (fun _ _ _ h => h) ?_ ?_ ?_
       rotate_left 2
       · intro w' hg; go_simp; with_reducible rfl
       · simp only [Act.put, List.setIfInBounds_toArray, List.set_cons_zero, List.set_cons_succ, i64_w, i32_w]; rfl
       refine rseq_pure (i := 18) (N := some 49) (v := ?_) (a' := ?_) rfl rfl (by rfl) (fun _ _ _ h => h) ?_ ?_ ?_
       rotate_left 2
       · intro w' hg; go_simp; with_reducible rfl
       · simp only [Act.put, List.setIfInBounds_toArray, List.set_cons_zero, List.set_cons_succ, i64_w, i32_w]; rfl
       refine rseq_pure (i := 19) (N := some 50) (v := ?_) (a' := ?_) rfl rfl (by rfl) (fun _ _ _ h => h) ?_ ?_ ?_
       rotate_left 2
       · intro w' hg; go_simp; with_reducible rfl
       · simp only [Act.put, List.setIfInBounds_toArray, List.set_cons_zero, List.set_cons_succ, i64_w, i32_w]; rfl
       refine rseq_pure (i := 20) (N := some 51) (v := ?_) (a' := ?_) rfl rfl (by rfl) (fun _ _ _ h => h) ?_ ?_ ?_
       rotate_left 2
       · intro w' hg; go_simp; with_reducible rfl
       · simp only [Act.put, List.setIfInBounds_toArray, List.set_cons_zero, List.set_cons_succ, i64_w, i32_w]; rfl
       refine rseq_pure (i := 21) (N := some 52) (v := ?_) (a' := ?_) rfl rfl (by rfl) (fun _ _ _ h => h) ?_ ?_ ?_
       rotate_left 2
       · intro w' hg; go_simp; with_reducible rfl
       · simp only [Act.put, List.setIfInBounds_toArray, List.set_cons_zero, List.set_cons_succ, i64_w, i32_w]; rfl
       refine rseq_pure (i := 22) (N := some 53) (v := ?_) (a' := ?_) rfl rfl (by rfl) (fun _ _ _ h => h) ?_ ?_ ?_
       rotate_left 2
       · intro w' hg; go_simp; with_reducible rfl
       · simp only [Act.put, List.setIfInBounds_toArray, List.set_cons_zero, List.set_cons_succ, i64_w, i32_w]; rfl
       refine rseq_pure (i := 23) (N := some 54) (v := ?_) (a' := ?_) rfl rfl (by rfl) (fun _ _ _ h => h) ?_ ?_ ?_
       rotate_left 2
       · intro w' hg; go_simp; with_reducible rfl
       · simp only [Act.put, List.setIfInBounds_toArray, List.set_cons_zero, List.set_cons_succ, i64_w, i32_w]; rfl
       refine rseq_pure (i := 24) (N := some 55) (v := ?_) (a' := ?_) rfl rfl (by rfl) (fun _ _ _ h => h) ?_ ?_ ?_
       rotate_left 2
       · intro w' hg; go_simp; with_reducible rfl
       · simp only [Act.put, List.setIfInBounds_toArray, List.set_cons_zero, List.set_cons_succ, i64_w, i32_w]; rfl
       refine rseq_pure (i := 25) (N := some 56) (v := ?_) (a' := ?_) rfl rfl (by rfl) (fun _ _ _ h => h) ?_ ?_ ?_
       rotate_left 2
       · intro w' hg; go_simp; with_reducible rfl
       · simp only [Act.put, List.setIfInBounds_toArray, List.set_cons_zero, List.set_cons_succ, i64_w, i32_w]; rfl
       refine rseq_pure (i := 26) (N := some 57) (v := ?_) (a' := ?_) rfl rfl (by rfl) (fun _ _ _ h => h) ?_ ?_ ?_
       rotate_left 2
       · intro w' hg; go_simp; with_reducible rfl
       · simp only [Act.put, List.setIfInBounds_toArray, List.set_cons_zero, List.set_cons_succ, i64_w, i32_w]; rfl
       refine rseq_pure (i := 27) (N := some 58) (v := ?_) (a' := ?_) rfl rfl (by rfl) (fun _ _ _ h => h) ?_ ?_ ?_
       rotate_left 2
       · intro w' hg; go_simp; with_reducible rfl
       · simp only [Act.put, List.setIfInBounds_toArray, List.set_cons_zero, List.set_cons_succ, i64_w, i32_w]; rfl
       refine rseq_pure (i := 28) (N := some 59) (v := ?_) (a' := ?_) rfl rfl (by rfl) (fun _ _ _ h => h) ?_ ?_ ?_
       rotate_left 2
       · intro w' hg; go_simp; with_reducible rfl
       · simp only [Act.put, List.setIfInBounds_toArray, List.set_cons_zero, List.set_cons_succ, i64_w, i32_w]; rfl
       refine rseq_pure (i := 29) (N := some 60) (v := ?_) (a' := ?_) rfl rfl (by rfl) (fun _ _ _ h => h) ?_ ?_ ?_
       rotate_left 2
       · intro w' hg; go_simp; with_reducible rfl
       · simp only [Act.put, List.setIfInBounds_toArray, List.set_cons_zero, List.set_cons_succ, i64_w, i32_w]; rfl
       refine rseq_pure (i := 30) (N := some 61) (v := ?_) (a' := ?_) rfl rfl (by rfl) (fun _ _ _ h => h) ?_ ?_ ?_
       rotate_left 2
       · intro w' hg; go_simp; with_reducible rfl
       · simp only [Act.put, List.setIfInBounds_toArray, List.set_cons_zero, List.set_cons_succ, i64_w, i32_w]; rfl
       refine rseq_skip (i := 31) (w1 := ?_) rfl rfl (by rfl) ?_ ?_ ?_
       rotate_left
       · go_simp
         rfl
       · exact ⟨fun h => absurd (by decide) h, trivial⟩
       refine rseq_done ?_
       have h2 := hd (HC.out.put x y)
       replace HS := hd (HS.out.far (g := gc) (i := x) (sl_ne HGC.out.2.1) (.int .u64 (y : Int)))
       replace HK := hd (HK.out.far (g := gc) (i := x) (sl_ne HGC.out.2.2) (.int .u64 (y : Int)))
       replace HBW := hd (HBW.out.setCell (p := ⟨gc, x, none⟩) HGC.out.1 (.int .u64 (y : Int)))
       generalize w5.setCell ⟨gc, x, none⟩ (.int .u64 (y : Int)) = w6 at h2 HS HK HBW ⊢
       rw [upto_succ _ _ x y (by simpa using hlt) HY.out.symm] at h2
       clear hcc0 fcc0 gx0 gx1 gx2 gx3 gx4 e1 e2 e3 e4 HC wm1 wm2 wm3 wm4 jm1 jm2 jm3 jm4 j0
       go_wp2
       go_roundw
       case rel => exact ⟨x + 1, hlt, by go_num, h2, HS, HK, HBW⟩
       case measure => simp [intOf]; omega
     · have i1 : ¬ ((x : Int) < 5) := by omega
       obtain rfl : x = 5 := by omega
       clear hi hlt
       rw [upto_all _ _ 5 (by simp)] at HC
       go_upto_region 13 with (fail)
       go_loopw [8] (fun u8 wr => ∃ k : Nat, k ≤ 25 ∧ u8 = .int .i64 k ∧ Aside0 (OwnK .u64 22 w.heap.size wr (.slice (some ⟨gc, 0, none⟩) 5 cc) ((List.range 5).map (colF l))) ∧ Aside0 (OwnK .u64 22 w.heap.size wr (.slice (some ⟨gs, 0, none⟩) 25 cs) (upto (thetaF l) l k)) ∧ Aside0 (OwnK .u64 22 w.heap.size wr (.slice (some ⟨gk, 0, none⟩) 24 24) (kecC)) ∧ Aside0 (Below w.heap.size w wr)) (fun u8 _ => 25 - (intOf u8).toNat)
       case atStart => exact ⟨0, by decide, rfl, HC, ⟨by rw [upto_zero]; exact HS.out⟩, HK, HBW⟩
       case round =>
        obtain ⟨k, hi, rfl, HC, HS, HK, HBW⟩ := hrel
        by_cases hlt : k < 25
        · have i1 : (k : Int) < 25 := by omega
          obtain ⟨x, hx⟩ : ∃ x, Aside0 (k % 5 = x) := ⟨_, ⟨rfl⟩⟩
          obtain ⟨p, hp4⟩ : ∃ p, Aside0 ((x + 4) % 5 = p) := ⟨_, ⟨rfl⟩⟩
          obtain ⟨r, hr1⟩ : ∃ r, Aside0 ((x + 1) % 5 = r) := ⟨_, ⟨rfl⟩⟩
          have hp : p < 5 := by rw [← hp4.out]; exact Nat.mod_lt _ (by decide)
          have hr : r < 5 := by rw [← hr1.out]; exact Nat.mod_lt _ (by decide)
          have HX5 := hd (show x < 5 by rw [← hx.out]; exact Nat.mod_lt _ (by decide))
          have t1 : Int.tmod (k : Int) 5 = (x : Int) := by rw [← hx.out]; exact (Int.ofNat_tmod k 5).symm
          have t1' : (k : Int) % 5 = (x : Int) := by rw [← hx.out]; exact (Int.natCast_emod k 5).symm
          have u1 : wrap64 ((x : Int) + 4) = (x : Int) + 4 := wrap_sum (b := 4) (Nat.le_trans (Nat.le_of_lt HX5.out) (by decide)) (by decide)
          have u2 : wrap64 ((x : Int) + 1) = (x : Int) + 1 := wrap_sum (b := 1) (Nat.le_trans (Nat.le_of_lt HX5.out) (by decide)) (by decide)
          have t2 : Int.tmod ((x : Int) + 4) 5 = (p : Int) := by rw [← hp4.out]; exact (Int.ofNat_tmod (x + 4) 5).symm
          have t3 : Int.tmod ((x : Int) + 1) 5 = (r : Int) := by rw [← hr1.out]; exact (Int.ofNat_tmod (x + 1) 5).symm
          have jp : (p : Int) < 5 := Int.ofNat_lt.2 hp
          have jr : (r : Int) < 5 := Int.ofNat_lt.2 hr
          clear hi
          go_upto_region 15 with (fail)
          refine upR_start Keeps.any [24] [(0, 1), (1, 1), (2, 1), (3, 1), (4, 1), (5, 1), (6, 1), (7, 1), (8, 1), (9, 1), (10, 1), (11, 1), (12, 1), (13, 1), (14, 1), (15, 1), (16, 1), (17, 1), (18, 1), (19, 1), (20, 1), (21, 0), (22, 1), (23, 1), (24, 0)] (by kernel_rfl) rfl (by kernel_rfl) (by kernel_rfl) ?_
          have hdr := below_drew (Below.refl wr.heap.size wr)
          replace HC := hd (HC.out.below hdr)
          replace HS := hd (HS.out.below hdr)
          replace HK := hd (HK.out.below hdr)
          replace HBW := hd (below_seq HBW.out hdr)
          generalize wr.drew = w5 at hdr HC HS HK HBW ⊢
          clear hdr
          obtain ⟨x0, X0, hx0, fx0⟩ := HS.out.cellx (k) (hlt)

          have gx0 := Grow.cells hx0
          obtain ⟨y0, Y0, hy0, fy0⟩ := HC.out.cellx (p) (hp)
          have gy0 := Grow.cells hy0
          clear hy0 fy0
          obtain ⟨y1, Y1, hy1, fy1⟩ := HC.out.cellx (r) (hr)
          have gy1 := Grow.cells hy1
          clear hy1 fy1
          have X0' := X0.out
          rw [upto_old _ _ _ _ (Nat.le_refl k)] at X0'
          have Y0' := Y0.out
          have Y1' := Y1.out
          rw [List.getD_eq_getElem?_getD, List.getElem?_map, List.getElem?_range hp] at Y0'
          rw [List.getD_eq_getElem?_getD, List.getElem?_map, List.getElem?_range hr] at Y1'
          obtain ⟨z, HZ⟩ : ∃ z, Aside0 (rotL y1 1 = z) := ⟨_, ⟨rfl⟩⟩
          obtain ⟨y, HY⟩ : ∃ y, Aside0 (thetaF l k = y) := ⟨_, ⟨rfl⟩⟩
          have lx0 : x0 < 2 ^ 64 := by rw [← X0']; exact HLL.out.getD _
          have ly0 : y0 < 2 ^ 64 := by rw [← Y0']; exact colF_lt HLL.out _
          have ly1 : y1 < 2 ^ 64 := by rw [← Y1']; exact colF_lt HLL.out _
          have HLY := hd ly1
          have lz : z < 2 ^ 64 := by rw [← HZ.out]; exact rotL_lt ly1 (by decide)
          have e1 : bits .xor .u64 (x0 : Int) (y0 : Int) = ((x0 ^^^ y0 : Nat) : Int) := xor_u64 lx0 ly0
          have e2 : bits .xor .u64 ((x0 ^^^ y0 : Nat) : Int) (z : Int) = (y : Int) := by
           rw [xor_u64 (xor64 lx0 ly0) lz, ← HY.out]
           congr 1
           rw [thetaF, hx.out, hp4.out, hr1.out, X0', ← HZ.out, ← Y0', ← Y1', Nat.xor_assoc]
           rfl
          clear X0' Y0' Y1' lx0 ly0 ly1 lz
          refine rseq_pure (i := 0) (N := some 66) (v := ?_) (a' := ?_) rfl rfl (by rfl) (fun _ _ _ h => h) ?_ ?_ ?_
          rotate_left 2
          · intro w' hg; go_simp; with_reducible rfl
          · simp only [Act.put, List.setIfInBounds_toArray, List.set_cons_zero, List.set_cons_succ, i64_w, i32_w]; rfl
          refine rseq_pure (i := 1) (N := some 67) (v := ?_) (a' := ?_) rfl rfl (by rfl) (fun _ _ _ h => h) ?_ ?_ ?_
          rotate_left 2
          · intro w' hg; go_simp; with_reducible rfl
          · simp only [Act.put, List.setIfInBounds_toArray, List.set_cons_zero, List.set_cons_succ, i64_w, i32_w]; rfl
          refine rseq_pure (i := 2) (N := some 68) (v := ?_) (a' := ?_) rfl rfl (by rfl) (fun _ _ _ h => h) ?_ ?_ ?_
          rotate_left 2
          · intro w' hg; go_simp; with_reducible rfl
          · simp only [Act.put, List.setIfInBounds_toArray, List.set_cons_zero, List.set_cons_succ, i64_w, i32_w]; rfl
          refine rseq_pure (i := 3) (N := some 69) (v := ?_) (a' := ?_) rfl rfl (by rfl) (fun _ _ _ h => h) ?_ ?_ ?_
          rotate_left 2
          · intro w' hg; go_simp; with_reducible rfl
          · simp only [Act.put, List.setIfInBounds_toArray, List.set_cons_zero, List.set_cons_succ, i64_w, i32_w]; rfl
          refine rseq_pure (i := 4) (N := some 70) (v := ?_) (a' := ?_) rfl rfl (by rfl) (fun _ _ _ h => h) ?_ ?_ ?_
          rotate_left 2
          · intro w' hg; go_simp; with_reducible rfl
          · simp only [Act.put, List.setIfInBounds_toArray, List.set_cons_zero, List.set_cons_succ, i64_w, i32_w]; rfl
          refine rseq_pure (i := 5) (N := some 71) (v := ?_) (a' := ?_) rfl rfl (by rfl) (fun _ _ _ h => h) ?_ ?_ ?_
          rotate_left 2
          · intro w' hg; go_simp; with_reducible rfl
          · simp only [Act.put, List.setIfInBounds_toArray, List.set_cons_zero, List.set_cons_succ, i64_w, i32_w]; rfl
          refine rseq_pure (i := 6) (N := some 72) (v := ?_) (a' := ?_) rfl rfl (by rfl) (fun _ _ _ h => h) ?_ ?_ ?_
          rotate_left 2
          · intro w' hg; go_simp; with_reducible rfl
          · simp only [Act.put, List.setIfInBounds_toArray, List.set_cons_zero, List.set_cons_succ, i64_w, i32_w]; rfl
          refine rseq_pure (i := 7) (N := some 73) (v := ?_) (a' := ?_) rfl rfl (by rfl) (fun _ _ _ h => h) ?_ ?_ ?_
          rotate_left 2
          · intro w' hg; go_simp; with_reducible rfl
          · simp only [Act.put, List.setIfInBounds_toArray, List.set_cons_zero, List.set_cons_succ, i64_w, i32_w]; rfl
          refine rseq_pure (i := 8) (N := some 74) (v := ?_) (a' := ?_) rfl rfl (by rfl) (fun _ _ _ h => h) ?_ ?_ ?_
          rotate_left 2
          · intro w' hg; go_simp; with_reducible rfl
          · simp only [Act.put, List.setIfInBounds_toArray, List.set_cons_zero, List.set_cons_succ, i64_w, i32_w]; rfl
          refine rseq_pure (i := 9) (N := some 75) (v := ?_) (a' := ?_) rfl rfl (by rfl) (fun _ _ _ h => h) ?_ ?_ ?_
          rotate_left 2
          · intro w' hg; go_simp; with_reducible rfl
          · simp only [Act.put, List.setIfInBounds_toArray, List.set_cons_zero, List.set_cons_succ, i64_w, i32_w]; rfl
          refine rseq_pure (i := 10) (N := some 76) (v := ?_) (a' := ?_) rfl rfl (by rfl) (fun _ _ _ h => h) ?_ ?_ ?_
          rotate_left 2
          · intro w' hg; go_simp; with_reducible rfl
          · simp only [Act.put, List.setIfInBounds_toArray, List.set_cons_zero, List.set_cons_succ, i64_w, i32_w]; rfl
          refine rseq_pure (i := 11) (N := some 77) (v := ?_) (a' := ?_) rfl rfl (by rfl) (fun _ _ _ h => h) ?_ ?_ ?_
          rotate_left 2
          · intro w' hg; go_simp; with_reducible rfl
          · simp only [Act.put, List.setIfInBounds_toArray, List.set_cons_zero, List.set_cons_succ, i64_w, i32_w]; rfl
          refine rseq_pure (i := 12) (N := some 78) (v := ?_) (a' := ?_) rfl rfl (by rfl) (fun _ _ _ h => h) ?_ ?_ ?_
          rotate_left 2
          · intro w' hg; go_simp; with_reducible rfl
          · simp only [Act.put, List.setIfInBounds_toArray, List.set_cons_zero, List.set_cons_succ, i64_w, i32_w]; rfl
          refine rseq_pure (i := 13) (N := some 79) (v := ?_) (a' := ?_) rfl rfl (by rfl) (fun _ _ _ h => h) ?_ ?_ ?_
          rotate_left 2
          · intro w' hg; go_simp; with_reducible rfl
          · simp only [Act.put, List.setIfInBounds_toArray, List.set_cons_zero, List.set_cons_succ, i64_w, i32_w]; rfl
          refine rseq_pure (i := 14) (N := some 80) (v := ?_) (a' := ?_) rfl rfl (by rfl) (fun _ _ _ h => h) ?_ ?_ ?_
          rotate_left 2
          · intro w' hg; go_simp; with_reducible rfl
          · simp only [Act.put, List.setIfInBounds_toArray, List.set_cons_zero, List.set_cons_succ, i64_w, i32_w]; rfl
          refine rseq_pure (i := 15) (N := some 81) (v := ?_) (a' := ?_) rfl rfl (by rfl) (fun _ _ _ h => h) ?_ ?_ ?_
          rotate_left 2
          · intro w' hg; go_simp; with_reducible rfl
          · simp only [Act.put, List.setIfInBounds_toArray, List.set_cons_zero, List.set_cons_succ, i64_w, i32_w]; rfl
          refine rseq_pure (i := 16) (N := some 82) (v := ?_) (a' := ?_) rfl rfl (by rfl) (fun _ _ _ h => h) ?_ ?_ ?_
          rotate_left 2
          · intro w' hg; go_simp; with_reducible rfl
          · simp only [Act.put, List.setIfInBounds_toArray, List.set_cons_zero, List.set_cons_succ, i64_w, i32_w]; rfl
          refine rseq_pure (i := 17) (N := some 83) (v := ?_) (a' := ?_) rfl rfl (by rfl) (fun _ _ _ h => h) ?_ ?_ ?_
          rotate_left 2
          · intro w' hg; go_simp; with_reducible rfl
          · simp only [Act.put, List.setIfInBounds_toArray, List.set_cons_zero, List.set_cons_succ, i64_w, i32_w]; rfl
          refine rseq_pure (i := 18) (N := some 84) (v := ?_) (a' := ?_) rfl rfl (by rfl) (fun _ _ _ h => h) ?_ ?_ ?_
          rotate_left 2
          · intro w' hg; go_simp; with_reducible rfl
          · simp only [Act.put, List.setIfInBounds_toArray, List.set_cons_zero, List.set_cons_succ, i64_w, i32_w]; rfl
          refine rseq_pure (i := 19) (N := some 85) (v := ?_) (a' := ?_) rfl rfl (by rfl) (fun _ _ _ h => h) ?_ ?_ ?_
          rotate_left 2
          · intro w' hg; go_simp; with_reducible rfl
          · simp only [Act.put, List.setIfInBounds_toArray, List.set_cons_zero, List.set_cons_succ, i64_w, i32_w]; rfl
          refine rseq_pure (i := 20) (N := some 86) (v := ?_) (a' := ?_) rfl rfl (by rfl) (fun _ _ _ h => h) ?_ ?_ ?_
          rotate_left 2
          · intro w' hg; go_simp; with_reducible rfl
          · simp only [Act.put, List.setIfInBounds_toArray, List.set_cons_zero, List.set_cons_succ, i64_w, i32_w]; rfl
          refine rseq_call (i := 21) (N := some 87) rfl rfl Tryd.func111 (by kernel_rfl) rfl #[.int .u64 (y1 : Int), .int .i64 1] (by rfl) rfl ?_ ?_
          · simp only [List.map_toArray, List.map_cons, List.map_nil]
            rfl
          refine (turn64_calls (k := 1) HLY.out (by decide)).mono ?_
          rintro e w6 ⟨rfl, rfl⟩
          rw [HZ.out]
          refine ⟨_, rfl, ⟨fun _ => Grow.refl _, trivial⟩, ?_⟩
          refine rseq_norm (a' := ?_) ?_ ?_
          rotate_left
          · show Act.put _ (some 87) _ = _; simp only [Act.put, List.setIfInBounds_toArray, List.set_cons_zero, List.set_cons_succ, i64_w, i32_w]; rfl
          refine rseq_pure (i := 22) (N := some 88) (v := ?_) (a' := ?_) rfl rfl (by rfl) (fun _ _ _ h => h) ?_ ?_ ?_
          rotate_left 2
          · intro w' hg; go_simp; with_reducible rfl
          · simp only [Act.put, List.setIfInBounds_toArray, List.set_cons_zero, List.set_cons_succ, i64_w, i32_w]; rfl
          refine rseq_pure (i := 23) (N := some 89) (v := ?_) (a' := ?_) rfl rfl (by rfl) (fun _ _ _ h => h) ?_ ?_ ?_
          rotate_left 2
          · intro w' hg; go_simp; with_reducible rfl
          · simp only [Act.put, List.setIfInBounds_toArray, List.set_cons_zero, List.set_cons_succ, i64_w, i32_w]; rfl
          refine rseq_skip (i := 24) (w1 := ?_) rfl rfl (by rfl) ?_ ?_ ?_
          rotate_left
          · go_simp
            rfl
          · exact ⟨fun h => absurd (by decide) h, trivial⟩
          refine rseq_done ?_
          have h2 := hd (HS.out.put k y)
          replace HC := hd (HC.out.far (g := gs) (i := k) (sl_ne HGC.out.2.1.symm) (.int .u64 (y : Int)))
          replace HK := hd (HK.out.far (g := gs) (i := k) (sl_ne HSK.out.symm) (.int .u64 (y : Int)))
          replace HBW := hd (HBW.out.setCell (p := ⟨gs, k, none⟩) HG.out.1 (.int .u64 (y : Int)))
          generalize w5.setCell ⟨gs, k, none⟩ (.int .u64 (y : Int)) = w6 at h2 HC HK HBW ⊢
          rw [upto_succ _ _ k y (by rw [HLN.out]; exact hlt) HY.out.symm] at h2
          clear hx0 fx0 gx0 gy0 gy1 e1 e2 HS t1 t1' t2 t3 u1 u2 jp jr hp hr
          go_wp2
          go_roundw
          case rel => exact ⟨k + 1, hlt, by go_num, HC, h2, HK, HBW⟩
          case measure => simp [intOf]; omega
        · have i1 : ¬ ((k : Int) < 25) := by omega
          obtain rfl : k = 25 := by omega
          clear hi hlt HC hck1
          rw [upto_all _ _ 25 HLN.out] at HS
          obtain ⟨l1, hl1⟩ : ∃ l1, Aside0 (thetaN l = l1) := ⟨_, ⟨rfl⟩⟩
          rw [show (List.range 25).map (thetaF l) = l1 from hl1.out] at HS
          replace HLN := hd (show l1.length = 25 by rw [← hl1.out]; exact thetaN_length l)
          replace HLL := hd (show Lanes l1 by rw [← hl1.out]; exact thetaN_ok HLL.out)
          go_wp2_with fail
          refine lanes_calls.mono ?_
          rintro e w4 ⟨gp, cp, rfl, hcp, hg1, hg2, ho, hb⟩
          have HP := hd (ho.lower HBW.out.size)
          have HGP := hd (show w.heap.size ≤ gp ∧ gs ≠ gp ∧ gk ≠ gp from ⟨Nat.le_trans HBW.out.size hg1, by have := (HS.out.lt gs rfl).2; omega, by have := (HK.out.lt gk rfl).2; omega⟩)
          have hcp1 : (25 : Int) ≤ cp := by omega
          replace HS := hd (HS.out.below hb)
          replace HK := hd (HK.out.below hb)
          replace HBW := hd (below_seq HBW.out hb)
          clear ho hb hg1 hg2 hcp i1
          obtain ⟨z0, HZ0, hz0, _⟩ := HS.out.cellx 0 (by decide)
          obtain ⟨z1, _, hz1, fz1⟩ := HP.out.cellx 0 (by decide)
          go_upto_region 20 with (fail)
          have h2 := hd (HP.out.put 0 z0)
          replace HS := hd (HS.out.far (g := gp) (i := 0) (sl_ne HGP.out.2.1) (.int .u64 (z0 : Int)))
          replace HK := hd (HK.out.far (g := gp) (i := 0) (sl_ne HGP.out.2.2) (.int .u64 (z0 : Int)))
          replace HBW := hd (HBW.out.setCell (p := ⟨gp, 0, none⟩) HGP.out.1 (.int .u64 (z0 : Int)))
          rw [show (List.replicate 25 0).set 0 z0 = movesN l1 0 by rw [movesN, HZ0.out]] at h2
          replace HP := h2
          generalize w4.setCell ⟨gp, 0, none⟩ (.int .u64 (z0 : Int)) = w5 at HP HS HK HBW ⊢
          clear hz0 hz1 fz1 h2
          go_upto_region 21 with (fail)
          go_loopw [10, 11, 12, 13] (fun u10 u11 u12 u13 wr => ∃ t : Nat, t ≤ 24 ∧ u10 = .int .i64 ((walkX t).1 : Int) ∧ u11 = .int .i64 ((walkX t).2 : Int) ∧ u12 = .int .i64 t ∧ Aside0 (OwnK .u64 22 w.heap.size wr (.slice (some ⟨gp, 0, none⟩) 25 cp) (movesN l1 t)) ∧ Aside0 (OwnK .u64 22 w.heap.size wr (.slice (some ⟨gs, 0, none⟩) 25 cs) (l1)) ∧ Aside0 (OwnK .u64 22 w.heap.size wr (.slice (some ⟨gk, 0, none⟩) 24 24) (kecC)) ∧ Aside0 (Below w.heap.size w wr)) (fun _ _ u12 _ _ => 24 - (intOf u12).toNat)
          case atStart => exact ⟨0, by decide, rfl, rfl, rfl, HP, HS, HK, HBW⟩
          case round =>
           obtain ⟨t, hi, rfl, rfl, rfl, HP, HS, HK, HBW⟩ := hrel
           by_cases hlt : t < 24
           · have i1 : (t : Int) < 24 := by omega
             obtain ⟨x, hx⟩ : ∃ x, Aside0 ((walkX t).1 = x) := ⟨_, ⟨rfl⟩⟩
             obtain ⟨y, hy⟩ : ∃ y, Aside0 ((walkX t).2 = y) := ⟨_, ⟨rfl⟩⟩
             rw [hx.out, hy.out]
             obtain ⟨r, hr⟩ : ∃ r, Aside0 ((2 * x + 3 * y) % 5 = r) := ⟨_, ⟨rfl⟩⟩
             obtain ⟨d, hdd⟩ : ∃ d, Aside0 (y + 5 * r = d) := ⟨_, ⟨rfl⟩⟩
             obtain ⟨sr, hsr⟩ : ∃ sr, Aside0 (x + 5 * y = sr) := ⟨_, ⟨rfl⟩⟩
             obtain ⟨m, hm⟩ : ∃ m, Aside0 ((t + 1) * (t + 2) = m) := ⟨_, ⟨rfl⟩⟩
             obtain ⟨m2, hm2⟩ : ∃ m2, Aside0 (m / 2 = m2) := ⟨_, ⟨rfl⟩⟩
             obtain ⟨by_, hby⟩ : ∃ b, Aside0 (m2 % 64 = b) := ⟨_, ⟨rfl⟩⟩
             have HIX := hd (show sr < 25 ∧ d < 25 ∧ m ≤ 600 from by
              obtain ⟨h1, h2, h3⟩ := moves_ix t hlt
              rw [srcX, hx.out, hy.out, hsr.out] at h1
              rw [dstX, hx.out, hy.out, hr.out, hdd.out] at h2
              rw [hm.out] at h3
              exact ⟨h1, h2, h3⟩)
             have hxl : x < 5 := by rw [← hx.out]; exact (walkX_lt t).1
             have hyl : y < 5 := by rw [← hy.out]; exact (walkX_lt t).2
             have hxi : (x : Int) < 5 := by omega
             have hyi : (y : Int) < 5 := by omega
             have hri : (r : Int) < 5 := Int.ofNat_lt.2 (show r < 5 by rw [← hr.out]; exact Nat.mod_lt _ (by decide))
             have e1 : Int.tmod (2 * (x : Int) + 3 * (y : Int)) 5 = (r : Int) := by rw [← hr.out]; exact (Int.ofNat_tmod (2 * x + 3 * y) 5).symm
             have e1' : (2 * (x : Int) + 3 * (y : Int)) % 5 = (r : Int) := by rw [← hr.out]; exact (Int.natCast_emod (2 * x + 3 * y) 5).symm
             have e2 : (y : Int) + 5 * (r : Int) = (d : Int) := by rw [← hdd.out]; push_cast; rfl
             have e3 : (x : Int) + 5 * (y : Int) = (sr : Int) := by rw [← hsr.out]; push_cast; rfl
             have e4 : ((t : Int) + 1) * ((t : Int) + 2) = (m : Int) := by rw [← hm.out]; push_cast; rfl
             have e5 : Int.tdiv (m : Int) 2 = (m2 : Int) := by rw [← hm2.out]; exact (Int.ofNat_tdiv m 2).symm
             have e5' : (m : Int) / 2 = (m2 : Int) := by rw [← hm2.out]; exact (Int.natCast_ediv m 2).symm
             have e6 : Int.tmod (m2 : Int) 64 = (by_ : Int) := by rw [← hby.out]; exact (Int.ofNat_tmod m2 64).symm
             have e6' : (m2 : Int) % 64 = (by_ : Int) := by rw [← hby.out]; exact (Int.natCast_emod m2 64).symm
             have hmi : (m : Int) ≤ 600 := by have := HIX.out.2.2; omega
             have hm2i : (m2 : Int) ≤ 600 := by have := HIX.out.2.2; have := hm2.out; omega
             have jd : (d : Int) < 25 := by have := HIX.out.2.1; omega
             have js : (sr : Int) < 25 := by have := HIX.out.1; omega
             obtain ⟨v, HV, hv, _⟩ := HS.out.cellx sr HIX.out.1
             obtain ⟨v2, _, hv2, fv2⟩ := HP.out.cellx d HIX.out.2.1
             clear hi hxl hyl
             go_wp2_with fail
             refine (turn64_calls (x := v) (k := by_) (by rw [← HV.out]; exact HLL.out.getD _) (by rw [← hby.out]; exact Nat.mod_lt _ (by decide))).mono ?_
             rintro e w' ⟨rfl, rfl⟩
             obtain ⟨z, HZ⟩ : ∃ z, Aside0 (rotL v by_ = z) := ⟨_, ⟨rfl⟩⟩
             rw [HZ.out]
             go_upto_region 24 with (fail)
             have h2 := hd (HP.out.put d z)
             replace HS := hd (HS.out.far (g := gp) (i := d) (sl_ne HGP.out.2.1) (.int .u64 (z : Int)))
             replace HK := hd (HK.out.far (g := gp) (i := d) (sl_ne HGP.out.2.2) (.int .u64 (z : Int)))
             replace HBW := hd (HBW.out.setCell (p := ⟨gp, d, none⟩) HGP.out.1 (.int .u64 (z : Int)))
             generalize wr.setCell ⟨gp, d, none⟩ (.int .u64 (z : Int)) = w6 at h2 HS HK HBW ⊢
             rw [show (movesN l1 t).set d z = movesN l1 (t + 1) by rw [movesN, dstX, srcX, byX, hx.out, hy.out, hr.out, hdd.out, hsr.out, hm.out, hm2.out, hby.out, HV.out, HZ.out]] at h2
             clear hv hv2 fv2 e2 e3 e4 e5 e5' e6 e6' hmi hm2i jd js HP
             go_wp2
             go_roundw
             case rel => exact ⟨t + 1, hlt, by rw [show (walkX (t + 1)).1 = y from hy.out], by rw [show (walkX (t + 1)).2 = (2 * (walkX t).1 + 3 * (walkX t).2) % 5 from rfl, hx.out, hy.out, hr.out], by go_num, h2, HS, HK, HBW⟩
             case measure => simp [intOf]; omega
           · have i1 : ¬ ((t : Int) < 24) := by omega
             obtain rfl : t = 24 := by omega
             clear hi hlt
             obtain ⟨l, hl2⟩ : ∃ l, Aside0 (movesN l1 24 = l) := ⟨_, ⟨rfl⟩⟩
             rw [hl2.out] at HP
             replace HLL := hd (show Lanes l by rw [← hl2.out]; exact movesN_ok HLL.out 24)
             have HLF := hd (show l = piN (rhoN l1) by rw [← hl2.out]; exact moves_all (show Lanes l1 by rw [← hl1.out]; exact thetaN_ok (by rw [← hll.out]; exact roundsN_ok hl.out i)))
             have HL25 := hd (show l.length = 25 by rw [← hl2.out]; exact movesN_length _ _)
             go_upto_region 28 with (fail)
             go_loopw [14, 15, 16] (fun u14 u15 u16 wr => ∃ k : Nat, k ≤ 25 ∧ u14 = .int .i64 k ∧ Aside0 (OwnK .u64 22 w.heap.size wr (.slice (some ⟨gp, 0, none⟩) 25 cp) (l)) ∧ Aside0 (OwnK .u64 22 w.heap.size wr (.slice (some ⟨gs, 0, none⟩) 25 cs) (upto (chiF l) l1 k)) ∧ Aside0 (OwnK .u64 22 w.heap.size wr (.slice (some ⟨gk, 0, none⟩) 24 24) (kecC)) ∧ Aside0 (Below w.heap.size w wr)) (fun u14 _ _ _ => 25 - (intOf u14).toNat)
             case atStart => exact ⟨0, by decide, rfl, HP, ⟨by rw [upto_zero]; exact HS.out⟩, HK, HBW⟩
             case round =>
              obtain ⟨k, hi, rfl, HP, HS, HK, HBW⟩ := hrel
              by_cases hlt : k < 25
              · have i1 : (k : Int) < 25 := by omega
                obtain ⟨x, hx⟩ : ∃ x, Aside0 (k % 5 = x) := ⟨_, ⟨rfl⟩⟩
                obtain ⟨row, hrow⟩ : ∃ row, Aside0 (k - x = row) := ⟨_, ⟨rfl⟩⟩
                obtain ⟨p, hp⟩ : ∃ p, Aside0 ((x + 2) % 5 = p) := ⟨_, ⟨rfl⟩⟩
                obtain ⟨r, hr⟩ : ∃ r, Aside0 ((x + 1) % 5 = r) := ⟨_, ⟨rfl⟩⟩
                obtain ⟨p2, hp2⟩ : ∃ p2, Aside0 (row + p = p2) := ⟨_, ⟨rfl⟩⟩
                obtain ⟨r2, hr2⟩ : ∃ r2, Aside0 (row + r = r2) := ⟨_, ⟨rfl⟩⟩
                obtain ⟨HX5, HXI, HP5, HR5, HR20, HP25, HR25⟩ : Aside0 (x < 5) ∧ Aside0 (x ≤ k) ∧ Aside0 (p < 5) ∧ Aside0 (r < 5) ∧ Aside0 (row ≤ 20) ∧ Aside0 (p2 < 25) ∧ Aside0 (r2 < 25) := by
                 obtain ⟨h1, h2, h3, h4, h5, h6, h7⟩ := chi_ix k hlt
                 rw [hx.out] at h1 h2 h3 h4 h5 h6 h7
                 rw [hrow.out] at h5 h6 h7
                 rw [hp.out] at h3 h6
                 rw [hr.out] at h4 h7
                 exact ⟨⟨h1⟩, ⟨h2⟩, ⟨h3⟩, ⟨h4⟩, ⟨h5⟩, ⟨by rw [← hp2.out]; exact h6⟩, ⟨by rw [← hr2.out]; exact h7⟩⟩
                have hr25 := HR25.out
                have t1 : Int.tmod (k : Int) 5 = (x : Int) := by rw [← hx.out]; exact (Int.ofNat_tmod k 5).symm
                have t1' : (k : Int) % 5 = (x : Int) := by rw [← hx.out]; exact (Int.natCast_emod k 5).symm
                have t5 : (k : Int) - (x : Int) = (row : Int) := by rw [← hrow.out]; exact (Int.natCast_sub HXI.out).symm
                have u1 : wrap64 ((x : Int) + 2) = (x : Int) + 2 := wrap_sum (b := 2) (Nat.le_of_lt (Nat.lt_of_lt_of_le HX5.out (by decide))) (by decide)
                have u2 : wrap64 ((x : Int) + 1) = (x : Int) + 1 := wrap_sum (b := 1) (Nat.le_of_lt (Nat.lt_of_lt_of_le HX5.out (by decide))) (by decide)
                have t2 : Int.tmod ((x : Int) + 2) 5 = (p : Int) := by rw [← hp.out]; exact (Int.ofNat_tmod (x + 2) 5).symm
                have t3 : Int.tmod ((x : Int) + 1) 5 = (r : Int) := by rw [← hr.out]; exact (Int.ofNat_tmod (x + 1) 5).symm
                have t2' : ((x : Int) + 2) % 5 = (p : Int) := by rw [← hp.out]; exact (Int.natCast_emod (x + 2) 5).symm
                have u3 : wrap64 ((row : Int) + (p : Int)) = (p2 : Int) := (wrap_sum (Nat.le_trans HR20.out (by decide)) (Nat.le_trans (Nat.le_of_lt HP5.out) (by decide))).trans (by rw [← hp2.out]; push_cast; rfl)
                have u3' : (row : Int) + (p : Int) = (p2 : Int) := by rw [← hp2.out]; push_cast; rfl
                have u4' : wrap64 ((row : Int) + (r : Int)) = (r2 : Int) := (wrap_sum (Nat.le_trans HR20.out (by decide)) (Nat.le_trans (Nat.le_of_lt HR5.out) (by decide))).trans (by rw [← hr2.out]; push_cast; rfl)
                have jp : (p2 : Int) < 25 := Int.ofNat_lt.2 HP25.out
                have jr : (r2 : Int) < 25 := Int.ofNat_lt.2 HR25.out
                have hxx : (x : Int) ≤ k := Int.ofNat_le.2 HXI.out
                have hxy : (x : Int) < 5 := Int.ofNat_lt.2 HX5.out
                obtain ⟨y0, Y0F, hy0, _⟩ := HP.out.cellx p2 HP25.out
                have HY0 := hd (show y0 < 2 ^ 64 by rw [← Y0F.out]; exact HLL.out.getD _)
                clear hi
                go_upto_region 32 with (fail)
                refine upR_start Keeps.any [21] [(0, 1), (1, 1), (2, 1), (3, 1), (4, 1), (5, 1), (6, 1), (7, 1), (8, 1), (9, 1), (10, 1), (11, 1), (12, 1), (13, 1), (14, 1), (15, 1), (16, 1), (17, 1), (18, 1), (19, 1), (20, 1), (21, 0)] (by kernel_rfl) rfl (by kernel_rfl) (by kernel_rfl) ?_
                have hdr := below_drew (Below.refl wr.heap.size wr)
                replace HP := hd (HP.out.below hdr)
                replace HS := hd (HS.out.below hdr)
                replace HK := hd (HK.out.below hdr)
                replace HBW := hd (below_seq HBW.out hdr)
                generalize wr.drew = w5 at hdr HP HS HK HBW ⊢
                clear hdr
                obtain ⟨x0, X0, hx0, fx0⟩ := HP.out.cellx (k) (hlt)
                have gx0 := Grow.cells hx0
                clear hx0 fx0
                obtain ⟨y1, Y1, hy1, fy1⟩ := HP.out.cellx (r2) (hr25)
                have gy1 := Grow.cells hy1
                clear hy1 fy1
                obtain ⟨sc, SC, hsc, fsc⟩ := HS.out.cellx (k) (hlt)

                obtain ⟨y, HY⟩ : ∃ y, Aside0 (chiF l k = y) := ⟨_, ⟨rfl⟩⟩
                have lx0 : x0 < 2 ^ 64 := by rw [← X0.out]; exact HLL.out.getD _
                have ly1 : y1 < 2 ^ 64 := by rw [← Y1.out]; exact HLL.out.getD _
                have ly0 : y0 < 2 ^ 64 := HY0.out
                obtain ⟨s, HSS⟩ : ∃ s, Aside0 (y0 - (y0 &&& y1) = s) := ⟨_, ⟨rfl⟩⟩
                have hle : y0 &&& y1 ≤ y0 := Nat.and_le_left
                have ls : s < 2 ^ 64 := by rw [← HSS.out]; exact Nat.lt_of_le_of_lt (Nat.sub_le _ _) ly0
                have e1 : bits .and .u64 (y0 : Int) (y1 : Int) = ((y0 &&& y1 : Nat) : Int) := and_u64 ly0 ly1
                have e3 : IntKind.u64.wrap ((y0 : Int) - ((y0 &&& y1 : Nat) : Int)) = (s : Int) := by rw [← Int.natCast_sub hle, HSS.out]; exact wrapN_u (k := .u64) rfl ls
                have e2 : bits .xor .u64 (x0 : Int) (s : Int) = (y : Int) := by
                 rw [xor_u64 lx0 ls, ← HY.out, chiF, farF, nearF, hx.out, hrow.out, hp.out, hr.out, hp2.out, hr2.out, X0.out, Y0F.out, Y1.out, HSS.out]
                clear lx0 ly0 ly1 ls hle
                refine rseq_pure (i := 0) (N := some 151) (v := ?_) (a' := ?_) rfl rfl (by rfl) (fun _ _ _ h => h) ?_ ?_ ?_
                rotate_left 2
                · intro w' hg; go_simp; with_reducible rfl
                · simp only [Act.put, List.setIfInBounds_toArray, List.set_cons_zero, List.set_cons_succ, i64_w, i32_w]; rfl
                refine rseq_pure (i := 1) (N := some 152) (v := ?_) (a' := ?_) rfl rfl (by rfl) (fun _ _ _ h => h) ?_ ?_ ?_
                rotate_left 2
                · intro w' hg; go_simp; with_reducible rfl
                · simp only [Act.put, List.setIfInBounds_toArray, List.set_cons_zero, List.set_cons_succ, i64_w, i32_w]; rfl
                refine rseq_pure (i := 2) (N := some 153) (v := ?_) (a' := ?_) rfl rfl (by rfl) (fun _ _ _ h => h) ?_ ?_ ?_
                rotate_left 2
                · intro w' hg; go_simp; with_reducible rfl
                · simp only [Act.put, List.setIfInBounds_toArray, List.set_cons_zero, List.set_cons_succ, i64_w, i32_w]; rfl
                refine rseq_pure (i := 3) (N := some 154) (v := ?_) (a' := ?_) rfl rfl (by rfl) (fun _ _ _ h => h) ?_ ?_ ?_
                rotate_left 2
                · intro w' hg; go_simp; with_reducible rfl
                · simp only [Act.put, List.setIfInBounds_toArray, List.set_cons_zero, List.set_cons_succ, i64_w, i32_w]; rfl
                refine rseq_pure (i := 4) (N := some 155) (v := ?_) (a' := ?_) rfl rfl (by rfl) (fun _ _ _ h => h) ?_ ?_ ?_
                rotate_left 2
                · intro w' hg; go_simp; with_reducible rfl
                · simp only [Act.put, List.setIfInBounds_toArray, List.set_cons_zero, List.set_cons_succ, i64_w, i32_w]; rfl
                refine rseq_pure (i := 5) (N := some 156) (v := ?_) (a' := ?_) rfl rfl (by rfl) (fun _ _ _ h => h) ?_ ?_ ?_
                rotate_left 2
                · intro w' hg; go_simp; with_reducible rfl
                · simp only [Act.put, List.setIfInBounds_toArray, List.set_cons_zero, List.set_cons_succ, i64_w, i32_w]; rfl
                refine rseq_pure (i := 6) (N := some 157) (v := ?_) (a' := ?_) rfl rfl (by rfl) (fun _ _ _ h => h) ?_ ?_ ?_
                rotate_left 2
                · intro w' hg; go_simp; with_reducible rfl
                · simp only [Act.put, List.setIfInBounds_toArray, List.set_cons_zero, List.set_cons_succ, i64_w, i32_w]; rfl
                refine rseq_pure (i := 7) (N := some 158) (v := ?_) (a' := ?_) rfl rfl (by rfl) (fun _ _ _ h => h) ?_ ?_ ?_
                rotate_left 2
                · intro w' hg; go_simp; with_reducible rfl
                · simp only [Act.put, List.setIfInBounds_toArray, List.set_cons_zero, List.set_cons_succ, i64_w, i32_w]; rfl
                refine rseq_pure (i := 8) (N := some 159) (v := ?_) (a' := ?_) rfl rfl (by rfl) (fun _ _ _ h => h) ?_ ?_ ?_
                rotate_left 2
                · intro w' hg; go_simp; with_reducible rfl
                · simp only [Act.put, List.setIfInBounds_toArray, List.set_cons_zero, List.set_cons_succ, i64_w, i32_w]; rfl
                refine rseq_pure (i := 9) (N := some 160) (v := ?_) (a' := ?_) rfl rfl (by rfl) (fun _ _ _ h => h) ?_ ?_ ?_
                rotate_left 2
                · intro w' hg; go_simp; with_reducible rfl
                · simp only [Act.put, List.setIfInBounds_toArray, List.set_cons_zero, List.set_cons_succ, i64_w, i32_w]; rfl
                refine rseq_pure (i := 10) (N := some 161) (v := ?_) (a' := ?_) rfl rfl (by rfl) (fun _ _ _ h => h) ?_ ?_ ?_
                rotate_left 2
                · intro w' hg; go_simp; with_reducible rfl
                · simp only [Act.put, List.setIfInBounds_toArray, List.set_cons_zero, List.set_cons_succ, i64_w, i32_w]; rfl
                refine rseq_pure (i := 11) (N := some 162) (v := ?_) (a' := ?_) rfl rfl (by rfl) (fun _ _ _ h => h) ?_ ?_ ?_
                rotate_left 2
                · intro w' hg; go_simp; with_reducible rfl
                · simp only [Act.put, List.setIfInBounds_toArray, List.set_cons_zero, List.set_cons_succ, i64_w, i32_w]; rfl
                refine rseq_pure (i := 12) (N := some 163) (v := ?_) (a' := ?_) rfl rfl (by rfl) (fun _ _ _ h => h) ?_ ?_ ?_
                rotate_left 2
                · intro w' hg; go_simp; with_reducible rfl
                · simp only [Act.put, List.setIfInBounds_toArray, List.set_cons_zero, List.set_cons_succ, i64_w, i32_w]; rfl
                refine rseq_pure (i := 13) (N := some 164) (v := ?_) (a' := ?_) rfl rfl (by rfl) (fun _ _ _ h => h) ?_ ?_ ?_
                rotate_left 2
                · intro w' hg; go_simp; with_reducible rfl
                · simp only [Act.put, List.setIfInBounds_toArray, List.set_cons_zero, List.set_cons_succ, i64_w, i32_w]; rfl
                refine rseq_pure (i := 14) (N := some 165) (v := ?_) (a' := ?_) rfl rfl (by rfl) (fun _ _ _ h => h) ?_ ?_ ?_
                rotate_left 2
                · intro w' hg; go_simp; with_reducible rfl
                · simp only [Act.put, List.setIfInBounds_toArray, List.set_cons_zero, List.set_cons_succ, i64_w, i32_w]; rfl
                refine rseq_pure (i := 15) (N := some 166) (v := ?_) (a' := ?_) rfl rfl (by rfl) (fun _ _ _ h => h) ?_ ?_ ?_
                rotate_left 2
                · intro w' hg; go_simp; with_reducible rfl
                · simp only [Act.put, List.setIfInBounds_toArray, List.set_cons_zero, List.set_cons_succ, i64_w, i32_w]; rfl
                refine rseq_pure (i := 16) (N := some 167) (v := ?_) (a' := ?_) rfl rfl (by rfl) (fun _ _ _ h => h) ?_ ?_ ?_
                rotate_left 2
                · intro w' hg; go_simp; with_reducible rfl
                · simp only [Act.put, List.setIfInBounds_toArray, List.set_cons_zero, List.set_cons_succ, i64_w, i32_w]; rfl
                refine rseq_pure (i := 17) (N := some 168) (v := ?_) (a' := ?_) rfl rfl (by rfl) (fun _ _ _ h => h) ?_ ?_ ?_
                rotate_left 2
                · intro w' hg; go_simp; with_reducible rfl
                · simp only [Act.put, List.setIfInBounds_toArray, List.set_cons_zero, List.set_cons_succ, i64_w, i32_w]; rfl
                refine rseq_pure (i := 18) (N := some 169) (v := ?_) (a' := ?_) rfl rfl (by rfl) (fun _ _ _ h => h) ?_ ?_ ?_
                rotate_left 2
                · intro w' hg; go_simp; with_reducible rfl
                · simp only [Act.put, List.setIfInBounds_toArray, List.set_cons_zero, List.set_cons_succ, i64_w, i32_w]; rfl
                refine rseq_pure (i := 19) (N := some 170) (v := ?_) (a' := ?_) rfl rfl (by rfl) (fun _ _ _ h => h) ?_ ?_ ?_
                rotate_left 2
                · intro w' hg; go_simp; with_reducible rfl
                · simp only [Act.put, List.setIfInBounds_toArray, List.set_cons_zero, List.set_cons_succ, i64_w, i32_w]; rfl
                refine rseq_pure (i := 20) (N := some 171) (v := ?_) (a' := ?_) rfl rfl (by rfl) (fun _ _ _ h => h) ?_ ?_ ?_
                rotate_left 2
                · intro w' hg; go_simp; with_reducible rfl
                · simp only [Act.put, List.setIfInBounds_toArray, List.set_cons_zero, List.set_cons_succ, i64_w, i32_w]; rfl
                refine rseq_skip (i := 21) (w1 := ?_) rfl rfl (by rfl) ?_ ?_ ?_
                rotate_left
                · go_simp
                  rfl
                · exact ⟨fun h => absurd (by decide) h, trivial⟩
                refine rseq_done ?_
                have h2 := hd (HS.out.put k y)
                replace HP := hd (HP.out.far (g := gs) (i := k) (sl_ne HGP.out.2.1.symm) (.int .u64 (y : Int)))
                replace HK := hd (HK.out.far (g := gs) (i := k) (sl_ne HSK.out.symm) (.int .u64 (y : Int)))
                replace HBW := hd (HBW.out.setCell (p := ⟨gs, k, none⟩) HG.out.1 (.int .u64 (y : Int)))
                generalize w5.setCell ⟨gs, k, none⟩ (.int .u64 (y : Int)) = w6 at h2 HP HK HBW ⊢
                rw [upto_succ _ _ k y (by rw [HLN.out]; exact hlt) HY.out.symm] at h2
                clear gx0 hsc fsc gy1 e1 e2 e3 HS t1 t1' t2 t3 t5 u1 u2 u3 u4' jp jr hxx hxy hr25 hy0
                go_wp2
                go_roundw
                case rel => exact ⟨k + 1, hlt, by go_num, HP, h2, HK, HBW⟩
                case measure => simp [intOf]; omega
              · have i1 : ¬ ((k : Int) < 25) := by omega
                obtain rfl : k = 25 := by omega
                clear hi hlt
                rw [upto_all _ _ 25 HLN.out] at HS
                rw [show (List.range 25).map (chiF l) = chiN l from rfl] at HS
                have jt : (i : Int) < 24 := Int.ofNat_lt.2 HLT.out
                go_upto_region 33 with (fail)
                refine upR_start Keeps.any [10] [(0, 1), (1, 1), (2, 1), (3, 1), (4, 1), (5, 1), (6, 1), (7, 1), (8, 1), (9, 1), (10, 0)] (by kernel_rfl) rfl (by kernel_rfl) (by kernel_rfl) ?_
                have hdr := below_drew (Below.refl wr.heap.size wr)
                replace HS := hd (HS.out.below hdr)
                replace HK := hd (HK.out.below hdr)
                replace HBW := hd (below_seq HBW.out hdr)
                generalize wr.drew = w5 at hdr HS HK HBW ⊢
                clear hdr
                obtain ⟨x0, X0, hx0, fx0⟩ := HS.out.cellx (0) (by decide)

                have gx0 := Grow.cells hx0
                obtain ⟨n0, N0, hn0, fn0⟩ := HK.out.cellx (i) (HLT.out)
                have gn0 := Grow.cells hn0
                clear hn0 fn0
                obtain ⟨y, HY⟩ : ∃ y, Aside0 (x0 ^^^ n0 = y) := ⟨_, ⟨rfl⟩⟩
                have e1 : bits .xor .u64 (x0 : Int) (n0 : Int) = (y : Int) := by rw [← HY.out]; exact xor_u64 (by rw [← X0.out]; exact (chiN_ok HLL.out).getD _) (by rw [← N0.out]; exact kecC_lt i)
                refine rseq_pure (i := 0) (N := some 172) (v := ?_) (a' := ?_) rfl rfl (by rfl) (fun _ _ _ h => h) ?_ ?_ ?_
                rotate_left 2
                · intro w' hg; go_simp; with_reducible rfl
                · simp only [Act.put, List.setIfInBounds_toArray, List.set_cons_zero, List.set_cons_succ, i64_w, i32_w]; rfl
                refine rseq_pure (i := 1) (N := some 173) (v := ?_) (a' := ?_) rfl rfl (by rfl) (fun _ _ _ h => h) ?_ ?_ ?_
                rotate_left 2
                · intro w' hg; go_simp; with_reducible rfl
                · simp only [Act.put, List.setIfInBounds_toArray, List.set_cons_zero, List.set_cons_succ, i64_w, i32_w]; rfl
                refine rseq_pure (i := 2) (N := some 174) (v := ?_) (a' := ?_) rfl rfl (by rfl) (fun _ _ _ h => h) ?_ ?_ ?_
                rotate_left 2
                · intro w' hg; go_simp; with_reducible rfl
                · simp only [Act.put, List.setIfInBounds_toArray, List.set_cons_zero, List.set_cons_succ, i64_w, i32_w]; rfl
                refine rseq_pure (i := 3) (N := some 175) (v := ?_) (a' := ?_) rfl rfl (by rfl) (fun _ _ _ h => h) ?_ ?_ ?_
                rotate_left 2
                · intro w' hg; go_simp; with_reducible rfl
                · simp only [Act.put, List.setIfInBounds_toArray, List.set_cons_zero, List.set_cons_succ, i64_w, i32_w]; rfl
                refine rseq_pure (i := 4) (N := some 176) (v := ?_) (a' := ?_) rfl rfl (by rfl) (fun _ _ _ h => h) ?_ ?_ ?_
                rotate_left 2
                · intro w' hg; go_simp; with_reducible rfl
                · simp only [Act.put, List.setIfInBounds_toArray, List.set_cons_zero, List.set_cons_succ, i64_w, i32_w]; rfl
                refine rseq_pure (i := 5) (N := some 177) (v := ?_) (a' := ?_) rfl rfl (by rfl) (fun _ _ _ h => h) ?_ ?_ ?_
                rotate_left 2
                · intro w' hg; go_simp; with_reducible rfl
                · simp only [Act.put, List.setIfInBounds_toArray, List.set_cons_zero, List.set_cons_succ, i64_w, i32_w]; rfl
                refine rseq_pure (i := 6) (N := some 178) (v := ?_) (a' := ?_) rfl rfl (by rfl) (fun _ _ _ h => h) ?_ ?_ ?_
                rotate_left 2
                · intro w' hg; go_simp; with_reducible rfl
                · simp only [Act.put, List.setIfInBounds_toArray, List.set_cons_zero, List.set_cons_succ, i64_w, i32_w]; rfl
                refine rseq_pure (i := 7) (N := some 179) (v := ?_) (a' := ?_) rfl rfl (by rfl) (fun _ _ _ h => h) ?_ ?_ ?_
                rotate_left 2
                · intro w' hg; go_simp; with_reducible rfl
                · simp only [Act.put, List.setIfInBounds_toArray, List.set_cons_zero, List.set_cons_succ, i64_w, i32_w]; rfl
                refine rseq_pure (i := 8) (N := some 180) (v := ?_) (a' := ?_) rfl rfl (by rfl) (fun _ _ _ h => h) ?_ ?_ ?_
                rotate_left 2
                · intro w' hg; go_simp; with_reducible rfl
                · simp only [Act.put, List.setIfInBounds_toArray, List.set_cons_zero, List.set_cons_succ, i64_w, i32_w]; rfl
                refine rseq_pure (i := 9) (N := some 181) (v := ?_) (a' := ?_) rfl rfl (by rfl) (fun _ _ _ h => h) ?_ ?_ ?_
                rotate_left 2
                · intro w' hg; go_simp; with_reducible rfl
                · simp only [Act.put, List.setIfInBounds_toArray, List.set_cons_zero, List.set_cons_succ, i64_w, i32_w]; rfl
                refine rseq_skip (i := 10) (w1 := ?_) rfl rfl (by rfl) ?_ ?_ ?_
                rotate_left
                · go_simp
                  rfl
                · exact ⟨fun h => absurd (by decide) h, trivial⟩
                refine rseq_done ?_
                have h2 := hd (HS.out.put 0 y)
                replace HK := hd (HK.out.far (g := gs) (i := 0) (sl_ne HSK.out.symm) (.int .u64 (y : Int)))
                replace HBW := hd (HBW.out.setCell (p := ⟨gs, 0, none⟩) HG.out.1 (.int .u64 (y : Int)))
                generalize w5.setCell ⟨gs, 0, none⟩ (.int .u64 (y : Int)) = w6 at h2 HK HBW ⊢
                rw [show (chiN l).set 0 y = roundsN a (i + 1) by rw [roundsN, hll.out, roundN, hl1.out, ← HLF.out, iotaN, X0.out, N0.out, HY.out]] at h2
                clear hx0 fx0 gx0 gn0 e1 HS HP
                go_wp2
                go_roundw
                case rel => exact ⟨i + 1, HLT.out, by go_num, h2, HK, HBW⟩
                case measure => simp [intOf]; have := HLT.out; omega
  · have i1 : ¬ ((i : Int) < 24) := by omega
    obtain rfl : i = 24 := by omega
    clear hi hlt
    have h9 := HG.out.2.2
    go_wp2
    go_ret
    exact ⟨gs, cs, rfl, h9, HG.out.1, HS.out, HBW.out⟩
end Go.Proofs.YtlgdplodglchaaaDoor
