/- The walks through the sums. -/
import Derived.Test.YtlgdplodglchaaaDoorKecC
import Derived.Test.YtlgdplodglchaaaDoorM2
set_option linter.unusedVariables false
set_option linter.unusedSimpArgs false
namespace Go.Proofs.YtlgdplodglchaaaDoor
open Go.RowKit Go.Proofs.YtlgdplodglchaaaDoorW.PrintWords Go.Proofs.YtlgdplodglchaaaDoorW.PrintLast Go.Proofs.YtlgdplodglchaaaDoorW.PrintMore
theorem wrap_le {a : Int} (h0 : 0 ≤ a) (h1 : a ≤ 1000000) : wrap64 a = a := IntWalk.wrap64_in _ (by omega)
theorem lay_cut (b : List Nat) (i n : Nat) (hn : b.length = n) : (b.drop (8 * i)).take (min (8 * i + 8) n - 8 * i) = (b.drop (8 * i)).take 8 := by
  subst hn
  by_cases h : 8 * i + 8 ≤ b.length
  · rw [Nat.min_eq_left h]
    congr 1
    omega
  · rw [List.take_of_length_le (by rw [List.length_drop]; omega), List.take_of_length_le (by rw [List.length_drop]; omega)]

set_option maxHeartbeats 4000000 in
set_option maxRecDepth 100000 in
theorem lay_calls {a b : List Nat} (ha_ : a.length = 25) (hl_ : Lanes a) {B : Option Addr} {n c : Nat} {w : World} (hb_ : Bytes w B n c b) (hn_ : n ≤ 200) : Calls Tryd.prog 94 #[.agg (cellsOf .u64 a), .slice B n c] w fun e w' => e = .returned (.agg (cellsOf .u64 (layN a b))) ∧ Below w.heap.size w w' := by
  have ha := hd ha_
  have hl := hd hl_
  have HB := hd hb_
  obtain ⟨m, hm⟩ : ∃ m, Aside0 ((n + 7) / 8 = m) := ⟨_, ⟨rfl⟩⟩
  have HM := hd (show m ≤ 25 by have := hm.out; omega)
  have em : Int.tdiv ((n : Int) + 7) 8 = (m : Int) := by rw [← hm.out]; exact (Int.ofNat_tdiv (n + 7) 8).symm
  have em2 : ((n : Int) + 7) / 8 = (m : Int) := by rw [← hm.out]; push_cast; rfl
  have HN := hd hn_
  clear ha_ hl_ hb_
  go_enter Tryd.func94, Tryd.ntmps94
  go_upto_region 1 with (fail)
  have a0 := below_alloc (Below.refl _ w) (.cells (cellsOf .u64 a) 135)
  have b0 : Arr .u64 135 w.heap.size _ (a) := Arr.new w (cs := cellsOf .u64 a) rfl
  have a1 := below_alloc (Below.refl _ (w.alloc (.cells (cellsOf .u64 a) 135))) (.cells (#[.int .u64 0, .int .u64 0, .int .u64 0, .int .u64 0, .int .u64 0, .int .u64 0, .int .u64 0, .int .u64 0, .int .u64 0, .int .u64 0, .int .u64 0, .int .u64 0, .int .u64 0, .int .u64 0, .int .u64 0, .int .u64 0, .int .u64 0, .int .u64 0, .int .u64 0, .int .u64 0, .int .u64 0, .int .u64 0, .int .u64 0, .int .u64 0, .int .u64 0]) 135)
  have b1 : Arr .u64 135 (w.alloc (.cells (cellsOf .u64 a) 135)).heap.size _ (List.replicate 25 0) := Arr.new (w.alloc (.cells (cellsOf .u64 a) 135)) (cs := #[.int .u64 0, .int .u64 0, .int .u64 0, .int .u64 0, .int .u64 0, .int .u64 0, .int .u64 0, .int .u64 0, .int .u64 0, .int .u64 0, .int .u64 0, .int .u64 0, .int .u64 0, .int .u64 0, .int .u64 0, .int .u64 0, .int .u64 0, .int .u64 0, .int .u64 0, .int .u64 0, .int .u64 0, .int .u64 0, .int .u64 0, .int .u64 0, .int .u64 0]) rfl
  rw [World.size_alloc] at b1
  have HA := hd (b0.below a1)
  have HR := hd b1
  have HBW := hd (below_seq a0 a1)
  clear a0 b0 a1 b1
  generalize ((w.alloc (.cells (cellsOf .u64 a) 135)).alloc (.cells (#[.int .u64 0, .int .u64 0, .int .u64 0, .int .u64 0, .int .u64 0, .int .u64 0, .int .u64 0, .int .u64 0, .int .u64 0, .int .u64 0, .int .u64 0, .int .u64 0, .int .u64 0, .int .u64 0, .int .u64 0, .int .u64 0, .int .u64 0, .int .u64 0, .int .u64 0, .int .u64 0, .int .u64 0, .int .u64 0, .int .u64 0, .int .u64 0, .int .u64 0]) 135)) = w3 at HA HR HBW ⊢
  obtain ⟨q, hq⟩ : ∃ q, Aside0 (w.heap.size = q) := ⟨_, ⟨rfl⟩⟩
  have HQ := hd (show w.heap.size ≤ q by rw [hq.out]; exact Nat.le_refl _)
  rw [hq.out] at HA HR ⊢
  clear hq
  go_upto_region 2 with (fail)
  clear hn_ em em2
  go_loopw [5, 10] (fun u5 u10 wr => ∃ i : Nat, i ≤ m ∧ u10 = .int .i64 i ∧ Aside0 (Arr .u64 135 q wr (upto (layF a b) a i)) ∧ Aside0 (Arr .u64 135 (q + 1) wr (List.replicate 25 0)) ∧ Aside0 (Below w.heap.size w wr)) (fun _ u10 _ => m - (intOf u10).toNat)
  case atStart => exact ⟨0, Nat.zero_le _, rfl, ⟨by rw [upto_zero]; exact HA.out⟩, HR, HBW⟩
  case round =>
    obtain ⟨i, hi, rfl, HA, HR, HBW⟩ := hrel
    by_cases hlt : i < m
    · have i1 : (i : Int) < m := by omega
      obtain ⟨HI, HLO, HLI⟩ : Aside0 (i < m) ∧ Aside0 (8 * i < n) ∧ Aside0 (i < 25) := ⟨⟨hlt⟩, ⟨by have := hm.out; omega⟩, ⟨by have := HM.out; omega⟩⟩
      have hi25 := HLI.out
      have jq : (i : Int) < 25 := Int.ofNat_lt.2 hi25
      obtain ⟨lo, hlo⟩ : ∃ lo, Aside0 (8 * i = lo) := ⟨_, ⟨rfl⟩⟩
      obtain ⟨up, hup⟩ : ∃ up, Aside0 (min (lo + 8) n = up) := ⟨_, ⟨rfl⟩⟩
      rw [hlo.out] at HLO
      have HU := hd (show lo ≤ up ∧ up ≤ n ∧ lo < n ∧ lo < 200 from by have := hup.out; have := HLO.out; have := HN.out; omega)
      have HCUT := hd (show (b.drop lo).take (up - lo) = (b.drop (8 * i)).take 8 by have h := lay_cut b i n HB.out.2.1; rw [hlo.out, hup.out] at h; rw [hlo.out]; exact h)
      have hnc := HB.out.2.2.1
      obtain ⟨ad, y0, hB, _, _⟩ := HB.out.1.at_ lo (by rw [HB.out.2.1]; exact HU.out.2.2.1)
      subst hB
      have HMID := hd (HB.out.mid lo (up - lo) (by have := HU.out; omega) (by have := HU.out; omega))
      have w1 : wrap64 (8 * (i : Int)) = (lo : Int) := (wrap_le (by omega) (by have := HLO.out; have := hlo.out; have := HN.out; omega)).trans (by rw [← hlo.out]; push_cast; rfl)
      have w2 : wrap64 ((lo : Int) + 8) = (lo : Int) + 8 := wrap_le (by omega) (by have := HU.out; omega)
      have w3' : (if (n : Int) < (lo : Int) + 8 then (n : Int) else (lo : Int) + 8) = (up : Int) := by have := hup.out; split <;> omega
      have jc : ¬ c = lo := by have := HU.out; omega
      have j1 : (lo : Int) ≤ up := Int.ofNat_le.2 HU.out.1
      have j2 : (up : Int) ≤ c := by have := HU.out; omega
      have j3 : lo ≤ up := HU.out.1
      have j4 : up ≤ c := by have := HU.out; omega
      clear hi hlt hnc
      go_upto_region 4 with (fail)
      refine upR_start Keeps.any [16] [(0, 1), (1, 1), (2, 1), (3, 1), (4, 1), (5, 1), (6, 1), (7, 1), (8, 1), (9, 1), (10, 1), (11, 1), (12, 1), (13, 0), (14, 1), (15, 1), (16, 0)] (by kernel_rfl) rfl (by kernel_rfl) (by kernel_rfl) ?_
      have hdr := below_drew (Below.refl wr.heap.size wr)
      replace HA := hd (HA.out.below hdr)
      replace HR := hd (HR.out.below hdr)
      replace HBW := hd (below_seq HBW.out hdr)
      generalize wr.drew = w5 at hdr HA HR HBW ⊢
      clear hdr
      obtain ⟨x0, X0, hx0, fx0⟩ := HA.out.cell i (by rw [upto_length, ha.out]; exact hi25)
      have gx0 := Grow.cells hx0
      have X0' := X0.out
      rw [upto_old _ _ _ _ (Nat.le_refl i)] at X0'
      obtain ⟨z, HZ⟩ : ∃ z, Aside0 (loadN ((b.drop (8 * i)).take 8) = z) := ⟨_, ⟨rfl⟩⟩
      obtain ⟨y, HY⟩ : ∃ y, Aside0 (layF a b i = y) := ⟨_, ⟨rfl⟩⟩
      have lx0 : x0 < 2 ^ 64 := by rw [← X0']; exact hl.out.getD _
      have lz : z < 2 ^ 64 := by rw [← HZ.out]; exact load8_lt HB.out.ok _
      have e1 : bits .xor .u64 (x0 : Int) (z : Int) = (y : Int) := by rw [xor_u64 lx0 lz, ← HY.out, layF, X0', HZ.out]
      clear X0' lx0 lz
      refine rseq_pure (i := 0) (N := some 13) (v := ?_) (a' := ?_) rfl rfl (by rfl) (fun _ _ _ h => h) ?_ ?_ ?_
      rotate_left 2
      · intro w' hg
        go_simp
        with_reducible rfl
      · simp only [Act.put, List.setIfInBounds_toArray, List.set_cons_zero, List.set_cons_succ, i64_w, i32_w]
        rfl
      refine rseq_pure (i := 1) (N := some 14) (v := ?_) (a' := ?_) rfl rfl (by rfl) (fun _ _ _ h => h) ?_ ?_ ?_
      rotate_left 2
      · intro w' hg
        go_simp
        with_reducible rfl
      · simp only [Act.put, List.setIfInBounds_toArray, List.set_cons_zero, List.set_cons_succ, i64_w, i32_w]
        rfl
      refine rseq_pure (i := 2) (N := some 15) (v := ?_) (a' := ?_) rfl rfl (by rfl) (fun _ _ _ h => h) ?_ ?_ ?_
      rotate_left 2
      · intro w' hg
        go_simp
        with_reducible rfl
      · simp only [Act.put, List.setIfInBounds_toArray, List.set_cons_zero, List.set_cons_succ, i64_w, i32_w]
        rfl
      refine rseq_pure (i := 3) (N := some 16) (v := ?_) (a' := ?_) rfl rfl (by rfl) (fun _ _ _ h => h) ?_ ?_ ?_
      rotate_left 2
      · intro w' hg
        go_simp
        with_reducible rfl
      · simp only [Act.put, List.setIfInBounds_toArray, List.set_cons_zero, List.set_cons_succ, i64_w, i32_w]
        rfl
      refine rseq_pure (i := 4) (N := some 17) (v := ?_) (a' := ?_) rfl rfl (by rfl) (fun _ _ _ h => h) ?_ ?_ ?_
      rotate_left 2
      · intro w' hg
        go_simp
        with_reducible rfl
      · simp only [Act.put, List.setIfInBounds_toArray, List.set_cons_zero, List.set_cons_succ, i64_w, i32_w]
        rfl
      refine rseq_pure (i := 5) (N := some 18) (v := ?_) (a' := ?_) rfl rfl (by rfl) (fun _ _ _ h => h) ?_ ?_ ?_
      rotate_left 2
      · intro w' hg
        go_simp
        with_reducible rfl
      · simp only [Act.put, List.setIfInBounds_toArray, List.set_cons_zero, List.set_cons_succ, i64_w, i32_w]
        rfl
      refine rseq_pure (i := 6) (N := some 19) (v := ?_) (a' := ?_) rfl rfl (by rfl) (fun _ _ _ h => h) ?_ ?_ ?_
      rotate_left 2
      · intro w' hg
        go_simp
        with_reducible rfl
      · simp only [Act.put, List.setIfInBounds_toArray, List.set_cons_zero, List.set_cons_succ, i64_w, i32_w]
        rfl
      refine rseq_pure (i := 7) (N := some 20) (v := ?_) (a' := ?_) rfl rfl (by rfl) (fun _ _ _ h => h) ?_ ?_ ?_
      rotate_left 2
      · intro w' hg
        go_simp
        with_reducible rfl
      · simp only [Act.put, List.setIfInBounds_toArray, List.set_cons_zero, List.set_cons_succ, i64_w, i32_w]
        rfl
      refine rseq_pure (i := 8) (N := some 21) (v := ?_) (a' := ?_) rfl rfl (by rfl) (fun _ _ _ h => h) ?_ ?_ ?_
      rotate_left 2
      · intro w' hg
        go_simp
        with_reducible rfl
      · simp only [Act.put, List.setIfInBounds_toArray, List.set_cons_zero, List.set_cons_succ, i64_w, i32_w]
        rfl
      refine rseq_pure (i := 9) (N := some 22) (v := ?_) (a' := ?_) rfl rfl (by rfl) (fun _ _ _ h => h) ?_ ?_ ?_
      rotate_left 2
      · intro w' hg
        go_simp
        with_reducible rfl
      · simp only [Act.put, List.setIfInBounds_toArray, List.set_cons_zero, List.set_cons_succ, i64_w, i32_w]
        rfl
      refine rseq_pure (i := 10) (N := some 23) (v := ?_) (a' := ?_) rfl rfl (by rfl) (fun _ _ _ h => h) ?_ ?_ ?_
      rotate_left 2
      · intro w' hg
        go_simp
        with_reducible rfl
      · simp only [Act.put, List.setIfInBounds_toArray, List.set_cons_zero, List.set_cons_succ, i64_w, i32_w]
        rfl
      refine rseq_pure (i := 11) (N := some 24) (v := ?_) (a' := ?_) rfl rfl (by rfl) (fun _ _ _ h => h) ?_ ?_ ?_
      rotate_left 2
      · intro w' hg
        go_simp
        with_reducible rfl
      · simp only [Act.put, List.setIfInBounds_toArray, List.set_cons_zero, List.set_cons_succ, i64_w, i32_w]
        rfl
      refine rseq_pure (i := 12) (N := some 25) (v := ?_) (a' := ?_) rfl rfl (by rfl) (fun _ _ _ h => h) ?_ ?_ ?_
      rotate_left 2
      · intro w' hg
        go_simp
        with_reducible rfl
      · simp only [Act.put, List.setIfInBounds_toArray, List.set_cons_zero, List.set_cons_succ, i64_w, i32_w]
        rfl
      refine rseq_call (i := 13) (N := some 26) rfl rfl Tryd.func108 (by kernel_rfl) rfl #[.slice (some (ad.add lo)) (up - lo) (c - lo)] (by rfl) rfl ?_ ?_
      · simp only [List.map_toArray, List.map_cons, List.map_nil]
        rfl
      refine (load_calls (HMID.out.below HBW.out)).mono ?_
      rintro e w6 ⟨rfl, rfl⟩
      rw [show loadN (((b.drop lo).take (up - lo)).take 8) = z by rw [← HZ.out, HCUT.out, List.take_take]; rfl]
      refine ⟨_, rfl, ⟨fun _ => Grow.refl _, trivial⟩, ?_⟩
      refine rseq_norm (a' := ?_) ?_ ?_
      rotate_left
      · show Act.put _ (some 26) _ = _
        simp only [Act.put, List.setIfInBounds_toArray, List.set_cons_zero, List.set_cons_succ, i64_w, i32_w]
        rfl
      refine rseq_pure (i := 14) (N := some 27) (v := ?_) (a' := ?_) rfl rfl (by rfl) (fun _ _ _ h => h) ?_ ?_ ?_
      rotate_left 2
      · intro w' hg
        go_simp
        with_reducible rfl
      · simp only [Act.put, List.setIfInBounds_toArray, List.set_cons_zero, List.set_cons_succ, i64_w, i32_w]
        rfl
      refine rseq_pure (i := 15) (N := some 28) (v := ?_) (a' := ?_) rfl rfl (by rfl) (fun _ _ _ h => h) ?_ ?_ ?_
      rotate_left 2
      · intro w' hg
        go_simp
        with_reducible rfl
      · simp only [Act.put, List.setIfInBounds_toArray, List.set_cons_zero, List.set_cons_succ, i64_w, i32_w]
        rfl
      refine rseq_skip (i := 16) (w1 := ?_) rfl rfl (by rfl) ?_ ?_ ?_
      rotate_left
      · go_simp
        rfl
      · exact ⟨fun h => absurd (by decide) h, trivial⟩
      refine rseq_done ?_
      have ha2 := hd (HA.out.set i y)
      rw [upto_succ _ _ i y (by rw [ha.out]; exact hi25) HY.out.symm] at ha2
      replace HR := hd (HR.out.far (p := ⟨q, i, none⟩) (by simp) (.int .u64 (y : Int)))
      replace HBW := hd (HBW.out.setCell (p := ⟨q, i, none⟩) HQ.out (.int .u64 (y : Int)))
      generalize w5.setCell ⟨q, i, none⟩ (.int .u64 (y : Int)) = w6 at ha2 HR HBW ⊢
      clear hx0 fx0 gx0 e1 HA w1 w2 w3' j1 j2 j3 j4 jc hi25
      go_wp2
      go_roundw
      case rel => exact ⟨i + 1, HI.out, by go_num, ha2, HR, HBW⟩
      case measure => simp [intOf]; have := HI.out; omega
    · have i1 : ¬ ((i : Int) < m) := by omega
      obtain rfl : i = m := by omega
      clear hi hlt
      have HA2 := hd (show Arr .u64 135 q wr (layN a b) from by rw [← lay_upto ha.out, HB.out.2.1, hm.out]; exact HA.out)
      go_wp2_with (first | ((with_reducible refine gate_dst (N := 30) rfl ?_); refine op_loadA 30 rfl rfl 135 22 25 _ rfl rfl HA2.out (cellsOf .u64 (layN a b)) rfl Tryd.underlying135 (by kernel_rfl) (layN_length a b) ?_) | ((with_reducible refine gate_store (t := 135) (p := 4) rfl ?_); refine op_storeA rfl rfl 135 25 _ _ rfl rfl (layN a b) rfl HR.out (by kernel_rfl) (List.length_replicate) (layN_length a b) ?_; intro w9 hz1 ho1))
      exact ret_cellA Tryd.results94 rfl hz1 rfl Tryd.underlying135 (by kernel_rfl) (layN_length a b) ⟨rfl, below_only HBW.out ho1 (by have := HQ.out; omega)⟩
theorem OwnK.take {k : IntKind} {e base : Nat} {w : World} {A : Option Addr} {n c m : Nat} {l : List Nat} (h : OwnK k e base w (.slice A n c) l) (hm : m ≤ n) : OwnK k e base w (.slice A m c) (l.take m) := by
  have h1 := Kd.R_take h (show m ≤ (ints l).length by rw [ints_length, ← h.row.1]; exact hm)
  unfold OwnK
  rw [← ints_take]
  exact h1
theorem index_lanes {l : List Nat} (hl : l.length = 25) {i : Nat} (hi : i < 25) (w : World) : (Instr.index 135 (.agg (cellsOf .u64 l)) (.int .i64 (i : Int))).run Tryd.prog w = .ok (.int .u64 ((l.getD i 0 : Nat) : Int)) w := by
  have h1 := run_part_plain (P := Tryd.prog) w (e := 22) (by kernel_rfl) (cellsOf_at .u64 l i (by omega))
  have hc : Tryd.prog.cellsOf 22 = 1 := by kernel_rfl
  obtain ⟨inf, hinf⟩ := info_of_underlying (P := Tryd.prog) Tryd.underlying22
  have h2 := run_sizeOf (P := Tryd.prog) w hinf
  rw [hc] at h2
  unfold Instr.index
  simp only [asIntOf, Sem.run_bind, Sem.run_pure, Result.andThen_ok, run_underlying Tryd.underlying135, if_pos (show (0 : Int) ≤ (i : Int) ∧ (i : Int) < ((25 : Nat) : Int) from ⟨by omega, by omega⟩), h2, Int.toNat_natCast, Nat.mul_one, h1]
theorem bytesN_take_succ {a : List Nat} {i : Nat} (hi : i < a.length) : bytesN (a.take (i + 1)) = bytesN (a.take i) ++ storeN (a.getD i 0) 8 := by
  rw [take_snoc a i 0 hi, bytesN_snoc]
set_option maxHeartbeats 4000000 in
set_option maxRecDepth 100000 in
theorem take_calls {a : List Nat} (ha_ : a.length = 25) (hl_ : Lanes a) {n : Nat} (hn_ : n ≤ 200) {w : World} : Calls Tryd.prog 80 #[.agg (cellsOf .u64 a), .int .i64 (n : Int)] w fun e w' => ∃ v, e = .returned v ∧ OwnK .u8 5 w.heap.size w' v ((bytesN a).take n) ∧ Below w.heap.size w w' := by
  have ha := hd ha_
  have hl := hd hl_
  have HN := hd hn_
  clear ha_ hl_ hn_
  go_enter Tryd.func80, Tryd.ntmps80
  go_upto_region 1 with (fail)
  have a0 := below_alloc (Below.refl _ w) (.cells (cellsOf .u64 a) 135)
  have b0 : Arr .u64 135 w.heap.size _ (a) := Arr.new w (cs := cellsOf .u64 a) rfl
  have HA := hd b0
  have HBW := hd a0
  clear a0 b0
  generalize (w.alloc (.cells (cellsOf .u64 a) 135)) = w3 at HA HBW ⊢
  obtain ⟨q, hq⟩ : ∃ q, Aside0 (w.heap.size = q) := ⟨_, ⟨rfl⟩⟩
  have HQ := hd (show w.heap.size ≤ q by rw [hq.out]; exact Nat.le_refl _)
  rw [hq.out] at HA ⊢
  clear hq
  go_upto_region 3 with ((with_reducible refine gate_dst (N := 8) rfl ?_); refine op_loadA 8 rfl rfl 135 22 25 _ rfl rfl HA.out (cellsOf .u64 (a)) rfl Tryd.underlying135 (by kernel_rfl) (ha.out) ?_)
  go_loopw [5, 7, 9] (fun u5 u7 u9 wr => ∃ i : Nat, i ≤ 25 ∧ u9 = .int .i64 i ∧ Aside0 (OwnK .u8 5 w.heap.size wr u5 (bytesN (a.take i))) ∧ Aside0 (Below w.heap.size w wr)) (fun _ _ u9 _ => 25 - (intOf u9).toNat)
  case atStart => exact ⟨0, by decide, rfl, ⟨OwnK.nil _ _ _ _⟩, HBW⟩
  case round =>
    clear HA
    obtain ⟨i, hi, rfl, HO, HBW⟩ := hrel
    by_cases hlt : i < 25
    · have i1 : (i : Int) < 25 := by omega
      have HLT := hd hlt
      obtain ⟨x, HX⟩ : ∃ x, Aside0 (a.getD i 0 = x) := ⟨_, ⟨rfl⟩⟩
      have hix := index_lanes ha.out hlt wr
      rw [HX.out] at hix
      clear hi hlt
      go_wp2_with fail
      refine (store_calls x 8 _ rfl (by rw [← HX.out]; exact hl.out.getD _)).mono ?_
      rintro e w6 ⟨v, rfl, hv, hb⟩
      obtain ⟨A6, c6, rfl, h6'⟩ := hv.bytes 8 (storeN_length _ _) (storeN_ok _ _)
      have h6 := hd h6'
      replace HO := hd (HO.out.below hb)
      replace HBW := hd (below_seq HBW.out hb)
      have hlen : ((bytesN (a.take i)).length + (storeN x 8).length) * 1 ≤ 140737488355328 := by
        rw [bytesN_length, storeN_length, List.length_take]
        have := HLT.out
        omega
      clear hv hb hix h6'
      go_upto_region 6 with ((with_reducible refine gate_dst (N := 15) rfl ?_); refine op_append_row (k := .u8) (w0 := w) 15 rfl w.heap.size 5 40 (.tmp 12) (.tmp 14) rfl rfl Tryd.underlying40 Tryd.infoU8 (by decide) u5 (bytesN (a.take i)) (storeN x 8) A6 8 c6 rfl rfl (by rw [storeN_length]) HO.out h6.out.1 HBW.out HBW.out.size hlen ?_; intro v7 w7 ho7 hb7 hg7)
      have HO7 := hd ho7
      have HBW7 := hd hb7
      clear ho7 hb7 hg7 hlen
      go_wp2
      go_roundw
      case rel => exact ⟨i + 1, HLT.out, by go_num, ⟨by rw [bytesN_take_succ (by rw [ha.out]; exact HLT.out), HX.out]; exact HO7.out⟩, HBW7⟩
      case measure => simp [intOf]; have := HLT.out; omega
    · have i1 : ¬ ((i : Int) < 25) := by omega
      obtain rfl : i = 25 := by omega
      clear hi hlt
      rw [List.take_of_length_le (by rw [ha.out]; exact Nat.le_refl _)] at HO
      obtain ⟨A9, c9, rfl, hc9, _⟩ := HO.out.slice
      have hb200 : (bytesN a).length = 200 := by rw [bytesN_length, ha.out]
      rw [hb200] at hc9 HO ⊢
      have j1 : (n : Int) ≤ c9 := by have := HN.out; omega
      have HO2 := hd (HO.out.take HN.out)
      clear hc9 hb200
      go_wp2
      go_ret
      exact ⟨_, rfl, HO2.out, HBW.out⟩
def slLen : Value → Nat
  | .slice _ n _ => n
  | _ => 0
section
variable {P : Program} {ops : Array Oper} {rest : List Oper} {o : Oper} {a : Act} {Q : Exit → Act → World → Prop}
/-- copy(v, ys), v of its own and as long at least. -/
theorem op_copyK {k : IntKind} {w0 W : World} (N : Tmp) (hd : o.dst = some N) (base e : Nat) (t : TypeId) (s x : Operand) (ho : o.op = .call { callee := .builtin .copy, args := #[s, x], argTypes := #[t, t] }) (hgd : o.guard = none)
    (ht : P.underlying t = some (.slice e)) (hinfo : (P.info? e).map (·.size) = some 1) (v : Value) (l ys : List Nat) (A : Option Addr) (m c : Nat) (hs : a.eval s = v) (hx : a.eval x = .slice A m c) (hm : m = ys.length) (hle : m ≤ l.length)
    (HO : OwnK k e base W v l) (HR : RowK k W A ys) (HB : Below base w0 W) (hbase : base ≤ W.heap.size)
    (h : ∀ w1, OwnK k e base w1 v (ys ++ l.drop m) → Below base w0 w1 → W.grownBy w1 v.ownBlock → wpList P ops Q rest (a.put o.dst (.int .i64 (m : Int))) w1) : wpList P ops Q (o :: rest) a W := by
  subst hm
  refine Kd.R_copy (enc := Value.int k) (h1 := fun _ => rfl) (0 : Int) (w0 := w0) (W := W) base hgd s x t t e ho ht hinfo v (ints l) (ints ys) A ys.length c (fun _ => True) hs hx HO HR HB hbase ?_
  intro w1 h1 hb hg
  rw [ints_length, Nat.min_eq_left hle] at h1 ⊢
  refine h w1 ?_ hb hg
  unfold OwnK
  rw [ints_append, ← ints_drop]
  rw [List.take_of_length_le (by rw [ints_length]; exact Nat.le_refl _)] at h1
  exact h1
end
set_option maxHeartbeats 4000000 in
set_option maxRecDepth 100000 in
theorem absorb_calls {rate suf : Nat} (h1_ : 1 ≤ rate) (h2_ : rate ≤ 200) (hs_ : suf < 256) {B : Option Addr} {n c : Nat} {b : List Nat} {w : World} (hb_ : Bytes w B n c b) (hn_ : n ≤ 1000000000) (ht_ : TurnsAt w) (hc_ : ConstsAt w) :
    Calls Tryd.prog 81 #[.int .i64 (rate : Int), .int .u8 (suf : Int), .slice B n c] w fun e w' => e = .returned (.agg (cellsOf .u64 (absN rate suf b))) ∧ Below w.heap.size w w' := by
  have HB := hd hb_
  have HBO := hd hb_.ok
  have HB0 := hd hb_.2.1
  have HT := hd ht_
  have HCO := hd hc_
  have HS := hd hs_
  have HN := hd hn_
  have HR1 := hd h1_
  have HR2 := hd h2_
  have q1 : decide ((rate : Int) < 1) = false := decide_eq_false (by omega)
  have q2 : decide ((200 : Int) < (rate : Int)) = false := decide_eq_false (by omega)
  clear hb_ ht_ hc_ hs_ hn_ h1_ h2_
  go_enter Tryd.func81, Tryd.ntmps81
  go_upto_region 2 with (fail)
  have a0 := below_alloc (Below.refl _ w) (.cells (#[.int .u64 0, .int .u64 0, .int .u64 0, .int .u64 0, .int .u64 0, .int .u64 0, .int .u64 0, .int .u64 0, .int .u64 0, .int .u64 0, .int .u64 0, .int .u64 0, .int .u64 0, .int .u64 0, .int .u64 0, .int .u64 0, .int .u64 0, .int .u64 0, .int .u64 0, .int .u64 0, .int .u64 0, .int .u64 0, .int .u64 0, .int .u64 0, .int .u64 0]) 135)
  have b0 : Arr .u64 135 w.heap.size _ (List.replicate 25 0) := Arr.new w (cs := #[.int .u64 0, .int .u64 0, .int .u64 0, .int .u64 0, .int .u64 0, .int .u64 0, .int .u64 0, .int .u64 0, .int .u64 0, .int .u64 0, .int .u64 0, .int .u64 0, .int .u64 0, .int .u64 0, .int .u64 0, .int .u64 0, .int .u64 0, .int .u64 0, .int .u64 0, .int .u64 0, .int .u64 0, .int .u64 0, .int .u64 0, .int .u64 0, .int .u64 0]) rfl
  have a1 := below_alloc (Below.refl _ (w.alloc (.cells (#[.int .u64 0, .int .u64 0, .int .u64 0, .int .u64 0, .int .u64 0, .int .u64 0, .int .u64 0, .int .u64 0, .int .u64 0, .int .u64 0, .int .u64 0, .int .u64 0, .int .u64 0, .int .u64 0, .int .u64 0, .int .u64 0, .int .u64 0, .int .u64 0, .int .u64 0, .int .u64 0, .int .u64 0, .int .u64 0, .int .u64 0, .int .u64 0, .int .u64 0]) 135))) (.cells (#[.int .u64 0, .int .u64 0, .int .u64 0, .int .u64 0, .int .u64 0, .int .u64 0, .int .u64 0, .int .u64 0, .int .u64 0, .int .u64 0, .int .u64 0, .int .u64 0, .int .u64 0, .int .u64 0, .int .u64 0, .int .u64 0, .int .u64 0, .int .u64 0, .int .u64 0, .int .u64 0, .int .u64 0, .int .u64 0, .int .u64 0, .int .u64 0, .int .u64 0]) 135)
  have b1 : Arr .u64 135 (w.alloc (.cells (#[.int .u64 0, .int .u64 0, .int .u64 0, .int .u64 0, .int .u64 0, .int .u64 0, .int .u64 0, .int .u64 0, .int .u64 0, .int .u64 0, .int .u64 0, .int .u64 0, .int .u64 0, .int .u64 0, .int .u64 0, .int .u64 0, .int .u64 0, .int .u64 0, .int .u64 0, .int .u64 0, .int .u64 0, .int .u64 0, .int .u64 0, .int .u64 0, .int .u64 0]) 135)).heap.size _ (List.replicate 25 0) := Arr.new (w.alloc (.cells (#[.int .u64 0, .int .u64 0, .int .u64 0, .int .u64 0, .int .u64 0, .int .u64 0, .int .u64 0, .int .u64 0, .int .u64 0, .int .u64 0, .int .u64 0, .int .u64 0, .int .u64 0, .int .u64 0, .int .u64 0, .int .u64 0, .int .u64 0, .int .u64 0, .int .u64 0, .int .u64 0, .int .u64 0, .int .u64 0, .int .u64 0, .int .u64 0, .int .u64 0]) 135)) (cs := #[.int .u64 0, .int .u64 0, .int .u64 0, .int .u64 0, .int .u64 0, .int .u64 0, .int .u64 0, .int .u64 0, .int .u64 0, .int .u64 0, .int .u64 0, .int .u64 0, .int .u64 0, .int .u64 0, .int .u64 0, .int .u64 0, .int .u64 0, .int .u64 0, .int .u64 0, .int .u64 0, .int .u64 0, .int .u64 0, .int .u64 0, .int .u64 0, .int .u64 0]) rfl
  rw [World.size_alloc] at b1
  have HR := hd (b0.below a1)
  have HA := hd b1
  have HBW := hd (below_seq a0 a1)
  clear a0 b0 a1 b1
  generalize ((w.alloc (.cells (#[.int .u64 0, .int .u64 0, .int .u64 0, .int .u64 0, .int .u64 0, .int .u64 0, .int .u64 0, .int .u64 0, .int .u64 0, .int .u64 0, .int .u64 0, .int .u64 0, .int .u64 0, .int .u64 0, .int .u64 0, .int .u64 0, .int .u64 0, .int .u64 0, .int .u64 0, .int .u64 0, .int .u64 0, .int .u64 0, .int .u64 0, .int .u64 0, .int .u64 0]) 135)).alloc (.cells (#[.int .u64 0, .int .u64 0, .int .u64 0, .int .u64 0, .int .u64 0, .int .u64 0, .int .u64 0, .int .u64 0, .int .u64 0, .int .u64 0, .int .u64 0, .int .u64 0, .int .u64 0, .int .u64 0, .int .u64 0, .int .u64 0, .int .u64 0, .int .u64 0, .int .u64 0, .int .u64 0, .int .u64 0, .int .u64 0, .int .u64 0, .int .u64 0, .int .u64 0]) 135)) = w3 at HR HA HBW ⊢
  obtain ⟨q, hq⟩ : ∃ q, Aside0 (w.heap.size = q) := ⟨_, ⟨rfl⟩⟩
  have HQ := hd (show w.heap.size ≤ q by rw [hq.out]; exact Nat.le_refl _)
  rw [hq.out] at HR HA ⊢
  clear hq
  go_upto_region 4 with (fail)
  clear q1 q2
  go_loopw [2] (fun u2 wr => ∃ (i : Nat) (B2 : Option Addr) (n2 c2 : Nat), u2 = .slice B2 n2 c2 ∧ n2 + rate * i = n ∧ Aside0 (Bytes w B2 n2 c2 (b.drop (rate * i))) ∧ Aside0 (Arr .u64 135 q wr (List.replicate 25 0)) ∧ Aside0 (Arr .u64 135 (q + 1) wr (blocksN rate b i)) ∧ Aside0 (Below w.heap.size w wr)) (fun u2 _ => slLen u2)
  case atStart => exact ⟨0, B, n, c, rfl, by simp, ⟨by rw [Nat.mul_zero, List.drop_zero]; exact HB.out⟩, HR, HA, HBW⟩
  case round =>
    clear HA HR HB
    obtain ⟨i, B2, n2, c2, rfl, hn2, HB2, HR, HA, HBW⟩ := hrel
    by_cases hlt : rate ≤ n2
    · have i1 : (rate : Int) ≤ n2 := by omega
      have HLE := hd hlt
      have HN2 := hd hn2
      obtain ⟨ad, y0, hB, _, _⟩ := HB2.out.1.at_ 0 (by rw [HB2.out.2.1]; have := HR1.out; omega)
      subst hB
      have i3 : (rate : Int) ≤ c2 := by have := HB2.out.2.2.1; omega
      have i4 : (n2 : Int) ≤ c2 := by have := HB2.out.2.2.1; omega
      have i5 : rate ≤ c2 := by have := HB2.out.2.2.1; omega
      have i6 : 0 < rate := HR1.out
      clear hlt hn2
      go_upto_region 5 with (fail)
      refine upR_start Keeps.any [6] [(0, 1), (1, 1), (2, 1), (3, 1), (4, 0), (5, 0), (6, 0)] (by kernel_rfl) rfl (by kernel_rfl) (by kernel_rfl) ?_
      have hdr := below_drew (Below.refl wr.heap.size wr)
      replace HA := hd (HA.out.below hdr)
      replace HR := hd (HR.out.below hdr)
      replace HBW := hd (below_seq HBW.out hdr)
      generalize wr.drew = w5 at hdr HA HR HBW ⊢
      clear hdr
      refine rseq_pure (i := 0) (N := some 20) (v := .agg (cellsOf .u64 (blocksN rate b i))) (a' := ?_) rfl rfl (by rfl) (fun _ _ _ h => h) ?_ ?_ ?_
      rotate_left
      · intro w' hg
        refine run_loadA 135 22 25 (.tmp 7) ?_ ?_ (HA.out.below hg) _ ?_ Tryd.underlying135 (by kernel_rfl) (blocksN_length rate b i) <;> rfl
      · simp only [Act.put, List.setIfInBounds_toArray, List.set_cons_zero, List.set_cons_succ, i64_w, i32_w]
        rfl
      refine rseq_pure (i := 1) (N := some 21) (v := ?_) (a' := ?_) rfl rfl (by rfl) (fun _ _ _ h => h) ?_ ?_ ?_
      rotate_left 2
      · intro w' hg
        go_simp
        with_reducible rfl
      · simp only [Act.put, List.setIfInBounds_toArray, List.set_cons_zero, List.set_cons_succ, i64_w, i32_w]
        rfl
      refine rseq_pure (i := 2) (N := some 22) (v := ?_) (a' := ?_) rfl rfl (by rfl) (fun _ _ _ h => h) ?_ ?_ ?_
      rotate_left 2
      · intro w' hg
        go_simp
        with_reducible rfl
      · simp only [Act.put, List.setIfInBounds_toArray, List.set_cons_zero, List.set_cons_succ, i64_w, i32_w]
        rfl
      refine rseq_pure (i := 3) (N := some 23) (v := ?_) (a' := ?_) rfl rfl (by rfl) (fun _ _ _ h => h) ?_ ?_ ?_
      rotate_left 2
      · intro w' hg
        go_simp
        with_reducible rfl
      · simp only [Act.put, List.setIfInBounds_toArray, List.set_cons_zero, List.set_cons_succ, i64_w, i32_w]
        rfl
      refine rseq_call (i := 4) (N := some 24) rfl rfl Tryd.func94 (by kernel_rfl) rfl #[.agg (cellsOf .u64 (blocksN rate b i)), .slice (some ad) rate c2] (by rfl) rfl ?_ ?_
      · simp only [List.map_toArray, List.map_cons, List.map_nil]
        rfl
      refine (lay_calls (blocksN_length rate b i) (blocksN_ok HBO.out i) ((HB2.out.below HBW.out).take rate HLE.out) HR2.out).mono ?_
      rintro e w6 ⟨rfl, hb⟩
      replace HA := hd (HA.out.below hb)
      replace HR := hd (HR.out.below hb)
      replace HBW := hd (below_seq HBW.out hb)
      refine ⟨_, rfl, ⟨fun _ => hb, trivial⟩, ?_⟩
      clear hb
      refine rseq_norm (a' := ?_) ?_ ?_
      rotate_left
      · show Act.put _ (some 24) _ = _
        simp only [Act.put, List.setIfInBounds_toArray, List.set_cons_zero, List.set_cons_succ, i64_w, i32_w]
        rfl
      refine rseq_call (i := 5) (N := some 25) rfl rfl Tryd.func93 (by kernel_rfl) rfl #[.agg (cellsOf .u64 (layN (blocksN rate b i) ((b.drop (rate * i)).take rate)))] (by rfl) rfl ?_ ?_
      · simp only [List.map_toArray, List.map_cons, List.map_nil]
        rfl
      refine (kecF_calls (layN_length _ _) (layN_ok (blocksN_ok HBO.out i) ((HBO.out.drop _).take _)) (HT.out.below HBW.out) (HCO.out.below HBW.out)).mono ?_
      rintro e w7 ⟨rfl, hb⟩
      replace HA := hd (HA.out.below hb)
      replace HR := hd (HR.out.below hb)
      replace HBW := hd (below_seq HBW.out hb)
      refine ⟨_, rfl, ⟨fun _ => hb, trivial⟩, ?_⟩
      clear hb
      refine rseq_norm (a' := ?_) ?_ ?_
      rotate_left
      · show Act.put _ (some 25) _ = _
        simp only [Act.put, List.setIfInBounds_toArray, List.set_cons_zero, List.set_cons_succ, i64_w, i32_w]
        rfl
      refine rseq_skip (i := 6) (w1 := ?_) rfl rfl (by rfl) ?_ ⟨fun h => absurd (by decide) h, trivial⟩ ?_
      rotate_left
      · refine run_storeA 135 25 (.tmp 7) (.tmp 25) ?_ ?_ (kecN (layN (blocksN rate b i) ((b.drop (rate * i)).take rate))) ?_ HA.out (by kernel_rfl) (blocksN_length rate b i) (kecN_length (layN_length _ _)) <;> rfl
      refine rseq_done ?_
      have ha9 := hd (HA.out.setRow (kecN (layN (blocksN rate b i) ((b.drop (rate * i)).take rate))))
      have ho9 := hd (Only.setRow (g := q + 1) (w := w7) (cellsOf .u64 (kecN (layN (blocksN rate b i) ((b.drop (rate * i)).take rate)))))
      generalize w7.setRow (q + 1) (cellsOf .u64 (kecN (layN (blocksN rate b i) ((b.drop (rate * i)).take rate)))) = w9 at ha9 ho9 ⊢
      replace HR := hd (HR.out.only ho9.out (by omega))
      replace HBW := hd (below_only HBW.out ho9.out (by have := HQ.out; omega))
      replace HA := hd (show Arr .u64 135 (q + 1) w9 (blocksN rate b (i + 1)) from ha9.out)
      clear ha9 ho9
      go_wp2
      go_roundw
      case rel =>
        refine ⟨i + 1, _, _, _, rfl, by have := HN2.out; have := HLE.out; rw [Nat.mul_succ]; omega, ⟨?_⟩, HR, HA, HBW⟩
        have h := HB2.out.drop rate HLE.out
        rw [List.drop_drop] at h
        exact h
      case measure => simp [slLen]; have := HLE.out; have := HR1.out; omega
    · have i1 : ¬ ((rate : Int) ≤ n2) := by omega
      have HI := hd (show n / rate = i ∧ n2 < rate by
        have h1 := HR1.out
        refine ⟨?_, by omega⟩
        rw [← hn2, Nat.add_mul_div_left _ _ (by omega), Nat.div_eq_of_lt (by omega), Nat.zero_add])
      have hmk : ((rate : Nat) : Int) ≤ 140737488355328 := by have := HR2.out; omega
      have hmk0 : (0 : Int) ≤ (rate : Int) := by omega
      clear hlt hn2
      go_upto_region 8 with ((with_reducible refine gate_dst (N := 30) rfl ?_); refine op_make 30 rfl 5 40 _ _ rfl rfl (rate : Int) rfl rfl Tryd.underlying40 Tryd.infoU8 (by decide) rate rfl (by have := HR2.out; omega) ?_; intro Ak ck w4 hck hok hbk)
      clear hmk hmk0
      have HO := hd (hok.lower HBW.out.size)
      replace HA := hd (HA.out.below hbk)
      replace HR := hd (HR.out.below hbk)
      replace HBW := hd (below_seq HBW.out hbk)
      clear hok hbk
      obtain ⟨gl, rfl, hgl, _⟩ := HO.out.at_ HR1.out
      have HGL := hd hgl
      have hne1 := hd (show q + 1 ≠ gl from fun e => R_not HO.out HA.out (by decide) (by rw [e]; rfl))
      have hne2 := hd (show q ≠ gl from fun e => R_not HO.out HR.out (by decide) (by rw [e]; rfl))
      clear hgl
      go_upto_region 9 with ((with_reducible refine gate_dst (N := 33) rfl ?_); refine op_copyK (w0 := w) 33 rfl w.heap.size 5 40 (.tmp 31) (.tmp 32) rfl rfl Tryd.underlying40 (by kernel_rfl) _ (List.replicate rate 0) (b.drop (rate * i)) B2 n2 c2 rfl rfl HB2.out.2.1.symm (by rw [List.length_replicate]; have := HI.out.2; omega) HO.out (HB2.out.below HBW.out).1 HBW.out HBW.out.size ?_; intro w5 ho5 hb5 hg5)
      have hm5 := Mod.grown hg5 (S := fun k => (Value.slice (some ⟨gl, 0, none⟩) rate ck).ownBlock = some k) (fun k hk => hk)
      replace HA := hd (show Arr .u64 135 (q + 1) w5 (blocksN rate b i) from hm5.block HA.out (R_not HO.out HA.out (by decide)))
      replace HR := hd (show Arr .u64 135 q w5 (List.replicate 25 0) from hm5.block HR.out (R_not HO.out HR.out (by decide)))
      replace HO := hd ho5
      replace HBW := hd hb5
      clear hm5 ho5 hb5 hg5
      have hl5 : (b.drop (rate * i) ++ (List.replicate rate 0).drop n2).length = rate := by rw [List.length_append, HB2.out.2.1, List.length_drop, List.length_replicate]; have := HI.out.2; omega
      obtain ⟨x, HX, hx, fx⟩ := HO.out.cellx n2 HI.out.2
      obtain ⟨y, HY⟩ : ∃ y, Aside0 (x ^^^ suf = y) := ⟨_, ⟨rfl⟩⟩
      have hx8 : x < 256 := by rw [← HX.out]; exact ((HBO.out.drop _).append ((BytesOK.zeros _).drop _)).getD _
      have e1 : bits .xor .u8 (x : Int) (suf : Int) = (y : Int) := by rw [← HY.out]; exact xor_u8 hx8 HS.out
      have jn : (n2 : Int) < rate := Int.ofNat_lt.2 HI.out.2
      have jc : (rate : Int) ≤ ck := Int.ofNat_le.2 hck
      clear hx8 i1
      go_upto_region 10 with (fail)
      have hp := HO.out.put n2 y
      replace HO := hd hp
      replace HA := hd (HA.out.far (p := ⟨gl, n2, none⟩) hne1.out (.int .u8 (y : Int)))
      replace HR := hd (HR.out.far (p := ⟨gl, n2, none⟩) hne2.out (.int .u8 (y : Int)))
      replace HBW := hd (HBW.out.setCell (p := ⟨gl, n2, none⟩) HGL.out (.int .u8 (y : Int)))
      generalize w5.setCell ⟨gl, n2, none⟩ (.int .u8 (y : Int)) = w6 at HO HA HR HBW ⊢
      clear hp hx fx e1 jn
      obtain ⟨r1, hr1⟩ : ∃ r1, Aside0 (rate - 1 = r1) := ⟨_, ⟨rfl⟩⟩
      have HR1L := hd (show r1 < rate by have := hr1.out; have := HR1.out; omega)
      obtain ⟨x2, HX2, hx2, fx2⟩ := HO.out.cellx r1 HR1L.out
      obtain ⟨y2, HY2⟩ : ∃ y, Aside0 (x2 ^^^ 128 = y) := ⟨_, ⟨rfl⟩⟩
      have h6ok := hd (show BytesOK ((b.drop (rate * i) ++ (List.replicate rate 0).drop n2).set n2 y) from (((HBO.out.drop _).append ((BytesOK.zeros _).drop _)).set (by rw [← HY.out]; exact xor_lt (by rw [← HX.out]; exact ((HBO.out.drop _).append ((BytesOK.zeros _).drop _)).getD _) HS.out) n2))
      have e2 : bits .xor .u8 (x2 : Int) 128 = (y2 : Int) := by rw [← HY2.out]; exact xor_u8 (by rw [← HX2.out]; exact h6ok.out.getD _) (by decide)
      have e3 : (rate : Int) - 1 = (r1 : Int) := by have := hr1.out; have := HR1.out; omega
      have jr : (r1 : Int) < rate := Int.ofNat_lt.2 HR1L.out
      have e4 : wrap64 (r1 : Int) = (r1 : Int) := wrap_le (by omega) (by have := HR1L.out; have := HR2.out; omega)
      go_upto_region 11 with (fail)
      have hp := HO.out.put r1 y2
      have hll := hd (show ((b.drop (rate * i) ++ (List.replicate rate 0).drop n2).set n2 y).set r1 y2 = lastN rate suf (b.drop (rate * i)) from by
        rw [lastN]
        simp only [HB2.out.2.1, List.drop_replicate] at HX HX2 ⊢
        rw [HX.out, HY.out, hr1.out, HX2.out, HY2.out])
      rw [hll.out] at hp
      have hlok := hd (lastN_ok (rate := rate) HS.out (HBO.out.drop (rate * i)))
      have hlb := hd (own_bytes hp hlok.out)
      replace HA := hd (HA.out.far (p := ⟨gl, r1, none⟩) hne1.out (.int .u8 (y2 : Int)))
      replace HR := hd (HR.out.far (p := ⟨gl, r1, none⟩) hne2.out (.int .u8 (y2 : Int)))
      replace HBW := hd (HBW.out.setCell (p := ⟨gl, r1, none⟩) HGL.out (.int .u8 (y2 : Int)))
      generalize w6.setCell ⟨gl, r1, none⟩ (.int .u8 (y2 : Int)) = w7 at hp hlb HA HR HBW ⊢
      clear hp hx2 fx2 e2 e3 e4 jr jc HO
      go_wp2_with ((with_reducible refine gate_dst (N := 49) rfl ?_); refine op_loadA 49 rfl rfl 135 22 25 _ rfl rfl HA.out (cellsOf .u64 (blocksN rate b i)) rfl Tryd.underlying135 (by kernel_rfl) (blocksN_length rate b i) ?_)
      refine (lay_calls (blocksN_length rate b i) (blocksN_ok HBO.out i) hlb.out HR2.out).mono ?_
      rintro e w8 ⟨rfl, hb⟩
      replace HR := hd (HR.out.below hb)
      replace HBW := hd (below_seq HBW.out hb)
      clear hb HA hlb
      go_wp2_with fail
      refine (kecF_calls (layN_length _ _) (layN_ok (blocksN_ok HBO.out i) hlok.out) (HT.out.below HBW.out) (HCO.out.below HBW.out)).mono ?_
      rintro e w9 ⟨rfl, hb⟩
      replace HR := hd (HR.out.below hb)
      replace HBW := hd (below_seq HBW.out hb)
      clear hb
      have hfin := hd (show kecN (layN (blocksN rate b i) (lastN rate suf (b.drop (rate * i)))) = absN rate suf b by rw [absN, HB0.out, HI.out.1])
      rw [hfin.out]
      go_wp2_with ((with_reducible refine gate_store (t := 135) (p := 6) rfl ?_); refine op_storeA rfl rfl 135 25 _ _ rfl rfl (absN rate suf b) rfl HR.out (by kernel_rfl) (List.length_replicate) (absN_length rate suf b) ?_; intro w10 hz1 ho1)
      exact ret_cellA Tryd.results81 rfl hz1 rfl Tryd.underlying135 (by kernel_rfl) (absN_length rate suf b) ⟨rfl, below_only HBW.out ho1 HQ.out⟩
end Go.Proofs.YtlgdplodglchaaaDoor
