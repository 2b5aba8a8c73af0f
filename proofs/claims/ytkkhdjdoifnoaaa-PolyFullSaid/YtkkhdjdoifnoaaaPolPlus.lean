/- The walk through poly.number.plus. -/
import Derived.Test.YtkkhdjdoifnoaaaProg
import Derived.Test.YtkkhdjdoifnoaaaPolPlain
import Derived.Test.YtkkhdjdoifnoaaaArrRow
import Derived.Test.YtkkhdjdoifnoaaaUpR
import Derived.Laws.Externs
set_option linter.unusedVariables false
set_option linter.unusedSimpArgs false
namespace Go.Proofs.Ytkkhdjdoifnoaaa
open Go.RowKit Go.Proofs.YtkkhdjdoifnoaaaW.PrintWords Go.Proofs.YtkkhdjdoifnoaaaW.PrintLast Go.Proofs.YtkkhdjdoifnoaaaW.PrintMore

theorem num_length (n : Nat) : (num n).length = 3 := rfl
theorem add64_run (x y c : Nat) (hc : c ≤ 1) (w : World) : (callFunc 20 #[.int .u64 (x : Int), .int .u64 (y : Int), .int .u64 (c : Int)]).run Try.prog w =
    .ok (.value (.tuple #[.int .u64 (((x + y + c) % 18446744073709551616 : Nat) : Int), .int .u64 (((x + y + c) / 18446744073709551616 : Nat) : Int)])) w := by
  rw [run_callFunc_extern Try.func20 (by kernel_rfl) (by kernel_rfl) (by kernel_rfl) (e := add64Entry) (by kernel_rfl), run_add64 x y c (by omega) (by omega) (by omega) (by omega)]
  simp only [Result.andThen]
  congr 5 <;> omega
set_option maxHeartbeats 1000000 in
set_option maxRecDepth 100000 in
theorem plus_calls {a0 a1 a2 b0 b1 b2 : Nat} (a b : Nat) (ha : num a = [a0, a1, a2]) (hb : num b = [b0, b1, b2]) (W : World) :
    Calls Try.prog 14 #[.agg #[.int .u64 (a0 : Int), .int .u64 (a1 : Int), .int .u64 (a2 : Int)], .agg #[.int .u64 (b0 : Int), .int .u64 (b1 : Int), .int .u64 (b2 : Int)]] W fun e w' => ∃ s0 s1 s2, num (a + b) = [s0, s1, s2] ∧ e = .returned (.agg #[.int .u64 (s0 : Int), .int .u64 (s1 : Int), .int .u64 (s2 : Int)]) ∧ Below W.heap.size W w' := by
  have HA := hd ha
  have HB := hd hb
  clear ha hb
  go_enter Try.func14, Try.ntmps14
  go_wp2
  go_loopw [5, 7] (fun c i wr => ∃ k c' : Nat, k ≤ 3 ∧ i = .int .i64 k ∧ c = .int .u64 (c' : Int) ∧ plusC a b k = c' ∧ Arr .u64 38 W.heap.size wr (plusL a b k) ∧ Arr .u64 38 (W.heap.size + 1) wr (num b) ∧ Arr .u64 38 (W.heap.size + 2) wr [0, 0, 0] ∧ Below W.heap.size W wr) (fun _ i _ => 3 - (intOf i).toNat)
  case atStart =>
    have e0 := Arr.new (k := .u64) (T := 38) (l := [a0, a1, a2]) W (cs := #[.int .u64 (a0 : Int), .int .u64 (a1 : Int), .int .u64 (a2 : Int)]) rfl
    have e1 := Arr.new (k := .u64) (T := 38) (l := [b0, b1, b2]) (W.alloc (.cells #[.int .u64 (a0 : Int), .int .u64 (a1 : Int), .int .u64 (a2 : Int)] 38)) (cs := #[.int .u64 (b0 : Int), .int .u64 (b1 : Int), .int .u64 (b2 : Int)]) rfl
    have e2 := Arr.new (k := .u64) (T := 38) (l := [0, 0, 0]) ((W.alloc (.cells #[.int .u64 (a0 : Int), .int .u64 (a1 : Int), .int .u64 (a2 : Int)] 38)).alloc (.cells #[.int .u64 (b0 : Int), .int .u64 (b1 : Int), .int .u64 (b2 : Int)] 38)) (cs := #[.int .u64 0, .int .u64 0, .int .u64 0]) rfl
    rw [World.size_alloc] at e1
    rw [World.size_alloc, World.size_alloc] at e2
    refine ⟨0, 0, by omega, rfl, rfl, rfl, ?_, ?_, e2, below_alloc (below_alloc (below_alloc (Below.refl _ _) _) _) _⟩
    · have e : plusL a b 0 = [a0, a1, a2] := HA.out
      rw [e]
      exact (e0.below (below_alloc (Below.refl _ _) _)).below (below_alloc (Below.refl _ _) _)
    · rw [HB.out]
      exact e1.below (below_alloc (Below.refl _ _) _)
  case round =>
    obtain ⟨k, c, hk, rfl, rfl, hc, ha, hb, hr, hw⟩ := hrel
    have HC1 := hd (show c ≤ 1 by rw [← hc]; exact plusC_le a b k hk)
    have HC := hd hc
    clear hc
    by_cases hlt : k < 3
    · have i0 : (0 : Int) ≤ k := by omega
      have i1 : (k : Int) < 3 := by omega
      go_wp2_with fail
      refine upR_start Keeps.any [13] [(0, 1), (1, 1), (2, 1), (3, 1), (4, 1), (5, 1), (6, 1), (7, 1), (8, 0), (9, 1), (10, 1), (11, 2), (12, 1), (13, 0), (14, 1)] (by kernel_rfl) rfl (by kernel_rfl) (by kernel_rfl) ?_
      have ha1 := ha.drew
      have hb1 := hb.drew
      have hr1 := hr.drew
      have hw1 := hw.drew
      generalize wr.drew = w5 at ha1 hb1 hr1 hw1 ⊢
      obtain ⟨x, X, hx, fx⟩ := ha1.cell k (by rw [plusL_length _ _ _ hk]; exact hlt)
      obtain ⟨y, Y, hy, fy⟩ := hb1.cell k (by rw [num_length]; exact hlt)
      rw [plusL_get _ _ _ hlt] at X
      have gx := Grow.cells hx
      have gy := Grow.cells hy
      obtain ⟨s, HS⟩ : ∃ s, Aside0 ((x + y + c) % 18446744073709551616 = s) := ⟨_, ⟨rfl⟩⟩
      obtain ⟨d, HD⟩ : ∃ d, Aside0 ((x + y + c) / 18446744073709551616 = d) := ⟨_, ⟨rfl⟩⟩
      have hadd := fun w => (add64_run x y c HC1.out w)
      rw [HS.out, HD.out] at hadd
      have hcell := Arr.cell (ha1.set k s) k (by rw [List.length_set, plusL_length _ _ _ hk]; exact hlt)
      clear hx hy fy hcell ha hb hr hw
      refine rseq_pure (i := 0) (N := some 11) (v := ?_) (a' := ?_) rfl rfl (by rfl) (fun _ _ _ h => h) ?_ ?_ ?_
      rotate_left 2
      · intro w' hg
        go_simp
        with_reducible rfl
      · simp only [Act.put, List.setIfInBounds_toArray, List.set_cons_zero, List.set_cons_succ, i64_w, i32_w]
        rfl
      refine rseq_pure (i := 1) (N := some 12) (v := ?_) (a' := ?_) rfl rfl (by rfl) (fun _ _ _ h => h) ?_ ?_ ?_
      rotate_left 2
      · intro w' hg
        go_simp
        with_reducible rfl
      · simp only [Act.put, List.setIfInBounds_toArray, List.set_cons_zero, List.set_cons_succ, i64_w, i32_w]
        rfl
      refine rseq_pure (i := 2) (N := some 13) (v := ?_) (a' := ?_) rfl rfl (by rfl) (fun _ _ _ h => h) ?_ ?_ ?_
      rotate_left 2
      · intro w' hg
        go_simp
        with_reducible rfl
      · simp only [Act.put, List.setIfInBounds_toArray, List.set_cons_zero, List.set_cons_succ, i64_w, i32_w]
        rfl
      refine rseq_pure (i := 3) (N := some 14) (v := ?_) (a' := ?_) rfl rfl (by rfl) (fun _ _ _ h => h) ?_ ?_ ?_
      rotate_left 2
      · intro w' hg
        go_simp
        with_reducible rfl
      · simp only [Act.put, List.setIfInBounds_toArray, List.set_cons_zero, List.set_cons_succ, i64_w, i32_w]
        rfl
      refine rseq_pure (i := 4) (N := some 15) (v := ?_) (a' := ?_) rfl rfl (by rfl) (fun _ _ _ h => h) ?_ ?_ ?_
      rotate_left 2
      · intro w' hg
        go_simp
        with_reducible rfl
      · simp only [Act.put, List.setIfInBounds_toArray, List.set_cons_zero, List.set_cons_succ, i64_w, i32_w]
        rfl
      refine rseq_pure (i := 5) (N := some 16) (v := ?_) (a' := ?_) rfl rfl (by rfl) (fun _ _ _ h => h) ?_ ?_ ?_
      rotate_left 2
      · intro w' hg
        go_simp
        with_reducible rfl
      · simp only [Act.put, List.setIfInBounds_toArray, List.set_cons_zero, List.set_cons_succ, i64_w, i32_w]
        rfl
      refine rseq_pure (i := 6) (N := some 17) (v := ?_) (a' := ?_) rfl rfl (by rfl) (fun _ _ _ h => h) ?_ ?_ ?_
      rotate_left 2
      · intro w' hg
        go_simp
        with_reducible rfl
      · simp only [Act.put, List.setIfInBounds_toArray, List.set_cons_zero, List.set_cons_succ, i64_w, i32_w]
        rfl
      refine rseq_pure (i := 7) (N := some 18) (v := ?_) (a' := ?_) rfl rfl (by rfl) (fun _ _ _ h => h) ?_ ?_ ?_
      rotate_left 2
      · intro w' hg
        go_simp
        with_reducible rfl
      · simp only [Act.put, List.setIfInBounds_toArray, List.set_cons_zero, List.set_cons_succ, i64_w, i32_w]
        rfl
      refine rseq_value (i := 8) (N := some 19) (v := ?_) (a' := ?_) rfl rfl (by rfl) ?_ ⟨fun _ => Grow.refl _, trivial⟩ ?_ ?_
      rotate_left 2
      · go_simp
        rfl
      · simp only [Act.put, List.setIfInBounds_toArray, List.set_cons_zero, List.set_cons_succ, i64_w, i32_w]
        rfl
      refine rseq_pure (i := 9) (N := some 10) (v := ?_) (a' := ?_) rfl rfl (by rfl) (fun _ _ _ h => h) ?_ ?_ ?_
      rotate_left 2
      · intro w' hg
        go_simp
        with_reducible rfl
      · simp only [Act.put, List.setIfInBounds_toArray, List.set_cons_zero, List.set_cons_succ, i64_w, i32_w]
        rfl
      refine rseq_pure (i := 10) (N := some 20) (v := ?_) (a' := ?_) rfl rfl (by rfl) (fun _ _ _ h => h) ?_ ?_ ?_
      rotate_left 2
      · intro w' hg
        go_simp
        with_reducible rfl
      · simp only [Act.put, List.setIfInBounds_toArray, List.set_cons_zero, List.set_cons_succ, i64_w, i32_w]
        rfl
      refine rseq_pure2 (i := 11) (N := some 21) (v := ?_) (a' := ?_) rfl rfl (by rfl) (fun _ _ _ h => h) ?_ ?_ ?_
      rotate_left 2
      · intro w' hg
        go_simp
        with_reducible rfl
      · simp only [Act.put, List.setIfInBounds_toArray, List.set_cons_zero, List.set_cons_succ, i64_w, i32_w]
        rfl
      refine rseq_pure (i := 12) (N := some 22) (v := ?_) (a' := ?_) rfl rfl (by rfl) (fun _ _ _ h => h) ?_ ?_ ?_
      rotate_left 2
      · intro w' hg
        go_simp
        with_reducible rfl
      · simp only [Act.put, List.setIfInBounds_toArray, List.set_cons_zero, List.set_cons_succ, i64_w, i32_w]
        rfl
      have hx5 := gx _ (Grow.refl _)
      refine rseq_skip (i := 13) (w1 := ?_) rfl rfl (by rfl) ?_ ?_ ?_
      rotate_left
      · go_simp
        rfl
      · exact ⟨fun h => absurd (by decide) h, trivial⟩
      refine rseq_pure (i := 14) (N := some 5) (v := ?_) (a' := ?_) rfl rfl (by rfl) (fun _ _ _ h => h) ?_ ?_ ?_
      rotate_left 2
      · intro w' hg
        go_simp
        with_reducible rfl
      · simp only [Act.put, List.setIfInBounds_toArray, List.set_cons_zero, List.set_cons_succ, i64_w, i32_w]
        rfl
      refine rseq_done ?_
      go_wp2
      go_roundw
      case rel =>
        have e1 : num (a + b) = num (a + b) := rfl
        have e2 := plus_step a b k hlt
        rw [X.out, Y.out, HC.out, HS.out] at e2
        refine ⟨k + 1, d, by omega, by go_num, rfl, ?_, ?_, hb1.far (by simp) _, hr1.far (by simp) _, hw1.setCell (Nat.le_refl _) _⟩
        · rw [plusC, X.out, Y.out, HC.out, HD.out]
        · rw [plusL_set a b k hlt, ← e2]
          exact ha1.set k s
      case measure => simp [intOf]; omega
    · obtain rfl : k = 3 := by omega
      obtain ⟨s0, s1, s2, hs⟩ : ∃ s0 s1 s2, num (a + b) = [s0, s1, s2] := ⟨_, _, _, rfl⟩
      have e : plusL a b 3 = [s0, s1, s2] := hs
      rw [e] at ha
      have HS := hd hs
      clear e hs hb
      go_wp2_with (first
        | ((with_reducible refine gate_dst (N := 24) rfl ?_); refine op_loadA 24 rfl rfl 38 31 3 _ rfl rfl ha #[.int .u64 (s0 : Int), .int .u64 (s1 : Int), .int .u64 (s2 : Int)] rfl Try.underlying38 (by kernel_rfl) rfl ?_)
        | ((with_reducible refine gate_store (t := 38) (p := 4) rfl ?_); refine op_storeA rfl rfl 38 3 _ _ rfl rfl [s0, s1, s2] rfl hr (by kernel_rfl) rfl rfl ?_; intro w1 hr1 ho1))
      refine ret_cellA Try.results14 rfl hr1 rfl Try.underlying38 (by kernel_rfl) rfl ⟨s0, s1, s2, HS.out, rfl, below_only hw ho1 (by omega)⟩

end Go.Proofs.Ytkkhdjdoifnoaaa
