/- Texts put together: PolPlus PolLess PolRest. -/
import Derived.Test.YtlgdplodglchaaaDoorProg
import Derived.Test.YtlgdplodglchaaaDoorGPlain
import Derived.Test.YtlgdplodglchaaaDoorGLib
import Derived.Laws.Externs
/- The walk through poly.number.plus. -/
set_option linter.unusedVariables false
set_option linter.unusedSimpArgs false
namespace Go.Proofs.YtlgdplodglchaaaDoor
open Go.RowKit Go.Proofs.YtlgdplodglchaaaDoorW.PrintWords Go.Proofs.YtlgdplodglchaaaDoorW.PrintLast Go.Proofs.YtlgdplodglchaaaDoorW.PrintMore

theorem num_length (n : Nat) : (num n).length = 3 := rfl
theorem add64_run (x y c : Nat) (hc : c ≤ 1) (w : World) : (callFunc 129 #[.int .u64 (x : Int), .int .u64 (y : Int), .int .u64 (c : Int)]).run Tryd.prog w =
    .ok (.value (.tuple #[.int .u64 (((x + y + c) % 18446744073709551616 : Nat) : Int), .int .u64 (((x + y + c) / 18446744073709551616 : Nat) : Int)])) w := by
  rw [run_callFunc_extern Tryd.func129 (by kernel_rfl) (by kernel_rfl) (by kernel_rfl) (e := add64Entry) (by kernel_rfl), run_add64 x y c (by omega) (by omega) (by omega) (by omega)]
  simp only [Result.andThen]
  congr 5 <;> omega
set_option maxHeartbeats 1000000 in
set_option maxRecDepth 100000 in
theorem plus_calls {a0 a1 a2 b0 b1 b2 : Nat} (a b : Nat) (ha : num a = [a0, a1, a2]) (hb : num b = [b0, b1, b2]) (W : World) :
    Calls Tryd.prog 116 #[.agg #[.int .u64 (a0 : Int), .int .u64 (a1 : Int), .int .u64 (a2 : Int)], .agg #[.int .u64 (b0 : Int), .int .u64 (b1 : Int), .int .u64 (b2 : Int)]] W fun e w' => ∃ s0 s1 s2, num (a + b) = [s0, s1, s2] ∧ e = .returned (.agg #[.int .u64 (s0 : Int), .int .u64 (s1 : Int), .int .u64 (s2 : Int)]) ∧ Below W.heap.size W w' := by
  have HA := hd ha
  have HB := hd hb
  clear ha hb
  go_enter Tryd.func116, Tryd.ntmps116
  go_wp2
  go_loopw [5, 7] (fun c i wr => ∃ k c' : Nat, k ≤ 3 ∧ i = .int .i64 k ∧ c = .int .u64 (c' : Int) ∧ plusC a b k = c' ∧ Arr .u64 170 W.heap.size wr (plusL a b k) ∧ Arr .u64 170 (W.heap.size + 1) wr (num b) ∧ Arr .u64 170 (W.heap.size + 2) wr [0, 0, 0] ∧ Below W.heap.size W wr) (fun _ i _ => 3 - (intOf i).toNat)
  case atStart =>
    have e0 := Arr.new (k := .u64) (T := 170) (l := [a0, a1, a2]) W (cs := #[.int .u64 (a0 : Int), .int .u64 (a1 : Int), .int .u64 (a2 : Int)]) rfl
    have e1 := Arr.new (k := .u64) (T := 170) (l := [b0, b1, b2]) (W.alloc (.cells #[.int .u64 (a0 : Int), .int .u64 (a1 : Int), .int .u64 (a2 : Int)] 170)) (cs := #[.int .u64 (b0 : Int), .int .u64 (b1 : Int), .int .u64 (b2 : Int)]) rfl
    have e2 := Arr.new (k := .u64) (T := 170) (l := [0, 0, 0]) ((W.alloc (.cells #[.int .u64 (a0 : Int), .int .u64 (a1 : Int), .int .u64 (a2 : Int)] 170)).alloc (.cells #[.int .u64 (b0 : Int), .int .u64 (b1 : Int), .int .u64 (b2 : Int)] 170)) (cs := #[.int .u64 0, .int .u64 0, .int .u64 0]) rfl
    rw [World.size_alloc] at e1
    rw [World.size_alloc, World.size_alloc] at e2
    refine ⟨0, 0, by omega, rfl, rfl, rfl, ?_, ?_, e2, below_alloc (below_alloc (below_alloc (Below.refl _ _) _) _) _⟩
    · have e : plusL a b 0 = [a0, a1, a2] := HA.out
      rw [e]
      exact (e0.below (below_alloc (Below.refl _ _) _)).below (below_alloc (Below.refl _ _) _)
    · rw [HB.out]
      exact e1.below (below_alloc (Below.refl _ _) _)
  case round =>
    obtain ⟨k, c, hk, rfl, rfl, hc, ha, hb, hr, hw⟩ := hrel
    have HC1 := hd (show c ≤ 1 by rw [← hc]; exact plusC_le a b k hk)
    have HC := hd hc
    clear hc
    by_cases hlt : k < 3
    · have i0 : (0 : Int) ≤ k := by omega
      have i1 : (k : Int) < 3 := by omega
      go_wp2_with fail
      refine upR_start Keeps.any [13] [(0, 1), (1, 1), (2, 1), (3, 1), (4, 1), (5, 1), (6, 1), (7, 1), (8, 0), (9, 1), (10, 1), (11, 2), (12, 1), (13, 0), (14, 1)] (by kernel_rfl) rfl (by kernel_rfl) (by kernel_rfl) ?_
      have ha1 := ha.drew
      have hb1 := hb.drew
      have hr1 := hr.drew
      have hw1 := hw.drew
      generalize wr.drew = w5 at ha1 hb1 hr1 hw1 ⊢
      obtain ⟨x, X, hx, fx⟩ := ha1.cell k (by rw [plusL_length _ _ _ hk]; exact hlt)
      obtain ⟨y, Y, hy, fy⟩ := hb1.cell k (by rw [num_length]; exact hlt)
      rw [plusL_get _ _ _ hlt] at X
      have gx := Grow.cells hx
      have gy := Grow.cells hy
      obtain ⟨s, HS⟩ : ∃ s, Aside0 ((x + y + c) % 18446744073709551616 = s) := ⟨_, ⟨rfl⟩⟩
      obtain ⟨d, HD⟩ : ∃ d, Aside0 ((x + y + c) / 18446744073709551616 = d) := ⟨_, ⟨rfl⟩⟩
      have hadd := fun w => (add64_run x y c HC1.out w)
      rw [HS.out, HD.out] at hadd
      have hcell := Arr.cell (ha1.set k s) k (by rw [List.length_set, plusL_length _ _ _ hk]; exact hlt)
      clear hx hy fy hcell ha hb hr hw
      refine rseq_pure (i := 0) (N := some 11) (v := ?_) (a' := ?_) rfl rfl (by rfl) (fun _ _ _ h => h) ?_ ?_ ?_
      rotate_left 2
      · intro w' hg
        go_simp
        with_reducible rfl
      · simp only [Act.put, List.setIfInBounds_toArray, List.set_cons_zero, List.set_cons_succ, i64_w, i32_w]
        rfl
      refine rseq_pure (i := 1) (N := some 12) (v := ?_) (a' := ?_) rfl rfl (by rfl) (fun _ _ _ h => h) ?_ ?_ ?_
      rotate_left 2
      · intro w' hg
        go_simp
        with_reducible rfl
      · simp only [Act.put, List.setIfInBounds_toArray, List.set_cons_zero, List.set_cons_succ, i64_w, i32_w]
        rfl
      refine rseq_pure (i := 2) (N := some 13) (v := ?_) (a' := ?_) rfl rfl (by rfl) (fun _ _ _ h => h) ?_ ?_ ?_
      rotate_left 2
      · intro w' hg
        go_simp
        with_reducible rfl
      · simp only [Act.put, List.setIfInBounds_toArray, List.set_cons_zero, List.set_cons_succ, i64_w, i32_w]
        rfl
      refine rseq_pure (i := 3) (N := some 14) (v := ?_) (a' := ?_) rfl rfl (by rfl) (fun _ _ _ h => h) ?_ ?_ ?_
      rotate_left 2
      · intro w' hg
        go_simp
        with_reducible rfl
      · simp only [Act.put, List.setIfInBounds_toArray, List.set_cons_zero, List.set_cons_succ, i64_w, i32_w]
        rfl
      refine rseq_pure (i := 4) (N := some 15) (v := ?_) (a' := ?_) rfl rfl (by rfl) (fun _ _ _ h => h) ?_ ?_ ?_
      rotate_left 2
      · intro w' hg
        go_simp
        with_reducible rfl
      · simp only [Act.put, List.setIfInBounds_toArray, List.set_cons_zero, List.set_cons_succ, i64_w, i32_w]
        rfl
      refine rseq_pure (i := 5) (N := some 16) (v := ?_) (a' := ?_) rfl rfl (by rfl) (fun _ _ _ h => h) ?_ ?_ ?_
      rotate_left 2
      · intro w' hg
        go_simp
        with_reducible rfl
      · simp only [Act.put, List.setIfInBounds_toArray, List.set_cons_zero, List.set_cons_succ, i64_w, i32_w]
        rfl
      refine rseq_pure (i := 6) (N := some 17) (v := ?_) (a' := ?_) rfl rfl (by rfl) (fun _ _ _ h => h) ?_ ?_ ?_
      rotate_left 2
      · intro w' hg
        go_simp
        with_reducible rfl
      · simp only [Act.put, List.setIfInBounds_toArray, List.set_cons_zero, List.set_cons_succ, i64_w, i32_w]
        rfl
      refine rseq_pure (i := 7) (N := some 18) (v := ?_) (a' := ?_) rfl rfl (by rfl) (fun _ _ _ h => h) ?_ ?_ ?_
      rotate_left 2
      · intro w' hg
        go_simp
        with_reducible rfl
      · simp only [Act.put, List.setIfInBounds_toArray, List.set_cons_zero, List.set_cons_succ, i64_w, i32_w]
        rfl
      refine rseq_value (i := 8) (N := some 19) (v := ?_) (a' := ?_) rfl rfl (by rfl) ?_ ⟨fun _ => Grow.refl _, trivial⟩ ?_ ?_
      rotate_left 2
      · go_simp
        rfl
      · simp only [Act.put, List.setIfInBounds_toArray, List.set_cons_zero, List.set_cons_succ, i64_w, i32_w]
        rfl
      refine rseq_pure (i := 9) (N := some 10) (v := ?_) (a' := ?_) rfl rfl (by rfl) (fun _ _ _ h => h) ?_ ?_ ?_
      rotate_left 2
      · intro w' hg
        go_simp
        with_reducible rfl
      · simp only [Act.put, List.setIfInBounds_toArray, List.set_cons_zero, List.set_cons_succ, i64_w, i32_w]
        rfl
      refine rseq_pure (i := 10) (N := some 20) (v := ?_) (a' := ?_) rfl rfl (by rfl) (fun _ _ _ h => h) ?_ ?_ ?_
      rotate_left 2
      · intro w' hg
        go_simp
        with_reducible rfl
      · simp only [Act.put, List.setIfInBounds_toArray, List.set_cons_zero, List.set_cons_succ, i64_w, i32_w]
        rfl
      refine rseq_pure2 (i := 11) (N := some 21) (v := ?_) (a' := ?_) rfl rfl (by rfl) (fun _ _ _ h => h) ?_ ?_ ?_
      rotate_left 2
      · intro w' hg
        go_simp
        with_reducible rfl
      · simp only [Act.put, List.setIfInBounds_toArray, List.set_cons_zero, List.set_cons_succ, i64_w, i32_w]
        rfl
      refine rseq_pure (i := 12) (N := some 22) (v := ?_) (a' := ?_) rfl rfl (by rfl) (fun _ _ _ h => h) ?_ ?_ ?_
      rotate_left 2
      · intro w' hg
        go_simp
        with_reducible rfl
      · simp only [Act.put, List.setIfInBounds_toArray, List.set_cons_zero, List.set_cons_succ, i64_w, i32_w]
        rfl
      have hx5 := gx _ (Grow.refl _)
      refine rseq_skip (i := 13) (w1 := ?_) rfl rfl (by rfl) ?_ ?_ ?_
      rotate_left
      · go_simp
        rfl
      · exact ⟨fun h => absurd (by decide) h, trivial⟩
      refine rseq_pure (i := 14) (N := some 5) (v := ?_) (a' := ?_) rfl rfl (by rfl) (fun _ _ _ h => h) ?_ ?_ ?_
      rotate_left 2
      · intro w' hg
        go_simp
        with_reducible rfl
      · simp only [Act.put, List.setIfInBounds_toArray, List.set_cons_zero, List.set_cons_succ, i64_w, i32_w]
        rfl
      refine rseq_done ?_
      go_wp2
      go_roundw
      case rel =>
        have e1 : num (a + b) = num (a + b) := rfl
        have e2 := plus_step a b k hlt
        rw [X.out, Y.out, HC.out, HS.out] at e2
        refine ⟨k + 1, d, by omega, by go_num, rfl, ?_, ?_, hb1.far (by simp) _, hr1.far (by simp) _, hw1.setCell (Nat.le_refl _) _⟩
        · rw [plusC, X.out, Y.out, HC.out, HD.out]
        · rw [plusL_set a b k hlt, ← e2]
          exact ha1.set k s
      case measure => simp [intOf]; omega
    · obtain rfl : k = 3 := by omega
      obtain ⟨s0, s1, s2, hs⟩ : ∃ s0 s1 s2, num (a + b) = [s0, s1, s2] := ⟨_, _, _, rfl⟩
      have e : plusL a b 3 = [s0, s1, s2] := hs
      rw [e] at ha
      have HS := hd hs
      clear e hs hb
      go_wp2_with (first
        | ((with_reducible refine gate_dst (N := 24) rfl ?_); refine op_loadA 24 rfl rfl 170 22 3 _ rfl rfl ha #[.int .u64 (s0 : Int), .int .u64 (s1 : Int), .int .u64 (s2 : Int)] rfl Tryd.underlying170 (by kernel_rfl) rfl ?_)
        | ((with_reducible refine gate_store (t := 170) (p := 4) rfl ?_); refine op_storeA rfl rfl 170 3 _ _ rfl rfl [s0, s1, s2] rfl hr (by kernel_rfl) rfl rfl ?_; intro w1 hr1 ho1))
      refine ret_cellA Tryd.results116 rfl hr1 rfl Tryd.underlying170 (by kernel_rfl) rfl ⟨s0, s1, s2, HS.out, rfl, below_only hw ho1 (by omega)⟩

end Go.Proofs.YtlgdplodglchaaaDoor
/- The walk through poly.number.less. -/
set_option linter.unusedVariables false
set_option linter.unusedSimpArgs false
namespace Go.Proofs.YtlgdplodglchaaaDoor
open Go.RowKit Go.Proofs.YtlgdplodglchaaaDoorW.PrintWords Go.Proofs.YtlgdplodglchaaaDoorW.PrintLast Go.Proofs.YtlgdplodglchaaaDoorW.PrintMore

theorem and3_u64 (x : Nat) (hx : x < 18446744073709551616) : bits .and .u64 (x : Int) 3 = ((x % 4 : Nat) : Int) := by
  have h := (bits_u (k := .u64) rfl x 3 hx (by decide)).1
  rw [show x &&& 3 = x % 4 from Nat.and_two_pow_sub_one_eq_mod x 2] at h
  exact h
theorem num_inj2 {n a0 a1 a2 : Nat} (h : num n = [a0, a1, a2]) : a0 = n % 18446744073709551616 ∧ a1 = n / 18446744073709551616 % 18446744073709551616 ∧ a2 = n / 340282366920938463463374607431768211456 % 18446744073709551616 := by
  simp only [num, List.cons.injEq, and_true] at h
  exact ⟨h.1.symm, h.2.1.symm, h.2.2.symm⟩
theorem num_low {a a0 a1 a2 m : Nat} (h : num a = [a0, a1, a2]) (hm : a2 % 4 = m) : num (a % 2 ^ 130) = [a0, a1, m] := by
  obtain ⟨rfl, rfl, rfl⟩ := num_inj2 h
  subst hm
  simp only [num, List.cons.injEq, and_true]
  refine ⟨by omega, by omega, by omega⟩
theorem num_high {a a0 a1 a2 m : Nat} (h : num a = [a0, a1, a2]) (hlt : a < 2 ^ 192) (hm : a2 / 4 = m) : num (a / 2 ^ 130) = [m, 0, 0] := by
  obtain ⟨rfl, rfl, rfl⟩ := num_inj2 h
  subst hm
  simp only [num, List.cons.injEq, and_true]
  refine ⟨by omega, by omega, by omega⟩
set_option maxHeartbeats 1000000 in
set_option maxRecDepth 100000 in
theorem less_calls {a0 a1 a2 : Nat} (a : Nat) (ha : num a = [a0, a1, a2]) (hlt : a < 2 ^ 192) (W : World) :
    Calls Tryd.prog 131 #[.agg #[.int .u64 (a0 : Int), .int .u64 (a1 : Int), .int .u64 (a2 : Int)]] W fun e w' => ∃ s0 s1 s2, num (lessN a) = [s0, s1, s2] ∧ e = .returned (.agg #[.int .u64 (s0 : Int), .int .u64 (s1 : Int), .int .u64 (s2 : Int)]) ∧ Below W.heap.size W w' := by
  obtain ⟨h, hh⟩ : ∃ h, a2 / 4 = h := ⟨_, rfl⟩
  obtain ⟨m, hm⟩ : ∃ m, a2 % 4 = m := ⟨_, rfl⟩
  have H1 := hd (num_high ha hlt hh)
  have H2 := hd (num_low ha hm)
  have e1 : (a2 : Int) / 4 = (h : Int) := by omega
  have e2 : bits .and .u64 (a2 : Int) 3 = (m : Int) := by rw [and3_u64 a2 (by obtain ⟨_, _, h⟩ := num_inj2 ha; omega), hm]
  have HN : lessN a = a % 2 ^ 130 + 5 * (a / 2 ^ 130) := rfl
  rw [HN]
  generalize a % 2 ^ 130 = lo at H2 ⊢
  generalize a / 2 ^ 130 = hi at H1 ⊢
  clear ha hlt HN hh hm
  go_enter Tryd.func131, Tryd.ntmps131
  go_wp2_with fail
  have b0 := Arr.new (k := .u64) (T := 170) (l := [a0, a1, m]) W (cs := #[.int .u64 (a0 : Int), .int .u64 (a1 : Int), .int .u64 (m : Int)]) rfl
  have b1 := Arr.new (k := .u64) (T := 170) (l := [0, 0, 0]) (W.alloc (.cells #[.int .u64 (a0 : Int), .int .u64 (a1 : Int), .int .u64 (m : Int)] 170)) (cs := #[.int .u64 0, .int .u64 0, .int .u64 0]) rfl
  have b2 := Arr.new (k := .u64) (T := 170) (l := [h, 0, 0]) ((W.alloc (.cells #[.int .u64 (a0 : Int), .int .u64 (a1 : Int), .int .u64 (m : Int)] 170)).alloc (.cells #[.int .u64 0, .int .u64 0, .int .u64 0] 170)) (cs := #[.int .u64 (h : Int), .int .u64 0, .int .u64 0]) rfl
  rw [World.size_alloc] at b1
  rw [World.size_alloc, World.size_alloc] at b2
  replace b0 := (b0.below (below_alloc (Below.refl _ _) (.cells #[.int .u64 0, .int .u64 0, .int .u64 0] 170))).below (below_alloc (Below.refl _ _) (.cells #[.int .u64 (h : Int), .int .u64 0, .int .u64 0] 170))
  replace b1 := b1.below (below_alloc (Below.refl _ _) (.cells #[.int .u64 (h : Int), .int .u64 0, .int .u64 0] 170))
  have hw := below_alloc (below_alloc (below_alloc (Below.refl W.heap.size W) (.cells #[.int .u64 (a0 : Int), .int .u64 (a1 : Int), .int .u64 (m : Int)] 170)) (.cells #[.int .u64 0, .int .u64 0, .int .u64 0] 170)) (.cells #[.int .u64 (h : Int), .int .u64 0, .int .u64 0] 170)
  generalize (((W.alloc (.cells #[.int .u64 (a0 : Int), .int .u64 (a1 : Int), .int .u64 (m : Int)] 170)).alloc (.cells #[.int .u64 0, .int .u64 0, .int .u64 0] 170)).alloc (.cells #[.int .u64 (h : Int), .int .u64 0, .int .u64 0] 170)) = w1 at b0 b1 b2 hw ⊢
  go_loopw [12] (fun i wr => ∃ k s0 s1 s2 : Nat, k ≤ 5 ∧ i = .int .i64 k ∧ num (lo + k * hi) = [s0, s1, s2] ∧ Arr .u64 170 W.heap.size wr [s0, s1, s2] ∧ Arr .u64 170 (W.heap.size + 1) wr [0, 0, 0] ∧ Arr .u64 170 (W.heap.size + 1 + 1) wr [h, 0, 0] ∧ Below W.heap.size W wr) (fun i _ => 5 - (intOf i).toNat)
  case atStart => exact ⟨0, a0, a1, m, by omega, rfl, by rw [Nat.zero_mul]; exact H2.out, b0, b1, b2, hw⟩
  case round =>
    clear b0 b1 b2 hw
    obtain ⟨k, s0, s1, s2, hk, rfl, hn, b0, b1, b2, hw⟩ := hrel
    have HN := hd hn
    clear hn
    by_cases hlt : k < 5
    · go_wp2_with (first
        | ((with_reducible refine gate_dst (N := 14) rfl ?_); refine op_loadA 14 rfl rfl 170 22 3 _ rfl rfl b0 #[.int .u64 (s0 : Int), .int .u64 (s1 : Int), .int .u64 (s2 : Int)] rfl Tryd.underlying170 (by kernel_rfl) rfl ?_)
        | ((with_reducible refine gate_dst (N := 15) rfl ?_); refine op_loadA 15 rfl rfl 170 22 3 _ rfl rfl b2 #[.int .u64 (h : Int), .int .u64 (0 : Int), .int .u64 (0 : Int)] rfl Tryd.underlying170 (by kernel_rfl) rfl ?_)
        | (go_at_call 116; refine (plus_calls (lo + k * hi) hi HN.out H1.out _).mono ?_; rintro e w2 ⟨t0, t1, t2, hn2, rfl, hb2⟩; replace b0 := b0.below hb2; replace b1 := b1.below hb2; replace b2 := b2.below hb2; replace hw := below_seq hw hb2; have HN2 := hd hn2; clear hn2)
        | ((with_reducible refine gate_store (t := 170) (p := 1) rfl ?_); refine op_storeA rfl rfl 170 3 _ _ rfl rfl [t0, t1, t2] rfl b0 (by kernel_rfl) rfl rfl ?_; intro w3 c0 o0; replace b1 := b1.only o0 (by omega); replace b2 := b2.only o0 (by omega); replace hw := below_only hw o0 (by omega); clear b0 o0))
      go_roundw
      case rel => exact ⟨k + 1, t0, t1, t2, by omega, by go_num, by rw [Nat.succ_mul, ← Nat.add_assoc]; exact HN2.out, c0, b1, b2, hw⟩
      case measure => simp [intOf]; omega
    · obtain rfl : k = 5 := by omega
      go_wp2_with (first
        | ((with_reducible refine gate_dst (N := 18) rfl ?_); refine op_loadA 18 rfl rfl 170 22 3 _ rfl rfl b0 #[.int .u64 (s0 : Int), .int .u64 (s1 : Int), .int .u64 (s2 : Int)] rfl Tryd.underlying170 (by kernel_rfl) rfl ?_)
        | ((with_reducible refine gate_store (t := 170) (p := 2) rfl ?_); refine op_storeA rfl rfl 170 3 _ _ rfl rfl [s0, s1, s2] rfl b1 (by kernel_rfl) rfl rfl ?_; intro w3 c1 o1))
      exact ret_cellA Tryd.results131 rfl c1 rfl Tryd.underlying170 (by kernel_rfl) rfl ⟨s0, s1, s2, HN.out, rfl, below_only hw o1 (by omega)⟩

end Go.Proofs.YtlgdplodglchaaaDoor
/- The walk through poly.number.rest. -/
set_option linter.unusedVariables false
set_option linter.unusedSimpArgs false
namespace Go.Proofs.YtlgdplodglchaaaDoor
open Go.RowKit Go.Proofs.YtlgdplodglchaaaDoorW.PrintWords Go.Proofs.YtlgdplodglchaaaDoorW.PrintLast Go.Proofs.YtlgdplodglchaaaDoorW.PrintMore

theorem lessN_lt {a : Nat} (h : a < 2 ^ 131) : lessN a < 2 ^ 130 + 5 := by
  unfold lessN
  omega
theorem lessN_mod (a : Nat) : lessN a % polyP = a % polyP := by
  unfold lessN polyP
  omega
theorem rest_ge {a : Nat} (h : lessN a < 2 ^ 130 + 5) (hh : 0 < (lessN a + 5) / 2 ^ 130) : (lessN a + 5) % 2 ^ 130 = a % polyP := by
  rw [← lessN_mod]
  generalize lessN a = l at *
  unfold polyP
  omega
theorem rest_lt {a : Nat} (hh : ¬ 0 < (lessN a + 5) / 2 ^ 130) : lessN a = a % polyP := by
  rw [← lessN_mod]
  generalize lessN a = l at *
  unfold polyP
  omega
theorem num_top {a a0 a1 a2 : Nat} (h : num a = [a0, a1, a2]) (hlt : a < 2 ^ 192) : a2 / 4 = a / 2 ^ 130 := by
  obtain ⟨rfl, rfl, rfl⟩ := num_inj2 h
  omega
set_option maxHeartbeats 1000000 in
set_option maxRecDepth 100000 in
theorem rest_calls {a0 a1 a2 : Nat} (a : Nat) (ha : num a = [a0, a1, a2]) (hlt : a < 2 ^ 131) (W : World) :
    Calls Tryd.prog 118 #[.agg #[.int .u64 (a0 : Int), .int .u64 (a1 : Int), .int .u64 (a2 : Int)]] W fun e w' => ∃ s0 s1 s2, num (a % polyP) = [s0, s1, s2] ∧ e = .returned (.agg #[.int .u64 (s0 : Int), .int .u64 (s1 : Int), .int .u64 (s2 : Int)]) ∧ Below W.heap.size W w' := by
  have HA := hd ha
  have HL := hd hlt
  clear ha hlt
  go_enter Tryd.func118, Tryd.ntmps118
  go_wp2_with fail
  have b0 := Arr.new (k := .u64) (T := 170) (l := [a0, a1, a2]) W (cs := #[.int .u64 (a0 : Int), .int .u64 (a1 : Int), .int .u64 (a2 : Int)]) rfl
  have b1 := Arr.new (k := .u64) (T := 170) (l := [0, 0, 0]) (W.alloc (.cells #[.int .u64 (a0 : Int), .int .u64 (a1 : Int), .int .u64 (a2 : Int)] 170)) (cs := #[.int .u64 0, .int .u64 0, .int .u64 0]) rfl
  rw [World.size_alloc] at b1
  replace b0 := b0.below (below_alloc (Below.refl _ _) (.cells #[.int .u64 0, .int .u64 0, .int .u64 0] 170))
  have hw := below_alloc (below_alloc (Below.refl W.heap.size W) (.cells #[.int .u64 (a0 : Int), .int .u64 (a1 : Int), .int .u64 (a2 : Int)] 170)) (.cells #[.int .u64 0, .int .u64 0, .int .u64 0] 170)
  generalize ((W.alloc (.cells #[.int .u64 (a0 : Int), .int .u64 (a1 : Int), .int .u64 (a2 : Int)] 170)).alloc (.cells #[.int .u64 0, .int .u64 0, .int .u64 0] 170)) = w1 at b0 b1 hw ⊢
  refine (less_calls a HA.out (Nat.lt_trans HL.out (by decide)) _).mono ?_
  rintro e w2 ⟨r0, r1, r2, hn, rfl, hb2⟩
  replace b0 := b0.below hb2
  replace b1 := b1.below hb2
  replace hw := below_seq hw hb2
  have HR := hd hn
  clear hn hb2 HA
  go_wp2_with (first
    | ((with_reducible refine gate_store (t := 170) (p := 1) rfl ?_); refine op_storeA rfl rfl 170 3 _ _ rfl rfl [r0, r1, r2] rfl b0 (by kernel_rfl) rfl rfl ?_; intro w3 c0 o0; replace b1 := b1.only o0 (by omega); replace hw := below_only hw o0 (by omega); clear b0 o0)
    | ((with_reducible refine gate_dst (N := 6) rfl ?_); refine op_loadA 6 rfl rfl 170 22 3 _ rfl rfl c0 #[.int .u64 (r0 : Int), .int .u64 (r1 : Int), .int .u64 (r2 : Int)] rfl Tryd.underlying170 (by kernel_rfl) rfl ?_))
  refine (plus_calls (lessN a) 5 HR.out rfl _).mono ?_
  rintro e w4 ⟨t0, t1, t2, hn, rfl, hb2⟩
  replace c0 := c0.below hb2
  replace b1 := b1.below hb2
  replace hw := below_seq hw hb2
  have hl := lessN_lt HL.out
  have ht := num_top hn (by omega)
  obtain ⟨h, hh⟩ : ∃ h, t2 / 4 = h := ⟨_, rfl⟩
  obtain ⟨m, hm⟩ : ∃ m, t2 % 4 = m := ⟨_, rfl⟩
  have H2 := hd (num_low hn hm)
  have e1 : (t2 : Int) / 4 = (h : Int) := by omega
  have e2 : bits .and .u64 (t2 : Int) 3 = (m : Int) := by rw [and3_u64 t2 (by obtain ⟨_, _, h⟩ := num_inj2 hn; omega), hm]
  rw [hh] at ht
  have hal := below_alloc (Below.refl w4.heap.size w4) (.cells #[.int .u64 (t0 : Int), .int .u64 (t1 : Int), .int .u64 (t2 : Int)] 170)
  have hal2 := below_alloc (Below.refl w4.heap.size w4) (.cells #[.int .u64 (t0 : Int), .int .u64 (t1 : Int), .int .u64 (m : Int)] 170)
  by_cases h0 : 0 < h
  · have q1 : decide ((0 : Int) < (h : Int)) = true := by simp; omega
    have HG := hd (rest_ge hl (by omega))
    have d2 := Arr.new (k := .u64) (T := 170) (l := [t0, t1, m]) w4 (cs := #[.int .u64 (t0 : Int), .int .u64 (t1 : Int), .int .u64 (m : Int)]) rfl
    have d1 := b1.below hal2
    have hsz : W.heap.size + 1 < w4.heap.size := b1.lt
    replace hw := below_seq hw hal2
    clear hn hl ht hh hm hb2 HR HL c0 b1 hal hal2
    go_wp2_with (first
      | ((with_reducible refine gate_dst (N := 17) rfl ?_); refine op_loadA 17 rfl rfl 170 22 3 _ rfl rfl d2 #[.int .u64 (t0 : Int), .int .u64 (t1 : Int), .int .u64 (m : Int)] rfl Tryd.underlying170 (by kernel_rfl) rfl ?_)
      | ((with_reducible refine gate_store (t := 170) (p := 2) rfl ?_); refine op_storeA rfl rfl 170 3 _ _ rfl rfl [t0, t1, m] rfl d1 (by kernel_rfl) rfl rfl ?_; intro w5 d1' o1))
    exact ret_cellA Tryd.results118 rfl d1' rfl Tryd.underlying170 (by kernel_rfl) rfl ⟨t0, t1, m, by rw [← HG.out]; exact H2.out, rfl, below_only hw o1 (by omega)⟩
  · have q1 : decide ((0 : Int) < (h : Int)) = false := by simp; omega
    have HG := hd (rest_lt (a := a) (by omega))
    have d1 := b1.below hal
    have d0 := c0.below hal
    replace hw := below_seq hw hal
    clear hn hl ht hh hm hb2 HL c0 b1 hal hal2
    go_wp2_with (first
      | ((with_reducible refine gate_dst (N := 18) rfl ?_); refine op_loadA 18 rfl rfl 170 22 3 _ rfl rfl d0 #[.int .u64 (r0 : Int), .int .u64 (r1 : Int), .int .u64 (r2 : Int)] rfl Tryd.underlying170 (by kernel_rfl) rfl ?_)
      | ((with_reducible refine gate_store (t := 170) (p := 2) rfl ?_); refine op_storeA rfl rfl 170 3 _ _ rfl rfl [r0, r1, r2] rfl d1 (by kernel_rfl) rfl rfl ?_; intro w5 d1' o1))
    exact ret_cellA Tryd.results118 rfl d1' rfl Tryd.underlying170 (by kernel_rfl) rfl ⟨r0, r1, r2, by rw [← HG.out]; exact HR.out, rfl, below_only hw o1 (by omega)⟩

end Go.Proofs.YtlgdplodglchaaaDoor
