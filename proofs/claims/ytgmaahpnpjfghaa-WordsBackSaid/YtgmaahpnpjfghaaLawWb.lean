/- WordsBack: the walk. -/
import Derived.Test.YtgmaahpnpjfghaaAwake01
import Derived.Test.YtgmaahpnpjfghaaUp
set_option linter.unusedVariables false
set_option linter.unusedSimpArgs false
namespace Go.Proofs.Ytgmaahpnpjfghaa
open Go.RowKit Go.Proofs.YtgmaahpnpjfghaaW.PrintWords Go.Proofs.YtgmaahpnpjfghaaW.PrintLast Go.Proofs.YtgmaahpnpjfghaaW.PrintMore

theorem nat_of_u64 {a : Int} (h : (Lit.int .u64 a).wf = true) : ∃ x : Nat, a = x ∧ x < 2 ^ 64 := by
  simp [Lit.wf, IntKind.min, IntKind.max, IntKind.signed, IntKind.bits] at h
  exact ⟨a.toNat, by omega, by omega⟩
theorem back_all {x : Nat} (h : x < 2 ^ 64) : loadN (List.take 8 (storeN x (min (Int.toNat 8) 8))) = x := by
  rw [show min (Int.toNat 8) 8 = 8 from rfl, List.take_of_length_le (by rw [storeN_length]; exact Nat.le_refl _), loadN_storeN]
  exact Nat.mod_eq_of_lt h
theorem back_half {x : Nat} : loadN (List.take 8 (storeN x (min (Int.toNat 4) 8))) = x % 4294967296 := by
  rw [show min (Int.toNat 4) 8 = 4 from rfl, List.take_of_length_le (by rw [storeN_length]; decide), loadN_storeN]
theorem xorL_three (a b : List Nat) : xorL (xorL a b) b = a.take (min a.length b.length) := by
  rw [xorL_twice]
  rcases Nat.le_total a.length b.length with h | h
  · rw [Nat.min_eq_left h, List.take_of_length_le h, List.take_of_length_le (Nat.le_refl _)]
  · rw [Nat.min_eq_right h]

set_option maxHeartbeats 2000000 in
set_option maxRecDepth 100000 in
theorem wordsBack_big (W : World) (x : Int) {A B : Option Addr} {na nb ca cb : Nat} (h : 2000 < na ∨ 2000 < nb) :
    Calls Try.prog 6 #[.int .u64 x, .slice A na ca, .slice B nb cb] W fun e w' => e = .returned (.bool true) ∧ Below W.heap.size W w' := by
  by_cases h1 : 2000 < na
  · have q1 : decide ((2000 : Int) < (na : Int)) = true := by simp; omega
    clear h
    go_enter Try.func6, Try.ntmps6
    go_wp2_with (go_at_call 9; refine (awake_calls W).mono ?_; rintro e w1 ⟨rfl, hb1⟩)
    go_ret
    exact ⟨rfl, hb1⟩
  · have q1 : decide ((2000 : Int) < (na : Int)) = false := by simp; omega
    have q2 : decide ((2000 : Int) < (nb : Int)) = true := by simp; omega
    clear h
    go_enter Try.func6, Try.ntmps6
    go_wp2_with (go_at_call 9; refine (awake_calls W).mono ?_; rintro e w1 ⟨rfl, hb1⟩)
    go_ret
    exact ⟨rfl, hb1⟩

set_option maxHeartbeats 4000000 in
set_option maxRecDepth 100000 in
theorem wordsBack_walk (W : World) (x : Int) (hx : (Lit.int .u64 x).wf = true) {A : Option Addr} {na ca : Nat} {a : List Nat} (ha : Bytes W A na ca a) (hfa : na ≤ 140737488351232) {B : Option Addr} {nb cb : Nat} {b : List Nat} (hb : Bytes W B nb cb b) (hfb : nb ≤ 140737488351232) :
    Calls Try.prog 6 #[.int .u64 x, .slice A na ca, .slice B nb cb] W fun e w' => e = .returned (.bool true) ∧ Below W.heap.size W w' := by
  by_cases h1 : 2000 < na
  · exact wordsBack_big W x (Or.inl h1)
  by_cases h2 : 2000 < nb
  · exact wordsBack_big W x (Or.inr h2)
  obtain ⟨x, rfl, hx2⟩ := nat_of_u64 hx
  have q1 : decide ((2000 : Int) < (na : Int)) = false := by simp; omega
  have q2 : decide ((2000 : Int) < (nb : Int)) = false := by simp; omega
  obtain ⟨m, hm⟩ : ∃ m : Nat, m = min na nb := ⟨_, rfl⟩
  have hm3 : (if nb < na then (nb : Int) else (na : Int)) = (m : Int) := by split <;> omega
  have hma : m ≤ na := by omega
  have hmca : m ≤ ca := Nat.le_trans hma ha.2.2.1
  have hmm : min a.length b.length = m := by rw [ha.2.1, hb.2.1, hm]
  have HM := hd hmm
  have HMA := hd hma
  have HTL := hd (show (a.take m).length = m by rw [List.length_take, ha.2.1]; omega)
  clear hx hm hmm
  go_enter Try.func6, Try.ntmps6
  go_wp2_with (first
    | (go_at_call 9; refine (awake_calls W).mono ?_; rintro e w1 ⟨rfl, hb1⟩)
    | (go_at_call 14; refine (xor_calls (ha.below hb1) (hb.below hb1) (by omega)).mono ?_; rintro e w2 ⟨v2, rfl, ho2, hw2⟩; obtain ⟨A2, c2, rfl, hy⟩ := ho2.bytes m (by rw [xorL_length, HM.out]) (xorL_ok ha.ok hb.ok)))
  have hb2 := below_seq hb1 hw2
  clear ho2 hw2 hb1 hm3
  have hand : bits .and .u64 (x : Int) 4294967295 = ((x % 4294967296 : Nat) : Int) := by
    have := (bits_u (k := .u64) rfl x (2 ^ 32 - 1) hx2 (by decide)).1
    rw [Nat.and_two_pow_sub_one_eq_mod] at this
    exact this
  by_cases hnab : na = nb
  · have q3 : ((na : Int) == (nb : Int)) = true := by simp [hnab]
    have hpost : (gatherL (xorL a b) == 0) = (a == b) := by
      have := equal_post (a := a) (b := b) (by rw [ha.2.1, hb.2.1, hnab])
      rwa [show ((0 : Int)) = ((0 : Nat) : Int) from rfl, beq_nat] at this
    have HEQ := hd hpost
    clear hnab hpost
    refine up_start [] [(0, true), (3, true), (1, false), (2, false), (4, true), (5, true), (6, true), (9, true), (10, true), (7, false), (8, false), (11, true), (12, true), (13, true), (14, true), (15, true), (17, true), (18, true), (19, true), (16, false), (20, false), (21, true), (22, true), (23, true), (24, true), (26, true), (27, true), (28, true), (29, true), (30, true), (25, false), (31, true), (32, true), (33, false), (34, true), (35, true), (36, true), (37, true)] (by kernel_rfl) rfl (by kernel_rfl) (by kernel_rfl) ?_
    have ha2 := ha.below hb2.drew
    have hb0 := hb.below hb2.drew
    have hy2 := hy.drew
    have g2 := hb2.drew
    generalize w2.drew = w3 at ha2 hb0 hy2 g2 ⊢
    clear hy hb2
    refine seq_pure (i := 0) (N := some 29) (v := ?_) (a' := ?_) rfl rfl (by rfl) (fun _ _ _ h => h) ?_ ?_ ?_
    rotate_left 2
    · intro w' hg
      go_simp
      with_reducible rfl
    · simp only [Act.put, List.setIfInBounds_toArray, List.set_cons_zero, List.set_cons_succ, i64_w, i32_w]
      rfl
    refine seq_pure (i := 3) (N := some 32) (v := ?_) (a' := ?_) rfl rfl (by rfl) (fun _ _ _ h => h) ?_ ?_ ?_
    rotate_left 2
    · intro w' hg
      go_simp
      with_reducible rfl
    · simp only [Act.put, List.setIfInBounds_toArray, List.set_cons_zero, List.set_cons_succ, i64_w, i32_w]
      rfl
    refine seq_call (i := 1) (N := some 30) rfl rfl Try.func12 (by kernel_rfl) rfl #[.int .u64 x, .int .i64 8] (by rfl) rfl ?_ ?_
    · simp only [List.map_toArray, List.map_cons, List.map_nil]
      rfl
    refine (store_calls x 8 _ rfl hx2).mono ?_
    rintro e w4 ⟨v, rfl, ho, hg4⟩
    obtain ⟨A4, c4, rfl, h4⟩ := ho.bytes 8 (storeN_length _ _) (storeN_ok _ _)
    replace ha2 := ha2.below hg4
    replace hb0 := hb0.below hg4
    replace hy2 := hy2.below hg4
    refine ⟨_, rfl, fun _ => hg4, ?_⟩
    clear ho
    refine seq_norm (a' := ?_) ?_ ?_
    rotate_left
    · show Act.put _ (some 30) _ = _
      simp only [Act.put, List.setIfInBounds_toArray, List.set_cons_zero, List.set_cons_succ, i64_w, i32_w]
      rfl
    refine seq_call (i := 2) (N := some 31) rfl rfl Try.func10 (by kernel_rfl) rfl #[.slice A4 8 c4] (by rfl) rfl ?_ ?_
    · simp only [List.map_toArray, List.map_cons, List.map_nil]
      rfl
    refine (load_calls h4).mono ?_
    rintro e w' ⟨rfl, rfl⟩
    rw [back_all hx2]
    refine ⟨_, rfl, fun _ => Grow.refl _, ?_⟩
    refine seq_norm (a' := ?_) ?_ ?_
    rotate_left
    · show Act.put _ (some 31) _ = _
      simp only [Act.put, List.setIfInBounds_toArray, List.set_cons_zero, List.set_cons_succ, i64_w, i32_w]
      rfl
    refine seq_pure (i := 4) (N := some 33) (v := ?_) (a' := ?_) rfl rfl (by rfl) (fun _ _ _ h => h) ?_ ?_ ?_
    rotate_left 2
    · intro w' hg
      go_simp
      with_reducible rfl
    · simp only [Act.put, List.setIfInBounds_toArray, List.set_cons_zero, List.set_cons_succ, i64_w, i32_w]
      rfl
    refine seq_pure (i := 5) (N := some 34) (v := ?_) (a' := ?_) rfl rfl (by rfl) (fun _ _ _ h => h) ?_ ?_ ?_
    rotate_left 2
    · intro w' hg
      go_simp
      with_reducible rfl
    · simp only [Act.put, List.setIfInBounds_toArray, List.set_cons_zero, List.set_cons_succ, i64_w, i32_w]
      rfl
    refine seq_pure (i := 6) (N := some 35) (v := ?_) (a' := ?_) rfl rfl (by rfl) (fun _ _ _ h => h) ?_ ?_ ?_
    rotate_left 2
    · intro w' hg
      go_simp
      with_reducible rfl
    · simp only [Act.put, List.setIfInBounds_toArray, List.set_cons_zero, List.set_cons_succ, i64_w, i32_w]
      rfl
    refine seq_pure (i := 9) (N := some 38) (v := ?_) (a' := ?_) rfl rfl (by rfl) (fun _ _ _ h => h) ?_ ?_ ?_
    rotate_left 2
    · intro w' hg
      go_simp
      with_reducible rfl
    · simp only [Act.put, List.setIfInBounds_toArray, List.set_cons_zero, List.set_cons_succ, i64_w, i32_w]
      rfl
    refine seq_pure (i := 10) (N := some 39) (v := ?_) (a' := ?_) rfl rfl (by rfl) (fun _ _ _ h => h) ?_ ?_ ?_
    rotate_left 2
    · intro w' hg
      go_simp
      with_reducible rfl
    · simp only [Act.put, List.setIfInBounds_toArray, List.set_cons_zero, List.set_cons_succ, i64_w, i32_w]
      rfl
    refine seq_call (i := 7) (N := some 36) rfl rfl Try.func12 (by kernel_rfl) rfl #[.int .u64 x, .int .i64 4] (by rfl) rfl ?_ ?_
    · simp only [List.map_toArray, List.map_cons, List.map_nil]
      rfl
    refine (store_calls x 4 _ rfl hx2).mono ?_
    rintro e w5 ⟨v, rfl, ho, hg5⟩
    obtain ⟨A5, c5, rfl, h5⟩ := ho.bytes 4 (storeN_length _ _) (storeN_ok _ _)
    replace ha2 := ha2.below hg5
    replace hb0 := hb0.below hg5
    replace hy2 := hy2.below hg5
    refine ⟨_, rfl, fun _ => hg5, ?_⟩
    clear ho
    refine seq_norm (a' := ?_) ?_ ?_
    rotate_left
    · show Act.put _ (some 36) _ = _
      simp only [Act.put, List.setIfInBounds_toArray, List.set_cons_zero, List.set_cons_succ, i64_w, i32_w]
      rfl
    refine seq_call (i := 8) (N := some 37) rfl rfl Try.func10 (by kernel_rfl) rfl #[.slice A5 4 c5] (by rfl) rfl ?_ ?_
    · simp only [List.map_toArray, List.map_cons, List.map_nil]
      rfl
    refine (load_calls h5).mono ?_
    rintro e w' ⟨rfl, rfl⟩
    rw [back_half]
    refine ⟨_, rfl, fun _ => Grow.refl _, ?_⟩
    refine seq_norm (a' := ?_) ?_ ?_
    rotate_left
    · show Act.put _ (some 37) _ = _
      simp only [Act.put, List.setIfInBounds_toArray, List.set_cons_zero, List.set_cons_succ, i64_w, i32_w]
      rfl
    refine seq_pure (i := 11) (N := some 40) (v := ?_) (a' := ?_) rfl rfl (by rfl) (fun _ _ _ h => h) ?_ ?_ ?_
    rotate_left 2
    · intro w' hg
      go_simp
      with_reducible rfl
    · simp only [Act.put, List.setIfInBounds_toArray, List.set_cons_zero, List.set_cons_succ, i64_w, i32_w]
      rfl
    refine seq_pure (i := 12) (N := some 41) (v := ?_) (a' := ?_) rfl rfl (by rfl) (fun _ _ _ h => h) ?_ ?_ ?_
    rotate_left 2
    · intro w' hg
      go_simp
      with_reducible rfl
    · simp only [Act.put, List.setIfInBounds_toArray, List.set_cons_zero, List.set_cons_succ, i64_w, i32_w]
      rfl
    refine seq_pure (i := 13) (N := some 42) (v := ?_) (a' := ?_) rfl rfl (by rfl) (fun _ _ _ h => h) ?_ ?_ ?_
    rotate_left 2
    · intro w' hg
      go_simp
      with_reducible rfl
    · simp only [Act.put, List.setIfInBounds_toArray, List.set_cons_zero, List.set_cons_succ, i64_w, i32_w]
      rfl
    refine seq_pure (i := 14) (N := some 43) (v := ?_) (a' := ?_) rfl rfl (by rfl) (fun _ _ _ h => h) ?_ ?_ ?_
    rotate_left 2
    · intro w' hg
      go_simp
      with_reducible rfl
    · simp only [Act.put, List.setIfInBounds_toArray, List.set_cons_zero, List.set_cons_succ, i64_w, i32_w]
      rfl
    refine seq_pure (i := 15) (N := some 44) (v := ?_) (a' := ?_) rfl rfl (by rfl) (fun _ _ _ h => h) ?_ ?_ ?_
    rotate_left 2
    · intro w' hg
      go_simp
      with_reducible rfl
    · simp only [Act.put, List.setIfInBounds_toArray, List.set_cons_zero, List.set_cons_succ, i64_w, i32_w]
      rfl
    refine seq_pure (i := 17) (N := some 46) (v := ?_) (a' := ?_) rfl rfl (by rfl) (fun _ _ _ h => h) ?_ ?_ ?_
    rotate_left 2
    · intro w' hg
      go_simp
      with_reducible rfl
    · simp only [Act.put, List.setIfInBounds_toArray, List.set_cons_zero, List.set_cons_succ, i64_w, i32_w]
      rfl
    refine seq_pure (i := 18) (N := some 47) (v := ?_) (a' := ?_) rfl rfl (by rfl) (fun _ _ _ h => h) ?_ ?_ ?_
    rotate_left 2
    · intro w' hg
      go_simp
      with_reducible rfl
    · simp only [Act.put, List.setIfInBounds_toArray, List.set_cons_zero, List.set_cons_succ, i64_w, i32_w]
      rfl
    refine seq_pure (i := 19) (N := some 48) (v := ?_) (a' := ?_) rfl rfl (by rfl) (fun _ _ _ h => h) ?_ ?_ ?_
    rotate_left 2
    · intro w' hg
      go_simp
      with_reducible rfl
    · simp only [Act.put, List.setIfInBounds_toArray, List.set_cons_zero, List.set_cons_succ, i64_w, i32_w]
      rfl
    refine seq_call (i := 16) (N := some 45) rfl rfl Try.func14 (by kernel_rfl) rfl #[.slice A2 m c2, .slice B nb cb] (by rfl) rfl ?_ ?_
    · simp only [List.map_toArray, List.map_cons, List.map_nil]
      rfl
    refine (xor_calls hy2 hb0 (by omega)).mono ?_
    rintro e w6 ⟨v, rfl, ho, hg6⟩
    rw [xorL_three, HM.out] at ho
    obtain ⟨A6, c6, rfl, h6⟩ := ho.bytes m HTL.out (ha.ok.take m)
    replace ha2 := ha2.below hg6
    replace hb0 := hb0.below hg6
    replace hy2 := hy2.below hg6
    refine ⟨_, rfl, fun _ => hg6, ?_⟩
    clear ho
    refine seq_norm (a' := ?_) ?_ ?_
    rotate_left
    · show Act.put _ (some 45) _ = _
      simp only [Act.put, List.setIfInBounds_toArray, List.set_cons_zero, List.set_cons_succ, i64_w, i32_w]
      rfl
    refine seq_call (i := 20) (N := some 49) rfl rfl Try.func17 (by kernel_rfl) rfl #[.slice A6 m c6, .slice A m ca] (by rfl) rfl ?_ ?_
    · simp only [List.map_toArray, List.map_cons, List.map_nil]
      rfl
    have hat := ha2.take m HMA.out
    refine (equal_calls h6 hat (by omega)).mono ?_
    rintro e w7 ⟨rfl, hg7⟩
    rw [show (a.take m == a.take m) = true from beq_self_eq_true _]
    replace ha2 := ha2.below hg7
    replace hb0 := hb0.below hg7
    replace hy2 := hy2.below hg7
    refine ⟨_, rfl, fun _ => hg7, ?_⟩
    clear hat
    refine seq_norm (a' := ?_) ?_ ?_
    rotate_left
    · show Act.put _ (some 49) _ = _
      simp only [Act.put, List.setIfInBounds_toArray, List.set_cons_zero, List.set_cons_succ, i64_w, i32_w]
      rfl
    refine seq_pure (i := 21) (N := some 50) (v := ?_) (a' := ?_) rfl rfl (by rfl) (fun _ _ _ h => h) ?_ ?_ ?_
    rotate_left 2
    · intro w' hg
      go_simp
      with_reducible rfl
    · simp only [Act.put, List.setIfInBounds_toArray, List.set_cons_zero, List.set_cons_succ, i64_w, i32_w]
      rfl
    refine seq_pure (i := 22) (N := some 51) (v := ?_) (a' := ?_) rfl rfl (by rfl) (fun _ _ _ h => h) ?_ ?_ ?_
    rotate_left 2
    · intro w' hg
      go_simp
      with_reducible rfl
    · simp only [Act.put, List.setIfInBounds_toArray, List.set_cons_zero, List.set_cons_succ, i64_w, i32_w]
      rfl
    refine seq_pure (i := 23) (N := some 52) (v := ?_) (a' := ?_) rfl rfl (by rfl) (fun _ _ _ h => h) ?_ ?_ ?_
    rotate_left 2
    · intro w' hg
      go_simp
      with_reducible rfl
    · simp only [Act.put, List.setIfInBounds_toArray, List.set_cons_zero, List.set_cons_succ, i64_w, i32_w]
      rfl
    refine seq_pure (i := 24) (N := some 53) (v := ?_) (a' := ?_) rfl rfl (by rfl) (fun _ _ _ h => h) ?_ ?_ ?_
    rotate_left 2
    · intro w' hg
      go_simp
      with_reducible rfl
    · simp only [Act.put, List.setIfInBounds_toArray, List.set_cons_zero, List.set_cons_succ, i64_w, i32_w]
      rfl
    refine seq_pure (i := 26) (N := some 55) (v := ?_) (a' := ?_) rfl rfl (by rfl) (fun _ _ _ h => h) ?_ ?_ ?_
    rotate_left 2
    · intro w' hg
      go_simp
      with_reducible rfl
    · simp only [Act.put, List.setIfInBounds_toArray, List.set_cons_zero, List.set_cons_succ, i64_w, i32_w]
      rfl
    refine seq_pure (i := 27) (N := some 56) (v := ?_) (a' := ?_) rfl rfl (by rfl) (fun _ _ _ h => h) ?_ ?_ ?_
    rotate_left 2
    · intro w' hg
      go_simp
      with_reducible rfl
    · simp only [Act.put, List.setIfInBounds_toArray, List.set_cons_zero, List.set_cons_succ, i64_w, i32_w]
      rfl
    refine seq_pure (i := 28) (N := some 57) (v := ?_) (a' := ?_) rfl rfl (by rfl) (fun _ _ _ h => h) ?_ ?_ ?_
    rotate_left 2
    · intro w' hg
      go_simp
      with_reducible rfl
    · simp only [Act.put, List.setIfInBounds_toArray, List.set_cons_zero, List.set_cons_succ, i64_w, i32_w]
      rfl
    refine seq_pure (i := 29) (N := some 58) (v := ?_) (a' := ?_) rfl rfl (by rfl) (fun _ _ _ h => h) ?_ ?_ ?_
    rotate_left 2
    · intro w' hg
      go_simp
      with_reducible rfl
    · simp only [Act.put, List.setIfInBounds_toArray, List.set_cons_zero, List.set_cons_succ, i64_w, i32_w]
      rfl
    refine seq_pure (i := 30) (N := some 59) (v := ?_) (a' := ?_) rfl rfl (by rfl) (fun _ _ _ h => h) ?_ ?_ ?_
    rotate_left 2
    · intro w' hg
      go_simp
      with_reducible rfl
    · simp only [Act.put, List.setIfInBounds_toArray, List.set_cons_zero, List.set_cons_succ, i64_w, i32_w]
      rfl
    refine seq_call (i := 25) (N := some 54) rfl rfl Try.func17 (by kernel_rfl) rfl #[.slice A na ca, .slice B nb cb] (by rfl) rfl ?_ ?_
    · simp only [List.map_toArray, List.map_cons, List.map_nil]
      rfl
    refine (equal_calls ha2 hb0 (by omega)).mono ?_
    rintro e w8 ⟨rfl, hg8⟩
    replace ha2 := ha2.below hg8
    replace hb0 := hb0.below hg8
    replace hy2 := hy2.below hg8
    refine ⟨_, rfl, fun _ => hg8, ?_⟩
    refine seq_norm (a' := ?_) ?_ ?_
    rotate_left
    · show Act.put _ (some 54) _ = _
      simp only [Act.put, List.setIfInBounds_toArray, List.set_cons_zero, List.set_cons_succ, i64_w, i32_w]
      rfl
    refine seq_pure (i := 31) (N := some 60) (v := ?_) (a' := ?_) rfl rfl (by rfl) (fun _ _ _ h => h) ?_ ?_ ?_
    rotate_left 2
    · intro w' hg
      go_simp
      with_reducible rfl
    · simp only [Act.put, List.setIfInBounds_toArray, List.set_cons_zero, List.set_cons_succ, i64_w, i32_w]
      rfl
    refine seq_pure (i := 32) (N := some 61) (v := ?_) (a' := ?_) rfl rfl (by rfl) (fun _ _ _ h => h) ?_ ?_ ?_
    rotate_left 2
    · intro w' hg
      go_simp
      with_reducible rfl
    · simp only [Act.put, List.setIfInBounds_toArray, List.set_cons_zero, List.set_cons_succ, i64_w, i32_w]
      rfl
    refine seq_call (i := 33) (N := some 62) rfl rfl Try.func19 (by kernel_rfl) rfl #[.slice A2 m c2] (by rfl) rfl ?_ ?_
    · simp only [List.map_toArray, List.map_cons, List.map_nil]
      rfl
    refine (zero_calls hy2).mono ?_
    rintro e w' ⟨rfl, rfl⟩
    rw [HEQ.out]
    refine ⟨_, rfl, fun _ => Grow.refl _, ?_⟩
    refine seq_norm (a' := ?_) ?_ ?_
    rotate_left
    · show Act.put _ (some 62) _ = _
      simp only [Act.put, List.setIfInBounds_toArray, List.set_cons_zero, List.set_cons_succ, i64_w, i32_w]
      rfl
    refine seq_pure (i := 34) (N := some 63) (v := ?_) (a' := ?_) rfl rfl (by rfl) (fun _ _ _ h => h) ?_ ?_ ?_
    rotate_left 2
    · intro w' hg
      go_simp
      with_reducible rfl
    · simp only [Act.put, List.setIfInBounds_toArray, List.set_cons_zero, List.set_cons_succ, i64_w, i32_w]
      rfl
    refine seq_pure (i := 35) (N := some 64) (v := ?_) (a' := ?_) rfl rfl (by rfl) (fun _ _ _ h => h) ?_ ?_ ?_
    rotate_left 2
    · intro w' hg
      go_simp
      with_reducible rfl
    · simp only [Act.put, List.setIfInBounds_toArray, List.set_cons_zero, List.set_cons_succ, i64_w, i32_w]
      rfl
    refine seq_pure (i := 36) (N := some 65) (v := ?_) (a' := ?_) rfl rfl (by rfl) (fun _ _ _ h => h) ?_ ?_ ?_
    rotate_left 2
    · intro w' hg
      go_simp
      with_reducible rfl
    · simp only [Act.put, List.setIfInBounds_toArray, List.set_cons_zero, List.set_cons_succ, i64_w, i32_w]
      rfl
    refine seq_pure (i := 37) (N := some 6) (v := ?_) (a' := ?_) rfl rfl (by rfl) (fun _ _ _ h => h) ?_ ?_ ?_
    rotate_left 2
    · intro w' hg
      go_simp
      with_reducible rfl
    · simp only [Act.put, List.setIfInBounds_toArray, List.set_cons_zero, List.set_cons_succ, i64_w, i32_w]
      rfl
    refine seq_done ?_
    go_wp2
    go_ret
    exact ⟨by simp, below_seq (below_seq (below_seq (below_seq (below_seq g2 hg4) hg5) hg6) hg7) hg8⟩
  · have q3 : ((na : Int) == (nb : Int)) = false := by simp; omega
    have hne : (a == b) = false := by
      rw [beq_eq_false_iff_ne]
      rintro rfl
      exact hnab (by rw [← ha.2.1, hb.2.1])
    have HNE := hd hne
    clear hnab hne
    refine up_start [] [(0, true), (3, true), (1, false), (2, false), (4, true), (5, true), (6, true), (9, true), (10, true), (7, false), (8, false), (11, true), (12, true), (13, true), (14, true), (15, true), (17, true), (18, true), (19, true), (16, false), (20, false), (21, true), (22, true), (23, true), (24, true), (26, true), (27, true), (28, true), (29, true), (30, true), (25, false), (31, true), (32, true), (33, false), (34, true), (35, true), (36, true), (37, true)] (by kernel_rfl) rfl (by kernel_rfl) (by kernel_rfl) ?_
    have ha2 := ha.below hb2.drew
    have hb0 := hb.below hb2.drew
    have hy2 := hy.drew
    have g2 := hb2.drew
    generalize w2.drew = w3 at ha2 hb0 hy2 g2 ⊢
    clear hy hb2
    refine seq_pure (i := 0) (N := some 29) (v := ?_) (a' := ?_) rfl rfl (by rfl) (fun _ _ _ h => h) ?_ ?_ ?_
    rotate_left 2
    · intro w' hg
      go_simp
      with_reducible rfl
    · simp only [Act.put, List.setIfInBounds_toArray, List.set_cons_zero, List.set_cons_succ, i64_w, i32_w]
      rfl
    refine seq_pure (i := 3) (N := some 32) (v := ?_) (a' := ?_) rfl rfl (by rfl) (fun _ _ _ h => h) ?_ ?_ ?_
    rotate_left 2
    · intro w' hg
      go_simp
      with_reducible rfl
    · simp only [Act.put, List.setIfInBounds_toArray, List.set_cons_zero, List.set_cons_succ, i64_w, i32_w]
      rfl
    refine seq_call (i := 1) (N := some 30) rfl rfl Try.func12 (by kernel_rfl) rfl #[.int .u64 x, .int .i64 8] (by rfl) rfl ?_ ?_
    · simp only [List.map_toArray, List.map_cons, List.map_nil]
      rfl
    refine (store_calls x 8 _ rfl hx2).mono ?_
    rintro e w4 ⟨v, rfl, ho, hg4⟩
    obtain ⟨A4, c4, rfl, h4⟩ := ho.bytes 8 (storeN_length _ _) (storeN_ok _ _)
    replace ha2 := ha2.below hg4
    replace hb0 := hb0.below hg4
    replace hy2 := hy2.below hg4
    refine ⟨_, rfl, fun _ => hg4, ?_⟩
    clear ho
    refine seq_norm (a' := ?_) ?_ ?_
    rotate_left
    · show Act.put _ (some 30) _ = _
      simp only [Act.put, List.setIfInBounds_toArray, List.set_cons_zero, List.set_cons_succ, i64_w, i32_w]
      rfl
    refine seq_call (i := 2) (N := some 31) rfl rfl Try.func10 (by kernel_rfl) rfl #[.slice A4 8 c4] (by rfl) rfl ?_ ?_
    · simp only [List.map_toArray, List.map_cons, List.map_nil]
      rfl
    refine (load_calls h4).mono ?_
    rintro e w' ⟨rfl, rfl⟩
    rw [back_all hx2]
    refine ⟨_, rfl, fun _ => Grow.refl _, ?_⟩
    refine seq_norm (a' := ?_) ?_ ?_
    rotate_left
    · show Act.put _ (some 31) _ = _
      simp only [Act.put, List.setIfInBounds_toArray, List.set_cons_zero, List.set_cons_succ, i64_w, i32_w]
      rfl
    refine seq_pure (i := 4) (N := some 33) (v := ?_) (a' := ?_) rfl rfl (by rfl) (fun _ _ _ h => h) ?_ ?_ ?_
    rotate_left 2
    · intro w' hg
      go_simp
      with_reducible rfl
    · simp only [Act.put, List.setIfInBounds_toArray, List.set_cons_zero, List.set_cons_succ, i64_w, i32_w]
      rfl
    refine seq_pure (i := 5) (N := some 34) (v := ?_) (a' := ?_) rfl rfl (by rfl) (fun _ _ _ h => h) ?_ ?_ ?_
    rotate_left 2
    · intro w' hg
      go_simp
      with_reducible rfl
    · simp only [Act.put, List.setIfInBounds_toArray, List.set_cons_zero, List.set_cons_succ, i64_w, i32_w]
      rfl
    refine seq_pure (i := 6) (N := some 35) (v := ?_) (a' := ?_) rfl rfl (by rfl) (fun _ _ _ h => h) ?_ ?_ ?_
    rotate_left 2
    · intro w' hg
      go_simp
      with_reducible rfl
    · simp only [Act.put, List.setIfInBounds_toArray, List.set_cons_zero, List.set_cons_succ, i64_w, i32_w]
      rfl
    refine seq_pure (i := 9) (N := some 38) (v := ?_) (a' := ?_) rfl rfl (by rfl) (fun _ _ _ h => h) ?_ ?_ ?_
    rotate_left 2
    · intro w' hg
      go_simp
      with_reducible rfl
    · simp only [Act.put, List.setIfInBounds_toArray, List.set_cons_zero, List.set_cons_succ, i64_w, i32_w]
      rfl
    refine seq_pure (i := 10) (N := some 39) (v := ?_) (a' := ?_) rfl rfl (by rfl) (fun _ _ _ h => h) ?_ ?_ ?_
    rotate_left 2
    · intro w' hg
      go_simp
      with_reducible rfl
    · simp only [Act.put, List.setIfInBounds_toArray, List.set_cons_zero, List.set_cons_succ, i64_w, i32_w]
      rfl
    refine seq_call (i := 7) (N := some 36) rfl rfl Try.func12 (by kernel_rfl) rfl #[.int .u64 x, .int .i64 4] (by rfl) rfl ?_ ?_
    · simp only [List.map_toArray, List.map_cons, List.map_nil]
      rfl
    refine (store_calls x 4 _ rfl hx2).mono ?_
    rintro e w5 ⟨v, rfl, ho, hg5⟩
    obtain ⟨A5, c5, rfl, h5⟩ := ho.bytes 4 (storeN_length _ _) (storeN_ok _ _)
    replace ha2 := ha2.below hg5
    replace hb0 := hb0.below hg5
    replace hy2 := hy2.below hg5
    refine ⟨_, rfl, fun _ => hg5, ?_⟩
    clear ho
    refine seq_norm (a' := ?_) ?_ ?_
    rotate_left
    · show Act.put _ (some 36) _ = _
      simp only [Act.put, List.setIfInBounds_toArray, List.set_cons_zero, List.set_cons_succ, i64_w, i32_w]
      rfl
    refine seq_call (i := 8) (N := some 37) rfl rfl Try.func10 (by kernel_rfl) rfl #[.slice A5 4 c5] (by rfl) rfl ?_ ?_
    · simp only [List.map_toArray, List.map_cons, List.map_nil]
      rfl
    refine (load_calls h5).mono ?_
    rintro e w' ⟨rfl, rfl⟩
    rw [back_half]
    refine ⟨_, rfl, fun _ => Grow.refl _, ?_⟩
    refine seq_norm (a' := ?_) ?_ ?_
    rotate_left
    · show Act.put _ (some 37) _ = _
      simp only [Act.put, List.setIfInBounds_toArray, List.set_cons_zero, List.set_cons_succ, i64_w, i32_w]
      rfl
    refine seq_pure (i := 11) (N := some 40) (v := ?_) (a' := ?_) rfl rfl (by rfl) (fun _ _ _ h => h) ?_ ?_ ?_
    rotate_left 2
    · intro w' hg
      go_simp
      with_reducible rfl
    · simp only [Act.put, List.setIfInBounds_toArray, List.set_cons_zero, List.set_cons_succ, i64_w, i32_w]
      rfl
    refine seq_pure (i := 12) (N := some 41) (v := ?_) (a' := ?_) rfl rfl (by rfl) (fun _ _ _ h => h) ?_ ?_ ?_
    rotate_left 2
    · intro w' hg
      go_simp
      with_reducible rfl
    · simp only [Act.put, List.setIfInBounds_toArray, List.set_cons_zero, List.set_cons_succ, i64_w, i32_w]
      rfl
    refine seq_pure (i := 13) (N := some 42) (v := ?_) (a' := ?_) rfl rfl (by rfl) (fun _ _ _ h => h) ?_ ?_ ?_
    rotate_left 2
    · intro w' hg
      go_simp
      with_reducible rfl
    · simp only [Act.put, List.setIfInBounds_toArray, List.set_cons_zero, List.set_cons_succ, i64_w, i32_w]
      rfl
    refine seq_pure (i := 14) (N := some 43) (v := ?_) (a' := ?_) rfl rfl (by rfl) (fun _ _ _ h => h) ?_ ?_ ?_
    rotate_left 2
    · intro w' hg
      go_simp
      with_reducible rfl
    · simp only [Act.put, List.setIfInBounds_toArray, List.set_cons_zero, List.set_cons_succ, i64_w, i32_w]
      rfl
    refine seq_pure (i := 15) (N := some 44) (v := ?_) (a' := ?_) rfl rfl (by rfl) (fun _ _ _ h => h) ?_ ?_ ?_
    rotate_left 2
    · intro w' hg
      go_simp
      with_reducible rfl
    · simp only [Act.put, List.setIfInBounds_toArray, List.set_cons_zero, List.set_cons_succ, i64_w, i32_w]
      rfl
    refine seq_pure (i := 17) (N := some 46) (v := ?_) (a' := ?_) rfl rfl (by rfl) (fun _ _ _ h => h) ?_ ?_ ?_
    rotate_left 2
    · intro w' hg
      go_simp
      with_reducible rfl
    · simp only [Act.put, List.setIfInBounds_toArray, List.set_cons_zero, List.set_cons_succ, i64_w, i32_w]
      rfl
    refine seq_pure (i := 18) (N := some 47) (v := ?_) (a' := ?_) rfl rfl (by rfl) (fun _ _ _ h => h) ?_ ?_ ?_
    rotate_left 2
    · intro w' hg
      go_simp
      with_reducible rfl
    · simp only [Act.put, List.setIfInBounds_toArray, List.set_cons_zero, List.set_cons_succ, i64_w, i32_w]
      rfl
    refine seq_pure (i := 19) (N := some 48) (v := ?_) (a' := ?_) rfl rfl (by rfl) (fun _ _ _ h => h) ?_ ?_ ?_
    rotate_left 2
    · intro w' hg
      go_simp
      with_reducible rfl
    · simp only [Act.put, List.setIfInBounds_toArray, List.set_cons_zero, List.set_cons_succ, i64_w, i32_w]
      rfl
    refine seq_call (i := 16) (N := some 45) rfl rfl Try.func14 (by kernel_rfl) rfl #[.slice A2 m c2, .slice B nb cb] (by rfl) rfl ?_ ?_
    · simp only [List.map_toArray, List.map_cons, List.map_nil]
      rfl
    refine (xor_calls hy2 hb0 (by omega)).mono ?_
    rintro e w6 ⟨v, rfl, ho, hg6⟩
    rw [xorL_three, HM.out] at ho
    obtain ⟨A6, c6, rfl, h6⟩ := ho.bytes m HTL.out (ha.ok.take m)
    replace ha2 := ha2.below hg6
    replace hb0 := hb0.below hg6
    replace hy2 := hy2.below hg6
    refine ⟨_, rfl, fun _ => hg6, ?_⟩
    clear ho
    refine seq_norm (a' := ?_) ?_ ?_
    rotate_left
    · show Act.put _ (some 45) _ = _
      simp only [Act.put, List.setIfInBounds_toArray, List.set_cons_zero, List.set_cons_succ, i64_w, i32_w]
      rfl
    refine seq_call (i := 20) (N := some 49) rfl rfl Try.func17 (by kernel_rfl) rfl #[.slice A6 m c6, .slice A m ca] (by rfl) rfl ?_ ?_
    · simp only [List.map_toArray, List.map_cons, List.map_nil]
      rfl
    have hat := ha2.take m HMA.out
    refine (equal_calls h6 hat (by omega)).mono ?_
    rintro e w7 ⟨rfl, hg7⟩
    rw [show (a.take m == a.take m) = true from beq_self_eq_true _]
    replace ha2 := ha2.below hg7
    replace hb0 := hb0.below hg7
    replace hy2 := hy2.below hg7
    refine ⟨_, rfl, fun _ => hg7, ?_⟩
    clear hat
    refine seq_norm (a' := ?_) ?_ ?_
    rotate_left
    · show Act.put _ (some 49) _ = _
      simp only [Act.put, List.setIfInBounds_toArray, List.set_cons_zero, List.set_cons_succ, i64_w, i32_w]
      rfl
    refine seq_pure (i := 21) (N := some 50) (v := ?_) (a' := ?_) rfl rfl (by rfl) (fun _ _ _ h => h) ?_ ?_ ?_
    rotate_left 2
    · intro w' hg
      go_simp
      with_reducible rfl
    · simp only [Act.put, List.setIfInBounds_toArray, List.set_cons_zero, List.set_cons_succ, i64_w, i32_w]
      rfl
    refine seq_pure (i := 22) (N := some 51) (v := ?_) (a' := ?_) rfl rfl (by rfl) (fun _ _ _ h => h) ?_ ?_ ?_
    rotate_left 2
    · intro w' hg
      go_simp
      with_reducible rfl
    · simp only [Act.put, List.setIfInBounds_toArray, List.set_cons_zero, List.set_cons_succ, i64_w, i32_w]
      rfl
    refine seq_pure (i := 23) (N := some 52) (v := ?_) (a' := ?_) rfl rfl (by rfl) (fun _ _ _ h => h) ?_ ?_ ?_
    rotate_left 2
    · intro w' hg
      go_simp
      with_reducible rfl
    · simp only [Act.put, List.setIfInBounds_toArray, List.set_cons_zero, List.set_cons_succ, i64_w, i32_w]
      rfl
    refine seq_pure (i := 24) (N := some 53) (v := ?_) (a' := ?_) rfl rfl (by rfl) (fun _ _ _ h => h) ?_ ?_ ?_
    rotate_left 2
    · intro w' hg
      go_simp
      with_reducible rfl
    · simp only [Act.put, List.setIfInBounds_toArray, List.set_cons_zero, List.set_cons_succ, i64_w, i32_w]
      rfl
    refine seq_pure (i := 26) (N := some 55) (v := ?_) (a' := ?_) rfl rfl (by rfl) (fun _ _ _ h => h) ?_ ?_ ?_
    rotate_left 2
    · intro w' hg
      go_simp
      with_reducible rfl
    · simp only [Act.put, List.setIfInBounds_toArray, List.set_cons_zero, List.set_cons_succ, i64_w, i32_w]
      rfl
    refine seq_pure (i := 27) (N := some 56) (v := ?_) (a' := ?_) rfl rfl (by rfl) (fun _ _ _ h => h) ?_ ?_ ?_
    rotate_left 2
    · intro w' hg
      go_simp
      with_reducible rfl
    · simp only [Act.put, List.setIfInBounds_toArray, List.set_cons_zero, List.set_cons_succ, i64_w, i32_w]
      rfl
    refine seq_pure (i := 28) (N := some 57) (v := ?_) (a' := ?_) rfl rfl (by rfl) (fun _ _ _ h => h) ?_ ?_ ?_
    rotate_left 2
    · intro w' hg
      go_simp
      with_reducible rfl
    · simp only [Act.put, List.setIfInBounds_toArray, List.set_cons_zero, List.set_cons_succ, i64_w, i32_w]
      rfl
    refine seq_pure (i := 29) (N := some 58) (v := ?_) (a' := ?_) rfl rfl (by rfl) (fun _ _ _ h => h) ?_ ?_ ?_
    rotate_left 2
    · intro w' hg
      go_simp
      with_reducible rfl
    · simp only [Act.put, List.setIfInBounds_toArray, List.set_cons_zero, List.set_cons_succ, i64_w, i32_w]
      rfl
    refine seq_pure (i := 30) (N := some 59) (v := ?_) (a' := ?_) rfl rfl (by rfl) (fun _ _ _ h => h) ?_ ?_ ?_
    rotate_left 2
    · intro w' hg
      go_simp
      with_reducible rfl
    · simp only [Act.put, List.setIfInBounds_toArray, List.set_cons_zero, List.set_cons_succ, i64_w, i32_w]
      rfl
    refine seq_call (i := 25) (N := some 54) rfl rfl Try.func17 (by kernel_rfl) rfl #[.slice A na ca, .slice B nb cb] (by rfl) rfl ?_ ?_
    · simp only [List.map_toArray, List.map_cons, List.map_nil]
      rfl
    refine (equal_calls ha2 hb0 (by omega)).mono ?_
    rintro e w8 ⟨rfl, hg8⟩
    rw [HNE.out]
    replace ha2 := ha2.below hg8
    replace hb0 := hb0.below hg8
    replace hy2 := hy2.below hg8
    refine ⟨_, rfl, fun _ => hg8, ?_⟩
    refine seq_norm (a' := ?_) ?_ ?_
    rotate_left
    · show Act.put _ (some 54) _ = _
      simp only [Act.put, List.setIfInBounds_toArray, List.set_cons_zero, List.set_cons_succ, i64_w, i32_w]
      rfl
    refine seq_pure (i := 31) (N := some 60) (v := ?_) (a' := ?_) rfl rfl (by rfl) (fun _ _ _ h => h) ?_ ?_ ?_
    rotate_left 2
    · intro w' hg
      go_simp
      with_reducible rfl
    · simp only [Act.put, List.setIfInBounds_toArray, List.set_cons_zero, List.set_cons_succ, i64_w, i32_w]
      rfl
    refine seq_off (i := 32) (N := some 61) (a' := ?_) rfl rfl (by rfl) (fun _ _ _ h => h) ?_ ?_
    rotate_left
    · simp only [Act.put, List.setIfInBounds_toArray, List.set_cons_zero, List.set_cons_succ, i64_w, i32_w]
      rfl
    refine seq_offE (i := 33) (N := some 62) (a' := ?_) rfl rfl (by rfl) ?_ ?_
    rotate_left
    · simp only [Act.put, List.setIfInBounds_toArray, List.set_cons_zero, List.set_cons_succ, i64_w, i32_w]
      rfl
    refine seq_pure (i := 34) (N := some 63) (v := ?_) (a' := ?_) rfl rfl (by rfl) (fun _ _ _ h => h) ?_ ?_ ?_
    rotate_left 2
    · intro w' hg
      go_simp
      with_reducible rfl
    · simp only [Act.put, List.setIfInBounds_toArray, List.set_cons_zero, List.set_cons_succ, i64_w, i32_w]
      rfl
    refine seq_pure (i := 35) (N := some 64) (v := ?_) (a' := ?_) rfl rfl (by rfl) (fun _ _ _ h => h) ?_ ?_ ?_
    rotate_left 2
    · intro w' hg
      go_simp
      with_reducible rfl
    · simp only [Act.put, List.setIfInBounds_toArray, List.set_cons_zero, List.set_cons_succ, i64_w, i32_w]
      rfl
    refine seq_pure (i := 36) (N := some 65) (v := ?_) (a' := ?_) rfl rfl (by rfl) (fun _ _ _ h => h) ?_ ?_ ?_
    rotate_left 2
    · intro w' hg
      go_simp
      with_reducible rfl
    · simp only [Act.put, List.setIfInBounds_toArray, List.set_cons_zero, List.set_cons_succ, i64_w, i32_w]
      rfl
    refine seq_pure (i := 37) (N := some 6) (v := ?_) (a' := ?_) rfl rfl (by rfl) (fun _ _ _ h => h) ?_ ?_ ?_
    rotate_left 2
    · intro w' hg
      go_simp
      with_reducible rfl
    · simp only [Act.put, List.setIfInBounds_toArray, List.set_cons_zero, List.set_cons_succ, i64_w, i32_w]
      rfl
    refine seq_done ?_
    go_wp2
    go_ret
    exact ⟨by simp, below_seq (below_seq (below_seq (below_seq (below_seq g2 hg4) hg5) hg6) hg7) hg8⟩

end Go.Proofs.Ytgmaahpnpjfghaa
