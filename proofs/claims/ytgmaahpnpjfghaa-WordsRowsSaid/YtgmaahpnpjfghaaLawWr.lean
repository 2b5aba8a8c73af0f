/- WordsRows: the walk. -/
import Derived.Test.YtgmaahpnpjfghaaAwake01
import Derived.Test.YtgmaahpnpjfghaaUp
set_option linter.unusedVariables false
set_option linter.unusedSimpArgs false
namespace Go.Proofs.Ytgmaahpnpjfghaa
open Go.RowKit Go.Proofs.YtgmaahpnpjfghaaW.PrintWords Go.Proofs.YtgmaahpnpjfghaaW.PrintLast Go.Proofs.YtgmaahpnpjfghaaW.PrintMore

set_option maxHeartbeats 2000000 in
set_option maxRecDepth 100000 in
theorem wordsRows_big (W : World) {A B : Option Addr} {na nb ca cb : Nat} (h : 2000 < na ∨ 2000 < nb) :
    Calls Try.prog 4 #[.slice A na ca, .slice B nb cb] W fun e w' => e = .returned (.bool true) ∧ Below W.heap.size W w' := by
  by_cases h1 : 2000 < na
  · have q1 : decide ((2000 : Int) < (na : Int)) = true := by simp; omega
    clear h
    go_enter Try.func4, Try.ntmps4
    go_wp2_with (go_at_call 9; refine (awake_calls W).mono ?_; rintro e w1 ⟨rfl, hb1⟩)
    go_ret
    exact ⟨rfl, hb1⟩
  · have q1 : decide ((2000 : Int) < (na : Int)) = false := by simp; omega
    have q2 : decide ((2000 : Int) < (nb : Int)) = true := by simp; omega
    clear h
    go_enter Try.func4, Try.ntmps4
    go_wp2_with (go_at_call 9; refine (awake_calls W).mono ?_; rintro e w1 ⟨rfl, hb1⟩)
    go_ret
    exact ⟨rfl, hb1⟩

theorem strOf_append (l m : List Nat) : strOf (l ++ m) = strOf l ++ strOf m := by
  apply ByteArray.ext
  simp [strOf]
theorem strOf_size (l : List Nat) : (strOf l).size = l.length := by simp [strOf, ByteArray.size]

set_option maxHeartbeats 4000000 in
set_option maxRecDepth 100000 in
theorem wordsRows_walk (W : World) {A : Option Addr} {na ca : Nat} {a : List Nat} (ha : Bytes W A na ca a) (hfa : na ≤ 140737488351232) {B : Option Addr} {nb cb : Nat} {b : List Nat} (hb : Bytes W B nb cb b) (hfb : nb ≤ 140737488351232) :
    Calls Try.prog 4 #[.slice A na ca, .slice B nb cb] W fun e w' => e = .returned (.bool true) ∧ Below W.heap.size W w' := by
  by_cases h1 : 2000 < na
  · exact wordsRows_big W (Or.inl h1)
  by_cases h2 : 2000 < nb
  · exact wordsRows_big W (Or.inr h2)
  have q1 : decide ((2000 : Int) < (na : Int)) = false := by simp; omega
  have q2 : decide ((2000 : Int) < (nb : Int)) = false := by simp; omega
  have e1 := str_eq ha.ok hb.ok
  go_enter Try.func4, Try.ntmps4
  go_wp2_with fail
  refine (awake_calls W).mono ?_
  rintro e w1 ⟨rfl, hb1⟩
  have sa := (ha.below hb1).str (P := Try.prog) Try.underlying22 Try.underlying5 Try.underlying9
  have sb := (hb.below hb1).str (P := Try.prog) Try.underlying22 Try.underlying5 Try.underlying9
  go_wp2_with fail
  refine (xor_calls (ha.below hb1) (hb.below hb1) (by omega)).mono ?_
  rintro e w2 ⟨v2, rfl, ho2, hw2⟩
  obtain ⟨A2, c2, rfl, hx⟩ := ho2.bytes _ rfl (xorL_ok ha.ok hb.ok)
  have hb2 := below_seq hb1 hw2
  have hmx : Mine W w2 A2 (xorL a b).length c2 := MineB.of (ho2.lower hb1.size) (xorL_ok ha.ok hb.ok)
  have hlt2 : ∀ g, A2 = some ⟨g, 0, none⟩ → g < w2.heap.size := fun g hg => (ho2.lt g (by rw [hg]; rfl)).2
  have HLT := hd hlt2
  clear sa sb hw2 ho2 hlt2
  go_wp2_with fail
  have hr2 := Rows2.new (t := 22) (g := w2.heap.size) (vs := [.slice A na ca, .slice B nb cb]) (L := [a, b]) ⟨⟨_, _, _, rfl, ha.below hb2⟩, ⟨_, _, _, rfl, hb.below hb2⟩, trivial⟩ rfl rfl (by simp)
  refine (join_calls hr2 rfl (by simp) (by simp; rw [ha.2.1, hb.2.1]; omega)).mono ?_
  rintro e w3 ⟨v3, rfl, ho3, hw3⟩
  have hfl : [a, b].flatten = a ++ b := by simp
  rw [hfl] at ho3
  obtain ⟨y, HY⟩ : ∃ y, Aside0 (a ++ b = y) := ⟨_, ⟨rfl⟩⟩
  have hyok : BytesOK y := by rw [← HY.out]; exact ha.ok.append hb.ok
  have e2 := str_lit (l := y) (m := (strOf a ++ strOf b).toList) (by rw [← strOf_append, HY.out, strOf_toList])
  have hsz : ¬ 9223372036854775807 < (strOf a).size + (strOf b).size := by rw [strOf_size, strOf_size, ha.2.1, hb.2.1]; omega
  rw [HY.out] at ho3
  obtain ⟨A3, c3, rfl, hy⟩ := ho3.bytes _ rfl hyok
  have hg23 := below_seq (below_alloc (Below.refl _ _) _) hw3
  have hb4 := below_seq hb2 hg23
  have hmy : MineB w2.heap.size w3 A3 y.length c3 := MineB.of (ho3.lower (by simp)) hyok
  replace hmx := hmx.below hg23
  replace hx := hx.below hg23
  obtain ⟨base2, HB2⟩ : ∃ b2, Aside0 (w2.heap.size = b2) := ⟨_, ⟨rfl⟩⟩
  rw [HB2.out] at hmy
  have HBW := hd (show W.heap.size ≤ base2 by rw [← HB2.out]; exact hb2.size)
  clear hr2 hfl ho3 hg23 hw3 hb1 hb2
  go_wp2_with fail
  refine up_start [] [(0, true), (1, true), (2, true), (3, true), (4, false), (5, true), (6, true), (7, true), (8, true), (9, true), (10, true), (11, true), (12, true), (13, true), (14, true), (15, true), (16, true), (17, true), (19, true), (20, true), (21, true), (18, false), (22, true), (23, true), (24, true)] (by kernel_rfl) rfl (by kernel_rfl) (by kernel_rfl) ?_
  have ha2 := ha.below hb4.drew
  have hb2 := hb.below hb4.drew
  have hx2 := hx.drew
  have hy2 := hy.drew
  have g2 := hb4.drew
  have hm := hmx.drew
  have hm2 := hmy.drew
  generalize w3.drew = w5 at ha2 hb2 hx2 hy2 g2 hm hm2 ⊢
  clear hx hy hb4 hmx hmy
  have qx := hx2.strs (P := Try.prog) Try.underlying22 Try.underlying5 Try.underlying9
  have qy := hy2.strs (P := Try.prog) Try.underlying22 Try.underlying5 Try.underlying9
  refine seq_pure (i := 0) (N := some 35) (v := ?_) (a' := ?_) rfl rfl (by rfl) (fun _ _ _ h => h) ?_ ?_ ?_
  rotate_left 2
  · intro w' hg
    go_simp
    with_reducible rfl
  · simp only [Act.put, List.setIfInBounds_toArray, List.set_cons_zero, List.set_cons_succ, i64_w, i32_w]
    rfl
  refine seq_pure (i := 1) (N := some 36) (v := ?_) (a' := ?_) rfl rfl (by rfl) (fun _ _ _ h => h) ?_ ?_ ?_
  rotate_left 2
  · intro w' hg
    go_simp
    with_reducible rfl
  · simp only [Act.put, List.setIfInBounds_toArray, List.set_cons_zero, List.set_cons_succ, i64_w, i32_w]
    rfl
  clear qx
  refine seq_pure (i := 2) (N := some 37) (v := ?_) (a' := ?_) rfl rfl (by rfl) (fun _ _ _ h => h) ?_ ?_ ?_
  rotate_left 2
  · intro w' hg
    go_simp
    with_reducible rfl
  · simp only [Act.put, List.setIfInBounds_toArray, List.set_cons_zero, List.set_cons_succ, i64_w, i32_w]
    rfl
  refine seq_pure (i := 3) (N := some 38) (v := ?_) (a' := ?_) rfl rfl (by rfl) (fun _ _ _ h => h) ?_ ?_ ?_
  rotate_left 2
  · intro w' hg
    go_simp
    with_reducible rfl
  · simp only [Act.put, List.setIfInBounds_toArray, List.set_cons_zero, List.set_cons_succ, i64_w, i32_w]
    rfl
  refine seq_call (i := 4) (N := some 39) rfl rfl Try.func16 (by kernel_rfl) rfl #[.slice A na ca, .slice B nb cb] (by rfl) rfl ?_ ?_
  · simp only [List.map_toArray, List.map_cons, List.map_nil]
    rfl
  refine (refXor_calls ha2 hb2 (by omega)).mono ?_
  rintro e w6 ⟨v, rfl, ho, hg6⟩
  obtain ⟨A6, c6, rfl, h6⟩ := ho.bytes _ rfl (xorL_ok ha.ok hb.ok)
  have q6 := h6.strs (P := Try.prog) Try.underlying22 Try.underlying5 Try.underlying9
  replace ha2 := ha2.below hg6
  replace hb2 := hb2.below hg6
  replace hm := hm.below hg6
  replace hm2 := hm2.below hg6
  replace hy2 := hy2.below hg6
  replace qy := hy2.strs (P := Try.prog) Try.underlying22 Try.underlying5 Try.underlying9
  refine ⟨_, rfl, fun _ => hg6, ?_⟩
  clear ho
  refine seq_norm (a' := ?_) ?_ ?_
  rotate_left
  · show Act.put _ (some 39) _ = _
    simp only [Act.put, List.setIfInBounds_toArray, List.set_cons_zero, List.set_cons_succ, i64_w, i32_w]
    rfl
  refine seq_pure (i := 5) (N := some 40) (v := ?_) (a' := ?_) rfl rfl (by rfl) (fun _ _ _ h => h) ?_ ?_ ?_
  rotate_left 2
  · intro w' hg
    go_simp
    with_reducible rfl
  · simp only [Act.put, List.setIfInBounds_toArray, List.set_cons_zero, List.set_cons_succ, i64_w, i32_w]
    rfl
  clear q6
  refine seq_pure (i := 6) (N := some 41) (v := ?_) (a' := ?_) rfl rfl (by rfl) (fun _ _ _ h => h) ?_ ?_ ?_
  rotate_left 2
  · intro w' hg
    go_simp
    with_reducible rfl
  · simp only [Act.put, List.setIfInBounds_toArray, List.set_cons_zero, List.set_cons_succ, i64_w, i32_w]
    rfl
  refine seq_pure (i := 7) (N := some 42) (v := ?_) (a' := ?_) rfl rfl (by rfl) (fun _ _ _ h => h) ?_ ?_ ?_
  rotate_left 2
  · intro w' hg
    go_simp
    with_reducible rfl
  · simp only [Act.put, List.setIfInBounds_toArray, List.set_cons_zero, List.set_cons_succ, i64_w, i32_w]
    rfl
  refine seq_pure (i := 8) (N := some 43) (v := ?_) (a' := ?_) rfl rfl (by rfl) (fun _ _ _ h => h) ?_ ?_ ?_
  rotate_left 2
  · intro w' hg
    go_simp
    with_reducible rfl
  · simp only [Act.put, List.setIfInBounds_toArray, List.set_cons_zero, List.set_cons_succ, i64_w, i32_w]
    rfl
  refine seq_pure (i := 9) (N := some 44) (v := ?_) (a' := ?_) rfl rfl (by rfl) (fun _ _ _ h => h) ?_ ?_ ?_
  rotate_left 2
  · intro w' hg
    go_simp
    with_reducible rfl
  · simp only [Act.put, List.setIfInBounds_toArray, List.set_cons_zero, List.set_cons_succ, i64_w, i32_w]
    rfl
  clear qy
  refine seq_pure (i := 10) (N := some 45) (v := ?_) (a' := ?_) rfl rfl (by rfl) (fun _ _ _ h => h) ?_ ?_ ?_
  rotate_left 2
  · intro w' hg
    go_simp
    with_reducible rfl
  · simp only [Act.put, List.setIfInBounds_toArray, List.set_cons_zero, List.set_cons_succ, i64_w, i32_w]
    rfl
  refine seq_pure (i := 11) (N := some 46) (v := ?_) (a' := ?_) rfl rfl (by rfl) (fun _ _ _ h => h) ?_ ?_ ?_
  rotate_left 2
  · intro w' hg
    go_simp
    with_reducible rfl
  · simp only [Act.put, List.setIfInBounds_toArray, List.set_cons_zero, List.set_cons_succ, i64_w, i32_w]
    rfl
  refine seq_pure (i := 12) (N := some 47) (v := ?_) (a' := ?_) rfl rfl (by rfl) (fun _ _ _ h => h) ?_ ?_ ?_
  rotate_left 2
  · intro w' hg
    go_simp
    with_reducible rfl
  · simp only [Act.put, List.setIfInBounds_toArray, List.set_cons_zero, List.set_cons_succ, i64_w, i32_w]
    rfl
  refine seq_pure (i := 13) (N := some 48) (v := ?_) (a' := ?_) rfl rfl (by rfl) (fun _ _ _ h => h) ?_ ?_ ?_
  rotate_left 2
  · intro w' hg
    go_simp
    with_reducible rfl
  · simp only [Act.put, List.setIfInBounds_toArray, List.set_cons_zero, List.set_cons_succ, i64_w, i32_w]
    rfl
  refine seq_pure (i := 14) (N := some 49) (v := ?_) (a' := ?_) rfl rfl (by rfl) (fun _ _ _ h => h) ?_ ?_ ?_
  rotate_left 2
  · intro w' hg
    go_simp
    with_reducible rfl
  · simp only [Act.put, List.setIfInBounds_toArray, List.set_cons_zero, List.set_cons_succ, i64_w, i32_w]
    rfl
  refine seq_pure (i := 15) (N := some 50) (v := ?_) (a' := ?_) rfl rfl (by rfl) (fun _ _ _ h => h) ?_ ?_ ?_
  rotate_left 2
  · intro w' hg
    go_simp
    with_reducible rfl
  · simp only [Act.put, List.setIfInBounds_toArray, List.set_cons_zero, List.set_cons_succ, i64_w, i32_w]
    rfl
  refine seq_pure (i := 16) (N := some 51) (v := ?_) (a' := ?_) rfl rfl (by rfl) (fun _ _ _ h => h) ?_ ?_ ?_
  rotate_left 2
  · intro w' hg
    go_simp
    with_reducible rfl
  · simp only [Act.put, List.setIfInBounds_toArray, List.set_cons_zero, List.set_cons_succ, i64_w, i32_w]
    rfl
  refine seq_pure (i := 17) (N := some 52) (v := ?_) (a' := ?_) rfl rfl (by rfl) (fun _ _ _ h => h) ?_ ?_ ?_
  rotate_left 2
  · intro w' hg
    go_simp
    with_reducible rfl
  · simp only [Act.put, List.setIfInBounds_toArray, List.set_cons_zero, List.set_cons_succ, i64_w, i32_w]
    rfl
  refine seq_pure (i := 19) (N := some 54) (v := ?_) (a' := ?_) rfl rfl (by rfl) (fun _ _ _ h => h) ?_ ?_ ?_
  rotate_left 2
  · intro w' hg
    go_simp
    with_reducible rfl
  · simp only [Act.put, List.setIfInBounds_toArray, List.set_cons_zero, List.set_cons_succ, i64_w, i32_w]
    rfl
  refine seq_pure (i := 20) (N := some 55) (v := ?_) (a' := ?_) rfl rfl (by rfl) (fun _ _ _ h => h) ?_ ?_ ?_
  rotate_left 2
  · intro w' hg
    go_simp
    with_reducible rfl
  · simp only [Act.put, List.setIfInBounds_toArray, List.set_cons_zero, List.set_cons_succ, i64_w, i32_w]
    rfl
  refine seq_pure (i := 21) (N := some 56) (v := ?_) (a' := ?_) rfl rfl (by rfl) (fun _ _ _ h => h) ?_ ?_ ?_
  rotate_left 2
  · intro w' hg
    go_simp
    with_reducible rfl
  · simp only [Act.put, List.setIfInBounds_toArray, List.set_cons_zero, List.set_cons_succ, i64_w, i32_w]
    rfl
  refine seq_call (i := 18) (N := some 53) rfl rfl Try.func17 (by kernel_rfl) rfl #[.slice A na ca, .slice B nb cb] (by rfl) rfl ?_ ?_
  · simp only [List.map_toArray, List.map_cons, List.map_nil]
    rfl
  refine (equal_calls ha2 hb2 (by omega)).mono ?_
  rintro e w7 ⟨rfl, hg7⟩
  replace hm := hm.below hg7
  replace hm2 := hm2.below hg7
  refine ⟨_, rfl, fun _ => hg7, ?_⟩
  refine seq_norm (a' := ?_) ?_ ?_
  rotate_left
  · show Act.put _ (some 53) _ = _
    simp only [Act.put, List.setIfInBounds_toArray, List.set_cons_zero, List.set_cons_succ, i64_w, i32_w]
    rfl
  refine seq_pure (i := 22) (N := some 57) (v := ?_) (a' := ?_) rfl rfl (by rfl) (fun _ _ _ h => h) ?_ ?_ ?_
  rotate_left 2
  · intro w' hg
    go_simp
    with_reducible rfl
  · simp only [Act.put, List.setIfInBounds_toArray, List.set_cons_zero, List.set_cons_succ, i64_w, i32_w]
    rfl
  refine seq_pure (i := 23) (N := some 58) (v := ?_) (a' := ?_) rfl rfl (by rfl) (fun _ _ _ h => h) ?_ ?_ ?_
  rotate_left 2
  · intro w' hg
    go_simp
    with_reducible rfl
  · simp only [Act.put, List.setIfInBounds_toArray, List.set_cons_zero, List.set_cons_succ, i64_w, i32_w]
    rfl
  refine seq_pure (i := 24) (N := some 10) (v := ?_) (a' := ?_) rfl rfl (by rfl) (fun _ _ _ h => h) ?_ ?_ ?_
  rotate_left 2
  · intro w' hg
    go_simp
    with_reducible rfl
  · simp only [Act.put, List.setIfInBounds_toArray, List.set_cons_zero, List.set_cons_succ, i64_w, i32_w]
    rfl
  refine seq_done ?_
  go_wp2
  have hb7 := below_seq (below_seq g2 hg6) hg7
  have hn2 : (xorL a b).length ≤ 2000 := by rw [xorL_length, ha.2.1]; omega
  have hn3 : y.length ≤ 4000 := by rw [← HY.out, List.length_append, ha.2.1, hb.2.1]; omega
  have hlt : ∀ g, A2 = some ⟨g, 0, none⟩ → g < base2 := by rw [← HB2.out]; exact HLT.out
  have HLT2 := hd hlt
  generalize (xorL a b).length = n2 at hm hn2 ⊢
  generalize y.length = n3 at hm2 hn3 ⊢
  clear g2 hg6 hg7 hlt HLT e2 hsz
  go_loopw [11] (fun i wr => ∃ k : Nat, k ≤ n2 ∧ i = .int .i64 k ∧ Mine W wr A2 n2 c2 ∧ MineB base2 wr A3 n3 c3 ∧ Below W.heap.size W wr) (fun i _ => n2 - (intOf i).toNat)
  case atStart => exact ⟨0, Nat.zero_le _, rfl, hm, hm2, hb7⟩
  case round =>
    obtain ⟨k, hk, rfl, hmx, hmy, hb8⟩ := hrel
    by_cases hlt2 : k < n2
    · obtain ⟨g, z, hA, hg, hcell, hfr, hz, hput⟩ := hmx.at_ hlt2
      have hfar := hd (fun u => hmy.far (p := ⟨g, k, none⟩) (HLT2.out g hA) u)
      subst hA
      have i0 : (0 : Int) ≤ k := by omega
      have i1 : (k : Int) < n2 := by omega
      have hxy : bits .xor .u8 (z : Int) 255 = ((z ^^^ 255 : Nat) : Int) := xor_u8 hz (by decide)
      have HP := hd (hput (z ^^^ 255) (xor_lt hz (by decide)))
      clear hput
      go_wp2
      go_roundw
      case rel => exact ⟨k + 1, by omega, by go_num, HP.out, hfar.out _, hb8.setCell hg _⟩
      case measure => simp [intOf]; omega
    · go_wp2
      obtain ⟨w8, rfl⟩ : ∃ w8 : World, w8 = wr := ⟨_, rfl⟩
      clear hmx
      go_loopw [12] (fun i wr => ∃ k : Nat, k ≤ n3 ∧ i = .int .i64 k ∧ MineB base2 wr A3 n3 c3 ∧ Below W.heap.size W wr) (fun i _ => n3 - (intOf i).toNat)
      case atStart => exact ⟨0, Nat.zero_le _, rfl, hmy, hb8⟩
      case round =>
        obtain ⟨k2, hk2, rfl, hmz, hb9⟩ := hrel
        by_cases hlt3 : k2 < n3
        · obtain ⟨g, z, rfl, hg, hcell, hfr, hz, hput⟩ := hmz.at_ hlt3
          have hgW := hd (Nat.le_trans HBW.out hg)
          have i0 : (0 : Int) ≤ k2 := by omega
          have i1 : (k2 : Int) < n3 := by omega
          have hxy : bits .xor .u8 (z : Int) 255 = ((z ^^^ 255 : Nat) : Int) := xor_u8 hz (by decide)
          have HP := hd (hput (z ^^^ 255) (xor_lt hz (by decide)))
          clear hput
          go_wp2
          go_roundw
          case rel => exact ⟨k2 + 1, by omega, by go_num, HP.out, hb9.setCell hgW.out _⟩
          case measure => simp [intOf]; omega
        · have sa := (ha.below hb9).str (P := Try.prog) Try.underlying22 Try.underlying5 Try.underlying9
          have sb := (hb.below hb9).str (P := Try.prog) Try.underlying22 Try.underlying5 Try.underlying9
          go_wp2
          go_ret
          exact ⟨by simp, hb9⟩

end Go.Proofs.Ytgmaahpnpjfghaa
