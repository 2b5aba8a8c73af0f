/- The walk through redanlaw08.PolyClamps. -/
import Derived.Test.YtkkhdjdoifnoaaaPolRefC
set_option linter.unusedVariables false
set_option linter.unusedSimpArgs false
namespace Go.Proofs.Ytkkhdjdoifnoaaa
open Go.RowKit Go.Proofs.YtkkhdjdoifnoaaaW.PrintWords Go.Proofs.YtkkhdjdoifnoaaaW.PrintLast Go.Proofs.YtkkhdjdoifnoaaaW.PrintMore

theorem refclamp_any {A : Option Addr} {na ca : Nat} {key : List Nat} {w : World} (hk : Bytes w A na ca key) :
    Calls Try.prog 12 #[.slice A na ca] w fun e w' => ∃ v, e = .returned v ∧ OwnK .u8 5 w.heap.size w' v (clampF key) ∧ Below w.heap.size w w' := by
  by_cases h : na = 32
  · subst h
    rw [clampF, if_pos hk.2.1]
    exact refclamp_calls hk
  · refine (refclamp_none w h).mono ?_
    rintro e w' ⟨rfl, rfl⟩
    rw [clampF, if_neg (by rw [hk.2.1]; exact h)]
    exact ⟨_, rfl, OwnK.nil _ _ _ _, Below.refl _ _⟩
set_option maxHeartbeats 1000000 in
set_option maxRecDepth 100000 in
theorem polyClamps_walk (W : World) {A : Option Addr} {na ca : Nat} {key : List Nat} (hk0 : Bytes W A na ca key) (hfa : na ≤ 140737488351232) :
    Calls Try.prog 4 #[.slice A na ca] W fun e w' => e = .returned (.bool true) ∧ Below W.heap.size W w' := by
  obtain ⟨m, HM⟩ : ∃ m, Aside0 ((clampF key).length = m) := ⟨_, ⟨rfl⟩⟩
  have hm1 : m ≤ 2000 := by
    have := clampF_le key
    have := HM.out
    omega
  have HSO := hd (clampF_ok hk0.ok)
  have HK := hd hk0
  clear hk0
  go_enter Try.func4, Try.ntmps4
  go_wp2_with fail
  refine (awake_calls W).mono ?_
  rintro e w1 ⟨rfl, hb1⟩
  have hk := HK.out.below hb1
  have sb := hk.str (P := Try.prog) Try.underlying22 Try.underlying5 Try.underlying9
  go_wp2_with fail
  refine (clamp_any hk).mono ?_
  rintro e w2 ⟨v, rfl, ho2, hb2⟩
  replace hk := hk.below hb2
  replace hb2 := below_seq hb1 hb2
  have ho2' := ho2.lower hb1.size
  obtain ⟨A2, c2, rfl, h2⟩ := ho2.bytes m HM.out HSO.out
  have HO := hd ho2'
  clear ho2 ho2' hb1 sb
  go_wp2_with fail
  refine up_start [] [(0, true), (1, true), (2, true), (3, false), (4, true), (5, true), (6, true)] (by kernel_rfl) rfl (by kernel_rfl) (by kernel_rfl) ?_
  have hk1 := hk.drew
  have h3 := h2.drew
  have hb3 := hb2.drew
  have HO3 := hd (HO.out.below (below_drew (Below.refl _ _)))
  have q3 := h3.strs (P := Try.prog) Try.underlying22 Try.underlying5 Try.underlying9
  generalize w2.drew = w3 at hk1 hb3 HO3 q3 ⊢
  clear hb2 h2 h3 HO hk
  refine seq_pure (i := 0) (N := some 15) (v := ?_) (a' := ?_) rfl rfl (by rfl) (fun _ _ _ h => h) ?_ ?_ ?_
  rotate_left 2
  · intro w' hg
    go_simp
    with_reducible rfl
  · simp only [Act.put, List.setIfInBounds_toArray, List.set_cons_zero, List.set_cons_succ, i64_w, i32_w]
    rfl
  refine seq_pure (i := 1) (N := some 16) (v := ?_) (a' := ?_) rfl rfl (by rfl) (fun _ _ _ h => h) ?_ ?_ ?_
  rotate_left 2
  · intro w' hg
    go_simp
    with_reducible rfl
  · simp only [Act.put, List.setIfInBounds_toArray, List.set_cons_zero, List.set_cons_succ, i64_w, i32_w]
    rfl
  clear q3
  refine seq_pure (i := 2) (N := some 17) (v := ?_) (a' := ?_) rfl rfl (by rfl) (fun _ _ _ h => h) ?_ ?_ ?_
  rotate_left 2
  · intro w' hg
    go_simp
    with_reducible rfl
  · simp only [Act.put, List.setIfInBounds_toArray, List.set_cons_zero, List.set_cons_succ, i64_w, i32_w]
    rfl
  refine seq_call (i := 3) (N := some 18) rfl rfl Try.func12 (by kernel_rfl) rfl #[.slice A na ca] (by rfl) rfl ?_ ?_
  · simp only [List.map_toArray, List.map_cons, List.map_nil]
    rfl
  refine (refclamp_any hk1).mono ?_
  rintro e w4 ⟨v, rfl, ho4, hb4⟩
  obtain ⟨A4, c4, rfl, h4⟩ := ho4.bytes _ HM.out HSO.out
  have q4 := h4.strs (P := Try.prog) Try.underlying22 Try.underlying5 Try.underlying9
  refine ⟨_, rfl, fun _ => hb4, ?_⟩
  clear ho4 h4
  refine seq_norm (a' := ?_) ?_ ?_
  rotate_left
  · show Act.put _ (some 18) _ = _
    simp only [Act.put, List.setIfInBounds_toArray, List.set_cons_zero, List.set_cons_succ, i64_w, i32_w]
    rfl
  refine seq_pure (i := 4) (N := some 19) (v := ?_) (a' := ?_) rfl rfl (by rfl) (fun _ _ _ h => h) ?_ ?_ ?_
  rotate_left 2
  · intro w' hg
    go_simp
    with_reducible rfl
  · simp only [Act.put, List.setIfInBounds_toArray, List.set_cons_zero, List.set_cons_succ, i64_w, i32_w]
    rfl
  clear q4
  refine seq_pure (i := 5) (N := some 20) (v := ?_) (a' := ?_) rfl rfl (by rfl) (fun _ _ _ h => h) ?_ ?_ ?_
  rotate_left 2
  · intro w' hg
    go_simp
    with_reducible rfl
  · simp only [Act.put, List.setIfInBounds_toArray, List.set_cons_zero, List.set_cons_succ, i64_w, i32_w]
    rfl
  refine seq_pure (i := 6) (N := some 6) (v := ?_) (a' := ?_) rfl rfl (by rfl) (fun _ _ _ h => h) ?_ ?_ ?_
  rotate_left 2
  · intro w' hg
    go_simp
    with_reducible rfl
  · simp only [Act.put, List.setIfInBounds_toArray, List.set_cons_zero, List.set_cons_succ, i64_w, i32_w]
    rfl
  refine seq_done ?_
  go_wp2
  have hm : Mine W w4 A2 m c2 := ⟨_, HM.out, HO3.out.below hb4, HSO.out⟩
  have hb5 := below_seq hb3 hb4
  clear HO3 hb3 hb4 hk1
  go_loopw [7] (fun i wr => ∃ k : Nat, k ≤ m ∧ i = .int .i64 k ∧ Mine W wr A2 m c2 ∧ Below W.heap.size W wr) (fun i _ => m - (intOf i).toNat)
  case atStart => exact ⟨0, Nat.zero_le _, rfl, hm, hb5⟩
  case round =>
    clear hm hb5
    obtain ⟨k2, hk2, rfl, hm2, hb3⟩ := hrel
    by_cases hlt2 : k2 < m
    · obtain ⟨g, y, rfl, hg, hcell, hfr, hy, hput⟩ := hm2.at_ hlt2
      have i0 : (0 : Int) ≤ k2 := by omega
      have i1 : (k2 : Int) < m := by omega
      have hxy : bits .xor .u8 (y : Int) 255 = ((y ^^^ 255 : Nat) : Int) := xor_u8 hy (by decide)
      have HP := hd (hput (y ^^^ 255) (xor_lt hy (by decide)))
      clear hput
      go_wp2
      go_roundw
      case rel => exact ⟨k2 + 1, by omega, by go_num, HP.out, hb3.setCell hg _⟩
      case measure => simp [intOf]; omega
    · have sa := (HK.out.below hb3).str (P := Try.prog) Try.underlying22 Try.underlying5 Try.underlying9
      go_wp2
      go_ret
      exact ⟨by simp, hb3⟩

end Go.Proofs.Ytkkhdjdoifnoaaa
