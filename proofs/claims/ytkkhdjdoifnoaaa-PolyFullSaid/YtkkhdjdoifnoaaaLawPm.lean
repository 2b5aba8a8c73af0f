/- The walk through redanlaw08.PolyMacs. -/
import Derived.Test.YtkkhdjdoifnoaaaRefMac
set_option linter.unusedVariables false
set_option linter.unusedSimpArgs false
namespace Go.Proofs.Ytkkhdjdoifnoaaa
open Go.RowKit Go.Proofs.YtkkhdjdoifnoaaaW.PrintWords Go.Proofs.YtkkhdjdoifnoaaaW.PrintLast Go.Proofs.YtkkhdjdoifnoaaaW.PrintMore

theorem refmac_any {A B : Option Addr} {na ca nb cb : Nat} {key b : List Nat} {w : World} (hk : Bytes w A na ca key) (hb : Bytes w B nb cb b) (hfit : nb ≤ 50000) :
    Calls Try.prog 10 #[.slice A na ca, .slice B nb cb] w fun e w' => ∃ v, e = .returned v ∧ OwnK .u8 5 w.heap.size w' v (macF key b) ∧ Below w.heap.size w w' := by
  by_cases h : na = 32
  · subst h
    rw [macF, if_pos hk.2.1]
    exact refmac_calls hk hb hfit
  · refine (refmac_none w h).mono ?_
    rintro e w' ⟨rfl, rfl⟩
    rw [macF, if_neg (by rw [hk.2.1]; exact h)]
    exact ⟨_, rfl, OwnK.nil _ _ _ _, Below.refl _ _⟩
set_option maxHeartbeats 1000000 in
set_option maxRecDepth 100000 in
theorem polyMacs_walk (W : World) {A : Option Addr} {na ca : Nat} {key : List Nat} (hk0 : Bytes W A na ca key) (hfa : na ≤ 140737488351232) {B : Option Addr} {nb cb : Nat} {b : List Nat} (hn0 : Bytes W B nb cb b) (hfb : nb ≤ 140737488351232) :
    Calls Try.prog 3 #[.slice A na ca, .slice B nb cb] W fun e w' => e = .returned (.bool true) ∧ Below W.heap.size W w' := by
  have HK := hd hk0
  have HN := hd hn0
  clear hk0 hn0 hfa hfb
  by_cases hbig : 2000 < nb
  · have q1 : decide ((2000 : Int) < (nb : Int)) = true := by simp; omega
    go_enter Try.func3, Try.ntmps3
    go_wp2_with (go_at_call 8; refine (awake_calls W).mono ?_; rintro e w1 ⟨rfl, hb1⟩)
    go_ret
    exact ⟨rfl, hb1⟩
  · have q1 : decide ((2000 : Int) < (nb : Int)) = false := by simp; omega
    obtain ⟨m, HM⟩ : ∃ m, Aside0 ((macF key b).length = m) := ⟨_, ⟨rfl⟩⟩
    go_enter Try.func3, Try.ntmps3
    go_wp2_with (go_at_call 8; refine (awake_calls W).mono ?_; rintro e w1 ⟨rfl, hb⟩)
    have hk := HK.out.below hb
    have hn := HN.out.below hb
    refine up_start [] [(0, true), (1, true), (4, true), (5, true), (2, false), (3, true), (6, false), (7, true), (8, true), (9, true)] (by kernel_rfl) rfl (by kernel_rfl) (by kernel_rfl) ?_
    replace hk := hk.drew
    replace hn := hn.drew
    replace hb := hb.drew
    generalize w1.drew = w5 at hk hn hb ⊢
    refine seq_pure (i := 0) (N := some 12) (v := ?_) (a' := ?_) rfl rfl (by rfl) (fun _ _ _ h => h) ?_ ?_ ?_
    rotate_left 2
    · intro w' hg
      go_simp
      with_reducible rfl
    · simp only [Act.put, List.setIfInBounds_toArray, List.set_cons_zero, List.set_cons_succ, i64_w, i32_w]
      rfl
    refine seq_pure (i := 1) (N := some 13) (v := ?_) (a' := ?_) rfl rfl (by rfl) (fun _ _ _ h => h) ?_ ?_ ?_
    rotate_left 2
    · intro w' hg
      go_simp
      with_reducible rfl
    · simp only [Act.put, List.setIfInBounds_toArray, List.set_cons_zero, List.set_cons_succ, i64_w, i32_w]
      rfl
    refine seq_pure (i := 4) (N := some 16) (v := ?_) (a' := ?_) rfl rfl (by rfl) (fun _ _ _ h => h) ?_ ?_ ?_
    rotate_left 2
    · intro w' hg
      go_simp
      with_reducible rfl
    · simp only [Act.put, List.setIfInBounds_toArray, List.set_cons_zero, List.set_cons_succ, i64_w, i32_w]
      rfl
    refine seq_pure (i := 5) (N := some 17) (v := ?_) (a' := ?_) rfl rfl (by rfl) (fun _ _ _ h => h) ?_ ?_ ?_
    rotate_left 2
    · intro w' hg
      go_simp
      with_reducible rfl
    · simp only [Act.put, List.setIfInBounds_toArray, List.set_cons_zero, List.set_cons_succ, i64_w, i32_w]
      rfl
    refine seq_call (i := 2) (N := some 14) rfl rfl Try.func9 (by kernel_rfl) rfl #[.slice A na ca, .slice B nb cb] (by rfl) rfl ?_ ?_
    · simp only [List.map_toArray, List.map_cons, List.map_nil]
      rfl
    refine (mac_any hk hn (by omega)).mono ?_
    rintro e w6 ⟨v, rfl, ho, hb6⟩
    obtain ⟨A3, c3, rfl, h3⟩ := ho.bytes _ HM.out (macF_ok _ _)
    have q3 := h3.strs (P := Try.prog) Try.underlying22 Try.underlying5 Try.underlying9
    replace hk := hk.below hb6
    replace hn := hn.below hb6
    replace hb := below_seq hb hb6
    refine ⟨_, rfl, fun _ => hb6, ?_⟩
    clear ho
    refine seq_norm (a' := ?_) ?_ ?_
    rotate_left
    · show Act.put _ (some 14) _ = _
      simp only [Act.put, List.setIfInBounds_toArray, List.set_cons_zero, List.set_cons_succ, i64_w, i32_w]
      rfl
    refine seq_pure (i := 3) (N := some 15) (v := ?_) (a' := ?_) rfl rfl (by rfl) (fun _ _ _ h => h) ?_ ?_ ?_
    rotate_left 2
    · intro w' hg
      go_simp
      with_reducible rfl
    · simp only [Act.put, List.setIfInBounds_toArray, List.set_cons_zero, List.set_cons_succ, i64_w, i32_w]
      rfl
    clear q3
    refine seq_call (i := 6) (N := some 18) rfl rfl Try.func10 (by kernel_rfl) rfl #[.slice A na ca, .slice B nb cb] (by rfl) rfl ?_ ?_
    · simp only [List.map_toArray, List.map_cons, List.map_nil]
      rfl
    refine (refmac_any hk hn (by omega)).mono ?_
    rintro e w7 ⟨v, rfl, ho, hb7⟩
    obtain ⟨A4, c4, rfl, h4⟩ := ho.bytes _ HM.out (macF_ok _ _)
    have q4 := h4.strs (P := Try.prog) Try.underlying22 Try.underlying5 Try.underlying9
    replace hb := below_seq hb hb7
    refine ⟨_, rfl, fun _ => hb7, ?_⟩
    clear ho
    refine seq_norm (a' := ?_) ?_ ?_
    rotate_left
    · show Act.put _ (some 18) _ = _
      simp only [Act.put, List.setIfInBounds_toArray, List.set_cons_zero, List.set_cons_succ, i64_w, i32_w]
      rfl
    refine seq_pure (i := 7) (N := some 19) (v := ?_) (a' := ?_) rfl rfl (by rfl) (fun _ _ _ h => h) ?_ ?_ ?_
    rotate_left 2
    · intro w' hg
      go_simp
      with_reducible rfl
    · simp only [Act.put, List.setIfInBounds_toArray, List.set_cons_zero, List.set_cons_succ, i64_w, i32_w]
      rfl
    clear q4
    refine seq_pure (i := 8) (N := some 20) (v := ?_) (a' := ?_) rfl rfl (by rfl) (fun _ _ _ h => h) ?_ ?_ ?_
    rotate_left 2
    · intro w' hg
      go_simp
      with_reducible rfl
    · simp only [Act.put, List.setIfInBounds_toArray, List.set_cons_zero, List.set_cons_succ, i64_w, i32_w]
      rfl
    refine seq_pure (i := 9) (N := some 4) (v := ?_) (a' := ?_) rfl rfl (by rfl) (fun _ _ _ h => h) ?_ ?_ ?_
    rotate_left 2
    · intro w' hg
      go_simp
      with_reducible rfl
    · simp only [Act.put, List.setIfInBounds_toArray, List.set_cons_zero, List.set_cons_succ, i64_w, i32_w]
      rfl
    refine seq_done ?_
    go_wp2
    go_ret
    exact ⟨by simp, hb⟩

end Go.Proofs.Ytkkhdjdoifnoaaa
