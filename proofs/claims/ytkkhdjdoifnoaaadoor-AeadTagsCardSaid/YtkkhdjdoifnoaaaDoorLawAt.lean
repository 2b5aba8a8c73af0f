/- The walk through redanlaw09.AeadTags. -/
import Derived.Test.YtkkhdjdoifnoaaaDoorAeadAwake
import Derived.Test.YtkkhdjdoifnoaaaDoorRefAeadO
set_option linter.unusedVariables false
set_option linter.unusedSimpArgs false
namespace Go.Proofs.YtkkhdjdoifnoaaaDoor
open Go.RowKit Go.Proofs.YtkkhdjdoifnoaaaDoorW.PrintWords Go.Proofs.YtkkhdjdoifnoaaaDoorW.PrintLast Go.Proofs.YtkkhdjdoifnoaaaDoorW.PrintMore
set_option maxHeartbeats 2000000 in
set_option maxRecDepth 100000 in
theorem aeadTags_walk (W : World) (hpl : PlacesAt W) {A : Option Addr} {na ca : Nat} {key : List Nat} (hk0 : Bytes W A na ca key) (hfa : na ≤ 140737488351232) {B : Option Addr} {nb cb : Nat} {nonce : List Nat} (hn0 : Bytes W B nb cb nonce) (hfb : nb ≤ 140737488351232) {C : Option Addr} {nc cc : Nat} {ad : List Nat} (ha0 : Bytes W C nc cc ad) (hfc : nc ≤ 140737488351232) {D : Option Addr} {nd cd : Nat} {text : List Nat} (ht0 : Bytes W D nd cd text) (hfd : nd ≤ 140737488351232) :
    Calls Tryd.prog 6 #[.slice A na ca, .slice B nb cb, .slice C nc cc, .slice D nd cd] W fun e w' => e = .returned (.bool true) ∧ Below W.heap.size W w' := by
  have HK := hd hk0
  have HN := hd hn0
  have HA := hd ha0
  have HT := hd ht0
  clear hk0 hn0 ha0 ht0 hfa hfb hfc hfd
  by_cases hbig : 1000 < nc
  · have q1 : decide ((1000 : Int) < (nc : Int)) = true := by simp; omega
    go_enter Tryd.func6, Tryd.ntmps6
    go_wp2_with (go_at_call 8; refine (awake_calls hpl).mono ?_; rintro e w1 ⟨rfl, hb1⟩)
    go_ret
    exact ⟨rfl, hb1⟩
  have q1 : decide ((1000 : Int) < (nc : Int)) = false := by simp; omega
  by_cases hbig2 : 1000 < nd
  · have q2 : decide ((1000 : Int) < (nd : Int)) = true := by simp; omega
    go_enter Tryd.func6, Tryd.ntmps6
    go_wp2_with (go_at_call 8; refine (awake_calls hpl).mono ?_; rintro e w1 ⟨rfl, hb1⟩)
    go_ret
    exact ⟨rfl, hb1⟩
  have q2 : decide ((1000 : Int) < (nd : Int)) = false := by simp; omega
  by_cases h1 : na = 32
  · have q3 : ((na : Int) != 32) = false := by simp; omega
    by_cases h2 : nb = 12
    · subst h1
      subst h2
      go_enter Tryd.func6, Tryd.ntmps6
      go_wp2_with fail
      refine (awake_calls hpl).mono ?_
      rintro e w1 ⟨rfl, hb⟩
      have hk := HK.out.below hb
      have hn := HN.out.below hb
      have ha := HA.out.below hb
      have ht := HT.out.below hb
      have hp := hpl.below hb
      go_wp2_with fail
      refine (tag_calls hk hn ha ht hp (by omega) (by omega)).mono ?_
      rintro e w2 ⟨v2, rfl, ho2, hb2⟩
      obtain ⟨A2, c2, rfl, h1⟩ := ho2.bytes 16 (tagN_length _ _ _ _) (tagN_ok _ _ _ _)
      replace hk := hk.below hb2
      replace hn := hn.below hb2
      replace ha := ha.below hb2
      replace ht := ht.below hb2
      replace hb := below_seq hb hb2
      clear ho2 hb2 hp
      go_wp2_with fail
      refine up_start [] [(0, true), (1, true), (2, true), (3, true), (4, true), (5, true), (6, true), (7, true), (8, true), (9, false), (10, true), (11, true), (12, true), (13, true)] (by kernel_rfl) rfl (by kernel_rfl) (by kernel_rfl) ?_
      have s1 := h1.drew.strs (P := Tryd.prog) Tryd.underlying22 Tryd.underlying5 Tryd.underlying9
      replace hk := hk.drew
      replace hn := hn.drew
      replace ha := ha.drew
      replace ht := ht.drew
      replace hb := hb.drew
      generalize w2.drew = w5 at s1 hk hn ha ht hb ⊢
      refine seq_pure (i := 0) (N := some 46) (v := ?_) (a' := ?_) rfl rfl (by rfl) (fun _ _ _ h => h) ?_ ?_ ?_
      rotate_left 2
      · intro w' hg
        go_simp
        with_reducible rfl
      · simp only [Act.put, List.setIfInBounds_toArray, List.set_cons_zero, List.set_cons_succ, i64_w, i32_w]
        rfl
      refine seq_pure (i := 1) (N := some 47) (v := ?_) (a' := ?_) rfl rfl (by rfl) (fun _ _ _ h => h) ?_ ?_ ?_
      rotate_left 2
      · intro w' hg
        go_simp
        with_reducible rfl
      · simp only [Act.put, List.setIfInBounds_toArray, List.set_cons_zero, List.set_cons_succ, i64_w, i32_w]
        rfl
      refine seq_pure (i := 2) (N := some 48) (v := ?_) (a' := ?_) rfl rfl (by rfl) (fun _ _ _ h => h) ?_ ?_ ?_
      rotate_left 2
      · intro w' hg
        go_simp
        with_reducible rfl
      · simp only [Act.put, List.setIfInBounds_toArray, List.set_cons_zero, List.set_cons_succ, i64_w, i32_w]
        rfl
      refine seq_pure (i := 3) (N := some 49) (v := ?_) (a' := ?_) rfl rfl (by rfl) (fun _ _ _ h => h) ?_ ?_ ?_
      rotate_left 2
      · intro w' hg
        go_simp
        with_reducible rfl
      · simp only [Act.put, List.setIfInBounds_toArray, List.set_cons_zero, List.set_cons_succ, i64_w, i32_w]
        rfl
      refine seq_pure (i := 4) (N := some 50) (v := ?_) (a' := ?_) rfl rfl (by rfl) (fun _ _ _ h => h) ?_ ?_ ?_
      rotate_left 2
      · intro w' hg
        go_simp
        with_reducible rfl
      · simp only [Act.put, List.setIfInBounds_toArray, List.set_cons_zero, List.set_cons_succ, i64_w, i32_w]
        rfl
      clear s1
      refine seq_pure (i := 5) (N := some 51) (v := ?_) (a' := ?_) rfl rfl (by rfl) (fun _ _ _ h => h) ?_ ?_ ?_
      rotate_left 2
      · intro w' hg
        go_simp
        with_reducible rfl
      · simp only [Act.put, List.setIfInBounds_toArray, List.set_cons_zero, List.set_cons_succ, i64_w, i32_w]
        rfl
      refine seq_pure (i := 6) (N := some 52) (v := ?_) (a' := ?_) rfl rfl (by rfl) (fun _ _ _ h => h) ?_ ?_ ?_
      rotate_left 2
      · intro w' hg
        go_simp
        with_reducible rfl
      · simp only [Act.put, List.setIfInBounds_toArray, List.set_cons_zero, List.set_cons_succ, i64_w, i32_w]
        rfl
      refine seq_pure (i := 7) (N := some 53) (v := ?_) (a' := ?_) rfl rfl (by rfl) (fun _ _ _ h => h) ?_ ?_ ?_
      rotate_left 2
      · intro w' hg
        go_simp
        with_reducible rfl
      · simp only [Act.put, List.setIfInBounds_toArray, List.set_cons_zero, List.set_cons_succ, i64_w, i32_w]
        rfl
      refine seq_pure (i := 8) (N := some 54) (v := ?_) (a' := ?_) rfl rfl (by rfl) (fun _ _ _ h => h) ?_ ?_ ?_
      rotate_left 2
      · intro w' hg
        go_simp
        with_reducible rfl
      · simp only [Act.put, List.setIfInBounds_toArray, List.set_cons_zero, List.set_cons_succ, i64_w, i32_w]
        rfl
      refine seq_call (i := 9) (N := some 55) rfl rfl Tryd.func12 (by kernel_rfl) rfl #[.slice A 32 ca, .slice B 12 cb, .slice C nc cc, .slice D nd cd] (by rfl) rfl ?_ ?_
      · simp only [List.map_toArray, List.map_cons, List.map_nil]
        rfl
      refine (reftag_calls hk hn ha ht (by omega) (by omega)).mono ?_
      rintro e w6 ⟨v6, rfl, ho6, hb6⟩
      obtain ⟨A6, c6, rfl, h6⟩ := ho6.bytes 16 (tagN_length _ _ _ _) (tagN_ok _ _ _ _)
      have st := h6.strs (P := Tryd.prog) Tryd.underlying22 Tryd.underlying5 Tryd.underlying9
      replace hb := below_seq hb hb6
      refine ⟨_, rfl, fun _ => hb6, ?_⟩
      clear ho6 h6
      refine seq_norm (a' := ?_) ?_ ?_
      rotate_left
      · show Act.put _ (some 55) _ = _
        simp only [Act.put, List.setIfInBounds_toArray, List.set_cons_zero, List.set_cons_succ, i64_w, i32_w]
        rfl
      refine seq_pure (i := 10) (N := some 56) (v := ?_) (a' := ?_) rfl rfl (by rfl) (fun _ _ _ h => h) ?_ ?_ ?_
      rotate_left 2
      · intro w' hg
        go_simp
        with_reducible rfl
      · simp only [Act.put, List.setIfInBounds_toArray, List.set_cons_zero, List.set_cons_succ, i64_w, i32_w]
        rfl
      clear st
      refine seq_pure (i := 11) (N := some 57) (v := ?_) (a' := ?_) rfl rfl (by rfl) (fun _ _ _ h => h) ?_ ?_ ?_
      rotate_left 2
      · intro w' hg
        go_simp
        with_reducible rfl
      · simp only [Act.put, List.setIfInBounds_toArray, List.set_cons_zero, List.set_cons_succ, i64_w, i32_w]
        rfl
      refine seq_pure (i := 12) (N := some 58) (v := ?_) (a' := ?_) rfl rfl (by rfl) (fun _ _ _ h => h) ?_ ?_ ?_
      rotate_left 2
      · intro w' hg
        go_simp
        with_reducible rfl
      · simp only [Act.put, List.setIfInBounds_toArray, List.set_cons_zero, List.set_cons_succ, i64_w, i32_w]
        rfl
      refine seq_pure (i := 13) (N := some 8) (v := ?_) (a' := ?_) rfl rfl (by rfl) (fun _ _ _ h => h) ?_ ?_ ?_
      rotate_left 2
      · intro w' hg
        go_simp
        with_reducible rfl
      · simp only [Act.put, List.setIfInBounds_toArray, List.set_cons_zero, List.set_cons_succ, i64_w, i32_w]
        rfl
      refine seq_done ?_
      go_wp2
      go_ret
      exact ⟨by simp, hb⟩
    · have q4 : ((nb : Int) != 12) = true := by simp; omega
      have H := hd (Or.inr (a := na ≠ 32) h2)
      clear h1 h2
      go_enter Tryd.func6, Tryd.ntmps6
      go_wp2_with fail
      refine (awake_calls hpl).mono ?_
      rintro e w1 ⟨rfl, hb⟩
      have hk := HK.out.below hb
      have hn := HN.out.below hb
      have ha := HA.out.below hb
      have ht := HT.out.below hb
      have hp := hpl.below hb
      go_wp2_with fail
      refine (tag_none w1 H.out).mono ?_
      rintro e w' ⟨rfl, rfl⟩
      go_wp2
      go_ret
      exact ⟨by simp, hb⟩
  · have q4 : ((na : Int) != 32) = true := by simp; omega
    have H := hd (Or.inl (b := nb ≠ 12) h1)
    clear h1
    go_enter Tryd.func6, Tryd.ntmps6
    go_wp2_with fail
    refine (awake_calls hpl).mono ?_
    rintro e w1 ⟨rfl, hb⟩
    have hk := HK.out.below hb
    have hn := HN.out.below hb
    have ha := HA.out.below hb
    have ht := HT.out.below hb
    have hp := hpl.below hb
    go_wp2_with fail
    refine (tag_none w1 H.out).mono ?_
    rintro e w' ⟨rfl, rfl⟩
    go_wp2
    go_ret
    exact ⟨by simp, hb⟩

end Go.Proofs.YtkkhdjdoifnoaaaDoor
