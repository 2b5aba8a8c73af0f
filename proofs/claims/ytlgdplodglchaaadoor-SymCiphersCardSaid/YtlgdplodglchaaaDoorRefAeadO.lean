/- The walk through redanref09.Open; Seal and Open for keys and nonces of any length. -/
import Derived.Test.YtlgdplodglchaaaDoorM4
import Derived.Test.YtlgdplodglchaaaDoorGAead
set_option linter.unusedVariables false
set_option linter.unusedSimpArgs false
namespace Go.Proofs.YtlgdplodglchaaaDoor
open Go.RowKit Go.Proofs.YtlgdplodglchaaaDoorW.PrintWords Go.Proofs.YtlgdplodglchaaaDoorW.PrintLast Go.Proofs.YtlgdplodglchaaaDoorW.PrintMore

set_option maxRecDepth 100000 in
theorem refopen_none {A B C D : Option Addr} {na nb ca cb nc cc nd cd : Nat} (w : World) (h : na ≠ 32 ∨ nb ≠ 12) :
    Calls Tryd.prog 76 #[.slice A na ca, .slice B nb cb, .slice C nc cc, .slice D nd cd] w fun e w' => e = .returned (.tuple #[.slice none 0 0, .int .i64 1]) ∧ w = w' := by
  by_cases h1 : na = 32
  · have q1 : ((na : Int) != 32) = false := by simp; omega
    have q2 : ((nb : Int) != 12) = true := by simp; omega
    clear h h1
    go_enter Tryd.func76, Tryd.ntmps76
    go_wp2
    go_ret2
    exact ⟨rfl, rfl⟩
  · have q1 : ((na : Int) != 32) = true := by simp; omega
    clear h h1
    go_enter Tryd.func76, Tryd.ntmps76
    go_wp2
    go_ret2
    exact ⟨rfl, rfl⟩
set_option maxHeartbeats 2000000 in
set_option maxRecDepth 100000 in
theorem refopen_calls {A B C D : Option Addr} {ca cb nc cc nd cd : Nat} {key nonce ad box : List Nat} {w : World} (hk : Bytes w A 32 ca key) (hn : Bytes w B 12 cb nonce) (ha : Bytes w C nc cc ad) (hb : Bytes w D nd cd box) (hna : nc ≤ 10000) (hnd : nd ≤ 10000) :
    Calls Tryd.prog 76 #[.slice A 32 ca, .slice B 12 cb, .slice C nc cc, .slice D nd cd] w fun e w' => ∃ v, e = .returned (.tuple #[v, .int .i64 ((openN key nonce ad box).2 : Nat)]) ∧ OwnK .u8 5 w.heap.size w' v (openN key nonce ad box).1 ∧ Below w.heap.size w w' := by
  have hc := hb.2.2.1
  have i1 : (nd : Int) ≤ 10000 := by omega
  have i2 : (nd : Int) ≤ cd := by omega
  rcases Nat.lt_or_ge nd 16 with h16 | h16
  · rw [openN, if_pos (by rw [hb.2.1]; exact h16)]
    have i0 : (nd : Int) < 16 := by omega
    clear hb
    go_enter Tryd.func76, Tryd.ntmps76
    go_wp2
    go_ret2
    exact ⟨_, rfl, OwnK.nil _ _ _ _, Below.refl _ _⟩
  · obtain ⟨m, hm⟩ : ∃ m, nd = m + 16 := ⟨nd - 16, by omega⟩
    have hlen := hb.2.1
    have hsub : box.length - 16 = m := by omega
    have e1 : (nd : Int) - 16 = (m : Int) := by omega
    have e2 : nd - m = 16 := by omega
    have j0 : (m : Int) ≤ nd := by omega
    have hmn : m ≤ 10000 := by omega
    rw [openN, if_neg (by omega), hsub]
    obtain ⟨ad0, x0, rfl, _, hcell0⟩ := hb.1.at_ 0 (by omega)
    have ht := hb.take m (by omega)
    have hdr := hb.drop m (by omega)
    rw [if_neg (by omega), e2] at hdr
    have hdr' : Bytes w (some (ad0.add m)) 16 (cd - m) (box.drop m) := hdr
    have hdok := hdr'.ok
    have HDR := hd hdr'
    have hne : (cd = m) = False := by simp; omega
    have im : (m : Int) ≤ cd := by omega
    clear hb hdr hdr' hlen hsub hcell0 hm
    by_cases hq : tagN key nonce ad (box.take m) = box.drop m
    · rw [if_pos hq]
      have hqs : ((strOf (tagN key nonce ad (box.take m))).toList == (strOf (box.drop m)).toList) = true := by rw [str_eq (tagN_ok _ _ _ _) hdok, hq, beq_self_eq_true]
      clear hq
      go_enter Tryd.func76, Tryd.ntmps76
      go_wp2_with fail
      refine up_start [] [(0, true), (1, true), (2, true), (3, true), (4, true), (5, true), (8, true), (9, true), (10, true), (11, true), (6, false), (7, true), (12, true)] (by kernel_rfl) rfl (by kernel_rfl) (by kernel_rfl) ?_
      have sd := HDR.out.drew.strs (P := Tryd.prog) Tryd.underlying40 Tryd.underlying5 Tryd.underlying9
      replace hk := hk.drew
      replace hn := hn.drew
      replace ha := ha.drew
      replace ht := ht.drew
      replace hpd := below_drew (Below.refl w.heap.size w)
      generalize w.drew = w5 at hk hn ha ht sd hpd ⊢
      refine seq_pure (i := 0) (N := some 24) (v := ?_) (a' := ?_) rfl rfl (by rfl) (fun _ _ _ h => h) ?_ ?_ ?_
      rotate_left 2
      · intro w' hg
        go_simp
        with_reducible rfl
      · simp only [Act.put, List.setIfInBounds_toArray, List.set_cons_zero, List.set_cons_succ, i64_w, i32_w]
        rfl
      refine seq_pure (i := 1) (N := some 25) (v := ?_) (a' := ?_) rfl rfl (by rfl) (fun _ _ _ h => h) ?_ ?_ ?_
      rotate_left 2
      · intro w' hg
        go_simp
        with_reducible rfl
      · simp only [Act.put, List.setIfInBounds_toArray, List.set_cons_zero, List.set_cons_succ, i64_w, i32_w]
        rfl
      refine seq_pure (i := 2) (N := some 26) (v := ?_) (a' := ?_) rfl rfl (by rfl) (fun _ _ _ h => h) ?_ ?_ ?_
      rotate_left 2
      · intro w' hg
        go_simp
        with_reducible rfl
      · simp only [Act.put, List.setIfInBounds_toArray, List.set_cons_zero, List.set_cons_succ, i64_w, i32_w]
        rfl
      refine seq_pure (i := 3) (N := some 27) (v := ?_) (a' := ?_) rfl rfl (by rfl) (fun _ _ _ h => h) ?_ ?_ ?_
      rotate_left 2
      · intro w' hg
        go_simp
        with_reducible rfl
      · simp only [Act.put, List.setIfInBounds_toArray, List.set_cons_zero, List.set_cons_succ, i64_w, i32_w]
        rfl
      refine seq_pure (i := 4) (N := some 28) (v := ?_) (a' := ?_) rfl rfl (by rfl) (fun _ _ _ h => h) ?_ ?_ ?_
      rotate_left 2
      · intro w' hg
        go_simp
        with_reducible rfl
      · simp only [Act.put, List.setIfInBounds_toArray, List.set_cons_zero, List.set_cons_succ, i64_w, i32_w]
        rfl
      refine seq_pure (i := 5) (N := some 29) (v := ?_) (a' := ?_) rfl rfl (by rfl) (fun _ _ _ h => h) ?_ ?_ ?_
      rotate_left 2
      · intro w' hg
        go_simp
        with_reducible rfl
      · simp only [Act.put, List.setIfInBounds_toArray, List.set_cons_zero, List.set_cons_succ, i64_w, i32_w]
        rfl
      refine seq_pure (i := 8) (N := some 32) (v := ?_) (a' := ?_) rfl rfl (by rfl) (fun _ _ _ h => h) ?_ ?_ ?_
      rotate_left 2
      · intro w' hg
        go_simp
        with_reducible rfl
      · simp only [Act.put, List.setIfInBounds_toArray, List.set_cons_zero, List.set_cons_succ, i64_w, i32_w]
        rfl
      refine seq_pure (i := 9) (N := some 33) (v := ?_) (a' := ?_) rfl rfl (by rfl) (fun _ _ _ h => h) ?_ ?_ ?_
      rotate_left 2
      · intro w' hg
        go_simp
        with_reducible rfl
      · simp only [Act.put, List.setIfInBounds_toArray, List.set_cons_zero, List.set_cons_succ, i64_w, i32_w]
        rfl
      refine seq_pure (i := 10) (N := some 34) (v := ?_) (a' := ?_) rfl rfl (by rfl) (fun _ _ _ h => h) ?_ ?_ ?_
      rotate_left 2
      · intro w' hg
        go_simp
        with_reducible rfl
      · simp only [Act.put, List.setIfInBounds_toArray, List.set_cons_zero, List.set_cons_succ, i64_w, i32_w]
        rfl
      refine seq_pure (i := 11) (N := some 35) (v := ?_) (a' := ?_) rfl rfl (by rfl) (fun _ _ _ h => h) ?_ ?_ ?_
      rotate_left 2
      · intro w' hg
        go_simp
        with_reducible rfl
      · simp only [Act.put, List.setIfInBounds_toArray, List.set_cons_zero, List.set_cons_succ, i64_w, i32_w]
        rfl
      clear sd
      refine seq_call (i := 6) (N := some 30) rfl rfl Tryd.func90 (by kernel_rfl) rfl #[.slice A 32 ca, .slice B 12 cb, .slice C nc cc, .slice (some ad0) m cd] (by rfl) rfl ?_ ?_
      · simp only [List.map_toArray, List.map_cons, List.map_nil]
        rfl
      refine (reftag_calls hk hn ha ht hna hmn).mono ?_
      rintro e w6 ⟨v6, rfl, ho6, hb6⟩
      obtain ⟨A6, c6, rfl, h6⟩ := ho6.bytes 16 (tagN_length _ _ _ _) (tagN_ok _ _ _ _)
      have st := h6.strs (P := Tryd.prog) Tryd.underlying40 Tryd.underlying5 Tryd.underlying9
      replace hk := hk.below hb6
      replace hn := hn.below hb6
      replace ht := ht.below hb6
      replace hpd := below_seq hpd hb6
      refine ⟨_, rfl, fun _ => hb6, ?_⟩
      clear ho6 h6
      refine seq_norm (a' := ?_) ?_ ?_
      rotate_left
      · show Act.put _ (some 30) _ = _
        simp only [Act.put, List.setIfInBounds_toArray, List.set_cons_zero, List.set_cons_succ, i64_w, i32_w]
        rfl
      refine seq_pure (i := 7) (N := some 31) (v := ?_) (a' := ?_) rfl rfl (by rfl) (fun _ _ _ h => h) ?_ ?_ ?_
      rotate_left 2
      · intro w' hg
        go_simp
        with_reducible rfl
      · simp only [Act.put, List.setIfInBounds_toArray, List.set_cons_zero, List.set_cons_succ, i64_w, i32_w]
        rfl
      clear st
      refine seq_pure (i := 12) (N := some 36) (v := ?_) (a' := ?_) rfl rfl (by rfl) (fun _ _ _ h => h) ?_ ?_ ?_
      rotate_left 2
      · intro w' hg
        go_simp
        with_reducible rfl
      · simp only [Act.put, List.setIfInBounds_toArray, List.set_cons_zero, List.set_cons_succ, i64_w, i32_w]
        rfl
      refine seq_done ?_
      go_wp2_with fail
      refine (refstream_calls 1 hk hn ht rfl (by decide) (by omega)).mono ?_
      rintro e w3 ⟨v3, rfl, ho3, hb4⟩
      go_wp2
      go_ret2
      exact ⟨v3, rfl, ho3.lower hpd.size, below_seq hpd hb4⟩
    · rw [if_neg hq]
      have hqs : ((strOf (tagN key nonce ad (box.take m))).toList == (strOf (box.drop m)).toList) = false := by rw [str_eq (tagN_ok _ _ _ _) hdok]; exact beq_eq_false_iff_ne.2 hq
      clear hq
      go_enter Tryd.func76, Tryd.ntmps76
      go_wp2_with fail
      refine up_start [] [(0, true), (1, true), (2, true), (3, true), (4, true), (5, true), (8, true), (9, true), (10, true), (11, true), (6, false), (7, true), (12, true)] (by kernel_rfl) rfl (by kernel_rfl) (by kernel_rfl) ?_
      have sd := HDR.out.drew.strs (P := Tryd.prog) Tryd.underlying40 Tryd.underlying5 Tryd.underlying9
      replace hk := hk.drew
      replace hn := hn.drew
      replace ha := ha.drew
      replace ht := ht.drew
      replace hpd := below_drew (Below.refl w.heap.size w)
      generalize w.drew = w5 at hk hn ha ht sd hpd ⊢
      refine seq_pure (i := 0) (N := some 24) (v := ?_) (a' := ?_) rfl rfl (by rfl) (fun _ _ _ h => h) ?_ ?_ ?_
      rotate_left 2
      · intro w' hg
        go_simp
        with_reducible rfl
      · simp only [Act.put, List.setIfInBounds_toArray, List.set_cons_zero, List.set_cons_succ, i64_w, i32_w]
        rfl
      refine seq_pure (i := 1) (N := some 25) (v := ?_) (a' := ?_) rfl rfl (by rfl) (fun _ _ _ h => h) ?_ ?_ ?_
      rotate_left 2
      · intro w' hg
        go_simp
        with_reducible rfl
      · simp only [Act.put, List.setIfInBounds_toArray, List.set_cons_zero, List.set_cons_succ, i64_w, i32_w]
        rfl
      refine seq_pure (i := 2) (N := some 26) (v := ?_) (a' := ?_) rfl rfl (by rfl) (fun _ _ _ h => h) ?_ ?_ ?_
      rotate_left 2
      · intro w' hg
        go_simp
        with_reducible rfl
      · simp only [Act.put, List.setIfInBounds_toArray, List.set_cons_zero, List.set_cons_succ, i64_w, i32_w]
        rfl
      refine seq_pure (i := 3) (N := some 27) (v := ?_) (a' := ?_) rfl rfl (by rfl) (fun _ _ _ h => h) ?_ ?_ ?_
      rotate_left 2
      · intro w' hg
        go_simp
        with_reducible rfl
      · simp only [Act.put, List.setIfInBounds_toArray, List.set_cons_zero, List.set_cons_succ, i64_w, i32_w]
        rfl
      refine seq_pure (i := 4) (N := some 28) (v := ?_) (a' := ?_) rfl rfl (by rfl) (fun _ _ _ h => h) ?_ ?_ ?_
      rotate_left 2
      · intro w' hg
        go_simp
        with_reducible rfl
      · simp only [Act.put, List.setIfInBounds_toArray, List.set_cons_zero, List.set_cons_succ, i64_w, i32_w]
        rfl
      refine seq_pure (i := 5) (N := some 29) (v := ?_) (a' := ?_) rfl rfl (by rfl) (fun _ _ _ h => h) ?_ ?_ ?_
      rotate_left 2
      · intro w' hg
        go_simp
        with_reducible rfl
      · simp only [Act.put, List.setIfInBounds_toArray, List.set_cons_zero, List.set_cons_succ, i64_w, i32_w]
        rfl
      refine seq_pure (i := 8) (N := some 32) (v := ?_) (a' := ?_) rfl rfl (by rfl) (fun _ _ _ h => h) ?_ ?_ ?_
      rotate_left 2
      · intro w' hg
        go_simp
        with_reducible rfl
      · simp only [Act.put, List.setIfInBounds_toArray, List.set_cons_zero, List.set_cons_succ, i64_w, i32_w]
        rfl
      refine seq_pure (i := 9) (N := some 33) (v := ?_) (a' := ?_) rfl rfl (by rfl) (fun _ _ _ h => h) ?_ ?_ ?_
      rotate_left 2
      · intro w' hg
        go_simp
        with_reducible rfl
      · simp only [Act.put, List.setIfInBounds_toArray, List.set_cons_zero, List.set_cons_succ, i64_w, i32_w]
        rfl
      refine seq_pure (i := 10) (N := some 34) (v := ?_) (a' := ?_) rfl rfl (by rfl) (fun _ _ _ h => h) ?_ ?_ ?_
      rotate_left 2
      · intro w' hg
        go_simp
        with_reducible rfl
      · simp only [Act.put, List.setIfInBounds_toArray, List.set_cons_zero, List.set_cons_succ, i64_w, i32_w]
        rfl
      refine seq_pure (i := 11) (N := some 35) (v := ?_) (a' := ?_) rfl rfl (by rfl) (fun _ _ _ h => h) ?_ ?_ ?_
      rotate_left 2
      · intro w' hg
        go_simp
        with_reducible rfl
      · simp only [Act.put, List.setIfInBounds_toArray, List.set_cons_zero, List.set_cons_succ, i64_w, i32_w]
        rfl
      clear sd
      refine seq_call (i := 6) (N := some 30) rfl rfl Tryd.func90 (by kernel_rfl) rfl #[.slice A 32 ca, .slice B 12 cb, .slice C nc cc, .slice (some ad0) m cd] (by rfl) rfl ?_ ?_
      · simp only [List.map_toArray, List.map_cons, List.map_nil]
        rfl
      refine (reftag_calls hk hn ha ht hna hmn).mono ?_
      rintro e w6 ⟨v6, rfl, ho6, hb6⟩
      obtain ⟨A6, c6, rfl, h6⟩ := ho6.bytes 16 (tagN_length _ _ _ _) (tagN_ok _ _ _ _)
      have st := h6.strs (P := Tryd.prog) Tryd.underlying40 Tryd.underlying5 Tryd.underlying9
      replace hk := hk.below hb6
      replace hn := hn.below hb6
      replace ht := ht.below hb6
      replace hpd := below_seq hpd hb6
      refine ⟨_, rfl, fun _ => hb6, ?_⟩
      clear ho6 h6
      refine seq_norm (a' := ?_) ?_ ?_
      rotate_left
      · show Act.put _ (some 30) _ = _
        simp only [Act.put, List.setIfInBounds_toArray, List.set_cons_zero, List.set_cons_succ, i64_w, i32_w]
        rfl
      refine seq_pure (i := 7) (N := some 31) (v := ?_) (a' := ?_) rfl rfl (by rfl) (fun _ _ _ h => h) ?_ ?_ ?_
      rotate_left 2
      · intro w' hg
        go_simp
        with_reducible rfl
      · simp only [Act.put, List.setIfInBounds_toArray, List.set_cons_zero, List.set_cons_succ, i64_w, i32_w]
        rfl
      clear st
      refine seq_pure (i := 12) (N := some 36) (v := ?_) (a' := ?_) rfl rfl (by rfl) (fun _ _ _ h => h) ?_ ?_ ?_
      rotate_left 2
      · intro w' hg
        go_simp
        with_reducible rfl
      · simp only [Act.put, List.setIfInBounds_toArray, List.set_cons_zero, List.set_cons_succ, i64_w, i32_w]
        rfl
      refine seq_done ?_
      go_wp2
      go_ret2
      exact ⟨_, rfl, OwnK.nil _ _ _ _, hpd⟩
theorem refseal_any {A B C D : Option Addr} {na nb ca cb nc cc nd cd : Nat} {key nonce ad text : List Nat} {w : World} (hk : Bytes w A na ca key) (hn : Bytes w B nb cb nonce) (ha : Bytes w C nc cc ad) (hb : Bytes w D nd cd text) (hna : nc ≤ 10000) (hnd : nd ≤ 10000) :
    Calls Tryd.prog 72 #[.slice A na ca, .slice B nb cb, .slice C nc cc, .slice D nd cd] w fun e w' => ∃ v, e = .returned (.tuple #[v, .int .i64 ((sealA key nonce ad text).2 : Nat)]) ∧ OwnK .u8 5 w.heap.size w' v (sealA key nonce ad text).1 ∧ Below w.heap.size w w' := by
  by_cases h : na = 32 ∧ nb = 12
  · obtain ⟨rfl, rfl⟩ := h
    rw [sealA, if_pos ⟨hk.2.1, hn.2.1⟩]
    exact refseal_calls hk hn ha hb hna hnd
  · refine (refseal_none w (by omega)).mono ?_
    rintro e w' ⟨rfl, rfl⟩
    rw [sealA, if_neg (by rw [hk.2.1, hn.2.1]; exact h)]
    exact ⟨_, rfl, OwnK.nil _ _ _ _, Below.refl _ _⟩
theorem refopen_any {A B C D : Option Addr} {na nb ca cb nc cc nd cd : Nat} {key nonce ad box : List Nat} {w : World} (hk : Bytes w A na ca key) (hn : Bytes w B nb cb nonce) (ha : Bytes w C nc cc ad) (hb : Bytes w D nd cd box) (hna : nc ≤ 10000) (hnd : nd ≤ 10000) :
    Calls Tryd.prog 76 #[.slice A na ca, .slice B nb cb, .slice C nc cc, .slice D nd cd] w fun e w' => ∃ v, e = .returned (.tuple #[v, .int .i64 ((openA key nonce ad box).2 : Nat)]) ∧ OwnK .u8 5 w.heap.size w' v (openA key nonce ad box).1 ∧ Below w.heap.size w w' := by
  by_cases h : na = 32 ∧ nb = 12
  · obtain ⟨rfl, rfl⟩ := h
    rw [openA, if_pos ⟨hk.2.1, hn.2.1⟩]
    exact refopen_calls hk hn ha hb hna hnd
  · refine (refopen_none w (by omega)).mono ?_
    rintro e w' ⟨rfl, rfl⟩
    rw [openA, if_neg (by rw [hk.2.1, hn.2.1]; exact h)]
    exact ⟨_, rfl, OwnK.nil _ _ _ _, Below.refl _ _⟩

end Go.Proofs.YtlgdplodglchaaaDoor
