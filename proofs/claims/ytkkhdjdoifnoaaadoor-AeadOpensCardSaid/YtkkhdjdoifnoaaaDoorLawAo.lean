/- The walk through redanlaw09.AeadOpens. -/
import Derived.Test.YtkkhdjdoifnoaaaDoorAeadAwake
import Derived.Test.YtkkhdjdoifnoaaaDoorRefAeadO
import Derived.Test.YtkkhdjdoifnoaaaDoorIRow
set_option linter.unusedVariables false
set_option linter.unusedSimpArgs false
namespace Go.Proofs.YtkkhdjdoifnoaaaDoor
open Go.RowKit Go.Proofs.YtkkhdjdoifnoaaaDoorW.PrintWords Go.Proofs.YtkkhdjdoifnoaaaDoorW.PrintLast Go.Proofs.YtkkhdjdoifnoaaaDoorW.PrintMore
theorem w64_step {i i1 : Nat} (h : i1 = i + 1) (hi : i ≤ 7) : wrap64 ((i : Int) + 1) = (i1 : Int) := by
  rw [Go.IntWalk.wrap64_in _ ⟨by omega, by omega⟩, h]
  rfl
theorem i64_step {i i1 : Nat} (h : i1 = i + 1) (hi : i ≤ 7) : IntKind.i64.wrap ((i : Int) + 1) = (i1 : Int) := by
  rw [IntWalk.i64_in _ (by omega), h]
  rfl
set_option maxHeartbeats 2000000 in
set_option maxRecDepth 100000 in
theorem aeadOpens_walk (W : World) (hpl : PlacesAt W) {A : Option Addr} {na ca : Nat} {key : List Nat} (hk0 : Bytes W A na ca key) (hfa : na ≤ 140737488351232) {B : Option Addr} {nb cb : Nat} {nonce : List Nat} (hn0 : Bytes W B nb cb nonce) (hfb : nb ≤ 140737488351232) {C : Option Addr} {nc cc : Nat} {ad : List Nat} (ha0 : Bytes W C nc cc ad) (hfc : nc ≤ 140737488351232) {D : Option Addr} {nd cd : Nat} {sealed : List Nat} (ht0 : Bytes W D nd cd sealed) (hfd : nd ≤ 140737488351232) {E : Option Addr} {ne ce : Nat} {text : List Nat} (hx0 : Bytes W E ne ce text) (hfe : ne ≤ 140737488351232) {F : Option Addr} {nf cf : Nat} {turn : List Int} (hf0 : IRow .i64 W F nf cf turn) :
    Calls Tryd.prog 4 #[.slice A na ca, .slice B nb cb, .slice C nc cc, .slice D nd cd, .slice E ne ce, .slice F nf cf] W fun e w' => e = .returned (.bool true) ∧ Below W.heap.size W w' := by
  have HX0 := hd hx0
  have HF := hd hf0
  clear hx0 hf0 hfe
  have HK := hd hk0
  have HN := hd hn0
  have HA := hd ha0
  have HT := hd ht0
  clear hk0 hn0 ha0 ht0 hfa hfb hfc hfd
  by_cases hbig : 1000 < nc
  · have q1 : decide ((1000 : Int) < (nc : Int)) = true := by simp; omega
    go_enter Tryd.func4, Tryd.ntmps4
    go_wp2_with (go_at_call 8; refine (awake_calls hpl).mono ?_; rintro e w1 ⟨rfl, hb1⟩)
    go_ret
    exact ⟨rfl, hb1⟩
  have q1 : decide ((1000 : Int) < (nc : Int)) = false := by simp; omega
  by_cases hbig2 : 1000 < nd
  · have q2 : decide ((1000 : Int) < (nd : Int)) = true := by simp; omega
    go_enter Tryd.func4, Tryd.ntmps4
    go_wp2_with (go_at_call 8; refine (awake_calls hpl).mono ?_; rintro e w1 ⟨rfl, hb1⟩)
    go_ret
    exact ⟨rfl, hb1⟩
  have q2 : decide ((1000 : Int) < (nd : Int)) = false := by simp; omega
  by_cases hbig3 : 1000 < ne
  · have q3 : decide ((1000 : Int) < (ne : Int)) = true := by simp; omega
    go_enter Tryd.func4, Tryd.ntmps4
    go_wp2_with (go_at_call 8; refine (awake_calls hpl).mono ?_; rintro e w1 ⟨rfl, hb1⟩)
    go_ret
    exact ⟨rfl, hb1⟩
  have q3 : decide ((1000 : Int) < (ne : Int)) = false := by simp; omega
  go_enter Tryd.func4, Tryd.ntmps4
  go_wp2_with fail
  refine (awake_calls hpl).mono ?_
  rintro e w1 ⟨rfl, hb⟩
  have hk := HK.out.below hb
  have hn := HN.out.below hb
  have ha := HA.out.below hb
  have ht := HT.out.below hb
  have hp := hpl.below hb
  have hx := HX0.out.below hb
  go_wp2_with fail
  refine (open_any hk hn ha ht hp (by omega) (by omega)).mono ?_
  rintro e w2 ⟨v2, rfl, ho2, hb2⟩
  obtain ⟨n2, HN2⟩ : ∃ x, Aside0 ((openA key nonce ad sealed).1.length = x) := ⟨_, ⟨rfl⟩⟩
  obtain ⟨e2, HE2⟩ : ∃ x, Aside0 ((openA key nonce ad sealed).2 = x) := ⟨_, ⟨rfl⟩⟩
  obtain ⟨A2, c2, rfl, h2⟩ := ho2.bytes n2 HN2.out (openA_ok _ _ _ ht.ok)
  rw [HE2.out]
  clear ho2
  go_wp2_with fail
  refine (refopen_any (hk.below hb2) (hn.below hb2) (ha.below hb2) (ht.below hb2) (by omega) (by omega)).mono ?_
  rintro e w3 ⟨v3, rfl, ho3, hb3⟩
  have hb13 := below_seq hb2 hb3
  obtain ⟨A3, c3, rfl, h3⟩ := ho3.bytes n2 HN2.out (openA_ok _ _ _ ht.ok)
  rw [HE2.out]
  replace h2 := h2.below hb3
  clear ho3
  go_wp2_with fail
  refine (refseal_any (hk.below hb13) (hn.below hb13) (ha.below hb13) (hx.below hb13) (by omega) (by omega)).mono ?_
  rintro e w4 ⟨v4, rfl, ho4, hb4⟩
  have hb14 := below_seq hb13 hb4
  obtain ⟨m, HM⟩ : ∃ x, Aside0 ((sealA key nonce ad text).1.length = x) := ⟨_, ⟨rfl⟩⟩
  obtain ⟨e4, HE4⟩ : ∃ x, Aside0 ((sealA key nonce ad text).2 = x) := ⟨_, ⟨rfl⟩⟩
  have HLOK := hd (sealA_ok key nonce ad hx.ok)
  have hm9 : m ≤ 1016 := by
    rw [← HM.out]
    unfold sealA
    split
    · rw [sealN_length, hx.2.1]; omega
    · exact Nat.zero_le _
  obtain ⟨A4, c4, rfl, _⟩ := ho4.bytes m HM.out HLOK.out
  rw [HE4.out]
  clear HK HN HA HT HX0
  have HK := hd (hk.below hb13)
  have HN := hd (hn.below hb13)
  have HA := hd (ha.below hb13)
  have HPL := hd (hp.below hb13)
  have HB := hd (below_seq hb hb13)
  have HTR := hd ((HF.out.below hb).below hb13)
  have HX := hd h2
  have HY := hd h3
  have HB4 := hd hb4
  generalize sealA key nonce ad text = sl at ho4 HM HE4 HLOK
  have HO4 := hd ho4
  have nf1 : nf ≤ 9223372036854775807 := HTR.out.2.2.1
  clear hk hn ha ht hp hx hb hb2 hb3 hb4 hb13 h2 h3 ho4 HF hpl
  go_wp2_with fail
  go_loopw [20] (fun i wr => ∃ (k : Nat) (lb : List Nat), k ≤ 7 ∧ i = .int .i64 (k : Int) ∧ Aside0 (lb.length = m) ∧ BytesOK lb ∧ OwnK .u8 5 w3.heap.size wr (.slice A4 m c4) lb ∧ Below w3.heap.size w3 wr) (fun i _ => 8 - (intOf i).toNat)
  case atStart => exact ⟨0, sl.1, by omega, rfl, HM, HLOK.out, HO4.out, HB4.out⟩
  case round =>
    clear HO4 HM HLOK HB4
    obtain ⟨i, lb, hi7, rfl, hll, hlok, hob, hbw⟩ := hrel
    have ii : (i : Int) ≤ 7 := by omega
    have hlb := hob.bytesOf hlok
    by_cases hgo : i + 1 < nf ∧ i < 6 ∧ 0 < m
    · obtain ⟨h1, h2, h3⟩ := hgo
      have q4 : decide ((i : Int) + 1 < (nf : Int)) = true := by simp; omega
      have q5 : decide ((i : Int) < 6) = true := by simp; omega
      have q6 : decide ((0 : Int) < (m : Int)) = true := by simp; omega
      have htr := HTR.out.below hbw
      obtain ⟨ad1, hT, hc1⟩ := htr.2.2.2 (by omega)
      have hz1 := hc1 i (by omega)
      generalize turn.getD i 0 = t0 at hz1
      obtain ⟨a, m1, m2⟩ := and_mask t0 16777215 (by decide)
      replace m1 : bits .and .i64 t0 16777215 = (a : Int) := m1
      obtain ⟨q, hq0⟩ : ∃ q, q = a % m := ⟨_, rfl⟩
      have hq : q < m := by rw [hq0]; exact Nat.mod_lt _ h3
      have m3 : (a : Int) % (m : Int) = (q : Int) := by rw [hq0]; omega
      have m4 : (a : Int).tmod (m : Int) = (q : Int) := by rw [Int.tmod_eq_emod_of_nonneg (by omega)]; exact m3
      have m5 : (a : Int) ≤ 16777215 := by omega
      have m6 : (m : Int) ≤ 1016 := by omega
      have m7 : (0 : Int) < m := by omega
      have j1 : (i : Int) + 1 < (nf : Int) := by omega
      have j2 : (i : Int) < (nf : Int) := by omega
      have j3 : (q : Int) < (m : Int) := by omega
      obtain ⟨gb, hA4, hgb, hgb2⟩ := hob.at_ h3
      subst hT
      subst hA4
      clear hc1 hq0 m2 hlb
      go_wp2_with fail
      clear hz1 m1 m3 m4
      refine upR_start Keeps.any [15] [(0, 1), (1, 1), (2, 1), (3, 1), (4, 1), (5, 1), (6, 1), (7, 1), (8, 1), (9, 1), (10, 1), (11, 1), (12, 1), (13, 1), (14, 1), (15, 0)] (by kernel_rfl) rfl (by kernel_rfl) (by kernel_rfl) ?_
      have p2 := hob.below (below_drew (Below.refl _ _))
      have p3 := htr.below (below_drew (Below.refl _ _))
      have hbw5 := hbw.drew
      generalize wr.drew = w5 at p2 p3 hbw5 ⊢
      obtain ⟨y, HY, hy, fy⟩ := p2.cellx q hq
      obtain ⟨ad2, hT, hc2⟩ := p3.2.2.2 (by omega)
      obtain rfl : ad1 = ad2 := by injection hT
      obtain ⟨i1, hi1⟩ : ∃ i1, i1 = i + 1 := ⟨_, rfl⟩
      have hz := hc2 i1 (by omega)
      generalize turn.getD i1 0 = t1 at hz
      have w2 : (i1 : Int) < (nf : Int) := by omega
      have gy := Grow.cells hy
      have gz := Grow.cells hz
      have hyb : y < 256 := by rw [← HY.out]; exact hlok.getD _
      obtain ⟨tn, m1, m2⟩ := and_mask t1 255 (by decide)
      replace m1 : Go.bits .and .i64 t1 255 = (tn : Int) := m1
      have m3 : (tn : Int) % 256 = (tn : Int) := by omega
      have m4 : IntKind.u8.wrap (tn : Int) = (tn : Int) := wrapN_u (k := .u8) rfl (show tn < 2 ^ 8 by omega)
      have m5 : (tn : Int) ≤ 255 := by omega
      obtain ⟨z, HZ⟩ : ∃ z, Aside0 (y ^^^ tn = z) := ⟨_, ⟨rfl⟩⟩
      have fxor : Go.bits .xor .u8 (y : Int) (tn : Int) = (z : Int) := by rw [← HZ.out]; exact xor_u8 hyb (by omega)
      have hzb : z < 256 := by rw [← HZ.out]; exact xor_lt hyb (by omega)
      have HP := hd (p2.put q z)
      have HPB := hd (hlok.set hzb q)
      have HPL2 := hd (show (lb.set q z).length = m by rw [List.length_set]; exact hll.out)
      have HBW := hd (hbw5.setCell (p := ⟨gb, q, none⟩) hgb (.int .u8 (z : Int)))
      have w0 := w64_step hi1 hi7
      have w1 := i64_step hi1 hi7
      clear hy hz hc2 m2 hob htr hbw p3 hyb hzb hi1
      refine rseq_pure (i := 0) (N := some 90) (v := ?_) (a' := ?_) rfl rfl (by rfl) (fun _ _ _ h => h) ?_ ?_ ?_
      rotate_left 2
      · intro w' hg
        go_simp
        with_reducible rfl
      · simp only [Act.put, List.setIfInBounds_toArray, List.set_cons_zero, List.set_cons_succ, i64_w, i32_w]
        rfl
      refine rseq_pure (i := 1) (N := some 91) (v := ?_) (a' := ?_) rfl rfl (by rfl) (fun _ _ _ h => h) ?_ ?_ ?_
      rotate_left 2
      · intro w' hg
        go_simp
        with_reducible rfl
      · simp only [Act.put, List.setIfInBounds_toArray, List.set_cons_zero, List.set_cons_succ, i64_w, i32_w]
        rfl
      refine rseq_pure (i := 2) (N := some 92) (v := ?_) (a' := ?_) rfl rfl (by rfl) (fun _ _ _ h => h) ?_ ?_ ?_
      rotate_left 2
      · intro w' hg
        go_simp
        with_reducible rfl
      · simp only [Act.put, List.setIfInBounds_toArray, List.set_cons_zero, List.set_cons_succ, i64_w, i32_w]
        rfl
      refine rseq_pure (i := 3) (N := some 93) (v := ?_) (a' := ?_) rfl rfl (by rfl) (fun _ _ _ h => h) ?_ ?_ ?_
      rotate_left 2
      · intro w' hg
        go_simp
        with_reducible rfl
      · simp only [Act.put, List.setIfInBounds_toArray, List.set_cons_zero, List.set_cons_succ, i64_w, i32_w]
        rfl
      refine rseq_pure (i := 4) (N := some 94) (v := ?_) (a' := ?_) rfl rfl (by rfl) (fun _ _ _ h => h) ?_ ?_ ?_
      rotate_left 2
      · intro w' hg
        go_simp
        with_reducible rfl
      · simp only [Act.put, List.setIfInBounds_toArray, List.set_cons_zero, List.set_cons_succ, i64_w, i32_w]
        rfl
      refine rseq_pure (i := 5) (N := some 95) (v := ?_) (a' := ?_) rfl rfl (by rfl) (fun _ _ _ h => h) ?_ ?_ ?_
      rotate_left 2
      · intro w' hg
        go_simp
        with_reducible rfl
      · simp only [Act.put, List.setIfInBounds_toArray, List.set_cons_zero, List.set_cons_succ, i64_w, i32_w]
        rfl
      refine rseq_pure (i := 6) (N := some 96) (v := ?_) (a' := ?_) rfl rfl (by rfl) (fun _ _ _ h => h) ?_ ?_ ?_
      rotate_left 2
      · intro w' hg
        go_simp
        with_reducible rfl
      · simp only [Act.put, List.setIfInBounds_toArray, List.set_cons_zero, List.set_cons_succ, i64_w, i32_w]
        rfl
      refine rseq_pure (i := 7) (N := some 97) (v := ?_) (a' := ?_) rfl rfl (by rfl) (fun _ _ _ h => h) ?_ ?_ ?_
      rotate_left 2
      · intro w' hg
        go_simp
        with_reducible rfl
      · simp only [Act.put, List.setIfInBounds_toArray, List.set_cons_zero, List.set_cons_succ, i64_w, i32_w]
        rfl
      refine rseq_pure (i := 8) (N := some 98) (v := ?_) (a' := ?_) rfl rfl (by rfl) (fun _ _ _ h => h) ?_ ?_ ?_
      rotate_left 2
      · intro w' hg
        go_simp
        with_reducible rfl
      · simp only [Act.put, List.setIfInBounds_toArray, List.set_cons_zero, List.set_cons_succ, i64_w, i32_w]
        rfl
      refine rseq_pure (i := 9) (N := some 99) (v := ?_) (a' := ?_) rfl rfl (by rfl) (fun _ _ _ h => h) ?_ ?_ ?_
      rotate_left 2
      · intro w' hg
        go_simp
        with_reducible rfl
      · simp only [Act.put, List.setIfInBounds_toArray, List.set_cons_zero, List.set_cons_succ, i64_w, i32_w]
        rfl
      clear w0 w1
      refine rseq_pure (i := 10) (N := some 100) (v := ?_) (a' := ?_) rfl rfl (by rfl) (fun _ _ _ h => h) ?_ ?_ ?_
      rotate_left 2
      · intro w' hg
        go_simp
        with_reducible rfl
      · simp only [Act.put, List.setIfInBounds_toArray, List.set_cons_zero, List.set_cons_succ, i64_w, i32_w]
        rfl
      refine rseq_pure (i := 11) (N := some 101) (v := ?_) (a' := ?_) rfl rfl (by rfl) (fun _ _ _ h => h) ?_ ?_ ?_
      rotate_left 2
      · intro w' hg
        go_simp
        with_reducible rfl
      · simp only [Act.put, List.setIfInBounds_toArray, List.set_cons_zero, List.set_cons_succ, i64_w, i32_w]
        rfl
      refine rseq_pure (i := 12) (N := some 102) (v := ?_) (a' := ?_) rfl rfl (by rfl) (fun _ _ _ h => h) ?_ ?_ ?_
      rotate_left 2
      · intro w' hg
        go_simp
        with_reducible rfl
      · simp only [Act.put, List.setIfInBounds_toArray, List.set_cons_zero, List.set_cons_succ, i64_w, i32_w]
        rfl
      refine rseq_pure (i := 13) (N := some 103) (v := ?_) (a' := ?_) rfl rfl (by rfl) (fun _ _ _ h => h) ?_ ?_ ?_
      rotate_left 2
      · intro w' hg
        go_simp
        with_reducible rfl
      · simp only [Act.put, List.setIfInBounds_toArray, List.set_cons_zero, List.set_cons_succ, i64_w, i32_w]
        rfl
      refine rseq_pure (i := 14) (N := some 104) (v := ?_) (a' := ?_) rfl rfl (by rfl) (fun _ _ _ h => h) ?_ ?_ ?_
      rotate_left 2
      · intro w' hg
        go_simp
        with_reducible rfl
      · simp only [Act.put, List.setIfInBounds_toArray, List.set_cons_zero, List.set_cons_succ, i64_w, i32_w]
        rfl
      have hx5 := gy _ (Grow.refl _)
      refine rseq_skip (i := 15) (w1 := ?_) rfl rfl (by rfl) ?_ ?_ ?_
      rotate_left
      · go_simp
        rfl
      · exact ⟨fun h => absurd (by decide) h, trivial⟩
      refine rseq_done ?_
      go_wp2
      go_roundw
      case rel => exact ⟨i + 2, lb.set q z, by omega, by go_num, ⟨HPL2.out⟩, HPB.out, HP.out, HBW.out⟩
      case measure => simp [intOf]; omega
    · have hcs : (decide ((i : Int) + 1 < (nf : Int)) = false) ∨ (decide ((i : Int) + 1 < (nf : Int)) = true ∧ decide ((i : Int) < 6) = false) ∨ (decide ((i : Int) + 1 < (nf : Int)) = true ∧ decide ((i : Int) < 6) = true ∧ m = 0) := by
        by_cases h1 : i + 1 < nf
        · by_cases h2 : i < 6
          · exact Or.inr (Or.inr ⟨by simp; omega, by simp; omega, by omega⟩)
          · exact Or.inr (Or.inl ⟨by simp; omega, by simp; omega⟩)
        · exact Or.inl (by simp; omega)
      clear hgo hob
      rcases hcs with q4 | ⟨q4, q5⟩ | ⟨q4, q5, rfl⟩
      all_goals
        go_wp2_with fail
        refine (open_any (HK.out.below hbw) (HN.out.below hbw) (HA.out.below hbw) hlb (HPL.out.below hbw) (by omega) (by omega)).mono ?_
        rintro e w6 ⟨v6, rfl, ho6, hb6⟩
        have hbw6 := below_seq hbw hb6
        obtain ⟨n6, HN6⟩ : ∃ x, Aside0 ((openA key nonce ad lb).1.length = x) := ⟨_, ⟨rfl⟩⟩
        obtain ⟨e6, HE6⟩ : ∃ x, Aside0 ((openA key nonce ad lb).2 = x) := ⟨_, ⟨rfl⟩⟩
        obtain ⟨A6, c6, rfl, h6⟩ := ho6.bytes n6 HN6.out (openA_ok _ _ _ hlok)
        rw [HE6.out]
        clear ho6
        go_wp2_with fail
        refine (refopen_any (HK.out.below hbw6) (HN.out.below hbw6) (HA.out.below hbw6) (hlb.below hb6) (by omega) (by omega)).mono ?_
        rintro e w7 ⟨v7, rfl, ho7, hb7⟩
        have hbw7 := below_seq hbw6 hb7
        obtain ⟨A7, c7, rfl, h7⟩ := ho7.bytes n6 HN6.out (openA_ok _ _ _ hlok)
        rw [HE6.out]
        have s1 := (HX.out.below hbw7).str (P := Tryd.prog) Tryd.underlying22 Tryd.underlying5 Tryd.underlying9
        have s2 := (HY.out.below hbw7).str (P := Tryd.prog) Tryd.underlying22 Tryd.underlying5 Tryd.underlying9
        have s3 := (h6.below hb7).str (P := Tryd.prog) Tryd.underlying22 Tryd.underlying5 Tryd.underlying9
        have s4 := h7.str (P := Tryd.prog) Tryd.underlying22 Tryd.underlying5 Tryd.underlying9
        clear ho7 h6 h7 hlb hll
        go_wp2
        go_ret
        exact ⟨by simp, below_seq HB.out hbw7⟩

end Go.Proofs.YtkkhdjdoifnoaaaDoor
