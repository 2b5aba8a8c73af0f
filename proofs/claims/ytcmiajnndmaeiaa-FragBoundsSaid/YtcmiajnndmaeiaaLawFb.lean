/- FragBounds: the walk. -/
import Derived.Test.YtcmiajnndmaeiaaFragNil
set_option linter.unusedVariables false
set_option linter.unusedSimpArgs false
namespace Go.Proofs.Ytcmiajnndmaeiaa
open Go.RowKit Go.Proofs.YtcmiajnndmaeiaaW.PrintWords Go.Proofs.YtcmiajnndmaeiaaW.PrintLast Go.Proofs.YtcmiajnndmaeiaaW.PrintMore
set_option maxHeartbeats 8000000 in
set_option maxRecDepth 100000 in
theorem fragBounds_walk (W : World) (P : Int) (hP : (Lit.int .i64 P).wf = true) (A : Int) (hA : (Lit.int .i64 A).wf = true) (G : Int) (hG : (Lit.int .u64 G).wf = true) {A1 : Option Addr} {n1 c1 : Nat} (hz : ActRow W A1 n1 c1) :
    Calls Try.prog 7 #[.int .i64 P, .int .i64 A, .int .u64 G, .slice A1 n1 c1] W fun e w' => e = .returned (.bool true) ∧ Below W.heap.size W w' := by
  have hG2 : ∃ G2 : Nat, G = G2 := by
    simp [Lit.wf, IntKind.min, IntKind.max, IntKind.signed, IntKind.bits] at hG
    exact ⟨G.toNat, by omega⟩
  obtain ⟨G, rfl⟩ := hG2
  have hp9 : P ≤ 9223372036854775807 := by simp [Lit.wf, IntKind.min, IntKind.max, IntKind.signed, IntKind.bits] at hP; omega
  have ha9 : A ≤ 9223372036854775807 := by simp [Lit.wf, IntKind.min, IntKind.max, IntKind.signed, IntKind.bits] at hA; omega
  have HPM := hd (show maxz P ≤ 9223372036854775807 by unfold maxz; omega)
  have HAM := hd (show maxz A ≤ 9223372036854775807 by unfold maxz; omega)
  have HZ := hd hz
  clear hP hA hG hz hp9 ha9
  go_enter Try.func7, Try.ntmps7
  go_wp2_with fail
  refine awake_calls.mono ?_
  rintro e w1 ⟨rfl, hb1⟩
  have HB1 := hd hb1
  clear hb1
  go_wp2_with fail
  refine (new_calls (P := P) (A := A) (G := G) (w := w1)).mono ?_
  rintro e w3 ⟨b, rfl, hbu, hb3⟩
  have HBU := hd hbu
  have HBW := hd (below_seq HB1.out hb3)
  have HS1 := hd HB1.out.size
  have HS3 := hd hb3.size
  clear hbu hb3
  go_wp2
  go_loopw [12] (fun u12 wr => ∃ (i : Nat) (v : Value) (xs : List Cel), i ≤ 40 ∧ u12 = .int .i64 i ∧ Aside0 (xs.length ≤ i) ∧ Aside0 (InvC (maxz P) (maxz A) xs) ∧ BufAt w1.heap.size wr b (maxz P) (maxz A) G v xs ∧ Below W.heap.size W wr) (fun u12 _ => 40 - (intOf u12).toNat)
  case atStart => exact ⟨0, .slice none 0 0, [], by decide, rfl, ⟨by simp⟩, ⟨InvC.nil _ _⟩, HBU.out, HBW.out⟩
  case round =>
    obtain ⟨i, v, xs, hi, rfl, hl, hinv, hbu, hb⟩ := hrel
    have HB := hd hb
    have HU := hd hbu
    have hi9 : (i : Int) ≤ 40 := by omega
    by_cases hlt : i < n1 ∧ i < 40
    · obtain ⟨h1, h2⟩ := hlt
      have i1 : (i : Int) < n1 := by omega
      have i2 : (i : Int) < 40 := by omega
      obtain ⟨ad, rfl, hc⟩ := (HZ.out.below hb).2.2 (by omega)
      have hnc : (n1 : Int) ≤ c1 := by have := HZ.out.1; omega
      obtain ⟨bb, oo, k, p, m, pa, ps, sz, fl, nw, hq, e0, e1, e2, e3, e4, e5, e6, e7, hps1, hps2, hnw0, hnw1, hfl0, hfl1⟩ := hc i h1
      clear hc hb hbu
      go_upto_region 10 with (fail)
      have hal := below_alloc (Below.refl wr.heap.size wr) (.cells #[.int .i64 k, .int .i64 p, .int .i64 m, .int .i64 pa, .int .i64 ps, .int .i64 sz, .int .u8 fl, .int .u64 nw] 52)
      have hbk := blk_new wr (.cells #[.int .i64 k, .int .i64 p, .int .i64 m, .int .i64 pa, .int .i64 ps, .int .i64 sz, .int .u8 fl, .int .u64 nw] 52)
      replace HU := hd (HU.out.below hal)
      replace HB := hd (below_seq HB.out hal)
      generalize wr.alloc (.cells #[.int .i64 k, .int .i64 p, .int .i64 m, .int .i64 pa, .int .i64 ps, .int .i64 sz, .int .u8 fl, .int .u64 nw] 52) = w4 at hal hbk HU HB ⊢
      generalize wr.heap.size = pb at hbk hal ⊢
      have d1 : w4.cell? ⟨pb, 1, none⟩ = some (.int .i64 p) := by rw [blk_cell hbk]; rfl
      have d2 : w4.cell? ⟨pb, 2, none⟩ = some (.int .i64 m) := by rw [blk_cell hbk]; rfl
      have d3 : w4.cell? ⟨pb, 3, none⟩ = some (.int .i64 pa) := by rw [blk_cell hbk]; rfl
      have d4 : w4.cell? ⟨pb, 4, none⟩ = some (.int .i64 ps) := by rw [blk_cell hbk]; rfl
      have d5 : w4.cell? ⟨pb, 5, none⟩ = some (.int .i64 sz) := by rw [blk_cell hbk]; rfl
      have d7 : w4.cell? ⟨pb, 7, none⟩ = some (.int .u64 nw) := by rw [blk_cell hbk]; rfl
      clear hal hbk e0 e1 e2 e3 e4 e5 e6 e7 hq
      by_cases s1 : 2000 < sz
      · have q1 : decide ((2000 : Int) < sz) = true := by simp; exact s1
        go_wp2
        go_ret
        exact ⟨rfl, HB.out⟩
      have q1 : decide ((2000 : Int) < sz) = false := by simp; omega
      by_cases s2 : sz < 0
      · have q2 : decide (sz < (0 : Int)) = true := by simp; exact s2
        go_wp2
        go_ret
        exact ⟨rfl, HB.out⟩
      have q2 : decide (sz < (0 : Int)) = false := by simp; omega
      obtain ⟨n, rfl⟩ := Int.eq_ofNat_of_zero_le (show 0 ≤ sz by omega)
      obtain ⟨now, rfl⟩ := Int.eq_ofNat_of_zero_le hnw0
      have HN := hd (show n ≤ 2000 ∧ now < 2 ^ 64 by omega)
      have HPS := hd (And.intro hps1 hps2)
      obtain ⟨j, hj, hj2⟩ := and_mask_i64 p 2 (by decide)
      have hj1 : bits .and .i64 p 3 = (j : Int) := hj
      obtain ⟨nm, hnm⟩ := names4_at (show j < 4 from hj2)
      have j4 : j < 4 := hj2
      have hal := below_alloc (Below.refl w4.heap.size w4) (.cells names4 9)
      have hcj : (w4.alloc (.cells names4 9)).cell? ⟨w4.heap.size, j, none⟩ = some (.string nm) := by rw [blk_cell (blk_new w4 _)]; exact hnm
      unfold names4 at hal hcj
      replace HU := hd (HU.out.below hal)
      replace HB := hd (below_seq HB.out hal)
      have HAL := hd hal
      have f1 := pw_cell_below hal d1
      have f2 := pw_cell_below hal d2
      have f3 := pw_cell_below hal d3
      have f4 := pw_cell_below hal d4
      have f5 := pw_cell_below hal d5
      have f7 := pw_cell_below hal d7
      clear hj hj2 hnm s1 s2 hnw0 hnw1 hfl0 hfl1 hps1 hps2 hal
      go_upto_region 13 with (fail)
      clear d1 d2 d3 d4 d5 d7 f1 hj1 HAL q1 q2
      generalize w4.alloc (.cells #[.string ⟨#[97]⟩, .string ⟨#[98]⟩, .string ⟨#[]⟩, .string ⟨#[97, 32, 98]⟩] 9) = w5 at f2 f3 f4 f5 f7 HU HB hcj ⊢
      clear hcj
      refine upR_start Keeps.any [13] [(0, 1), (1, 1), (2, 1), (3, 1), (4, 1), (5, 1), (6, 1), (7, 1), (8, 1), (9, 1), (11, 1), (12, 1), (10, 0), (13, 0)] (by kernel_rfl) rfl (by kernel_rfl) (by kernel_rfl) ?_
      have g2 := Grow.cells (show w5.drew.cell? ⟨pb, 2, none⟩ = _ from f2)
      have g3 := Grow.cells (show w5.drew.cell? ⟨pb, 3, none⟩ = _ from f3)
      have g4 := Grow.cells (show w5.drew.cell? ⟨pb, 4, none⟩ = _ from f4)
      have g5 := Grow.cells (show w5.drew.cell? ⟨pb, 5, none⟩ = _ from f5)
      have g7 := Grow.cells (show w5.drew.cell? ⟨pb, 7, none⟩ = _ from f7)
      replace HU := hd (HU.out.below (below_drew (Below.refl _ _)))
      replace HB := hd (below_seq HB.out (below_drew (Below.refl _ _)))
      generalize w5.drew = w6 at g2 g3 g4 g5 g7 HU HB ⊢
      refine rseq_pure (i := 0) (N := some 53) (v := ?_) (a' := ?_) rfl rfl (by rfl) (fun _ _ _ h => h) ?_ ?_ ?_
      rotate_left 2
      · intro w' hg
        go_simp
        with_reducible rfl
      · simp only [Act.put, List.setIfInBounds_toArray, List.set_cons_zero, List.set_cons_succ, i64_w, i32_w]
        rfl
      refine rseq_pure (i := 1) (N := some 54) (v := ?_) (a' := ?_) rfl rfl (by rfl) (fun _ _ _ h => h) ?_ ?_ ?_
      rotate_left 2
      · intro w' hg
        go_simp
        with_reducible rfl
      · simp only [Act.put, List.setIfInBounds_toArray, List.set_cons_zero, List.set_cons_succ, i64_w, i32_w]
        rfl
      refine rseq_pure (i := 2) (N := some 55) (v := ?_) (a' := ?_) rfl rfl (by rfl) (fun _ _ _ h => h) ?_ ?_ ?_
      rotate_left 2
      · intro w' hg
        go_simp
        with_reducible rfl
      · simp only [Act.put, List.setIfInBounds_toArray, List.set_cons_zero, List.set_cons_succ, i64_w, i32_w]
        rfl
      refine rseq_pure (i := 3) (N := some 56) (v := ?_) (a' := ?_) rfl rfl (by rfl) (fun _ _ _ h => h) ?_ ?_ ?_
      rotate_left 2
      · intro w' hg
        go_simp
        with_reducible rfl
      · simp only [Act.put, List.setIfInBounds_toArray, List.set_cons_zero, List.set_cons_succ, i64_w, i32_w]
        rfl
      refine rseq_pure (i := 4) (N := some 57) (v := ?_) (a' := ?_) rfl rfl (by rfl) (fun _ _ _ h => h) ?_ ?_ ?_
      rotate_left 2
      · intro w' hg
        go_simp
        with_reducible rfl
      · simp only [Act.put, List.setIfInBounds_toArray, List.set_cons_zero, List.set_cons_succ, i64_w, i32_w]
        rfl
      refine rseq_pure (i := 5) (N := some 58) (v := ?_) (a' := ?_) rfl rfl (by rfl) (fun _ _ _ h => h) ?_ ?_ ?_
      rotate_left 2
      · intro w' hg
        go_simp
        with_reducible rfl
      · simp only [Act.put, List.setIfInBounds_toArray, List.set_cons_zero, List.set_cons_succ, i64_w, i32_w]
        rfl
      refine rseq_pure (i := 6) (N := some 59) (v := ?_) (a' := ?_) rfl rfl (by rfl) (fun _ _ _ h => h) ?_ ?_ ?_
      rotate_left 2
      · intro w' hg
        go_simp
        with_reducible rfl
      · simp only [Act.put, List.setIfInBounds_toArray, List.set_cons_zero, List.set_cons_succ, i64_w, i32_w]
        rfl
      refine rseq_pure (i := 7) (N := some 60) (v := ?_) (a' := ?_) rfl rfl (by rfl) (fun _ _ _ h => h) ?_ ?_ ?_
      rotate_left 2
      · intro w' hg
        go_simp
        with_reducible rfl
      · simp only [Act.put, List.setIfInBounds_toArray, List.set_cons_zero, List.set_cons_succ, i64_w, i32_w]
        rfl
      refine rseq_pure (i := 8) (N := some 61) (v := ?_) (a' := ?_) rfl rfl (by rfl) (fun _ _ _ h => h) ?_ ?_ ?_
      rotate_left 2
      · intro w' hg
        go_simp
        with_reducible rfl
      · simp only [Act.put, List.setIfInBounds_toArray, List.set_cons_zero, List.set_cons_succ, i64_w, i32_w]
        rfl
      refine rseq_pure (i := 9) (N := some 62) (v := ?_) (a' := ?_) rfl rfl (by rfl) (fun _ _ _ h => h) ?_ ?_ ?_
      rotate_left 2
      · intro w' hg
        go_simp
        with_reducible rfl
      · simp only [Act.put, List.setIfInBounds_toArray, List.set_cons_zero, List.set_cons_succ, i64_w, i32_w]
        rfl
      refine rseq_pure (i := 11) (N := some 64) (v := ?_) (a' := ?_) rfl rfl (by rfl) (fun _ _ _ h => h) ?_ ?_ ?_
      rotate_left 2
      · intro w' hg
        go_simp
        with_reducible rfl
      · simp only [Act.put, List.setIfInBounds_toArray, List.set_cons_zero, List.set_cons_succ, i64_w, i32_w]
        rfl
      refine rseq_pure (i := 12) (N := some 65) (v := ?_) (a' := ?_) rfl rfl (by rfl) (fun _ _ _ h => h) ?_ ?_ ?_
      rotate_left 2
      · intro w' hg
        go_simp
        with_reducible rfl
      · simp only [Act.put, List.setIfInBounds_toArray, List.set_cons_zero, List.set_cons_succ, i64_w, i32_w]
        rfl
      refine rseq_step rfl (fun K hK => ?_)
      refine op_makeB_step 63 (by rfl) _ _ (by rfl) (by rfl) n (by rfl) (by rfl) HN.out.1 ?_
      intro A7 c7 w7 ho7 hb7
      refine hK _ _ ⟨fun _ => hb7, trivial⟩ ?_
      clear hK K
      refine rseq_norm (a' := ?_) ?_ ?_
      rotate_left
      · show Act.put _ (some 63) _ = _
        simp only [Act.put, List.setIfInBounds_toArray, List.set_cons_zero, List.set_cons_succ, i64_w, i32_w]
        rfl
      replace HU := hd (HU.out.below hb7)
      replace HB := hd (below_seq HB.out hb7)
      have HO7 := hd ho7
      clear ho7 hb7 g2 g3 g4 g5 g7
      refine rseq_call (i := 13) (N := some 66) rfl rfl Try.func12 (by kernel_rfl) rfl #[.pointer (gp b), .string nm, .int .i64 m, .int .i64 pa, .int .i64 ps, .slice A7 n c7, .int .u64 (now : Int)] (by rfl) rfl ?_ ?_
      · simp only [List.map_toArray, List.map_cons, List.map_nil]
        rfl
      refine (add_any (peer := nm) (msg := m) (part := pa) (parts := ps) (now := now) (body := List.replicate n 0) HU.out (Nat.le_trans HU.out.bge (Nat.le_of_lt (blk_lt HU.out.box))) (fun wx hm => (by
        have h1 := Kd_mod HO7.out hm rfl HU.out.apart
        have h2 : OwnK .u8 5 _ wx (.slice A7 n c7) (List.replicate n 0) := h1
        exact ⟨h2.row.2.2, List.length_replicate .., by rw [h2.row.1]; exact h2.row.2.1, BytesOK.replicate (by decide)⟩)) hinv.out.ok HN.out.2 (Nat.lt_of_le_of_lt hl.out (by omega)) (hinv.out.few nm) HPM.out HAM.out (Nat.le_trans HN.out.1 (by decide)) HPS.out.1 HPS.out.2).mono ?_
      rintro e w8 ⟨g, q, hpo⟩
      have hi2 := addC_inv (G := G) (peer := nm) (msg := m) (part := pa) (parts := ps) (g := g) (q := q) hinv.out HU.out.ndg (BytesOK.replicate (n := 0) (m := n) (by decide)) HN.out.2
      obtain ⟨v8, vo, rfl, _, hbu8, hm8, hf8⟩ := hpo
      refine ⟨_, rfl, ⟨fun h => absurd (by decide) h, trivial⟩, ?_⟩
      generalize (addC (maxz P) (maxz A) G xs nm m pa ps (List.replicate n 0) now g q).1 = xs2 at hi2 hbu8 hf8
      have HINV := hd hi2.1
      have HL8 := hd (Nat.le_trans hi2.2 (Nat.succ_le_succ hl.out))
      have HLN8 := hd (show xs2.length ≤ 1000000 from Nat.le_trans (Nat.le_trans hi2.2 (Nat.succ_le_succ hl.out)) (by omega))
      have HBU8 := hd hbu8
      have HB8 := hd (HB.out.trans (hm8.toBelow (fun j hj => Nat.le_trans HS1.out (HU.out.typed hj).1) HB.out.size))
      clear hi2 hbu8 hm8 hf8 HO7
      refine rseq_norm (a' := ?_) ?_ ?_
      rotate_left
      · show Act.put _ (some 66) _ = _
        simp only [Act.put, List.setIfInBounds_toArray, List.set_cons_zero, List.set_cons_succ, i64_w, i32_w]
        rfl
      refine rseq_done ?_
      obtain ⟨hld, hhl⟩ : ∃ hld, Aside0 (sumB (mine_ nm) xs2 = hld) := ⟨_, ⟨rfl⟩⟩
      obtain ⟨tot, htt⟩ : ∃ tot, Aside0 (sumB (fun _ => true) xs2 = tot) := ⟨_, ⟨rfl⟩⟩
      have hle1 := HINV.out.held nm
      have hle2 := HINV.out.all
      have hle3 : sumB (mine_ nm) xs2 ≤ sumB (fun _ => true) xs2 := by
        have h1 := sumB_split (fun _ => true) (mine_ nm) xs2
        simp only [Bool.true_and] at h1
        have h2 : sumB (mine_ nm) xs2 = sumB (fun x => mine_ nm x) xs2 := rfl
        omega
      rw [hhl.out] at hle1 hle3
      rw [htt.out] at hle2 hle3
      have HH := hd (fun w' (hb : Below w8.heap.size w8 w') => held_calls (peer := nm) (HBU8.out.below hb) HINV.out.ok HLN8.out)
      have HT := hd (fun w' (hb : Below w8.heap.size w8 w') => total_calls (HBU8.out.below hb) HINV.out.ok HLN8.out)
      rw [hhl.out] at HH
      rw [htt.out] at HT
      have z1 : (hld : Int) ≤ maxz P := by omega
      have z2 : (tot : Int) ≤ maxz A := by omega
      have z3 : (hld : Int) ≤ tot := by omega
      have z4 : decide (tot < hld) = false := by simp; omega
      have z5 : P < 0 ∧ hld = 0 ∨ 0 ≤ P ∧ decide (P < (hld : Int)) = false := by
        unfold maxz at z1
        by_cases h : P < 0
        · exact Or.inl ⟨h, by omega⟩
        · exact Or.inr ⟨by omega, by simp; omega⟩
      have z6 : A < 0 ∧ tot = 0 ∨ 0 ≤ A ∧ decide (A < (tot : Int)) = false := by
        unfold maxz at z2
        by_cases h : A < 0
        · exact Or.inl ⟨h, by omega⟩
        · exact Or.inr ⟨by omega, by simp; omega⟩
      clear hle1 hle2 hle3 z1 z2 z3 f2 f3 f4 f5 f7
      rcases z5 with ⟨z7, rfl⟩ | ⟨z7, z8⟩ <;> rcases z6 with ⟨z9, rfl⟩ | ⟨z9, z10⟩
      all_goals
        go_wp2_with fail
        refine (HH.out _ (Below.refl _ _)).mono ?_
        rintro e w9 ⟨rfl, hb9⟩
        have HB9 := hd hb9
        clear hb9
        go_wp2_with fail
        refine (HT.out _ HB9.out).mono ?_
        rintro e w10 ⟨rfl, hb10⟩
        have HB10 := hd (below_seq HB9.out hb10)
        clear hb10
        go_wp2_with fail
        refine (HT.out _ HB10.out).mono ?_
        rintro e w11 ⟨rfl, hb11⟩
        have HB11 := hd (below_seq HB10.out hb11)
        clear hb11
        go_wp2_with fail
        refine (HH.out _ HB11.out).mono ?_
        rintro e w12 ⟨rfl, hb12⟩
        have HB12 := hd (below_seq HB11.out hb12)
        clear hb12
        go_wp2
        go_roundw
        case rel => exact ⟨i + 1, v8, xs2, by omega, by go_num, ⟨HL8.out⟩, ⟨HINV.out⟩, HBU8.out.below HB12.out, below_seq HB8.out HB12.out⟩
        case measure => simp [intOf]; omega
    · have HK := hd hlt
      have hend : ((i : Int) < n1 ∧ (i : Int) < 40) = False := by simp; omega
      clear hbu hb hend
      by_cases h1 : i < n1
      · have i1 : (i : Int) < n1 := by omega
        have i2 : ¬ ((i : Int) < 40) := by have := HK.out; omega
        have i3 : (40 : Int) ≤ i := by omega
        go_wp2_with fail
        refine (expire_none _ _).mono ?_
        rintro e w7 ⟨rfl, hb7⟩
        have HB7 := hd (below_seq HB.out hb7)
        go_wp2_with fail
        refine (drop_none _ _).mono ?_
        rintro e w8 ⟨rfl, hb8⟩
        have HB8 := hd (below_seq HB7.out hb8)
        clear hb7 hb8
        go_wp2_with fail
        refine (add_none _ _ _ _ _ _ _ _ _).mono ?_
        rintro e w9 ⟨rfl, hb9⟩
        have HB9 := hd (below_seq (below_seq HB8.out (below_alloc (Below.refl _ _) _)) hb9)
        clear hb9
        go_wp2_with fail
        refine (total_none _).mono ?_
        rintro e w' ⟨rfl, rfl⟩
        go_wp2_with fail
        refine (held_none _ _).mono ?_
        rintro e w10 ⟨rfl, hb10⟩
        go_wp2_with fail
        refine (count_none _).mono ?_
        rintro e w' ⟨rfl, rfl⟩
        go_wp2
        go_ret
        exact ⟨rfl, below_seq HB9.out hb10⟩
      · have i1 : (n1 : Int) ≤ i := by omega
        go_wp2_with fail
        refine (expire_none _ _).mono ?_
        rintro e w7 ⟨rfl, hb7⟩
        have HB7 := hd (below_seq HB.out hb7)
        go_wp2_with fail
        refine (drop_none _ _).mono ?_
        rintro e w8 ⟨rfl, hb8⟩
        have HB8 := hd (below_seq HB7.out hb8)
        clear hb7 hb8
        go_wp2_with fail
        refine (add_none _ _ _ _ _ _ _ _ _).mono ?_
        rintro e w9 ⟨rfl, hb9⟩
        have HB9 := hd (below_seq (below_seq HB8.out (below_alloc (Below.refl _ _) _)) hb9)
        clear hb9
        go_wp2_with fail
        refine (total_none _).mono ?_
        rintro e w' ⟨rfl, rfl⟩
        go_wp2_with fail
        refine (held_none _ _).mono ?_
        rintro e w10 ⟨rfl, hb10⟩
        go_wp2_with fail
        refine (count_none _).mono ?_
        rintro e w' ⟨rfl, rfl⟩
        go_wp2
        go_ret
        exact ⟨rfl, below_seq HB9.out hb10⟩
end Go.Proofs.Ytcmiajnndmaeiaa
