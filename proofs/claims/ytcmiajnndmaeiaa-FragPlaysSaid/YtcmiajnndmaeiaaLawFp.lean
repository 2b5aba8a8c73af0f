/- FragPlays: the walk. -/
import Derived.Test.YtcmiajnndmaeiaaFragPair
import Derived.Test.YtcmiajnndmaeiaaFragAwake
set_option linter.unusedVariables false
set_option linter.unusedSimpArgs false
namespace Go.Proofs.Ytcmiajnndmaeiaa
open Go.RowKit Go.Proofs.YtcmiajnndmaeiaaW.PrintWords Go.Proofs.YtcmiajnndmaeiaaW.PrintLast Go.Proofs.YtcmiajnndmaeiaaW.PrintMore
theorem mask7 (x : Int) : ∃ q : Nat, bits .and .i64 x 7 = q ∧ q < 8 := and_mask_i64 x 3 (by decide)
set_option maxHeartbeats 8000000 in
set_option maxRecDepth 100000 in
theorem fragPlays_walk (W : World) (P0 : Int) (hP : (Lit.int .i64 P0).wf = true) (A0 : Int) (hA : (Lit.int .i64 A0).wf = true) (G : Int) (hG : (Lit.int .u64 G).wf = true) {A1 : Option Addr} {n1 c1 : Nat} (hz : ActRow W A1 n1 c1) :
    Calls Try.prog 6 #[.int .i64 P0, .int .i64 A0, .int .u64 G, .slice A1 n1 c1] W fun e w' => e = .returned (.bool true) ∧ Below W.heap.size W w' := by
  have hG2 : ∃ G2 : Nat, G = G2 := by
    simp [Lit.wf, IntKind.min, IntKind.max, IntKind.signed, IntKind.bits] at hG
    exact ⟨G.toNat, by omega⟩
  obtain ⟨G, rfl⟩ := hG2
  have hp9 : P0 ≤ 9223372036854775807 := by simp [Lit.wf, IntKind.min, IntKind.max, IntKind.signed, IntKind.bits] at hP; omega
  have ha9 : A0 ≤ 9223372036854775807 := by simp [Lit.wf, IntKind.min, IntKind.max, IntKind.signed, IntKind.bits] at hA; omega
  obtain ⟨P, hPm⟩ : ∃ P, Aside0 (maxz P0 = P) := ⟨_, ⟨rfl⟩⟩
  obtain ⟨A, hAm⟩ : ∃ A, Aside0 (maxz A0 = A) := ⟨_, ⟨rfl⟩⟩
  have HPM := hd (show P ≤ 9223372036854775807 by rw [← hPm.out]; unfold maxz; omega)
  have HAM := hd (show A ≤ 9223372036854775807 by rw [← hAm.out]; unfold maxz; omega)
  have HZ := hd hz
  clear hP hA hG hz hp9 ha9
  go_enter Try.func6, Try.ntmps6
  go_wp2_with fail
  refine awake_calls.mono ?_
  rintro e w1 ⟨rfl, hb1⟩
  have HB1 := hd hb1
  clear hb1
  have HN := hd (new_calls (P := P0) (A := A0) (G := G) (w := w1))
  rw [hPm.out, hAm.out] at HN
  go_wp2_with fail
  refine HN.out.mono ?_
  rintro e w3 ⟨b, rfl, hbu, hb3⟩
  have HU := hd hbu
  have HBW := hd (below_seq HB1.out hb3)
  have HS1 := hd HB1.out.size
  have HRN := hd (refnew_calls (P := P0) (A := A0) (G := (G : Int)) (w := w3))
  rw [hPm.out, hAm.out] at HRN
  clear hbu hb3 HN
  go_wp2_with fail
  refine HRN.out.mono ?_
  rintro e w4 ⟨rfl, hb4⟩
  replace HU := hd (HU.out.below hb4)
  replace HBW := hd (below_seq HBW.out hb4)
  clear hb4 HRN
  have hal := below_alloc (Below.refl w4.heap.size w4) (.cells #[.int .i64 (P : Int), .int .i64 (A : Int), .int .u64 (G : Int), .slice none 0 0] 44)
  have hrx := blk_new w4 (.cells #[.int .i64 (P : Int), .int .i64 (A : Int), .int .u64 (G : Int), .slice none 0 0] 44)
  go_upto_region 7 with (fail)
  generalize w4.alloc (.cells #[.int .i64 (P : Int), .int .i64 (A : Int), .int .u64 (G : Int), .slice none 0 0] 44) = w5 at hal hrx ⊢
  have HRBW := hd HBW.out.size
  replace HU := hd (HU.out.below hal)
  replace HBW := hd (below_seq HBW.out hal)
  generalize w4.heap.size = rb at hrx HRBW ⊢
  have HPR := hd (show Pair w1.heap.size rb w5 b P A G (.slice none 0 0) [] none 0 0 (([] : List Cel).map Cel.e) from ⟨HU.out, RowR.nil _ _, hrx⟩)
  clear hal hrx HU
  unfold gp
  go_loopw [12] (fun u12 wr => ∃ (i : Nat) (v : Value) (xs : List Cel) (A9 : Option Addr) (n9 c9 : Nat), i ≤ 40 ∧ u12 = .int .i64 i ∧ Aside0 (xs.length ≤ i) ∧ Aside0 (InvC P A xs) ∧ Aside0 (Pair w1.heap.size rb wr b P A G v xs A9 n9 c9 (xs.map Cel.e)) ∧ Aside0 (Below W.heap.size W wr)) (fun u12 _ => 40 - (intOf u12).toNat)
  case atStart => exact ⟨0, .slice none 0 0, [], none, 0, 0, by decide, rfl, ⟨by simp⟩, ⟨InvC.nil _ _⟩, ⟨HPR.out⟩, ⟨HBW.out⟩⟩
  case round =>
    obtain ⟨i, v, xs, A9, n9, c9, hi, rfl, HL, HINV, HPA, HB⟩ := hrel
    have hi9 : (i : Int) ≤ 40 := by omega
    by_cases hlt : i < n1 ∧ i < 40
    · obtain ⟨h1, h2⟩ := hlt
      have i1 : (i : Int) < n1 := by omega
      have i2 : (i : Int) < 40 := by omega
      obtain ⟨ad, rfl, hc⟩ := (HZ.out.below HB.out).2.2 (by omega)
      have hnc : (n1 : Int) ≤ c1 := by have := HZ.out.1; omega
      obtain ⟨bb, oo, k, p, m, pa, ps, sz, fl, nw, hq, e0, e1, e2, e3, e4, e5, e6, e7, hps1, hps2, hnw0, hnw1, hfl0, hfl1⟩ := hc i h1
      clear hc
      go_upto_region 10 with (fail)
      have hal := below_alloc (Below.refl wr.heap.size wr) (.cells #[.int .i64 k, .int .i64 p, .int .i64 m, .int .i64 pa, .int .i64 ps, .int .i64 sz, .int .u8 fl, .int .u64 nw] 52)
      have hbk := blk_new wr (.cells #[.int .i64 k, .int .i64 p, .int .i64 m, .int .i64 pa, .int .i64 ps, .int .i64 sz, .int .u8 fl, .int .u64 nw] 52)
      replace HPA := hd (HPA.out.below hal)
      replace HB := hd (below_seq HB.out hal)
      generalize wr.alloc (.cells #[.int .i64 k, .int .i64 p, .int .i64 m, .int .i64 pa, .int .i64 ps, .int .i64 sz, .int .u8 fl, .int .u64 nw] 52) = w4 at hal hbk HPA HB ⊢
      generalize wr.heap.size = pb at hbk hal ⊢
      have HACT := hd hbk
      have d1 : w4.cell? ⟨pb, 1, none⟩ = some (.int .i64 p) := by rw [blk_cell hbk]; rfl
      clear hal hbk e0 e1 e2 e3 e4 e5 e6 e7 hq
      obtain ⟨now, rfl⟩ := Int.eq_ofNat_of_zero_le hnw0
      obtain ⟨fl, rfl⟩ := Int.eq_ofNat_of_zero_le hfl0
      have HNW := hd (show now < 2 ^ 64 ∧ fl < 256 by omega)
      have HPS := hd (And.intro hps1 hps2)
      obtain ⟨j, hj, hj2⟩ := and_mask_i64 p 2 (by decide)
      have hj1 : bits .and .i64 p 3 = (j : Int) := hj
      obtain ⟨nm, hnm⟩ := names4_at (show j < 4 from hj2)
      have j4 : j < 4 := hj2
      have hal := below_alloc (Below.refl w4.heap.size w4) (.cells names4 9)
      have hcj : (w4.alloc (.cells names4 9)).cell? ⟨w4.heap.size, j, none⟩ = some (.string nm) := by rw [blk_cell (blk_new w4 _)]; exact hnm
      unfold names4 at hal hcj
      replace HPA := hd (HPA.out.below hal)
      replace HB := hd (below_seq HB.out hal)
      replace HACT := hd (blk_below HACT.out hal)
      have HAL := hd hal
      have f1 := pw_cell_below hal d1
      clear hj hj2 hnm hnw0 hnw1 hfl0 hfl1 hps1 hps2 hal
      go_upto_region 11 with (fail)
      clear d1 f1 hj1 HAL
      generalize w4.alloc (.cells #[.string ⟨#[97]⟩, .string ⟨#[98]⟩, .string ⟨#[]⟩, .string ⟨#[97, 32, 98]⟩] 9) = w5 at HPA HB HACT hcj ⊢
      clear hcj
      have a0 : w5.cell? ⟨pb, 0, none⟩ = some (.int .i64 k) := by rw [blk_cell HACT.out]; rfl
      have a5 : w5.cell? ⟨pb, 5, none⟩ = some (.int .i64 sz) := by rw [blk_cell HACT.out]; rfl
      by_cases s1 : 2000 < sz
      · have q1 : decide ((2000 : Int) < sz) = true := by simp; exact s1
        go_wp2
        go_ret
        exact ⟨rfl, HB.out⟩
      have q1 : decide ((2000 : Int) < sz) = false := by simp; omega
      obtain ⟨j7, hj7, hj8⟩ := mask7 k
      have HLN := hd (show xs.length ≤ 1000000 by have := HL.out; omega)
      have HL9 := hd (show n9 = xs.length by have := HPA.out.row.len; rw [List.length_map] at this; exact this)
      have HS2 := hd (show sz ≤ 2000 by omega)
      clear s1
      have hjc : j7 = 0 ∨ j7 = 1 ∨ 2 ≤ j7 := by omega
      rcases hjc with rfl | rfl | hj2
      · have hj7z : bits .and .i64 k 7 = (0 : Int) := hj7
        have a7 : w5.cell? ⟨pb, 7, none⟩ = some (.int .u64 (now : Int)) := by rw [blk_cell HACT.out]; rfl
        go_wp2_with fail
        refine (expire_calls HPA.out.buf HNW.out.1 HLN.out).mono ?_
        rintro e wa ⟨rfl, vq, hv1, hbu1, hm1⟩
        have hmm := mod_cut (xs := xs) hm1
        have HPM := hd (HPA.out.mid hbu1 hmm (foot_cut hv1))
        have HAC := hd (hmm.block HACT.out (HPA.out.buf.foot_row HACT.out (by decide) (by decide) (by decide) (by decide)))
        have HBa := hd (HB.out.trans (hmm.toBelow (fun j hj => Nat.le_trans HS1.out (HPA.out.buf.typed hj).1) HB.out.size))
        clear hv1 hbu1 hm1 hmm a0 a5 a7
        obtain ⟨d0, d1, d2, d3, g0, g1, g2, g3⟩ := HPM.out.cells
        have a7 : wa.cell? ⟨pb, 7, none⟩ = some (.int .u64 (now : Int)) := by rw [blk_cell HAC.out]; rfl
        go_wp2_with fail
        refine (refexpire_calls (P := (P : Int)) (A := (A : Int)) HNW.out.1 HPM.out.row (by rw [HL9.out]; exact HLN.out)).mono ?_
        rintro e wb ⟨Aq, nq, cq, rfl, hr8, hb8⟩
        rw [filter_map_e] at hr8
        replace hr8 : RowR _ wb Aq nq cq ((xs.filter (fun x => !old_ G now x)).map Cel.e) := hr8
        have HPQ := hd (HPM.out.put hr8 hb8)
        have HBb := hd (below_seq HBa.out hb8)
        clear d0 d1 d2 d3 g0 g1 g2 g3 a7
        replace HPM := hd (HPM.out.below hb8)
        clear hr8 hb8 HBa
        obtain ⟨d0, d1, d2, d3, g0, g1, g2, g3⟩ := HPM.out.cells
        go_upto_region 34 with (fail)
        clear d0 d1 d2 d3 g0 g1 g2 g3 HAC
        have HLQ := hd (show (xs.filter (fun x => !old_ G now x)).length ≤ i + 1 from Nat.le_trans (List.length_filter_le _ _) (Nat.le_succ_of_le HL.out))
        have HINQ := hd (HINV.out.filter (fun x => !old_ G now x))
        have HBQ := hd (HBb.out.trans ((mod_set4 (w := wb) (g := rb) (.int .i64 (P : Int)) (.int .i64 (A : Int)) (.int .u64 (G : Int)) (.slice Aq nq cq)).toBelow (fun k hk => by rw [hk]; exact HRBW.out) HBb.out.size))
        clear HPM HBb HPA HB
        generalize ((((wb.setCell ⟨rb, 0, none⟩ (.int .i64 (P : Int))).setCell ⟨rb, 1, none⟩ (.int .i64 (A : Int))).setCell ⟨rb, 2, none⟩ (.int .u64 (G : Int))).setCell ⟨rb, 3, none⟩ (.slice Aq nq cq)) = wq at HPQ HBQ ⊢
        generalize (xs.filter (fun x => !old_ G now x)) = xq at HPQ HLQ HINQ
        obtain ⟨tt, htt⟩ : ∃ tt, Aside0 (sumB (fun _ => true) xq = tt) := ⟨_, ⟨rfl⟩⟩
        obtain ⟨hh, hhh⟩ : ∃ hh, Aside0 (sumB (mine_ nm) xq = hh) := ⟨_, ⟨rfl⟩⟩
        have HT1 := hd (show totT ((xq.map Cel.e).map s80) = tt by rw [totT_map, totE_map]; exact htt.out)
        have HH1 := hd (show heldT nm ((xq.map Cel.e).map s80) = hh by rw [heldT_map, heldE_map]; exact hhh.out)
        have HNQ := hd (show nq = xq.length by have := HPQ.out.row.len; rw [List.length_map] at this; exact this)
        have HLM := hd (show xq.length ≤ 1000000 by have := HLQ.out; omega)
        refine up_start [] [(0, true), (2, true), (1, false), (3, false), (4, true), (5, true), (6, true), (8, true), (9, true), (10, true), (7, false), (11, true), (12, true), (13, true), (14, true), (15, true), (17, true), (18, true), (16, false), (19, false), (20, true), (21, true)] (by kernel_rfl) rfl (by kernel_rfl) (by kernel_rfl) ?_
        replace HPQ := hd (HPQ.out.below (below_drew (Below.refl _ _)))
        replace HBQ := hd (below_drew HBQ.out)
        generalize wq.drew = w20 at HPQ HBQ ⊢
        obtain ⟨d0, d1, d2, d3, _⟩ := HPQ.out.cells
        have y0 := Grow.cells d0
        have y1 := Grow.cells d1
        have y2 := Grow.cells d2
        have y3 := Grow.cells d3
        clear d0 d1 d2 d3
        refine seq_pure (i := 0) (N := some 145) (v := ?_) (a' := ?_) rfl rfl (by rfl) (fun _ _ _ h => h) ?_ ?_ ?_
        rotate_left 2
        · intro w' hg
          go_simp
          with_reducible rfl
        · simp only [Act.put, List.setIfInBounds_toArray, List.set_cons_zero, List.set_cons_succ, i64_w, i32_w]
          rfl
        refine seq_pure (i := 2) (N := some 147) (v := ?_) (a' := ?_) rfl rfl (by rfl) (fun _ _ _ h => h) ?_ ?_ ?_
        rotate_left 2
        · intro w' hg
          go_simp
          with_reducible rfl
        · simp only [Act.put, List.setIfInBounds_toArray, List.set_cons_zero, List.set_cons_succ, i64_w, i32_w]
          rfl
        refine seq_call (i := 1) (N := some 146) rfl rfl Try.func16 (by kernel_rfl) rfl #[.pointer (some ⟨b, 0, none⟩)] (by rfl) rfl ?_ ?_
        · simp only [List.map_toArray, List.map_cons, List.map_nil]
          rfl
        refine (total_calls HPQ.out.buf HINQ.out.ok HLM.out).mono ?_
        rw [htt.out]
        rintro e w21 ⟨rfl, hb21⟩
        replace HPQ := hd (HPQ.out.below hb21)
        replace HBQ := hd (below_seq HBQ.out hb21)
        refine ⟨_, rfl, fun _ => hb21, ?_⟩
        clear hb21
        refine seq_norm (a' := ?_) ?_ ?_
        rotate_left
        · show Act.put _ (some 146) _ = _
          simp only [Act.put, List.setIfInBounds_toArray, List.set_cons_zero, List.set_cons_succ, i64_w, i32_w]
          rfl
        refine seq_call (i := 3) (N := some 148) rfl rfl Try.func17 (by kernel_rfl) rfl #[.agg #[.int .i64 (P : Int), .int .i64 (A : Int), .int .u64 (G : Int), .slice Aq nq cq]] (by rfl) rfl ?_ ?_
        · simp only [List.map_toArray, List.map_cons, List.map_nil]
          rfl
        refine (reftotal_calls HPQ.out.row.C (by rw [List.length_map]; exact HPQ.out.row.len) HPQ.out.row.cap (by rw [HNQ.out]; exact HLM.out) (RefOk.of HINQ.out.entok)).mono ?_
        rw [HT1.out]
        rintro e w22 ⟨rfl, hb22⟩
        clear y0 y1 y2 y3
        replace HPQ := hd (HPQ.out.below hb22)
        replace HBQ := hd (below_seq HBQ.out hb22)
        obtain ⟨d0, d1, d2, d3, _⟩ := HPQ.out.cells
        have y0 := Grow.cells d0
        have y1 := Grow.cells d1
        have y2 := Grow.cells d2
        have y3 := Grow.cells d3
        clear d0 d1 d2 d3
        refine ⟨_, rfl, fun _ => hb22, ?_⟩
        clear hb22
        refine seq_norm (a' := ?_) ?_ ?_
        rotate_left
        · show Act.put _ (some 148) _ = _
          simp only [Act.put, List.setIfInBounds_toArray, List.set_cons_zero, List.set_cons_succ, i64_w, i32_w]
          rfl
        refine seq_pure (i := 4) (N := some 149) (v := ?_) (a' := ?_) rfl rfl (by rfl) (fun _ _ _ h => h) ?_ ?_ ?_
        rotate_left 2
        · intro w' hg
          go_simp
          with_reducible rfl
        · simp only [Act.put, List.setIfInBounds_toArray, List.set_cons_zero, List.set_cons_succ, i64_w, i32_w]
          rfl
        refine seq_pure (i := 5) (N := some 150) (v := ?_) (a' := ?_) rfl rfl (by rfl) (fun _ _ _ h => h) ?_ ?_ ?_
        rotate_left 2
        · intro w' hg
          go_simp
          with_reducible rfl
        · simp only [Act.put, List.setIfInBounds_toArray, List.set_cons_zero, List.set_cons_succ, i64_w, i32_w]
          rfl
        refine seq_pure (i := 6) (N := some 151) (v := ?_) (a' := ?_) rfl rfl (by rfl) (fun _ _ _ h => h) ?_ ?_ ?_
        rotate_left 2
        · intro w' hg
          go_simp
          with_reducible rfl
        · simp only [Act.put, List.setIfInBounds_toArray, List.set_cons_zero, List.set_cons_succ, i64_w, i32_w]
          rfl
        refine seq_pure (i := 8) (N := some 153) (v := ?_) (a' := ?_) rfl rfl (by rfl) (fun _ _ _ h => h) ?_ ?_ ?_
        rotate_left 2
        · intro w' hg
          go_simp
          with_reducible rfl
        · simp only [Act.put, List.setIfInBounds_toArray, List.set_cons_zero, List.set_cons_succ, i64_w, i32_w]
          rfl
        refine seq_pure (i := 9) (N := some 154) (v := ?_) (a' := ?_) rfl rfl (by rfl) (fun _ _ _ h => h) ?_ ?_ ?_
        rotate_left 2
        · intro w' hg
          go_simp
          with_reducible rfl
        · simp only [Act.put, List.setIfInBounds_toArray, List.set_cons_zero, List.set_cons_succ, i64_w, i32_w]
          rfl
        refine seq_pure (i := 10) (N := some 155) (v := ?_) (a' := ?_) rfl rfl (by rfl) (fun _ _ _ h => h) ?_ ?_ ?_
        rotate_left 2
        · intro w' hg
          go_simp
          with_reducible rfl
        · simp only [Act.put, List.setIfInBounds_toArray, List.set_cons_zero, List.set_cons_succ, i64_w, i32_w]
          rfl
        refine seq_call (i := 7) (N := some 152) rfl rfl Try.func13 (by kernel_rfl) rfl #[.pointer (some ⟨b, 0, none⟩)] (by rfl) rfl ?_ ?_
        · simp only [List.map_toArray, List.map_cons, List.map_nil]
          rfl
        refine (count_calls HPQ.out.buf).mono ?_
        rw [← HNQ.out]
        rintro e w23 ⟨rfl, rfl⟩
        refine ⟨_, rfl, fun _ => Below.refl _ _, ?_⟩
        refine seq_norm (a' := ?_) ?_ ?_
        rotate_left
        · show Act.put _ (some 152) _ = _
          simp only [Act.put, List.setIfInBounds_toArray, List.set_cons_zero, List.set_cons_succ, i64_w, i32_w]
          rfl
        refine seq_pure (i := 11) (N := some 156) (v := ?_) (a' := ?_) rfl rfl (by rfl) (fun _ _ _ h => h) ?_ ?_ ?_
        rotate_left 2
        · intro w' hg
          go_simp
          with_reducible rfl
        · simp only [Act.put, List.setIfInBounds_toArray, List.set_cons_zero, List.set_cons_succ, i64_w, i32_w]
          rfl
        refine seq_pure (i := 12) (N := some 157) (v := ?_) (a' := ?_) rfl rfl (by rfl) (fun _ _ _ h => h) ?_ ?_ ?_
        rotate_left 2
        · intro w' hg
          go_simp
          with_reducible rfl
        · simp only [Act.put, List.setIfInBounds_toArray, List.set_cons_zero, List.set_cons_succ, i64_w, i32_w]
          rfl
        refine seq_pure (i := 13) (N := some 158) (v := ?_) (a' := ?_) rfl rfl (by rfl) (fun _ _ _ h => h) ?_ ?_ ?_
        rotate_left 2
        · intro w' hg
          go_simp
          with_reducible rfl
        · simp only [Act.put, List.setIfInBounds_toArray, List.set_cons_zero, List.set_cons_succ, i64_w, i32_w]
          rfl
        refine seq_pure (i := 14) (N := some 159) (v := ?_) (a' := ?_) rfl rfl (by rfl) (fun _ _ _ h => h) ?_ ?_ ?_
        rotate_left 2
        · intro w' hg
          go_simp
          with_reducible rfl
        · simp only [Act.put, List.setIfInBounds_toArray, List.set_cons_zero, List.set_cons_succ, i64_w, i32_w]
          rfl
        refine seq_pure (i := 15) (N := some 160) (v := ?_) (a' := ?_) rfl rfl (by rfl) (fun _ _ _ h => h) ?_ ?_ ?_
        rotate_left 2
        · intro w' hg
          go_simp
          with_reducible rfl
        · simp only [Act.put, List.setIfInBounds_toArray, List.set_cons_zero, List.set_cons_succ, i64_w, i32_w]
          rfl
        refine seq_pure (i := 17) (N := some 162) (v := ?_) (a' := ?_) rfl rfl (by rfl) (fun _ _ _ h => h) ?_ ?_ ?_
        rotate_left 2
        · intro w' hg
          go_simp
          with_reducible rfl
        · simp only [Act.put, List.setIfInBounds_toArray, List.set_cons_zero, List.set_cons_succ, i64_w, i32_w]
          rfl
        refine seq_pure (i := 18) (N := some 163) (v := ?_) (a' := ?_) rfl rfl (by rfl) (fun _ _ _ h => h) ?_ ?_ ?_
        rotate_left 2
        · intro w' hg
          go_simp
          with_reducible rfl
        · simp only [Act.put, List.setIfInBounds_toArray, List.set_cons_zero, List.set_cons_succ, i64_w, i32_w]
          rfl
        refine seq_call (i := 16) (N := some 161) rfl rfl Try.func22 (by kernel_rfl) rfl #[.pointer (some ⟨b, 0, none⟩), .string nm] (by rfl) rfl ?_ ?_
        · simp only [List.map_toArray, List.map_cons, List.map_nil]
          rfl
        refine (held_calls HPQ.out.buf HINQ.out.ok HLM.out).mono ?_
        rw [hhh.out]
        rintro e w24 ⟨rfl, hb24⟩
        replace HPQ := hd (HPQ.out.below hb24)
        replace HBQ := hd (below_seq HBQ.out hb24)
        refine ⟨_, rfl, fun _ => hb24, ?_⟩
        clear hb24
        refine seq_norm (a' := ?_) ?_ ?_
        rotate_left
        · show Act.put _ (some 161) _ = _
          simp only [Act.put, List.setIfInBounds_toArray, List.set_cons_zero, List.set_cons_succ, i64_w, i32_w]
          rfl
        refine seq_call (i := 19) (N := some 164) rfl rfl Try.func23 (by kernel_rfl) rfl #[.agg #[.int .i64 (P : Int), .int .i64 (A : Int), .int .u64 (G : Int), .slice Aq nq cq], .string nm] (by rfl) rfl ?_ ?_
        · simp only [List.map_toArray, List.map_cons, List.map_nil]
          rfl
        refine (refheld_calls HPQ.out.row.C (by rw [List.length_map]; exact HPQ.out.row.len) HPQ.out.row.cap (by rw [HNQ.out]; exact HLM.out) (RefOk.of HINQ.out.entok)).mono ?_
        rw [HH1.out]
        rintro e w25 ⟨rfl, hb25⟩
        replace HPQ := hd (HPQ.out.below hb25)
        replace HBQ := hd (below_seq HBQ.out hb25)
        refine ⟨_, rfl, fun _ => hb25, ?_⟩
        clear hb25
        refine seq_norm (a' := ?_) ?_ ?_
        rotate_left
        · show Act.put _ (some 164) _ = _
          simp only [Act.put, List.setIfInBounds_toArray, List.set_cons_zero, List.set_cons_succ, i64_w, i32_w]
          rfl
        refine seq_pure (i := 20) (N := some 165) (v := ?_) (a' := ?_) rfl rfl (by rfl) (fun _ _ _ h => h) ?_ ?_ ?_
        rotate_left 2
        · intro w' hg
          go_simp
          with_reducible rfl
        · simp only [Act.put, List.setIfInBounds_toArray, List.set_cons_zero, List.set_cons_succ, i64_w, i32_w]
          rfl
        refine seq_pure (i := 21) (N := some 166) (v := ?_) (a' := ?_) rfl rfl (by rfl) (fun _ _ _ h => h) ?_ ?_ ?_
        rotate_left 2
        · intro w' hg
          go_simp
          with_reducible rfl
        · simp only [Act.put, List.setIfInBounds_toArray, List.set_cons_zero, List.set_cons_succ, i64_w, i32_w]
          rfl
        refine seq_done ?_
        go_wp2
        go_roundw
        case rel => exact ⟨i + 1, vq, xq, Aq, nq, cq, by omega, by go_num, ⟨HLQ.out⟩, ⟨HINQ.out⟩, ⟨HPQ.out⟩, ⟨HBQ.out⟩⟩
        case measure => simp [intOf]; omega
      · have hj7z : bits .and .i64 k 7 = (1 : Int) := hj7
        skip
        go_wp2_with fail
        refine (drop_calls (peer := nm) HPA.out.buf HLN.out).mono ?_
        rintro e wa ⟨rfl, vq, hv1, hbu1, hm1⟩
        have hmm := mod_cut (xs := xs) hm1
        have HPM := hd (HPA.out.mid hbu1 hmm (foot_cut hv1))
        have HAC := hd (hmm.block HACT.out (HPA.out.buf.foot_row HACT.out (by decide) (by decide) (by decide) (by decide)))
        have HBa := hd (HB.out.trans (hmm.toBelow (fun j hj => Nat.le_trans HS1.out (HPA.out.buf.typed hj).1) HB.out.size))
        clear hv1 hbu1 hm1 hmm a0 a5 
        obtain ⟨d0, d1, d2, d3, g0, g1, g2, g3⟩ := HPM.out.cells
        skip
        go_wp2_with fail
        refine (refdrop_calls (P := (P : Int)) (A := (A : Int)) (G := G) (peer := nm) HPM.out.row (by rw [HL9.out]; exact HLN.out)).mono ?_
        rintro e wb ⟨Aq, nq, cq, rfl, hr8, hb8⟩
        rw [filter_map_e] at hr8
        replace hr8 : RowR _ wb Aq nq cq ((xs.filter (fun x => !mine_ nm x)).map Cel.e) := hr8
        have HPQ := hd (HPM.out.put hr8 hb8)
        have HBb := hd (below_seq HBa.out hb8)
        clear d0 d1 d2 d3 g0 g1 g2 g3 
        replace HPM := hd (HPM.out.below hb8)
        clear hr8 hb8 HBa
        obtain ⟨d0, d1, d2, d3, g0, g1, g2, g3⟩ := HPM.out.cells
        go_upto_region 34 with (fail)
        clear d0 d1 d2 d3 g0 g1 g2 g3 HAC
        have HLQ := hd (show (xs.filter (fun x => !mine_ nm x)).length ≤ i + 1 from Nat.le_trans (List.length_filter_le _ _) (Nat.le_succ_of_le HL.out))
        have HINQ := hd (HINV.out.filter (fun x => !mine_ nm x))
        have HBQ := hd (HBb.out.trans ((mod_set4 (w := wb) (g := rb) (.int .i64 (P : Int)) (.int .i64 (A : Int)) (.int .u64 (G : Int)) (.slice Aq nq cq)).toBelow (fun k hk => by rw [hk]; exact HRBW.out) HBb.out.size))
        clear HPM HBb HPA HB
        generalize ((((wb.setCell ⟨rb, 0, none⟩ (.int .i64 (P : Int))).setCell ⟨rb, 1, none⟩ (.int .i64 (A : Int))).setCell ⟨rb, 2, none⟩ (.int .u64 (G : Int))).setCell ⟨rb, 3, none⟩ (.slice Aq nq cq)) = wq at HPQ HBQ ⊢
        generalize (xs.filter (fun x => !mine_ nm x)) = xq at HPQ HLQ HINQ
        obtain ⟨tt, htt⟩ : ∃ tt, Aside0 (sumB (fun _ => true) xq = tt) := ⟨_, ⟨rfl⟩⟩
        obtain ⟨hh, hhh⟩ : ∃ hh, Aside0 (sumB (mine_ nm) xq = hh) := ⟨_, ⟨rfl⟩⟩
        have HT1 := hd (show totT ((xq.map Cel.e).map s80) = tt by rw [totT_map, totE_map]; exact htt.out)
        have HH1 := hd (show heldT nm ((xq.map Cel.e).map s80) = hh by rw [heldT_map, heldE_map]; exact hhh.out)
        have HNQ := hd (show nq = xq.length by have := HPQ.out.row.len; rw [List.length_map] at this; exact this)
        have HLM := hd (show xq.length ≤ 1000000 by have := HLQ.out; omega)
        refine up_start [] [(0, true), (2, true), (1, false), (3, false), (4, true), (5, true), (6, true), (8, true), (9, true), (10, true), (7, false), (11, true), (12, true), (13, true), (14, true), (15, true), (17, true), (18, true), (16, false), (19, false), (20, true), (21, true)] (by kernel_rfl) rfl (by kernel_rfl) (by kernel_rfl) ?_
        replace HPQ := hd (HPQ.out.below (below_drew (Below.refl _ _)))
        replace HBQ := hd (below_drew HBQ.out)
        generalize wq.drew = w20 at HPQ HBQ ⊢
        obtain ⟨d0, d1, d2, d3, _⟩ := HPQ.out.cells
        have y0 := Grow.cells d0
        have y1 := Grow.cells d1
        have y2 := Grow.cells d2
        have y3 := Grow.cells d3
        clear d0 d1 d2 d3
        refine seq_pure (i := 0) (N := some 145) (v := ?_) (a' := ?_) rfl rfl (by rfl) (fun _ _ _ h => h) ?_ ?_ ?_
        rotate_left 2
        · intro w' hg
          go_simp
          with_reducible rfl
        · simp only [Act.put, List.setIfInBounds_toArray, List.set_cons_zero, List.set_cons_succ, i64_w, i32_w]
          rfl
        refine seq_pure (i := 2) (N := some 147) (v := ?_) (a' := ?_) rfl rfl (by rfl) (fun _ _ _ h => h) ?_ ?_ ?_
        rotate_left 2
        · intro w' hg
          go_simp
          with_reducible rfl
        · simp only [Act.put, List.setIfInBounds_toArray, List.set_cons_zero, List.set_cons_succ, i64_w, i32_w]
          rfl
        refine seq_call (i := 1) (N := some 146) rfl rfl Try.func16 (by kernel_rfl) rfl #[.pointer (some ⟨b, 0, none⟩)] (by rfl) rfl ?_ ?_
        · simp only [List.map_toArray, List.map_cons, List.map_nil]
          rfl
        refine (total_calls HPQ.out.buf HINQ.out.ok HLM.out).mono ?_
        rw [htt.out]
        rintro e w21 ⟨rfl, hb21⟩
        replace HPQ := hd (HPQ.out.below hb21)
        replace HBQ := hd (below_seq HBQ.out hb21)
        refine ⟨_, rfl, fun _ => hb21, ?_⟩
        clear hb21
        refine seq_norm (a' := ?_) ?_ ?_
        rotate_left
        · show Act.put _ (some 146) _ = _
          simp only [Act.put, List.setIfInBounds_toArray, List.set_cons_zero, List.set_cons_succ, i64_w, i32_w]
          rfl
        refine seq_call (i := 3) (N := some 148) rfl rfl Try.func17 (by kernel_rfl) rfl #[.agg #[.int .i64 (P : Int), .int .i64 (A : Int), .int .u64 (G : Int), .slice Aq nq cq]] (by rfl) rfl ?_ ?_
        · simp only [List.map_toArray, List.map_cons, List.map_nil]
          rfl
        refine (reftotal_calls HPQ.out.row.C (by rw [List.length_map]; exact HPQ.out.row.len) HPQ.out.row.cap (by rw [HNQ.out]; exact HLM.out) (RefOk.of HINQ.out.entok)).mono ?_
        rw [HT1.out]
        rintro e w22 ⟨rfl, hb22⟩
        clear y0 y1 y2 y3
        replace HPQ := hd (HPQ.out.below hb22)
        replace HBQ := hd (below_seq HBQ.out hb22)
        obtain ⟨d0, d1, d2, d3, _⟩ := HPQ.out.cells
        have y0 := Grow.cells d0
        have y1 := Grow.cells d1
        have y2 := Grow.cells d2
        have y3 := Grow.cells d3
        clear d0 d1 d2 d3
        refine ⟨_, rfl, fun _ => hb22, ?_⟩
        clear hb22
        refine seq_norm (a' := ?_) ?_ ?_
        rotate_left
        · show Act.put _ (some 148) _ = _
          simp only [Act.put, List.setIfInBounds_toArray, List.set_cons_zero, List.set_cons_succ, i64_w, i32_w]
          rfl
        refine seq_pure (i := 4) (N := some 149) (v := ?_) (a' := ?_) rfl rfl (by rfl) (fun _ _ _ h => h) ?_ ?_ ?_
        rotate_left 2
        · intro w' hg
          go_simp
          with_reducible rfl
        · simp only [Act.put, List.setIfInBounds_toArray, List.set_cons_zero, List.set_cons_succ, i64_w, i32_w]
          rfl
        refine seq_pure (i := 5) (N := some 150) (v := ?_) (a' := ?_) rfl rfl (by rfl) (fun _ _ _ h => h) ?_ ?_ ?_
        rotate_left 2
        · intro w' hg
          go_simp
          with_reducible rfl
        · simp only [Act.put, List.setIfInBounds_toArray, List.set_cons_zero, List.set_cons_succ, i64_w, i32_w]
          rfl
        refine seq_pure (i := 6) (N := some 151) (v := ?_) (a' := ?_) rfl rfl (by rfl) (fun _ _ _ h => h) ?_ ?_ ?_
        rotate_left 2
        · intro w' hg
          go_simp
          with_reducible rfl
        · simp only [Act.put, List.setIfInBounds_toArray, List.set_cons_zero, List.set_cons_succ, i64_w, i32_w]
          rfl
        refine seq_pure (i := 8) (N := some 153) (v := ?_) (a' := ?_) rfl rfl (by rfl) (fun _ _ _ h => h) ?_ ?_ ?_
        rotate_left 2
        · intro w' hg
          go_simp
          with_reducible rfl
        · simp only [Act.put, List.setIfInBounds_toArray, List.set_cons_zero, List.set_cons_succ, i64_w, i32_w]
          rfl
        refine seq_pure (i := 9) (N := some 154) (v := ?_) (a' := ?_) rfl rfl (by rfl) (fun _ _ _ h => h) ?_ ?_ ?_
        rotate_left 2
        · intro w' hg
          go_simp
          with_reducible rfl
        · simp only [Act.put, List.setIfInBounds_toArray, List.set_cons_zero, List.set_cons_succ, i64_w, i32_w]
          rfl
        refine seq_pure (i := 10) (N := some 155) (v := ?_) (a' := ?_) rfl rfl (by rfl) (fun _ _ _ h => h) ?_ ?_ ?_
        rotate_left 2
        · intro w' hg
          go_simp
          with_reducible rfl
        · simp only [Act.put, List.setIfInBounds_toArray, List.set_cons_zero, List.set_cons_succ, i64_w, i32_w]
          rfl
        refine seq_call (i := 7) (N := some 152) rfl rfl Try.func13 (by kernel_rfl) rfl #[.pointer (some ⟨b, 0, none⟩)] (by rfl) rfl ?_ ?_
        · simp only [List.map_toArray, List.map_cons, List.map_nil]
          rfl
        refine (count_calls HPQ.out.buf).mono ?_
        rw [← HNQ.out]
        rintro e w23 ⟨rfl, rfl⟩
        refine ⟨_, rfl, fun _ => Below.refl _ _, ?_⟩
        refine seq_norm (a' := ?_) ?_ ?_
        rotate_left
        · show Act.put _ (some 152) _ = _
          simp only [Act.put, List.setIfInBounds_toArray, List.set_cons_zero, List.set_cons_succ, i64_w, i32_w]
          rfl
        refine seq_pure (i := 11) (N := some 156) (v := ?_) (a' := ?_) rfl rfl (by rfl) (fun _ _ _ h => h) ?_ ?_ ?_
        rotate_left 2
        · intro w' hg
          go_simp
          with_reducible rfl
        · simp only [Act.put, List.setIfInBounds_toArray, List.set_cons_zero, List.set_cons_succ, i64_w, i32_w]
          rfl
        refine seq_pure (i := 12) (N := some 157) (v := ?_) (a' := ?_) rfl rfl (by rfl) (fun _ _ _ h => h) ?_ ?_ ?_
        rotate_left 2
        · intro w' hg
          go_simp
          with_reducible rfl
        · simp only [Act.put, List.setIfInBounds_toArray, List.set_cons_zero, List.set_cons_succ, i64_w, i32_w]
          rfl
        refine seq_pure (i := 13) (N := some 158) (v := ?_) (a' := ?_) rfl rfl (by rfl) (fun _ _ _ h => h) ?_ ?_ ?_
        rotate_left 2
        · intro w' hg
          go_simp
          with_reducible rfl
        · simp only [Act.put, List.setIfInBounds_toArray, List.set_cons_zero, List.set_cons_succ, i64_w, i32_w]
          rfl
        refine seq_pure (i := 14) (N := some 159) (v := ?_) (a' := ?_) rfl rfl (by rfl) (fun _ _ _ h => h) ?_ ?_ ?_
        rotate_left 2
        · intro w' hg
          go_simp
          with_reducible rfl
        · simp only [Act.put, List.setIfInBounds_toArray, List.set_cons_zero, List.set_cons_succ, i64_w, i32_w]
          rfl
        refine seq_pure (i := 15) (N := some 160) (v := ?_) (a' := ?_) rfl rfl (by rfl) (fun _ _ _ h => h) ?_ ?_ ?_
        rotate_left 2
        · intro w' hg
          go_simp
          with_reducible rfl
        · simp only [Act.put, List.setIfInBounds_toArray, List.set_cons_zero, List.set_cons_succ, i64_w, i32_w]
          rfl
        refine seq_pure (i := 17) (N := some 162) (v := ?_) (a' := ?_) rfl rfl (by rfl) (fun _ _ _ h => h) ?_ ?_ ?_
        rotate_left 2
        · intro w' hg
          go_simp
          with_reducible rfl
        · simp only [Act.put, List.setIfInBounds_toArray, List.set_cons_zero, List.set_cons_succ, i64_w, i32_w]
          rfl
        refine seq_pure (i := 18) (N := some 163) (v := ?_) (a' := ?_) rfl rfl (by rfl) (fun _ _ _ h => h) ?_ ?_ ?_
        rotate_left 2
        · intro w' hg
          go_simp
          with_reducible rfl
        · simp only [Act.put, List.setIfInBounds_toArray, List.set_cons_zero, List.set_cons_succ, i64_w, i32_w]
          rfl
        refine seq_call (i := 16) (N := some 161) rfl rfl Try.func22 (by kernel_rfl) rfl #[.pointer (some ⟨b, 0, none⟩), .string nm] (by rfl) rfl ?_ ?_
        · simp only [List.map_toArray, List.map_cons, List.map_nil]
          rfl
        refine (held_calls HPQ.out.buf HINQ.out.ok HLM.out).mono ?_
        rw [hhh.out]
        rintro e w24 ⟨rfl, hb24⟩
        replace HPQ := hd (HPQ.out.below hb24)
        replace HBQ := hd (below_seq HBQ.out hb24)
        refine ⟨_, rfl, fun _ => hb24, ?_⟩
        clear hb24
        refine seq_norm (a' := ?_) ?_ ?_
        rotate_left
        · show Act.put _ (some 161) _ = _
          simp only [Act.put, List.setIfInBounds_toArray, List.set_cons_zero, List.set_cons_succ, i64_w, i32_w]
          rfl
        refine seq_call (i := 19) (N := some 164) rfl rfl Try.func23 (by kernel_rfl) rfl #[.agg #[.int .i64 (P : Int), .int .i64 (A : Int), .int .u64 (G : Int), .slice Aq nq cq], .string nm] (by rfl) rfl ?_ ?_
        · simp only [List.map_toArray, List.map_cons, List.map_nil]
          rfl
        refine (refheld_calls HPQ.out.row.C (by rw [List.length_map]; exact HPQ.out.row.len) HPQ.out.row.cap (by rw [HNQ.out]; exact HLM.out) (RefOk.of HINQ.out.entok)).mono ?_
        rw [HH1.out]
        rintro e w25 ⟨rfl, hb25⟩
        replace HPQ := hd (HPQ.out.below hb25)
        replace HBQ := hd (below_seq HBQ.out hb25)
        refine ⟨_, rfl, fun _ => hb25, ?_⟩
        clear hb25
        refine seq_norm (a' := ?_) ?_ ?_
        rotate_left
        · show Act.put _ (some 164) _ = _
          simp only [Act.put, List.setIfInBounds_toArray, List.set_cons_zero, List.set_cons_succ, i64_w, i32_w]
          rfl
        refine seq_pure (i := 20) (N := some 165) (v := ?_) (a' := ?_) rfl rfl (by rfl) (fun _ _ _ h => h) ?_ ?_ ?_
        rotate_left 2
        · intro w' hg
          go_simp
          with_reducible rfl
        · simp only [Act.put, List.setIfInBounds_toArray, List.set_cons_zero, List.set_cons_succ, i64_w, i32_w]
          rfl
        refine seq_pure (i := 21) (N := some 166) (v := ?_) (a' := ?_) rfl rfl (by rfl) (fun _ _ _ h => h) ?_ ?_ ?_
        rotate_left 2
        · intro w' hg
          go_simp
          with_reducible rfl
        · simp only [Act.put, List.setIfInBounds_toArray, List.set_cons_zero, List.set_cons_succ, i64_w, i32_w]
          rfl
        refine seq_done ?_
        go_wp2
        go_roundw
        case rel => exact ⟨i + 1, vq, xq, Aq, nq, cq, by omega, by go_num, ⟨HLQ.out⟩, ⟨HINQ.out⟩, ⟨HPQ.out⟩, ⟨HBQ.out⟩⟩
        case measure => simp [intOf]; omega
      · have q28 : ((j7 : Int) == 0) = false := by simp; omega
        have q31 : ((j7 : Int) == 1) = false := by simp; omega
        have HW5 := hd HB.out.size
        obtain ⟨n, hn⟩ : ∃ n, Aside0 (sz.toNat = n) := ⟨_, ⟨rfl⟩⟩
        have HN2 := hd (show (sz ≤ 0 ∧ n = 0) ∨ sz = n by have := hn.out; omega)
        have HNN := hd (show n ≤ 2000 by have := hn.out; have := HS2.out; omega)
        go_upto_region 16 with (fail)
        clear a0 a5 q1 q28 q31
        go_loopw [15, 16] (fun u15 u16 wr => ∃ kk : Nat, kk ≤ n ∧ u16 = .int .i64 kk ∧ Aside0 (OwnK .u8 5 w5.heap.size wr u15 (List.replicate kk fl)) ∧ Aside0 (Below w5.heap.size w5 wr)) (fun _ u16 _ => n - (intOf u16).toNat)
        case atStart => exact ⟨0, Nat.zero_le _, rfl, ⟨OwnK.nil _ _ _ _⟩, ⟨Below.refl _ _⟩⟩
        case round =>
          obtain ⟨kk, hkk, rfl, HO, HBO⟩ := hrel
          have HAC := hd (blk_below HACT.out HBO.out)
          have a5 : wr.cell? ⟨pb, 5, none⟩ = some (.int .i64 sz) := by rw [blk_cell HAC.out]; rfl
          by_cases hlk : kk < n
          · have k1 : (kk : Int) < sz := by have := HN2.out; omega
            have k1' : decide ((kk : Int) < sz) = true := by simp; exact k1
            have a6 : wr.cell? ⟨pb, 6, none⟩ = some (.int .u8 (fl : Int)) := by rw [blk_cell HAC.out]; rfl
            have k9 : (kk : Int) ≤ 2000 := by have := HNN.out; omega
            have HLR := hd (show ((List.replicate kk fl).length + 1) * 1 ≤ 140737488355328 by rw [List.length_replicate]; omega)
            go_wp2_with ((with_reducible refine gate_dst (N := 71) rfl ?_); at_builtin; refine op_append (k := .u8) (w0 := w5) 71 rfl w5.heap.size 5 22 (.tmp 67) (.tmp 70) rfl rfl Try.underlying22 Try.infoU8 (by decide) u15 (List.replicate kk fl) (fl : Int) fl rfl rfl rfl HO.out HBO.out HBO.out.size HLR.out ?_; intro v7 w7 ho7 hb7 hg7)
            go_roundw
            case rel => exact ⟨kk + 1, by omega, by go_num, ⟨by rw [List.replicate_succ']; exact ho7⟩, ⟨hb7⟩⟩
            case measure => simp [intOf]; omega
          · have k2 : decide ((kk : Int) < sz) = false := by have := HN2.out; simp; omega
            have k2' : ¬ ((kk : Int) < sz) := by have := HN2.out; omega
            obtain rfl : kk = n := by omega
            obtain ⟨BD, hBD⟩ : ∃ BD, Aside0 (List.replicate kk fl = BD) := ⟨_, ⟨rfl⟩⟩
            have HBDL := hd (show BD.length = kk ∧ BytesOK BD by rw [← hBD.out]; exact ⟨List.length_replicate .., BytesOK.replicate HNW.out.2⟩)
            have HOR := HO
            rw [hBD.out] at HOR
            obtain ⟨Ab, cb, hu15⟩ := Kd.R_slice HOR.out
            have hil : (ints BD).length = kk := by rw [ints_length, HBDL.out.1]
            rw [hil] at hu15
            subst hu15
            clear hil
            have HGA := hd (show ∃ ga, 0 < kk → Ab = some ⟨ga, 0, none⟩ ∧ w5.heap.size ≤ ga ∧ ga < wr.heap.size by
              by_cases h0 : 0 < kk
              · obtain ⟨ga, hga⟩ := HO.out.at_ h0
                exact ⟨ga, fun _ => hga⟩
              · exact ⟨0, fun h => absurd h h0⟩)
            obtain ⟨ga, hga⟩ := HGA.out
            replace HGA := hd hga
            clear hga
            have HP6 := hd (HPA.out.below (by have := HBO.out; exact this))
            have HB6 := hd (below_seq HB.out HBO.out)
            have HC6 := hd (HPA.out.buf.clear_lt.step (w1 := wr) (fun x hx => HBO.out.block x.q (HPA.out.buf.q_lt hx)))
            have HR6 := hd (HPA.out.row.bound.below HBO.out)
            have hsz6 := hd HBO.out.size
            have HADD := hd (add_anyC (peer := nm) (msg := m) (part := pa) (parts := ps) (now := now) (body := BD) (Ab := Ab) (n := kk) (c := cb) HP6.out.buf (Nat.le_trans HP6.out.buf.bge (Nat.le_of_lt (blk_lt HP6.out.buf.box))) (fun wx hm => (by
              have h1 := Kd_mod HOR.out hm rfl HP6.out.buf.apart
              have h2 : OwnK .u8 5 _ wx (.slice Ab kk cb) BD := h1
              exact ⟨h2.row.2.2, HBDL.out.1, by rw [h2.row.1]; exact h2.row.2.1, HBDL.out.2⟩)) HINV.out.ok HNW.out.1 (by have := HL.out; omega) (HINV.out.few nm) HPM.out HAM.out (Nat.le_trans HNN.out (by decide)) HPS.out.1 HPS.out.2)
            unfold gp at HADD
            have a2 : wr.cell? ⟨pb, 2, none⟩ = some (.int .i64 m) := by rw [blk_cell HAC.out]; rfl
            have a3 : wr.cell? ⟨pb, 3, none⟩ = some (.int .i64 pa) := by rw [blk_cell HAC.out]; rfl
            have a4 : wr.cell? ⟨pb, 4, none⟩ = some (.int .i64 ps) := by rw [blk_cell HAC.out]; rfl
            have a7 : wr.cell? ⟨pb, 7, none⟩ = some (.int .u64 (now : Int)) := by rw [blk_cell HAC.out]; rfl
            go_wp2_with fail
            refine HADD.out.mono ?_
            rintro e wa ⟨g, q, hg, hpo, hcl⟩
            have hinv2 := addC_inv (G := G) (peer := nm) (msg := m) (part := pa) (parts := ps) (body := BD) (now := now) (g := g) (q := q) HINV.out HP6.out.buf.ndg HBDL.out.2 HNW.out.1
            have hare2 := addR_is (P := P) (A := A) (G := G) (peer := nm) (msg := m) (part := pa) (parts := ps) (body := BD) (now := now) (g := g) (q := q) HINV.out.uniq HP6.out.buf.ndg (fresh_g HP6.out.buf hg)
            obtain ⟨vq, vo, rfl, hvo, hbu8, hm8, hf8⟩ := hpo
            generalize (addC P A G xs nm m pa ps BD now g q) = R3 at hinv2 hare2 hvo hbu8 hf8 hcl ⊢
            obtain ⟨xq, out3, k3⟩ := R3
            dsimp only at hinv2 hare2 hvo hbu8 hf8 hcl ⊢
            have HINQ := hd hinv2.1
            have HLQ := hd (show xq.length ≤ i + 1 from Nat.le_trans hinv2.2 (Nat.succ_le_succ HL.out))
            have HARE := hd hare2
            have HPMD := hd (HP6.out.mid hbu8 hm8 hf8)
            have HACa := hd (hm8.block HAC.out (HP6.out.buf.foot_row HAC.out (by decide) (by decide) (by decide) (by decide)))
            have HBa := hd (HB6.out.trans (hm8.toBelow (fun j hj => Nat.le_trans HS1.out (HP6.out.buf.typed hj).1) HB6.out.size))
            have HRa := hd (show RowR (fun k => (¬ Foot_ b vq xq k ∧ k ≠ rb) ∧ k < w5.heap.size) wa A9 n9 c9 (xs.map Cel.e) from (HR6.out.mod hm8 (fun k hk => hk.1.1)).mono (fun k hk => ⟨⟨fun h => by
              rcases hf8 k h with h1 | h1
              · exact hk.1.1 h1
              · have := hk.2; have := hsz6.out; omega, hk.1.2⟩, hk.2⟩))
            have HCLa := hd (fun (h0 : 0 < kk) => hcl (fun k => ¬ k = ga) (HC6.out.mono (fun k hk e => by have := (HGA.out h0).2.1; omega)) (fun k hk e => by have := (HGA.out h0).2.2; omega))
            have HOBa := hd (show OwnK .u8 5 w5.heap.size wa (.slice Ab kk cb) BD from Kd_mod HOR.out hm8 rfl HP6.out.buf.apart)
            obtain ⟨Ao, co, hvs⟩ := Kd.R_slice hvo
            subst hvs
            have hol : (ints out3).length = out3.length := ints_length _
            have HVOa := hvo
            rw [hol] at HVOa ⊢
            obtain ⟨no, hno⟩ : ∃ no, Aside0 (out3.length = no) := ⟨_, ⟨rfl⟩⟩
            rw [hno.out] at HVOa ⊢
            have HVO := hd HVOa
            have hsza := hd hm8.size
            clear hinv2 hare2 hvo HVOa hbu8 hm8 hf8 hcl hg hol a2 a3 a4 a5 a7 HADD HP6 HB6 HC6 HR6 k2 k2'
            have HBYa := hd (show Bytes wa Ab kk cb BD from ⟨HOBa.out.row.2.2, HBDL.out.1, by rw [HOBa.out.row.1]; exact HOBa.out.row.2.1, HBDL.out.2⟩)
            have HRA := hd (refadd_calls (P := P) (A := A) (G := G) (peer := nm) (msg := m) (part := pa) (parts := ps) (now := now) HRa.out (by rw [HL9.out]; have := HL.out; omega) HINV.out.entok HBYa.out (Nat.le_trans HNN.out (by decide)) HPS.out.1 HPS.out.2 HNW.out.1 HPM.out HAM.out)
            rw [HARE.out] at HRA
            obtain ⟨d0, d1, d2, d3, g0, g1, g2, g3⟩ := HPMD.out.cells
            have a2 : wa.cell? ⟨pb, 2, none⟩ = some (.int .i64 m) := by rw [blk_cell HACa.out]; rfl
            have a3 : wa.cell? ⟨pb, 3, none⟩ = some (.int .i64 pa) := by rw [blk_cell HACa.out]; rfl
            have a4 : wa.cell? ⟨pb, 4, none⟩ = some (.int .i64 ps) := by rw [blk_cell HACa.out]; rfl
            have a7 : wa.cell? ⟨pb, 7, none⟩ = some (.int .u64 (now : Int)) := by rw [blk_cell HACa.out]; rfl
            go_wp2_with fail
            refine HRA.out.mono ?_
            rintro e wb ⟨Aq, nq, cq, rfl, hr9, hb9⟩
            clear d0 d1 d2 d3 g0 g1 g2 g3 a2 a3 a4 a7 HRA HBYa
            dsimp only at hr9 ⊢
            have HB9 := hd hb9
            have HR9 := hd hr9
            clear hr9 hb9
            have hal := below_alloc (Below.refl wb.heap.size wb) (.cells #[.int .i64 (P : Int), .int .i64 (A : Int), .int .u64 (G : Int), .slice Aq nq cq] 44)
            have hrx := blk_new wb (.cells #[.int .i64 (P : Int), .int .i64 (A : Int), .int .u64 (G : Int), .slice Aq nq cq] 44)
            go_upto_region 21 with (fail)
            generalize wb.alloc (.cells #[.int .i64 (P : Int), .int .i64 (A : Int), .int .u64 (G : Int), .slice Aq nq cq] 44) = wc at hal hrx ⊢
            have HBC := hd (below_seq HB9.out hal)
            replace HR9 := hd (HR9.out.below hal)
            generalize wb.heap.size = o19 at hrx ⊢
            have HPMC := hd (HPMD.out.below HBC.out)
            have HBCW := hd (below_seq HBa.out HBC.out)
            have HOBC := hd (show OwnK .u8 5 w5.heap.size wc (.slice Ab kk cb) BD from Kd.R_below HOBa.out HBC.out)
            have HVOC := hd (show OwnK .u8 5 _ wc (.slice Ao no co) out3 from Kd.R_below HVO.out HBC.out)
            have HCLC := hd (fun (h0 : 0 < kk) => (HCLa.out h0).step (w1 := wc) (fun x hx => HBC.out.block x.q (HPMD.out.buf.q_lt hx)))
            have HRG := hd (fun (h0 : 0 < kk) => (show RowR (fun k => (¬ Foot_ b vq xq k ∧ k ≠ rb) ∧ k ≠ ga) wc Aq nq cq (xq.map Cel.e) from HR9.out.mono (fun k hk => by
              have h1 := HGA.out h0
              have h2 := hsza.out
              rcases hk with hk | hk
              · exact ⟨hk.1, by have := hk.2; omega⟩
              · exact ⟨⟨fun h => by have := (HPMD.out.buf.typed h).2.1; omega, by have := HPMD.out.lt; omega⟩, by omega⟩)))
            have HPQ := hd (HPMD.out.put (HR9.out.mono (fun k hk => hk.elim (fun h => Or.inl h.1) Or.inr)) HBC.out)
            obtain ⟨d0, d1, d2, d3, g0, g1, g2, g3⟩ := HPMC.out.cells
            have x0 : wc.cell? ⟨o19, 0, none⟩ = some (.int .i64 (P : Int)) := by rw [blk_cell hrx]; rfl
            have x1 : wc.cell? ⟨o19, 1, none⟩ = some (.int .i64 (A : Int)) := by rw [blk_cell hrx]; rfl
            have x2 : wc.cell? ⟨o19, 2, none⟩ = some (.int .u64 (G : Int)) := by rw [blk_cell hrx]; rfl
            have x3 : wc.cell? ⟨o19, 3, none⟩ = some (.slice Aq nq cq) := by rw [blk_cell hrx]; rfl
            go_upto_region 22 with (fail)
            clear d0 d1 d2 d3 g0 g1 g2 g3 x0 x1 x2 x3 hrx hal
            have hm4 := mod_set4 (w := wc) (g := rb) (.int .i64 (P : Int)) (.int .i64 (A : Int)) (.int .u64 (G : Int)) (.slice Aq nq cq)
            have hap : Apart 5 wc (fun k => k = rb) := fun k cells hc e => by
              rw [show k = rb from e] at hc
              exact absurd (heap_type hc HPMC.out.box) (by decide)
            have HOBQ := hd (show OwnK .u8 5 w5.heap.size _ (.slice Ab kk cb) BD from Kd_mod HOBC.out hm4 rfl hap)
            have HVOQ := hd (show OwnK .u8 5 _ _ (.slice Ao no co) out3 from Kd_mod HVOC.out hm4 rfl hap)
            have HCLQ := hd (fun (h0 : 0 < kk) => (HCLC.out h0).step (fun x hx => hm4.same x.q (HPMC.out.buf.q_lt hx) (fun e => HPMC.out.buf.foot_B HPMC.out.box (show Foot_ b vq xq rb from Or.inr (Or.inr ⟨x, hx, Or.inr e⟩)))))
            have HRGQ := hd (fun (h0 : 0 < kk) => (HRG.out h0).mod hm4 (fun k hk => hk.1.2))
            have HBQ := hd (HBCW.out.trans (hm4.toBelow (fun k hk => by rw [hk]; exact HRBW.out) HBCW.out.size))
            clear hm4 hap HOBC HVOC HCLC HRG HBCW HPMC HPMD HR9 HBC HB9 HOBa HVO HCLa HBa HACa HRa
            generalize ((((wc.setCell ⟨rb, 0, none⟩ (.int .i64 (P : Int))).setCell ⟨rb, 1, none⟩ (.int .i64 (A : Int))).setCell ⟨rb, 2, none⟩ (.int .u64 (G : Int))).setCell ⟨rb, 3, none⟩ (.slice Aq nq cq)) = wq at HPQ HBQ HOBQ HVOQ HCLQ HRGQ ⊢
            obtain ⟨so, hso⟩ : ∃ so, Aside0 (strOf out3 = so) := ⟨_, ⟨rfl⟩⟩
            rw [hso.out]
            have hcv : (convert 22 9 (.slice Ao no co)).run Try.prog wq = .ok (.string so) wq := by
              have h1 := RowK.str (P := Try.prog) (c := co) (HVOQ.out.row.2.2) Try.underlying22 Try.underlying5 Try.underlying9
              rw [hno.out, hso.out] at h1
              exact h1
            go_upto_region 25 with (fail)
            have HBF := hd (fun (h0 : 0 < kk) => (show BodyFrom ga kk fl 0 wq from by
              have h1 := (HGA.out h0).1
              have h2 := HOBQ.out
              rw [h1, ← hBD.out] at h2
              exact BodyFrom.of h2))
            have HCB := hd (HOBQ.out.row)
            have hkc : (kk : Int) ≤ cb := by have h1 := HOBQ.out.row.2.1; have h2 := HOBQ.out.row.1; omega
            have HFW := hd HNW.out.2
            have kk9 : (kk : Int) ≤ 2000 := by have := HNN.out; omega
            clear hcv HOBQ HVOQ
            go_loopw [22] (fun u22 wr => ∃ k : Nat, k ≤ kk ∧ u22 = .int .i64 k ∧ Aside0 (Pair w1.heap.size rb wr b P A G vq xq Aq nq cq (xq.map Cel.e)) ∧ Aside0 (0 < kk → BodyFrom ga kk fl k wr ∧ Clear (fun k => ¬ k = ga) wr xq ∧ RowR (fun k => (¬ Foot_ b vq xq k ∧ k ≠ rb) ∧ k ≠ ga) wr Aq nq cq (xq.map Cel.e)) ∧ Aside0 (Below W.heap.size W wr)) (fun u22 _ => kk - (intOf u22).toNat)
            case atStart => exact ⟨0, Nat.zero_le _, rfl, ⟨HPQ.out⟩, ⟨fun h0 => ⟨HBF.out h0, HCLQ.out h0, HRGQ.out h0⟩⟩, ⟨HBQ.out⟩⟩
            case round =>
              clear HPQ HBQ HBF HCLQ HRGQ
              obtain ⟨kx, hkx, rfl, HPQ, HXX, HBQ⟩ := hrel
              by_cases hlx : kx < kk
              · have x1 : (kx : Int) < kk := by omega
                have x1' : decide ((kx : Int) < (kk : Int)) = true := by simp; exact hlx
                have h0 : 0 < kk := by omega
                obtain ⟨hA1, hA2, hA3⟩ := HGA.out h0
                subst hA1
                obtain ⟨h1, h2, h3⟩ := HXX.out h0
                obtain ⟨b1, b2⟩ := h1.cell hlx
                obtain ⟨y, hy⟩ : ∃ y, Aside0 (fl ^^^ 255 = y) := ⟨_, ⟨rfl⟩⟩
                have fxor : bits .xor .u8 (fl : Int) 255 = (y : Int) := by rw [← hy.out]; exact xor_u8 HFW.out (by decide)
                have HX1 := hd h1
                have HX2 := hd h2
                have HX3 := hd h3
                have HA2 := hd hA2
                clear h1 h2 h3 HXX hA2 hA3
                go_wp2
                go_roundw
                case rel =>
                  obtain ⟨cs, hcs, _⟩ := HX1.out
                  have hmg : Mod (fun k => k = ga) wr (wr.setCell ⟨ga, kx, none⟩ (.int .u8 (y : Int))) := Mod.set (S := fun k => k = ga) wr rfl _
                  refine ⟨kx + 1, by omega, by go_num, ⟨HPQ.out.far hcs rfl HX2.out HX3.out _⟩, ⟨fun _ => ⟨HX1.out.put _, HX2.out.step (fun x hx => hmg.same x.q (HPQ.out.buf.q_lt hx) (fun e => ?_)), HX3.out.mod hmg (fun k hk => hk.2)⟩⟩, ⟨HBQ.out.setCell (p := ⟨ga, kx, none⟩) (by show W.heap.size ≤ ga; have := HA2.out; have := HW5.out; omega) _⟩⟩
                  obtain ⟨c, hc⟩ := (HPQ.out.buf.ents x hx).qblk
                  rw [show x.q = ga from e] at hc
                  exact absurd (heap_type hc hcs) (by decide)
                case measure => simp [intOf]; omega
              · have x1 : (kk : Int) ≤ kx := by omega
                have x1' : decide ((kx : Int) < (kk : Int)) = false := by simp; omega
                clear HXX
                go_upto_region 34 with (fail)
                obtain ⟨tt, htt⟩ : ∃ tt, Aside0 (sumB (fun _ => true) xq = tt) := ⟨_, ⟨rfl⟩⟩
                obtain ⟨hh, hhh⟩ : ∃ hh, Aside0 (sumB (mine_ nm) xq = hh) := ⟨_, ⟨rfl⟩⟩
                have HT1 := hd (show totT ((xq.map Cel.e).map s80) = tt by rw [totT_map, totE_map]; exact htt.out)
                have HH1 := hd (show heldT nm ((xq.map Cel.e).map s80) = hh by rw [heldT_map, heldE_map]; exact hhh.out)
                have HNQ := hd (show nq = xq.length by have := HPQ.out.row.len; rw [List.length_map] at this; exact this)
                have HLM := hd (show xq.length ≤ 1000000 by have := HLQ.out; omega)
                refine up_start [] [(0, true), (2, true), (1, false), (3, false), (4, true), (5, true), (6, true), (8, true), (9, true), (10, true), (7, false), (11, true), (12, true), (13, true), (14, true), (15, true), (17, true), (18, true), (16, false), (19, false), (20, true), (21, true)] (by kernel_rfl) rfl (by kernel_rfl) (by kernel_rfl) ?_
                replace HPQ := hd (HPQ.out.below (below_drew (Below.refl _ _)))
                replace HBQ := hd (below_drew HBQ.out)
                generalize wr.drew = w20 at HPQ HBQ ⊢
                obtain ⟨d0, d1, d2, d3, _⟩ := HPQ.out.cells
                have y0 := Grow.cells d0
                have y1 := Grow.cells d1
                have y2 := Grow.cells d2
                have y3 := Grow.cells d3
                clear d0 d1 d2 d3
                refine seq_pure (i := 0) (N := some 145) (v := ?_) (a' := ?_) rfl rfl (by rfl) (fun _ _ _ h => h) ?_ ?_ ?_
                rotate_left 2
                · intro w' hg
                  go_simp
                  with_reducible rfl
                · simp only [Act.put, List.setIfInBounds_toArray, List.set_cons_zero, List.set_cons_succ, i64_w, i32_w]
                  rfl
                refine seq_pure (i := 2) (N := some 147) (v := ?_) (a' := ?_) rfl rfl (by rfl) (fun _ _ _ h => h) ?_ ?_ ?_
                rotate_left 2
                · intro w' hg
                  go_simp
                  with_reducible rfl
                · simp only [Act.put, List.setIfInBounds_toArray, List.set_cons_zero, List.set_cons_succ, i64_w, i32_w]
                  rfl
                refine seq_call (i := 1) (N := some 146) rfl rfl Try.func16 (by kernel_rfl) rfl #[.pointer (some ⟨b, 0, none⟩)] (by rfl) rfl ?_ ?_
                · simp only [List.map_toArray, List.map_cons, List.map_nil]
                  rfl
                refine (total_calls HPQ.out.buf HINQ.out.ok HLM.out).mono ?_
                rw [htt.out]
                rintro e w21 ⟨rfl, hb21⟩
                replace HPQ := hd (HPQ.out.below hb21)
                replace HBQ := hd (below_seq HBQ.out hb21)
                refine ⟨_, rfl, fun _ => hb21, ?_⟩
                clear hb21
                refine seq_norm (a' := ?_) ?_ ?_
                rotate_left
                · show Act.put _ (some 146) _ = _
                  simp only [Act.put, List.setIfInBounds_toArray, List.set_cons_zero, List.set_cons_succ, i64_w, i32_w]
                  rfl
                refine seq_call (i := 3) (N := some 148) rfl rfl Try.func17 (by kernel_rfl) rfl #[.agg #[.int .i64 (P : Int), .int .i64 (A : Int), .int .u64 (G : Int), .slice Aq nq cq]] (by rfl) rfl ?_ ?_
                · simp only [List.map_toArray, List.map_cons, List.map_nil]
                  rfl
                refine (reftotal_calls HPQ.out.row.C (by rw [List.length_map]; exact HPQ.out.row.len) HPQ.out.row.cap (by rw [HNQ.out]; exact HLM.out) (RefOk.of HINQ.out.entok)).mono ?_
                rw [HT1.out]
                rintro e w22 ⟨rfl, hb22⟩
                clear y0 y1 y2 y3
                replace HPQ := hd (HPQ.out.below hb22)
                replace HBQ := hd (below_seq HBQ.out hb22)
                obtain ⟨d0, d1, d2, d3, _⟩ := HPQ.out.cells
                have y0 := Grow.cells d0
                have y1 := Grow.cells d1
                have y2 := Grow.cells d2
                have y3 := Grow.cells d3
                clear d0 d1 d2 d3
                refine ⟨_, rfl, fun _ => hb22, ?_⟩
                clear hb22
                refine seq_norm (a' := ?_) ?_ ?_
                rotate_left
                · show Act.put _ (some 148) _ = _
                  simp only [Act.put, List.setIfInBounds_toArray, List.set_cons_zero, List.set_cons_succ, i64_w, i32_w]
                  rfl
                refine seq_pure (i := 4) (N := some 149) (v := ?_) (a' := ?_) rfl rfl (by rfl) (fun _ _ _ h => h) ?_ ?_ ?_
                rotate_left 2
                · intro w' hg
                  go_simp
                  with_reducible rfl
                · simp only [Act.put, List.setIfInBounds_toArray, List.set_cons_zero, List.set_cons_succ, i64_w, i32_w]
                  rfl
                refine seq_pure (i := 5) (N := some 150) (v := ?_) (a' := ?_) rfl rfl (by rfl) (fun _ _ _ h => h) ?_ ?_ ?_
                rotate_left 2
                · intro w' hg
                  go_simp
                  with_reducible rfl
                · simp only [Act.put, List.setIfInBounds_toArray, List.set_cons_zero, List.set_cons_succ, i64_w, i32_w]
                  rfl
                refine seq_pure (i := 6) (N := some 151) (v := ?_) (a' := ?_) rfl rfl (by rfl) (fun _ _ _ h => h) ?_ ?_ ?_
                rotate_left 2
                · intro w' hg
                  go_simp
                  with_reducible rfl
                · simp only [Act.put, List.setIfInBounds_toArray, List.set_cons_zero, List.set_cons_succ, i64_w, i32_w]
                  rfl
                refine seq_pure (i := 8) (N := some 153) (v := ?_) (a' := ?_) rfl rfl (by rfl) (fun _ _ _ h => h) ?_ ?_ ?_
                rotate_left 2
                · intro w' hg
                  go_simp
                  with_reducible rfl
                · simp only [Act.put, List.setIfInBounds_toArray, List.set_cons_zero, List.set_cons_succ, i64_w, i32_w]
                  rfl
                refine seq_pure (i := 9) (N := some 154) (v := ?_) (a' := ?_) rfl rfl (by rfl) (fun _ _ _ h => h) ?_ ?_ ?_
                rotate_left 2
                · intro w' hg
                  go_simp
                  with_reducible rfl
                · simp only [Act.put, List.setIfInBounds_toArray, List.set_cons_zero, List.set_cons_succ, i64_w, i32_w]
                  rfl
                refine seq_pure (i := 10) (N := some 155) (v := ?_) (a' := ?_) rfl rfl (by rfl) (fun _ _ _ h => h) ?_ ?_ ?_
                rotate_left 2
                · intro w' hg
                  go_simp
                  with_reducible rfl
                · simp only [Act.put, List.setIfInBounds_toArray, List.set_cons_zero, List.set_cons_succ, i64_w, i32_w]
                  rfl
                refine seq_call (i := 7) (N := some 152) rfl rfl Try.func13 (by kernel_rfl) rfl #[.pointer (some ⟨b, 0, none⟩)] (by rfl) rfl ?_ ?_
                · simp only [List.map_toArray, List.map_cons, List.map_nil]
                  rfl
                refine (count_calls HPQ.out.buf).mono ?_
                rw [← HNQ.out]
                rintro e w23 ⟨rfl, rfl⟩
                refine ⟨_, rfl, fun _ => Below.refl _ _, ?_⟩
                refine seq_norm (a' := ?_) ?_ ?_
                rotate_left
                · show Act.put _ (some 152) _ = _
                  simp only [Act.put, List.setIfInBounds_toArray, List.set_cons_zero, List.set_cons_succ, i64_w, i32_w]
                  rfl
                refine seq_pure (i := 11) (N := some 156) (v := ?_) (a' := ?_) rfl rfl (by rfl) (fun _ _ _ h => h) ?_ ?_ ?_
                rotate_left 2
                · intro w' hg
                  go_simp
                  with_reducible rfl
                · simp only [Act.put, List.setIfInBounds_toArray, List.set_cons_zero, List.set_cons_succ, i64_w, i32_w]
                  rfl
                refine seq_pure (i := 12) (N := some 157) (v := ?_) (a' := ?_) rfl rfl (by rfl) (fun _ _ _ h => h) ?_ ?_ ?_
                rotate_left 2
                · intro w' hg
                  go_simp
                  with_reducible rfl
                · simp only [Act.put, List.setIfInBounds_toArray, List.set_cons_zero, List.set_cons_succ, i64_w, i32_w]
                  rfl
                refine seq_pure (i := 13) (N := some 158) (v := ?_) (a' := ?_) rfl rfl (by rfl) (fun _ _ _ h => h) ?_ ?_ ?_
                rotate_left 2
                · intro w' hg
                  go_simp
                  with_reducible rfl
                · simp only [Act.put, List.setIfInBounds_toArray, List.set_cons_zero, List.set_cons_succ, i64_w, i32_w]
                  rfl
                refine seq_pure (i := 14) (N := some 159) (v := ?_) (a' := ?_) rfl rfl (by rfl) (fun _ _ _ h => h) ?_ ?_ ?_
                rotate_left 2
                · intro w' hg
                  go_simp
                  with_reducible rfl
                · simp only [Act.put, List.setIfInBounds_toArray, List.set_cons_zero, List.set_cons_succ, i64_w, i32_w]
                  rfl
                refine seq_pure (i := 15) (N := some 160) (v := ?_) (a' := ?_) rfl rfl (by rfl) (fun _ _ _ h => h) ?_ ?_ ?_
                rotate_left 2
                · intro w' hg
                  go_simp
                  with_reducible rfl
                · simp only [Act.put, List.setIfInBounds_toArray, List.set_cons_zero, List.set_cons_succ, i64_w, i32_w]
                  rfl
                refine seq_pure (i := 17) (N := some 162) (v := ?_) (a' := ?_) rfl rfl (by rfl) (fun _ _ _ h => h) ?_ ?_ ?_
                rotate_left 2
                · intro w' hg
                  go_simp
                  with_reducible rfl
                · simp only [Act.put, List.setIfInBounds_toArray, List.set_cons_zero, List.set_cons_succ, i64_w, i32_w]
                  rfl
                refine seq_pure (i := 18) (N := some 163) (v := ?_) (a' := ?_) rfl rfl (by rfl) (fun _ _ _ h => h) ?_ ?_ ?_
                rotate_left 2
                · intro w' hg
                  go_simp
                  with_reducible rfl
                · simp only [Act.put, List.setIfInBounds_toArray, List.set_cons_zero, List.set_cons_succ, i64_w, i32_w]
                  rfl
                refine seq_call (i := 16) (N := some 161) rfl rfl Try.func22 (by kernel_rfl) rfl #[.pointer (some ⟨b, 0, none⟩), .string nm] (by rfl) rfl ?_ ?_
                · simp only [List.map_toArray, List.map_cons, List.map_nil]
                  rfl
                refine (held_calls HPQ.out.buf HINQ.out.ok HLM.out).mono ?_
                rw [hhh.out]
                rintro e w24 ⟨rfl, hb24⟩
                replace HPQ := hd (HPQ.out.below hb24)
                replace HBQ := hd (below_seq HBQ.out hb24)
                refine ⟨_, rfl, fun _ => hb24, ?_⟩
                clear hb24
                refine seq_norm (a' := ?_) ?_ ?_
                rotate_left
                · show Act.put _ (some 161) _ = _
                  simp only [Act.put, List.setIfInBounds_toArray, List.set_cons_zero, List.set_cons_succ, i64_w, i32_w]
                  rfl
                refine seq_call (i := 19) (N := some 164) rfl rfl Try.func23 (by kernel_rfl) rfl #[.agg #[.int .i64 (P : Int), .int .i64 (A : Int), .int .u64 (G : Int), .slice Aq nq cq], .string nm] (by rfl) rfl ?_ ?_
                · simp only [List.map_toArray, List.map_cons, List.map_nil]
                  rfl
                refine (refheld_calls HPQ.out.row.C (by rw [List.length_map]; exact HPQ.out.row.len) HPQ.out.row.cap (by rw [HNQ.out]; exact HLM.out) (RefOk.of HINQ.out.entok)).mono ?_
                rw [HH1.out]
                rintro e w25 ⟨rfl, hb25⟩
                replace HPQ := hd (HPQ.out.below hb25)
                replace HBQ := hd (below_seq HBQ.out hb25)
                refine ⟨_, rfl, fun _ => hb25, ?_⟩
                clear hb25
                refine seq_norm (a' := ?_) ?_ ?_
                rotate_left
                · show Act.put _ (some 164) _ = _
                  simp only [Act.put, List.setIfInBounds_toArray, List.set_cons_zero, List.set_cons_succ, i64_w, i32_w]
                  rfl
                refine seq_pure (i := 20) (N := some 165) (v := ?_) (a' := ?_) rfl rfl (by rfl) (fun _ _ _ h => h) ?_ ?_ ?_
                rotate_left 2
                · intro w' hg
                  go_simp
                  with_reducible rfl
                · simp only [Act.put, List.setIfInBounds_toArray, List.set_cons_zero, List.set_cons_succ, i64_w, i32_w]
                  rfl
                refine seq_pure (i := 21) (N := some 166) (v := ?_) (a' := ?_) rfl rfl (by rfl) (fun _ _ _ h => h) ?_ ?_ ?_
                rotate_left 2
                · intro w' hg
                  go_simp
                  with_reducible rfl
                · simp only [Act.put, List.setIfInBounds_toArray, List.set_cons_zero, List.set_cons_succ, i64_w, i32_w]
                  rfl
                refine seq_done ?_
                go_wp2
                go_roundw
                case rel => exact ⟨i + 1, vq, xq, Aq, nq, cq, by omega, by go_num, ⟨HLQ.out⟩, ⟨HINQ.out⟩, ⟨HPQ.out⟩, ⟨HBQ.out⟩⟩
                case measure => simp [intOf]; omega
    · have HK := hd hlt
      by_cases h1 : i < n1
      · have i1 : (i : Int) < n1 := by omega
        have i2 : ¬ ((i : Int) < 40) := by have := HK.out; omega
        have i3 : (40 : Int) ≤ i := by omega
        clear hlt
        go_wp2
        go_ret
        exact ⟨rfl, HB.out⟩
      · have i1 : (n1 : Int) ≤ i := by omega
        clear hlt
        go_wp2
        go_ret
        exact ⟨rfl, HB.out⟩
end Go.Proofs.Ytcmiajnndmaeiaa
