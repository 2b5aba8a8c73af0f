/- FragAges: the walk. -/
import Derived.Test.YtcmiajnndmaeiaaFragBoth
import Derived.Test.YtcmiajnndmaeiaaFragAwake
import Derived.Deep.DeepCutAuto
set_option linter.unusedVariables false
set_option linter.unusedSimpArgs false
namespace Go.Proofs.Ytcmiajnndmaeiaa
open Go.RowKit Go.Proofs.YtcmiajnndmaeiaaW.PrintWords Go.Proofs.YtcmiajnndmaeiaaW.PrintLast Go.Proofs.YtcmiajnndmaeiaaW.PrintMore
theorem cast_9000 : ((9000 : Nat) : Int) = 9000 := rfl
theorem max_9000 : maxz 9000 = 9000 := rfl
set_option maxHeartbeats 4000000 in
set_option maxRecDepth 100000 in
theorem fragAges_walk (W : World) (G : Int) (hG : (Lit.int .u64 G).wf = true) (T1 : Int) (hT1 : (Lit.int .u64 T1).wf = true) (T2 : Int) (hT2 : (Lit.int .u64 T2).wf = true) (n : Int) (hn : (Lit.int .i64 n).wf = true) :
    Calls Try.prog 5 #[.int .u64 G, .int .u64 T1, .int .u64 T2, .int .i64 n] W fun e w' => e = .returned (.bool true) ∧ Below W.heap.size W w' := by
  obtain ⟨G, rfl⟩ : ∃ G2 : Nat, G = G2 := by
    simp [Lit.wf, IntKind.min, IntKind.max, IntKind.signed, IntKind.bits] at hG
    exact ⟨G.toNat, by omega⟩
  have hT1' : 0 ≤ T1 ∧ T1 < 18446744073709551616 := by
    simp [Lit.wf, IntKind.min, IntKind.max, IntKind.signed, IntKind.bits] at hT1
    omega
  have hT2' : 0 ≤ T2 ∧ T2 < 18446744073709551616 := by
    simp [Lit.wf, IntKind.min, IntKind.max, IntKind.signed, IntKind.bits] at hT2
    omega
  obtain ⟨t1, rfl⟩ := Int.eq_ofNat_of_zero_le hT1'.1
  obtain ⟨t2, rfl⟩ := Int.eq_ofNat_of_zero_le hT2'.1
  have HT := hd (show t1 < 2 ^ 64 ∧ t2 < 2 ^ 64 by omega)
  obtain ⟨j, hj, hj2⟩ := and_mask_i64 n 9 (by decide)
  have hj1 : bits .and .i64 n 511 = (j : Int) := hj
  obtain ⟨m, hm⟩ : ∃ m, Aside0 (m = 1 + j) := ⟨_, ⟨rfl⟩⟩
  have hmj := hm.out
  have hw : wrap64 (1 + (j : Int)) = (m : Int) := by rw [IntWalk.wrap64_in _ ⟨by omega, by omega⟩]; omega
  have HM := hd (show 1 ≤ m ∧ m ≤ 1024 by have : j < 512 := hj2; omega)
  clear hG hT1 hT2 hT1' hT2' hn hj hj2 hmj
  go_enter Try.func5, Try.ntmps5
  go_wp2_with fail
  refine awake_calls.mono ?_
  rintro e w1 ⟨rfl, hb1⟩
  have HN := hd (new_calls (P := 9000) (A := 9000) (G := G) (w := w1))
  rw [max_9000] at HN
  have HBW := hd hb1
  have HS1 := hd hb1.size
  clear hb1
  go_wp2_with fail
  refine HN.out.mono ?_
  rintro e w3 ⟨b, rfl, hbu, hb3⟩
  have HRN := hd (refnew_calls (P := 9000) (A := 9000) (G := (G : Int)) (w := w3))
  rw [max_9000] at HRN
  have HU := hd hbu
  replace HBW := hd (below_seq HBW.out hb3)
  clear hbu hb3 HN
  go_wp2_with fail
  refine HRN.out.mono ?_
  rintro e w4 ⟨rfl, hb4⟩
  replace HU := hd (HU.out.below hb4)
  replace HBW := hd (below_seq HBW.out hb4)
  have HBW0 := hd HBW.out.size
  clear hb4 HRN
  go_upto_region 6 with (fail)
  have hal := below_alloc (Below.refl w4.heap.size w4) (.cells #[.int .i64 9000, .int .i64 9000, .int .u64 (G : Int), .slice none 0 0] 44)
  have hrx := blk_new w4 (.cells #[.int .i64 9000, .int .i64 9000, .int .u64 (G : Int), .slice none 0 0] 44)
  generalize w4.alloc (.cells #[.int .i64 9000, .int .i64 9000, .int .u64 (G : Int), .slice none 0 0] 44) = w5 at hal hrx ⊢
  replace HU := hd (HU.out.below hal)
  replace HBW := hd (below_seq HBW.out hal)
  have HRBW := hd (show W.heap.size ≤ w4.heap.size from HBW0.out)
  generalize w4.heap.size = rb at hrx HRBW ⊢
  have HRX := hd hrx
  clear hal hrx
  go_upto_region 7 with ((with_reducible refine gate_dst (N := 26) rfl ?_); refine op_make 26 rfl 5 22 _ _ rfl rfl 1024 rfl rfl Try.underlying22 Try.infoU8 (by decide) 1024 rfl (by decide) ?_; intro Ad cd w6 hcd ho6 hb6)
  replace HU := hd (HU.out.below hb6)
  replace HBW := hd (below_seq HBW.out hb6)
  replace HRX := hd (blk_below HRX.out hb6)
  obtain ⟨Z, hZ⟩ : ∃ Z : List Nat, Aside0 (List.replicate 1024 0 = Z) := ⟨_, ⟨rfl⟩⟩
  have HZ := hd (show Z.length = 1024 ∧ BytesOK Z by rw [← hZ.out]; exact ⟨List.length_replicate .., BytesOK.replicate (by decide)⟩)
  rw [hZ.out] at ho6
  obtain ⟨ga, hga, _, _⟩ := ho6.at_ (by decide)
  subst hga
  have HO6 := hd ho6
  clear ho6 hb6
  have HADD := hd (add_anyF (peer := pS) (msg := 1) (part := 0) (parts := 2) (now := t1) (body := Z) (Ab := some ⟨ga, 0, none⟩) (n := 1024) (c := cd) HU.out (Nat.le_trans HU.out.bge (Nat.le_of_lt (blk_lt HU.out.box))) (fun wx hm => (by
    have h1 := Kd_mod HO6.out hm rfl HU.out.apart
    have h2 : OwnK .u8 5 _ wx (.slice (some ⟨ga, 0, none⟩) 1024 cd) Z := h1
    exact ⟨h2.row.2.2, HZ.out.1, by rw [h2.row.1]; exact h2.row.2.1, HZ.out.2⟩)) (fun x hx => by simp at hx) HT.out.1 (by decide) (by decide) (by decide) (by decide) (by decide) (by decide) (by decide))
  unfold gp at HADD ⊢
  go_wp2_with fail
  refine HADD.out.mono ?_
  rintro e w8 ⟨g, q, hg, hpo⟩
  have hinv := (addC_inv (G := G) (peer := pS) (msg := 1) (part := 0) (parts := 2) (g := g) (q := q) (InvC.nil 9000 9000) HU.out.ndg HZ.out.2 HT.out.1)
  have hare := addR_is (P := 9000) (A := 9000) (G := G) (peer := pS) (msg := 1) (part := 0) (parts := 2) (body := Z) (now := t1) (g := g) (q := q) (InvC.nil 9000 9000).uniq HU.out.ndg (by simp)
  obtain ⟨v8, vo, rfl, _, hbu8, hm8, hf8⟩ := hpo
  generalize (addC 9000 9000 G [] pS 1 0 2 Z t1 g q).2.2 = k8
  generalize (addC 9000 9000 G [] pS 1 0 2 Z t1 g q).1 = xs2 at hinv hbu8 hf8 hare
  obtain ⟨es2, hes2⟩ : ∃ es2, Aside0 (xs2.map Cel.e = es2) := ⟨_, ⟨rfl⟩⟩
  have HARE := hd (show (addR 9000 9000 G [] pS 1 0 2 Z t1).1 = es2 by rw [← hes2.out]; exact congrArg Prod.fst hare)
  have HINV := hd hinv.1
  have HLN := hd hinv.2
  have HO8 := hd (show OwnK .u8 5 w5.heap.size w8 (.slice (some ⟨ga, 0, none⟩) 1024 cd) Z from Kd_mod HO6.out hm8 rfl HU.out.apart)
  have HRX8 := hd (hm8.block HRX.out (HU.out.foot_B HRX.out))
  have HB8 := hd (HBW.out.trans (hm8.toBelow (fun j hj => Nat.le_trans HS1.out (HU.out.typed hj).1) HBW.out.size))
  have HRW8 := hd (RowR.nil (fun k => ¬ Foot_ b v8 xs2 k ∧ k ≠ rb) w8)
  have HU8 := hd hbu8
  clear hare hinv hbu8 hm8 hf8 HADD HU HRX HO6 HBW hg
  have HBY8 := hd (show Bytes w8 (some ⟨ga, 0, none⟩) 1024 cd Z from ⟨HO8.out.row.2.2, HZ.out.1, by rw [HO8.out.row.1]; exact HO8.out.row.2.1, HZ.out.2⟩)
  have HRA := hd (refadd_calls (P := 9000) (A := 9000) (G := G) (peer := pS) (msg := 1) (part := 0) (parts := 2) (now := t1) HRW8.out (by decide) (fun e he => by simp at he) HBY8.out (by decide) (by decide) (by decide) HT.out.1 (by decide) (by decide))
  rw [cast_9000] at HRA
  have HRB := hd (blk_lt HRX8.out)
  have d0 : w8.cell? ⟨rb, 0, none⟩ = some (.int .i64 9000) := by rw [blk_cell HRX8.out]; rfl
  have d1 : w8.cell? ⟨rb, 1, none⟩ = some (.int .i64 9000) := by rw [blk_cell HRX8.out]; rfl
  have d2 : w8.cell? ⟨rb, 2, none⟩ = some (.int .u64 (G : Int)) := by rw [blk_cell HRX8.out]; rfl
  have d3 : w8.cell? ⟨rb, 3, none⟩ = some (.slice none 0 0) := by rw [blk_cell HRX8.out]; rfl
  go_wp2_with fail
  refine HRA.out.mono ?_
  rintro e w9 ⟨A9, n9, c9, rfl, hr9, hb9⟩
  rw [HARE.out] at hr9
  have HR9 := hd (row_end HU8.out HRB.out hr9)
  replace HU8 := hd (HU8.out.below hb9)
  replace HRX8 := hd (blk_below HRX8.out hb9)
  replace HO8 := hd (show OwnK .u8 5 w5.heap.size w9 (.slice (some ⟨ga, 0, none⟩) 1024 cd) Z from Kd.R_below HO8.out hb9)
  replace HB8 := hd (below_seq HB8.out hb9)
  clear d0 d1 d2 d3 HRA HRW8 hr9 hb9 HBY8
  obtain ⟨s9, hs9⟩ : ∃ s9, Aside0 (strOf (addR 9000 9000 G [] pS 1 0 2 Z t1).2.1 = s9) := ⟨_, ⟨rfl⟩⟩
  rw [hs9.out]
  obtain ⟨k9, hk9⟩ : ∃ k9 : Int, Aside0 (((addR 9000 9000 G [] pS 1 0 2 Z t1).2.2 : Int) = k9) := ⟨_, ⟨rfl⟩⟩
  rw [hk9.out]
  have d0 : w9.cell? ⟨rb, 0, none⟩ = some (.int .i64 9000) := by rw [blk_cell HRX8.out]; rfl
  have d1 : w9.cell? ⟨rb, 1, none⟩ = some (.int .i64 9000) := by rw [blk_cell HRX8.out]; rfl
  have d2 : w9.cell? ⟨rb, 2, none⟩ = some (.int .u64 (G : Int)) := by rw [blk_cell HRX8.out]; rfl
  have d3 : w9.cell? ⟨rb, 3, none⟩ = some (.slice none 0 0) := by rw [blk_cell HRX8.out]; rfl
  have f0 := blk_frozen HRX8.out 0
  have f1 := blk_frozen HRX8.out 1
  have f2 := blk_frozen HRX8.out 2
  have f3 := blk_frozen HRX8.out 3
  go_upto_region 9 with (fail)
  clear d0 d1 d2 d3 f0 f1 f2 f3 hs9 hk9
  obtain ⟨hu9, hr9⟩ := both_put HU8.out HR9.out HRX8.out (.int .i64 9000) (.int .i64 9000) (.int .u64 (G : Int)) (.slice A9 n9 c9)
  have hm9 := mod_set4 (w := w9) (g := rb) (.int .i64 9000) (.int .i64 9000) (.int .u64 (G : Int)) (.slice A9 n9 c9)
  have HRX9 := hd (blk_set4 HRX8.out (.int .i64 9000) (.int .i64 9000) (.int .u64 (G : Int)) (.slice A9 n9 c9))
  have HO9 := hd (show OwnK .u8 5 w5.heap.size _ (.slice (some ⟨ga, 0, none⟩) 1024 cd) Z from Kd_mod HO8.out hm9 rfl (fun k cells hc e => by
    rw [show k = rb from e] at hc
    exact absurd (heap_type hc HRX8.out) (by decide)))
  have HB9 := hd (Mod.belowB HB8.out hm9 (fun k hk => by rw [hk]; exact HRBW.out) HB8.out.size)
  have HU9 := hd hu9
  have HR9' := hd hr9
  clear hu9 hr9 hm9 HU8 HR9 HRX8 HO8 HB8
  generalize ((((w9.setCell ⟨rb, 0, none⟩ (.int .i64 9000)).setCell ⟨rb, 1, none⟩ (.int .i64 9000)).setCell ⟨rb, 2, none⟩ (.int .u64 (G : Int))).setCell ⟨rb, 3, none⟩ (.slice A9 n9 c9)) = w10 at HU9 HR9' HRX9 HO9 HB9 ⊢
  have hmc : (m : Int) ≤ cd := by have := HM.out; omega
  have HBY := hd (fun wx (hm : Mod (Foot_ b v8 xs2) w10 wx) => (show Bytes wx (some ⟨ga, 0, none⟩) m cd (Z.take m) from by
    have h1 := Kd_mod HO9.out hm rfl HU9.out.apart
    have h2 : OwnK .u8 5 _ wx (.slice (some ⟨ga, 0, none⟩) 1024 cd) Z := h1
    have h3 : Bytes wx (some ⟨ga, 0, none⟩) 1024 cd Z := ⟨h2.row.2.2, HZ.out.1, by rw [h2.row.1]; exact h2.row.2.1, HZ.out.2⟩
    exact h3.take m HM.out.2))
  have HZM := hd (show (Z.take m).length = m ∧ BytesOK (Z.take m) from ⟨by rw [List.length_take, HZ.out.1]; have := HM.out; omega, HZ.out.2.take m⟩)
  obtain ⟨Y, hY⟩ : ∃ Y, Aside0 (Z.take m = Y) := ⟨_, ⟨rfl⟩⟩
  rw [hY.out] at HZM HBY
  have HADD := hd (add_anyF (peer := pS) (msg := 1) (part := 1) (parts := 2) (now := t2) (body := Y) (Ab := some ⟨ga, 0, none⟩) (n := m) (c := cd) HU9.out (Nat.le_trans HU9.out.bge (Nat.le_of_lt (blk_lt HU9.out.box))) HBY.out HINV.out.ok HT.out.2 (Nat.lt_of_le_of_lt HLN.out (by decide)) (HINV.out.few _) (by decide) (by decide) (Nat.le_trans HM.out.2 (by decide)) (by decide) (by decide))
  unfold gp at HADD
  go_wp2_with fail
  refine HADD.out.mono ?_
  rintro e w12 ⟨g2, q2, hg2, hpo2⟩
  have hinv2 := addC_inv (G := G) (peer := pS) (msg := 1) (part := 1) (parts := 2) (body := Y) (now := t2) (g := g2) (q := q2) HINV.out HU9.out.ndg HZM.out.2 HT.out.2
  have hare2 := addR_is (P := 9000) (A := 9000) (G := G) (peer := pS) (msg := 1) (part := 1) (parts := 2) (body := Y) (now := t2) (g := g2) (q := q2) HINV.out.uniq HU9.out.ndg (fresh_g HU9.out hg2)
  rw [hes2.out] at hare2
  obtain ⟨v12, vo2, rfl, hvo, hbu12, hm12, hf12⟩ := hpo2
  generalize (addC 9000 9000 G xs2 pS 1 1 2 Y t2 g2 q2) = R3 at hinv2 hare2 hvo hbu12 hf12 ⊢
  obtain ⟨xs3, out3, k3⟩ := R3
  dsimp only at hinv2 hare2 hvo hbu12 hf12 ⊢
  have HIN3 := hd hinv2.1
  have HLN3 := hd hinv2.2
  have HARE := hd hare2
  have HR12 := hd (row_mid HR9'.out hm12 hf12)
  have HRX12 := hd (hm12.block HRX9.out (HU9.out.foot_B HRX9.out))
  have HB12 := hd (HB9.out.trans (hm12.toBelow (fun j hj => Nat.le_trans HS1.out (HU9.out.typed hj).1) HB9.out.size))
  have HU12 := hd hbu12
  obtain ⟨Ao, co, hvs⟩ := Kd.R_slice hvo
  subst hvs
  have HVR := hd (show Row w12 Ao out3 from (OwnK.row hvo).2.2)
  have hol : (ints out3).length = out3.length := by simp [ints]
  rw [hol]
  have HOM := hd (Kd_mod HO9.out hm12 rfl HU9.out.apart)
  have HBY12 := hd (HBY.out w12 hm12)
  clear hinv2 hare2 hvo hbu12 hm12 hf12 HADD HU9 HR9' HRX9 HO9 HB9 HBY hg2 hol
  obtain ⟨no, hno⟩ : ∃ no, Aside0 (out3.length = no) := ⟨_, ⟨rfl⟩⟩
  rw [hno.out]
  go_upto_region 10 with (fail)
  go_cut [15, 16, 17] (fun u15 u16 u17 wz => ∃ (rz : Nat) (Az : Option Addr) (nz cz : Nat), u15 = .pointer (some ⟨rz, 0, none⟩) ∧ u16 = .string (strOf out3) ∧ u17 = .int .i64 (k3 : Int) ∧ Aside0 (wz.heap[rz]? = some (.cells #[.int .i64 9000, .int .i64 9000, .int .u64 (G : Int), .slice Az nz cz] 44 (0, 0))) ∧ Aside0 (RowR (fun k => ¬ Foot_ b v12 xs3 k ∧ k ≠ rb) wz Az nz cz (xs3.map Cel.e)) ∧ Aside0 (Below w12.heap.size w12 wz))
  case first =>
    refine uq_start (fun _ _ => True) [13] 16 rfl (by kernel_rfl) ?_
    have HRD := hd (HR12.out.below (below_drew (Below.refl _ _)))
    have HXD := hd (blk_below HRX12.out (below_drew (Below.refl w12.heap.size w12)))
    have HYD := hd (HBY12.out.below (below_drew (Below.refl _ _)))
    have HBD := hd (below_drew (Below.refl w12.heap.size w12))
    have HUD := hd (HU12.out.below (below_drew (Below.refl _ _)))
    generalize w12.drew = w13 at HRD HXD HYD HBD HUD ⊢
    have y0 := Grow.cells (show w13.cell? ⟨rb, 0, none⟩ = some (.int .i64 9000) by rw [blk_cell HXD.out]; rfl)
    have y1 := Grow.cells (show w13.cell? ⟨rb, 1, none⟩ = some (.int .i64 9000) by rw [blk_cell HXD.out]; rfl)
    have y2 := Grow.cells (show w13.cell? ⟨rb, 2, none⟩ = some (.int .u64 (G : Int)) by rw [blk_cell HXD.out]; rfl)
    have y3 := Grow.cells (show w13.cell? ⟨rb, 3, none⟩ = some (.slice A9 n9 c9) by rw [blk_cell HXD.out]; rfl)
    have HRBL := hd (blk_lt HXD.out)
    have HRA := hd (fun wy (hb : Below w13.heap.size w13 wy) => (show Calls _ _ _ wy (RAddPost 9000 9000 (G : Int) (fun k => (¬ Foot_ b v12 xs3 k ∧ k ≠ rb) ∧ k < w13.heap.size) wy (addR 9000 9000 G es2 pS 1 1 2 Y t2)) from by
      have := refadd_calls (P := 9000) (A := 9000) (G := G) (peer := pS) (msg := 1) (part := 1) (parts := 2) (now := t2) (HRD.out.bound.below hb) (by rw [HRD.out.len, ← hes2.out, List.length_map]; exact Nat.le_trans HLN.out (by decide)) (by rw [← hes2.out]; exact HINV.out.entok) (HYD.out.below hb) (Nat.le_trans HM.out.2 (by decide)) (by decide) (by decide) HT.out.2 (by decide) (by decide)
      rw [cast_9000] at this
      exact this))
    rw [HARE.out] at HRA
    have HEND := hd (fun wy wu Ax nx cx (hb : Below w13.heap.size w13 wy) (hr : RowR (fun k => ((¬ Foot_ b v12 xs3 k ∧ k ≠ rb) ∧ k < w13.heap.size) ∨ wy.heap.size ≤ k) wu Ax nx cx (xs3.map Cel.e)) => (show RowR (fun k => (¬ Foot_ b v12 xs3 k ∧ k ≠ rb) ∧ (k < w13.heap.size ∨ wy.heap.size ≤ k)) wu Ax nx cx (xs3.map Cel.e) from hr.mono (fun k hk => by
      rcases hk with hk | hk
      · exact ⟨hk.1, Or.inl hk.2⟩
      · exact ⟨⟨fun h => by have := ((HUD.out.below hb).typed h).2.1; omega, by have := HRBL.out; have := hb.size; omega⟩, Or.inr hk⟩)))
    refine uq_pure Keeps.any (i := 0) (N := some 51) (v := ?_) (a' := ?_) (by kernel_rfl) (by kernel_rfl) rfl rfl (by rfl) (fun _ _ _ h => h) ?_ ?_ ?_
    rotate_left 2
    · intro w' hg
      go_simp
      with_reducible rfl
    · simp only [Act.put, List.setIfInBounds_toArray, List.set_cons_zero, List.set_cons_succ, i64_w, i32_w]
      rfl
    refine uq_pure Keeps.any (i := 1) (N := some 52) (v := ?_) (a' := ?_) (by kernel_rfl) (by kernel_rfl) rfl rfl (by rfl) (fun _ _ _ h => h) ?_ ?_ ?_
    rotate_left 2
    · intro w' hg
      go_simp
      with_reducible rfl
    · simp only [Act.put, List.setIfInBounds_toArray, List.set_cons_zero, List.set_cons_succ, i64_w, i32_w]
      rfl
    refine uq_pure Keeps.any (i := 2) (N := some 53) (v := ?_) (a' := ?_) (by kernel_rfl) (by kernel_rfl) rfl rfl (by rfl) (fun _ _ _ h => h) ?_ ?_ ?_
    rotate_left 2
    · intro w' hg
      go_simp
      with_reducible rfl
    · simp only [Act.put, List.setIfInBounds_toArray, List.set_cons_zero, List.set_cons_succ, i64_w, i32_w]
      rfl
    refine uq_pure Keeps.any (i := 3) (N := some 54) (v := ?_) (a' := ?_) (by kernel_rfl) (by kernel_rfl) rfl rfl (by rfl) (fun _ _ _ h => h) ?_ ?_ ?_
    rotate_left 2
    · intro w' hg
      go_simp
      with_reducible rfl
    · simp only [Act.put, List.setIfInBounds_toArray, List.set_cons_zero, List.set_cons_succ, i64_w, i32_w]
      rfl
    refine uq_pure Keeps.any (i := 4) (N := some 55) (v := ?_) (a' := ?_) (by kernel_rfl) (by kernel_rfl) rfl rfl (by rfl) (fun _ _ _ h => h) ?_ ?_ ?_
    rotate_left 2
    · intro w' hg
      go_simp
      with_reducible rfl
    · simp only [Act.put, List.setIfInBounds_toArray, List.set_cons_zero, List.set_cons_succ, i64_w, i32_w]
      rfl
    refine uq_pure Keeps.any (i := 5) (N := some 56) (v := ?_) (a' := ?_) (by kernel_rfl) (by kernel_rfl) rfl rfl (by rfl) (fun _ _ _ h => h) ?_ ?_ ?_
    rotate_left 2
    · intro w' hg
      go_simp
      with_reducible rfl
    · simp only [Act.put, List.setIfInBounds_toArray, List.set_cons_zero, List.set_cons_succ, i64_w, i32_w]
      rfl
    refine uq_pure Keeps.any (i := 6) (N := some 57) (v := ?_) (a' := ?_) (by kernel_rfl) (by kernel_rfl) rfl rfl (by rfl) (fun _ _ _ h => h) ?_ ?_ ?_
    rotate_left 2
    · intro w' hg
      go_simp
      with_reducible rfl
    · simp only [Act.put, List.setIfInBounds_toArray, List.set_cons_zero, List.set_cons_succ, i64_w, i32_w]
      rfl
    refine uq_two (i := 7) (j := 12) (by kernel_rfl) ?_ ?_
    · refine uq_call (R := fun _ _ => True) (i := 7) (N := some 58) rfl rfl Try.func15 (by kernel_rfl) rfl #[.agg #[.int .i64 9000, .int .i64 9000, .int .u64 (G : Int), .slice A9 n9 c9], .string { data := #[112] }, .int .i64 1, .int .i64 1, .int .i64 2, .slice (some ⟨ga, 0, none⟩) m cd, .int .u64 (t2 : Int)] (by rfl) rfl ?_ ?_
      · simp only [List.map_toArray, List.map_cons, List.map_nil]
        rfl
      refine (HRA.out w13 (Below.refl _ _)).mono ?_
      rintro e w14 ⟨Az, nz, cz, rfl, hr9, hb9⟩
      have HRZ := hd (HEND.out w13 w14 Az nz cz (Below.refl _ _) hr9)
      have HBZ := hd hb9
      clear hr9 hb9
      refine ⟨_, rfl, ⟨fun _ => HBZ.out, trivial⟩, ?_⟩
      refine uq_norm (a' := ?_) ?_ ?_
      rotate_left
      · show Act.put _ (some 58) _ = _
        simp only [Act.put, List.setIfInBounds_toArray, List.set_cons_zero, List.set_cons_succ, i64_w, i32_w]
        rfl
      refine uq_pure Keeps.any (i := 8) (N := some 50) (v := ?_) (a' := ?_) (by kernel_rfl) (by kernel_rfl) rfl rfl (by rfl) (fun _ _ _ h => h) ?_ ?_ ?_
      rotate_left 2
      · intro w' hg
        go_simp
        with_reducible rfl
      · simp only [Act.put, List.setIfInBounds_toArray, List.set_cons_zero, List.set_cons_succ, i64_w, i32_w]
        rfl
      refine uq_pure Keeps.any (i := 9) (N := some 59) (v := ?_) (a' := ?_) (by kernel_rfl) (by kernel_rfl) rfl rfl (by rfl) (fun _ _ _ h => h) ?_ ?_ ?_
      rotate_left 2
      · intro w' hg
        go_simp
        with_reducible rfl
      · simp only [Act.put, List.setIfInBounds_toArray, List.set_cons_zero, List.set_cons_succ, i64_w, i32_w]
        rfl
      refine uq_pure2 Keeps.any (i := 10) (N := some 60) (v := ?_) (a' := ?_) (by kernel_rfl) (by kernel_rfl) rfl rfl (by rfl) (fun _ _ _ h => h) ?_ ?_ ?_
      rotate_left 2
      · intro w' hg
        go_simp
        with_reducible rfl
      · simp only [Act.put, List.setIfInBounds_toArray, List.set_cons_zero, List.set_cons_succ, i64_w, i32_w]
        rfl
      refine uq_pure2 Keeps.any (i := 11) (N := some 61) (v := ?_) (a' := ?_) (by kernel_rfl) (by kernel_rfl) rfl rfl (by rfl) (fun _ _ _ h => h) ?_ ?_ ?_
      rotate_left 2
      · intro w' hg
        go_simp
        with_reducible rfl
      · simp only [Act.put, List.setIfInBounds_toArray, List.set_cons_zero, List.set_cons_succ, i64_w, i32_w]
        rfl
      refine uq_one (i := 12) (by kernel_rfl) ?_
      refine uq_value (R := fun _ _ => True) (i := 12) (N := some 15) (v := .pointer (some ⟨w14.heap.size, 0, none⟩)) (a' := ?_) (w1 := w14.alloc (.cells #[.int .i64 0, .int .i64 0, .int .u64 0, .slice none 0 0] 44)) rfl rfl (by rfl) ?_ ⟨fun _ => below_alloc (Below.refl _ _) _, trivial⟩ ?_ ?_
      rotate_left
      · go_simp
      · simp only [Act.put, List.setIfInBounds_toArray, List.set_cons_zero, List.set_cons_succ, i64_w, i32_w]
        rfl
      have HZ2 := hd (blk_new w14 (.cells #[.int .i64 0, .int .i64 0, .int .u64 0, .slice none 0 0] 44))
      have HRZ2 := hd (HRZ.out.bound.below (below_alloc (Below.refl _ _) (.cells #[.int .i64 0, .int .i64 0, .int .u64 0, .slice none 0 0] 44)))
      have HBZ2 := hd (below_seq HBZ.out (below_alloc (Below.refl _ _) (.cells #[.int .i64 0, .int .i64 0, .int .u64 0, .slice none 0 0] 44)))
      generalize w14.alloc (.cells #[.int .i64 0, .int .i64 0, .int .u64 0, .slice none 0 0] 44) = w15 at HZ2 HRZ2 HBZ2 ⊢
      obtain ⟨rz, hrz⟩ : ∃ rz, Aside0 (w14.heap.size = rz) := ⟨_, ⟨rfl⟩⟩
      have HSZ := hd HBZ.out.size
      rw [hrz.out] at HZ2 HRZ2 HSZ ⊢
      refine uq_one (i := 13) (by kernel_rfl) ?_
      have r0 : w15.cell? ⟨rz, 0, none⟩ = some (.int .i64 0) := by rw [blk_cell HZ2.out]; rfl
      have r1 : w15.cell? ⟨rz, 1, none⟩ = some (.int .i64 0) := by rw [blk_cell HZ2.out]; rfl
      have r2 : w15.cell? ⟨rz, 2, none⟩ = some (.int .u64 0) := by rw [blk_cell HZ2.out]; rfl
      have r3 : w15.cell? ⟨rz, 3, none⟩ = some (.slice none 0 0) := by rw [blk_cell HZ2.out]; rfl
      have f0 := blk_frozen HZ2.out 0
      have f1 := blk_frozen HZ2.out 1
      have f2 := blk_frozen HZ2.out 2
      have f3 := blk_frozen HZ2.out 3
      refine uq_skip (R := fun _ _ => True) (i := 13) (w1 := ?_) rfl rfl (by rfl) ?_ ⟨fun h => absurd (by decide) h, trivial⟩ ?_
      rotate_left
      · go_simp
        rfl
      clear r0 r1 r2 r3 f0 f1 f2 f3
      refine uq_pure Keeps.any (i := 14) (N := some 16) (v := ?_) (a' := ?_) (by kernel_rfl) (by kernel_rfl) rfl rfl (by rfl) (fun _ _ _ h => h) ?_ ?_ ?_
      rotate_left 2
      · intro w' hg
        go_simp
        with_reducible rfl
      · simp only [Act.put, List.setIfInBounds_toArray, List.set_cons_zero, List.set_cons_succ, i64_w, i32_w]
        rfl
      refine uq_pure Keeps.any (i := 15) (N := some 17) (v := ?_) (a' := ?_) (by kernel_rfl) (by kernel_rfl) rfl rfl (by rfl) (fun _ _ _ h => h) ?_ ?_ ?_
      rotate_left 2
      · intro w' hg
        go_simp
        with_reducible rfl
      · simp only [Act.put, List.setIfInBounds_toArray, List.set_cons_zero, List.set_cons_succ, i64_w, i32_w]
        rfl
      refine uq_end (by kernel_rfl) ?_
      go_wp2_with fail
      go_meet
      case rel =>
        have hm := mod_set4 (w := w15) (g := rz) (.int .i64 9000) (.int .i64 9000) (.int .u64 (G : Int)) (.slice Az nz cz)
        refine ⟨rz, Az, nz, cz, rfl, rfl, rfl, ⟨blk_set4 HZ2.out _ _ _ _⟩, ⟨(HRZ2.out.mod hm (fun k hk e => by have := hk.2; omega)).mono (fun k hk => hk.1.1)⟩, ⟨HBD.out.trans ((HBZ2.out.mono HBD.out.size).trans (hm.toBelow (fun k hk => by have := HSZ.out; have := HBD.out.size; omega) (Nat.le_trans HBD.out.size HBZ2.out.size)))⟩⟩
    · refine uq_value (R := fun _ _ => True) (i := 12) (N := some 15) (v := .pointer (some ⟨w13.heap.size, 0, none⟩)) (a' := ?_) (w1 := w13.alloc (.cells #[.int .i64 0, .int .i64 0, .int .u64 0, .slice none 0 0] 44)) rfl rfl (by rfl) ?_ ⟨fun _ => below_alloc (Below.refl _ _) _, trivial⟩ ?_ ?_
      rotate_left
      · go_simp
      · simp only [Act.put, List.setIfInBounds_toArray, List.set_cons_zero, List.set_cons_succ, i64_w, i32_w]
        rfl
      have HZ1 := hd (blk_new w13 (.cells #[.int .i64 0, .int .i64 0, .int .u64 0, .slice none 0 0] 44))
      have hal := below_alloc (Below.refl w13.heap.size w13) (.cells #[.int .i64 0, .int .i64 0, .int .u64 0, .slice none 0 0] 44)
      generalize w13.alloc (.cells #[.int .i64 0, .int .i64 0, .int .u64 0, .slice none 0 0] 44) = w15 at HZ1 hal ⊢
      obtain ⟨rz, hrz⟩ : ∃ rz, Aside0 (w13.heap.size = rz) := ⟨_, ⟨rfl⟩⟩
      have HAL := hd hal
      have HZB := hd (blk_lt HZ1.out)
      rw [hrz.out] at HZ1 HZB ⊢
      clear hal
      refine uq_one (i := 7) (by kernel_rfl) ?_
      refine uq_call (R := fun _ _ => True) (i := 7) (N := some 58) rfl rfl Try.func15 (by kernel_rfl) rfl #[.agg #[.int .i64 9000, .int .i64 9000, .int .u64 (G : Int), .slice A9 n9 c9], .string { data := #[112] }, .int .i64 1, .int .i64 1, .int .i64 2, .slice (some ⟨ga, 0, none⟩) m cd, .int .u64 (t2 : Int)] (by rfl) rfl ?_ ?_
      · simp only [List.map_toArray, List.map_cons, List.map_nil]
        rfl
      refine (HRA.out w15 HAL.out).mono ?_
      rintro e w14 ⟨Az, nz, cz, rfl, hr9, hb9⟩
      have HRZ := hd (HEND.out w15 w14 Az nz cz HAL.out hr9)
      have HBZ := hd hb9
      clear hr9 hb9
      refine ⟨_, rfl, ⟨fun _ => HBZ.out, trivial⟩, ?_⟩
      refine uq_norm (a' := ?_) ?_ ?_
      rotate_left
      · show Act.put _ (some 58) _ = _
        simp only [Act.put, List.setIfInBounds_toArray, List.set_cons_zero, List.set_cons_succ, i64_w, i32_w]
        rfl
      refine uq_pure Keeps.any (i := 8) (N := some 50) (v := ?_) (a' := ?_) (by kernel_rfl) (by kernel_rfl) rfl rfl (by rfl) (fun _ _ _ h => h) ?_ ?_ ?_
      rotate_left 2
      · intro w' hg
        go_simp
        with_reducible rfl
      · simp only [Act.put, List.setIfInBounds_toArray, List.set_cons_zero, List.set_cons_succ, i64_w, i32_w]
        rfl
      refine uq_pure Keeps.any (i := 9) (N := some 59) (v := ?_) (a' := ?_) (by kernel_rfl) (by kernel_rfl) rfl rfl (by rfl) (fun _ _ _ h => h) ?_ ?_ ?_
      rotate_left 2
      · intro w' hg
        go_simp
        with_reducible rfl
      · simp only [Act.put, List.setIfInBounds_toArray, List.set_cons_zero, List.set_cons_succ, i64_w, i32_w]
        rfl
      refine uq_pure2 Keeps.any (i := 10) (N := some 60) (v := ?_) (a' := ?_) (by kernel_rfl) (by kernel_rfl) rfl rfl (by rfl) (fun _ _ _ h => h) ?_ ?_ ?_
      rotate_left 2
      · intro w' hg
        go_simp
        with_reducible rfl
      · simp only [Act.put, List.setIfInBounds_toArray, List.set_cons_zero, List.set_cons_succ, i64_w, i32_w]
        rfl
      refine uq_pure2 Keeps.any (i := 11) (N := some 61) (v := ?_) (a' := ?_) (by kernel_rfl) (by kernel_rfl) rfl rfl (by rfl) (fun _ _ _ h => h) ?_ ?_ ?_
      rotate_left 2
      · intro w' hg
        go_simp
        with_reducible rfl
      · simp only [Act.put, List.setIfInBounds_toArray, List.set_cons_zero, List.set_cons_succ, i64_w, i32_w]
        rfl
      have HZ2 := hd (blk_below HZ1.out HBZ.out)
      refine uq_one (i := 13) (by kernel_rfl) ?_
      have r0 : w14.cell? ⟨rz, 0, none⟩ = some (.int .i64 0) := by rw [blk_cell HZ2.out]; rfl
      have r1 : w14.cell? ⟨rz, 1, none⟩ = some (.int .i64 0) := by rw [blk_cell HZ2.out]; rfl
      have r2 : w14.cell? ⟨rz, 2, none⟩ = some (.int .u64 0) := by rw [blk_cell HZ2.out]; rfl
      have r3 : w14.cell? ⟨rz, 3, none⟩ = some (.slice none 0 0) := by rw [blk_cell HZ2.out]; rfl
      have f0 := blk_frozen HZ2.out 0
      have f1 := blk_frozen HZ2.out 1
      have f2 := blk_frozen HZ2.out 2
      have f3 := blk_frozen HZ2.out 3
      refine uq_skip (R := fun _ _ => True) (i := 13) (w1 := ?_) rfl rfl (by rfl) ?_ ⟨fun h => absurd (by decide) h, trivial⟩ ?_
      rotate_left
      · go_simp
        rfl
      clear r0 r1 r2 r3 f0 f1 f2 f3
      refine uq_pure Keeps.any (i := 14) (N := some 16) (v := ?_) (a' := ?_) (by kernel_rfl) (by kernel_rfl) rfl rfl (by rfl) (fun _ _ _ h => h) ?_ ?_ ?_
      rotate_left 2
      · intro w' hg
        go_simp
        with_reducible rfl
      · simp only [Act.put, List.setIfInBounds_toArray, List.set_cons_zero, List.set_cons_succ, i64_w, i32_w]
        rfl
      refine uq_pure Keeps.any (i := 15) (N := some 17) (v := ?_) (a' := ?_) (by kernel_rfl) (by kernel_rfl) rfl rfl (by rfl) (fun _ _ _ h => h) ?_ ?_ ?_
      rotate_left 2
      · intro w' hg
        go_simp
        with_reducible rfl
      · simp only [Act.put, List.setIfInBounds_toArray, List.set_cons_zero, List.set_cons_succ, i64_w, i32_w]
        rfl
      refine uq_end (by kernel_rfl) ?_
      go_wp2_with fail
      go_meet
      case rel =>
        have hm := mod_set4 (w := w14) (g := rz) (.int .i64 9000) (.int .i64 9000) (.int .u64 (G : Int)) (.slice Az nz cz)
        refine ⟨rz, Az, nz, cz, rfl, rfl, rfl, ⟨blk_set4 HZ2.out _ _ _ _⟩, ⟨(HRZ.out.mod hm (fun k hk e => by have := HZB.out; have := hrz.out; rcases hk.2 with h | h <;> omega)).mono (fun k hk => hk.1)⟩, ⟨HBD.out.trans (((HAL.out.mono HBD.out.size).trans (HBZ.out.mono (Nat.le_trans HBD.out.size HAL.out.size))).trans (hm.toBelow (fun k hk => by have := hrz.out; have := HBD.out.size; omega) (Nat.le_trans HBD.out.size (Nat.le_trans HAL.out.size HBZ.out.size))))⟩⟩
  case rest =>
  obtain ⟨rz, Az, nz, cz, rfl, rfl, rfl, HRZ, HWZ, HBZ⟩ := hcut
  have HUZ := hd (HU12.out.below HBZ.out)
  have HVZ := hd (Kd.C_below HVR.out HBZ.out)
  have HWL := hd HWZ.out.len
  obtain ⟨tt, htt⟩ : ∃ tt, Aside0 (sumB (fun _ => true) xs3 = tt) := ⟨_, ⟨rfl⟩⟩
  have HT1 := hd (show totT ((xs3.map Cel.e).map s80) = tt by rw [totT_map, totE_map]; exact htt.out)
  have HNZ := hd (show nz = xs3.length by rw [HWL.out, List.length_map])
  obtain ⟨so, hso⟩ : ∃ so, Aside0 (strOf out3 = so) := ⟨_, ⟨rfl⟩⟩
  rw [hso.out]
  have HL3 := hd (show xs3.length ≤ 1000000 from Nat.le_trans HLN3.out (by have := HLN.out; simp at this; omega))
  have HBW := hd (HB12.out.trans (HBZ.out.mono HB12.out.size))
  go_upto_region 11 with (fail)
  refine up_start [] [(0, true), (1, true), (2, true), (3, true), (4, true), (5, true), (6, true), (7, true), (8, true), (9, true), (10, true), (12, true), (11, false), (13, false), (14, true), (15, true), (16, true), (17, true), (19, true), (20, true), (21, true), (18, false), (22, true), (23, true), (24, true)] (by kernel_rfl) rfl (by kernel_rfl) (by kernel_rfl) ?_
  replace HUZ := hd (HUZ.out.below (below_drew (Below.refl _ _)))
  replace HWZ := hd (HWZ.out.below (below_drew (Below.refl _ _)))
  replace HRZ := hd (blk_below HRZ.out (below_drew (Below.refl _ _)))
  replace HVZ := hd (Kd.C_below HVZ.out (below_drew (Below.refl _ _)))
  have HBX := hd (below_drew HBW.out)
  generalize wc.drew = w16 at HUZ HWZ HRZ HVZ HBX ⊢
  have y0 := Grow.cells (show w16.cell? ⟨rz, 0, none⟩ = some (.int .i64 9000) by rw [blk_cell HRZ.out]; rfl)
  have y1 := Grow.cells (show w16.cell? ⟨rz, 1, none⟩ = some (.int .i64 9000) by rw [blk_cell HRZ.out]; rfl)
  have y2 := Grow.cells (show w16.cell? ⟨rz, 2, none⟩ = some (.int .u64 (G : Int)) by rw [blk_cell HRZ.out]; rfl)
  have y3 := Grow.cells (show w16.cell? ⟨rz, 3, none⟩ = some (.slice Az nz cz) by rw [blk_cell HRZ.out]; rfl)
  have ycv : ∀ w', Grow w16 w' → (convert 22 9 (.slice Ao no co)).run Try.prog w' = .ok (.string so) w' := fun w' hg => by
    have h1 := RowK.str (P := Try.prog) (c := co) (Kd.C_below HVZ.out hg) Try.underlying22 Try.underlying5 Try.underlying9
    rw [hno.out, hso.out] at h1
    exact h1
  refine seq_pure (i := 0) (N := some 62) (v := ?_) (a' := ?_) rfl rfl (by rfl) (fun _ _ _ h => h) ?_ ?_ ?_
  rotate_left 2
  · intro w' hg
    go_simp
    with_reducible rfl
  · simp only [Act.put, List.setIfInBounds_toArray, List.set_cons_zero, List.set_cons_succ, i64_w, i32_w]
    rfl
  refine seq_pure (i := 1) (N := some 63) (v := ?_) (a' := ?_) rfl rfl (by rfl) (fun _ _ _ h => h) ?_ ?_ ?_
  rotate_left 2
  · intro w' hg
    go_simp
    with_reducible rfl
  · simp only [Act.put, List.setIfInBounds_toArray, List.set_cons_zero, List.set_cons_succ, i64_w, i32_w]
    rfl
  refine seq_pure (i := 2) (N := some 64) (v := ?_) (a' := ?_) rfl rfl (by rfl) (fun _ _ _ h => h) ?_ ?_ ?_
  rotate_left 2
  · intro w' hg
    go_simp
    with_reducible rfl
  · simp only [Act.put, List.setIfInBounds_toArray, List.set_cons_zero, List.set_cons_succ, i64_w, i32_w]
    rfl
  refine seq_pure (i := 3) (N := some 65) (v := ?_) (a' := ?_) rfl rfl (by rfl) (fun _ _ _ h => h) ?_ ?_ ?_
  rotate_left 2
  · intro w' hg
    go_simp
    with_reducible rfl
  · simp only [Act.put, List.setIfInBounds_toArray, List.set_cons_zero, List.set_cons_succ, i64_w, i32_w]
    rfl
  refine seq_pure (i := 4) (N := some 66) (v := ?_) (a' := ?_) rfl rfl (by rfl) (fun _ _ _ h => h) ?_ ?_ ?_
  rotate_left 2
  · intro w' hg
    go_simp
    with_reducible rfl
  · simp only [Act.put, List.setIfInBounds_toArray, List.set_cons_zero, List.set_cons_succ, i64_w, i32_w]
    rfl
  refine seq_pure (i := 5) (N := some 67) (v := ?_) (a' := ?_) rfl rfl (by rfl) (fun _ _ _ h => h) ?_ ?_ ?_
  rotate_left 2
  · intro w' hg
    go_simp
    with_reducible rfl
  · simp only [Act.put, List.setIfInBounds_toArray, List.set_cons_zero, List.set_cons_succ, i64_w, i32_w]
    rfl
  refine seq_pure (i := 6) (N := some 68) (v := ?_) (a' := ?_) rfl rfl (by rfl) (fun _ _ _ h => h) ?_ ?_ ?_
  rotate_left 2
  · intro w' hg
    go_simp
    with_reducible rfl
  · simp only [Act.put, List.setIfInBounds_toArray, List.set_cons_zero, List.set_cons_succ, i64_w, i32_w]
    rfl
  refine seq_pure (i := 7) (N := some 69) (v := ?_) (a' := ?_) rfl rfl (by rfl) (fun _ _ _ h => h) ?_ ?_ ?_
  rotate_left 2
  · intro w' hg
    go_simp
    with_reducible rfl
  · simp only [Act.put, List.setIfInBounds_toArray, List.set_cons_zero, List.set_cons_succ, i64_w, i32_w]
    rfl
  refine seq_pure (i := 8) (N := some 70) (v := ?_) (a' := ?_) rfl rfl (by rfl) (fun _ _ _ h => h) ?_ ?_ ?_
  rotate_left 2
  · intro w' hg
    go_simp
    with_reducible rfl
  · simp only [Act.put, List.setIfInBounds_toArray, List.set_cons_zero, List.set_cons_succ, i64_w, i32_w]
    rfl
  refine seq_pure (i := 9) (N := some 71) (v := ?_) (a' := ?_) rfl rfl (by rfl) (fun _ _ _ h => h) ?_ ?_ ?_
  rotate_left 2
  · intro w' hg
    go_simp
    with_reducible rfl
  · simp only [Act.put, List.setIfInBounds_toArray, List.set_cons_zero, List.set_cons_succ, i64_w, i32_w]
    rfl
  refine seq_pure (i := 10) (N := some 72) (v := ?_) (a' := ?_) rfl rfl (by rfl) (fun _ _ _ h => h) ?_ ?_ ?_
  rotate_left 2
  · intro w' hg
    go_simp
    with_reducible rfl
  · simp only [Act.put, List.setIfInBounds_toArray, List.set_cons_zero, List.set_cons_succ, i64_w, i32_w]
    rfl
  refine seq_pure (i := 12) (N := some 74) (v := ?_) (a' := ?_) rfl rfl (by rfl) (fun _ _ _ h => h) ?_ ?_ ?_
  rotate_left 2
  · intro w' hg
    go_simp
    with_reducible rfl
  · simp only [Act.put, List.setIfInBounds_toArray, List.set_cons_zero, List.set_cons_succ, i64_w, i32_w]
    rfl
  refine seq_call (i := 11) (N := some 73) rfl rfl Try.func16 (by kernel_rfl) rfl #[.pointer (some ⟨b, 0, none⟩)] (by rfl) rfl ?_ ?_
  · simp only [List.map_toArray, List.map_cons, List.map_nil]
    rfl
  refine (total_calls HUZ.out HIN3.out.ok HL3.out).mono ?_
  rw [htt.out]
  rintro e w17 ⟨rfl, hb17⟩
  replace HUZ := hd (HUZ.out.below hb17)
  replace HWZ := hd (HWZ.out.below hb17)
  replace HRZ := hd (blk_below HRZ.out hb17)
  replace HBX := hd (HBX.out.trans (hb17.mono HBX.out.size))
  refine ⟨_, rfl, fun _ => hb17, ?_⟩
  clear hb17
  refine seq_norm (a' := ?_) ?_ ?_
  rotate_left
  · show Act.put _ (some 73) _ = _
    simp only [Act.put, List.setIfInBounds_toArray, List.set_cons_zero, List.set_cons_succ, i64_w, i32_w]
    rfl
  refine seq_call (i := 13) (N := some 75) rfl rfl Try.func17 (by kernel_rfl) rfl #[.agg #[.int .i64 9000, .int .i64 9000, .int .u64 (G : Int), .slice Az nz cz]] (by rfl) rfl ?_ ?_
  · simp only [List.map_toArray, List.map_cons, List.map_nil]
    rfl
  refine (reftotal_calls HWZ.out.C (by rw [List.length_map]; exact HWL.out) HWZ.out.cap (by rw [HNZ.out]; exact HL3.out) (RefOk.of HIN3.out.entok)).mono ?_
  rw [HT1.out]
  rintro e w18 ⟨rfl, hb18⟩
  replace HUZ := hd (HUZ.out.below hb18)
  replace HRZ := hd (blk_below HRZ.out hb18)
  have z3 := Grow.cells (show w18.cell? ⟨rz, 3, none⟩ = some (.slice Az nz cz) by rw [blk_cell HRZ.out]; rfl)
  replace HBX := hd (HBX.out.trans (hb18.mono HBX.out.size))
  refine ⟨_, rfl, fun _ => hb18, ?_⟩
  clear hb18
  refine seq_norm (a' := ?_) ?_ ?_
  rotate_left
  · show Act.put _ (some 75) _ = _
    simp only [Act.put, List.setIfInBounds_toArray, List.set_cons_zero, List.set_cons_succ, i64_w, i32_w]
    rfl
  refine seq_pure (i := 14) (N := some 76) (v := ?_) (a' := ?_) rfl rfl (by rfl) (fun _ _ _ h => h) ?_ ?_ ?_
  rotate_left 2
  · intro w' hg
    go_simp
    with_reducible rfl
  · simp only [Act.put, List.setIfInBounds_toArray, List.set_cons_zero, List.set_cons_succ, i64_w, i32_w]
    rfl
  refine seq_pure (i := 15) (N := some 77) (v := ?_) (a' := ?_) rfl rfl (by rfl) (fun _ _ _ h => h) ?_ ?_ ?_
  rotate_left 2
  · intro w' hg
    go_simp
    with_reducible rfl
  · simp only [Act.put, List.setIfInBounds_toArray, List.set_cons_zero, List.set_cons_succ, i64_w, i32_w]
    rfl
  refine seq_pure (i := 16) (N := some 78) (v := ?_) (a' := ?_) rfl rfl (by rfl) (fun _ _ _ h => h) ?_ ?_ ?_
  rotate_left 2
  · intro w' hg
    go_simp
    with_reducible rfl
  · simp only [Act.put, List.setIfInBounds_toArray, List.set_cons_zero, List.set_cons_succ, i64_w, i32_w]
    rfl
  refine seq_pure (i := 17) (N := some 79) (v := ?_) (a' := ?_) rfl rfl (by rfl) (fun _ _ _ h => h) ?_ ?_ ?_
  rotate_left 2
  · intro w' hg
    go_simp
    with_reducible rfl
  · simp only [Act.put, List.setIfInBounds_toArray, List.set_cons_zero, List.set_cons_succ, i64_w, i32_w]
    rfl
  refine seq_pure (i := 19) (N := some 81) (v := ?_) (a' := ?_) rfl rfl (by rfl) (fun _ _ _ h => h) ?_ ?_ ?_
  rotate_left 2
  · intro w' hg
    go_simp
    with_reducible rfl
  · simp only [Act.put, List.setIfInBounds_toArray, List.set_cons_zero, List.set_cons_succ, i64_w, i32_w]
    rfl
  refine seq_pure (i := 20) (N := some 82) (v := ?_) (a' := ?_) rfl rfl (by rfl) (fun _ _ _ h => h) ?_ ?_ ?_
  rotate_left 2
  · intro w' hg
    go_simp
    with_reducible rfl
  · simp only [Act.put, List.setIfInBounds_toArray, List.set_cons_zero, List.set_cons_succ, i64_w, i32_w]
    rfl
  refine seq_pure (i := 21) (N := some 83) (v := ?_) (a' := ?_) rfl rfl (by rfl) (fun _ _ _ h => h) ?_ ?_ ?_
  rotate_left 2
  · intro w' hg
    go_simp
    with_reducible rfl
  · simp only [Act.put, List.setIfInBounds_toArray, List.set_cons_zero, List.set_cons_succ, i64_w, i32_w]
    rfl
  refine seq_call (i := 18) (N := some 80) rfl rfl Try.func13 (by kernel_rfl) rfl #[.pointer (some ⟨b, 0, none⟩)] (by rfl) rfl ?_ ?_
  · simp only [List.map_toArray, List.map_cons, List.map_nil]
    rfl
  refine (count_calls HUZ.out).mono ?_
  rw [← HNZ.out]
  rintro e w19 ⟨rfl, rfl⟩
  refine ⟨_, rfl, fun _ => Below.refl _ _, ?_⟩
  refine seq_norm (a' := ?_) ?_ ?_
  rotate_left
  · show Act.put _ (some 80) _ = _
    simp only [Act.put, List.setIfInBounds_toArray, List.set_cons_zero, List.set_cons_succ, i64_w, i32_w]
    rfl
  refine seq_pure (i := 22) (N := some 84) (v := ?_) (a' := ?_) rfl rfl (by rfl) (fun _ _ _ h => h) ?_ ?_ ?_
  rotate_left 2
  · intro w' hg
    go_simp
    with_reducible rfl
  · simp only [Act.put, List.setIfInBounds_toArray, List.set_cons_zero, List.set_cons_succ, i64_w, i32_w]
    rfl
  refine seq_pure (i := 23) (N := some 85) (v := ?_) (a' := ?_) rfl rfl (by rfl) (fun _ _ _ h => h) ?_ ?_ ?_
  rotate_left 2
  · intro w' hg
    go_simp
    with_reducible rfl
  · simp only [Act.put, List.setIfInBounds_toArray, List.set_cons_zero, List.set_cons_succ, i64_w, i32_w]
    rfl
  refine seq_pure (i := 24) (N := some 8) (v := ?_) (a' := ?_) rfl rfl (by rfl) (fun _ _ _ h => h) ?_ ?_ ?_
  rotate_left 2
  · intro w' hg
    go_simp
    with_reducible rfl
  · simp only [Act.put, List.setIfInBounds_toArray, List.set_cons_zero, List.set_cons_succ, i64_w, i32_w]
    rfl
  refine seq_done ?_
  go_wp2
  go_ret
  exact ⟨rfl, HBX.out⟩
end Go.Proofs.Ytcmiajnndmaeiaa
