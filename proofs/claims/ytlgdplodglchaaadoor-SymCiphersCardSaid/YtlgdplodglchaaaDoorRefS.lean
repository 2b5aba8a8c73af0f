/- The walks through redanref16's states. -/
import Derived.Test.YtlgdplodglchaaaDoorSymA
import Derived.Test.YtlgdplodglchaaaDoorRef16
set_option linter.unusedVariables false
set_option linter.unusedSimpArgs false
namespace Go.Proofs.YtlgdplodglchaaaDoor
open Go.RowKit Go.Proofs.YtlgdplodglchaaaDoorW.PrintWords Go.Proofs.YtlgdplodglchaaaDoorW.PrintLast Go.Proofs.YtlgdplodglchaaaDoorW.PrintMore
section
variable {w : World} {N : Nat} {ck h k : Sl}
set_option maxHeartbeats 4000000 in
set_option maxRecDepth 100000 in
theorem rrekey_calls {A : Option Addr} {n c : Nat} {key : List Nat} (hk : Bytes w A n c key) (hn : n ≤ 100000000) :
    Calls Tryd.prog 48 #[.agg #[.slice A n c, .int .u64 (N : Int)]] w fun e w' => ∃ s : Sl, e = .returned (.agg #[.slice s.A s.n s.c, .int .u64 (N : Int)]) ∧ (n ≠ 32 → s = ⟨A, n, c⟩) ∧ (n = 32 → ∃ gk, s.A = some ⟨gk, 0, none⟩ ∧ s.n = 32 ∧ w.heap.size ≤ gk ∧ gk < w'.heap.size ∧ Bytes w' s.A 32 s.c (rekN key)) ∧ Below w.heap.size w w' := by
  have HK := hd hk
  have HKN := hd hk.2.1
  by_cases h32 : n = 32
  · subst h32
    have HKL := hd (show key.length = 32 from HKN.out)
    obtain ⟨zl, HZL⟩ : ∃ l, Aside0 (List.replicate 32 0 = l) := ⟨_, ⟨rfl⟩⟩
    have HSE := fun (w1 : World) (hw : Below w.heap.size w w1) {An Am : Option Addr} {cn cm : Nat} (h1 : Bytes w1 An 12 cn (nonceN 18446744073709551615)) (h2 : Bytes w1 Am 32 cm (List.replicate 32 0)) => hd (refseal_any (HK.out.below hw) h1 (Bytes.nil _ none 0) h2 (by decide) (by decide))
    have HRK := hd (show (sealN key (nonceN 18446744073709551615) [] (List.replicate 32 0)).take 32 = rekN key by rw [rekN, if_pos HKL.out]; rfl)
    have hsl : (sealN key (nonceN 18446744073709551615) [] (List.replicate 32 0)).length = 48 := by rw [sealN_length]; simp
    have hso := sealN_ok key (nonceN 18446744073709551615) [] (BytesOK.zeros 32)
    rw [show sealA key (nonceN 18446744073709551615) [] (List.replicate 32 0) = (sealN key (nonceN 18446744073709551615) [] (List.replicate 32 0), 0) by rw [sealA, if_pos ⟨HKL.out, nonceN_length _⟩]] at HSE
    obtain ⟨sl, hsl0⟩ : ∃ l, sealN key (nonceN 18446744073709551615) [] (List.replicate 32 0) = l := ⟨_, rfl⟩
    rw [hsl0] at HRK hsl hso HSE
    dsimp only at HSE
    have HSL := hd hsl
    have HSO := hd hso
    clear hsl hso hsl0 HZL
    clear hk hn
    have a1 := below_alloc (Below.refl w.heap.size w) (.cells #[.slice A 32 c, .int .u64 (N : Int)] 48)
    have b1 := blk_new w (.cells #[.slice A 32 c, .int .u64 (N : Int)] 48)
    have a2 := below_alloc (Below.refl _ (w.alloc (.cells #[.slice A 32 c, .int .u64 (N : Int)] 48))) (.cells #[.slice none 0 0, .int .u64 0] 48)
    have b2 := blk_new (w.alloc (.cells #[.slice A 32 c, .int .u64 (N : Int)] 48)) (.cells #[.slice none 0 0, .int .u64 0] 48)
    rw [World.size_alloc] at b2
    have HX := hd (blk_below b1 a2)
    have HZ := hd b2
    have HBW := hd (below_seq a1 a2)
    clear a1 a2 b1 b2
    go_enter Tryd.func48, Tryd.ntmps48
    go_upto_region 1 with (fail)
    generalize ((w.alloc (.cells #[.slice A 32 c, .int .u64 (N : Int)] 48)).alloc (.cells #[.slice none 0 0, .int .u64 0] 48)) = w3 at HX HZ HBW ⊢
    obtain ⟨q, hq⟩ : ∃ q, Aside0 (w.heap.size = q) := ⟨_, ⟨rfl⟩⟩
    have HQ := hd (show w.heap.size ≤ q by rw [hq.out]; exact Nat.le_refl _)
    rw [hq.out] at HX HZ ⊢
    clear hq
    have c0 : w3.cell? ⟨q, 0, none⟩ = some (.slice A 32 c) := by rw [blk_cell HX.out]; rfl
    go_upto_region 3 with (fail)
    clear c0
    refine uq_start (fun _ _ => True) [] 10 rfl (by kernel_rfl) ?_
    have hdr := below_drew (Below.refl w3.heap.size w3)
    replace HX := hd (blk_below HX.out hdr)
    replace HZ := hd (blk_below HZ.out hdr)
    replace HBW := hd (below_seq HBW.out hdr)
    have t0 := Grow.cells (show w3.drew.cell? ⟨q, 0, none⟩ = some (.slice A 32 c) by rw [blk_cell (blk_below HX.out (Below.refl _ _))]; rfl)
    generalize w3.drew = w5 at t0 HX HZ HBW ⊢
    clear hdr
    refine uq_pure Keeps.any (i := 0) (N := some 11) (v := ?_) (a' := ?_) (by kernel_rfl) (by kernel_rfl) rfl rfl (by rfl) (fun _ _ _ h => h) ?_ ?_ ?_
    rotate_left 2
    · intro w' hg
      go_simp
      with_reducible rfl
    · simp only [Act.put, List.setIfInBounds_toArray, List.set_cons_zero, List.set_cons_succ, i64_w, i32_w]
      rfl
    refine uq_pure Keeps.any (i := 1) (N := some 12) (v := ?_) (a' := ?_) (by kernel_rfl) (by kernel_rfl) rfl rfl (by rfl) (fun _ _ _ h => h) ?_ ?_ ?_
    rotate_left 2
    · intro w' hg
      go_simp
      with_reducible rfl
    · simp only [Act.put, List.setIfInBounds_toArray, List.set_cons_zero, List.set_cons_succ, i64_w, i32_w]
      rfl
    refine uq_two (i := 2) (j := 3) (by kernel_rfl) ?_ ?_
    · refine uq_call (R := fun _ _ => True) (i := 2) (N := some 13) rfl rfl Tryd.func73 (by kernel_rfl) rfl #[.int .u64 18446744073709551615] (by rfl) rfl ?_ ?_
      · simp only [List.map_toArray, List.map_cons, List.map_nil]
        rfl
      refine (refnonce_calls (x := 18446744073709551615) (by decide)).mono ?_
      rintro e w21 ⟨vn, rfl, hon, hb21⟩
      replace HX := hd (blk_below HX.out hb21)
      replace HZ := hd (blk_below HZ.out hb21)
      replace HBW := hd (below_seq HBW.out hb21)
      obtain ⟨An, cn, rfl, hbn⟩ := hon.bytes 12 (nonceN_length _) (nonceN_ok _)
      have HNO := hd hbn
      clear hon hbn
      refine ⟨_, rfl, ⟨fun _ => hb21, trivial⟩, ?_⟩
      refine uq_norm (a' := ?_) ?_ ?_
      rotate_left
      · show Act.put _ (some 13) _ = _
        simp only [Act.put, List.setIfInBounds_toArray, List.set_cons_zero, List.set_cons_succ, i64_w, i32_w]
        rfl
      clear hb21
      refine uq_one (i := 3) (by kernel_rfl) ?_
      refine uq_makeB (R := fun _ _ => True) (W := w21) (i := 3) (N := 14) rfl rfl (.const (.int .i64 32)) (.const (.int .i64 32)) rfl (by rfl) 32 rfl rfl (by decide) ?_
      intro Am cm w22 hom hbm22
      have HZM := hd (own_bytes4 hom)
      replace HX := hd (blk_below HX.out hbm22)
      replace HZ := hd (blk_below HZ.out hbm22)
      replace HBW := hd (below_seq HBW.out hbm22)
      replace HNO := hd (HNO.out.below hbm22)
      refine ⟨⟨fun _ => hbm22, trivial⟩, ?_⟩
      refine uq_norm (a' := ?_) ?_ ?_
      rotate_left
      · simp only [Act.put, List.setIfInBounds_toArray, List.set_cons_zero, List.set_cons_succ, i64_w, i32_w]
        rfl
      clear hom hbm22
      refine uq_one (i := 4) (by kernel_rfl) ?_
      refine uq_call (R := fun _ _ => True) (i := 4) (N := some 15) rfl rfl Tryd.func72 (by kernel_rfl) rfl #[.slice A 32 c, .slice An 12 cn, .slice none 0 0, .slice Am 32 cm] (by rfl) rfl ?_ ?_
      · simp only [List.map_toArray, List.map_cons, List.map_nil]
        rfl
      have hsz := HBW.out.size
      refine ((HSE _ HBW.out HNO.out HZM.out).out).mono ?_
      rintro e w23 ⟨vs, rfl, hos, hb23⟩
      replace HX := hd (blk_below HX.out hb23)
      replace HZ := hd (blk_below HZ.out hb23)
      replace HBW := hd (below_seq HBW.out hb23)
      replace HNO := hd (HNO.out.below hb23)
      replace HZM := hd (HZM.out.below hb23)
      have HOS := hd (hos.lower hsz)
      clear hos
      refine ⟨_, rfl, ⟨fun _ => hb23, trivial⟩, ?_⟩
      refine uq_norm (a' := ?_) ?_ ?_
      rotate_left
      · show Act.put _ (some 15) _ = _
        simp only [Act.put, List.setIfInBounds_toArray, List.set_cons_zero, List.set_cons_succ, i64_w, i32_w]
        rfl
      clear hb23
      refine uq_pure Keeps.any (i := 5) (N := some 10) (v := ?_) (a' := ?_) (by kernel_rfl) (by kernel_rfl) rfl rfl (by rfl) (fun _ _ _ h => h) ?_ ?_ ?_
      rotate_left 2
      · intro w' hg
        go_simp
        with_reducible rfl
      · simp only [Act.put, List.setIfInBounds_toArray, List.set_cons_zero, List.set_cons_succ, i64_w, i32_w]
        rfl
      refine uq_pure Keeps.any (i := 6) (N := some 16) (v := ?_) (a' := ?_) (by kernel_rfl) (by kernel_rfl) rfl rfl (by rfl) (fun _ _ _ h => h) ?_ ?_ ?_
      rotate_left 2
      · intro w' hg
        go_simp
        with_reducible rfl
      · simp only [Act.put, List.setIfInBounds_toArray, List.set_cons_zero, List.set_cons_succ, i64_w, i32_w]
        rfl
      refine uq_pure Keeps.any (i := 7) (N := some 17) (v := ?_) (a' := ?_) (by kernel_rfl) (by kernel_rfl) rfl rfl (by rfl) (fun _ _ _ h => h) ?_ ?_ ?_
      rotate_left 2
      · intro w' hg
        go_simp
        with_reducible rfl
      · simp only [Act.put, List.setIfInBounds_toArray, List.set_cons_zero, List.set_cons_succ, i64_w, i32_w]
        rfl
      refine uq_pure Keeps.any (i := 8) (N := some 3) (v := ?_) (a' := ?_) (by kernel_rfl) (by kernel_rfl) rfl rfl (by rfl) (fun _ _ _ h => h) ?_ ?_ ?_
      rotate_left 2
      · intro w' hg
        go_simp
        with_reducible rfl
      · simp only [Act.put, List.setIfInBounds_toArray, List.set_cons_zero, List.set_cons_succ, i64_w, i32_w]
        rfl
      refine uq_pure Keeps.any (i := 9) (N := some 4) (v := ?_) (a' := ?_) (by kernel_rfl) (by kernel_rfl) rfl rfl (by rfl) (fun _ _ _ h => h) ?_ ?_ ?_
      rotate_left 2
      · intro w' hg
        go_simp
        with_reducible rfl
      · simp only [Act.put, List.setIfInBounds_toArray, List.set_cons_zero, List.set_cons_succ, i64_w, i32_w]
        rfl
      refine uq_end (by kernel_rfl) ?_
      obtain ⟨As, cs, rfl, hbs⟩ := HOS.out.bytes 48 HSL.out HSO.out
      obtain ⟨gk, rfl, hgk, hgk2⟩ := HOS.out.at_ (by decide)
      have hc32 : (32 : Int) ≤ cs := by have := hbs.2.2.1; omega
      clear hgk hgk2 hbs HK HNO HZM hsz
      go_upto_region 4 with (fail)
      refine uq_start (fun _ _ => True) [5] 6 rfl (by kernel_rfl) ?_
      have hdr := below_drew (Below.refl w23.heap.size w23)
      replace HX := hd (blk_below HX.out hdr)
      replace HZ := hd (blk_below HZ.out hdr)
      replace HOS := hd (HOS.out.below hdr)
      replace HBW := hd (below_seq HBW.out hdr)
      generalize w23.drew = w50 at HOS HX HZ HBW ⊢
      clear hdr
      have t1 := Grow.cells (show w50.cell? ⟨q, 1, none⟩ = some (.int .u64 (N : Int)) by rw [blk_cell HX.out]; rfl)
      refine uq_pure Keeps.any (i := 0) (N := some 18) (v := ?_) (a' := ?_) (by kernel_rfl) (by kernel_rfl) rfl rfl (by rfl) (fun _ _ _ h => h) ?_ ?_ ?_
      rotate_left 2
      · intro w' hg
        go_simp
        with_reducible rfl
      · simp only [Act.put, List.setIfInBounds_toArray, List.set_cons_zero, List.set_cons_succ, i64_w, i32_w]
        rfl
      refine uq_pure Keeps.any (i := 1) (N := some 19) (v := ?_) (a' := ?_) (by kernel_rfl) (by kernel_rfl) rfl rfl (by rfl) (fun _ _ _ h => h) ?_ ?_ ?_
      rotate_left 2
      · intro w' hg
        go_simp
        with_reducible rfl
      · simp only [Act.put, List.setIfInBounds_toArray, List.set_cons_zero, List.set_cons_succ, i64_w, i32_w]
        rfl
      refine uq_pure Keeps.any (i := 2) (N := some 20) (v := ?_) (a' := ?_) (by kernel_rfl) (by kernel_rfl) rfl rfl (by rfl) (fun _ _ _ h => h) ?_ ?_ ?_
      rotate_left 2
      · intro w' hg
        go_simp
        with_reducible rfl
      · simp only [Act.put, List.setIfInBounds_toArray, List.set_cons_zero, List.set_cons_succ, i64_w, i32_w]
        rfl
      refine uq_pure Keeps.any (i := 3) (N := some 21) (v := ?_) (a' := ?_) (by kernel_rfl) (by kernel_rfl) rfl rfl (by rfl) (fun _ _ _ h => h) ?_ ?_ ?_
      rotate_left 2
      · intro w' hg
        go_simp
        with_reducible rfl
      · simp only [Act.put, List.setIfInBounds_toArray, List.set_cons_zero, List.set_cons_succ, i64_w, i32_w]
        rfl
      refine uq_pure Keeps.any (i := 4) (N := some 22) (v := ?_) (a' := ?_) (by kernel_rfl) (by kernel_rfl) rfl rfl (by rfl) (fun _ _ _ h => h) ?_ ?_ ?_
      rotate_left 2
      · intro w' hg
        go_simp
        with_reducible rfl
      · simp only [Act.put, List.setIfInBounds_toArray, List.set_cons_zero, List.set_cons_succ, i64_w, i32_w]
        rfl
      refine uq_one (i := 5) (by kernel_rfl) ?_
      refine uq_storeSt (R := fun _ _ => True) rfl rfl (by rfl) 48 _ _ rfl (q + 1) 0 #[.slice (some ⟨gk, 0, none⟩) 32 cs, .int .u64 (N : Int)] #[.slice none 0 0, .int .u64 0] _ rfl rfl _ HZ.out (by kernel_rfl) (by simp) (by simp [Value.oneCell']) rfl ?_
      intro wz hbz hmz
      refine ⟨⟨fun h => absurd (by decide) h, trivial⟩, ?_⟩
      refine uq_end (by kernel_rfl) ?_
      go_wp2_with fail
      refine bodyPost_ret (results_cell_row rfl _ _ (q + 1) 48 _ (0, 0) _ rfl hbz Tryd.underlying48 rfl (by kernel_rfl)) rfl ?_
      have ho := HOS.out.mod hmz (Apart.one HZ.out (by decide))
      obtain ⟨gk2, e2, h1, h2⟩ := ho.at_ (by decide)
      obtain rfl : gk = gk2 := by injection e2 with e2; injection e2
      have hbb := (own_bytes ho HSO.out).take 32 (by decide)
      rw [HRK.out] at hbb
      exact ⟨⟨some ⟨gk, 0, none⟩, 32, cs⟩, rfl, ⟨gk, rfl, rfl, h1, h2, hbb⟩, HBW.out.trans (hmz.toBelow (fun k hk => by rw [hk]; have := HQ.out; omega) HBW.out.size)⟩
    · refine uq_makeB (R := fun _ _ => True) (W := w5) (i := 3) (N := 14) rfl rfl (.const (.int .i64 32)) (.const (.int .i64 32)) rfl (by rfl) 32 rfl rfl (by decide) ?_
      intro Am cm w21 hom hbm21
      have HZM := hd (own_bytes4 hom)
      replace HX := hd (blk_below HX.out hbm21)
      replace HZ := hd (blk_below HZ.out hbm21)
      replace HBW := hd (below_seq HBW.out hbm21)
      refine ⟨⟨fun _ => hbm21, trivial⟩, ?_⟩
      refine uq_norm (a' := ?_) ?_ ?_
      rotate_left
      · simp only [Act.put, List.setIfInBounds_toArray, List.set_cons_zero, List.set_cons_succ, i64_w, i32_w]
        rfl
      clear hom hbm21
      refine uq_one (i := 2) (by kernel_rfl) ?_
      refine uq_call (R := fun _ _ => True) (i := 2) (N := some 13) rfl rfl Tryd.func73 (by kernel_rfl) rfl #[.int .u64 18446744073709551615] (by rfl) rfl ?_ ?_
      · simp only [List.map_toArray, List.map_cons, List.map_nil]
        rfl
      refine (refnonce_calls (x := 18446744073709551615) (by decide)).mono ?_
      rintro e w22 ⟨vn, rfl, hon, hb22⟩
      replace HX := hd (blk_below HX.out hb22)
      replace HZ := hd (blk_below HZ.out hb22)
      replace HBW := hd (below_seq HBW.out hb22)
      replace HZM := hd (HZM.out.below hb22)
      obtain ⟨An, cn, rfl, hbn⟩ := hon.bytes 12 (nonceN_length _) (nonceN_ok _)
      have HNO := hd hbn
      clear hon hbn
      refine ⟨_, rfl, ⟨fun _ => hb22, trivial⟩, ?_⟩
      refine uq_norm (a' := ?_) ?_ ?_
      rotate_left
      · show Act.put _ (some 13) _ = _
        simp only [Act.put, List.setIfInBounds_toArray, List.set_cons_zero, List.set_cons_succ, i64_w, i32_w]
        rfl
      clear hb22
      refine uq_one (i := 4) (by kernel_rfl) ?_
      refine uq_call (R := fun _ _ => True) (i := 4) (N := some 15) rfl rfl Tryd.func72 (by kernel_rfl) rfl #[.slice A 32 c, .slice An 12 cn, .slice none 0 0, .slice Am 32 cm] (by rfl) rfl ?_ ?_
      · simp only [List.map_toArray, List.map_cons, List.map_nil]
        rfl
      have hsz := HBW.out.size
      refine ((HSE _ HBW.out HNO.out HZM.out).out).mono ?_
      rintro e w23 ⟨vs, rfl, hos, hb23⟩
      replace HX := hd (blk_below HX.out hb23)
      replace HZ := hd (blk_below HZ.out hb23)
      replace HBW := hd (below_seq HBW.out hb23)
      replace HZM := hd (HZM.out.below hb23)
      replace HNO := hd (HNO.out.below hb23)
      have HOS := hd (hos.lower hsz)
      clear hos
      refine ⟨_, rfl, ⟨fun _ => hb23, trivial⟩, ?_⟩
      refine uq_norm (a' := ?_) ?_ ?_
      rotate_left
      · show Act.put _ (some 15) _ = _
        simp only [Act.put, List.setIfInBounds_toArray, List.set_cons_zero, List.set_cons_succ, i64_w, i32_w]
        rfl
      clear hb23
      refine uq_pure Keeps.any (i := 5) (N := some 10) (v := ?_) (a' := ?_) (by kernel_rfl) (by kernel_rfl) rfl rfl (by rfl) (fun _ _ _ h => h) ?_ ?_ ?_
      rotate_left 2
      · intro w' hg
        go_simp
        with_reducible rfl
      · simp only [Act.put, List.setIfInBounds_toArray, List.set_cons_zero, List.set_cons_succ, i64_w, i32_w]
        rfl
      refine uq_pure Keeps.any (i := 6) (N := some 16) (v := ?_) (a' := ?_) (by kernel_rfl) (by kernel_rfl) rfl rfl (by rfl) (fun _ _ _ h => h) ?_ ?_ ?_
      rotate_left 2
      · intro w' hg
        go_simp
        with_reducible rfl
      · simp only [Act.put, List.setIfInBounds_toArray, List.set_cons_zero, List.set_cons_succ, i64_w, i32_w]
        rfl
      refine uq_pure Keeps.any (i := 7) (N := some 17) (v := ?_) (a' := ?_) (by kernel_rfl) (by kernel_rfl) rfl rfl (by rfl) (fun _ _ _ h => h) ?_ ?_ ?_
      rotate_left 2
      · intro w' hg
        go_simp
        with_reducible rfl
      · simp only [Act.put, List.setIfInBounds_toArray, List.set_cons_zero, List.set_cons_succ, i64_w, i32_w]
        rfl
      refine uq_pure Keeps.any (i := 8) (N := some 3) (v := ?_) (a' := ?_) (by kernel_rfl) (by kernel_rfl) rfl rfl (by rfl) (fun _ _ _ h => h) ?_ ?_ ?_
      rotate_left 2
      · intro w' hg
        go_simp
        with_reducible rfl
      · simp only [Act.put, List.setIfInBounds_toArray, List.set_cons_zero, List.set_cons_succ, i64_w, i32_w]
        rfl
      refine uq_pure Keeps.any (i := 9) (N := some 4) (v := ?_) (a' := ?_) (by kernel_rfl) (by kernel_rfl) rfl rfl (by rfl) (fun _ _ _ h => h) ?_ ?_ ?_
      rotate_left 2
      · intro w' hg
        go_simp
        with_reducible rfl
      · simp only [Act.put, List.setIfInBounds_toArray, List.set_cons_zero, List.set_cons_succ, i64_w, i32_w]
        rfl
      refine uq_end (by kernel_rfl) ?_
      obtain ⟨As, cs, rfl, hbs⟩ := HOS.out.bytes 48 HSL.out HSO.out
      obtain ⟨gk, rfl, hgk, hgk2⟩ := HOS.out.at_ (by decide)
      have hc32 : (32 : Int) ≤ cs := by have := hbs.2.2.1; omega
      clear hgk hgk2 hbs HK HNO HZM hsz
      go_upto_region 4 with (fail)
      refine uq_start (fun _ _ => True) [5] 6 rfl (by kernel_rfl) ?_
      have hdr := below_drew (Below.refl w23.heap.size w23)
      replace HX := hd (blk_below HX.out hdr)
      replace HZ := hd (blk_below HZ.out hdr)
      replace HOS := hd (HOS.out.below hdr)
      replace HBW := hd (below_seq HBW.out hdr)
      generalize w23.drew = w50 at HOS HX HZ HBW ⊢
      clear hdr
      have t1 := Grow.cells (show w50.cell? ⟨q, 1, none⟩ = some (.int .u64 (N : Int)) by rw [blk_cell HX.out]; rfl)
      refine uq_pure Keeps.any (i := 0) (N := some 18) (v := ?_) (a' := ?_) (by kernel_rfl) (by kernel_rfl) rfl rfl (by rfl) (fun _ _ _ h => h) ?_ ?_ ?_
      rotate_left 2
      · intro w' hg
        go_simp
        with_reducible rfl
      · simp only [Act.put, List.setIfInBounds_toArray, List.set_cons_zero, List.set_cons_succ, i64_w, i32_w]
        rfl
      refine uq_pure Keeps.any (i := 1) (N := some 19) (v := ?_) (a' := ?_) (by kernel_rfl) (by kernel_rfl) rfl rfl (by rfl) (fun _ _ _ h => h) ?_ ?_ ?_
      rotate_left 2
      · intro w' hg
        go_simp
        with_reducible rfl
      · simp only [Act.put, List.setIfInBounds_toArray, List.set_cons_zero, List.set_cons_succ, i64_w, i32_w]
        rfl
      refine uq_pure Keeps.any (i := 2) (N := some 20) (v := ?_) (a' := ?_) (by kernel_rfl) (by kernel_rfl) rfl rfl (by rfl) (fun _ _ _ h => h) ?_ ?_ ?_
      rotate_left 2
      · intro w' hg
        go_simp
        with_reducible rfl
      · simp only [Act.put, List.setIfInBounds_toArray, List.set_cons_zero, List.set_cons_succ, i64_w, i32_w]
        rfl
      refine uq_pure Keeps.any (i := 3) (N := some 21) (v := ?_) (a' := ?_) (by kernel_rfl) (by kernel_rfl) rfl rfl (by rfl) (fun _ _ _ h => h) ?_ ?_ ?_
      rotate_left 2
      · intro w' hg
        go_simp
        with_reducible rfl
      · simp only [Act.put, List.setIfInBounds_toArray, List.set_cons_zero, List.set_cons_succ, i64_w, i32_w]
        rfl
      refine uq_pure Keeps.any (i := 4) (N := some 22) (v := ?_) (a' := ?_) (by kernel_rfl) (by kernel_rfl) rfl rfl (by rfl) (fun _ _ _ h => h) ?_ ?_ ?_
      rotate_left 2
      · intro w' hg
        go_simp
        with_reducible rfl
      · simp only [Act.put, List.setIfInBounds_toArray, List.set_cons_zero, List.set_cons_succ, i64_w, i32_w]
        rfl
      refine uq_one (i := 5) (by kernel_rfl) ?_
      refine uq_storeSt (R := fun _ _ => True) rfl rfl (by rfl) 48 _ _ rfl (q + 1) 0 #[.slice (some ⟨gk, 0, none⟩) 32 cs, .int .u64 (N : Int)] #[.slice none 0 0, .int .u64 0] _ rfl rfl _ HZ.out (by kernel_rfl) (by simp) (by simp [Value.oneCell']) rfl ?_
      intro wz hbz hmz
      refine ⟨⟨fun h => absurd (by decide) h, trivial⟩, ?_⟩
      refine uq_end (by kernel_rfl) ?_
      go_wp2_with fail
      refine bodyPost_ret (results_cell_row rfl _ _ (q + 1) 48 _ (0, 0) _ rfl hbz Tryd.underlying48 rfl (by kernel_rfl)) rfl ?_
      have ho := HOS.out.mod hmz (Apart.one HZ.out (by decide))
      obtain ⟨gk2, e2, h1, h2⟩ := ho.at_ (by decide)
      obtain rfl : gk = gk2 := by injection e2 with e2; injection e2
      have hbb := (own_bytes ho HSO.out).take 32 (by decide)
      rw [HRK.out] at hbb
      exact ⟨⟨some ⟨gk, 0, none⟩, 32, cs⟩, rfl, ⟨gk, rfl, rfl, h1, h2, hbb⟩, HBW.out.trans (hmz.toBelow (fun k hk => by rw [hk]; have := HQ.out; omega) HBW.out.size)⟩
  · have H32 := hd h32
    have q1 : ((n : Int) != 32) = true := by simp; omega
    have q2 : decide ((n : Int) = 32) = false := by simp; omega
    clear hk hn h32
    have a1 := below_alloc (Below.refl w.heap.size w) (.cells #[.slice A n c, .int .u64 (N : Int)] 48)
    have b1 := blk_new w (.cells #[.slice A n c, .int .u64 (N : Int)] 48)
    have a2 := below_alloc (Below.refl _ (w.alloc (.cells #[.slice A n c, .int .u64 (N : Int)] 48))) (.cells #[.slice none 0 0, .int .u64 0] 48)
    have b2 := blk_new (w.alloc (.cells #[.slice A n c, .int .u64 (N : Int)] 48)) (.cells #[.slice none 0 0, .int .u64 0] 48)
    rw [World.size_alloc] at b2
    have HX := hd (blk_below b1 a2)
    have HZ := hd b2
    have HBW := hd (below_seq a1 a2)
    clear a1 a2 b1 b2
    go_enter Tryd.func48, Tryd.ntmps48
    go_upto_region 1 with (fail)
    generalize ((w.alloc (.cells #[.slice A n c, .int .u64 (N : Int)] 48)).alloc (.cells #[.slice none 0 0, .int .u64 0] 48)) = w3 at HX HZ HBW ⊢
    obtain ⟨q, hq⟩ : ∃ q, Aside0 (w.heap.size = q) := ⟨_, ⟨rfl⟩⟩
    have HQ := hd (show w.heap.size ≤ q by rw [hq.out]; exact Nat.le_refl _)
    rw [hq.out] at HX HZ ⊢
    clear hq
    have c0 : w3.cell? ⟨q, 0, none⟩ = some (.slice A n c) := by rw [blk_cell HX.out]; rfl
    have c1 : w3.cell? ⟨q, 1, none⟩ = some (.int .u64 (N : Int)) := by rw [blk_cell HX.out]; rfl
    go_wp2_with ((with_reducible refine gate_store (t := 48) (p := 2) rfl ?_); go_loud (refine op_storeSt rfl rfl 48 _ _ rfl (q + 1) 0 #[.slice A n c, .int .u64 (N : Int)] #[.slice none 0 0, .int .u64 0] _ rfl rfl _ HZ.out (by kernel_rfl) (by simp) (by simp [Value.oneCell']) rfl ?_); intro wz hbz hmz)
    refine bodyPost_ret (results_cell_row rfl _ _ (q + 1) 48 _ (0, 0) _ rfl hbz Tryd.underlying48 rfl (by kernel_rfl)) rfl ?_
    exact ⟨⟨A, n, c⟩, rfl, fun _ => rfl, fun h => absurd h H32.out, HBW.out.trans (hmz.toBelow (fun k hk => by rw [hk]; have := HQ.out; omega) HBW.out.size)⟩
end
end Go.Proofs.YtlgdplodglchaaaDoor
