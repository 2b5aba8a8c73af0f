/- The walks through redanref16.nonce, Seal, Open. -/
import Derived.Test.YtlgdplodglchaaaDoorM4
import Derived.Test.YtlgdplodglchaaaDoorRefAeadO
import Derived.Test.YtlgdplodglchaaaDoorGLib
set_option linter.unusedVariables false
set_option linter.unusedSimpArgs false
namespace Go.Proofs.YtlgdplodglchaaaDoor
open Go.RowKit Go.Proofs.YtlgdplodglchaaaDoorW.PrintWords Go.Proofs.YtlgdplodglchaaaDoorW.PrintLast Go.Proofs.YtlgdplodglchaaaDoorW.PrintMore
set_option maxRecDepth 100000 in
theorem refnonce_calls {x : Nat} {w : World} (hx : x < 2 ^ 64) :
    Calls Tryd.prog 73 #[.int .u64 (x : Int)] w fun e w' => ∃ v, e = .returned v ∧ OwnK .u8 5 w.heap.size w' v (nonceN x) ∧ Below w.heap.size w w' := by
  go_enter Tryd.func73, Tryd.ntmps73
  go_upto_region 1 with (fail)
  refine uq_start (fun _ _ => True) [] 5 rfl (by kernel_rfl) ?_
  have HBW := hd (below_drew (Below.refl w.heap.size w))
  generalize w.drew = w1 at HBW ⊢
  refine uq_pure Keeps.any (i := 1) (N := some 4) (v := ?_) (a' := ?_) (by kernel_rfl) (by kernel_rfl) rfl rfl (by rfl) (fun _ _ _ h => h) ?_ ?_ ?_
  rotate_left 2
  · intro w' hg
    go_simp
    with_reducible rfl
  · simp only [Act.put, List.setIfInBounds_toArray, List.set_cons_zero, List.set_cons_succ, i64_w, i32_w]
    rfl
  refine uq_two (i := 0) (j := 2) (by kernel_rfl) ?_ ?_
  · refine uq_makeB (R := fun _ _ => True) (W := w1) (i := 0) (N := 3) rfl rfl (.const (.int .i64 4)) (.const (.int .i64 4)) rfl (by rfl) 4 rfl rfl (by decide) ?_
    intro Am cm w21 hom hbm
    have HM := hd (own_bytes4 hom)
    replace HBW := hd (below_seq HBW.out hbm)
    refine ⟨⟨fun _ => hbm, trivial⟩, ?_⟩
    clear hom hbm
    refine uq_norm (a' := ?_) ?_ ?_
    rotate_left
    · simp only [Act.put, List.setIfInBounds_toArray, List.set_cons_zero, List.set_cons_succ, i64_w, i32_w]
      rfl
    refine uq_one (i := 2) (by kernel_rfl) ?_
    refine uq_call (R := fun _ _ => True) (i := 2) (N := some 5) rfl rfl Tryd.func91 (by kernel_rfl) rfl #[.int .u64 (x : Int), .int .i64 8] (by rfl) rfl ?_ ?_
    · simp only [List.map_toArray, List.map_cons, List.map_nil]
      rfl
    refine (refstore_calls x 8 w21 rfl hx).mono ?_
    rintro e w22 ⟨vs, rfl, hos, hb22⟩
    replace HBW := hd (below_seq HBW.out hb22)
    replace HM := hd (HM.out.below hb22)
    replace hos : OwnK .u8 5 _ w22 vs (storeN x 8) := hos
    obtain ⟨As, cs, rfl, _⟩ := hos.bytes 8 (storeN_length _ _) (storeN_ok _ _)
    have HS := hd (own_bytes8 hos)
    clear hos
    refine ⟨_, rfl, ⟨fun _ => hb22, trivial⟩, ?_⟩
    refine uq_norm (a' := ?_) ?_ ?_
    rotate_left
    · show Act.put _ (some 5) _ = _
      simp only [Act.put, List.setIfInBounds_toArray, List.set_cons_zero, List.set_cons_succ, i64_w, i32_w]
      rfl
    clear hb22
    refine uq_one (i := 3) (by kernel_rfl) ?_
    have HSZ2 := hd HBW.out.size
    refine uq_call (R := fun _ _ => True) (i := 3) (N := some 6) rfl rfl Tryd.func67 (by kernel_rfl) rfl #[.slice Am 4 cm, .slice As 8 cs] (by rfl) rfl ?_ ?_
    · simp only [List.map_toArray, List.map_cons, List.map_nil]
      rfl
    refine (refjoin_calls HM.out HS.out (by decide)).mono ?_
    rintro e w23 ⟨vj, rfl, hoj, hb23⟩
    replace HBW := hd (below_seq HBW.out hb23)
    replace HM := hd (HM.out.below hb23)
    replace HS := hd (HS.out.below hb23)
    have HOJ := hd hoj
    clear hoj
    refine ⟨_, rfl, ⟨fun _ => hb23, trivial⟩, ?_⟩
    refine uq_norm (a' := ?_) ?_ ?_
    rotate_left
    · show Act.put _ (some 6) _ = _
      simp only [Act.put, List.setIfInBounds_toArray, List.set_cons_zero, List.set_cons_succ, i64_w, i32_w]
      rfl
    clear hb23
    refine uq_pure Keeps.any (i := 4) (N := some 2) (v := ?_) (a' := ?_) (by kernel_rfl) (by kernel_rfl) rfl rfl (by rfl) (fun _ _ _ h => h) ?_ ?_ ?_
    rotate_left 2
    · intro w' hg
      go_simp
      with_reducible rfl
    · simp only [Act.put, List.setIfInBounds_toArray, List.set_cons_zero, List.set_cons_succ, i64_w, i32_w]
      rfl
    refine uq_end (by kernel_rfl) ?_
    go_wp2
    go_ret
    exact ⟨vj, rfl, HOJ.out.lower HSZ2.out, HBW.out⟩
  · refine uq_call (R := fun _ _ => True) (i := 2) (N := some 5) rfl rfl Tryd.func91 (by kernel_rfl) rfl #[.int .u64 (x : Int), .int .i64 8] (by rfl) rfl ?_ ?_
    · simp only [List.map_toArray, List.map_cons, List.map_nil]
      rfl
    refine (refstore_calls x 8 w1 rfl hx).mono ?_
    rintro e w21 ⟨vs, rfl, hos, hb21⟩
    replace HBW := hd (below_seq HBW.out hb21)
    replace hos : OwnK .u8 5 _ w21 vs (storeN x 8) := hos
    obtain ⟨As, cs, rfl, _⟩ := hos.bytes 8 (storeN_length _ _) (storeN_ok _ _)
    have HS := hd (own_bytes8 hos)
    clear hos
    refine ⟨_, rfl, ⟨fun _ => hb21, trivial⟩, ?_⟩
    refine uq_norm (a' := ?_) ?_ ?_
    rotate_left
    · show Act.put _ (some 5) _ = _
      simp only [Act.put, List.setIfInBounds_toArray, List.set_cons_zero, List.set_cons_succ, i64_w, i32_w]
      rfl
    clear hb21
    refine uq_one (i := 0) (by kernel_rfl) ?_
    refine uq_makeB (R := fun _ _ => True) (W := w21) (i := 0) (N := 3) rfl rfl (.const (.int .i64 4)) (.const (.int .i64 4)) rfl (by rfl) 4 rfl rfl (by decide) ?_
    intro Am cm w22 hom hbm
    have HM := hd (own_bytes4 hom)
    replace HBW := hd (below_seq HBW.out hbm)
    replace HS := hd (HS.out.below hbm)
    refine ⟨⟨fun _ => hbm, trivial⟩, ?_⟩
    clear hom hbm
    refine uq_norm (a' := ?_) ?_ ?_
    rotate_left
    · simp only [Act.put, List.setIfInBounds_toArray, List.set_cons_zero, List.set_cons_succ, i64_w, i32_w]
      rfl
    refine uq_one (i := 3) (by kernel_rfl) ?_
    have HSZ2 := hd HBW.out.size
    refine uq_call (R := fun _ _ => True) (i := 3) (N := some 6) rfl rfl Tryd.func67 (by kernel_rfl) rfl #[.slice Am 4 cm, .slice As 8 cs] (by rfl) rfl ?_ ?_
    · simp only [List.map_toArray, List.map_cons, List.map_nil]
      rfl
    refine (refjoin_calls HM.out HS.out (by decide)).mono ?_
    rintro e w23 ⟨vj, rfl, hoj, hb23⟩
    replace HBW := hd (below_seq HBW.out hb23)
    replace HS := hd (HS.out.below hb23)
    replace HM := hd (HM.out.below hb23)
    have HOJ := hd hoj
    clear hoj
    refine ⟨_, rfl, ⟨fun _ => hb23, trivial⟩, ?_⟩
    refine uq_norm (a' := ?_) ?_ ?_
    rotate_left
    · show Act.put _ (some 6) _ = _
      simp only [Act.put, List.setIfInBounds_toArray, List.set_cons_zero, List.set_cons_succ, i64_w, i32_w]
      rfl
    clear hb23
    refine uq_pure Keeps.any (i := 4) (N := some 2) (v := ?_) (a' := ?_) (by kernel_rfl) (by kernel_rfl) rfl rfl (by rfl) (fun _ _ _ h => h) ?_ ?_ ?_
    rotate_left 2
    · intro w' hg
      go_simp
      with_reducible rfl
    · simp only [Act.put, List.setIfInBounds_toArray, List.set_cons_zero, List.set_cons_succ, i64_w, i32_w]
      rfl
    refine uq_end (by kernel_rfl) ?_
    go_wp2
    go_ret
    exact ⟨vj, rfl, HOJ.out.lower HSZ2.out, HBW.out⟩
/-- What the reference's cipher makes: the cipher then, what came out, the error. What came out is new, or the bytes that came in. -/
def R16Post (w : World) (A : Option Addr) (n c : Nat) (D : Option Addr) (nd cd : Nat) (b : List Nat) (u : List Nat × Nat × Nat) (e : Ending) (w' : World) : Prop :=
  ∃ v, e = .returned (.tuple #[.agg #[.slice A n c, .int .u64 (u.2.2 : Int)], v, .int .i64 (u.2.1 : Int)]) ∧ (OwnK .u8 5 w.heap.size w' v u.1 ∨ (v = .slice D nd cd ∧ u.1 = b)) ∧ Below w.heap.size w w'
section
variable {w : World} {A C D : Option Addr} {n c nc cc nd cd N : Nat} {key ad b : List Nat}
set_option maxHeartbeats 4000000 in
set_option maxRecDepth 100000 in
theorem refseal16_calls (hk : Bytes w A n c key) (hN : N < 2 ^ 64) (ha : Bytes w C nc cc ad) (hb : Bytes w D nd cd b) (hna : nc ≤ 10000) (hnd : nd ≤ 10000) :
    Calls Tryd.prog 50 #[.agg #[.slice A n c, .int .u64 (N : Int)], .slice C nc cc, .slice D nd cd] w (R16Post w A n c D nd cd b (useC key N b (sealA key (nonceN N) ad b))) := by
  obtain ⟨post, hpost⟩ : ∃ post, Aside0 (R16Post w A n c D nd cd b (useC key N b (sealA key (nonceN N) ad b)) = post) := ⟨_, ⟨rfl⟩⟩
  rw [hpost.out]
  have hal := below_alloc (Below.refl w.heap.size w) (.cells #[.slice A n c, .int .u64 (N : Int)] 48)
  have hbx := blk_new w (.cells #[.slice A n c, .int .u64 (N : Int)] 48)
  have hby := blk_new (w.alloc (.cells #[.slice A n c, .int .u64 (N : Int)] 48)) (.cells #[.slice none 0 0, .int .u64 0] 48)
  have hal1 := below_alloc (Below.refl _ (w.alloc (.cells #[.slice A n c, .int .u64 (N : Int)] 48))) (.cells #[.slice none 0 0, .int .u64 0] 48)
  rw [World.size_alloc] at hby
  have HAL := hd (below_seq hal hal1)
  have HBX := hd (blk_below hbx hal1)
  have HBY := hd hby
  have HK := hd hk
  have HA := hd ha
  have HD := hd hb
  have HNA := hd hna
  have HND := hd hnd
  have HNL := hd hN
  have hkl := hk.2.1
  clear hal hbx hby hal1 hk ha hb hna hnd hN
  go_enter Tryd.func50, Tryd.ntmps50
  go_upto_region 1 with (fail)
  generalize ((w.alloc (.cells #[.slice A n c, .int .u64 (N : Int)] 48)).alloc (.cells #[.slice none 0 0, .int .u64 0] 48)) = w3 at HAL HBX HBY ⊢
  obtain ⟨q, hq⟩ : ∃ q, w.heap.size = q := ⟨_, rfl⟩
  have HQ := hd (show w.heap.size ≤ q + 1 by omega)
  rw [hq] at HBX HBY ⊢
  clear hq
  by_cases h0 : n = 0
  · subst h0
    have hu := hd (show useC key N b (sealA key (nonceN N) ad b) = (b, 0, N) by rw [useC, if_pos hkl])
    clear hkl
    have c0 : w3.cell? ⟨q, 0, none⟩ = some (.slice A 0 c) := by rw [blk_cell HBX.out]; rfl
    have c1 : w3.cell? ⟨q, 1, none⟩ = some (.int .u64 (N : Int)) := by rw [blk_cell HBX.out]; rfl
    have g0 := blk_frozen HBY.out 0
    have g1 := blk_frozen (blk_set HBY.out 0 (.slice A 0 c)) 1
    have y0 : w3.cell? ⟨q + 1, 0, none⟩ = some (.slice none 0 0) := by rw [blk_cell HBY.out]; rfl
    have y1 : (w3.setCell ⟨q + 1, 0, none⟩ (.slice A 0 c)).cell? ⟨q + 1, 1, none⟩ = some (.int .u64 0) := by rw [blk_cell (blk_set HBY.out 0 (.slice A 0 c))]; rfl
    go_wp2
    refine bodyPost_ret (resc_2 rfl _ _ (q + 1) 48 _ (0, 0) _ rfl (blk_set (blk_set HBY.out 0 (.slice A 0 c)) 1 (.int .u64 (N : Int))) Tryd.underlying48 rfl (by kernel_rfl)) rfl ?_
    rw [← hpost.out, hu.out]
    exact ⟨_, rfl, Or.inr ⟨rfl, rfl⟩, (HAL.out.setCell (p := ⟨q + 1, 0, none⟩) HQ.out _).setCell (p := ⟨q + 1, 1, none⟩) HQ.out _⟩
  by_cases h1 : n = 32
  · subst h1
    clear h0
    by_cases h2 : N = 18446744073709551615
    · have hu := hd (show useC key N b (sealA key (nonceN N) ad b) = ([], 31, N) by rw [useC, if_neg (by omega), if_neg (by omega), if_pos h2])
      have q2 : ((N : Int) == 18446744073709551615) = true := by simp; omega
      clear hkl h2
      have c0 : w3.cell? ⟨q, 0, none⟩ = some (.slice A 32 c) := by rw [blk_cell HBX.out]; rfl
      have c1 : w3.cell? ⟨q, 1, none⟩ = some (.int .u64 (N : Int)) := by rw [blk_cell HBX.out]; rfl
      have g0 := blk_frozen HBY.out 0
      have g1 := blk_frozen (blk_set HBY.out 0 (.slice A 32 c)) 1
      have y0 : w3.cell? ⟨q + 1, 0, none⟩ = some (.slice none 0 0) := by rw [blk_cell HBY.out]; rfl
      have y1 : (w3.setCell ⟨q + 1, 0, none⟩ (.slice A 32 c)).cell? ⟨q + 1, 1, none⟩ = some (.int .u64 0) := by rw [blk_cell (blk_set HBY.out 0 (.slice A 32 c))]; rfl
      go_wp2
      refine bodyPost_ret (resc_2 rfl _ _ (q + 1) 48 _ (0, 0) _ rfl (blk_set (blk_set HBY.out 0 (.slice A 32 c)) 1 (.int .u64 (N : Int))) Tryd.underlying48 rfl (by kernel_rfl)) rfl ?_
      rw [← hpost.out, hu.out]
      exact ⟨_, rfl, Or.inl (OwnK.nil _ _ _ _), (HAL.out.setCell (p := ⟨q + 1, 0, none⟩) HQ.out _).setCell (p := ⟨q + 1, 1, none⟩) HQ.out _⟩
    have q2 : ((N : Int) == 18446744073709551615) = false := by simp; omega
    have HW := hd (wrap_u64_succ HNL.out h2)
    have HX := hd (show key.length = 32 ∧ N ≠ 18446744073709551615 from ⟨hkl, h2⟩)
    clear hkl h2
    have c0 : w3.cell? ⟨q, 0, none⟩ = some (.slice A 32 c) := by rw [blk_cell HBX.out]; rfl
    have c1 : w3.cell? ⟨q, 1, none⟩ = some (.int .u64 (N : Int)) := by rw [blk_cell HBX.out]; rfl
    go_upto_region 7 with (fail)
    clear c0 c1 q2
    refine up_start [] [(0, true), (1, true), (2, true), (3, true), (5, true), (6, true), (4, false), (7, false), (8, true), (9, true), (10, true), (11, true), (12, true)] (by kernel_rfl) rfl (by kernel_rfl) (by kernel_rfl) ?_
    have hdr := below_drew (Below.refl w3.heap.size w3)
    replace HBX := hd (blk_below HBX.out hdr)
    replace HBY := hd (blk_below HBY.out hdr)
    replace HAL := hd (below_seq HAL.out hdr)
    generalize w3.drew = w5 at hdr HBX HBY HAL ⊢
    clear hdr
    have t0 := Grow.cells (show w5.cell? ⟨q, 0, none⟩ = some (.slice A 32 c) by rw [blk_cell HBX.out]; rfl)
    have t1 := Grow.cells (show w5.cell? ⟨q, 1, none⟩ = some (.int .u64 (N : Int)) by rw [blk_cell HBX.out]; rfl)
    refine seq_pure (i := 0) (N := some 27) (v := ?_) (a' := ?_) rfl rfl (by rfl) (fun _ _ _ h => h) ?_ ?_ ?_
    rotate_left 2
    · intro w' hg
      go_simp
      with_reducible rfl
    · simp only [Act.put, List.setIfInBounds_toArray, List.set_cons_zero, List.set_cons_succ, i64_w, i32_w]
      rfl
    refine seq_pure (i := 1) (N := some 28) (v := ?_) (a' := ?_) rfl rfl (by rfl) (fun _ _ _ h => h) ?_ ?_ ?_
    rotate_left 2
    · intro w' hg
      go_simp
      with_reducible rfl
    · simp only [Act.put, List.setIfInBounds_toArray, List.set_cons_zero, List.set_cons_succ, i64_w, i32_w]
      rfl
    refine seq_pure (i := 2) (N := some 29) (v := ?_) (a' := ?_) rfl rfl (by rfl) (fun _ _ _ h => h) ?_ ?_ ?_
    rotate_left 2
    · intro w' hg
      go_simp
      with_reducible rfl
    · simp only [Act.put, List.setIfInBounds_toArray, List.set_cons_zero, List.set_cons_succ, i64_w, i32_w]
      rfl
    refine seq_pure (i := 3) (N := some 30) (v := ?_) (a' := ?_) rfl rfl (by rfl) (fun _ _ _ h => h) ?_ ?_ ?_
    rotate_left 2
    · intro w' hg
      go_simp
      with_reducible rfl
    · simp only [Act.put, List.setIfInBounds_toArray, List.set_cons_zero, List.set_cons_succ, i64_w, i32_w]
      rfl
    refine seq_pure (i := 5) (N := some 32) (v := ?_) (a' := ?_) rfl rfl (by rfl) (fun _ _ _ h => h) ?_ ?_ ?_
    rotate_left 2
    · intro w' hg
      go_simp
      with_reducible rfl
    · simp only [Act.put, List.setIfInBounds_toArray, List.set_cons_zero, List.set_cons_succ, i64_w, i32_w]
      rfl
    refine seq_pure (i := 6) (N := some 33) (v := ?_) (a' := ?_) rfl rfl (by rfl) (fun _ _ _ h => h) ?_ ?_ ?_
    rotate_left 2
    · intro w' hg
      go_simp
      with_reducible rfl
    · simp only [Act.put, List.setIfInBounds_toArray, List.set_cons_zero, List.set_cons_succ, i64_w, i32_w]
      rfl
    refine seq_call (i := 4) (N := some 31) rfl rfl Tryd.func73 (by kernel_rfl) rfl #[.int .u64 (N : Int)] (by rfl) rfl ?_ ?_
    · simp only [List.map_toArray, List.map_cons, List.map_nil]
      rfl
    refine (refnonce_calls HNL.out).mono ?_
    rintro e w6 ⟨vn, rfl, hon, hb6⟩
    obtain ⟨Bn, cn, rfl, hbn⟩ := hon.bytes 12 (nonceN_length _) (nonceN_ok _)
    replace HBX := hd (blk_below HBX.out hb6)
    replace HBY := hd (blk_below HBY.out hb6)
    replace HAL := hd (below_seq HAL.out hb6)
    have HBN := hd (own_bytes hon (nonceN_ok _))
    refine ⟨_, rfl, fun _ => hb6, ?_⟩
    clear hon hbn hb6
    refine seq_norm (a' := ?_) ?_ ?_
    rotate_left
    · show Act.put _ (some 31) _ = _
      simp only [Act.put, List.setIfInBounds_toArray, List.set_cons_zero, List.set_cons_succ, i64_w, i32_w]
      rfl
    refine seq_call (i := 7) (N := some 34) rfl rfl Tryd.func72 (by kernel_rfl) rfl #[.slice A 32 c, .slice Bn 12 cn, .slice C nc cc, .slice D nd cd] (by rfl) rfl ?_ ?_
    · simp only [List.map_toArray, List.map_cons, List.map_nil]
      rfl
    refine (refseal_any (HK.out.below HAL.out) HBN.out (HA.out.below HAL.out) (HD.out.below HAL.out) HNA.out HND.out).mono ?_
    rintro e w7 ⟨vo, rfl, hoo, hb7⟩
    replace HBX := hd (blk_below HBX.out hb7)
    replace HBY := hd (blk_below HBY.out hb7)
    have HOO := hd (hoo.lower HAL.out.size)
    replace HAL := hd (below_seq HAL.out hb7)
    refine ⟨_, rfl, fun _ => hb7, ?_⟩
    clear hoo hb7
    refine seq_norm (a' := ?_) ?_ ?_
    rotate_left
    · show Act.put _ (some 34) _ = _
      simp only [Act.put, List.setIfInBounds_toArray, List.set_cons_zero, List.set_cons_succ, i64_w, i32_w]
      rfl
    refine seq_pure (i := 8) (N := some 26) (v := ?_) (a' := ?_) rfl rfl (by rfl) (fun _ _ _ h => h) ?_ ?_ ?_
    rotate_left 2
    · intro w' hg
      go_simp
      with_reducible rfl
    · simp only [Act.put, List.setIfInBounds_toArray, List.set_cons_zero, List.set_cons_succ, i64_w, i32_w]
      rfl
    refine seq_pure (i := 9) (N := some 35) (v := ?_) (a' := ?_) rfl rfl (by rfl) (fun _ _ _ h => h) ?_ ?_ ?_
    rotate_left 2
    · intro w' hg
      go_simp
      with_reducible rfl
    · simp only [Act.put, List.setIfInBounds_toArray, List.set_cons_zero, List.set_cons_succ, i64_w, i32_w]
      rfl
    refine seq_pure (i := 10) (N := some 36) (v := ?_) (a' := ?_) rfl rfl (by rfl) (fun _ _ _ h => h) ?_ ?_ ?_
    rotate_left 2
    · intro w' hg
      go_simp
      with_reducible rfl
    · simp only [Act.put, List.setIfInBounds_toArray, List.set_cons_zero, List.set_cons_succ, i64_w, i32_w]
      rfl
    refine seq_pure (i := 11) (N := some 9) (v := ?_) (a' := ?_) rfl rfl (by rfl) (fun _ _ _ h => h) ?_ ?_ ?_
    rotate_left 2
    · intro w' hg
      go_simp
      with_reducible rfl
    · simp only [Act.put, List.setIfInBounds_toArray, List.set_cons_zero, List.set_cons_succ, i64_w, i32_w]
      rfl
    refine seq_pure (i := 12) (N := some 10) (v := ?_) (a' := ?_) rfl rfl (by rfl) (fun _ _ _ h => h) ?_ ?_ ?_
    rotate_left 2
    · intro w' hg
      go_simp
      with_reducible rfl
    · simp only [Act.put, List.setIfInBounds_toArray, List.set_cons_zero, List.set_cons_succ, i64_w, i32_w]
      rfl
    refine seq_done ?_
    clear t0 t1
    have hs : sealA key (nonceN N) ad b = (sealN key (nonceN N) ad b, 0) := by rw [sealA, if_pos ⟨HX.out.1, nonceN_length N⟩]
    rw [hs, show (((sealN key (nonceN N) ad b, 0) : List Nat × Nat).2 : Int) = 0 from rfl]
    rw [hs] at HOO
    have hu := hd (show useC key N b (sealA key (nonceN N) ad b) = (sealN key (nonceN N) ad b, 0, N + 1) by rw [useC, if_neg (by have := HX.out.1; omega), if_neg (by have := HX.out.1; omega), if_neg HX.out.2, hs, if_neg (by simp)])
    have hw := HW.out
    clear hs
    have c0 : w7.cell? ⟨q, 0, none⟩ = some (.slice A 32 c) := by rw [blk_cell HBX.out]; rfl
    have c1 : w7.cell? ⟨q, 1, none⟩ = some (.int .u64 (N : Int)) := by rw [blk_cell HBX.out]; rfl
    have g0 := blk_frozen HBY.out 0
    have g1 := blk_frozen (blk_set HBY.out 0 (.slice A 32 c)) 1
    have y0 : w7.cell? ⟨q + 1, 0, none⟩ = some (.slice none 0 0) := by rw [blk_cell HBY.out]; rfl
    have y1 : (w7.setCell ⟨q + 1, 0, none⟩ (.slice A 32 c)).cell? ⟨q + 1, 1, none⟩ = some (.int .u64 0) := by rw [blk_cell (blk_set HBY.out 0 (.slice A 32 c))]; rfl
    go_wp2
    refine bodyPost_ret (resc_2 rfl _ _ (q + 1) 48 _ (0, 0) _ rfl (blk_set (blk_set HBY.out 0 (.slice A 32 c)) 1 (.int .u64 ((N + 1 : Nat) : Int))) Tryd.underlying48 rfl (by kernel_rfl)) rfl ?_
    rw [← hpost.out, hu.out]
    exact ⟨_, rfl, Or.inl (HOO.out.mod ((Mod.set (S := fun k => k = q + 1) (g := q + 1) (i := 0) w7 rfl _).trans (Mod.set (S := fun k => k = q + 1) (g := q + 1) (i := 1) _ rfl _)) (Apart.one HBY.out (by decide))), (HAL.out.setCell (p := ⟨q + 1, 0, none⟩) HQ.out _).setCell (p := ⟨q + 1, 1, none⟩) HQ.out _⟩
  · have hu := hd (show useC key N b (sealA key (nonceN N) ad b) = ([], 1, N) by rw [useC, if_neg (by omega), if_pos (by omega)])
    have q1 : ((n : Int) == 0) = false := by simp; exact h0
    have q2 : ((n : Int) == 32) = false := by simp; omega
    have q3 : ((n : Int) != 32) = true := by simp; omega
    clear hkl h0 h1
    have c0 : w3.cell? ⟨q, 0, none⟩ = some (.slice A n c) := by rw [blk_cell HBX.out]; rfl
    have c1 : w3.cell? ⟨q, 1, none⟩ = some (.int .u64 (N : Int)) := by rw [blk_cell HBX.out]; rfl
    have g0 := blk_frozen HBY.out 0
    have g1 := blk_frozen (blk_set HBY.out 0 (.slice A n c)) 1
    have y0 : w3.cell? ⟨q + 1, 0, none⟩ = some (.slice none 0 0) := by rw [blk_cell HBY.out]; rfl
    have y1 : (w3.setCell ⟨q + 1, 0, none⟩ (.slice A n c)).cell? ⟨q + 1, 1, none⟩ = some (.int .u64 0) := by rw [blk_cell (blk_set HBY.out 0 (.slice A n c))]; rfl
    go_wp2
    refine bodyPost_ret (resc_2 rfl _ _ (q + 1) 48 _ (0, 0) _ rfl (blk_set (blk_set HBY.out 0 (.slice A n c)) 1 (.int .u64 (N : Int))) Tryd.underlying48 rfl (by kernel_rfl)) rfl ?_
    rw [← hpost.out, hu.out]
    exact ⟨_, rfl, Or.inl (OwnK.nil _ _ _ _), (HAL.out.setCell (p := ⟨q + 1, 0, none⟩) HQ.out _).setCell (p := ⟨q + 1, 1, none⟩) HQ.out _⟩
set_option maxHeartbeats 4000000 in
set_option maxRecDepth 100000 in
theorem refopen16_calls (hk : Bytes w A n c key) (hN : N < 2 ^ 64) (ha : Bytes w C nc cc ad) (hb : Bytes w D nd cd b) (hna : nc ≤ 10000) (hnd : nd ≤ 10000) :
    Calls Tryd.prog 52 #[.agg #[.slice A n c, .int .u64 (N : Int)], .slice C nc cc, .slice D nd cd] w (R16Post w A n c D nd cd b (useC key N b (openA key (nonceN N) ad b))) := by
  obtain ⟨post, hpost⟩ : ∃ post, Aside0 (R16Post w A n c D nd cd b (useC key N b (openA key (nonceN N) ad b)) = post) := ⟨_, ⟨rfl⟩⟩
  rw [hpost.out]
  have hal := below_alloc (Below.refl w.heap.size w) (.cells #[.slice A n c, .int .u64 (N : Int)] 48)
  have hbx := blk_new w (.cells #[.slice A n c, .int .u64 (N : Int)] 48)
  have hby := blk_new (w.alloc (.cells #[.slice A n c, .int .u64 (N : Int)] 48)) (.cells #[.slice none 0 0, .int .u64 0] 48)
  have hal1 := below_alloc (Below.refl _ (w.alloc (.cells #[.slice A n c, .int .u64 (N : Int)] 48))) (.cells #[.slice none 0 0, .int .u64 0] 48)
  rw [World.size_alloc] at hby
  have HAL := hd (below_seq hal hal1)
  have HBX := hd (blk_below hbx hal1)
  have HBY := hd hby
  have HK := hd hk
  have HA := hd ha
  have HD := hd hb
  have HNA := hd hna
  have HND := hd hnd
  have HNL := hd hN
  have hkl := hk.2.1
  clear hal hbx hby hal1 hk ha hb hna hnd hN
  go_enter Tryd.func52, Tryd.ntmps52
  go_upto_region 1 with (fail)
  generalize ((w.alloc (.cells #[.slice A n c, .int .u64 (N : Int)] 48)).alloc (.cells #[.slice none 0 0, .int .u64 0] 48)) = w3 at HAL HBX HBY ⊢
  obtain ⟨q, hq⟩ : ∃ q, w.heap.size = q := ⟨_, rfl⟩
  have HQ := hd (show w.heap.size ≤ q + 1 by omega)
  rw [hq] at HBX HBY ⊢
  clear hq
  by_cases h0 : n = 0
  · subst h0
    have hu := hd (show useC key N b (openA key (nonceN N) ad b) = (b, 0, N) by rw [useC, if_pos hkl])
    clear hkl
    have c0 : w3.cell? ⟨q, 0, none⟩ = some (.slice A 0 c) := by rw [blk_cell HBX.out]; rfl
    have c1 : w3.cell? ⟨q, 1, none⟩ = some (.int .u64 (N : Int)) := by rw [blk_cell HBX.out]; rfl
    have g0 := blk_frozen HBY.out 0
    have g1 := blk_frozen (blk_set HBY.out 0 (.slice A 0 c)) 1
    have y0 : w3.cell? ⟨q + 1, 0, none⟩ = some (.slice none 0 0) := by rw [blk_cell HBY.out]; rfl
    have y1 : (w3.setCell ⟨q + 1, 0, none⟩ (.slice A 0 c)).cell? ⟨q + 1, 1, none⟩ = some (.int .u64 0) := by rw [blk_cell (blk_set HBY.out 0 (.slice A 0 c))]; rfl
    go_wp2
    refine bodyPost_ret (resc_2 rfl _ _ (q + 1) 48 _ (0, 0) _ rfl (blk_set (blk_set HBY.out 0 (.slice A 0 c)) 1 (.int .u64 (N : Int))) Tryd.underlying48 rfl (by kernel_rfl)) rfl ?_
    rw [← hpost.out, hu.out]
    exact ⟨_, rfl, Or.inr ⟨rfl, rfl⟩, (HAL.out.setCell (p := ⟨q + 1, 0, none⟩) HQ.out _).setCell (p := ⟨q + 1, 1, none⟩) HQ.out _⟩
  by_cases h1 : n = 32
  · subst h1
    clear h0
    by_cases h2 : N = 18446744073709551615
    · have hu := hd (show useC key N b (openA key (nonceN N) ad b) = ([], 31, N) by rw [useC, if_neg (by omega), if_neg (by omega), if_pos h2])
      have q2 : ((N : Int) == 18446744073709551615) = true := by simp; omega
      clear hkl h2
      have c0 : w3.cell? ⟨q, 0, none⟩ = some (.slice A 32 c) := by rw [blk_cell HBX.out]; rfl
      have c1 : w3.cell? ⟨q, 1, none⟩ = some (.int .u64 (N : Int)) := by rw [blk_cell HBX.out]; rfl
      have g0 := blk_frozen HBY.out 0
      have g1 := blk_frozen (blk_set HBY.out 0 (.slice A 32 c)) 1
      have y0 : w3.cell? ⟨q + 1, 0, none⟩ = some (.slice none 0 0) := by rw [blk_cell HBY.out]; rfl
      have y1 : (w3.setCell ⟨q + 1, 0, none⟩ (.slice A 32 c)).cell? ⟨q + 1, 1, none⟩ = some (.int .u64 0) := by rw [blk_cell (blk_set HBY.out 0 (.slice A 32 c))]; rfl
      go_wp2
      refine bodyPost_ret (resc_2 rfl _ _ (q + 1) 48 _ (0, 0) _ rfl (blk_set (blk_set HBY.out 0 (.slice A 32 c)) 1 (.int .u64 (N : Int))) Tryd.underlying48 rfl (by kernel_rfl)) rfl ?_
      rw [← hpost.out, hu.out]
      exact ⟨_, rfl, Or.inl (OwnK.nil _ _ _ _), (HAL.out.setCell (p := ⟨q + 1, 0, none⟩) HQ.out _).setCell (p := ⟨q + 1, 1, none⟩) HQ.out _⟩
    have q2 : ((N : Int) == 18446744073709551615) = false := by simp; omega
    have HW := hd (wrap_u64_succ HNL.out h2)
    have HX := hd (show key.length = 32 ∧ N ≠ 18446744073709551615 from ⟨hkl, h2⟩)
    clear hkl h2
    have c0 : w3.cell? ⟨q, 0, none⟩ = some (.slice A 32 c) := by rw [blk_cell HBX.out]; rfl
    have c1 : w3.cell? ⟨q, 1, none⟩ = some (.int .u64 (N : Int)) := by rw [blk_cell HBX.out]; rfl
    go_upto_region 7 with (fail)
    clear c0 c1 q2
    refine up_start [] [(0, true), (1, true), (2, true), (3, true), (5, true), (6, true), (4, false), (7, false), (8, true), (9, true), (10, true), (11, true), (12, true)] (by kernel_rfl) rfl (by kernel_rfl) (by kernel_rfl) ?_
    have hdr := below_drew (Below.refl w3.heap.size w3)
    replace HBX := hd (blk_below HBX.out hdr)
    replace HBY := hd (blk_below HBY.out hdr)
    replace HAL := hd (below_seq HAL.out hdr)
    generalize w3.drew = w5 at hdr HBX HBY HAL ⊢
    clear hdr
    have t0 := Grow.cells (show w5.cell? ⟨q, 0, none⟩ = some (.slice A 32 c) by rw [blk_cell HBX.out]; rfl)
    have t1 := Grow.cells (show w5.cell? ⟨q, 1, none⟩ = some (.int .u64 (N : Int)) by rw [blk_cell HBX.out]; rfl)
    refine seq_pure (i := 0) (N := some 27) (v := ?_) (a' := ?_) rfl rfl (by rfl) (fun _ _ _ h => h) ?_ ?_ ?_
    rotate_left 2
    · intro w' hg
      go_simp
      with_reducible rfl
    · simp only [Act.put, List.setIfInBounds_toArray, List.set_cons_zero, List.set_cons_succ, i64_w, i32_w]
      rfl
    refine seq_pure (i := 1) (N := some 28) (v := ?_) (a' := ?_) rfl rfl (by rfl) (fun _ _ _ h => h) ?_ ?_ ?_
    rotate_left 2
    · intro w' hg
      go_simp
      with_reducible rfl
    · simp only [Act.put, List.setIfInBounds_toArray, List.set_cons_zero, List.set_cons_succ, i64_w, i32_w]
      rfl
    refine seq_pure (i := 2) (N := some 29) (v := ?_) (a' := ?_) rfl rfl (by rfl) (fun _ _ _ h => h) ?_ ?_ ?_
    rotate_left 2
    · intro w' hg
      go_simp
      with_reducible rfl
    · simp only [Act.put, List.setIfInBounds_toArray, List.set_cons_zero, List.set_cons_succ, i64_w, i32_w]
      rfl
    refine seq_pure (i := 3) (N := some 30) (v := ?_) (a' := ?_) rfl rfl (by rfl) (fun _ _ _ h => h) ?_ ?_ ?_
    rotate_left 2
    · intro w' hg
      go_simp
      with_reducible rfl
    · simp only [Act.put, List.setIfInBounds_toArray, List.set_cons_zero, List.set_cons_succ, i64_w, i32_w]
      rfl
    refine seq_pure (i := 5) (N := some 32) (v := ?_) (a' := ?_) rfl rfl (by rfl) (fun _ _ _ h => h) ?_ ?_ ?_
    rotate_left 2
    · intro w' hg
      go_simp
      with_reducible rfl
    · simp only [Act.put, List.setIfInBounds_toArray, List.set_cons_zero, List.set_cons_succ, i64_w, i32_w]
      rfl
    refine seq_pure (i := 6) (N := some 33) (v := ?_) (a' := ?_) rfl rfl (by rfl) (fun _ _ _ h => h) ?_ ?_ ?_
    rotate_left 2
    · intro w' hg
      go_simp
      with_reducible rfl
    · simp only [Act.put, List.setIfInBounds_toArray, List.set_cons_zero, List.set_cons_succ, i64_w, i32_w]
      rfl
    refine seq_call (i := 4) (N := some 31) rfl rfl Tryd.func73 (by kernel_rfl) rfl #[.int .u64 (N : Int)] (by rfl) rfl ?_ ?_
    · simp only [List.map_toArray, List.map_cons, List.map_nil]
      rfl
    refine (refnonce_calls HNL.out).mono ?_
    rintro e w6 ⟨vn, rfl, hon, hb6⟩
    obtain ⟨Bn, cn, rfl, hbn⟩ := hon.bytes 12 (nonceN_length _) (nonceN_ok _)
    replace HBX := hd (blk_below HBX.out hb6)
    replace HBY := hd (blk_below HBY.out hb6)
    replace HAL := hd (below_seq HAL.out hb6)
    have HBN := hd (own_bytes hon (nonceN_ok _))
    refine ⟨_, rfl, fun _ => hb6, ?_⟩
    clear hon hbn hb6
    refine seq_norm (a' := ?_) ?_ ?_
    rotate_left
    · show Act.put _ (some 31) _ = _
      simp only [Act.put, List.setIfInBounds_toArray, List.set_cons_zero, List.set_cons_succ, i64_w, i32_w]
      rfl
    refine seq_call (i := 7) (N := some 34) rfl rfl Tryd.func76 (by kernel_rfl) rfl #[.slice A 32 c, .slice Bn 12 cn, .slice C nc cc, .slice D nd cd] (by rfl) rfl ?_ ?_
    · simp only [List.map_toArray, List.map_cons, List.map_nil]
      rfl
    refine (refopen_any (HK.out.below HAL.out) HBN.out (HA.out.below HAL.out) (HD.out.below HAL.out) HNA.out HND.out).mono ?_
    rintro e w7 ⟨vo, rfl, hoo, hb7⟩
    replace HBX := hd (blk_below HBX.out hb7)
    replace HBY := hd (blk_below HBY.out hb7)
    have HOO := hd (hoo.lower HAL.out.size)
    replace HAL := hd (below_seq HAL.out hb7)
    refine ⟨_, rfl, fun _ => hb7, ?_⟩
    clear hoo hb7
    refine seq_norm (a' := ?_) ?_ ?_
    rotate_left
    · show Act.put _ (some 34) _ = _
      simp only [Act.put, List.setIfInBounds_toArray, List.set_cons_zero, List.set_cons_succ, i64_w, i32_w]
      rfl
    refine seq_pure (i := 8) (N := some 26) (v := ?_) (a' := ?_) rfl rfl (by rfl) (fun _ _ _ h => h) ?_ ?_ ?_
    rotate_left 2
    · intro w' hg
      go_simp
      with_reducible rfl
    · simp only [Act.put, List.setIfInBounds_toArray, List.set_cons_zero, List.set_cons_succ, i64_w, i32_w]
      rfl
    refine seq_pure (i := 9) (N := some 35) (v := ?_) (a' := ?_) rfl rfl (by rfl) (fun _ _ _ h => h) ?_ ?_ ?_
    rotate_left 2
    · intro w' hg
      go_simp
      with_reducible rfl
    · simp only [Act.put, List.setIfInBounds_toArray, List.set_cons_zero, List.set_cons_succ, i64_w, i32_w]
      rfl
    refine seq_pure (i := 10) (N := some 36) (v := ?_) (a' := ?_) rfl rfl (by rfl) (fun _ _ _ h => h) ?_ ?_ ?_
    rotate_left 2
    · intro w' hg
      go_simp
      with_reducible rfl
    · simp only [Act.put, List.setIfInBounds_toArray, List.set_cons_zero, List.set_cons_succ, i64_w, i32_w]
      rfl
    refine seq_pure (i := 11) (N := some 9) (v := ?_) (a' := ?_) rfl rfl (by rfl) (fun _ _ _ h => h) ?_ ?_ ?_
    rotate_left 2
    · intro w' hg
      go_simp
      with_reducible rfl
    · simp only [Act.put, List.setIfInBounds_toArray, List.set_cons_zero, List.set_cons_succ, i64_w, i32_w]
      rfl
    refine seq_pure (i := 12) (N := some 10) (v := ?_) (a' := ?_) rfl rfl (by rfl) (fun _ _ _ h => h) ?_ ?_ ?_
    rotate_left 2
    · intro w' hg
      go_simp
      with_reducible rfl
    · simp only [Act.put, List.setIfInBounds_toArray, List.set_cons_zero, List.set_cons_succ, i64_w, i32_w]
      rfl
    refine seq_done ?_
    clear t0 t1
    obtain ⟨r, hr⟩ : ∃ r, r = openA key (nonceN N) ad b := ⟨_, rfl⟩
    rw [← hr] at HOO ⊢
    have HR := hd hr
    clear hr
    by_cases hr : r.2 = 0
    · have hu := hd (show useC key N b (openA key (nonceN N) ad b) = (r.1, 0, N + 1) by rw [← HR.out, useC, if_neg (by have := HX.out.1; omega), if_neg (by have := HX.out.1; omega), if_neg HX.out.2, if_neg (by simp [hr])])
      rw [hr, show ((0 : Nat) : Int) = 0 from rfl]
      have hw := HW.out
      clear hr
      have c0 : w7.cell? ⟨q, 0, none⟩ = some (.slice A 32 c) := by rw [blk_cell HBX.out]; rfl
      have c1 : w7.cell? ⟨q, 1, none⟩ = some (.int .u64 (N : Int)) := by rw [blk_cell HBX.out]; rfl
      have g0 := blk_frozen HBY.out 0
      have g1 := blk_frozen (blk_set HBY.out 0 (.slice A 32 c)) 1
      have y0 : w7.cell? ⟨q + 1, 0, none⟩ = some (.slice none 0 0) := by rw [blk_cell HBY.out]; rfl
      have y1 : (w7.setCell ⟨q + 1, 0, none⟩ (.slice A 32 c)).cell? ⟨q + 1, 1, none⟩ = some (.int .u64 0) := by rw [blk_cell (blk_set HBY.out 0 (.slice A 32 c))]; rfl
      go_wp2
      refine bodyPost_ret (resc_2 rfl _ _ (q + 1) 48 _ (0, 0) _ rfl (blk_set (blk_set HBY.out 0 (.slice A 32 c)) 1 (.int .u64 ((N + 1 : Nat) : Int))) Tryd.underlying48 rfl (by kernel_rfl)) rfl ?_
      rw [← hpost.out, hu.out]
      exact ⟨_, rfl, Or.inl (HOO.out.mod ((Mod.set (S := fun k => k = q + 1) (g := q + 1) (i := 0) w7 rfl _).trans (Mod.set (S := fun k => k = q + 1) (g := q + 1) (i := 1) _ rfl _)) (Apart.one HBY.out (by decide))), (HAL.out.setCell (p := ⟨q + 1, 0, none⟩) HQ.out _).setCell (p := ⟨q + 1, 1, none⟩) HQ.out _⟩
    · have hu := hd (show useC key N b (openA key (nonceN N) ad b) = ([], r.2, N) by rw [← HR.out, useC, if_neg (by have := HX.out.1; omega), if_neg (by have := HX.out.1; omega), if_neg HX.out.2, if_pos hr])
      have q' : (((r.2 : Nat) : Int) != 0) = true := by simp; exact hr
      have q'' : (((r.2 : Nat) : Int) == 0) = false := by simp; exact hr
      have HRN := hd hr
      have c0 : w7.cell? ⟨q, 0, none⟩ = some (.slice A 32 c) := by rw [blk_cell HBX.out]; rfl
      have c1 : w7.cell? ⟨q, 1, none⟩ = some (.int .u64 (N : Int)) := by rw [blk_cell HBX.out]; rfl
      have g0 := blk_frozen HBY.out 0
      have g1 := blk_frozen (blk_set HBY.out 0 (.slice A 32 c)) 1
      have y0 : w7.cell? ⟨q + 1, 0, none⟩ = some (.slice none 0 0) := by rw [blk_cell HBY.out]; rfl
      have y1 : (w7.setCell ⟨q + 1, 0, none⟩ (.slice A 32 c)).cell? ⟨q + 1, 1, none⟩ = some (.int .u64 0) := by rw [blk_cell (blk_set HBY.out 0 (.slice A 32 c))]; rfl
      go_wp2
      refine bodyPost_ret (resc_2 rfl _ _ (q + 1) 48 _ (0, 0) _ rfl (blk_set (blk_set HBY.out 0 (.slice A 32 c)) 1 (.int .u64 (N : Int))) Tryd.underlying48 rfl (by kernel_rfl)) rfl ?_
      rw [← hpost.out, hu.out]
      exact ⟨_, rfl, Or.inl (OwnK.nil _ _ _ _), (HAL.out.setCell (p := ⟨q + 1, 0, none⟩) HQ.out _).setCell (p := ⟨q + 1, 1, none⟩) HQ.out _⟩
  · have hu := hd (show useC key N b (openA key (nonceN N) ad b) = ([], 1, N) by rw [useC, if_neg (by omega), if_pos (by omega)])
    have q1 : ((n : Int) == 0) = false := by simp; exact h0
    have q2 : ((n : Int) == 32) = false := by simp; omega
    have q3 : ((n : Int) != 32) = true := by simp; omega
    clear hkl h0 h1
    have c0 : w3.cell? ⟨q, 0, none⟩ = some (.slice A n c) := by rw [blk_cell HBX.out]; rfl
    have c1 : w3.cell? ⟨q, 1, none⟩ = some (.int .u64 (N : Int)) := by rw [blk_cell HBX.out]; rfl
    have g0 := blk_frozen HBY.out 0
    have g1 := blk_frozen (blk_set HBY.out 0 (.slice A n c)) 1
    have y0 : w3.cell? ⟨q + 1, 0, none⟩ = some (.slice none 0 0) := by rw [blk_cell HBY.out]; rfl
    have y1 : (w3.setCell ⟨q + 1, 0, none⟩ (.slice A n c)).cell? ⟨q + 1, 1, none⟩ = some (.int .u64 0) := by rw [blk_cell (blk_set HBY.out 0 (.slice A n c))]; rfl
    go_wp2
    refine bodyPost_ret (resc_2 rfl _ _ (q + 1) 48 _ (0, 0) _ rfl (blk_set (blk_set HBY.out 0 (.slice A n c)) 1 (.int .u64 (N : Int))) Tryd.underlying48 rfl (by kernel_rfl)) rfl ?_
    rw [← hpost.out, hu.out]
    exact ⟨_, rfl, Or.inl (OwnK.nil _ _ _ _), (HAL.out.setCell (p := ⟨q + 1, 0, none⟩) HQ.out _).setCell (p := ⟨q + 1, 1, none⟩) HQ.out _⟩
end
end Go.Proofs.YtlgdplodglchaaaDoor
