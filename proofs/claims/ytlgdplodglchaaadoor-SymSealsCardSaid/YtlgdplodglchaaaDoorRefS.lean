/- The walks through redanref16's states. -/
import Derived.Test.YtlgdplodglchaaaDoorSymA
import Derived.Test.YtlgdplodglchaaaDoorRef16
set_option linter.unusedVariables false
set_option linter.unusedSimpArgs false
namespace Go.Proofs.YtlgdplodglchaaaDoor
open Go.RowKit Go.Proofs.YtlgdplodglchaaaDoorW.PrintWords Go.Proofs.YtlgdplodglchaaaDoorW.PrintLast Go.Proofs.YtlgdplodglchaaaDoorW.PrintMore
section
variable {w : World} {N : Nat} {ck h k : Sl}
set_option maxHeartbeats 4000000 in
set_option maxRecDepth 100000 in
theorem rmixhash_calls {B : Option Addr} {nb cb : Nat} {lh b : List Nat} (hh : Bytes w h.A h.n h.c lh) (hb : Bytes w B nb cb b) (hn1 : h.n ≤ 100000000) (hn2 : nb ≤ 100000000) :
    Calls Tryd.prog 37 #[.agg (stC ck h k N), .slice B nb cb] w fun e w' => ∃ x : Sl, e = .returned (.agg (stC ck x k N)) ∧ OwnK .u8 5 w.heap.size w' x.v (sumN (lh ++ b)) ∧ x.n = 32 ∧ Below w.heap.size w w' := by
  obtain ⟨Ac, nc, cc⟩ := ck
  obtain ⟨Ah, nh, ch⟩ := h
  obtain ⟨Ak, nk, cl⟩ := k
  unfold stC at *
  dsimp only at *
  have HH := hd hh
  have HB := hd hb
  have HLB := hd (show lh.length = nh ∧ b.length = nb from ⟨hh.2.1, hb.2.1⟩)
  have HOK := hd (hh.ok.append hb.ok)
  have HN := hd (And.intro hn1 hn2)
  clear hh hb hn1 hn2
  have a1 := below_alloc (Below.refl w.heap.size w) (.cells #[.slice Ac nc cc, .slice Ah nh ch, .slice Ak nk cl, .int .u64 (N : Int)] 76)
  have b1 := blk_new w (.cells #[.slice Ac nc cc, .slice Ah nh ch, .slice Ak nk cl, .int .u64 (N : Int)] 76)
  have a2 := below_alloc (Below.refl _ (w.alloc (.cells #[.slice Ac nc cc, .slice Ah nh ch, .slice Ak nk cl, .int .u64 (N : Int)] 76))) (.cells #[.slice none 0 0, .slice none 0 0, .slice none 0 0, .int .u64 0] 76)
  have b2 := blk_new (w.alloc (.cells #[.slice Ac nc cc, .slice Ah nh ch, .slice Ak nk cl, .int .u64 (N : Int)] 76)) (.cells #[.slice none 0 0, .slice none 0 0, .slice none 0 0, .int .u64 0] 76)
  rw [World.size_alloc] at b2
  have HX := hd (blk_below b1 a2)
  have HZ := hd b2
  have HBW := hd (below_seq a1 a2)
  clear a1 a2 b1 b2
  go_enter Tryd.func37, Tryd.ntmps37
  go_upto_region 1 with (fail)
  generalize ((w.alloc (.cells #[.slice Ac nc cc, .slice Ah nh ch, .slice Ak nk cl, .int .u64 (N : Int)] 76)).alloc (.cells #[.slice none 0 0, .slice none 0 0, .slice none 0 0, .int .u64 0] 76)) = w3 at HX HZ HBW ⊢
  obtain ⟨q, hq⟩ : ∃ q, Aside0 (w.heap.size = q) := ⟨_, ⟨rfl⟩⟩
  have HQ := hd (show w.heap.size ≤ q by rw [hq.out]; exact Nat.le_refl _)
  rw [hq.out] at HX HZ ⊢
  clear hq
  refine uq_start (fun _ _ => True) [10] 11 rfl (by kernel_rfl) ?_
  have hdr := below_drew (Below.refl w3.heap.size w3)
  replace HX := hd (blk_below HX.out hdr)
  replace HZ := hd (blk_below HZ.out hdr)
  replace HBW := hd (below_seq HBW.out hdr)
  generalize w3.drew = w4 at HX HZ HBW ⊢
  clear hdr
  have t0 := Grow.cells (show w4.cell? ⟨q, 0, none⟩ = some (.slice Ac nc cc) by rw [blk_cell HX.out]; rfl)
  have t1 := Grow.cells (show w4.cell? ⟨q, 1, none⟩ = some (.slice Ah nh ch) by rw [blk_cell HX.out]; rfl)
  have t2 := Grow.cells (show w4.cell? ⟨q, 2, none⟩ = some (.slice Ak nk cl) by rw [blk_cell HX.out]; rfl)
  have t3 := Grow.cells (show w4.cell? ⟨q, 3, none⟩ = some (.int .u64 (N : Int)) by rw [blk_cell HX.out]; rfl)
  refine uq_pure Keeps.any (i := 0) (N := some 5) (v := ?_) (a' := ?_) (by kernel_rfl) (by kernel_rfl) rfl rfl (by rfl) (fun _ _ _ h => h) ?_ ?_ ?_
  rotate_left 2
  · intro w' hg
    go_simp
    with_reducible rfl
  · simp only [Act.put, List.setIfInBounds_toArray, List.set_cons_zero, List.set_cons_succ, i64_w, i32_w]
    rfl
  refine uq_pure Keeps.any (i := 1) (N := some 6) (v := ?_) (a' := ?_) (by kernel_rfl) (by kernel_rfl) rfl rfl (by rfl) (fun _ _ _ h => h) ?_ ?_ ?_
  rotate_left 2
  · intro w' hg
    go_simp
    with_reducible rfl
  · simp only [Act.put, List.setIfInBounds_toArray, List.set_cons_zero, List.set_cons_succ, i64_w, i32_w]
    rfl
  refine uq_pure Keeps.any (i := 2) (N := some 7) (v := ?_) (a' := ?_) (by kernel_rfl) (by kernel_rfl) rfl rfl (by rfl) (fun _ _ _ h => h) ?_ ?_ ?_
  rotate_left 2
  · intro w' hg
    go_simp
    with_reducible rfl
  · simp only [Act.put, List.setIfInBounds_toArray, List.set_cons_zero, List.set_cons_succ, i64_w, i32_w]
    rfl
  refine uq_pure Keeps.any (i := 3) (N := some 8) (v := ?_) (a' := ?_) (by kernel_rfl) (by kernel_rfl) rfl rfl (by rfl) (fun _ _ _ h => h) ?_ ?_ ?_
  rotate_left 2
  · intro w' hg
    go_simp
    with_reducible rfl
  · simp only [Act.put, List.setIfInBounds_toArray, List.set_cons_zero, List.set_cons_succ, i64_w, i32_w]
    rfl
  refine uq_pure Keeps.any (i := 4) (N := some 9) (v := ?_) (a' := ?_) (by kernel_rfl) (by kernel_rfl) rfl rfl (by rfl) (fun _ _ _ h => h) ?_ ?_ ?_
  rotate_left 2
  · intro w' hg
    go_simp
    with_reducible rfl
  · simp only [Act.put, List.setIfInBounds_toArray, List.set_cons_zero, List.set_cons_succ, i64_w, i32_w]
    rfl
  refine uq_pure Keeps.any (i := 7) (N := some 12) (v := ?_) (a' := ?_) (by kernel_rfl) (by kernel_rfl) rfl rfl (by rfl) (fun _ _ _ h => h) ?_ ?_ ?_
  rotate_left 2
  · intro w' hg
    go_simp
    with_reducible rfl
  · simp only [Act.put, List.setIfInBounds_toArray, List.set_cons_zero, List.set_cons_succ, i64_w, i32_w]
    rfl
  refine uq_pure Keeps.any (i := 8) (N := some 13) (v := ?_) (a' := ?_) (by kernel_rfl) (by kernel_rfl) rfl rfl (by rfl) (fun _ _ _ h => h) ?_ ?_ ?_
  rotate_left 2
  · intro w' hg
    go_simp
    with_reducible rfl
  · simp only [Act.put, List.setIfInBounds_toArray, List.set_cons_zero, List.set_cons_succ, i64_w, i32_w]
    rfl
  refine uq_one (i := 5) (by kernel_rfl) ?_
  refine uq_call (R := fun _ _ => True) (i := 5) (N := some 10) rfl rfl Tryd.func67 (by kernel_rfl) rfl #[.slice Ah nh ch, .slice B nb cb] (by rfl) rfl ?_ ?_
  · simp only [List.map_toArray, List.map_cons, List.map_nil]
    rfl
  refine (refjoin_calls (HH.out.below HBW.out) (HB.out.below HBW.out) (by have := HN.out; omega)).mono ?_
  rintro e w21 ⟨vj, rfl, hoj, hb21⟩
  replace HX := hd (blk_below HX.out hb21)
  replace HZ := hd (blk_below HZ.out hb21)
  replace HBW := hd (below_seq HBW.out hb21)
  obtain ⟨Aj, cj, rfl, hjb⟩ := OwnK.bytes (show OwnK .u8 5 _ _ _ _ from hoj) (nh + nb) (by rw [List.length_append, HLB.out.1, HLB.out.2]) HOK.out
  have HJ := hd hjb
  clear hoj hjb
  refine ⟨_, rfl, ⟨fun _ => hb21, trivial⟩, ?_⟩
  refine uq_norm (a' := ?_) ?_ ?_
  rotate_left
  · show Act.put _ (some 10) _ = _
    simp only [Act.put, List.setIfInBounds_toArray, List.set_cons_zero, List.set_cons_succ, i64_w, i32_w]
    rfl
  clear hb21
  refine uq_one (i := 6) (by kernel_rfl) ?_
  refine uq_call (R := fun _ _ => True) (i := 6) (N := some 11) rfl rfl Tryd.func63 (by kernel_rfl) rfl #[.slice Aj (nh + nb) cj] (by rfl) rfl ?_ ?_
  · simp only [List.map_toArray, List.map_cons, List.map_nil]
    rfl
  have hsz := HBW.out.size
  refine (rsum_calls HJ.out (by have := HN.out; omega)).mono ?_
  rintro e w22 ⟨vs, rfl, hos, hb22⟩
  replace HX := hd (blk_below HX.out hb22)
  replace HZ := hd (blk_below HZ.out hb22)
  replace HBW := hd (below_seq HBW.out hb22)
  replace HJ := hd (HJ.out.below hb22)
  obtain ⟨x, rfl, hxn, hx⟩ := hos.sl (n := 32) (sumN_length _)
  have HXS := hd (hx.lower hsz)
  have HXN := hd hxn
  clear hos hxn hx hsz
  refine ⟨_, rfl, ⟨fun _ => hb22, trivial⟩, ?_⟩
  refine uq_norm (a' := ?_) ?_ ?_
  rotate_left
  · show Act.put _ (some 11) _ = _
    simp only [Act.put, List.setIfInBounds_toArray, List.set_cons_zero, List.set_cons_succ, i64_w, i32_w]
    rfl
  clear hb22
  refine uq_pure Keeps.any (i := 9) (N := some 14) (v := ?_) (a' := ?_) (by kernel_rfl) (by kernel_rfl) rfl rfl (by rfl) (fun _ _ _ h => h) ?_ ?_ ?_
  rotate_left 2
  · intro w' hg
    go_simp
    with_reducible rfl
  · simp only [Act.put, List.setIfInBounds_toArray, List.set_cons_zero, List.set_cons_succ, i64_w, i32_w]
    rfl
  refine uq_one (i := 10) (by kernel_rfl) ?_
  refine uq_storeSt (R := fun _ _ => True) rfl rfl (by rfl) 76 _ _ rfl (q + 1) 0 #[.slice Ac nc cc, .slice x.A x.n x.c, .slice Ak nk cl, .int .u64 (N : Int)] #[.slice none 0 0, .slice none 0 0, .slice none 0 0, .int .u64 0] _ rfl rfl _ HZ.out (by kernel_rfl) (by simp) (by simp [Value.oneCell']) rfl ?_
  intro wz hbz hmz
  refine ⟨⟨fun h => absurd (by decide) h, trivial⟩, ?_⟩
  refine uq_end (by kernel_rfl) ?_
  go_wp2_with fail
  refine bodyPost_ret (results_cell_row rfl _ _ (q + 1) 76 _ (0, 0) _ rfl hbz Tryd.underlying76 rfl (by kernel_rfl)) rfl ?_
  exact ⟨x, rfl, HXS.out.mod hmz (Apart.one HZ.out (by decide)), HXN.out, HBW.out.trans (hmz.toBelow (fun k hk => by rw [hk]; have := HQ.out; omega) HBW.out.size)⟩
/-- What the reference's SealIn and OpenIn leave. -/
def RStPost (w : World) (ck h k : Sl) (lh b : List Nat) (B : Option Addr) (nb cb : Nat) (u : List Nat × Nat × Nat) (f : List Nat) (e : Ending) (w' : World) : Prop :=
  ∃ (v : Value) (x : Sl), e = .returned (.tuple #[.agg (stC ck x k u.2.2), v, .int .i64 ((u.2.1 : Nat) : Int)]) ∧ (OwnK .u8 5 w.heap.size w' v u.1 ∨ (v = .slice B nb cb ∧ u.1 = b)) ∧ (u.2.1 = 0 → OwnK .u8 5 w.heap.size w' x.v (sumN (lh ++ f)) ∧ x.n = 32) ∧ (u.2.1 ≠ 0 → x = h) ∧ Below w.heap.size w w'
theorem useC_nil {key b : List Nat} {N : Nat} {r : List Nat × Nat} (h : (useC key N b r).2.1 ≠ 0) : (useC key N b r).1 = [] := by
  unfold useC at h ⊢
  repeat' split at h
  all_goals simp_all
set_option maxHeartbeats 4000000 in
set_option maxRecDepth 100000 in
theorem rsealin_calls {B : Option Addr} {nb cb : Nat} {lh key b : List Nat} (hk : Bytes w k.A k.n k.c key) (hN : N < 2 ^ 64) (hh : Bytes w h.A h.n h.c lh) (hnh : h.n ≤ 10000) (hb : Bytes w B nb cb b) (hnb : nb ≤ 10000) :
    Calls Tryd.prog 41 #[.agg (stC ck h k N), .slice B nb cb] w (RStPost w ck h k lh b B nb cb (useC key N b (sealA key (nonceN N) lh b)) (useC key N b (sealA key (nonceN N) lh b)).1) := by
  obtain ⟨u, hu⟩ : ∃ u, Aside0 (useC key N b (sealA key (nonceN N) lh b) = u) := ⟨_, ⟨rfl⟩⟩
  rw [hu.out]
  have HUO := hd (show BytesOK u.1 by rw [← hu.out]; exact useC_ok hb.ok (sealA_ok _ _ _ hb.ok))
  have HUL := hd (show u.1.length ≤ 100000000 by rw [← hu.out]; exact useC_len (by rw [hb.2.1]; omega) (Nat.le_trans (sealA_len _ _ _ _) (by rw [hb.2.1]; omega)))
  have HUE := hd (show u.2.1 ≠ 0 → u.2.2 = N ∧ u.1 = [] from fun h => ⟨by rw [← hu.out] at h ⊢; exact useC_err' h, by rw [← hu.out] at h ⊢; exact useC_nil h⟩)
  have HR := fun (w1 : World) (hw : Below w.heap.size w w1) => hd (refseal16_calls (hk.below hw) hN (hh.below hw) (hb.below hw) hnh hnb)
  rw [hu.out] at HR
  unfold R16Post at HR
  obtain ⟨Ac, nc, cc⟩ := ck
  obtain ⟨Ah, nh, ch⟩ := h
  obtain ⟨Ak, nk, cl⟩ := k
  unfold stC at *
  dsimp only at *
  have HNH := hd (show nh ≤ 100000000 by omega)
  have HNB := hd (show nb ≤ 100000000 by omega)
  have HH := hd hh
  have HB := hd hb
  obtain ⟨post, hpost⟩ : ∃ post, Aside0 (RStPost w ⟨Ac, nc, cc⟩ ⟨Ah, nh, ch⟩ ⟨Ak, nk, cl⟩ lh b B nb cb u u.1 = post) := ⟨_, ⟨rfl⟩⟩
  rw [hpost.out]
  clear hk hN hh hnh hb hnb hu
  have a1 := below_alloc (Below.refl w.heap.size w) (.cells #[.slice Ac nc cc, .slice Ah nh ch, .slice Ak nk cl, .int .u64 (N : Int)] 76)
  have b1 := blk_new w (.cells #[.slice Ac nc cc, .slice Ah nh ch, .slice Ak nk cl, .int .u64 (N : Int)] 76)
  have a2 := below_alloc (Below.refl _ (w.alloc (.cells #[.slice Ac nc cc, .slice Ah nh ch, .slice Ak nk cl, .int .u64 (N : Int)] 76))) (.cells #[.slice none 0 0, .slice none 0 0, .slice none 0 0, .int .u64 0] 76)
  have b2 := blk_new (w.alloc (.cells #[.slice Ac nc cc, .slice Ah nh ch, .slice Ak nk cl, .int .u64 (N : Int)] 76)) (.cells #[.slice none 0 0, .slice none 0 0, .slice none 0 0, .int .u64 0] 76)
  rw [World.size_alloc] at b2
  have HX := hd (blk_below b1 a2)
  have HZ := hd b2
  have HBW := hd (below_seq a1 a2)
  clear a1 a2 b1 b2
  go_enter Tryd.func41, Tryd.ntmps41
  go_upto_region 1 with (fail)
  generalize ((w.alloc (.cells #[.slice Ac nc cc, .slice Ah nh ch, .slice Ak nk cl, .int .u64 (N : Int)] 76)).alloc (.cells #[.slice none 0 0, .slice none 0 0, .slice none 0 0, .int .u64 0] 76)) = w3 at HX HZ HBW ⊢
  obtain ⟨q, hq⟩ : ∃ q, Aside0 (w.heap.size = q) := ⟨_, ⟨rfl⟩⟩
  have HQ := hd (show w.heap.size ≤ q by rw [hq.out]; exact Nat.le_refl _)
  rw [hq.out] at HX HZ ⊢
  clear hq
  have c0 : w3.cell? ⟨q, 0, none⟩ = some (.slice Ac nc cc) := by rw [blk_cell HX.out]; rfl
  have c1 : w3.cell? ⟨q, 1, none⟩ = some (.slice Ah nh ch) := by rw [blk_cell HX.out]; rfl
  have c2 : w3.cell? ⟨q, 2, none⟩ = some (.slice Ak nk cl) := by rw [blk_cell HX.out]; rfl
  have c3 : w3.cell? ⟨q, 3, none⟩ = some (.int .u64 (N : Int)) := by rw [blk_cell HX.out]; rfl
  go_wp2_with fail
  refine (HR w3 HBW.out).out.mono ?_
  rintro e w4 ⟨v, rfl, hv, hb⟩
  have HV := hd (show OwnK .u8 5 w.heap.size w4 v u.1 ∨ (v = .slice B nb cb ∧ u.1 = b) from hv.imp (fun h => h.lower HBW.out.size) id)
  replace HX := hd (blk_below HX.out hb)
  replace HZ := hd (blk_below HZ.out hb)
  replace HBW := hd (below_seq HBW.out hb)
  clear hv hb c0 c1 c2 c3 HR
  go_upto_region 2 with (fail)
  have hal := below_alloc (Below.refl w4.heap.size w4) (.cells #[.slice Ak nk cl, .int .u64 ((u.2.2 : Nat) : Int)] 48)
  have HC := hd (blk_new w4 (.cells #[.slice Ak nk cl, .int .u64 ((u.2.2 : Nat) : Int)] 48))
  replace HV := hd (show OwnK .u8 5 w.heap.size (w4.alloc (.cells #[.slice Ak nk cl, .int .u64 ((u.2.2 : Nat) : Int)] 48)) v u.1 ∨ (v = .slice B nb cb ∧ u.1 = b) from HV.out.imp (fun h => h.below hal) id)
  replace HX := hd (blk_below HX.out hal)
  replace HZ := hd (blk_below HZ.out hal)
  replace HBW := hd (below_seq HBW.out hal)
  generalize w4.alloc (.cells #[.slice Ak nk cl, .int .u64 ((u.2.2 : Nat) : Int)] 48) = w5 at HV HC HX HZ HBW ⊢
  obtain ⟨gc, hgc⟩ : ∃ g, Aside0 (w4.heap.size = g) := ⟨_, ⟨rfl⟩⟩
  rw [hgc.out] at HC ⊢
  clear hal hgc
  have d0 : w5.cell? ⟨q, 0, none⟩ = some (.slice Ac nc cc) := by rw [blk_cell HX.out]; rfl
  have d1 : w5.cell? ⟨q, 1, none⟩ = some (.slice Ah nh ch) := by rw [blk_cell HX.out]; rfl
  have d2 : w5.cell? ⟨q, 2, none⟩ = some (.slice Ak nk cl) := by rw [blk_cell HX.out]; rfl
  have d3 : w5.cell? ⟨q, 3, none⟩ = some (.int .u64 (N : Int)) := by rw [blk_cell HX.out]; rfl
  by_cases he : u.2.1 = 0
  · have HE := hd he
    have q1 : (((u.2.1 : Nat) : Int) != 0) = false := by simpa using he
    have q2 : decide (((u.2.1 : Nat) : Int) = 0) = true := by simpa using he
    clear he
    obtain ⟨Av, nv, cv, rfl, HVB, HNV⟩ : ∃ Av nv cv, v = .slice Av nv cv ∧ Aside0 (Bytes w5 Av nv cv u.1) ∧ Aside0 (nv ≤ 100000000) := by
      rcases HV.out with ho | ⟨rfl, e⟩
      · obtain ⟨A, c, rfl, hb⟩ := ho.bytes u.1.length rfl HUO.out
        exact ⟨A, _, c, rfl, ⟨hb⟩, ⟨HUL.out⟩⟩
      · rw [e]; exact ⟨B, nb, cb, rfl, ⟨HB.out.below HBW.out⟩, HNB⟩
    go_wp2_with fail
    have HMH := hd (rmixhash_calls (w := w5) (N := N) (ck := ⟨Ac, nc, cc⟩) (h := ⟨Ah, nh, ch⟩) (k := ⟨Ak, nk, cl⟩) (HH.out.below HBW.out) HVB.out HNH.out HNV.out)
    unfold stC at HMH
    dsimp only at HMH
    refine HMH.out.mono ?_
    rintro e w6 ⟨y, rfl, hoy, hyn, hb⟩
    have HY := hd (hoy.lower HBW.out.size)
    have HYN := hd hyn
    replace HV := hd (show OwnK .u8 5 w.heap.size w6 (.slice Av nv cv) u.1 ∨ (Value.slice Av nv cv = .slice B nb cb ∧ u.1 = b) from HV.out.imp (fun h => h.below hb) id)
    replace HC := hd (blk_below HC.out hb)
    replace HX := hd (blk_below HX.out hb)
    replace HZ := hd (blk_below HZ.out hb)
    replace HBW := hd (below_seq HBW.out hb)
    clear hoy hyn hb HMH d0 d1 d2 d3 HVB q1 q2
    go_upto_region 5 with (fail)
    have hal := below_alloc (Below.refl w6.heap.size w6) (.cells #[.slice Ac nc cc, .slice y.A y.n y.c, .slice Ak nk cl, .int .u64 (N : Int)] 76)
    have HT := hd (blk_new w6 (.cells #[.slice Ac nc cc, .slice y.A y.n y.c, .slice Ak nk cl, .int .u64 (N : Int)] 76))
    replace HV := hd (show OwnK .u8 5 w.heap.size (w6.alloc (.cells #[.slice Ac nc cc, .slice y.A y.n y.c, .slice Ak nk cl, .int .u64 (N : Int)] 76)) (.slice Av nv cv) u.1 ∨ (Value.slice Av nv cv = .slice B nb cb ∧ u.1 = b) from HV.out.imp (fun h => h.below hal) id)
    replace HY := hd (HY.out.below hal)
    replace HC := hd (blk_below HC.out hal)
    have hlt := blk_lt HZ.out
    have hlt2 := HBW.out.size
    replace HX := hd (blk_below HX.out hal)
    replace HZ := hd (blk_below HZ.out hal)
    replace HBW := hd (below_seq HBW.out hal)
    generalize w6.alloc (.cells #[.slice Ac nc cc, .slice y.A y.n y.c, .slice Ak nk cl, .int .u64 (N : Int)] 76) = w7 at HV HC HX HZ HBW HT HY ⊢
    obtain ⟨gt, hgt⟩ : ∃ g, Aside0 (w6.heap.size = g) := ⟨_, ⟨rfl⟩⟩
    rw [hgt.out] at HT hlt hlt2 ⊢
    have HGT := hd (And.intro hlt hlt2)
    clear hal hgt hlt hlt2
    have e0 : w7.cell? ⟨gc, 0, none⟩ = some (.slice Ak nk cl) := by rw [blk_cell HC.out]; rfl
    have e1 : w7.cell? ⟨gc, 1, none⟩ = some (.int .u64 ((u.2.2 : Nat) : Int)) := by rw [blk_cell HC.out]; rfl
    go_upto_region 6 with ((with_reducible refine gate_store (t := 48) (p := 29) rfl ?_); go_loud (refine op_storeSt rfl rfl 48 _ _ rfl (gt) 2 #[.slice Ak nk cl, .int .u64 ((u.2.2 : Nat) : Int)] #[.slice Ac nc cc, .slice y.A y.n y.c, .slice Ak nk cl, .int .u64 (N : Int)] _ rfl rfl _ HT.out (by kernel_rfl) (by simp) (by simp [Value.oneCell']) rfl ?_); intro wt hbt hmt)
    have hap := Apart.one HT.out (e := 5) (by decide)
    replace HV := hd (show OwnK .u8 5 w.heap.size wt (.slice Av nv cv) u.1 ∨ (Value.slice Av nv cv = .slice B nb cb ∧ u.1 = b) from HV.out.imp (fun h => h.mod hmt hap) id)
    replace HY := hd (HY.out.mod hmt hap)
    replace HZ := hd (hmt.block HZ.out (fun e => by have := HGT.out.1; omega))
    replace HBW := hd (HBW.out.trans (hmt.toBelow (fun k hk => by rw [hk]; exact HGT.out.2) HBW.out.size))
    have HTT := hd hbt
    clear hap hmt hbt e0 e1 HT HC HX
    have d0 : wt.cell? ⟨gt, 0, none⟩ = some (.slice Ac nc cc) := by rw [blk_cell HTT.out]; rfl
    have d1 : wt.cell? ⟨gt, 1, none⟩ = some (.slice y.A y.n y.c) := by rw [blk_cell HTT.out]; rfl
    have d2 : wt.cell? ⟨gt, 2, none⟩ = some (.slice Ak nk cl) := by rw [blk_cell HTT.out]; rfl
    have d3 : wt.cell? ⟨gt, 3, none⟩ = some (.int .u64 ((u.2.2 : Nat) : Int)) := by rw [blk_cell HTT.out]; rfl
    go_wp2_with ((with_reducible refine gate_store (t := 76) (p := 4) rfl ?_); go_loud (refine op_storeSt rfl rfl 76 _ _ rfl (q + 1) 0 #[.slice Ac nc cc, .slice y.A y.n y.c, .slice Ak nk cl, .int .u64 ((u.2.2 : Nat) : Int)] #[.slice none 0 0, .slice none 0 0, .slice none 0 0, .int .u64 0] _ rfl rfl _ HZ.out (by kernel_rfl) (by simp) (by simp [Value.oneCell']) rfl ?_); intro wz hbz hmz)
    rw [← hpost.out]
    have hap := Apart.one HZ.out (e := 5) (by decide)
    refine bodyPost_ret (resc_2 rfl _ _ (q + 1) 76 _ (0, 0) _ rfl hbz Tryd.underlying76 rfl (by kernel_rfl)) rfl ?_
    exact ⟨_, y, by first | rfl | (rw [HE.out]; rfl) | trace_state, HV.out.imp (fun h => h.mod hmz hap) id, fun _ => ⟨HY.out.mod hmz hap, HYN.out⟩, fun h => absurd HE.out h, HBW.out.trans (hmz.toBelow (fun k hk => by rw [hk]; have := HQ.out; omega) HBW.out.size)⟩
  · have HE := hd he
    have q1 : (((u.2.1 : Nat) : Int) != 0) = true := by simpa using he
    have q2 : decide (((u.2.1 : Nat) : Int) = 0) = false := by simpa using he
    clear he
    go_wp2_with ((with_reducible refine gate_store (t := 76) (p := 4) rfl ?_); go_loud (refine op_storeSt rfl rfl 76 _ _ rfl (q + 1) 0 #[.slice Ac nc cc, .slice Ah nh ch, .slice Ak nk cl, .int .u64 (N : Int)] #[.slice none 0 0, .slice none 0 0, .slice none 0 0, .int .u64 0] _ rfl rfl _ HZ.out (by kernel_rfl) (by simp) (by simp [Value.oneCell']) rfl ?_); intro wz hbz hmz)
    rw [← hpost.out]
    refine bodyPost_ret (resc_2 rfl _ _ (q + 1) 76 _ (0, 0) _ rfl hbz Tryd.underlying76 rfl (by kernel_rfl)) rfl ?_
    obtain ⟨h22, h1⟩ := HUE.out HE.out
    exact ⟨_, ⟨Ah, nh, ch⟩, by rw [h22]; rfl, Or.inl (by rw [h1]; exact OwnK.nil _ _ _ _), fun h => absurd h HE.out, fun _ => rfl, HBW.out.trans (hmz.toBelow (fun k hk => by rw [hk]; have := HQ.out; omega) HBW.out.size)⟩
set_option maxHeartbeats 4000000 in
set_option maxRecDepth 100000 in
theorem ropenin_calls {B : Option Addr} {nb cb : Nat} {lh key b : List Nat} (hk : Bytes w k.A k.n k.c key) (hN : N < 2 ^ 64) (hh : Bytes w h.A h.n h.c lh) (hnh : h.n ≤ 10000) (hb : Bytes w B nb cb b) (hnb : nb ≤ 10000) :
    Calls Tryd.prog 43 #[.agg (stC ck h k N), .slice B nb cb] w (RStPost w ck h k lh b B nb cb (useC key N b (openA key (nonceN N) lh b)) b) := by
  obtain ⟨u, hu⟩ : ∃ u, Aside0 (useC key N b (openA key (nonceN N) lh b) = u) := ⟨_, ⟨rfl⟩⟩
  rw [hu.out]
  have HUO := hd (show BytesOK u.1 by rw [← hu.out]; exact useC_ok hb.ok (openA_ok _ _ _ hb.ok))
  have HUL := hd (show u.1.length ≤ 100000000 by rw [← hu.out]; exact useC_len (by rw [hb.2.1]; omega) (Nat.le_trans (openA_len _ _ _ _) (by rw [hb.2.1]; omega)))
  have HUE := hd (show u.2.1 ≠ 0 → u.2.2 = N ∧ u.1 = [] from fun h => ⟨by rw [← hu.out] at h ⊢; exact useC_err' h, by rw [← hu.out] at h ⊢; exact useC_nil h⟩)
  have HR := fun (w1 : World) (hw : Below w.heap.size w w1) => hd (refopen16_calls (hk.below hw) hN (hh.below hw) (hb.below hw) hnh hnb)
  rw [hu.out] at HR
  unfold R16Post at HR
  obtain ⟨Ac, nc, cc⟩ := ck
  obtain ⟨Ah, nh, ch⟩ := h
  obtain ⟨Ak, nk, cl⟩ := k
  unfold stC at *
  dsimp only at *
  have HNH := hd (show nh ≤ 100000000 by omega)
  have HNB := hd (show nb ≤ 100000000 by omega)
  have HH := hd hh
  have HB := hd hb
  obtain ⟨post, hpost⟩ : ∃ post, Aside0 (RStPost w ⟨Ac, nc, cc⟩ ⟨Ah, nh, ch⟩ ⟨Ak, nk, cl⟩ lh b B nb cb u b = post) := ⟨_, ⟨rfl⟩⟩
  rw [hpost.out]
  clear hk hN hh hnh hb hnb hu
  have a1 := below_alloc (Below.refl w.heap.size w) (.cells #[.slice Ac nc cc, .slice Ah nh ch, .slice Ak nk cl, .int .u64 (N : Int)] 76)
  have b1 := blk_new w (.cells #[.slice Ac nc cc, .slice Ah nh ch, .slice Ak nk cl, .int .u64 (N : Int)] 76)
  have a2 := below_alloc (Below.refl _ (w.alloc (.cells #[.slice Ac nc cc, .slice Ah nh ch, .slice Ak nk cl, .int .u64 (N : Int)] 76))) (.cells #[.slice none 0 0, .slice none 0 0, .slice none 0 0, .int .u64 0] 76)
  have b2 := blk_new (w.alloc (.cells #[.slice Ac nc cc, .slice Ah nh ch, .slice Ak nk cl, .int .u64 (N : Int)] 76)) (.cells #[.slice none 0 0, .slice none 0 0, .slice none 0 0, .int .u64 0] 76)
  rw [World.size_alloc] at b2
  have HX := hd (blk_below b1 a2)
  have HZ := hd b2
  have HBW := hd (below_seq a1 a2)
  clear a1 a2 b1 b2
  go_enter Tryd.func43, Tryd.ntmps43
  go_upto_region 1 with (fail)
  generalize ((w.alloc (.cells #[.slice Ac nc cc, .slice Ah nh ch, .slice Ak nk cl, .int .u64 (N : Int)] 76)).alloc (.cells #[.slice none 0 0, .slice none 0 0, .slice none 0 0, .int .u64 0] 76)) = w3 at HX HZ HBW ⊢
  obtain ⟨q, hq⟩ : ∃ q, Aside0 (w.heap.size = q) := ⟨_, ⟨rfl⟩⟩
  have HQ := hd (show w.heap.size ≤ q by rw [hq.out]; exact Nat.le_refl _)
  rw [hq.out] at HX HZ ⊢
  clear hq
  have c0 : w3.cell? ⟨q, 0, none⟩ = some (.slice Ac nc cc) := by rw [blk_cell HX.out]; rfl
  have c1 : w3.cell? ⟨q, 1, none⟩ = some (.slice Ah nh ch) := by rw [blk_cell HX.out]; rfl
  have c2 : w3.cell? ⟨q, 2, none⟩ = some (.slice Ak nk cl) := by rw [blk_cell HX.out]; rfl
  have c3 : w3.cell? ⟨q, 3, none⟩ = some (.int .u64 (N : Int)) := by rw [blk_cell HX.out]; rfl
  go_wp2_with fail
  refine (HR w3 HBW.out).out.mono ?_
  rintro e w4 ⟨v, rfl, hv, hb⟩
  have HV := hd (show OwnK .u8 5 w.heap.size w4 v u.1 ∨ (v = .slice B nb cb ∧ u.1 = b) from hv.imp (fun h => h.lower HBW.out.size) id)
  replace HX := hd (blk_below HX.out hb)
  replace HZ := hd (blk_below HZ.out hb)
  replace HBW := hd (below_seq HBW.out hb)
  clear hv hb c0 c1 c2 c3 HR
  go_upto_region 2 with (fail)
  have hal := below_alloc (Below.refl w4.heap.size w4) (.cells #[.slice Ak nk cl, .int .u64 ((u.2.2 : Nat) : Int)] 48)
  have HC := hd (blk_new w4 (.cells #[.slice Ak nk cl, .int .u64 ((u.2.2 : Nat) : Int)] 48))
  replace HV := hd (show OwnK .u8 5 w.heap.size (w4.alloc (.cells #[.slice Ak nk cl, .int .u64 ((u.2.2 : Nat) : Int)] 48)) v u.1 ∨ (v = .slice B nb cb ∧ u.1 = b) from HV.out.imp (fun h => h.below hal) id)
  replace HX := hd (blk_below HX.out hal)
  replace HZ := hd (blk_below HZ.out hal)
  replace HBW := hd (below_seq HBW.out hal)
  generalize w4.alloc (.cells #[.slice Ak nk cl, .int .u64 ((u.2.2 : Nat) : Int)] 48) = w5 at HV HC HX HZ HBW ⊢
  obtain ⟨gc, hgc⟩ : ∃ g, Aside0 (w4.heap.size = g) := ⟨_, ⟨rfl⟩⟩
  rw [hgc.out] at HC ⊢
  clear hal hgc
  have d0 : w5.cell? ⟨q, 0, none⟩ = some (.slice Ac nc cc) := by rw [blk_cell HX.out]; rfl
  have d1 : w5.cell? ⟨q, 1, none⟩ = some (.slice Ah nh ch) := by rw [blk_cell HX.out]; rfl
  have d2 : w5.cell? ⟨q, 2, none⟩ = some (.slice Ak nk cl) := by rw [blk_cell HX.out]; rfl
  have d3 : w5.cell? ⟨q, 3, none⟩ = some (.int .u64 (N : Int)) := by rw [blk_cell HX.out]; rfl
  by_cases he : u.2.1 = 0
  · have HE := hd he
    have q1 : (((u.2.1 : Nat) : Int) != 0) = false := by simpa using he
    have q2 : decide (((u.2.1 : Nat) : Int) = 0) = true := by simpa using he
    clear he
    obtain ⟨Av, nv, cv, rfl, HVB, HNV⟩ : ∃ Av nv cv, v = .slice Av nv cv ∧ Aside0 (Bytes w5 Av nv cv u.1) ∧ Aside0 (nv ≤ 100000000) := by
      rcases HV.out with ho | ⟨rfl, e⟩
      · obtain ⟨A, c, rfl, hb⟩ := ho.bytes u.1.length rfl HUO.out
        exact ⟨A, _, c, rfl, ⟨hb⟩, ⟨HUL.out⟩⟩
      · rw [e]; exact ⟨B, nb, cb, rfl, ⟨HB.out.below HBW.out⟩, HNB⟩
    go_wp2_with fail
    have HMH := hd (rmixhash_calls (w := w5) (N := N) (ck := ⟨Ac, nc, cc⟩) (h := ⟨Ah, nh, ch⟩) (k := ⟨Ak, nk, cl⟩) (HH.out.below HBW.out) (HB.out.below HBW.out) HNH.out HNB.out)
    unfold stC at HMH
    dsimp only at HMH
    refine HMH.out.mono ?_
    rintro e w6 ⟨y, rfl, hoy, hyn, hb⟩
    have HY := hd (hoy.lower HBW.out.size)
    have HYN := hd hyn
    replace HV := hd (show OwnK .u8 5 w.heap.size w6 (.slice Av nv cv) u.1 ∨ (Value.slice Av nv cv = .slice B nb cb ∧ u.1 = b) from HV.out.imp (fun h => h.below hb) id)
    replace HC := hd (blk_below HC.out hb)
    replace HX := hd (blk_below HX.out hb)
    replace HZ := hd (blk_below HZ.out hb)
    replace HBW := hd (below_seq HBW.out hb)
    clear hoy hyn hb HMH d0 d1 d2 d3 HVB q1 q2
    go_upto_region 5 with (fail)
    have hal := below_alloc (Below.refl w6.heap.size w6) (.cells #[.slice Ac nc cc, .slice y.A y.n y.c, .slice Ak nk cl, .int .u64 (N : Int)] 76)
    have HT := hd (blk_new w6 (.cells #[.slice Ac nc cc, .slice y.A y.n y.c, .slice Ak nk cl, .int .u64 (N : Int)] 76))
    replace HV := hd (show OwnK .u8 5 w.heap.size (w6.alloc (.cells #[.slice Ac nc cc, .slice y.A y.n y.c, .slice Ak nk cl, .int .u64 (N : Int)] 76)) (.slice Av nv cv) u.1 ∨ (Value.slice Av nv cv = .slice B nb cb ∧ u.1 = b) from HV.out.imp (fun h => h.below hal) id)
    replace HY := hd (HY.out.below hal)
    replace HC := hd (blk_below HC.out hal)
    have hlt := blk_lt HZ.out
    have hlt2 := HBW.out.size
    replace HX := hd (blk_below HX.out hal)
    replace HZ := hd (blk_below HZ.out hal)
    replace HBW := hd (below_seq HBW.out hal)
    generalize w6.alloc (.cells #[.slice Ac nc cc, .slice y.A y.n y.c, .slice Ak nk cl, .int .u64 (N : Int)] 76) = w7 at HV HC HX HZ HBW HT HY ⊢
    obtain ⟨gt, hgt⟩ : ∃ g, Aside0 (w6.heap.size = g) := ⟨_, ⟨rfl⟩⟩
    rw [hgt.out] at HT hlt hlt2 ⊢
    have HGT := hd (And.intro hlt hlt2)
    clear hal hgt hlt hlt2
    have e0 : w7.cell? ⟨gc, 0, none⟩ = some (.slice Ak nk cl) := by rw [blk_cell HC.out]; rfl
    have e1 : w7.cell? ⟨gc, 1, none⟩ = some (.int .u64 ((u.2.2 : Nat) : Int)) := by rw [blk_cell HC.out]; rfl
    go_upto_region 6 with ((with_reducible refine gate_store (t := 48) (p := 29) rfl ?_); go_loud (refine op_storeSt rfl rfl 48 _ _ rfl (gt) 2 #[.slice Ak nk cl, .int .u64 ((u.2.2 : Nat) : Int)] #[.slice Ac nc cc, .slice y.A y.n y.c, .slice Ak nk cl, .int .u64 (N : Int)] _ rfl rfl _ HT.out (by kernel_rfl) (by simp) (by simp [Value.oneCell']) rfl ?_); intro wt hbt hmt)
    have hap := Apart.one HT.out (e := 5) (by decide)
    replace HV := hd (show OwnK .u8 5 w.heap.size wt (.slice Av nv cv) u.1 ∨ (Value.slice Av nv cv = .slice B nb cb ∧ u.1 = b) from HV.out.imp (fun h => h.mod hmt hap) id)
    replace HY := hd (HY.out.mod hmt hap)
    replace HZ := hd (hmt.block HZ.out (fun e => by have := HGT.out.1; omega))
    replace HBW := hd (HBW.out.trans (hmt.toBelow (fun k hk => by rw [hk]; exact HGT.out.2) HBW.out.size))
    have HTT := hd hbt
    clear hap hmt hbt e0 e1 HT HC HX
    have d0 : wt.cell? ⟨gt, 0, none⟩ = some (.slice Ac nc cc) := by rw [blk_cell HTT.out]; rfl
    have d1 : wt.cell? ⟨gt, 1, none⟩ = some (.slice y.A y.n y.c) := by rw [blk_cell HTT.out]; rfl
    have d2 : wt.cell? ⟨gt, 2, none⟩ = some (.slice Ak nk cl) := by rw [blk_cell HTT.out]; rfl
    have d3 : wt.cell? ⟨gt, 3, none⟩ = some (.int .u64 ((u.2.2 : Nat) : Int)) := by rw [blk_cell HTT.out]; rfl
    go_wp2_with ((with_reducible refine gate_store (t := 76) (p := 4) rfl ?_); go_loud (refine op_storeSt rfl rfl 76 _ _ rfl (q + 1) 0 #[.slice Ac nc cc, .slice y.A y.n y.c, .slice Ak nk cl, .int .u64 ((u.2.2 : Nat) : Int)] #[.slice none 0 0, .slice none 0 0, .slice none 0 0, .int .u64 0] _ rfl rfl _ HZ.out (by kernel_rfl) (by simp) (by simp [Value.oneCell']) rfl ?_); intro wz hbz hmz)
    rw [← hpost.out]
    have hap := Apart.one HZ.out (e := 5) (by decide)
    refine bodyPost_ret (resc_2 rfl _ _ (q + 1) 76 _ (0, 0) _ rfl hbz Tryd.underlying76 rfl (by kernel_rfl)) rfl ?_
    exact ⟨_, y, by first | rfl | (rw [HE.out]; rfl) | trace_state, HV.out.imp (fun h => h.mod hmz hap) id, fun _ => ⟨HY.out.mod hmz hap, HYN.out⟩, fun h => absurd HE.out h, HBW.out.trans (hmz.toBelow (fun k hk => by rw [hk]; have := HQ.out; omega) HBW.out.size)⟩
  · have HE := hd he
    have q1 : (((u.2.1 : Nat) : Int) != 0) = true := by simpa using he
    have q2 : decide (((u.2.1 : Nat) : Int) = 0) = false := by simpa using he
    clear he
    go_wp2_with ((with_reducible refine gate_store (t := 76) (p := 4) rfl ?_); go_loud (refine op_storeSt rfl rfl 76 _ _ rfl (q + 1) 0 #[.slice Ac nc cc, .slice Ah nh ch, .slice Ak nk cl, .int .u64 (N : Int)] #[.slice none 0 0, .slice none 0 0, .slice none 0 0, .int .u64 0] _ rfl rfl _ HZ.out (by kernel_rfl) (by simp) (by simp [Value.oneCell']) rfl ?_); intro wz hbz hmz)
    rw [← hpost.out]
    refine bodyPost_ret (resc_2 rfl _ _ (q + 1) 76 _ (0, 0) _ rfl hbz Tryd.underlying76 rfl (by kernel_rfl)) rfl ?_
    obtain ⟨h22, h1⟩ := HUE.out HE.out
    exact ⟨_, ⟨Ah, nh, ch⟩, by rw [h22]; rfl, Or.inl (by rw [h1]; exact OwnK.nil _ _ _ _), fun h => absurd h HE.out, fun _ => rfl, HBW.out.trans (hmz.toBelow (fun k hk => by rw [hk]; have := HQ.out; omega) HBW.out.size)⟩
end
end Go.Proofs.YtlgdplodglchaaaDoor
