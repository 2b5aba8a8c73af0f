/- The walk through sym.Cipher.Rekey. -/
import Derived.Test.YtlgdplodglchaaaDoorM7
set_option linter.unusedVariables false
set_option linter.unusedSimpArgs false
namespace Go.Proofs.YtlgdplodglchaaaDoor
open Go.RowKit Go.Proofs.YtlgdplodglchaaaDoorW.PrintWords Go.Proofs.YtlgdplodglchaaaDoorW.PrintLast Go.Proofs.YtlgdplodglchaaaDoorW.PrintMore
def topN : Nat := 18446744073709551615
/-- Another key. -/
def rekN (key : List Nat) : List Nat := if key.length = 32 then (sealN key (nonceN topN) [] (List.replicate 32 0)).take 32 else key
theorem rekN_len {key : List Nat} (h : key.length = 32) : (rekN key).length = 32 := by rw [rekN, if_pos h, List.length_take, sealN_length]; simp
theorem Bytes.modB {w w1 : World} {gk n c : Nat} {l : List Nat} {S : Nat → Prop} (h : Bytes w (some ⟨gk, 0, none⟩) n c l) (hm : Mod S w w1) (hlt : gk < w.heap.size) (hS : ¬ S gk) : Bytes w1 (some ⟨gk, 0, none⟩) n c l := by
  refine ⟨RowK.of_at h.1.max (fun i hi => ?_), h.2⟩
  obtain ⟨ad, x, e, HX, hc⟩ := h.1.at_ i hi
  injection e with e
  subst e
  rw [add_plain] at hc ⊢
  rw [HX.out]
  have hh := hm.same gk hlt hS
  unfold World.cell? at hc ⊢
  dsimp only at hc ⊢
  rw [hh]
  exact hc
set_option maxHeartbeats 4000000 in
set_option maxRecDepth 100000 in
theorem crekey_calls {w : World} {g o T N n c : Nat} {A : Option Addr} {cs : Array Value} {key : List Nat} (hs : w.heap[g]? = some (.cells cs T (0, 0))) (e0 : cs[o]? = some (.slice A n c)) (hk : Bytes w A n c key) (hn : n ≤ 100000000) (hpl : PlacesAt w) :
    Calls Tryd.prog 47 #[.pointer (some ⟨g, o, none⟩)] w fun e w' => e = .returned (.tuple #[]) ∧ ((n ≠ 32 ∧ Below w.heap.size w w') ∨
      (n = 32 ∧ ∃ gk w1, w' = w1.setCell ⟨g, o, none⟩ (.slice (some ⟨gk, 0, none⟩) 32 32) ∧ Below w.heap.size w w1 ∧ w.heap.size ≤ gk ∧ gk < w1.heap.size ∧ Bytes w' (some ⟨gk, 0, none⟩) 32 32 (rekN key))) := by
  have HPL := hd hpl
  have c0 : w.cell? ⟨g, o, none⟩ = some (.slice A n c) := by rw [blk_cell hs]; exact e0
  have HGL := hd (blk_lt hs)
  have HKL := hd hk.2.1
  have E0 := hd e0
  clear hpl e0
  go_enter Tryd.func47, Tryd.ntmps47
  go_upto_region 1 with (fail)
  go_cut [2, 3] (fun u2 u3 wz => ∃ vs, u2 = vs ∧ u3 = .int .i64 (((sealA key (nonceN 18446744073709551615) [] (List.replicate 32 0)).2 : Nat) : Int) ∧ Aside0 (OwnK .u8 5 w.heap.size wz vs (sealA key (nonceN 18446744073709551615) [] (List.replicate 32 0)).1) ∧ Aside0 (wz.heap[g]? = some (.cells cs T (0, 0))) ∧ Aside0 (Below w.heap.size w wz))
  case first =>
    refine uq_start (fun _ _ => True) [] 12 rfl (by kernel_rfl) ?_
    have hdr := below_drew (Below.refl w.heap.size w)
    have HK := hd (hk.below hdr)
    have HS := hd (blk_below hs hdr)
    have HBW := hd hdr
    have t0 := Grow.cells (show w.drew.cell? ⟨g, o, none⟩ = _ from c0)
    generalize w.drew = w1 at hdr HK HS HBW t0 ⊢
    clear hdr hk hs c0
    refine uq_pure Keeps.any (i := 0) (N := some 7) (v := ?_) (a' := ?_) (by kernel_rfl) (by kernel_rfl) rfl rfl (by rfl) (fun _ _ _ h => h) ?_ ?_ ?_
    rotate_left 2
    · intro w' hg
      go_simp
      with_reducible rfl
    · simp only [Act.put, List.setIfInBounds_toArray, List.set_cons_zero, List.set_cons_succ, i64_w, i32_w]
      rfl
    refine uq_pure Keeps.any (i := 1) (N := some 8) (v := ?_) (a' := ?_) (by kernel_rfl) (by kernel_rfl) rfl rfl (by rfl) (fun _ _ _ h => h) ?_ ?_ ?_
    rotate_left 2
    · intro w' hg
      go_simp
      with_reducible rfl
    · simp only [Act.put, List.setIfInBounds_toArray, List.set_cons_zero, List.set_cons_succ, i64_w, i32_w]
      rfl
    refine uq_pure Keeps.any (i := 2) (N := some 9) (v := ?_) (a' := ?_) (by kernel_rfl) (by kernel_rfl) rfl rfl (by rfl) (fun _ _ _ h => h) ?_ ?_ ?_
    rotate_left 2
    · intro w' hg
      go_simp
      with_reducible rfl
    · simp only [Act.put, List.setIfInBounds_toArray, List.set_cons_zero, List.set_cons_succ, i64_w, i32_w]
      rfl
    refine uq_pure Keeps.any (i := 3) (N := some 10) (v := ?_) (a' := ?_) (by kernel_rfl) (by kernel_rfl) rfl rfl (by rfl) (fun _ _ _ h => h) ?_ ?_ ?_
    rotate_left 2
    · intro w' hg
      go_simp
      with_reducible rfl
    · simp only [Act.put, List.setIfInBounds_toArray, List.set_cons_zero, List.set_cons_succ, i64_w, i32_w]
      rfl
    refine uq_two (i := 4) (j := 5) (by kernel_rfl) ?_ ?_
    · refine uq_call (R := fun _ _ => True) (i := 4) (N := some 11) rfl rfl Tryd.func71 (by kernel_rfl) rfl #[.int .u64 18446744073709551615] (by rfl) rfl ?_ ?_
      · simp only [List.map_toArray, List.map_cons, List.map_nil]
        rfl
      refine (nonce_calls (x := 18446744073709551615) (by decide)).mono ?_
      rintro e w21 ⟨vn, rfl, hon, hb21⟩
      replace HK := hd (HK.out.below hb21)
      replace HS := hd (blk_below HS.out hb21)
      replace HBW := hd (below_seq HBW.out hb21)
      obtain ⟨An, cn, rfl, hbn⟩ := hon.bytes 12 (nonceN_length _) (nonceN_ok _)
      have HNO := hd hbn
      clear hon hbn
      refine ⟨_, rfl, ⟨fun _ => hb21, trivial⟩, ?_⟩
      refine uq_norm (a' := ?_) ?_ ?_
      rotate_left
      · show Act.put _ (some 11) _ = _
        simp only [Act.put, List.setIfInBounds_toArray, List.set_cons_zero, List.set_cons_succ, i64_w, i32_w]
        rfl
      clear hb21
      refine uq_one (i := 5) (by kernel_rfl) ?_
      refine uq_makeB (R := fun _ _ => True) (W := w21) (i := 5) (N := 12) rfl rfl (.const (.int .i64 32)) (.const (.int .i64 32)) rfl (by rfl) 32 rfl rfl (by decide) ?_
      intro Am cm w22 hom hbm22
      have HZM := hd (own_bytes4 hom)
      replace HK := hd (HK.out.below hbm22)
      replace HS := hd (blk_below HS.out hbm22)
      replace HBW := hd (below_seq HBW.out hbm22)
      replace HNO := hd (HNO.out.below hbm22)
      refine ⟨⟨fun _ => hbm22, trivial⟩, ?_⟩
      refine uq_norm (a' := ?_) ?_ ?_
      rotate_left
      · simp only [Act.put, List.setIfInBounds_toArray, List.set_cons_zero, List.set_cons_succ, i64_w, i32_w]
        rfl
      clear hom hbm22
      refine uq_one (i := 6) (by kernel_rfl) ?_
      refine uq_call (R := fun _ _ => True) (i := 6) (N := some 13) rfl rfl Tryd.func70 (by kernel_rfl) rfl #[.slice A n c, .slice An 12 cn, .slice none 0 0, .slice Am 32 cm] (by rfl) rfl ?_ ?_
      · simp only [List.map_toArray, List.map_cons, List.map_nil]
        rfl
      have hsz := HBW.out.size
      refine (seal_any HK.out HNO.out (Bytes.nil _ none 0) HZM.out (HPL.out.below HBW.out) (by decide) (by decide)).mono ?_
      rintro e w23 ⟨vs, rfl, hos, hb23⟩
      replace HK := hd (HK.out.below hb23)
      replace HS := hd (blk_below HS.out hb23)
      replace HBW := hd (below_seq HBW.out hb23)
      replace HNO := hd (HNO.out.below hb23)
      replace HZM := hd (HZM.out.below hb23)
      have HOS := hd hos
      clear hos
      refine ⟨_, rfl, ⟨fun _ => hb23, trivial⟩, ?_⟩
      refine uq_norm (a' := ?_) ?_ ?_
      rotate_left
      · show Act.put _ (some 13) _ = _
        simp only [Act.put, List.setIfInBounds_toArray, List.set_cons_zero, List.set_cons_succ, i64_w, i32_w]
        rfl
      clear hb23
      refine uq_pure Keeps.any (i := 7) (N := some 6) (v := ?_) (a' := ?_) (by kernel_rfl) (by kernel_rfl) rfl rfl (by rfl) (fun _ _ _ h => h) ?_ ?_ ?_
      rotate_left 2
      · intro w' hg
        go_simp
        with_reducible rfl
      · simp only [Act.put, List.setIfInBounds_toArray, List.set_cons_zero, List.set_cons_succ, i64_w, i32_w]
        rfl
      refine uq_pure Keeps.any (i := 8) (N := some 14) (v := ?_) (a' := ?_) (by kernel_rfl) (by kernel_rfl) rfl rfl (by rfl) (fun _ _ _ h => h) ?_ ?_ ?_
      rotate_left 2
      · intro w' hg
        go_simp
        with_reducible rfl
      · simp only [Act.put, List.setIfInBounds_toArray, List.set_cons_zero, List.set_cons_succ, i64_w, i32_w]
        rfl
      refine uq_pure Keeps.any (i := 9) (N := some 15) (v := ?_) (a' := ?_) (by kernel_rfl) (by kernel_rfl) rfl rfl (by rfl) (fun _ _ _ h => h) ?_ ?_ ?_
      rotate_left 2
      · intro w' hg
        go_simp
        with_reducible rfl
      · simp only [Act.put, List.setIfInBounds_toArray, List.set_cons_zero, List.set_cons_succ, i64_w, i32_w]
        rfl
      refine uq_pure Keeps.any (i := 10) (N := some 2) (v := ?_) (a' := ?_) (by kernel_rfl) (by kernel_rfl) rfl rfl (by rfl) (fun _ _ _ h => h) ?_ ?_ ?_
      rotate_left 2
      · intro w' hg
        go_simp
        with_reducible rfl
      · simp only [Act.put, List.setIfInBounds_toArray, List.set_cons_zero, List.set_cons_succ, i64_w, i32_w]
        rfl
      refine uq_pure Keeps.any (i := 11) (N := some 3) (v := ?_) (a' := ?_) (by kernel_rfl) (by kernel_rfl) rfl rfl (by rfl) (fun _ _ _ h => h) ?_ ?_ ?_
      rotate_left 2
      · intro w' hg
        go_simp
        with_reducible rfl
      · simp only [Act.put, List.setIfInBounds_toArray, List.set_cons_zero, List.set_cons_succ, i64_w, i32_w]
        rfl
      refine uq_end (by kernel_rfl) ?_
      go_wp2_with fail
      go_meet
      case rel => exact ⟨vs, rfl, rfl, ⟨HOS.out.lower hsz⟩, HS, HBW⟩
    · refine uq_makeB (R := fun _ _ => True) (W := w1) (i := 5) (N := 12) rfl rfl (.const (.int .i64 32)) (.const (.int .i64 32)) rfl (by rfl) 32 rfl rfl (by decide) ?_
      intro Am cm w21 hom hbm21
      have HZM := hd (own_bytes4 hom)
      replace HK := hd (HK.out.below hbm21)
      replace HS := hd (blk_below HS.out hbm21)
      replace HBW := hd (below_seq HBW.out hbm21)
      refine ⟨⟨fun _ => hbm21, trivial⟩, ?_⟩
      refine uq_norm (a' := ?_) ?_ ?_
      rotate_left
      · simp only [Act.put, List.setIfInBounds_toArray, List.set_cons_zero, List.set_cons_succ, i64_w, i32_w]
        rfl
      clear hom hbm21
      refine uq_one (i := 4) (by kernel_rfl) ?_
      refine uq_call (R := fun _ _ => True) (i := 4) (N := some 11) rfl rfl Tryd.func71 (by kernel_rfl) rfl #[.int .u64 18446744073709551615] (by rfl) rfl ?_ ?_
      · simp only [List.map_toArray, List.map_cons, List.map_nil]
        rfl
      refine (nonce_calls (x := 18446744073709551615) (by decide)).mono ?_
      rintro e w22 ⟨vn, rfl, hon, hb22⟩
      replace HK := hd (HK.out.below hb22)
      replace HS := hd (blk_below HS.out hb22)
      replace HBW := hd (below_seq HBW.out hb22)
      replace HZM := hd (HZM.out.below hb22)
      obtain ⟨An, cn, rfl, hbn⟩ := hon.bytes 12 (nonceN_length _) (nonceN_ok _)
      have HNO := hd hbn
      clear hon hbn
      refine ⟨_, rfl, ⟨fun _ => hb22, trivial⟩, ?_⟩
      refine uq_norm (a' := ?_) ?_ ?_
      rotate_left
      · show Act.put _ (some 11) _ = _
        simp only [Act.put, List.setIfInBounds_toArray, List.set_cons_zero, List.set_cons_succ, i64_w, i32_w]
        rfl
      clear hb22
      refine uq_one (i := 6) (by kernel_rfl) ?_
      refine uq_call (R := fun _ _ => True) (i := 6) (N := some 13) rfl rfl Tryd.func70 (by kernel_rfl) rfl #[.slice A n c, .slice An 12 cn, .slice none 0 0, .slice Am 32 cm] (by rfl) rfl ?_ ?_
      · simp only [List.map_toArray, List.map_cons, List.map_nil]
        rfl
      have hsz := HBW.out.size
      refine (seal_any HK.out HNO.out (Bytes.nil _ none 0) HZM.out (HPL.out.below HBW.out) (by decide) (by decide)).mono ?_
      rintro e w23 ⟨vs, rfl, hos, hb23⟩
      replace HK := hd (HK.out.below hb23)
      replace HS := hd (blk_below HS.out hb23)
      replace HBW := hd (below_seq HBW.out hb23)
      replace HZM := hd (HZM.out.below hb23)
      replace HNO := hd (HNO.out.below hb23)
      have HOS := hd hos
      clear hos
      refine ⟨_, rfl, ⟨fun _ => hb23, trivial⟩, ?_⟩
      refine uq_norm (a' := ?_) ?_ ?_
      rotate_left
      · show Act.put _ (some 13) _ = _
        simp only [Act.put, List.setIfInBounds_toArray, List.set_cons_zero, List.set_cons_succ, i64_w, i32_w]
        rfl
      clear hb23
      refine uq_pure Keeps.any (i := 7) (N := some 6) (v := ?_) (a' := ?_) (by kernel_rfl) (by kernel_rfl) rfl rfl (by rfl) (fun _ _ _ h => h) ?_ ?_ ?_
      rotate_left 2
      · intro w' hg
        go_simp
        with_reducible rfl
      · simp only [Act.put, List.setIfInBounds_toArray, List.set_cons_zero, List.set_cons_succ, i64_w, i32_w]
        rfl
      refine uq_pure Keeps.any (i := 8) (N := some 14) (v := ?_) (a' := ?_) (by kernel_rfl) (by kernel_rfl) rfl rfl (by rfl) (fun _ _ _ h => h) ?_ ?_ ?_
      rotate_left 2
      · intro w' hg
        go_simp
        with_reducible rfl
      · simp only [Act.put, List.setIfInBounds_toArray, List.set_cons_zero, List.set_cons_succ, i64_w, i32_w]
        rfl
      refine uq_pure Keeps.any (i := 9) (N := some 15) (v := ?_) (a' := ?_) (by kernel_rfl) (by kernel_rfl) rfl rfl (by rfl) (fun _ _ _ h => h) ?_ ?_ ?_
      rotate_left 2
      · intro w' hg
        go_simp
        with_reducible rfl
      · simp only [Act.put, List.setIfInBounds_toArray, List.set_cons_zero, List.set_cons_succ, i64_w, i32_w]
        rfl
      refine uq_pure Keeps.any (i := 10) (N := some 2) (v := ?_) (a' := ?_) (by kernel_rfl) (by kernel_rfl) rfl rfl (by rfl) (fun _ _ _ h => h) ?_ ?_ ?_
      rotate_left 2
      · intro w' hg
        go_simp
        with_reducible rfl
      · simp only [Act.put, List.setIfInBounds_toArray, List.set_cons_zero, List.set_cons_succ, i64_w, i32_w]
        rfl
      refine uq_pure Keeps.any (i := 11) (N := some 3) (v := ?_) (a' := ?_) (by kernel_rfl) (by kernel_rfl) rfl rfl (by rfl) (fun _ _ _ h => h) ?_ ?_ ?_
      rotate_left 2
      · intro w' hg
        go_simp
        with_reducible rfl
      · simp only [Act.put, List.setIfInBounds_toArray, List.set_cons_zero, List.set_cons_succ, i64_w, i32_w]
        rfl
      refine uq_end (by kernel_rfl) ?_
      go_wp2_with fail
      go_meet
      case rel => exact ⟨vs, rfl, rfl, ⟨HOS.out.lower hsz⟩, HS, HBW⟩
  case rest =>
    obtain ⟨vs, rfl, rfl, HOS, HS, HBW⟩ := hcut
    by_cases h32 : n = 32
    · have hsa : sealA key (nonceN 18446744073709551615) [] (List.replicate 32 0) = (sealN key (nonceN 18446744073709551615) [] (List.replicate 32 0), 0) := by rw [sealA, if_pos ⟨by rw [HKL.out]; exact h32, nonceN_length _⟩]
      rw [hsa] at HOS ⊢
      have HRK := hd (show (sealN key (nonceN 18446744073709551615) [] (List.replicate 32 0)).take 32 = rekN key by rw [rekN, if_pos (by rw [HKL.out]; exact h32)]; rfl)
      have hl48 : (sealN key (nonceN 18446744073709551615) [] (List.replicate 32 0)).length = 48 := by rw [sealN_length]; simp
      obtain ⟨As, cs', rfl, hbs⟩ := HOS.out.bytes 48 hl48 (sealN_ok _ _ _ (BytesOK.zeros 32))
      obtain ⟨gk, rfl, hgk, hgk2⟩ := HOS.out.at_ (by decide)
      have HB := hd (hbs.take 32 (by decide))
      have hc48 : (48 : Int) ≤ cs' := by have := hbs.2.2.1; omega
      have d0 : wc.cell? ⟨g, o, none⟩ = some (.slice A n c) := by rw [blk_cell HS.out]; exact E0.out
      have f0 := blk_frozen HS.out o
      have HGK := hd (And.intro hgk hgk2)
      have H32 := hd h32
      clear hs hk hn c0 hsa hl48 hbs HOS hgk hgk2 h32
      go_wp2
      have hmc := mod_cell wc g o (.slice (some ⟨gk, 0, none⟩) 32 32)
      have hbz := Bytes.modB (show Bytes wc (some ⟨gk, 0, none⟩) 32 32 (rekN key) from by rw [← HRK.out]; exact ⟨HB.out.1, HB.out.2.1, Nat.le_refl _, HB.out.2.2.2⟩) hmc HGK.out.2 (fun e => by have := HGK.out.1; have := HGL.out; omega)
      go_end0
      exact ⟨rfl, Or.inr ⟨H32.out, gk, wc, rfl, HBW.out, HGK.out.1, HGK.out.2, hbz⟩⟩
    · have hsa : sealA key (nonceN 18446744073709551615) [] (List.replicate 32 0) = ([], 1) := by rw [sealA, if_neg (fun h => h32 (by rw [← HKL.out]; exact h.1))]
      rw [hsa]
      have H32 := hd h32
      clear hs hk hn c0 hsa HOS h32
      go_wp2
      go_end0
      exact ⟨rfl, Or.inl ⟨H32.out, HBW.out⟩⟩
end Go.Proofs.YtlgdplodglchaaaDoor
