/- Texts put together: RefMac RefMacA. -/
import Derived.Test.YtlgdplodglchaaaDoorRefMod
import Derived.Test.YtlgdplodglchaaaDoorGPlain2
import Derived.Test.YtlgdplodglchaaaDoorM3
/- The walk through redanref08.Mac. -/
set_option linter.unusedVariables false
set_option linter.unusedSimpArgs false
namespace Go.Proofs.YtlgdplodglchaaaDoor
open Go.RowKit Go.Proofs.YtlgdplodglchaaaDoorW.PrintWords Go.Proofs.YtlgdplodglchaaaDoorW.PrintLast Go.Proofs.YtlgdplodglchaaaDoorW.PrintMore

theorem wrap64_big (p : Nat) (h : p ≤ 4611686018427387904) : wrap64 (p : Int) = (p : Int) := Go.IntWalk.wrap64_in _ ⟨by omega, by omega⟩
theorem i64_big (p : Nat) (h : p ≤ 4611686018427387904) : IntKind.i64.wrap (p : Int) = (p : Int) := by
  rw [IntKind.wrap_i64]
  omega
set_option maxHeartbeats 4000000 in
set_option maxRecDepth 100000 in
theorem refmac_calls {A B : Option Addr} {ca nb cb : Nat} {key b : List Nat} {w : World} (hk : Bytes w A 32 ca key) (hb : Bytes w B nb cb b) (hfit : nb ≤ 50000) :
    Calls Tryd.prog 105 #[.slice A 32 ca, .slice B nb cb] w fun e w' => ∃ v, e = .returned v ∧ OwnK .u8 5 w.heap.size w' v (macL key b) ∧ Below w.heap.size w w' := by
  have HK := hd hk
  have HB := hd hb
  clear hk hb
  go_enter Tryd.func105, Tryd.ntmps105
  go_wp2_with fail
  refine (refclamp_calls HK.out).mono ?_
  rintro e w1 ⟨v, rfl, hor, hb1⟩
  obtain ⟨Ar, cr, rfl, hr⟩ := hor.bytes 16 (clampL_length key HK.out.2.1) (clampL_ok HK.out.ok)
  clear hor
  have HB7 := hd hb1
  have HR0 := hd hr
  clear hr hb1
  go_wp2_with ((with_reducible refine gate_dst (N := 20) rfl ?_); refine op_make (k := .i64) 20 rfl 3 68 _ _ rfl rfl 18 rfl rfl Tryd.underlying68 Tryd.infoI64 (by decide) 18 rfl (by decide) ?_; intro A5 c5 w5 hc5 ho5 hb5)
  go_loopw [6, 7] (fun v i wr => ∃ (k : Nat) (D : List Nat), 16 * k ≤ nb + 15 ∧ i = .int .i64 (16 * k : Nat) ∧ OwnK .i64 3 w1.heap.size wr v D ∧ BytesOK D ∧ 18 ≤ D.length ∧ D.length ≤ 18 + 16 * k ∧ loadN D = accC (rN key) b k % polyP ∧ Below w1.heap.size w1 wr) (fun _ i _ => nb + 16 - (intOf i).toNat)
  case atStart => exact ⟨0, List.replicate 18 0, by omega, rfl, ho5, BytesOK.zeros 18, by decide, by decide, by rw [loadN_zeros]; rfl, hb5⟩
  case round =>
    clear ho5 hb5
    obtain ⟨k, D, hk15, rfl, ho, hdb, hl18, hlk, hld, hb1⟩ := hrel
    obtain ⟨dl, hdl⟩ : ∃ dl, D.length = dl := ⟨_, rfl⟩
    obtain ⟨g, cD, rfl, hg, hgs, hcD⟩ := ho.form (by omega)
    rw [hdl] at ho hl18 hlk hcD ⊢
    have HDL := hd hdl
    have HDB := hd hdb
    have HLD := hd hld
    obtain ⟨i16, HI⟩ : ∃ i16, Aside0 (16 * k = i16) := ⟨_, ⟨rfl⟩⟩
    rw [HI.out]
    have hi1 : (i16 : Int) ≤ 60000 := by have := HI.out; omega
    have hi0 : (0 : Int) ≤ i16 := by omega
    clear hdl hdb hld
    by_cases hlt : i16 < nb
    · have q1 : decide ((i16 : Int) < (nb : Int)) = true := by simp; omega
      go_wp2_with fail
      go_loopw [8] (fun i wi => ∃ (m : Nat) (E : List Nat), m ≤ 16 ∧ i16 + m ≤ nb ∧ i = .int .i64 m ∧ OwnK .i64 3 w1.heap.size wi (.slice (some ⟨g, 0, none⟩) dl cD) E ∧ AddR D (b.drop (16 * k)) m E ∧ Below w1.heap.size w1 wi) (fun i _ => 16 - (intOf i).toNat)
      case atStart => exact ⟨0, D, by omega, by omega, rfl, ho, AddR.start HDB.out, hb1⟩
      case round =>
        clear ho hb1
        obtain ⟨m, E, hm16, hmn, rfl, ho, had, hb1⟩ := hrel
        have HAD := hd had
        clear had
        by_cases hc : m < 16 ∧ i16 + m < nb
        · obtain ⟨h16, hin⟩ := hc
          have q2 : decide ((m : Int) < 16) = true := by simp; omega
          have q3 : decide ((i16 : Int) + (m : Int) < (nb : Int)) = true := by simp; omega
          obtain ⟨q, HQ⟩ : ∃ q, Aside0 (16 * k + m = q) := ⟨_, ⟨rfl⟩⟩
          have hq : (i16 : Int) + (m : Int) = (q : Int) := by have := HQ.out; have := HI.out; omega
          rw [hq] at q3
          have hqn : q < nb := by have := HQ.out; have := HI.out; omega
          have j0 : (0 : Int) ≤ m := by omega
          have j1 : (m : Int) < dl := by omega
          have j2 : (0 : Int) ≤ q := by omega
          have j3 : (q : Int) < nb := by omega
          have hlen : E.length = dl := HAD.out.len.trans HDL.out
          go_wp2_with fail
          refine upR_start Keeps.any [13] [(0, 1), (1, 1), (2, 1), (3, 1), (4, 1), (5, 1), (6, 1), (7, 1), (8, 1), (9, 1), (10, 1), (11, 1), (12, 1), (13, 0)] (by kernel_rfl) rfl (by kernel_rfl) (by kernel_rfl) ?_
          have ho5 := ho.below (below_drew (Below.refl _ _))
          have hb5 := hb1.drew
          have hbb := (HB.out.below (below_seq HB7.out hb1)).drew
          generalize wr.drew = w5 at ho5 hb5 hbb ⊢
          obtain ⟨x, X, hx, fx⟩ := ho5.cellx m (by omega)
          obtain ⟨ad, y, rfl, Y, hy⟩ := hbb.1.at_ q (by rw [hbb.2.1]; omega)
          have hyb : y < 256 := by rw [← Y.out]; exact HB.out.ok.getD q
          have hxb : x < 1024 := by rw [← X.out]; exact getD_lt HAD.out.dig (by decide) m
          have gx := Grow.cells hx
          have gy := Grow.cells hy
          obtain ⟨u, HU⟩ : ∃ u, Aside0 (x + y = u) := ⟨_, ⟨rfl⟩⟩
          have hu : (x : Int) + (y : Int) = (u : Int) := by have := HU.out; omega
          have hx0 : (x : Int) ≤ 1024 := by omega
          have hy0 : (y : Int) ≤ 256 := by omega
          have hu0 : (u : Int) ≤ 2000 := by have := HU.out; omega
          have hyy : (b.drop (16 * k)).getD m 0 = y := by rw [← Y.out, List.getD_eq_getElem?_getD, List.getElem?_drop, List.getD_eq_getElem?_getD, HQ.out]
          have HN := hd (HAD.out.put (by rw [HDL.out]; omega) (by rw [List.length_drop, HB.out.2.1]; have := HQ.out; omega) hyy hyb)
          have hput := hd (ho5.put m u)
          clear hx hy ho ho5 hb1 hbb hyb hxb hyy
          refine rseq_pure (i := 0) (N := some 37) (v := ?_) (a' := ?_) rfl rfl (by rfl) (fun _ _ _ h => h) ?_ ?_ ?_
          rotate_left 2
          · intro w' hg
            go_simp
            with_reducible rfl
          · simp only [Act.put, List.setIfInBounds_toArray, List.set_cons_zero, List.set_cons_succ, i64_w, i32_w]
            rfl
          refine rseq_pure (i := 1) (N := some 38) (v := ?_) (a' := ?_) rfl rfl (by rfl) (fun _ _ _ h => h) ?_ ?_ ?_
          rotate_left 2
          · intro w' hg
            go_simp
            with_reducible rfl
          · simp only [Act.put, List.setIfInBounds_toArray, List.set_cons_zero, List.set_cons_succ, i64_w, i32_w]
            rfl
          refine rseq_pure (i := 2) (N := some 39) (v := ?_) (a' := ?_) rfl rfl (by rfl) (fun _ _ _ h => h) ?_ ?_ ?_
          rotate_left 2
          · intro w' hg
            go_simp
            with_reducible rfl
          · simp only [Act.put, List.setIfInBounds_toArray, List.set_cons_zero, List.set_cons_succ, i64_w, i32_w]
            rfl
          refine rseq_pure (i := 3) (N := some 40) (v := ?_) (a' := ?_) rfl rfl (by rfl) (fun _ _ _ h => h) ?_ ?_ ?_
          rotate_left 2
          · intro w' hg
            go_simp
            with_reducible rfl
          · simp only [Act.put, List.setIfInBounds_toArray, List.set_cons_zero, List.set_cons_succ, i64_w, i32_w]
            rfl
          refine rseq_pure (i := 4) (N := some 41) (v := ?_) (a' := ?_) rfl rfl (by rfl) (fun _ _ _ h => h) ?_ ?_ ?_
          rotate_left 2
          · intro w' hg
            go_simp
            with_reducible rfl
          · simp only [Act.put, List.setIfInBounds_toArray, List.set_cons_zero, List.set_cons_succ, i64_w, i32_w]
            rfl
          refine rseq_pure (i := 5) (N := some 42) (v := ?_) (a' := ?_) rfl rfl (by rfl) (fun _ _ _ h => h) ?_ ?_ ?_
          rotate_left 2
          · intro w' hg
            go_simp
            with_reducible rfl
          · simp only [Act.put, List.setIfInBounds_toArray, List.set_cons_zero, List.set_cons_succ, i64_w, i32_w]
            rfl
          refine rseq_pure (i := 6) (N := some 43) (v := ?_) (a' := ?_) rfl rfl (by rfl) (fun _ _ _ h => h) ?_ ?_ ?_
          rotate_left 2
          · intro w' hg
            go_simp
            with_reducible rfl
          · simp only [Act.put, List.setIfInBounds_toArray, List.set_cons_zero, List.set_cons_succ, i64_w, i32_w]
            rfl
          have hqw := wrap64_big q (by omega)
          refine rseq_pure (i := 7) (N := some 44) (v := ?_) (a' := ?_) rfl rfl (by rfl) (fun _ _ _ h => h) ?_ ?_ ?_
          rotate_left 2
          · intro w' hg
            go_simp
            with_reducible rfl
          · simp only [Act.put, List.setIfInBounds_toArray, List.set_cons_zero, List.set_cons_succ, i64_w, i32_w]
            rfl
          refine rseq_pure (i := 8) (N := some 45) (v := ?_) (a' := ?_) rfl rfl (by rfl) (fun _ _ _ h => h) ?_ ?_ ?_
          rotate_left 2
          · intro w' hg
            go_simp
            with_reducible rfl
          · simp only [Act.put, List.setIfInBounds_toArray, List.set_cons_zero, List.set_cons_succ, i64_w, i32_w]
            rfl
          clear hqw
          refine rseq_pure (i := 9) (N := some 46) (v := ?_) (a' := ?_) rfl rfl (by rfl) (fun _ _ _ h => h) ?_ ?_ ?_
          rotate_left 2
          · intro w' hg
            go_simp
            with_reducible rfl
          · simp only [Act.put, List.setIfInBounds_toArray, List.set_cons_zero, List.set_cons_succ, i64_w, i32_w]
            rfl
          have hyw := i64_big y (by omega)
          refine rseq_pure (i := 10) (N := some 47) (v := ?_) (a' := ?_) rfl rfl (by rfl) (fun _ _ _ h => h) ?_ ?_ ?_
          rotate_left 2
          · intro w' hg
            go_simp
            with_reducible rfl
          · simp only [Act.put, List.setIfInBounds_toArray, List.set_cons_zero, List.set_cons_succ, i64_w, i32_w]
            rfl
          clear hyw
          have huw := i64_big u (by omega)
          refine rseq_pure (i := 11) (N := some 48) (v := ?_) (a' := ?_) rfl rfl (by rfl) (fun _ _ _ h => h) ?_ ?_ ?_
          rotate_left 2
          · intro w' hg
            go_simp
            with_reducible rfl
          · simp only [Act.put, List.setIfInBounds_toArray, List.set_cons_zero, List.set_cons_succ, i64_w, i32_w]
            rfl
          clear huw
          refine rseq_pure (i := 12) (N := some 49) (v := ?_) (a' := ?_) rfl rfl (by rfl) (fun _ _ _ h => h) ?_ ?_ ?_
          rotate_left 2
          · intro w' hg
            go_simp
            with_reducible rfl
          · simp only [Act.put, List.setIfInBounds_toArray, List.set_cons_zero, List.set_cons_succ, i64_w, i32_w]
            rfl
          have hx5 := gx _ (Grow.refl _)
          refine rseq_skip (i := 13) (w1 := ?_) rfl rfl (by rfl) ?_ ?_ ?_
          rotate_left
          · go_simp
            rfl
          · exact ⟨fun h => absurd (by decide) h, trivial⟩
          refine rseq_done ?_
          go_wp2
          go_roundw
          case rel =>
            have hn := HN.out
            rw [show E.getD m 0 = x from X.out, HU.out] at hn
            exact ⟨m + 1, _, by omega, by omega, by go_num, hput.out, hn, hb5.setCell hg _⟩
          case measure => simp [intOf]; omega
        · go_upto_region 9 with fail
          go_cut [36] from 27 to 35 (fun v wx => v = .bool false ∧ wx = wr)
          case first =>
            by_cases h16 : m < 16
            · have q2 : decide ((m : Int) < 16) = true := by simp; omega
              have q3 : decide ((i16 : Int) + (m : Int) < (nb : Int)) = false := by simp; omega
              go_wp2_with fail
              go_meet
              exact ⟨rfl, rfl⟩
            · have q2 : decide ((m : Int) < 16) = false := by simp; omega
              go_wp2_with fail
              go_meet
              exact ⟨rfl, rfl⟩
          obtain ⟨rfl, rfl⟩ := hcut
          have hend : (b.drop (16 * k)).take m = (b.drop (16 * k)).take 16 ∧ ((b.drop (16 * k)).take 16).length = m := by
            have hbl : (b.drop (16 * k)).length = nb - 16 * k := by rw [List.length_drop, HB.out.2.1]
            have := HI.out
            rcases Nat.lt_or_ge m 16 with h | h
            · have hm : nb - 16 * k = m := by omega
              rw [List.take_of_length_le (by omega), List.take_of_length_le (by omega)]
              exact ⟨rfl, by omega⟩
            · obtain rfl : m = 16 := by omega
              exact ⟨rfl, by rw [List.length_take]; omega⟩
          have HCK := hd (chunkN_eq b k m hend.1 hend.2)
          have j0 : (0 : Int) ≤ m := by omega
          have j1 : (m : Int) < dl := by omega
          have hlen : E.length = dl := HAD.out.len.trans HDL.out
          obtain ⟨x, X, hcell, hfr⟩ := ho.cellx m (by omega)
          have hxb : x < 256 := by rw [← X.out]; exact HAD.out.tail m (Nat.le_refl _)
          have hx1 : (x : Int) ≤ 256 := by omega
          obtain ⟨u, HU⟩ : ∃ u, Aside0 (x + 1 = u) := ⟨_, ⟨rfl⟩⟩
          have hu : (x : Int) + 1 = (u : Int) := by have := HU.out; omega
          have HP := hd (And.intro (ho.put m u) (hb1.setCell (p := ⟨g, m, none⟩) hg (.int .i64 (u : Int))))
          have HE2 := hd (show loadN (E.set m u) = accC (rN key) b k % polyP + chunkN b k by
            have h1 := loadN_set E m 1 (by omega)
            rw [show E.getD m 0 = x from X.out, HU.out] at h1
            rw [h1, HAD.out.load, HLD.out, HCK.out]
            omega)
          have HEX := hd (show ∀ e ∈ E.set m u, e < 1099511627776 from fun e he => by
            rcases List.mem_or_eq_of_mem_set he with h | rfl
            · exact Nat.lt_trans (HAD.out.dig e h) (by decide)
            · have := HU.out; omega)
          have HEL := hd (show (E.set m u).length = dl by rw [List.length_set, hlen])
          clear ho hb1 hend hlen
          have hv17 := hd (show accC (rN key) b k % polyP + chunkN b k < 256 ^ 17 by
            have h1 := chunkN_lt HB.out.ok k
            have h2 : accC (rN key) b k % polyP < polyP := Nat.mod_lt _ (by decide)
            have h3 : polyP < 2 ^ 130 := by decide
            omega)
          have hcar := carry_calls (n := 18) HP.out.1.row.2.2 (show (E.set m u).length ≤ cD by rw [HEL.out]; exact hcD) HEX.out rfl (by rw [HEL.out]; have := HI.out; omega)
          rw [HEL.out] at hcar
          have HCAR := hd hcar
          clear hcar
          go_wp2_with fail
          refine HCAR.out.mono ?_
          rintro e wc ⟨vc, D2, rfl, hoc, hdb2, hld2, hlM, hlM2, _, hbc⟩
          rw [HE2.out] at hld2 hlM2
          have hl2 : D2.length = dl := (carry_len (E := E.set m u) (by rw [HEL.out]; exact hl18) (by rw [HEL.out]; exact hlM) (by rw [HEL.out]; exact hlM2) hv17.out).trans HEL.out
          obtain ⟨gd, cd2, rfl, hgd, hgds, hcd⟩ := hoc.form (by omega)
          rw [hl2] at hoc hcd ⊢
          have HOD := hd hoc
          have HL2 := hd hl2
          have HDB2 := hd hdb2
          have HLD2 := hd hld2
          have HBC := hd (below_seq HP.out.2 hbc)
          clear hoc hl2 hdb2 hld2 hlM hlM2 hbc HP HE2 HEX HEL HCAR hcell hfr hu hx1 hxb
          obtain ⟨n16, HN16⟩ : ∃ n16, Aside0 (dl + 16 = n16) := ⟨_, ⟨rfl⟩⟩
          have hn16 : (dl : Int) + 16 = (n16 : Int) := by have := HN16.out; omega
          have hn16b : n16 ≤ 100000 := by have := HN16.out; have := HI.out; omega
          have HNI := hd hn16
          have hdlI : (dl : Int) ≤ 100000 := by omega
          clear hn16
          go_wp2_with ((with_reducible refine gate_dst (N := 63) rfl ?_); refine op_make (k := .i64) 63 rfl 3 68 _ _ rfl rfl ((dl : Int) + 16) (by rfl) (by rfl) Tryd.underlying68 Tryd.infoI64 (by decide) n16 HNI.out (by omega) ?_; intro A6 c6 w6 hc6 ho6 hb6)
          obtain ⟨g6, rfl, hg6, _⟩ := ho6.at_ (by have := HN16.out; omega)
          go_loopw [10] (fun i wi => ∃ (xx : Nat) (E : List Nat), xx ≤ dl ∧ i = .int .i64 xx ∧ OwnK .i64 3 wc.heap.size wi (.slice (some ⟨g6, 0, none⟩) n16 c6) E ∧ MulR D2 (clampL key) n16 xx E ∧ Below wc.heap.size wc wi) (fun i _ => dl - (intOf i).toNat)
          case atStart => exact ⟨0, _, by omega, rfl, ho6, MulR.start _ _ _, hb6⟩
          case round =>
            clear ho6 hb6
            obtain ⟨xx, E, hxx, rfl, ho8, hmr, hb8⟩ := hrel
            have HMR := hd hmr
            clear hmr
            by_cases hltx : xx < dl
            · have q2 : decide ((xx : Int) < (dl : Int)) = true := by simp; omega
              obtain ⟨a0, A0⟩ : ∃ a, Aside0 (D2.getD xx 0 = a) := ⟨_, ⟨rfl⟩⟩
              have HMY0 := hd (HMR.out.row a0)
              go_wp2_with fail
              go_loopw [11] (fun i wi => ∃ (yy : Nat) (E : List Nat), yy ≤ 16 ∧ i = .int .i64 yy ∧ OwnK .i64 3 wc.heap.size wi (.slice (some ⟨g6, 0, none⟩) n16 c6) E ∧ MulY D2 (clampL key) n16 xx a0 yy E ∧ Below wc.heap.size wc wi) (fun i _ => 16 - (intOf i).toNat)
              case atStart => exact ⟨0, E, by omega, rfl, ho8, HMY0.out, hb8⟩
              case round =>
                clear ho8 hb8 HMY0 HMR E
                obtain ⟨yy, E, hyy16, rfl, ho8, hmy, hb8⟩ := hrel
                have HMY := hd hmy
                clear hmy
                by_cases hy16 : yy < 16
                · obtain ⟨q, HQ⟩ : ∃ q, Aside0 (xx + yy = q) := ⟨_, ⟨rfl⟩⟩
                  have hq : (xx : Int) + (yy : Int) = (q : Int) := by have := HQ.out; omega
                  have hqn : q < n16 := by have := HQ.out; have := HN16.out; omega
                  have j0 : (0 : Int) ≤ xx := by omega
                  have j1 : (xx : Int) < dl := by omega
                  have j2 : (0 : Int) ≤ q := by omega
                  have j3 : (q : Int) < n16 := by omega
                  have j4 : (0 : Int) ≤ yy := by omega
                  have j5 : (yy : Int) < 16 := by omega
                  have hxx2 : xx ≤ 200000 := by omega
                  go_wp2_with fail
                  refine upR_start Keeps.any [18] [(0, 1), (1, 1), (2, 1), (3, 1), (4, 1), (5, 1), (6, 1), (7, 1), (8, 1), (9, 1), (10, 1), (11, 1), (12, 1), (13, 1), (14, 1), (15, 1), (16, 1), (17, 1), (18, 0)] (by kernel_rfl) rfl (by kernel_rfl) (by kernel_rfl) ?_
                  have ho5 := ho8.below (below_drew (Below.refl _ _))
                  have hb5 := hb8.drew
                  have hoD := (HOD.out.below hb8).below (below_drew (Below.refl _ _))
                  have hoR := (HR0.out.below (below_seq HBC.out hb8)).drew
                  generalize wr.drew = w5 at ho5 hb5 hoD hoR ⊢
                  obtain ⟨x, X, hx, fx⟩ := ho5.cellx q (by omega)
                  obtain ⟨a, HA0, ha, fa⟩ := hoD.cellx xx (by omega)
                  obtain ⟨ad, c, rfl, HC0, hc⟩ := hoR.1.at_ yy (by rw [hoR.2.1]; exact hy16)
                  obtain rfl : a0 = a := A0.out.symm.trans HA0.out
                  have hab : a0 < 256 := by rw [← HA0.out]; exact HDB2.out.getD xx
                  have hcb : c < 256 := by rw [← HC0.out]; exact hoR.ok.getD yy
                  have hxb : x ≤ 65025 * xx := by rw [← X.out, ← HQ.out]; exact HMY.out.tail _ (Nat.le_refl _)
                  have gx := Grow.cells hx
                  have ga := Grow.cells ha
                  have gc := Grow.cells hc
                  obtain ⟨p, HP⟩ : ∃ p, Aside0 (a0 * c = p) := ⟨_, ⟨rfl⟩⟩
                  have hp : (a0 : Int) * (c : Int) = (p : Int) := by rw [← HP.out]; simp
                  have hp0 : p ≤ 65025 := by rw [← HP.out]; exact Nat.mul_le_mul (show a0 ≤ 255 by omega) (show c ≤ 255 by omega)
                  have hp1 : (p : Int) ≤ 65025 := by omega
                  have hp2 : (0 : Int) ≤ p := by omega
                  obtain ⟨u, HU⟩ : ∃ u, Aside0 (x + p = u) := ⟨_, ⟨rfl⟩⟩
                  have hu : (x : Int) + (p : Int) = (u : Int) := by have := HU.out; omega
                  have hx0 : (x : Int) ≤ 65025 * 200000 := by omega
                  have hc0 : (c : Int) ≤ 256 := by omega
                  have hu0 : (u : Int) ≤ 65025 * 200001 := by have := HU.out; omega
                  have hu1 : (0 : Int) ≤ u := by omega
                  have HN := hd (HMY.out.put (by have := HQ.out; omega) (by rw [clampL_length key HK.out.2.1]; exact hy16) HC0.out hab hcb)
                  have hput := hd (ho5.put q u)
                  clear hx ha fa hc ho8 ho5 hb8 hoD hoR hab hcb hxb hp0 HA0
                  refine rseq_pure (i := 0) (N := some 74) (v := ?_) (a' := ?_) rfl rfl (by rfl) (fun _ _ _ h => h) ?_ ?_ ?_
                  rotate_left 2
                  · intro w' hg
                    go_simp
                    with_reducible rfl
                  · simp only [Act.put, List.setIfInBounds_toArray, List.set_cons_zero, List.set_cons_succ, i64_w, i32_w]
                    rfl
                  refine rseq_pure (i := 1) (N := some 75) (v := ?_) (a' := ?_) rfl rfl (by rfl) (fun _ _ _ h => h) ?_ ?_ ?_
                  rotate_left 2
                  · intro w' hg
                    go_simp
                    with_reducible rfl
                  · simp only [Act.put, List.setIfInBounds_toArray, List.set_cons_zero, List.set_cons_succ, i64_w, i32_w]
                    rfl
                  refine rseq_pure (i := 2) (N := some 76) (v := ?_) (a' := ?_) rfl rfl (by rfl) (fun _ _ _ h => h) ?_ ?_ ?_
                  rotate_left 2
                  · intro w' hg
                    go_simp
                    with_reducible rfl
                  · simp only [Act.put, List.setIfInBounds_toArray, List.set_cons_zero, List.set_cons_succ, i64_w, i32_w]
                    rfl
                  have hqw := wrap64_big q (by omega)
                  refine rseq_pure (i := 3) (N := some 77) (v := ?_) (a' := ?_) rfl rfl (by rfl) (fun _ _ _ h => h) ?_ ?_ ?_
                  rotate_left 2
                  · intro w' hg
                    go_simp
                    with_reducible rfl
                  · simp only [Act.put, List.setIfInBounds_toArray, List.set_cons_zero, List.set_cons_succ, i64_w, i32_w]
                    rfl
                  refine rseq_pure (i := 4) (N := some 78) (v := ?_) (a' := ?_) rfl rfl (by rfl) (fun _ _ _ h => h) ?_ ?_ ?_
                  rotate_left 2
                  · intro w' hg
                    go_simp
                    with_reducible rfl
                  · simp only [Act.put, List.setIfInBounds_toArray, List.set_cons_zero, List.set_cons_succ, i64_w, i32_w]
                    rfl
                  clear hqw
                  refine rseq_pure (i := 5) (N := some 79) (v := ?_) (a' := ?_) rfl rfl (by rfl) (fun _ _ _ h => h) ?_ ?_ ?_
                  rotate_left 2
                  · intro w' hg
                    go_simp
                    with_reducible rfl
                  · simp only [Act.put, List.setIfInBounds_toArray, List.set_cons_zero, List.set_cons_succ, i64_w, i32_w]
                    rfl
                  refine rseq_pure (i := 6) (N := some 80) (v := ?_) (a' := ?_) rfl rfl (by rfl) (fun _ _ _ h => h) ?_ ?_ ?_
                  rotate_left 2
                  · intro w' hg
                    go_simp
                    with_reducible rfl
                  · simp only [Act.put, List.setIfInBounds_toArray, List.set_cons_zero, List.set_cons_succ, i64_w, i32_w]
                    rfl
                  refine rseq_pure (i := 7) (N := some 81) (v := ?_) (a' := ?_) rfl rfl (by rfl) (fun _ _ _ h => h) ?_ ?_ ?_
                  rotate_left 2
                  · intro w' hg
                    go_simp
                    with_reducible rfl
                  · simp only [Act.put, List.setIfInBounds_toArray, List.set_cons_zero, List.set_cons_succ, i64_w, i32_w]
                    rfl
                  refine rseq_pure (i := 8) (N := some 82) (v := ?_) (a' := ?_) rfl rfl (by rfl) (fun _ _ _ h => h) ?_ ?_ ?_
                  rotate_left 2
                  · intro w' hg
                    go_simp
                    with_reducible rfl
                  · simp only [Act.put, List.setIfInBounds_toArray, List.set_cons_zero, List.set_cons_succ, i64_w, i32_w]
                    rfl
                  refine rseq_pure (i := 9) (N := some 83) (v := ?_) (a' := ?_) rfl rfl (by rfl) (fun _ _ _ h => h) ?_ ?_ ?_
                  rotate_left 2
                  · intro w' hg
                    go_simp
                    with_reducible rfl
                  · simp only [Act.put, List.setIfInBounds_toArray, List.set_cons_zero, List.set_cons_succ, i64_w, i32_w]
                    rfl
                  refine rseq_pure (i := 10) (N := some 84) (v := ?_) (a' := ?_) rfl rfl (by rfl) (fun _ _ _ h => h) ?_ ?_ ?_
                  rotate_left 2
                  · intro w' hg
                    go_simp
                    with_reducible rfl
                  · simp only [Act.put, List.setIfInBounds_toArray, List.set_cons_zero, List.set_cons_succ, i64_w, i32_w]
                    rfl
                  refine rseq_pure (i := 11) (N := some 85) (v := ?_) (a' := ?_) rfl rfl (by rfl) (fun _ _ _ h => h) ?_ ?_ ?_
                  rotate_left 2
                  · intro w' hg
                    go_simp
                    with_reducible rfl
                  · simp only [Act.put, List.setIfInBounds_toArray, List.set_cons_zero, List.set_cons_succ, i64_w, i32_w]
                    rfl
                  refine rseq_pure (i := 12) (N := some 86) (v := ?_) (a' := ?_) rfl rfl (by rfl) (fun _ _ _ h => h) ?_ ?_ ?_
                  rotate_left 2
                  · intro w' hg
                    go_simp
                    with_reducible rfl
                  · simp only [Act.put, List.setIfInBounds_toArray, List.set_cons_zero, List.set_cons_succ, i64_w, i32_w]
                    rfl
                  refine rseq_pure (i := 13) (N := some 87) (v := ?_) (a' := ?_) rfl rfl (by rfl) (fun _ _ _ h => h) ?_ ?_ ?_
                  rotate_left 2
                  · intro w' hg
                    go_simp
                    with_reducible rfl
                  · simp only [Act.put, List.setIfInBounds_toArray, List.set_cons_zero, List.set_cons_succ, i64_w, i32_w]
                    rfl
                  have hcw := i64_big c (by omega)
                  refine rseq_pure (i := 14) (N := some 88) (v := ?_) (a' := ?_) rfl rfl (by rfl) (fun _ _ _ h => h) ?_ ?_ ?_
                  rotate_left 2
                  · intro w' hg
                    go_simp
                    with_reducible rfl
                  · simp only [Act.put, List.setIfInBounds_toArray, List.set_cons_zero, List.set_cons_succ, i64_w, i32_w]
                    rfl
                  clear hcw
                  have hpw := i64_big p (by omega)
                  refine rseq_pure (i := 15) (N := some 89) (v := ?_) (a' := ?_) rfl rfl (by rfl) (fun _ _ _ h => h) ?_ ?_ ?_
                  rotate_left 2
                  · intro w' hg
                    go_simp
                    with_reducible rfl
                  · simp only [Act.put, List.setIfInBounds_toArray, List.set_cons_zero, List.set_cons_succ, i64_w, i32_w]
                    rfl
                  clear hpw
                  have huw := i64_big u (by omega)
                  refine rseq_pure (i := 16) (N := some 90) (v := ?_) (a' := ?_) rfl rfl (by rfl) (fun _ _ _ h => h) ?_ ?_ ?_
                  rotate_left 2
                  · intro w' hg
                    go_simp
                    with_reducible rfl
                  · simp only [Act.put, List.setIfInBounds_toArray, List.set_cons_zero, List.set_cons_succ, i64_w, i32_w]
                    rfl
                  clear huw
                  have hqw := wrap64_big q (by omega)
                  refine rseq_pure (i := 17) (N := some 91) (v := ?_) (a' := ?_) rfl rfl (by rfl) (fun _ _ _ h => h) ?_ ?_ ?_
                  rotate_left 2
                  · intro w' hg
                    go_simp
                    with_reducible rfl
                  · simp only [Act.put, List.setIfInBounds_toArray, List.set_cons_zero, List.set_cons_succ, i64_w, i32_w]
                    rfl
                  clear hqw
                  have hx5 := gx _ (Grow.refl _)
                  refine rseq_skip (i := 18) (w1 := ?_) rfl rfl (by rfl) ?_ ?_ ?_
                  rotate_left
                  · go_simp
                    rfl
                  · exact ⟨fun h => absurd (by decide) h, trivial⟩
                  refine rseq_done ?_
                  go_wp2
                  go_roundw
                  case rel =>
                    have hn := HN.out
                    rw [HQ.out, show E.getD q 0 = x from X.out, HP.out, HU.out] at hn
                    exact ⟨yy + 1, _, by omega, by go_num, hput.out, hn, hb5.setCell hg6 _⟩
                  case measure => simp [intOf]; omega
                · obtain rfl : yy = 16 := by omega
                  have hdone := HMY.out
                  rw [show 16 = (clampL key).length from (clampL_length key HK.out.2.1).symm] at hdone
                  have HMR2 := hd (hdone.done (by rw [HL2.out]; exact hltx) A0.out)
                  clear hdone
                  go_wp2
                  go_roundw
                  case rel => exact ⟨xx + 1, E, by omega, by go_num, ho8, HMR2.out, hb8⟩
                  case measure => simp [intOf]; omega
            · obtain rfl : xx = dl := by omega
              have hdone : MulR D2 (clampL key) n16 D2.length E := by rw [HL2.out]; exact HMR.out
              have hval : loadN E = (accC (rN key) b k % polyP + chunkN b k) * rN key := by
                rw [hdone.done, HLD2.out]
                rfl
              have hlt9 := acc_prod (x := accC (rN key) b k % polyP) (Nat.lt_trans (Nat.mod_lt _ (by decide)) (by decide)) (chunkN_lt HB.out.ok k) (rN_lt HK.out.ok HK.out.2.1)
              rw [← hval] at hlt9
              have hlen := HMR.out.len
              have hmod := mod_calls (M := max E.length 18) ho8.row.2.2 ho8.row.2.1 (fun x hx => by have := HMR.out.dig x hx; omega) rfl (by rw [hlen]; omega) (Nat.lt_of_lt_of_le hlt9 (by
                have h9 : (256 : Nat) ^ 32 ≤ 256 ^ (max E.length 18) := Nat.pow_le_pow_right (by decide) (by rw [hlen]; have := HN16.out; omega)
                exact Nat.le_trans (by decide) h9))
              rw [hlen] at hmod
              have HMD := hd hmod
              have HVL := hd hval
              have HB8 := hd hb8
              clear hdone hval hlt9 hlen hmod ho8 hb8
              have q2 : decide ((xx : Int) < (xx : Int)) = false := by simp
              go_wp2_with fail
              refine HMD.out.mono ?_
              rintro e w9 ⟨v9, rfl, D9, ho9, hdb9, hld9, hl9, hl9M, hb9⟩
              have HF := hd (And.intro hl9 (And.intro (show D9.length ≤ 18 + 16 * (k + 1) by have := HN16.out; omega) (show loadN D9 = accC (rN key) b (k + 1) % polyP by rw [hld9, HVL.out, ← acc_mod])))
              have HO9 := hd (And.intro (ho9.lower (Nat.le_trans HBC.out.size HB8.out.size)) (And.intro hdb9 (below_seq HBC.out (below_seq HB8.out hb9))))
              clear hl9 hl9M hld9 ho9 hdb9 hb9
              go_wp2
              go_roundw
              case rel => exact ⟨k + 1, D9, by have := HI.out; omega, by rw [show 16 * (k + 1) = i16 + 16 by have := HI.out; omega]; go_num, HO9.out.1, HO9.out.2.1, HF.out.1, HF.out.2.1, HF.out.2.2, HO9.out.2.2⟩
              case measure => simp [intOf]; omega
    · have q1 : decide ((i16 : Int) < (nb : Int)) = false := by simp; omega
      have HKK := hd (show k = (nb + 15) / 16 by have := HI.out; omega)
      go_wp2_with fail
      go_loopw [12] (fun i wi => ∃ (m : Nat) (E : List Nat), m ≤ 16 ∧ i = .int .i64 m ∧ OwnK .i64 3 w1.heap.size wi (.slice (some ⟨g, 0, none⟩) dl cD) E ∧ AddR D (key.drop 16) m E ∧ Below w1.heap.size w1 wi) (fun i _ => 16 - (intOf i).toNat)
      case atStart => exact ⟨0, D, by omega, rfl, ho, AddR.start HDB.out, hb1⟩
      case round =>
        clear ho hb1
        obtain ⟨m, E, hm16, rfl, ho, had, hb1⟩ := hrel
        have HAD := hd had
        clear had
        have HLEN := hd (HAD.out.len.trans HDL.out)
        by_cases h16 : m < 16
        · obtain ⟨q, HQ⟩ : ∃ q, Aside0 (16 + m = q) := ⟨_, ⟨rfl⟩⟩
          have hq : (16 : Int) + (m : Int) = (q : Int) := by have := HQ.out; omega
          have hqn : q < 32 := by have := HQ.out; omega
          have j0 : (0 : Int) ≤ m := by omega
          have j1 : (m : Int) < dl := by omega
          have j2 : (0 : Int) ≤ q := by omega
          have j3 : (q : Int) < 32 := by omega
          have hlen := HLEN.out
          go_wp2_with fail
          refine upR_start Keeps.any [12] [(0, 1), (1, 1), (2, 1), (3, 1), (4, 1), (5, 1), (6, 1), (7, 1), (8, 1), (9, 1), (10, 1), (11, 1), (12, 0)] (by kernel_rfl) rfl (by kernel_rfl) (by kernel_rfl) ?_
          have ho5 := ho.below (below_drew (Below.refl _ _))
          have hb5 := hb1.drew
          have hbb := (HK.out.below (below_seq HB7.out hb1)).drew
          generalize wr.drew = w5 at ho5 hb5 hbb ⊢
          obtain ⟨x, X, hx, fx⟩ := ho5.cellx m (by omega)
          obtain ⟨ad, y, rfl, Y, hy⟩ := hbb.1.at_ q (by rw [hbb.2.1]; omega)
          have hyb : y < 256 := by rw [← Y.out]; exact HK.out.ok.getD q
          have hxb : x < 1024 := by rw [← X.out]; exact getD_lt HAD.out.dig (by decide) m
          have gx := Grow.cells hx
          have gy := Grow.cells hy
          obtain ⟨u, HU⟩ : ∃ u, Aside0 (x + y = u) := ⟨_, ⟨rfl⟩⟩
          have hu : (x : Int) + (y : Int) = (u : Int) := by have := HU.out; omega
          have hx0 : (x : Int) ≤ 1024 := by omega
          have hy0 : (y : Int) ≤ 256 := by omega
          have hu0 : (u : Int) ≤ 2000 := by have := HU.out; omega
          have hyy : (key.drop 16).getD m 0 = y := by rw [← Y.out, List.getD_eq_getElem?_getD, List.getElem?_drop, List.getD_eq_getElem?_getD, HQ.out]
          have HN := hd (HAD.out.put (by rw [HDL.out]; omega) (by rw [List.length_drop, HK.out.2.1]; have := HQ.out; omega) hyy hyb)
          have hput := hd (ho5.put m u)
          clear hx hy ho ho5 hb1 hbb hyb hxb hyy
          refine rseq_pure (i := 0) (N := some 98) (v := ?_) (a' := ?_) rfl rfl (by rfl) (fun _ _ _ h => h) ?_ ?_ ?_
          rotate_left 2
          · intro w' hg
            go_simp
            with_reducible rfl
          · simp only [Act.put, List.setIfInBounds_toArray, List.set_cons_zero, List.set_cons_succ, i64_w, i32_w]
            rfl
          refine rseq_pure (i := 1) (N := some 99) (v := ?_) (a' := ?_) rfl rfl (by rfl) (fun _ _ _ h => h) ?_ ?_ ?_
          rotate_left 2
          · intro w' hg
            go_simp
            with_reducible rfl
          · simp only [Act.put, List.setIfInBounds_toArray, List.set_cons_zero, List.set_cons_succ, i64_w, i32_w]
            rfl
          refine rseq_pure (i := 2) (N := some 100) (v := ?_) (a' := ?_) rfl rfl (by rfl) (fun _ _ _ h => h) ?_ ?_ ?_
          rotate_left 2
          · intro w' hg
            go_simp
            with_reducible rfl
          · simp only [Act.put, List.setIfInBounds_toArray, List.set_cons_zero, List.set_cons_succ, i64_w, i32_w]
            rfl
          refine rseq_pure (i := 3) (N := some 101) (v := ?_) (a' := ?_) rfl rfl (by rfl) (fun _ _ _ h => h) ?_ ?_ ?_
          rotate_left 2
          · intro w' hg
            go_simp
            with_reducible rfl
          · simp only [Act.put, List.setIfInBounds_toArray, List.set_cons_zero, List.set_cons_succ, i64_w, i32_w]
            rfl
          refine rseq_pure (i := 4) (N := some 102) (v := ?_) (a' := ?_) rfl rfl (by rfl) (fun _ _ _ h => h) ?_ ?_ ?_
          rotate_left 2
          · intro w' hg
            go_simp
            with_reducible rfl
          · simp only [Act.put, List.setIfInBounds_toArray, List.set_cons_zero, List.set_cons_succ, i64_w, i32_w]
            rfl
          refine rseq_pure (i := 5) (N := some 103) (v := ?_) (a' := ?_) rfl rfl (by rfl) (fun _ _ _ h => h) ?_ ?_ ?_
          rotate_left 2
          · intro w' hg
            go_simp
            with_reducible rfl
          · simp only [Act.put, List.setIfInBounds_toArray, List.set_cons_zero, List.set_cons_succ, i64_w, i32_w]
            rfl
          have hqw := wrap64_big q (by omega)
          refine rseq_pure (i := 6) (N := some 104) (v := ?_) (a' := ?_) rfl rfl (by rfl) (fun _ _ _ h => h) ?_ ?_ ?_
          rotate_left 2
          · intro w' hg
            go_simp
            with_reducible rfl
          · simp only [Act.put, List.setIfInBounds_toArray, List.set_cons_zero, List.set_cons_succ, i64_w, i32_w]
            rfl
          refine rseq_pure (i := 7) (N := some 105) (v := ?_) (a' := ?_) rfl rfl (by rfl) (fun _ _ _ h => h) ?_ ?_ ?_
          rotate_left 2
          · intro w' hg
            go_simp
            with_reducible rfl
          · simp only [Act.put, List.setIfInBounds_toArray, List.set_cons_zero, List.set_cons_succ, i64_w, i32_w]
            rfl
          clear hqw
          refine rseq_pure (i := 8) (N := some 106) (v := ?_) (a' := ?_) rfl rfl (by rfl) (fun _ _ _ h => h) ?_ ?_ ?_
          rotate_left 2
          · intro w' hg
            go_simp
            with_reducible rfl
          · simp only [Act.put, List.setIfInBounds_toArray, List.set_cons_zero, List.set_cons_succ, i64_w, i32_w]
            rfl
          have hyw := i64_big y (by omega)
          refine rseq_pure (i := 9) (N := some 107) (v := ?_) (a' := ?_) rfl rfl (by rfl) (fun _ _ _ h => h) ?_ ?_ ?_
          rotate_left 2
          · intro w' hg
            go_simp
            with_reducible rfl
          · simp only [Act.put, List.setIfInBounds_toArray, List.set_cons_zero, List.set_cons_succ, i64_w, i32_w]
            rfl
          clear hyw
          have huw := i64_big u (by omega)
          refine rseq_pure (i := 10) (N := some 108) (v := ?_) (a' := ?_) rfl rfl (by rfl) (fun _ _ _ h => h) ?_ ?_ ?_
          rotate_left 2
          · intro w' hg
            go_simp
            with_reducible rfl
          · simp only [Act.put, List.setIfInBounds_toArray, List.set_cons_zero, List.set_cons_succ, i64_w, i32_w]
            rfl
          clear huw
          refine rseq_pure (i := 11) (N := some 109) (v := ?_) (a' := ?_) rfl rfl (by rfl) (fun _ _ _ h => h) ?_ ?_ ?_
          rotate_left 2
          · intro w' hg
            go_simp
            with_reducible rfl
          · simp only [Act.put, List.setIfInBounds_toArray, List.set_cons_zero, List.set_cons_succ, i64_w, i32_w]
            rfl
          have hx5 := gx _ (Grow.refl _)
          refine rseq_skip (i := 12) (w1 := ?_) rfl rfl (by rfl) ?_ ?_ ?_
          rotate_left
          · go_simp
            rfl
          · exact ⟨fun h => absurd (by decide) h, trivial⟩
          refine rseq_done ?_
          go_wp2
          go_roundw
          case rel =>
            have hn := HN.out
            rw [show E.getD m 0 = x from X.out, HU.out] at hn
            exact ⟨m + 1, _, by omega, by go_num, hput.out, hn, hb5.setCell hg _⟩
          case measure => simp [intOf]; omega
        · obtain rfl : m = 16 := by omega
          have hval : loadN E = accC (rN key) b ((b.length + 15) / 16) % polyP + sN key := by
            rw [HAD.out.load, HLD.out, HKK.out, HB.out.2.1]
            rfl
          have hcar := carry_calls (n := 18) ho.row.2.2 ho.row.2.1 (fun x hx => Nat.lt_trans (HAD.out.dig x hx) (by decide)) rfl (by rw [HLEN.out]; have := HI.out; omega)
          rw [HLEN.out] at hcar
          have HCAR := hd hcar
          have HVL := hd hval
          have HB5 := hd hb1
          clear hcar hval ho hb1
          go_wp2_with fail
          refine HCAR.out.mono ?_
          rintro e w4 ⟨v4, D4, rfl, ho4, hdb4, hld4, hl4, _, _, hb4⟩
          have hl18' : 18 ≤ D4.length := by omega
          obtain ⟨g4, c4, rfl, _, _, _⟩ := ho4.form (by omega)
          have HO4 := hd ho4
          have HD4 := hd (And.intro hdb4 (hld4.trans HVL.out))
          have HB9 := hd (below_seq HB7.out (below_seq HB5.out hb4))
          have HSZ := hd (Nat.le_trans HB7.out.size (Nat.le_trans HB5.out.size hb4.size))
          clear ho4 hdb4 hld4 hl4 hb4
          obtain ⟨d4, hd4⟩ : ∃ d, d = D4.length := ⟨_, rfl⟩
          rw [← hd4] at hl18' HO4 ⊢
          go_wp2_with fail
          go_loopw [13, 14] (fun v i wi => ∃ m : Nat, m ≤ 16 ∧ i = .int .i64 m ∧ OwnK .u8 5 w4.heap.size wi v (D4.take m) ∧ Below w4.heap.size w4 wi) (fun _ i _ => 16 - (intOf i).toNat)
          case atStart => exact ⟨0, by omega, rfl, OwnK.nil _ _ _ _, Below.refl _ _⟩
          case round =>
            obtain ⟨m, hm, rfl, ho, hb1⟩ := hrel
            by_cases hlt3 : m < 16
            · obtain ⟨x, X, hcell, hfr⟩ := (HO4.out.below hb1).cellx m (by omega)
              have hx : x < 256 := by rw [← X.out]; exact HD4.out.1.getD m
              have j0 : (0 : Int) ≤ m := by omega
              have j1 : (m : Int) < d4 := by omega
              have hwx : IntKind.u8.wrap (x : Int) = (x : Int) := wrapN_u (k := .u8) rfl hx
              have hs := hb1.size
              have HTK := hd (take_snoc D4 m 0 (by omega))
              have hlen : (D4.take m).length ≤ 16 := by rw [List.length_take]; omega
              go_wp2_with ((with_reducible refine gate_dst (N := 123) rfl ?_); at_builtin; refine op_append (k := .u8) (w0 := w4) 123 rfl w4.heap.size 5 40 _ _ rfl rfl Tryd.underlying40 Tryd.infoU8 (by decide) u13 (D4.take m) _ x rfl rfl rfl ho hb1 hs (by omega) ?_; intro v1 w1' ho1 hb1' hg1)
              go_roundw
              case rel => exact ⟨m + 1, by omega, by go_num, by rw [HTK.out, X.out]; exact ho1, hb1'⟩
              case measure => simp [intOf]; omega
            · obtain rfl : m = 16 := by omega
              have e : D4.take 16 = macL key b := by
                rw [← storeN_take (by omega) HD4.out.1, HD4.out.2]
                rfl
              rw [e] at ho
              go_wp2
              go_ret
              exact ⟨_, rfl, ho.lower HSZ.out, below_seq HB9.out hb1⟩

end Go.Proofs.YtlgdplodglchaaaDoor
/- The contract of redanref08.Mac for keys of any length. -/
set_option linter.unusedVariables false
set_option linter.unusedSimpArgs false
namespace Go.Proofs.YtlgdplodglchaaaDoor
open Go.RowKit Go.Proofs.YtlgdplodglchaaaDoorW.PrintWords Go.Proofs.YtlgdplodglchaaaDoorW.PrintLast Go.Proofs.YtlgdplodglchaaaDoorW.PrintMore

end Go.Proofs.YtlgdplodglchaaaDoor
