/- The walks through the permutation: a round, all rounds. -/
import Derived.Test.YtlgdplodglchaaaDoorKecB
import Derived.ChangeKeysEq
set_option linter.unusedVariables false
set_option linter.unusedSimpArgs false
namespace Go.Proofs.YtlgdplodglchaaaDoor
open Go.RowKit Go.Proofs.YtlgdplodglchaaaDoorW.PrintWords Go.Proofs.YtlgdplodglchaaaDoorW.PrintLast Go.Proofs.YtlgdplodglchaaaDoorW.PrintMore
theorem zeros25 : #[.int .u64 0, .int .u64 0, .int .u64 0, .int .u64 0, .int .u64 0, .int .u64 0, .int .u64 0, .int .u64 0, .int .u64 0, .int .u64 0, .int .u64 0, .int .u64 0, .int .u64 0, .int .u64 0, .int .u64 0, .int .u64 0, .int .u64 0, .int .u64 0, .int .u64 0, .int .u64 0, .int .u64 0, .int .u64 0, .int .u64 0, .int .u64 0, .int .u64 0] = cellsOf .u64 (List.replicate 25 0) := rfl
theorem iota_zero {r : Nat} (hr : r < 24) : ∃ c : Nat, c ≠ 0 ∧ cellsOf .u64 (iotaN (List.replicate 25 0) r) = #[.int .u64 (c : Int), .int .u64 0, .int .u64 0, .int .u64 0, .int .u64 0, .int .u64 0, .int .u64 0, .int .u64 0, .int .u64 0, .int .u64 0, .int .u64 0, .int .u64 0, .int .u64 0, .int .u64 0, .int .u64 0, .int .u64 0, .int .u64 0, .int .u64 0, .int .u64 0, .int .u64 0, .int .u64 0, .int .u64 0, .int .u64 0, .int .u64 0, .int .u64 0] := by
  refine ⟨0 ^^^ kecC.getD r 0, ?_, rfl⟩
  rw [Nat.zero_xor]
  have : ∀ r, r < 24 → kecC.getD r 0 ≠ 0 := by decide
  exact this r hr
set_option maxHeartbeats 4000000 in
set_option maxRecDepth 100000 in
theorem round_calls {a : List Nat} (ha_ : a.length = 25) (hl_ : Lanes a) {r : Nat} (hr_ : r < 24) {w : World} (ht_ : TurnsAt w) (hc_ : ConstsAt w) : Calls Tryd.prog 107 #[.agg (cellsOf .u64 a), .int .i64 (r : Int)] w fun e w' => e = .returned (.agg (cellsOf .u64 (roundN a r))) ∧ Below w.heap.size w w' := by
  have ha := hd ha_
  have hl := hd hl_
  have hr := hd hr_
  have HT := hd ht_
  have HCO := hd hc_
  clear ha_ hl_ hr_ ht_ hc_
  go_enter Tryd.func107, Tryd.ntmps107
  go_upto_region 1 with (fail)
  have a0 := below_alloc (Below.refl _ w) (.cells (cellsOf .u64 a) 135)
  have b0 : Arr .u64 135 w.heap.size _ a := Arr.new w (cs := cellsOf .u64 a) rfl
  have a1 := below_alloc (Below.refl _ (w.alloc (.cells (cellsOf .u64 a) 135))) (.cells (cellsOf .u64 (List.replicate 25 0)) 135)
  have b1 : Arr .u64 135 (w.alloc (.cells (cellsOf .u64 a) 135)).heap.size _ (List.replicate 25 0) := Arr.new (w.alloc (.cells (cellsOf .u64 a) 135)) (cs := cellsOf .u64 (List.replicate 25 0)) rfl
  rw [World.size_alloc] at b1
  rw [zeros25]
  have HA := hd (b0.below a1)
  have HR := hd b1
  have HBW := hd (below_seq a0 a1)
  clear a0 a1 b0 b1
  generalize (w.alloc (.cells (cellsOf .u64 a) 135)).alloc (.cells (cellsOf .u64 (List.replicate 25 0)) 135) = w3 at HA HR HBW ⊢
  obtain ⟨q, hq⟩ : ∃ q, Aside0 (w.heap.size = q) := ⟨_, ⟨rfl⟩⟩
  have HQ := hd (show w.heap.size ≤ q by rw [hq.out]; exact Nat.le_refl _)
  rw [hq.out] at HA HR ⊢
  clear hq
  go_wp2_with fail
  refine (iota_calls (a := List.replicate 25 0) (by simp) (Lanes.zeros 25) hr.out (HCO.out.below HBW.out)).mono ?_
  rintro e w4 ⟨rfl, hb⟩
  obtain ⟨c, hc0, hce⟩ := iota_zero hr.out
  rw [hce]
  have hqe : ∀ w', (Op.equalIn 10000 135 (.agg #[.int .u64 (c : Int), .int .u64 0, .int .u64 0, .int .u64 0, .int .u64 0, .int .u64 0, .int .u64 0, .int .u64 0, .int .u64 0, .int .u64 0, .int .u64 0, .int .u64 0, .int .u64 0, .int .u64 0, .int .u64 0, .int .u64 0, .int .u64 0, .int .u64 0, .int .u64 0, .int .u64 0, .int .u64 0, .int .u64 0, .int .u64 0, .int .u64 0, .int .u64 0]) (.agg #[.int .u64 0, .int .u64 0, .int .u64 0, .int .u64 0, .int .u64 0, .int .u64 0, .int .u64 0, .int .u64 0, .int .u64 0, .int .u64 0, .int .u64 0, .int .u64 0, .int .u64 0, .int .u64 0, .int .u64 0, .int .u64 0, .int .u64 0, .int .u64 0, .int .u64 0, .int .u64 0, .int .u64 0, .int .u64 0, .int .u64 0, .int .u64 0, .int .u64 0])).run Tryd.prog w' = .ok false w' := fun w' => by
    have q1 : ((c : Int) == 0) = false := by simpa using hc0
    rw [run_equalIn_array (P := Tryd.prog) w' 9999 _ _ Tryd.underlying135 rfl, show List.range 25 = 0 :: List.range' 1 24 from rfl, Op.eqItems]
    simp only [Sem.run_bind, Nat.zero_mul, run_part_plain (P := Tryd.prog) w' (e := 22) (by kernel_rfl) (off := 0) (xs := #[.int .u64 (c : Int), .int .u64 0, .int .u64 0, .int .u64 0, .int .u64 0, .int .u64 0, .int .u64 0, .int .u64 0, .int .u64 0, .int .u64 0, .int .u64 0, .int .u64 0, .int .u64 0, .int .u64 0, .int .u64 0, .int .u64 0, .int .u64 0, .int .u64 0, .int .u64 0, .int .u64 0, .int .u64 0, .int .u64 0, .int .u64 0, .int .u64 0, .int .u64 0]) (v := .int .u64 (c : Int)) rfl,
      run_part_plain (P := Tryd.prog) w' (e := 22) (by kernel_rfl) (off := 0) (xs := #[.int .u64 0, .int .u64 0, .int .u64 0, .int .u64 0, .int .u64 0, .int .u64 0, .int .u64 0, .int .u64 0, .int .u64 0, .int .u64 0, .int .u64 0, .int .u64 0, .int .u64 0, .int .u64 0, .int .u64 0, .int .u64 0, .int .u64 0, .int .u64 0, .int .u64 0, .int .u64 0, .int .u64 0, .int .u64 0, .int .u64 0, .int .u64 0, .int .u64 0]) (v := .int .u64 0) rfl, Result.andThen_ok, run_equalIn_int (P := Tryd.prog) w' 9998 22 .u64 .u64 (c : Int) 0 Tryd.underlying22, q1, Bool.not_false, if_true, Sem.run_pure]
  replace HA := hd (HA.out.below hb)
  replace HR := hd (HR.out.below hb)
  replace HBW := hd (below_seq HBW.out hb)
  clear hb hce
  go_upto_region 3 with (fail)
  clear hqe hc0
  go_wp2_with ((with_reducible refine gate_dst (N := 11) rfl ?_); refine op_loadA 11 rfl rfl 135 22 25 _ rfl rfl HA.out (cellsOf .u64 (a)) rfl Tryd.underlying135 (by kernel_rfl) (ha.out) ?_)
  refine (theta_calls ha.out hl.out).mono ?_
  rintro e w5 ⟨rfl, hb⟩
  replace HR := hd (HR.out.below hb)
  replace HBW := hd (below_seq HBW.out hb)
  clear hb
  clear HA
  go_wp2_with fail
  refine (rho_calls (thetaN_length a) (thetaN_ok hl.out) (HT.out.below HBW.out)).mono ?_
  rintro e w6 ⟨rfl, hb⟩
  replace HR := hd (HR.out.below hb)
  replace HBW := hd (below_seq HBW.out hb)
  clear hb
  go_wp2_with fail
  refine (pi_calls (rhoN_length _)).mono ?_
  rintro e w7 ⟨rfl, hb⟩
  replace HR := hd (HR.out.below hb)
  replace HBW := hd (below_seq HBW.out hb)
  clear hb
  go_wp2_with fail
  refine (chi_calls (piN_length _) (piN_ok (rhoN_ok (thetaN_ok hl.out)))).mono ?_
  rintro e w8 ⟨rfl, hb⟩
  replace HR := hd (HR.out.below hb)
  replace HBW := hd (below_seq HBW.out hb)
  clear hb
  go_wp2_with fail
  refine (iota_calls (chiN_length _) (chiN_ok (piN_ok (rhoN_ok (thetaN_ok hl.out)))) hr.out (HCO.out.below HBW.out)).mono ?_
  rintro e w9 ⟨rfl, hb⟩
  replace HR := hd (HR.out.below hb)
  replace HBW := hd (below_seq HBW.out hb)
  clear hb
  go_wp2_with ((with_reducible refine gate_store (t := 135) (p := 4) rfl ?_); refine op_storeA rfl rfl 135 25 _ _ rfl rfl (roundN a r) rfl HR.out (by kernel_rfl) (List.length_replicate) (roundN_length a r) ?_; intro w10 hz1 ho1)
  exact ret_cellA Tryd.results107 rfl hz1 rfl Tryd.underlying135 (by kernel_rfl) (roundN_length a r) ⟨rfl, below_only HBW.out ho1 (by have := HQ.out; omega)⟩
set_option maxHeartbeats 4000000 in
set_option maxRecDepth 100000 in
theorem kecF_calls {a : List Nat} (ha_ : a.length = 25) (hl_ : Lanes a) {w : World} (ht_ : TurnsAt w) (hc_ : ConstsAt w) : Calls Tryd.prog 93 #[.agg (cellsOf .u64 a)] w fun e w' => e = .returned (.agg (cellsOf .u64 (kecN a))) ∧ Below w.heap.size w w' := by
  have ha := hd ha_
  have hl := hd hl_
  have HT := hd ht_
  have HCO := hd hc_
  clear ha_ hl_ ht_ hc_
  go_enter Tryd.func93, Tryd.ntmps93
  go_upto_region 2 with (fail)
  have a0 := below_alloc (Below.refl _ w) (.cells (cellsOf .u64 a) 135)
  have b0 : Arr .u64 135 w.heap.size _ a := Arr.new w (cs := cellsOf .u64 a) rfl
  have a1 := below_alloc (Below.refl _ (w.alloc (.cells (cellsOf .u64 a) 135))) (.cells (cellsOf .u64 (List.replicate 25 0)) 135)
  have b1 : Arr .u64 135 (w.alloc (.cells (cellsOf .u64 a) 135)).heap.size _ (List.replicate 25 0) := Arr.new (w.alloc (.cells (cellsOf .u64 a) 135)) (cs := cellsOf .u64 (List.replicate 25 0)) rfl
  rw [World.size_alloc] at b1
  rw [zeros25]
  have HA := hd (b0.below a1)
  have HR := hd b1
  have HBW := hd (below_seq a0 a1)
  clear a0 a1 b0 b1
  generalize (w.alloc (.cells (cellsOf .u64 a) 135)).alloc (.cells (cellsOf .u64 (List.replicate 25 0)) 135) = w3 at HA HR HBW ⊢
  obtain ⟨q, hq⟩ : ∃ q, Aside0 (w.heap.size = q) := ⟨_, ⟨rfl⟩⟩
  have HQ := hd (show w.heap.size ≤ q by rw [hq.out]; exact Nat.le_refl _)
  rw [hq.out] at HA HR ⊢
  clear hq
  go_loopw [3, 4] (fun u3 u4 wr => ∃ i : Nat, i ≤ 24 ∧ u4 = .int .i64 i ∧ Aside0 (Arr .u64 135 q wr (roundsN a i)) ∧ Aside0 (Arr .u64 135 (q + 1) wr (List.replicate 25 0)) ∧ Aside0 (Below w.heap.size w wr)) (fun _ u4 _ => 24 - (intOf u4).toNat)
  case atStart => exact ⟨0, by decide, rfl, HA, HR, HBW⟩
  case round =>
    obtain ⟨i, hi, rfl, HA, HR, HBW⟩ := hrel
    by_cases hlt : i < 24
    · have i1 : (i : Int) < 24 := by omega
      have HLT := hd hlt
      clear hi hlt
      go_wp2_with ((with_reducible refine gate_dst (N := 7) rfl ?_); refine op_loadA 7 rfl rfl 135 22 25 _ rfl rfl HA.out (cellsOf .u64 (roundsN a i)) rfl Tryd.underlying135 (by kernel_rfl) (roundsN_length ha.out i) ?_)
      refine (round_calls (roundsN_length ha.out i) (roundsN_ok hl.out i) HLT.out (HT.out.below HBW.out) (HCO.out.below HBW.out)).mono ?_
      rintro e w5 ⟨rfl, hb⟩
      replace HA := hd (HA.out.below hb)
      replace HR := hd (HR.out.below hb)
      replace HBW := hd (below_seq HBW.out hb)
      clear hb
      go_upto_region 5 with ((with_reducible refine gate_store (t := 135) (p := 1) rfl ?_); refine op_storeA rfl rfl 135 25 _ _ rfl rfl (roundsN a (i + 1)) rfl HA.out (by kernel_rfl) (roundsN_length ha.out i) (roundsN_length ha.out (i + 1)) ?_; intro w6 hz6 ho6)
      replace HR := hd (HR.out.only ho6 (by omega))
      replace HBW := hd (below_only HBW.out ho6 HQ.out)
      have HA6 := hd hz6
      clear hz6 ho6 HA
      go_wp2
      go_roundw
      case rel => exact ⟨i + 1, HLT.out, by go_num, HA6, HR, HBW⟩
      case measure => simp [intOf]; have := HLT.out; omega
    · have i1 : ¬ ((i : Int) < 24) := by omega
      obtain rfl : i = 24 := by omega
      clear hi hlt
      have HA2 := hd (show Arr .u64 135 q wr (kecN a) from HA.out)
      go_wp2_with (first | ((with_reducible refine gate_dst (N := 11) rfl ?_); refine op_loadA 11 rfl rfl 135 22 25 _ rfl rfl HA2.out (cellsOf .u64 (kecN a)) rfl Tryd.underlying135 (by kernel_rfl) (kecN_length ha.out) ?_) | ((with_reducible refine gate_store (t := 135) (p := 2) rfl ?_); refine op_storeA rfl rfl 135 25 _ _ rfl rfl (kecN a) rfl HR.out (by kernel_rfl) (List.length_replicate) (kecN_length ha.out) ?_; intro w9 hz1 ho1))
      exact ret_cellA Tryd.results93 rfl hz1 rfl Tryd.underlying135 (by kernel_rfl) (kecN_length ha.out) ⟨rfl, below_only HBW.out ho1 (by have := HQ.out; omega)⟩
end Go.Proofs.YtlgdplodglchaaaDoor
