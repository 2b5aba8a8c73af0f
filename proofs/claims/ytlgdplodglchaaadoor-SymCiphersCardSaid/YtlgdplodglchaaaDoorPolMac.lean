/- The walk through poly.Mac. -/
import Derived.Test.YtlgdplodglchaaaDoorGPlain2
import Derived.Test.YtlgdplodglchaaaDoorPolTimes
import Derived.Test.YtlgdplodglchaaaDoorM2
import Derived.Test.YtlgdplodglchaaaDoorGLib
import Derived.WalkSpells
set_option linter.unusedVariables false
set_option linter.unusedSimpArgs false
namespace Go.Proofs.YtlgdplodglchaaaDoor
open Go.RowKit Go.Proofs.YtlgdplodglchaaaDoorW.PrintWords Go.Proofs.YtlgdplodglchaaaDoorW.PrintLast Go.Proofs.YtlgdplodglchaaaDoorW.PrintMore

theorem nil_eq (A : Option Addr) (n c : Nat) (w : World) : (binOp .eql 40 (.slice A n c) (.slice none 0 0)).run Tryd.prog w = .ok (.bool A.isNone) w := Lib.run_eql_slice_nil w _ _ A n c 0 0 Tryd.underlying40
set_option maxHeartbeats 4000000 in
set_option maxRecDepth 100000 in
theorem mac_calls {A B : Option Addr} {ca nb cb : Nat} {key b : List Nat} {w : World} (hk : Bytes w A 32 ca key) (hb : Bytes w B nb cb b) (hfit : nb ≤ 1000000000) :
    Calls Tryd.prog 102 #[.slice A 32 ca, .slice B nb cb] w fun e w' => ∃ v, e = .returned v ∧ OwnK .u8 5 w.heap.size w' v (macL key b) ∧ Below w.heap.size w w' := by
  have HK := hd hk
  have HB := hd hb
  obtain ⟨r0, R0⟩ : ∃ r, Aside0 (loadN (((clampL key).take 8).take 8) = r) := ⟨_, ⟨rfl⟩⟩
  obtain ⟨r1, R1⟩ : ∃ r, Aside0 (loadN (((clampL key).drop 8).take 8) = r) := ⟨_, ⟨rfl⟩⟩
  clear hk hb
  go_enter Tryd.func102, Tryd.ntmps102
  go_wp2_with fail
  refine (clamp_calls HK.out).mono ?_
  rintro e w1 ⟨v, rfl, ho, hb1⟩
  obtain ⟨Ac, cc, rfl, hcl⟩ := ho.bytes 16 (clampL_length key HK.out.2.1) (clampL_ok HK.out.ok)
  obtain ⟨gc, rfl, _, _⟩ := ho.at_ (by decide)
  have hcc := hcl.2.2.1
  have i8 : (8 : Int) ≤ cc := by omega
  have n8 : (cc = 8) = False := eq_false (by omega)
  clear ho
  have hne := fun w => nil_eq (some ⟨gc, 0, none⟩) 16 cc w
  go_upto_region 4 with fail
  clear hne
  go_cut [6] from 16 to 22 (fun v wx => ∃ g, v = .pointer (some ⟨g, 0, none⟩) ∧ Arr .u64 108 g wx [r0, r1] ∧ w.heap.size ≤ g ∧ Below w.heap.size w wx)
  case first =>
    refine uq_start (fun _ _ => True) [8] 9 rfl (by kernel_rfl) ?_
    have hc1 := hcl.drew
    have hb2 := hb1.drew
    generalize w1.drew = w2 at hc1 hb2 ⊢
    have hcA : Bytes w2 (some ⟨gc, 0, none⟩) 8 cc ((clampL key).take 8) := hc1.take 8 (by decide)
    have hcB : Bytes w2 (some ⟨gc, 8, none⟩) 8 (cc - 8) ((clampL key).drop 8) := by
      have := hc1.drop 8 (by decide)
      rw [if_neg (by omega)] at this
      exact this
    have hal := below_alloc (Below.refl w2.heap.size w2) (.cells #[.int .u64 0, .int .u64 0] 108)
    have hcA' := hcA.below hal
    have hcB' := hcB.below hal
    have hnew : Arr .u64 108 w2.heap.size (w2.alloc (.cells #[.int .u64 0, .int .u64 0] 108)) [0, 0] := Arr.new w2 rfl
    refine uq_pure Keeps.any (i := 0) (N := some 16) (v := ?_) (a' := ?_) (by kernel_rfl) (by kernel_rfl) rfl rfl (by rfl) (fun _ _ _ h => h) ?_ ?_ ?_
    rotate_left 2
    · intro w' hg
      go_simp
      with_reducible rfl
    · simp only [Act.put, List.setIfInBounds_toArray, List.set_cons_zero, List.set_cons_succ, i64_w, i32_w]
      rfl
    refine uq_pure Keeps.any (i := 1) (N := some 17) (v := ?_) (a' := ?_) (by kernel_rfl) (by kernel_rfl) rfl rfl (by rfl) (fun _ _ _ h => h) ?_ ?_ ?_
    rotate_left 2
    · intro w' hg
      go_simp
      with_reducible rfl
    · simp only [Act.put, List.setIfInBounds_toArray, List.set_cons_zero, List.set_cons_succ, i64_w, i32_w]
      rfl
    refine uq_pure Keeps.any (i := 3) (N := some 19) (v := ?_) (a' := ?_) (by kernel_rfl) (by kernel_rfl) rfl rfl (by rfl) (fun _ _ _ h => h) ?_ ?_ ?_
    rotate_left 2
    · intro w' hg
      go_simp
      with_reducible rfl
    · simp only [Act.put, List.setIfInBounds_toArray, List.set_cons_zero, List.set_cons_succ, i64_w, i32_w]
      rfl
    refine uq_pure Keeps.any (i := 4) (N := some 20) (v := ?_) (a' := ?_) (by kernel_rfl) (by kernel_rfl) rfl rfl (by rfl) (fun _ _ _ h => h) ?_ ?_ ?_
    rotate_left 2
    · intro w' hg
      go_simp
      with_reducible rfl
    · simp only [Act.put, List.setIfInBounds_toArray, List.set_cons_zero, List.set_cons_succ, i64_w, i32_w]
      rfl
    refine uq_two (i := 2) (j := 7) (by kernel_rfl) ?_ ?_
    · refine uq_call (R := fun _ _ => True) (i := 2) (N := some 18) rfl rfl Tryd.func108 (by kernel_rfl) rfl #[.slice (some ⟨gc, 0, none⟩) 8 cc] (by rfl) rfl ?_ ?_
      · simp only [List.map_toArray, List.map_cons, List.map_nil]
        rfl
      refine (load_calls (hcA)).mono ?_
      rintro e w' ⟨rfl, rfl⟩
      rw [R0.out]
      refine ⟨_, rfl, ⟨fun _ => Grow.refl _, trivial⟩, ?_⟩
      refine uq_norm (a' := ?_) ?_ ?_
      rotate_left
      · show Act.put _ (some 18) _ = _
        simp only [Act.put, List.setIfInBounds_toArray, List.set_cons_zero, List.set_cons_succ, i64_w, i32_w]
        rfl
      refine uq_two (i := 5) (j := 7) (by kernel_rfl) ?_ ?_
      · refine uq_call (R := fun _ _ => True) (i := 5) (N := some 21) rfl rfl Tryd.func108 (by kernel_rfl) rfl #[.slice (some ⟨gc, 8, none⟩) 8 (cc - 8)] (by rfl) rfl ?_ ?_
        · simp only [List.map_toArray, List.map_cons, List.map_nil]
          rfl
        refine (load_calls (hcB)).mono ?_
        rintro e w' ⟨rfl, rfl⟩
        rw [R1.out]
        refine ⟨_, rfl, ⟨fun _ => Grow.refl _, trivial⟩, ?_⟩
        refine uq_norm (a' := ?_) ?_ ?_
        rotate_left
        · show Act.put _ (some 21) _ = _
          simp only [Act.put, List.setIfInBounds_toArray, List.set_cons_zero, List.set_cons_succ, i64_w, i32_w]
          rfl
        refine uq_pure Keeps.any (i := 6) (N := some 22) (v := ?_) (a' := ?_) (by kernel_rfl) (by kernel_rfl) rfl rfl (by rfl) (fun _ _ _ h => h) ?_ ?_ ?_
        rotate_left 2
        · intro w' hg
          go_simp
          with_reducible rfl
        · simp only [Act.put, List.setIfInBounds_toArray, List.set_cons_zero, List.set_cons_succ, i64_w, i32_w]
          rfl
        refine uq_one (i := 7) (by kernel_rfl) ?_
        refine uq_value (R := fun _ _ => True) (i := 7) (N := some 6) (v := .pointer (some ⟨w2.heap.size, 0, none⟩)) (a' := ?_) (w1 := w2.alloc (.cells #[.int .u64 0, .int .u64 0] 108)) rfl rfl (by rfl) ?_ ⟨fun _ => below_alloc (Below.refl _ _) _, trivial⟩ ?_ ?_
        rotate_left
        · go_simp
        · simp only [Act.put, List.setIfInBounds_toArray, List.set_cons_zero, List.set_cons_succ, i64_w, i32_w]
          rfl
        refine uq_one (i := 8) (by kernel_rfl) ?_
        refine uq_skip (R := fun _ _ => True) (i := 8) (w1 := ?_) rfl rfl (by rfl) ?_ ⟨fun h => absurd (by decide) h, trivial⟩ ?_
        rotate_left
        · refine run_storeA 108 2 (.tmp 6) (.tmp 22) ?_ ?_ [r0, r1] ?_ hnew (by kernel_rfl) rfl rfl <;> rfl
        refine uq_end (by kernel_rfl) ?_
        go_wp2_with fail
        go_meet
        exact ⟨w2.heap.size, rfl, hnew.setRow [r0, r1], hb2.size, below_only (below_seq hb2 (below_alloc (Below.refl _ _) _)) (Only.setRow _) hb2.size⟩
      · refine uq_value (R := fun _ _ => True) (i := 7) (N := some 6) (v := .pointer (some ⟨w2.heap.size, 0, none⟩)) (a' := ?_) (w1 := w2.alloc (.cells #[.int .u64 0, .int .u64 0] 108)) rfl rfl (by rfl) ?_ ⟨fun _ => below_alloc (Below.refl _ _) _, trivial⟩ ?_ ?_
        rotate_left
        · go_simp
        · simp only [Act.put, List.setIfInBounds_toArray, List.set_cons_zero, List.set_cons_succ, i64_w, i32_w]
          rfl
        refine uq_one (i := 5) (by kernel_rfl) ?_
        refine uq_call (R := fun _ _ => True) (i := 5) (N := some 21) rfl rfl Tryd.func108 (by kernel_rfl) rfl #[.slice (some ⟨gc, 8, none⟩) 8 (cc - 8)] (by rfl) rfl ?_ ?_
        · simp only [List.map_toArray, List.map_cons, List.map_nil]
          rfl
        refine (load_calls (hcB')).mono ?_
        rintro e w' ⟨rfl, rfl⟩
        rw [R1.out]
        refine ⟨_, rfl, ⟨fun _ => Grow.refl _, trivial⟩, ?_⟩
        refine uq_norm (a' := ?_) ?_ ?_
        rotate_left
        · show Act.put _ (some 21) _ = _
          simp only [Act.put, List.setIfInBounds_toArray, List.set_cons_zero, List.set_cons_succ, i64_w, i32_w]
          rfl
        refine uq_pure Keeps.any (i := 6) (N := some 22) (v := ?_) (a' := ?_) (by kernel_rfl) (by kernel_rfl) rfl rfl (by rfl) (fun _ _ _ h => h) ?_ ?_ ?_
        rotate_left 2
        · intro w' hg
          go_simp
          with_reducible rfl
        · simp only [Act.put, List.setIfInBounds_toArray, List.set_cons_zero, List.set_cons_succ, i64_w, i32_w]
          rfl
        refine uq_one (i := 8) (by kernel_rfl) ?_
        refine uq_skip (R := fun _ _ => True) (i := 8) (w1 := ?_) rfl rfl (by rfl) ?_ ⟨fun h => absurd (by decide) h, trivial⟩ ?_
        rotate_left
        · refine run_storeA 108 2 (.tmp 6) (.tmp 22) ?_ ?_ [r0, r1] ?_ hnew (by kernel_rfl) rfl rfl <;> rfl
        refine uq_end (by kernel_rfl) ?_
        go_wp2_with fail
        go_meet
        exact ⟨w2.heap.size, rfl, hnew.setRow [r0, r1], hb2.size, below_only (below_seq hb2 (below_alloc (Below.refl _ _) _)) (Only.setRow _) hb2.size⟩
    · refine uq_value (R := fun _ _ => True) (i := 7) (N := some 6) (v := .pointer (some ⟨w2.heap.size, 0, none⟩)) (a' := ?_) (w1 := w2.alloc (.cells #[.int .u64 0, .int .u64 0] 108)) rfl rfl (by rfl) ?_ ⟨fun _ => below_alloc (Below.refl _ _) _, trivial⟩ ?_ ?_
      rotate_left
      · go_simp
      · simp only [Act.put, List.setIfInBounds_toArray, List.set_cons_zero, List.set_cons_succ, i64_w, i32_w]
        rfl
      refine uq_one (i := 2) (by kernel_rfl) ?_
      refine uq_call (R := fun _ _ => True) (i := 2) (N := some 18) rfl rfl Tryd.func108 (by kernel_rfl) rfl #[.slice (some ⟨gc, 0, none⟩) 8 cc] (by rfl) rfl ?_ ?_
      · simp only [List.map_toArray, List.map_cons, List.map_nil]
        rfl
      refine (load_calls (hcA')).mono ?_
      rintro e w' ⟨rfl, rfl⟩
      rw [R0.out]
      refine ⟨_, rfl, ⟨fun _ => Grow.refl _, trivial⟩, ?_⟩
      refine uq_norm (a' := ?_) ?_ ?_
      rotate_left
      · show Act.put _ (some 18) _ = _
        simp only [Act.put, List.setIfInBounds_toArray, List.set_cons_zero, List.set_cons_succ, i64_w, i32_w]
        rfl
      refine uq_one (i := 5) (by kernel_rfl) ?_
      refine uq_call (R := fun _ _ => True) (i := 5) (N := some 21) rfl rfl Tryd.func108 (by kernel_rfl) rfl #[.slice (some ⟨gc, 8, none⟩) 8 (cc - 8)] (by rfl) rfl ?_ ?_
      · simp only [List.map_toArray, List.map_cons, List.map_nil]
        rfl
      refine (load_calls (hcB')).mono ?_
      rintro e w' ⟨rfl, rfl⟩
      rw [R1.out]
      refine ⟨_, rfl, ⟨fun _ => Grow.refl _, trivial⟩, ?_⟩
      refine uq_norm (a' := ?_) ?_ ?_
      rotate_left
      · show Act.put _ (some 21) _ = _
        simp only [Act.put, List.setIfInBounds_toArray, List.set_cons_zero, List.set_cons_succ, i64_w, i32_w]
        rfl
      refine uq_pure Keeps.any (i := 6) (N := some 22) (v := ?_) (a' := ?_) (by kernel_rfl) (by kernel_rfl) rfl rfl (by rfl) (fun _ _ _ h => h) ?_ ?_ ?_
      rotate_left 2
      · intro w' hg
        go_simp
        with_reducible rfl
      · simp only [Act.put, List.setIfInBounds_toArray, List.set_cons_zero, List.set_cons_succ, i64_w, i32_w]
        rfl
      refine uq_one (i := 8) (by kernel_rfl) ?_
      refine uq_skip (R := fun _ _ => True) (i := 8) (w1 := ?_) rfl rfl (by rfl) ?_ ⟨fun h => absurd (by decide) h, trivial⟩ ?_
      rotate_left
      · refine run_storeA 108 2 (.tmp 6) (.tmp 22) ?_ ?_ [r0, r1] ?_ hnew (by kernel_rfl) rfl rfl <;> rfl
      refine uq_end (by kernel_rfl) ?_
      go_wp2_with fail
      go_meet
      exact ⟨w2.heap.size, rfl, hnew.setRow [r0, r1], hb2.size, below_only (below_seq hb2 (below_alloc (Below.refl _ _) _)) (Only.setRow _) hb2.size⟩
  case rest =>
    obtain ⟨g6, rfl, ha6, hg6, hbw⟩ := hcut
    have hwc := hbw.size
    have h6lt := ha6.lt
    have RL := hd (show r0 < 18446744073709551616 by rw [← R0.out]; exact loadN_take_lt ((clampL_ok HK.out.ok).take 8) 8)
    have RL1 := hd (show r1 < 18446744073709551616 by rw [← R1.out]; exact loadN_take_lt ((clampL_ok HK.out.ok).drop 8) 8)
    have RE := hd (show rN key = r0 + 18446744073709551616 * r1 by
      unfold rN
      rw [loadN_16 _ (clampL_length key HK.out.2.1), ← R0.out, ← R1.out, List.take_take, List.take_of_length_le (l := (clampL key).drop 8) (by rw [List.length_drop, clampL_length key HK.out.2.1]; exact Nat.le_refl _)]
      rfl)
    clear hcl hb1 i8 n8 hcc R0 R1
    go_wp2_with fail
    have ha7 : Arr .u64 170 wc.heap.size (wc.alloc (.cells #[.int .u64 0, .int .u64 0, .int .u64 0] 170)) [0, 0, 0] := Arr.new wc rfl
    have hal := below_alloc (Below.refl wc.heap.size wc) (.cells #[.int .u64 0, .int .u64 0, .int .u64 0] 170)
    replace ha6 := ha6.below hal
    replace hbw := below_seq hbw hal
    clear hal
    generalize wc.alloc (.cells #[.int .u64 0, .int .u64 0, .int .u64 0] 170) = w7 at ha6 ha7 hbw ⊢
    generalize wc.heap.size = g7 at ha7 hwc h6lt ⊢
    go_loopw [1] (fun v wr => ∃ (d r : Nat) (A2 : Option Addr) (c2 a0 a1 a2 : Nat), d + r = nb ∧ (r = 0 ∨ d % 16 = 0) ∧ v = .slice A2 r c2 ∧ Bytes w A2 r c2 (b.drop d) ∧ num (accC (rN key) b ((d + 15) / 16)) = [a0, a1, a2] ∧ Arr .u64 108 g6 wr [r0, r1] ∧ Arr .u64 170 g7 wr [a0, a1, a2] ∧ Below w.heap.size w wr) (fun v _ => match v with | .slice _ r _ => r | _ => 0)
    case atStart => exact ⟨0, nb, B, cb, 0, 0, 0, by omega, Or.inr rfl, rfl, HB.out, by rw [show (0 + 15) / 16 = 0 from rfl, accC]; rfl, ha6, ha7, hbw⟩
    case round =>
      clear ha6 ha7 hbw
      obtain ⟨d, r, A2, c2, a0, a1, a2, hd16, hr16, rfl, hr, hn, ha6, ha7, hbw⟩ := hrel
      have HN := hd hn
      clear hn
      by_cases hlt : 0 < r
      · have hdm : d % 16 = 0 := by omega
        obtain ⟨n, hnn⟩ : ∃ n, n = min r 16 := ⟨_, rfl⟩
        have hnle : n ≤ r := by omega
        have hn0 : 0 < n := by omega
        have hn16 : n ≤ 16 := by omega
        have hrc := hr.2.2.1
        have hnc : n ≤ c2 := by omega
        have i1 : (n : Int) ≤ r := by omega
        have i2 : (0 : Int) ≤ n := by omega
        have i3 : (n : Int) ≤ c2 := by omega
        have hm : (if (16 : Int) < (r : Int) then (16 : Int) else (r : Int)) = (n : Int) := by split <;> omega
        have HNN := hd (show n = r ∨ n = 16 by omega)
        have HR := hd hr
        clear hnn hr
        go_wp2_with fail
        refine upR_start Keeps.any [4] [(0, 1), (1, 1), (2, 1), (3, 1), (4, 0)] (by kernel_rfl) rfl (by kernel_rfl) (by kernel_rfl) ?_
        have hal := below_alloc (Below.refl wr.heap.size wr) (.cells #[.int .u8 0, .int .u8 0, .int .u8 0, .int .u8 0, .int .u8 0, .int .u8 0, .int .u8 0, .int .u8 0, .int .u8 0, .int .u8 0, .int .u8 0, .int .u8 0, .int .u8 0, .int .u8 0, .int .u8 0, .int .u8 0, .int .u8 0, .int .u8 0, .int .u8 0, .int .u8 0, .int .u8 0, .int .u8 0, .int .u8 0, .int .u8 0] 171)
        have h9 : Arr .u8 171 wr.heap.size (wr.alloc (.cells #[.int .u8 0, .int .u8 0, .int .u8 0, .int .u8 0, .int .u8 0, .int .u8 0, .int .u8 0, .int .u8 0, .int .u8 0, .int .u8 0, .int .u8 0, .int .u8 0, .int .u8 0, .int .u8 0, .int .u8 0, .int .u8 0, .int .u8 0, .int .u8 0, .int .u8 0, .int .u8 0, .int .u8 0, .int .u8 0, .int .u8 0, .int .u8 0] 171)).drew (List.replicate 24 0) := (Arr.new (k := .u8) (T := 171) (l := List.replicate 24 0) wr (cs := #[.int .u8 0, .int .u8 0, .int .u8 0, .int .u8 0, .int .u8 0, .int .u8 0, .int .u8 0, .int .u8 0, .int .u8 0, .int .u8 0, .int .u8 0, .int .u8 0, .int .u8 0, .int .u8 0, .int .u8 0, .int .u8 0, .int .u8 0, .int .u8 0, .int .u8 0, .int .u8 0, .int .u8 0, .int .u8 0, .int .u8 0, .int .u8 0]) rfl).drew
        have ht5 := (((HR.out.below hbw).below hal).take n hnle).drew
        have h6 := (ha6.below hal).drew
        have h7 := (ha7.below hal).drew
        have hw5 := (below_seq hbw hal).drew
        have hs5 : (wr.alloc (.cells #[.int .u8 0, .int .u8 0, .int .u8 0, .int .u8 0, .int .u8 0, .int .u8 0, .int .u8 0, .int .u8 0, .int .u8 0, .int .u8 0, .int .u8 0, .int .u8 0, .int .u8 0, .int .u8 0, .int .u8 0, .int .u8 0, .int .u8 0, .int .u8 0, .int .u8 0, .int .u8 0, .int .u8 0, .int .u8 0, .int .u8 0, .int .u8 0] 171)).drew.heap.size = wr.heap.size + 1 := World.size_alloc _ _
        have l6 := ha6.lt
        have l7 := ha7.lt
        have lw := hbw.size
        clear hal ha6 ha7 hbw
        generalize (wr.alloc (.cells #[.int .u8 0, .int .u8 0, .int .u8 0, .int .u8 0, .int .u8 0, .int .u8 0, .int .u8 0, .int .u8 0, .int .u8 0, .int .u8 0, .int .u8 0, .int .u8 0, .int .u8 0, .int .u8 0, .int .u8 0, .int .u8 0, .int .u8 0, .int .u8 0, .int .u8 0, .int .u8 0, .int .u8 0, .int .u8 0, .int .u8 0, .int .u8 0] 171)).drew = w5 at ht5 h6 h7 h9 hw5 hs5 ⊢
        generalize wr.heap.size = gk at h9 hs5 l6 l7 lw ⊢
        obtain ⟨ad, y, rfl, _, _⟩ := ht5.1.at_ 0 (by rw [ht5.2.1]; exact hn0)
        refine rseq_pure (i := 0) (N := some 29) (v := ?_) (a' := ?_) rfl rfl (by rfl) (fun _ _ _ h => h) ?_ ?_ ?_
        rotate_left 2
        · intro w' hg
          go_simp
          with_reducible rfl
        · simp only [Act.put, List.setIfInBounds_toArray, List.set_cons_zero, List.set_cons_succ, i64_w, i32_w]
          rfl
        refine rseq_pure (i := 1) (N := some 30) (v := ?_) (a' := ?_) rfl rfl (by rfl) (fun _ _ _ h => h) ?_ ?_ ?_
        rotate_left 2
        · intro w' hg
          go_simp
          with_reducible rfl
        · simp only [Act.put, List.setIfInBounds_toArray, List.set_cons_zero, List.set_cons_succ, i64_w, i32_w]
          rfl
        refine rseq_pure (i := 2) (N := some 31) (v := ?_) (a' := ?_) rfl rfl (by rfl) (fun _ _ _ h => h) ?_ ?_ ?_
        rotate_left 2
        · intro w' hg
          go_simp
          with_reducible rfl
        · simp only [Act.put, List.setIfInBounds_toArray, List.set_cons_zero, List.set_cons_succ, i64_w, i32_w]
          rfl
        refine rseq_pure (i := 3) (N := some 32) (v := ?_) (a' := ?_) rfl rfl (by rfl) (fun _ _ _ h => h) ?_ ?_ ?_
        rotate_left 2
        · intro w' hg
          go_simp
          with_reducible rfl
        · simp only [Act.put, List.setIfInBounds_toArray, List.set_cons_zero, List.set_cons_succ, i64_w, i32_w]
          rfl
        refine rseq_value (i := 4) (N := some 33) (v := ?_) (a' := ?_) (w1 := ?_) rfl rfl (by rfl) ?_ ⟨fun h => absurd (by decide) h, trivial⟩ ?_ ?_
        rotate_left 3
        · refine run_copyA 24 24 n c2 5 40 40 (.tmp 29) (.tmp 32) ad ((b.drop d).take n) ?_ Tryd.underlying40 (by kernel_rfl) ?_ ?_ h9 ht5.1 ht5.2.1 (by omega) (by rw [List.length_replicate]; exact Nat.le_refl _) <;> rfl
        · simp only [Act.put, List.setIfInBounds_toArray, List.set_cons_zero, List.set_cons_succ, i64_w, i32_w]
          rfl
        refine rseq_doneW (fun w' => Arr .u8 171 gk w' (((b.drop d).take n) ++ (List.replicate 24 0).drop n) ∧ Only gk w5 w') ⟨h9.setRow _, Only.setRow _⟩ ?_
        intro w6 ⟨k9, o9⟩
        have k6 := h6.only o9 (by omega)
        have k7 := h7.only o9 (by omega)
        have kw := below_only hw5 o9 (by omega)
        have ks : w6.heap.size = gk + 1 := o9.size.trans hs5
        clear h9 ht5 h6 h7 hw5 hs5 o9
        have hbl := HR.out.2.1
        rw [List.length_drop] at hbl
        obtain ⟨z, Z, hcell, hfr⟩ := k9.cell n (by rw [List.length_append, List.length_take, List.length_drop, List.length_drop, List.length_replicate]; omega)
        have i4 : (n : Int) < 24 := by omega
        have j9 := k9.set n 1
        rw [chunk_eq hdm (by have := HNN.out; omega)] at j9
        have j6 := k6.far (p := ⟨gk, n, none⟩) (by show g6 ≠ gk; omega) (.int .u8 1)
        have j7 := k7.far (p := ⟨gk, n, none⟩) (by show g7 ≠ gk; omega) (.int .u8 1)
        have jw := kw.setCell (p := ⟨gk, n, none⟩) (by show w.heap.size ≤ gk; omega) (.int .u8 1)
        have js : (w6.setCell ⟨gk, n, none⟩ (.int .u8 1)).heap.size = gk + 1 := by rw [World.size_setCell, ks]
        clear k6 k7 k9 kw
        go_wp2_with fail
        clear hcell hfr ks Z i4
        have jm := Arr.new (k := .u64) (T := 170) (l := [0, 0, 0]) (w6.setCell ⟨gk, n, none⟩ (.int .u8 1)) (cs := #[.int .u64 0, .int .u64 0, .int .u64 0]) rfl
        have hal2 := below_alloc (Below.refl (w6.setCell ⟨gk, n, none⟩ (.int .u8 1)).heap.size (w6.setCell ⟨gk, n, none⟩ (.int .u8 1))) (.cells #[.int .u64 0, .int .u64 0, .int .u64 0] 170)
        rw [js] at jm
        replace j9 := j9.below hal2
        replace j6 := j6.below hal2
        replace j7 := j7.below hal2
        replace jw := below_seq jw hal2
        clear hal2 js
        generalize (w6.setCell ⟨gk, n, none⟩ (.int .u8 1)).alloc (.cells #[.int .u64 0, .int .u64 0, .int .u64 0] 170) = w8 at jm j9 j6 j7 jw ⊢
        obtain ⟨c0, c1, c2', hcw⟩ : ∃ c0 c1 c2, num (chunkN b (d / 16)) = [c0, c1, c2] := ⟨_, _, _, rfl⟩
        have hck : BytesOK (chunkL b (d / 16)) := chunkL_ok HB.out.ok _
        have HC := hd hcw
        rw [← chunkL_load, num_bytes (chunkL_length _ _) hck] at hcw
        simp only [List.cons.injEq, and_true] at hcw
        obtain ⟨q0, q1, q2⟩ := hcw
        have HCW0 := hd q0
        have HCW1 := hd q1
        have HCW2 := hd q2
        have HCK := hd hck
        clear q0 q1 q2 hck
        have hmg : gk + 1 = gk + 1 := rfl
        obtain ⟨gm, hgm⟩ : ∃ gm, gm = gk + 1 := ⟨_, rfl⟩
        go_loopw [36] (fun i wi => ∃ m : Nat, m ≤ 3 ∧ i = .int .i64 m ∧ Arr .u64 170 (gk + 1) wi (([c0, c1, c2'] : List Nat).take m ++ List.replicate (3 - m) 0) ∧ Arr .u8 171 gk wi (chunkL b (d / 16)) ∧ Arr .u64 108 g6 wi [r0, r1] ∧ Arr .u64 170 g7 wi [a0, a1, a2] ∧ Below w.heap.size w wi) (fun i _ => 3 - (intOf i).toNat)
        case atStart => exact ⟨0, by omega, rfl, jm, j9, j6, j7, jw⟩
        case round =>
          clear jm j9 j6 j7 jw
          obtain ⟨m, hm3, rfl, jm, j9, j6, j7, jw⟩ := hrel
          have hbc := Bytes.ofArr j9 (chunkL_length _ _) HCK.out (by decide)
          by_cases hm : m < 3
          · have hm012 : m = 0 ∨ m = 1 ∨ m = 2 := by omega
            rcases hm012 with rfl | rfl | rfl
            · have hmid := hd (show Bytes wr (some ⟨gk, 0, none⟩) 8 24 (((chunkL b (d / 16)).drop 0).take 8) from hbc.mid 0 8 (by decide) (by decide))
              go_wp2_with fail
              refine (load_calls hmid.out).mono ?_
              rintro e w' ⟨rfl, rfl⟩
              rw [show loadN (List.take 8 (List.take 8 (List.drop 0 (chunkL b (d / 16))))) = c0 by rw [List.take_take]; exact HCW0.out]
              have hset := hd (jm.set 0 c0)
              have hcell := arr_at jm 0 0 rfl
              have hfr := blk_frozen jm 0
              clear jm
              go_wp2
              go_roundw
              case rel => exact ⟨1, by omega, rfl, hset.out, j9.far (by show gk ≠ gk + 1; omega) _, j6.far (by show g6 ≠ gk + 1; omega) _, j7.far (by show g7 ≠ gk + 1; omega) _, jw.setCell (by show w.heap.size ≤ gk + 1; omega) _⟩
              case measure => simp [intOf]
            · have hmid := hd (show Bytes wr (some ⟨gk, 8, none⟩) 8 16 (((chunkL b (d / 16)).drop 8).take 8) from hbc.mid 8 8 (by decide) (by decide))
              go_wp2_with fail
              refine (load_calls hmid.out).mono ?_
              rintro e w' ⟨rfl, rfl⟩
              rw [show loadN (List.take 8 (List.take 8 (List.drop 8 (chunkL b (d / 16))))) = c1 by rw [List.take_take]; exact HCW1.out]
              have hset := hd (jm.set 1 c1)
              have hcell := arr_at jm 1 0 rfl
              have hfr := blk_frozen jm 1
              clear jm
              go_wp2
              go_roundw
              case rel => exact ⟨2, by omega, rfl, hset.out, j9.far (by show gk ≠ gk + 1; omega) _, j6.far (by show g6 ≠ gk + 1; omega) _, j7.far (by show g7 ≠ gk + 1; omega) _, jw.setCell (by show w.heap.size ≤ gk + 1; omega) _⟩
              case measure => simp [intOf]
            · have hmid := hd (show Bytes wr (some ⟨gk, 16, none⟩) 8 8 (((chunkL b (d / 16)).drop 16).take 8) from hbc.mid 16 8 (by decide) (by decide))
              go_wp2_with fail
              refine (load_calls hmid.out).mono ?_
              rintro e w' ⟨rfl, rfl⟩
              rw [show loadN (List.take 8 (List.take 8 (List.drop 16 (chunkL b (d / 16))))) = c2' by rw [List.take_take]; exact HCW2.out]
              have hset := hd (jm.set 2 c2')
              have hcell := arr_at jm 2 0 rfl
              have hfr := blk_frozen jm 2
              clear jm
              go_wp2
              go_roundw
              case rel => exact ⟨3, by omega, rfl, hset.out, j9.far (by show gk ≠ gk + 1; omega) _, j6.far (by show g6 ≠ gk + 1; omega) _, j7.far (by show g7 ≠ gk + 1; omega) _, jw.setCell (by show w.heap.size ≤ gk + 1; omega) _⟩
              case measure => simp [intOf]
          · obtain rfl : m = 3 := by omega
            have HPR := hd (show (accC (rN key) b ((d + 15) / 16) + chunkN b (d / 16)) * (r0 + 18446744073709551616 * r1) < 2 ^ 256 by
              rw [← RE.out]
              exact acc_prod (accC_lt (rN_lt HK.out.ok HK.out.2.1) HB.out.ok ((d + 15) / 16)) (chunkN_lt HB.out.ok (d / 16)) (rN_lt HK.out.ok HK.out.2.1))
            have HLT := hd (show accC (rN key) b ((d + 15) / 16) + chunkN b (d / 16) < 2 ^ 192 by
              have h1 := accC_lt (rN_lt HK.out.ok HK.out.2.1) HB.out.ok ((d + 15) / 16)
              have h2 := chunkN_lt HB.out.ok (d / 16)
              omega)
            replace jm : Arr .u64 170 gm wr [c0, c1, c2'] := by rw [hgm]; exact jm
            have l6' := l6
            clear hm hm3 hbc hmg
            go_wp2_with fail
            rw [show gk + 1 = gm from hgm.symm]
            refine upR_start Keeps.any [5] [(0, 1), (1, 1), (3, 1), (2, 0), (4, 0), (5, 0)] (by kernel_rfl) rfl (by kernel_rfl) (by kernel_rfl) ?_
            have h6 := j6.drew
            have h7 := j7.drew
            have hm5 := jm.drew
            have hw5 := jw.drew
            have hg7 := j7.lt
            clear j6 j7 jm jw j9
            generalize wr.drew = w5 at h6 h7 hm5 hw5 ⊢
            refine rseq_pure (i := 0) (N := some 49) (v := .agg #[.int .u64 (a0 : Int), .int .u64 (a1 : Int), .int .u64 (a2 : Int)]) (a' := ?_) rfl rfl (by rfl) (fun _ _ _ h => h) ?_ ?_ ?_
            rotate_left
            · intro w' hg
              refine run_loadA 170 22 3 (.tmp 7) ?_ ?_ (h7.below hg) _ ?_ Tryd.underlying170 (by kernel_rfl) rfl <;> rfl
            · simp only [Act.put, List.setIfInBounds_toArray, List.set_cons_zero, List.set_cons_succ, i64_w, i32_w]
              rfl
            refine rseq_pure (i := 1) (N := some 50) (v := .agg #[.int .u64 (c0 : Int), .int .u64 (c1 : Int), .int .u64 (c2' : Int)]) (a' := ?_) rfl rfl (by rfl) (fun _ _ _ h => h) ?_ ?_ ?_
            rotate_left
            · intro w' hg
              refine run_loadA 170 22 3 (.tmp 10) ?_ ?_ (hm5.below hg) _ ?_ Tryd.underlying170 (by kernel_rfl) rfl <;> rfl
            · simp only [Act.put, List.setIfInBounds_toArray, List.set_cons_zero, List.set_cons_succ, i64_w, i32_w]
              rfl
            refine rseq_pure (i := 3) (N := some 52) (v := .agg #[.int .u64 (r0 : Int), .int .u64 (r1 : Int)]) (a' := ?_) rfl rfl (by rfl) (fun _ _ _ h => h) ?_ ?_ ?_
            rotate_left
            · intro w' hg
              refine run_loadA 108 22 2 (.tmp 6) ?_ ?_ (h6.below hg) _ ?_ Tryd.underlying108 (by kernel_rfl) rfl <;> rfl
            · simp only [Act.put, List.setIfInBounds_toArray, List.set_cons_zero, List.set_cons_succ, i64_w, i32_w]
              rfl
            refine rseq_call (i := 2) (N := some 51) rfl rfl Tryd.func116 (by kernel_rfl) rfl #[.agg #[.int .u64 (a0 : Int), .int .u64 (a1 : Int), .int .u64 (a2 : Int)], .agg #[.int .u64 (c0 : Int), .int .u64 (c1 : Int), .int .u64 (c2' : Int)]] (by rfl) rfl ?_ ?_
            · simp only [List.map_toArray, List.map_cons, List.map_nil]
              rfl
            refine (plus_calls (accC (rN key) b ((d + 15) / 16)) (chunkN b (d / 16)) HN.out HC.out _).mono ?_
            rintro e w8 ⟨s0, s1, s2, hn2, rfl, hb8⟩
            have HS := hd hn2
            refine ⟨_, rfl, ⟨fun _ => hb8, trivial⟩, ?_⟩
            replace h6 := h6.below hb8
            replace h7 := h7.below hb8
            replace hw5 := below_seq hw5 hb8
            clear hb8 hn2 hm5
            refine rseq_norm (a' := ?_) ?_ ?_
            rotate_left
            · show Act.put _ (some 51) _ = _
              simp only [Act.put, List.setIfInBounds_toArray, List.set_cons_zero, List.set_cons_succ, i64_w, i32_w]
              rfl
            refine rseq_call (i := 4) (N := some 53) rfl rfl Tryd.func117 (by kernel_rfl) rfl #[.agg #[.int .u64 (s0 : Int), .int .u64 (s1 : Int), .int .u64 (s2 : Int)], .agg #[.int .u64 (r0 : Int), .int .u64 (r1 : Int)]] (by rfl) rfl ?_ ?_
            · simp only [List.map_toArray, List.map_cons, List.map_nil]
              rfl
            refine (times_calls (accC (rN key) b ((d + 15) / 16) + chunkN b (d / 16)) HS.out HLT.out RL.out RL1.out HPR.out _).mono ?_
            rintro e w9 ⟨t0, t1, t2, hn2, rfl, hb8⟩
            have HT := hd hn2
            refine ⟨_, rfl, ⟨fun _ => hb8, trivial⟩, ?_⟩
            replace h6 := h6.below hb8
            replace h7 := h7.below hb8
            replace hw5 := below_seq hw5 hb8
            clear hb8 hn2
            refine rseq_norm (a' := ?_) ?_ ?_
            rotate_left
            · show Act.put _ (some 53) _ = _
              simp only [Act.put, List.setIfInBounds_toArray, List.set_cons_zero, List.set_cons_succ, i64_w, i32_w]
              rfl
            refine rseq_skip (i := 5) (w1 := ?_) rfl rfl (by rfl) ?_ ⟨fun h => absurd (by decide) h, trivial⟩ ?_
            rotate_left
            · refine run_storeA 170 3 (.tmp 7) (.tmp 53) ?_ ?_ [t0, t1, t2] ?_ h7 (by kernel_rfl) rfl rfl <;> rfl
            refine rseq_doneW (fun w' => Arr .u64 170 g7 w' [t0, t1, t2] ∧ Only g7 w9 w') ⟨h7.setRow [t0, t1, t2], Only.setRow _⟩ ?_
            intro w10 ⟨f7, o7⟩
            have f6 := h6.only o7 (by omega)
            have fw := below_only hw5 o7 (by omega)
            clear h6 h7 hw5 o7
            have hcap : (n : Int) ≤ c2 := i3
            go_wp2
            go_roundw
            case rel =>
              refine ⟨d + n, r - n, _, _, t0, t1, t2, by omega, by have := HNN.out; omega, rfl, ?_, ?_, f6, f7, fw⟩
              · rw [← List.drop_drop]
                exact HR.out.drop n hnle
              · have e1 : (d + n + 15) / 16 = d / 16 + 1 := by have := HNN.out; omega
                have e2 : (d + 15) / 16 = d / 16 := by omega
                have e3 := HT.out
                rw [← RE.out, e2] at e3
                rw [e1, accC]
                exact e3
            case measure => simp; omega
      · obtain rfl : r = 0 := by omega
        obtain rfl : d = nb := by omega
        obtain ⟨ad, y, rfl, _, _⟩ := (HK.out).1.at_ 0 (by rw [HK.out.2.1]; decide)
        have hcc := HK.out.2.2.1
        have i24 : (24 : Int) ≤ ca := by omega
        have n16 : (ca = 16) = False := eq_false (by omega)
        have n24 : (ca = 24) = False := eq_false (by omega)
        have HAC := hd (accC_lt (rN_lt HK.out.ok HK.out.2.1) HB.out.ok ((d + 15) / 16))
        have hsn := sN_num key HK.out.2.1 HK.out.ok
        obtain ⟨l0, L0⟩ : ∃ l, Aside0 (loadN (((key.drop 16).take 8).take 8) = l) := ⟨_, ⟨rfl⟩⟩
        obtain ⟨l1, L1⟩ : ∃ l, Aside0 (loadN ((key.drop 24).take 8) = l) := ⟨_, ⟨rfl⟩⟩
        rw [L0.out, L1.out] at hsn
        have LN := hd hsn
        clear hsn
        obtain ⟨nb, rfl⟩ : ∃ nb, nb = d := ⟨_, rfl⟩
        go_wp2_with fail
        refine upR_start Keeps.any [10] [(0, 1), (2, 1), (3, 1), (5, 1), (6, 1), (1, 0), (4, 0), (7, 0), (8, 0), (9, 0), (10, 0)] (by kernel_rfl) rfl (by kernel_rfl) (by kernel_rfl) ?_
        have h7 := ha7.drew
        have hw5 := hbw.drew
        have hk5 := (HK.out.below hbw).drew
        have lw := ha7.lt
        generalize wr.drew = w5 at h7 hw5 hk5 ⊢
        have hkA := hd (hk5.mid 16 8 (by decide) (by omega))
        have hkB := hd (show Bytes w5 (some (ad.add 24)) 8 (ca - 24) (key.drop 24) by
          have := hk5.drop 24 (by decide)
          rw [if_neg (by omega)] at this
          exact this)
        clear ha7 ha6 hbw hk5
        refine rseq_pure (i := 0) (N := some 57) (v := .agg #[.int .u64 (a0 : Int), .int .u64 (a1 : Int), .int .u64 (a2 : Int)]) (a' := ?_) rfl rfl (by rfl) (fun _ _ _ h => h) ?_ ?_ ?_
        rotate_left
        · intro w' hg
          refine run_loadA 170 22 3 (.tmp 7) ?_ ?_ (h7.below hg) _ ?_ Tryd.underlying170 (by kernel_rfl) rfl <;> rfl
        · simp only [Act.put, List.setIfInBounds_toArray, List.set_cons_zero, List.set_cons_succ, i64_w, i32_w]
          rfl
        refine rseq_pure (i := 2) (N := some 59) (v := ?_) (a' := ?_) rfl rfl (by rfl) (fun _ _ _ h => h) ?_ ?_ ?_
        rotate_left 2
        · intro w' hg
          go_simp
          with_reducible rfl
        · simp only [Act.put, List.setIfInBounds_toArray, List.set_cons_zero, List.set_cons_succ, i64_w, i32_w]
          rfl
        refine rseq_pure (i := 3) (N := some 60) (v := ?_) (a' := ?_) rfl rfl (by rfl) (fun _ _ _ h => h) ?_ ?_ ?_
        rotate_left 2
        · intro w' hg
          go_simp
          with_reducible rfl
        · simp only [Act.put, List.setIfInBounds_toArray, List.set_cons_zero, List.set_cons_succ, i64_w, i32_w]
          rfl
        refine rseq_pure (i := 5) (N := some 62) (v := ?_) (a' := ?_) rfl rfl (by rfl) (fun _ _ _ h => h) ?_ ?_ ?_
        rotate_left 2
        · intro w' hg
          go_simp
          with_reducible rfl
        · simp only [Act.put, List.setIfInBounds_toArray, List.set_cons_zero, List.set_cons_succ, i64_w, i32_w]
          rfl
        refine rseq_pure (i := 6) (N := some 63) (v := ?_) (a' := ?_) rfl rfl (by rfl) (fun _ _ _ h => h) ?_ ?_ ?_
        rotate_left 2
        · intro w' hg
          go_simp
          with_reducible rfl
        · simp only [Act.put, List.setIfInBounds_toArray, List.set_cons_zero, List.set_cons_succ, i64_w, i32_w]
          rfl
        refine rseq_call (i := 1) (N := some 58) rfl rfl Tryd.func118 (by kernel_rfl) rfl #[.agg #[.int .u64 (a0 : Int), .int .u64 (a1 : Int), .int .u64 (a2 : Int)]] (by rfl) rfl ?_ ?_
        · simp only [List.map_toArray, List.map_cons, List.map_nil]
          rfl
        refine (rest_calls (accC (rN key) b ((nb + 15) / 16)) HN.out HAC.out _).mono ?_
        rintro e w8 ⟨s0, s1, s2, hn2, rfl, hb8⟩
        have HS := hd hn2
        refine ⟨_, rfl, ⟨fun _ => hb8, trivial⟩, ?_⟩
        replace h7 := h7.below hb8
        replace hw5 := below_seq hw5 hb8
        have hkA' := hd (hkA.out.below hb8)
        have hkB' := hd (hkB.out.below hb8)
        clear hb8 hn2 hkA hkB
        refine rseq_norm (a' := ?_) ?_ ?_
        rotate_left
        · show Act.put _ (some 58) _ = _
          simp only [Act.put, List.setIfInBounds_toArray, List.set_cons_zero, List.set_cons_succ, i64_w, i32_w]
          rfl
        refine rseq_call (i := 4) (N := some 61) rfl rfl Tryd.func108 (by kernel_rfl) rfl #[.slice (some (ad.add 16)) 8 (ca - 16)] (by rfl) rfl ?_ ?_
        · simp only [List.map_toArray, List.map_cons, List.map_nil]
          rfl
        refine (load_calls hkA'.out).mono ?_
        rintro e w' ⟨rfl, rfl⟩
        rw [L0.out]
        refine ⟨_, rfl, ⟨fun _ => Grow.refl _, trivial⟩, ?_⟩
        refine rseq_norm (a' := ?_) ?_ ?_
        rotate_left
        · show Act.put _ (some 61) _ = _
          simp only [Act.put, List.setIfInBounds_toArray, List.set_cons_zero, List.set_cons_succ, i64_w, i32_w]
          rfl
        refine rseq_call (i := 7) (N := some 64) rfl rfl Tryd.func108 (by kernel_rfl) rfl #[.slice (some (ad.add 24)) 8 (ca - 24)] (by rfl) rfl ?_ ?_
        · simp only [List.map_toArray, List.map_cons, List.map_nil]
          rfl
        refine (load_calls hkB'.out).mono ?_
        rintro e w' ⟨rfl, rfl⟩
        rw [L1.out]
        refine ⟨_, rfl, ⟨fun _ => Grow.refl _, trivial⟩, ?_⟩
        clear hkA' hkB'
        refine rseq_norm (a' := ?_) ?_ ?_
        rotate_left
        · show Act.put _ (some 64) _ = _
          simp only [Act.put, List.setIfInBounds_toArray, List.set_cons_zero, List.set_cons_succ, i64_w, i32_w]
          rfl
        refine rseq_value (i := 8) (N := some 65) (v := ?_) (a' := ?_) (w1 := w8) rfl rfl (by rfl) ?_ ⟨fun _ => Grow.refl _, trivial⟩ ?_ ?_
        rotate_left 2
        · go_simp
          rfl
        · simp only [Act.put, List.setIfInBounds_toArray, List.set_cons_zero, List.set_cons_succ, i64_w, i32_w]
          rfl
        refine rseq_call (i := 9) (N := some 66) rfl rfl Tryd.func116 (by kernel_rfl) rfl #[.agg #[.int .u64 (s0 : Int), .int .u64 (s1 : Int), .int .u64 (s2 : Int)], .agg #[.int .u64 (l0 : Int), .int .u64 (l1 : Int), .int .u64 (0 : Int)]] (by rfl) rfl ?_ ?_
        · simp only [List.map_toArray, List.map_cons, List.map_nil]
          rfl
        refine (plus_calls (accC (rN key) b ((nb + 15) / 16) % polyP) (sN key) HS.out LN.out _).mono ?_
        rintro e w9 ⟨t0, t1, t2, hn2, rfl, hb8⟩
        have HT := hd hn2
        refine ⟨_, rfl, ⟨fun _ => hb8, trivial⟩, ?_⟩
        replace h7 := h7.below hb8
        replace hw5 := below_seq hw5 hb8
        clear hb8 hn2
        refine rseq_norm (a' := ?_) ?_ ?_
        rotate_left
        · show Act.put _ (some 66) _ = _
          simp only [Act.put, List.setIfInBounds_toArray, List.set_cons_zero, List.set_cons_succ, i64_w, i32_w]
          rfl
        refine rseq_skip (i := 10) (w1 := ?_) rfl rfl (by rfl) ?_ ⟨fun h => absurd (by decide) h, trivial⟩ ?_
        rotate_left
        · refine run_storeA 170 3 (.tmp 7) (.tmp 66) ?_ ?_ [t0, t1, t2] ?_ h7 (by kernel_rfl) rfl rfl <;> rfl
        refine rseq_doneW (fun w' => Arr .u64 170 g7 w' [t0, t1, t2] ∧ Only g7 w9 w') ⟨h7.setRow [t0, t1, t2], Only.setRow _⟩ ?_
        intro w10 ⟨f7, o7⟩
        have fw := below_only hw5 o7 (by omega)
        clear h7 hw5 o7
        have HT0 := hd (show t0 < 2 ^ 64 by obtain ⟨h, _, _⟩ := num_inj2 HT.out; omega)
        have HT1 := hd (show t1 < 2 ^ 64 by obtain ⟨_, h, _⟩ := num_inj2 HT.out; omega)
        clear i24 n16 n24
        go_wp2_with fail
        refine up_start [6] [(0, true), (1, true), (3, true), (4, true), (2, false), (5, false), (6, false), (7, true)] (by kernel_rfl) rfl (by kernel_rfl) (by kernel_rfl) ?_
        have f75 := f7.drew
        have fw5 := fw.drew
        generalize w10.drew = w11 at f75 fw5 ⊢
        have g0 := Grow.cells (arr_at f75 0 t0 rfl)
        have g1 := Grow.cells (arr_at f75 1 t1 rfl)
        clear f7 fw f75
        refine seq_pure (i := 0) (N := some 67) (v := ?_) (a' := ?_) rfl rfl (by rfl) (fun _ _ _ h => h) ?_ ?_ ?_
        rotate_left 2
        · intro w' hg
          go_simp
          with_reducible rfl
        · simp only [Act.put, List.setIfInBounds_toArray, List.set_cons_zero, List.set_cons_succ, i64_w, i32_w]
          rfl
        refine seq_pure (i := 1) (N := some 68) (v := ?_) (a' := ?_) rfl rfl (by rfl) (fun _ _ _ h => h) ?_ ?_ ?_
        rotate_left 2
        · intro w' hg
          go_simp
          with_reducible rfl
        · simp only [Act.put, List.setIfInBounds_toArray, List.set_cons_zero, List.set_cons_succ, i64_w, i32_w]
          rfl
        refine seq_pure (i := 3) (N := some 70) (v := ?_) (a' := ?_) rfl rfl (by rfl) (fun _ _ _ h => h) ?_ ?_ ?_
        rotate_left 2
        · intro w' hg
          go_simp
          with_reducible rfl
        · simp only [Act.put, List.setIfInBounds_toArray, List.set_cons_zero, List.set_cons_succ, i64_w, i32_w]
          rfl
        refine seq_pure (i := 4) (N := some 71) (v := ?_) (a' := ?_) rfl rfl (by rfl) (fun _ _ _ h => h) ?_ ?_ ?_
        rotate_left 2
        · intro w' hg
          go_simp
          with_reducible rfl
        · simp only [Act.put, List.setIfInBounds_toArray, List.set_cons_zero, List.set_cons_succ, i64_w, i32_w]
          rfl
        refine seq_call (i := 2) (N := some 69) rfl rfl Tryd.func88 (by kernel_rfl) rfl #[.int .u64 (t0 : Int), .int .i64 8] (by rfl) rfl ?_ ?_
        · simp only [List.map_toArray, List.map_cons, List.map_nil]
          rfl
        refine (store_calls t0 8 _ rfl HT0.out).mono ?_
        rintro e w12 ⟨v12, rfl, ho12, hb12⟩
        replace ho12 : OwnK .u8 5 _ w12 v12 (storeN t0 8) := ho12
        refine ⟨_, rfl, fun _ => hb12, ?_⟩
        have fw6 := below_seq fw5 hb12
        have hlow := ho12.lower fw5.size
        clear ho12 g0 g1
        refine seq_norm (a' := ?_) ?_ ?_
        rotate_left
        · show Act.put _ (some 69) _ = _
          simp only [Act.put, List.setIfInBounds_toArray, List.set_cons_zero, List.set_cons_succ, i64_w, i32_w]
          rfl
        refine seq_call (i := 5) (N := some 72) rfl rfl Tryd.func88 (by kernel_rfl) rfl #[.int .u64 (t1 : Int), .int .i64 8] (by rfl) rfl ?_ ?_
        · simp only [List.map_toArray, List.map_cons, List.map_nil]
          rfl
        refine (store_calls t1 8 _ rfl HT1.out).mono ?_
        rintro e w13 ⟨v13, rfl, ho13, hb13⟩
        replace ho13 : OwnK .u8 5 _ w13 v13 (storeN t1 8) := ho13
        refine ⟨_, rfl, fun _ => hb13, ?_⟩
        have fw7 := below_seq fw6 hb13
        have hlow2 := hlow.below hb13
        obtain ⟨A13, c13, rfl, h13⟩ := ho13.bytes 8 (storeN_length _ _) (storeN_ok _ _)
        clear ho13 hlow fw6
        refine seq_norm (a' := ?_) ?_ ?_
        rotate_left
        · show Act.put _ (some 72) _ = _
          simp only [Act.put, List.setIfInBounds_toArray, List.set_cons_zero, List.set_cons_succ, i64_w, i32_w]
          rfl
        refine seq_step rfl (fun K hK => ?_)
        refine op_append_row_step (k := .u8) (w0 := w) 73 (by rfl) w.heap.size 5 40 _ _ (by rfl) (by rfl) Tryd.underlying40 Tryd.infoU8 (by decide) v12 (storeN t0 8) (storeN t1 8) A13 8 c13 (by rfl) (by rfl) (by rw [storeN_length]) hlow2 h13.1 fw7 fw7.size (by rw [storeN_length, storeN_length]; omega) ?_
        intro v1 w14 ho14 hb14 hg14
        refine hK _ _ (fun h => absurd (by decide) h) ?_
        clear hK K
        refine seq_norm (a' := ?_) ?_ ?_
        rotate_left
        · show Act.put _ (some 73) _ = _
          simp only [Act.put, List.setIfInBounds_toArray, List.set_cons_zero, List.set_cons_succ, i64_w, i32_w]
          rfl
        refine seq_pure (i := 7) (N := some 4) (v := ?_) (a' := ?_) rfl rfl (by rfl) (fun _ _ _ h => h) ?_ ?_ ?_
        rotate_left 2
        · intro w' hg
          go_simp
          with_reducible rfl
        · simp only [Act.put, List.setIfInBounds_toArray, List.set_cons_zero, List.set_cons_succ, i64_w, i32_w]
          rfl
        refine seq_done ?_
        go_wp2
        go_ret
        refine ⟨_, rfl, ?_, hb14⟩
        have e : macL key b = storeN t0 8 ++ storeN t1 8 := by
          rw [store_num HT.out, macL, HB.out.2.1]
        rw [e]
        exact ho14

end Go.Proofs.YtlgdplodglchaaaDoor
