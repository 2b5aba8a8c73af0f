/- SymSeals: the walk. -/
import Derived.Test.YtlgdplodglchaaaDoorM8
set_option linter.unusedVariables false
set_option linter.unusedSimpArgs false
namespace Go.Proofs.YtlgdplodglchaaaDoor
open Go.RowKit Go.Proofs.YtlgdplodglchaaaDoorW.PrintWords Go.Proofs.YtlgdplodglchaaaDoorW.PrintLast Go.Proofs.YtlgdplodglchaaaDoorW.PrintMore
theorem useS_facts (p : StP) {b : List Nat} (hb : BytesOK b) : BytesOK (p.useS b).1 ∧ (p.useS b).1.length ≤ b.length + 16 := ⟨useC_ok hb (sealA_ok _ _ _ hb), useC_len (by omega) (sealA_len _ _ _ _)⟩
theorem useO_facts (p : StP) {b : List Nat} (hb : BytesOK b) : BytesOK (p.useO b).1 ∧ (p.useO b).1.length ≤ b.length := ⟨useC_ok hb (openA_ok _ _ _ hb), useC_len (Nat.le_refl _) (openA_len _ _ _ _)⟩
set_option maxHeartbeats 40000000 in
set_option maxRecDepth 100000 in
theorem symSeals_walk (W : World) (hpl : Vars W) (l0 : List Nat) (hl0 : l0.length = 32) (hb0 : BytesOK l0) (l1 : List Nat) (hl1 : l1.length = 32) (hb1 : BytesOK l1) {A : Option Addr} {n c : Nat} {key : List Nat} (hk : Bytes W A n c key) (hkf : n ≤ 140737488351232) (num : Int) (hnum : (Lit.int .u64 num).wf = true) {B : Option Addr} {m d : Nat} {text : List Nat} (ht : Bytes W B m d text) (htf : m ≤ 140737488351232) :
    Calls Tryd.prog 11 #[.agg (l0.map fun x : Nat => Value.int .u8 x).toArray, .agg (l1.map fun x : Nat => Value.int .u8 x).toArray, .slice A n c, .int .u64 num, .slice B m d] W fun e w' => e = .returned (.bool true) ∧ Below W.heap.size W w' := by
  obtain ⟨nn, rfl, hnn⟩ : ∃ st : Nat, num = (st : Int) ∧ st < 2 ^ 64 := by
    have := bounds_u64 hnum
    exact ⟨num.toNat, by omega, by omega⟩
  obtain ⟨p, rfl, rfl, rfl, rfl⟩ : ∃ p : StP, l0 = p.ck ∧ l1 = p.h ∧ key = p.key ∧ nn = p.N := ⟨⟨l0, l1, key, nn⟩, rfl, rfl, rfl, rfl⟩
  have HPO := hd (show p.ok from ⟨hl0, hl1, hb0, hb1, hk.ok, hnn⟩)
  have HV := hd hpl
  have a1 := below_alloc (Below.refl W.heap.size W) (.cells (p.ck.map fun x : Nat => Value.int .u8 x).toArray 67)
  have b1 := Bytes.new (W := W) (t := 67) (g := W.heap.size) (n := 32) p.ck rfl rfl hl0.symm (by rw [hl0]; decide) (List.all_eq_true.2 fun x hx => by simpa using hb0 x hx)
  have a2 := below_alloc (Below.refl _ (W.alloc (.cells (p.ck.map fun x : Nat => Value.int .u8 x).toArray 67))) (.cells (p.h.map fun x : Nat => Value.int .u8 x).toArray 67)
  have b2 := Bytes.new (W := W.alloc (.cells (p.ck.map fun x : Nat => Value.int .u8 x).toArray 67)) (t := 67) (g := W.heap.size + 1) (n := 32) p.h rfl (World.size_alloc _ _).symm hl1.symm (by rw [hl1]; decide) (List.all_eq_true.2 fun x hx => by simpa using hb1 x hx)
  have HP0 := hd (b1.below a2)
  have HP1 := hd b2
  have HWV := hd (below_seq a1 a2)
  have HKY := hd (hk.below HWV.out)
  have HTX := hd (ht.below HWV.out)
  replace HV := hd (HV.out.below HWV.out)
  clear a1 a2 b1 b2 hl0 hb0 hl1 hb1 hk hkf hnum hnn ht htf hpl
  go_enter Tryd.func11, Tryd.ntmps11
  go_upto_region 1 with (fail)
  generalize (W.alloc (.cells (p.ck.map fun x : Nat => Value.int .u8 x).toArray 67)).alloc (.cells (p.h.map fun x : Nat => Value.int .u8 x).toArray 67) = w1 at HP0 HP1 HWV HKY HTX HV ⊢
  obtain ⟨q, hq⟩ : ∃ q, Aside0 (W.heap.size = q) := ⟨_, ⟨rfl⟩⟩
  rw [hq.out] at HP0 HP1 ⊢
  clear hq
  go_wp2_with fail
  refine (awake16_calls HV.out).mono ?_
  rintro e V ⟨rfl, hb⟩
  replace HP0 := hd (HP0.out.below hb)
  replace HP1 := hd (HP1.out.below hb)
  replace HKY := hd (HKY.out.below hb)
  replace HTX := hd (HTX.out.below hb)
  replace HV := hd (HV.out.below hb)
  replace HWV := hd (below_seq HWV.out hb)
  clear hb
  by_cases h0 : 100 < n
  · have q0 : decide ((100 : Int) < (n : Int)) = true := by simp; omega
    go_wp2
    go_ret
    exact ⟨rfl, HWV.out⟩
  have q0 : decide ((100 : Int) < (n : Int)) = false := by simp; omega
  by_cases h1 : 500 < m
  · have q1 : decide ((500 : Int) < (m : Int)) = true := by simp; omega
    go_wp2
    go_ret
    exact ⟨rfl, HWV.out⟩
  have q1 : decide ((500 : Int) < (m : Int)) = false := by simp; omega
  have HNA := hd (show n ≤ 100000000 by omega)
  have HM := hd (show m ≤ 500 by omega)
  have HBV := hd (Below.refl V.heap.size V)
  obtain ⟨xl, HXL⟩ : ∃ l, Aside0 ((p.useS text).1 = l) := ⟨_, ⟨rfl⟩⟩
  obtain ⟨zl, HZL⟩ : ∃ l, Aside0 ((p.useO xl).1 = l) := ⟨_, ⟨rfl⟩⟩
  have HXO := hd (useS_facts p HTX.out.ok).1
  have HXO2 := hd (show BytesOK xl by rw [← HXL.out]; exact HXO.out)
  have HXM := hd (show xl.length ≤ 516 by have h := (useS_facts p HTX.out.ok).2; rw [HTX.out.2.1, HXL.out] at h; have := HM.out; omega)
  have HZO := hd (useO_facts p HXO2.out).1
  have HZM := hd (show zl.length ≤ 516 by have h := (useO_facts p HXO2.out).2; rw [HZL.out] at h; have := HXM.out; omega)
  clear h0 h1
  go_upto_region 6 with (fail)
  refine uq_start (fun _ _ => True) [] 11 rfl (by kernel_rfl) ?_
  have hdr := below_drew (Below.refl V.heap.size V)
  replace HBV := hd (below_seq HBV.out hdr)
  generalize V.drew = w3 at HBV ⊢
  clear hdr
  refine uq_pure Keeps.any (i := 0) (N := some 36) (v := ?_) (a' := ?_) (by kernel_rfl) (by kernel_rfl) rfl rfl (by rfl) (fun _ _ _ h => h) ?_ ?_ ?_
  rotate_left 2
  · intro w' hg
    go_simp
    with_reducible rfl
  · simp only [Act.put, List.setIfInBounds_toArray, List.set_cons_zero, List.set_cons_succ, i64_w, i32_w]
    rfl
  refine uq_pure Keeps.any (i := 2) (N := some 38) (v := ?_) (a' := ?_) (by kernel_rfl) (by kernel_rfl) rfl rfl (by rfl) (fun _ _ _ h => h) ?_ ?_ ?_
  rotate_left 2
  · intro w' hg
    go_simp
    with_reducible rfl
  · simp only [Act.put, List.setIfInBounds_toArray, List.set_cons_zero, List.set_cons_succ, i64_w, i32_w]
    rfl
  refine uq_pure Keeps.any (i := 4) (N := some 40) (v := ?_) (a' := ?_) (by kernel_rfl) (by kernel_rfl) rfl rfl (by rfl) (fun _ _ _ h => h) ?_ ?_ ?_
  rotate_left 2
  · intro w' hg
    go_simp
    with_reducible rfl
  · simp only [Act.put, List.setIfInBounds_toArray, List.set_cons_zero, List.set_cons_succ, i64_w, i32_w]
    rfl
  refine uq_pure Keeps.any (i := 6) (N := some 42) (v := ?_) (a' := ?_) (by kernel_rfl) (by kernel_rfl) rfl rfl (by rfl) (fun _ _ _ h => h) ?_ ?_ ?_
  rotate_left 2
  · intro w' hg
    go_simp
    with_reducible rfl
  · simp only [Act.put, List.setIfInBounds_toArray, List.set_cons_zero, List.set_cons_succ, i64_w, i32_w]
    rfl
  refine uq_one (i := 1) (by kernel_rfl) ?_
  refine uq_call (R := fun _ _ => True) (i := 1) (N := some 37) rfl rfl Tryd.func53 (by kernel_rfl) rfl #[.slice (some ⟨q, 0, none⟩) 32 32] (by rfl) rfl ?_ ?_
  · simp only [List.map_toArray, List.map_cons, List.map_nil]
    rfl
  have hsz := HBV.out.size
  refine (own16_calls (HP0.out.below HBV.out) (by decide)).mono ?_
  rintro e w31 ⟨vx, rfl, ho, hb31⟩
  replace HBV := hd (below_seq HBV.out hb31)
  obtain ⟨x0, rfl, _, hx⟩ := ho.sl (n := 32) HPO.out.1
  have HX0 := hd (hx.lower hsz)
  clear ho hx hsz
  refine ⟨_, rfl, ⟨fun _ => hb31, trivial⟩, ?_⟩
  refine uq_norm (a' := ?_) ?_ ?_
  rotate_left
  · show Act.put _ (some 37) _ = _
    simp only [Act.put, List.setIfInBounds_toArray, List.set_cons_zero, List.set_cons_succ, i64_w, i32_w]
    rfl
  clear hb31
  refine uq_one (i := 3) (by kernel_rfl) ?_
  refine uq_call (R := fun _ _ => True) (i := 3) (N := some 39) rfl rfl Tryd.func53 (by kernel_rfl) rfl #[.slice (some ⟨q + 1, 0, none⟩) 32 32] (by rfl) rfl ?_ ?_
  · simp only [List.map_toArray, List.map_cons, List.map_nil]
    rfl
  have hsz := HBV.out.size
  refine (own16_calls (HP1.out.below HBV.out) (by decide)).mono ?_
  rintro e w32 ⟨vx, rfl, ho, hb32⟩
  replace HBV := hd (below_seq HBV.out hb32)
  replace HX0 := hd (HX0.out.below hb32)
  obtain ⟨y0, rfl, _, hx⟩ := ho.sl (n := 32) HPO.out.2.1
  have HY0 := hd (hx.lower hsz)
  clear ho hx hsz
  refine ⟨_, rfl, ⟨fun _ => hb32, trivial⟩, ?_⟩
  refine uq_norm (a' := ?_) ?_ ?_
  rotate_left
  · show Act.put _ (some 39) _ = _
    simp only [Act.put, List.setIfInBounds_toArray, List.set_cons_zero, List.set_cons_succ, i64_w, i32_w]
    rfl
  clear hb32
  refine uq_one (i := 5) (by kernel_rfl) ?_
  refine uq_call (R := fun _ _ => True) (i := 5) (N := some 41) rfl rfl Tryd.func53 (by kernel_rfl) rfl #[.slice A n c] (by rfl) rfl ?_ ?_
  · simp only [List.map_toArray, List.map_cons, List.map_nil]
    rfl
  have hsz := HBV.out.size
  refine (own16_calls (HKY.out.below HBV.out) HNA.out).mono ?_
  rintro e w33 ⟨vx, rfl, ho, hb33⟩
  replace HBV := hd (below_seq HBV.out hb33)
  replace HX0 := hd (HX0.out.below hb33)
  replace HY0 := hd (HY0.out.below hb33)
  obtain ⟨z0, rfl, _, hx⟩ := ho.sl (n := n) HKY.out.2.1
  have HZ0 := hd (hx.lower hsz)
  clear ho hx hsz
  refine ⟨_, rfl, ⟨fun _ => hb33, trivial⟩, ?_⟩
  refine uq_norm (a' := ?_) ?_ ?_
  rotate_left
  · show Act.put _ (some 41) _ = _
    simp only [Act.put, List.setIfInBounds_toArray, List.set_cons_zero, List.set_cons_succ, i64_w, i32_w]
    rfl
  clear hb33
  refine uq_pure Keeps.any (i := 7) (N := some 43) (v := ?_) (a' := ?_) (by kernel_rfl) (by kernel_rfl) rfl rfl (by rfl) (fun _ _ _ h => h) ?_ ?_ ?_
  rotate_left 2
  · intro w' hg
    go_simp
    with_reducible rfl
  · simp only [Act.put, List.setIfInBounds_toArray, List.set_cons_zero, List.set_cons_succ, i64_w, i32_w]
    rfl
  refine uq_pure Keeps.any (i := 8) (N := some 44) (v := ?_) (a' := ?_) (by kernel_rfl) (by kernel_rfl) rfl rfl (by rfl) (fun _ _ _ h => h) ?_ ?_ ?_
  rotate_left 2
  · intro w' hg
    go_simp
    with_reducible rfl
  · simp only [Act.put, List.setIfInBounds_toArray, List.set_cons_zero, List.set_cons_succ, i64_w, i32_w]
    rfl
  refine uq_one (i := 9) (by kernel_rfl) ?_
  refine uq_value (R := fun _ _ => True) (i := 9) (N := some 45) (v := .pointer (some ⟨w33.heap.size, 0, none⟩)) (a' := ?_) (w1 := w33.alloc (.cells #[.slice x0.A x0.n x0.c, .slice y0.A y0.n y0.c, .slice z0.A z0.n z0.c, .int .u64 (p.N : Int)] 86)) rfl rfl (by rfl) ?_ ⟨fun _ => below_alloc (Below.refl _ _) _, trivial⟩ ?_ ?_
  rotate_left
  · go_simp
  · simp only [Act.put, List.setIfInBounds_toArray, List.set_cons_zero, List.set_cons_succ, i64_w, i32_w]
    rfl
  have hal34 := below_alloc (Below.refl w33.heap.size w33) (.cells #[.slice x0.A x0.n x0.c, .slice y0.A y0.n y0.c, .slice z0.A z0.n z0.c, .int .u64 (p.N : Int)] 86)
  have HG0 := hd (blk_new w33 (.cells #[.slice x0.A x0.n x0.c, .slice y0.A y0.n y0.c, .slice z0.A z0.n z0.c, .int .u64 (p.N : Int)] 86))
  have hsz := HBV.out.size
  replace HBV := hd (below_seq HBV.out hal34)
  replace HX0 := hd (HX0.out.below hal34)
  replace HY0 := hd (HY0.out.below hal34)
  replace HZ0 := hd (HZ0.out.below hal34)
  generalize w33.alloc (.cells #[.slice x0.A x0.n x0.c, .slice y0.A y0.n y0.c, .slice z0.A z0.n z0.c, .int .u64 (p.N : Int)] 86) = w34 at HBV HX0 HY0 HZ0 HG0 hal34 ⊢
  obtain ⟨g0, hq34⟩ : ∃ q, Aside0 (w33.heap.size = q) := ⟨_, ⟨rfl⟩⟩
  have HL0 := hd (show V.heap.size ≤ g0 by have := hq34.out; omega)
  clear hsz
  rw [hq34.out] at HG0 ⊢
  clear hal34
  refine uq_pure Keeps.any (i := 10) (N := some 12) (v := ?_) (a' := ?_) (by kernel_rfl) (by kernel_rfl) rfl rfl (by rfl) (fun _ _ _ h => h) ?_ ?_ ?_
  rotate_left 2
  · intro w' hg
    go_simp
    with_reducible rfl
  · simp only [Act.put, List.setIfInBounds_toArray, List.set_cons_zero, List.set_cons_succ, i64_w, i32_w]
    rfl
  refine uq_end (by kernel_rfl) ?_
  have SA := hd (StBox.mk (W := V) (w := w34) (ck := x0) (h := y0) (k := z0) HG0.out HX0.out HY0.out HZ0.out HPO.out HL0.out)
  clear HG0 HX0 HY0 HZ0
  go_upto_region 7 with (fail)
  refine uq_start (fun _ _ => True) [] 11 rfl (by kernel_rfl) ?_
  have hdr := below_drew (Below.refl w34.heap.size w34)
  replace HBV := hd (below_seq HBV.out hdr)
  replace SA := hd (SA.out.below hdr)
  generalize w34.drew = w4 at HBV SA ⊢
  clear hdr
  refine uq_pure Keeps.any (i := 0) (N := some 46) (v := ?_) (a' := ?_) (by kernel_rfl) (by kernel_rfl) rfl rfl (by rfl) (fun _ _ _ h => h) ?_ ?_ ?_
  rotate_left 2
  · intro w' hg
    go_simp
    with_reducible rfl
  · simp only [Act.put, List.setIfInBounds_toArray, List.set_cons_zero, List.set_cons_succ, i64_w, i32_w]
    rfl
  refine uq_pure Keeps.any (i := 2) (N := some 48) (v := ?_) (a' := ?_) (by kernel_rfl) (by kernel_rfl) rfl rfl (by rfl) (fun _ _ _ h => h) ?_ ?_ ?_
  rotate_left 2
  · intro w' hg
    go_simp
    with_reducible rfl
  · simp only [Act.put, List.setIfInBounds_toArray, List.set_cons_zero, List.set_cons_succ, i64_w, i32_w]
    rfl
  refine uq_pure Keeps.any (i := 4) (N := some 50) (v := ?_) (a' := ?_) (by kernel_rfl) (by kernel_rfl) rfl rfl (by rfl) (fun _ _ _ h => h) ?_ ?_ ?_
  rotate_left 2
  · intro w' hg
    go_simp
    with_reducible rfl
  · simp only [Act.put, List.setIfInBounds_toArray, List.set_cons_zero, List.set_cons_succ, i64_w, i32_w]
    rfl
  refine uq_pure Keeps.any (i := 6) (N := some 52) (v := ?_) (a' := ?_) (by kernel_rfl) (by kernel_rfl) rfl rfl (by rfl) (fun _ _ _ h => h) ?_ ?_ ?_
  rotate_left 2
  · intro w' hg
    go_simp
    with_reducible rfl
  · simp only [Act.put, List.setIfInBounds_toArray, List.set_cons_zero, List.set_cons_succ, i64_w, i32_w]
    rfl
  refine uq_one (i := 1) (by kernel_rfl) ?_
  refine uq_call (R := fun _ _ => True) (i := 1) (N := some 47) rfl rfl Tryd.func53 (by kernel_rfl) rfl #[.slice (some ⟨q, 0, none⟩) 32 32] (by rfl) rfl ?_ ?_
  · simp only [List.map_toArray, List.map_cons, List.map_nil]
    rfl
  have hsz := HBV.out.size
  refine (own16_calls (HP0.out.below HBV.out) (by decide)).mono ?_
  rintro e w61 ⟨vx, rfl, ho, hb61⟩
  replace HBV := hd (below_seq HBV.out hb61)
  replace SA := hd (SA.out.below hb61)
  obtain ⟨x1, rfl, _, hx⟩ := ho.sl (n := 32) HPO.out.1
  have HX1 := hd (hx.lower hsz)
  clear ho hx hsz
  refine ⟨_, rfl, ⟨fun _ => hb61, trivial⟩, ?_⟩
  refine uq_norm (a' := ?_) ?_ ?_
  rotate_left
  · show Act.put _ (some 47) _ = _
    simp only [Act.put, List.setIfInBounds_toArray, List.set_cons_zero, List.set_cons_succ, i64_w, i32_w]
    rfl
  clear hb61
  refine uq_one (i := 3) (by kernel_rfl) ?_
  refine uq_call (R := fun _ _ => True) (i := 3) (N := some 49) rfl rfl Tryd.func53 (by kernel_rfl) rfl #[.slice (some ⟨q + 1, 0, none⟩) 32 32] (by rfl) rfl ?_ ?_
  · simp only [List.map_toArray, List.map_cons, List.map_nil]
    rfl
  have hsz := HBV.out.size
  refine (own16_calls (HP1.out.below HBV.out) (by decide)).mono ?_
  rintro e w62 ⟨vx, rfl, ho, hb62⟩
  replace HBV := hd (below_seq HBV.out hb62)
  replace SA := hd (SA.out.below hb62)
  replace HX1 := hd (HX1.out.below hb62)
  obtain ⟨y1, rfl, _, hx⟩ := ho.sl (n := 32) HPO.out.2.1
  have HY1 := hd (hx.lower hsz)
  clear ho hx hsz
  refine ⟨_, rfl, ⟨fun _ => hb62, trivial⟩, ?_⟩
  refine uq_norm (a' := ?_) ?_ ?_
  rotate_left
  · show Act.put _ (some 49) _ = _
    simp only [Act.put, List.setIfInBounds_toArray, List.set_cons_zero, List.set_cons_succ, i64_w, i32_w]
    rfl
  clear hb62
  refine uq_one (i := 5) (by kernel_rfl) ?_
  refine uq_call (R := fun _ _ => True) (i := 5) (N := some 51) rfl rfl Tryd.func53 (by kernel_rfl) rfl #[.slice A n c] (by rfl) rfl ?_ ?_
  · simp only [List.map_toArray, List.map_cons, List.map_nil]
    rfl
  have hsz := HBV.out.size
  refine (own16_calls (HKY.out.below HBV.out) HNA.out).mono ?_
  rintro e w63 ⟨vx, rfl, ho, hb63⟩
  replace HBV := hd (below_seq HBV.out hb63)
  replace SA := hd (SA.out.below hb63)
  replace HX1 := hd (HX1.out.below hb63)
  replace HY1 := hd (HY1.out.below hb63)
  obtain ⟨z1, rfl, _, hx⟩ := ho.sl (n := n) HKY.out.2.1
  have HZ1 := hd (hx.lower hsz)
  clear ho hx hsz
  refine ⟨_, rfl, ⟨fun _ => hb63, trivial⟩, ?_⟩
  refine uq_norm (a' := ?_) ?_ ?_
  rotate_left
  · show Act.put _ (some 51) _ = _
    simp only [Act.put, List.setIfInBounds_toArray, List.set_cons_zero, List.set_cons_succ, i64_w, i32_w]
    rfl
  clear hb63
  refine uq_pure Keeps.any (i := 7) (N := some 53) (v := ?_) (a' := ?_) (by kernel_rfl) (by kernel_rfl) rfl rfl (by rfl) (fun _ _ _ h => h) ?_ ?_ ?_
  rotate_left 2
  · intro w' hg
    go_simp
    with_reducible rfl
  · simp only [Act.put, List.setIfInBounds_toArray, List.set_cons_zero, List.set_cons_succ, i64_w, i32_w]
    rfl
  refine uq_pure Keeps.any (i := 8) (N := some 54) (v := ?_) (a' := ?_) (by kernel_rfl) (by kernel_rfl) rfl rfl (by rfl) (fun _ _ _ h => h) ?_ ?_ ?_
  rotate_left 2
  · intro w' hg
    go_simp
    with_reducible rfl
  · simp only [Act.put, List.setIfInBounds_toArray, List.set_cons_zero, List.set_cons_succ, i64_w, i32_w]
    rfl
  refine uq_one (i := 9) (by kernel_rfl) ?_
  refine uq_value (R := fun _ _ => True) (i := 9) (N := some 55) (v := .pointer (some ⟨w63.heap.size, 0, none⟩)) (a' := ?_) (w1 := w63.alloc (.cells #[.slice x1.A x1.n x1.c, .slice y1.A y1.n y1.c, .slice z1.A z1.n z1.c, .int .u64 (p.N : Int)] 86)) rfl rfl (by rfl) ?_ ⟨fun _ => below_alloc (Below.refl _ _) _, trivial⟩ ?_ ?_
  rotate_left
  · go_simp
  · simp only [Act.put, List.setIfInBounds_toArray, List.set_cons_zero, List.set_cons_succ, i64_w, i32_w]
    rfl
  have hal64 := below_alloc (Below.refl w63.heap.size w63) (.cells #[.slice x1.A x1.n x1.c, .slice y1.A y1.n y1.c, .slice z1.A z1.n z1.c, .int .u64 (p.N : Int)] 86)
  have HG1 := hd (blk_new w63 (.cells #[.slice x1.A x1.n x1.c, .slice y1.A y1.n y1.c, .slice z1.A z1.n z1.c, .int .u64 (p.N : Int)] 86))
  have hsz := HBV.out.size
  have HLT := hd (blk_lt SA.out.at_)
  replace HBV := hd (below_seq HBV.out hal64)
  replace SA := hd (SA.out.below hal64)
  replace HX1 := hd (HX1.out.below hal64)
  replace HY1 := hd (HY1.out.below hal64)
  replace HZ1 := hd (HZ1.out.below hal64)
  generalize w63.alloc (.cells #[.slice x1.A x1.n x1.c, .slice y1.A y1.n y1.c, .slice z1.A z1.n z1.c, .int .u64 (p.N : Int)] 86) = w64 at HBV SA HX1 HY1 HZ1 HG1 hal64 ⊢
  obtain ⟨g1, hq64⟩ : ∃ q, Aside0 (w63.heap.size = q) := ⟨_, ⟨rfl⟩⟩
  have HL1 := hd (show V.heap.size ≤ g1 by have := hq64.out; omega)
  have HNEQ := hd (show g0 ≠ g1 by have h1 := HLT.out; have := hq64.out; omega)
  clear hsz
  rw [hq64.out] at HG1 ⊢
  clear hal64
  refine uq_pure Keeps.any (i := 10) (N := some 13) (v := ?_) (a' := ?_) (by kernel_rfl) (by kernel_rfl) rfl rfl (by rfl) (fun _ _ _ h => h) ?_ ?_ ?_
  rotate_left 2
  · intro w' hg
    go_simp
    with_reducible rfl
  · simp only [Act.put, List.setIfInBounds_toArray, List.set_cons_zero, List.set_cons_succ, i64_w, i32_w]
    rfl
  refine uq_end (by kernel_rfl) ?_
  have SB := hd (StBox.mk (W := V) (w := w64) (ck := x1) (h := y1) (k := z1) HG1.out HX1.out HY1.out HZ1.out HPO.out HL1.out)
  clear HG1 HX1 HY1 HZ1
  have HNE := hd (show g0 ≠ g1 by have h1 := blk_lt SA.out.at_; have h2 := blk_lt SB.out.at_; exact HNEQ.out)
  go_upto_region 8 with (fail)
  refine uq_start (fun _ _ => True) [7] 8 rfl (by kernel_rfl) ?_
  have hdr := below_drew (Below.refl w64.heap.size w64)
  replace HBV := hd (below_seq HBV.out hdr)
  replace SA := hd (SA.out.below hdr)
  replace SB := hd (SB.out.below hdr)
  generalize w64.drew = w5 at HBV SA SB ⊢
  clear hdr
  refine uq_pure Keeps.any (i := 0) (N := some 56) (v := ?_) (a' := ?_) (by kernel_rfl) (by kernel_rfl) rfl rfl (by rfl) (fun _ _ _ h => h) ?_ ?_ ?_
  rotate_left 2
  · intro w' hg
    go_simp
    with_reducible rfl
  · simp only [Act.put, List.setIfInBounds_toArray, List.set_cons_zero, List.set_cons_succ, i64_w, i32_w]
    rfl
  refine uq_pure Keeps.any (i := 1) (N := some 57) (v := ?_) (a' := ?_) (by kernel_rfl) (by kernel_rfl) rfl rfl (by rfl) (fun _ _ _ h => h) ?_ ?_ ?_
  rotate_left 2
  · intro w' hg
    go_simp
    with_reducible rfl
  · simp only [Act.put, List.setIfInBounds_toArray, List.set_cons_zero, List.set_cons_succ, i64_w, i32_w]
    rfl
  refine uq_pure Keeps.any (i := 2) (N := some 58) (v := ?_) (a' := ?_) (by kernel_rfl) (by kernel_rfl) rfl rfl (by rfl) (fun _ _ _ h => h) ?_ ?_ ?_
  rotate_left 2
  · intro w' hg
    go_simp
    with_reducible rfl
  · simp only [Act.put, List.setIfInBounds_toArray, List.set_cons_zero, List.set_cons_succ, i64_w, i32_w]
    rfl
  refine uq_pure Keeps.any (i := 3) (N := some 59) (v := ?_) (a' := ?_) (by kernel_rfl) (by kernel_rfl) rfl rfl (by rfl) (fun _ _ _ h => h) ?_ ?_ ?_
  rotate_left 2
  · intro w' hg
    go_simp
    with_reducible rfl
  · simp only [Act.put, List.setIfInBounds_toArray, List.set_cons_zero, List.set_cons_succ, i64_w, i32_w]
    rfl
  refine uq_pure Keeps.any (i := 4) (N := some 60) (v := ?_) (a' := ?_) (by kernel_rfl) (by kernel_rfl) rfl rfl (by rfl) (fun _ _ _ h => h) ?_ ?_ ?_
  rotate_left 2
  · intro w' hg
    go_simp
    with_reducible rfl
  · simp only [Act.put, List.setIfInBounds_toArray, List.set_cons_zero, List.set_cons_succ, i64_w, i32_w]
    rfl
  refine uq_pure Keeps.any (i := 5) (N := some 61) (v := ?_) (a' := ?_) (by kernel_rfl) (by kernel_rfl) rfl rfl (by rfl) (fun _ _ _ h => h) ?_ ?_ ?_
  rotate_left 2
  · intro w' hg
    go_simp
    with_reducible rfl
  · simp only [Act.put, List.setIfInBounds_toArray, List.set_cons_zero, List.set_cons_succ, i64_w, i32_w]
    rfl
  refine uq_one (i := 6) (by kernel_rfl) ?_
  refine uq_value (R := fun _ _ => True) (i := 6) (N := some 14) (v := .pointer (some ⟨w5.heap.size, 0, none⟩)) (a' := ?_) (w1 := w5.alloc (.cells #[.slice none 0 0, .slice none 0 0, .slice none 0 0, .int .u64 0] 76)) rfl rfl (by rfl) ?_ ⟨fun _ => below_alloc (Below.refl _ _) _, trivial⟩ ?_ ?_
  rotate_left
  · go_simp
  · simp only [Act.put, List.setIfInBounds_toArray, List.set_cons_zero, List.set_cons_succ, i64_w, i32_w]
    rfl
  have hal91 := below_alloc (Below.refl w5.heap.size w5) (.cells #[.slice none 0 0, .slice none 0 0, .slice none 0 0, .int .u64 0] 76)
  have HWB := hd (blk_new w5 (.cells #[.slice none 0 0, .slice none 0 0, .slice none 0 0, .int .u64 0] 76))
  have hsz := HBV.out.size
  replace HBV := hd (below_seq HBV.out hal91)
  replace SA := hd (SA.out.below hal91)
  replace SB := hd (SB.out.below hal91)
  generalize w5.alloc (.cells #[.slice none 0 0, .slice none 0 0, .slice none 0 0, .int .u64 0] 76) = w91 at HBV SA SB HWB hal91 ⊢
  obtain ⟨gw, hq91⟩ : ∃ q, Aside0 (w5.heap.size = q) := ⟨_, ⟨rfl⟩⟩
  have HLW := hd (show V.heap.size ≤ gw by have := hq91.out; omega)
  clear hsz
  rw [hq91.out] at HWB ⊢
  clear hal91
  refine uq_one (i := 7) (by kernel_rfl) ?_
  refine uq_storeSt (R := fun _ _ => True) rfl rfl (by rfl) 76 _ _ rfl gw 0 #[.slice (some ⟨q, 0, none⟩) 32 32, .slice (some ⟨q + 1, 0, none⟩) 32 32, .slice A n c, .int .u64 (p.N : Int)] #[.slice none 0 0, .slice none 0 0, .slice none 0 0, .int .u64 0] _ rfl rfl _ HWB.out (by kernel_rfl) (by simp) (by simp [Value.oneCell']) rfl ?_
  intro wz hbz hmz
  refine ⟨⟨fun h => absurd (by decide) h, trivial⟩, ?_⟩
  refine uq_end (by kernel_rfl) ?_
  have hap := Apart.one HWB.out (e := 5) (by decide)
  replace SA := hd (SA.out.mod hmz hap (ne_types SA.out.at_ HWB.out (by decide)))
  replace SB := hd (SB.out.mod hmz hap (ne_types SB.out.at_ HWB.out (by decide)))
  replace HBV := hd (HBV.out.trans (hmz.toBelow (fun k hk => by rw [hk]; exact HLW.out) HBV.out.size))
  replace HWB := hd hbz
  clear hmz hap hbz
  have HSE := hd (stseal_box SA.out HBV.out.size (HTX.out.below HBV.out) (by have := HM.out; omega) (fun w' hm => HTX.out.below (HBV.out.trans (hm.toBelow (fun k hk => by rw [hk]; exact SA.out.low) HBV.out.size))) (HV.out.below HBV.out).p (HV.out.below HBV.out).t (HV.out.below HBV.out).c)
  go_wp2_with fail
  refine HSE.out.mono ?_
  rintro e w9 ⟨v, hx9, rfl, ho, hs, hm⟩
  obtain ⟨x9, rfl, hxn9, hx⟩ := ho.sl (n := xl.length) (by rw [HXL.out])
  have HX9N := hd hxn9
  clear hxn9
  rw [HXL.out] at hx
  have HX := hd (hx.lower HBV.out.size)
  replace SB := hd (SB.out.mod hm SA.out.apart (fun e => HNE.out e.symm))
  replace HWB := hd (hm.block HWB.out (ne_types HWB.out SA.out.at_ (by decide)))
  replace HBV := hd (HBV.out.trans (hm.toBelow (fun k hk => by rw [hk]; exact SA.out.low) HBV.out.size))
  replace SA := hd hs
  clear ho hx hs hm HSE
  go_upto_region 10 with (fail)
  have c0 : w9.cell? ⟨gw, 0, none⟩ = some (.slice (some ⟨q, 0, none⟩) 32 32) := by rw [blk_cell HWB.out]; rfl
  have c1 : w9.cell? ⟨gw, 1, none⟩ = some (.slice (some ⟨q + 1, 0, none⟩) 32 32) := by rw [blk_cell HWB.out]; rfl
  have c2 : w9.cell? ⟨gw, 2, none⟩ = some (.slice A n c) := by rw [blk_cell HWB.out]; rfl
  have c3 : w9.cell? ⟨gw, 3, none⟩ = some (.int .u64 (p.N : Int)) := by rw [blk_cell HWB.out]; rfl
  have HRW := hd (show RBox V w9 ⟨some ⟨q, 0, none⟩, 32, 32⟩ ⟨some ⟨q + 1, 0, none⟩, 32, 32⟩ ⟨A, n, c⟩ p from ⟨Box.old HP0.out (by rw [HPO.out.1]; decide), Box.old HP1.out (by rw [HPO.out.2.1]; decide), Box.old HKY.out (by rw [HKY.out.2.1]; exact HNA.out), HPO.out⟩)
  have HSI := hd (rsealin_box HRW.out HBV.out (HTX.out.below HBV.out) (by have := HM.out; omega))
  unfold stC at HSI
  dsimp only at HSI
  go_wp2_with fail
  refine HSI.out.mono ?_
  rintro e w10 ⟨v, xr, rfl, ho, hr, hb⟩
  obtain ⟨By, ny, cy, rfl, hny, hby⟩ := out_box ho (Box.old (w := w10) HTX.out (by rw [HTX.out.2.1]; have := HM.out; omega)) (below_seq HBV.out hb) HBV.out.size HXO.out (by have := HXM.out; rw [HXL.out]; omega)
  rw [HXL.out] at hny hby
  have HRV := hd hr
  have HY := hd hby
  have HNY := hd hny
  clear ho hr hby hny HSI
  replace HBV := hd (below_seq HBV.out hb)
  replace SA := hd (SA.out.below hb)
  replace SB := hd (SB.out.below hb)
  replace HWB := hd (blk_below HWB.out hb)
  replace HX := hd (HX.out.below hb)
  clear hb c0 c1 c2 c3
  go_upto_region 11 with (fail)
  have hal := below_alloc (Below.refl w10.heap.size w10) (.cells #[.slice (some ⟨q, 0, none⟩) 32 32, .slice xr.A xr.n xr.c, .slice A n c, .int .u64 ((p.sealed text).N : Int)] 76)
  have HVB := hd (blk_new w10 (.cells #[.slice (some ⟨q, 0, none⟩) 32 32, .slice xr.A xr.n xr.c, .slice A n c, .int .u64 ((p.sealed text).N : Int)] 76))
  replace HBV := hd (below_seq HBV.out hal)
  replace SA := hd (SA.out.below hal)
  replace SB := hd (SB.out.below hal)
  replace HWB := hd (blk_below HWB.out hal)
  replace HX := hd (HX.out.below hal)
  replace HRV := hd (HRV.out.below hal)
  replace HY := hd (HY.out.below hal)
  generalize w10.alloc (.cells #[.slice (some ⟨q, 0, none⟩) 32 32, .slice xr.A xr.n xr.c, .slice A n c, .int .u64 ((p.sealed text).N : Int)] 76) = w11 at HBV SA SB HWB HX HRV HY HVB ⊢
  obtain ⟨gv, hgv⟩ : ∃ g, Aside0 (w10.heap.size = g) := ⟨_, ⟨rfl⟩⟩
  rw [hgv.out] at HVB ⊢
  clear hal hgv
  have c0 : w11.cell? ⟨gv, 0, none⟩ = some (.slice (some ⟨q, 0, none⟩) 32 32) := by rw [blk_cell HVB.out]; rfl
  have c1 : w11.cell? ⟨gv, 1, none⟩ = some (.slice xr.A xr.n xr.c) := by rw [blk_cell HVB.out]; rfl
  have c2 : w11.cell? ⟨gv, 2, none⟩ = some (.slice A n c) := by rw [blk_cell HVB.out]; rfl
  have c3 : w11.cell? ⟨gv, 3, none⟩ = some (.int .u64 ((p.sealed text).N : Int)) := by rw [blk_cell HVB.out]; rfl
  have hxo := HXO.out
  rw [HXL.out] at hxo
  have s1 := (own_bytes HX.out hxo).str (P := Tryd.prog) Tryd.underlying40 Tryd.underlying5 Tryd.underlying9
  have s2 := (HY.out.bytes HBV.out).str (P := Tryd.prog) Tryd.underlying40 Tryd.underlying5 Tryd.underlying9
  dsimp only at s1 s2
  have HLK := hd (like_box SA.out HRV.out HBV.out)
  unfold stC at HLK
  dsimp only at HLK
  go_wp2_with fail
  refine HLK.out.mono ?_
  rintro e w12 ⟨rfl, hb⟩
  replace HBV := hd (below_seq HBV.out hb)
  replace SA := hd (SA.out.below hb)
  replace SB := hd (SB.out.below hb)
  replace HWB := hd (blk_below HWB.out hb)
  replace HX := hd (HX.out.below hb)
  replace HRV := hd (HRV.out.below hb)
  replace HY := hd (HY.out.below hb)
  replace HVB := hd (blk_below HVB.out hb)
  clear hb s1 s2 c0 c1 c2 c3 HLK SA HRV HVB
  have HSO := hd (stopen_box SB.out HBV.out.size (own_bytes HX.out HXO2.out) (by rw [HX9N.out]; have := HXM.out; omega) (fun w' hm => own_bytes (HX.out.mod hm SB.out.apart) HXO2.out) (HV.out.below HBV.out).p (HV.out.below HBV.out).t (HV.out.below HBV.out).c)
  go_wp2_with fail
  refine HSO.out.mono ?_
  rintro e w13 ⟨v, hx13, rfl, ho, hs, hm⟩
  obtain ⟨x13, rfl, hxn13, hx⟩ := ho.sl (n := zl.length) (by rw [HZL.out])
  clear hxn13
  rw [HZL.out] at hx
  have HZ := hd (hx.lower HBV.out.size)
  replace HWB := hd (hm.block HWB.out (ne_types HWB.out SB.out.at_ (by decide)))
  replace HX := hd (HX.out.mod hm SB.out.apart)
  replace HY := hd (HY.out.mod hm SB.out.apart)
  replace HBV := hd (HBV.out.trans (hm.toBelow (fun k hk => by rw [hk]; exact SB.out.low) HBV.out.size))
  replace SB := hd hs
  clear ho hx hs hm HSO
  go_upto_region 14 with (fail)
  have c0 : w13.cell? ⟨gw, 0, none⟩ = some (.slice (some ⟨q, 0, none⟩) 32 32) := by rw [blk_cell HWB.out]; rfl
  have c1 : w13.cell? ⟨gw, 1, none⟩ = some (.slice (some ⟨q + 1, 0, none⟩) 32 32) := by rw [blk_cell HWB.out]; rfl
  have c2 : w13.cell? ⟨gw, 2, none⟩ = some (.slice A n c) := by rw [blk_cell HWB.out]; rfl
  have c3 : w13.cell? ⟨gw, 3, none⟩ = some (.int .u64 (p.N : Int)) := by rw [blk_cell HWB.out]; rfl
  have HRW := hd (show RBox V w13 ⟨some ⟨q, 0, none⟩, 32, 32⟩ ⟨some ⟨q + 1, 0, none⟩, 32, 32⟩ ⟨A, n, c⟩ p from ⟨Box.old HP0.out (by rw [HPO.out.1]; decide), Box.old HP1.out (by rw [HPO.out.2.1]; decide), Box.old HKY.out (by rw [HKY.out.2.1]; exact HNA.out), HPO.out⟩)
  have HOI := hd (ropenin_box HRW.out HBV.out (HY.out.bytes HBV.out) (by have := HNY.out; have := HXM.out; dsimp only; omega))
  unfold stC at HOI
  dsimp only at HOI
  go_wp2_with fail
  refine HOI.out.mono ?_
  rintro e w14 ⟨v, xr2, rfl, ho, hr, hb⟩
  obtain ⟨Bz, nz, cz, rfl, hnz, hbz⟩ := out_box ho (HY.out.below hb) (below_seq HBV.out hb) HBV.out.size HZO.out (by have := HZM.out; rw [HZL.out]; omega)
  rw [HZL.out] at hnz hbz
  have HRU := hd hr
  have HZ2 := hd hbz
  clear ho hr hbz hnz HOI
  replace HBV := hd (below_seq HBV.out hb)
  replace SB := hd (SB.out.below hb)
  replace HWB := hd (blk_below HWB.out hb)
  replace HX := hd (HX.out.below hb)
  replace HY := hd (HY.out.below hb)
  replace HZ := hd (HZ.out.below hb)
  clear hb c0 c1 c2 c3
  go_upto_region 15 with (fail)
  have hal := below_alloc (Below.refl w14.heap.size w14) (.cells #[.slice (some ⟨q, 0, none⟩) 32 32, .slice xr2.A xr2.n xr2.c, .slice A n c, .int .u64 ((p.opened xl).N : Int)] 76)
  have HUB := hd (blk_new w14 (.cells #[.slice (some ⟨q, 0, none⟩) 32 32, .slice xr2.A xr2.n xr2.c, .slice A n c, .int .u64 ((p.opened xl).N : Int)] 76))
  replace HBV := hd (below_seq HBV.out hal)
  replace SB := hd (SB.out.below hal)
  replace HWB := hd (blk_below HWB.out hal)
  replace HX := hd (HX.out.below hal)
  replace HY := hd (HY.out.below hal)
  replace HZ := hd (HZ.out.below hal)
  replace HRU := hd (HRU.out.below hal)
  replace HZ2 := hd (HZ2.out.below hal)
  generalize w14.alloc (.cells #[.slice (some ⟨q, 0, none⟩) 32 32, .slice xr2.A xr2.n xr2.c, .slice A n c, .int .u64 ((p.opened xl).N : Int)] 76) = w15 at HBV SB HWB HX HY HZ HRU HZ2 HUB ⊢
  obtain ⟨gu, hgu⟩ : ∃ g, Aside0 (w14.heap.size = g) := ⟨_, ⟨rfl⟩⟩
  rw [hgu.out] at HUB ⊢
  clear hal hgu
  have c0 : w15.cell? ⟨gu, 0, none⟩ = some (.slice (some ⟨q, 0, none⟩) 32 32) := by rw [blk_cell HUB.out]; rfl
  have c1 : w15.cell? ⟨gu, 1, none⟩ = some (.slice xr2.A xr2.n xr2.c) := by rw [blk_cell HUB.out]; rfl
  have c2 : w15.cell? ⟨gu, 2, none⟩ = some (.slice A n c) := by rw [blk_cell HUB.out]; rfl
  have c3 : w15.cell? ⟨gu, 3, none⟩ = some (.int .u64 ((p.opened xl).N : Int)) := by rw [blk_cell HUB.out]; rfl
  have hzo := HZO.out
  rw [HZL.out] at hzo
  have s1 := (own_bytes HZ.out hzo).str (P := Tryd.prog) Tryd.underlying40 Tryd.underlying5 Tryd.underlying9
  have s2 := (HZ2.out.bytes HBV.out).str (P := Tryd.prog) Tryd.underlying40 Tryd.underlying5 Tryd.underlying9
  dsimp only at s1 s2
  have HLK := hd (like_box SB.out HRU.out HBV.out)
  unfold stC at HLK
  dsimp only at HLK
  go_wp2_with fail
  refine HLK.out.mono ?_
  rintro e w16 ⟨rfl, hb⟩
  have hbw := below_seq HWV.out (below_seq HBV.out hb)
  clear hb
  go_wp2
  go_ret
  exact ⟨by first | rfl | (simp; done), hbw⟩
end Go.Proofs.YtlgdplodglchaaaDoor
