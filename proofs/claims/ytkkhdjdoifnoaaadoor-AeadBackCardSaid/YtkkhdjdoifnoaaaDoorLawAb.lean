/- The walk through redanlaw09.AeadBack. -/
import Derived.Test.YtkkhdjdoifnoaaaDoorAeadAwake
import Derived.Test.YtkkhdjdoifnoaaaDoorRefAeadO
import Derived.Test.YtkkhdjdoifnoaaaDoorGLib
set_option linter.unusedVariables false
set_option linter.unusedSimpArgs false
namespace Go.Proofs.YtkkhdjdoifnoaaaDoor
open Go.RowKit Go.Proofs.YtkkhdjdoifnoaaaDoorW.PrintWords Go.Proofs.YtkkhdjdoifnoaaaDoorW.PrintLast Go.Proofs.YtkkhdjdoifnoaaaDoorW.PrintMore
theorem nat_u8b {n : Int} (h : (Lit.int .u8 n).wf = true) : ∃ m : Nat, n = (m : Int) ∧ m < 256 := by
  simp [Lit.wf, IntKind.min, IntKind.max, IntKind.signed, IntKind.bits] at h
  exact ⟨n.toNat, by omega, by omega⟩
theorem set_self (l : List Nat) (k y : Nat) (h : l.getD k 0 = y) (hk : k < l.length) : l.set k y = l := by
  rw [← h, List.getD_eq_getElem?_getD, List.getElem?_eq_getElem hk]
  simp
set_option maxHeartbeats 2000000 in
set_option maxRecDepth 100000 in
theorem aeadBack_walk (W : World) (hpl : PlacesAt W) (key : List Nat) (hkl : key.length = 32) (hkb : BytesOK key) (nonce : List Nat) (hnl : nonce.length = 12) (hnb : BytesOK nonce) {C : Option Addr} {nc cc : Nat} {ad : List Nat} (ha0 : Bytes W C nc cc ad) (hfc : nc ≤ 140737488351232) {D : Option Addr} {nd cd : Nat} {text : List Nat} (ht0 : Bytes W D nd cd text) (hfd : nd ≤ 140737488351232) (a4 : Int) (w4 : (Lit.int .i64 a4).wf = true) (a5 : Int) (w5 : (Lit.int .u8 a5).wf = true) :
    Calls Tryd.prog 5 #[.agg (key.map fun x : Nat => Value.int .u8 x).toArray, .agg (nonce.map fun x : Nat => Value.int .u8 x).toArray, .slice C nc cc, .slice D nd cd, .int .i64 a4, .int .u8 a5] W fun e w' => e = .returned (.bool true) ∧ Below W.heap.size W w' := by
  obtain ⟨tn, rfl, htn⟩ := nat_u8b w5
  obtain ⟨j, j1, j2⟩ := and_mask a4 15 (by decide)
  replace j1 : bits .and .i64 a4 15 = (j : Int) := j1
  have hal := below_alloc (below_alloc (Below.refl W.heap.size W) (.cells (key.map fun x : Nat => Value.int .u8 x).toArray 31)) (.cells (nonce.map fun x : Nat => Value.int .u8 x).toArray 32)
  have hka : Bytes ((W.alloc (.cells (key.map fun x : Nat => Value.int .u8 x).toArray 31)).alloc (.cells (nonce.map fun x : Nat => Value.int .u8 x).toArray 32)) (some ⟨W.heap.size, 0, none⟩) 32 32 key := (Bytes.ofArr (Arr.new W rfl) hkl hkb (by decide)).alloc _
  have hna : Bytes ((W.alloc (.cells (key.map fun x : Nat => Value.int .u8 x).toArray 31)).alloc (.cells (nonce.map fun x : Nat => Value.int .u8 x).toArray 32)) (some ⟨W.heap.size + 1, 0, none⟩) 12 12 nonce := Bytes.ofArr (by have := Arr.new (k := .u8) (T := 32) (l := nonce) (W.alloc (.cells (key.map fun x : Nat => Value.int .u8 x).toArray 31)) rfl; simpa using this) hnl hnb (by decide)
  have hkv : (key.map fun x : Nat => Value.int .u8 x).length = 32 := by rw [List.length_map, hkl]
  have hnv : (nonce.map fun x : Nat => Value.int .u8 x).length = 12 := by rw [List.length_map, hnl]
  generalize (key.map fun x : Nat => Value.int .u8 x) = kv at hkv hka hna hal ⊢
  generalize (nonce.map fun x : Nat => Value.int .u8 x) = nv at hnv hka hna hal ⊢
  have HA := hd ha0
  have HT := hd ht0
  have HAL := hd hal
  have HK := hd hka
  have HN := hd hna
  have HTN := hd htn
  clear w4 w5 htn hal hka hna hkl hkb hnl hnb hfc hfd ha0 ht0
  by_cases hbig : 1000 < nc
  · have q1 : decide ((1000 : Int) < (nc : Int)) = true := by simp; omega
    go_enter Tryd.func5, Tryd.ntmps5
    go_wp2_with (go_at_call 8; refine (awake_calls (hpl.below HAL.out)).mono ?_; rintro e w1 ⟨rfl, hb1⟩)
    go_ret
    exact ⟨rfl, below_seq HAL.out hb1⟩
  have q1 : decide ((1000 : Int) < (nc : Int)) = false := by simp; omega
  by_cases hbig2 : 1000 < nd
  · have q2 : decide ((1000 : Int) < (nd : Int)) = true := by simp; omega
    go_enter Tryd.func5, Tryd.ntmps5
    go_wp2_with (go_at_call 8; refine (awake_calls (hpl.below HAL.out)).mono ?_; rintro e w1 ⟨rfl, hb1⟩)
    go_ret
    exact ⟨rfl, below_seq HAL.out hb1⟩
  have q2 : decide ((1000 : Int) < (nd : Int)) = false := by simp; omega
  obtain ⟨n16, hn16⟩ : ∃ n, n = nd + 16 := ⟨_, rfl⟩
  have e16 : (nd : Int) + 16 = (n16 : Int) := by omega
  obtain ⟨kk, hkk⟩ : ∃ n, n = nd + j := ⟨_, rfl⟩
  have ekk : (nd : Int) + (j : Int) = (kk : Int) := by omega
  have k16 : kk < n16 := by omega
  have i0 : (0 : Int) ≤ kk := by omega
  have i1 : (kk : Int) < n16 := by omega
  have HKK := hd hkk
  have HJ := hd j2
  have HN16 := hd hn16
  have hd9 : (nd : Int) ≤ 1000 := by omega
  have hj9 : (j : Int) ≤ 15 := by omega
  obtain ⟨x0, hx0⟩ : ∃ x0, sealN key nonce ad text = x0 := ⟨_, rfl⟩
  have HX0 := hd hx0
  have HXL := hd (show x0.length = n16 by rw [← hx0, sealN_length, HT.out.2.1, hn16])
  have HXO := hd (show BytesOK x0 by rw [← hx0]; exact sealN_ok _ _ _ HT.out.ok)
  clear hkk j2 hn16 hx0
  go_enter Tryd.func5, Tryd.ntmps5
  go_wp2_with (go_at_call 8; refine (awake_calls (hpl.below HAL.out)).mono ?_; rintro e w1 ⟨rfl, hb1⟩)
  have hk := HK.out.below hb1
  have hn := HN.out.below hb1
  have ha := (HA.out.below HAL.out).below hb1
  have ht := (HT.out.below HAL.out).below hb1
  have hp := (hpl.below HAL.out).below hb1
  have hb := below_seq HAL.out hb1
  clear HAL HK HN hb1 hpl
  refine up_start [] [(0, true), (1, true), (2, true), (3, true), (4, false), (5, true), (6, true), (7, true), (8, true), (9, true)] (by kernel_rfl) rfl (by kernel_rfl) (by kernel_rfl) ?_
  replace hk := hk.below (below_drew (Below.refl _ _))
  replace hn := hn.below (below_drew (Below.refl _ _))
  replace ha := ha.below (below_drew (Below.refl _ _))
  replace ht := ht.below (below_drew (Below.refl _ _))
  replace hp := hp.below (below_drew (Below.refl _ _))
  replace hb := hb.drew
  generalize w1.drew = w2 at hk hn ha ht hp hb ⊢
  refine seq_pure (i := 0) (N := some 33) (v := ?_) (a' := ?_) rfl rfl (by rfl) (fun _ _ _ h => h) ?_ ?_ ?_
  rotate_left 2
  · intro w' hg
    go_simp
    with_reducible rfl
  · simp only [Act.put, List.setIfInBounds_toArray, List.set_cons_zero, List.set_cons_succ, i64_w, i32_w]
    rfl
  refine seq_pure (i := 1) (N := some 34) (v := ?_) (a' := ?_) rfl rfl (by rfl) (fun _ _ _ h => h) ?_ ?_ ?_
  rotate_left 2
  · intro w' hg
    go_simp
    with_reducible rfl
  · simp only [Act.put, List.setIfInBounds_toArray, List.set_cons_zero, List.set_cons_succ, i64_w, i32_w]
    rfl
  refine seq_pure (i := 2) (N := some 35) (v := ?_) (a' := ?_) rfl rfl (by rfl) (fun _ _ _ h => h) ?_ ?_ ?_
  rotate_left 2
  · intro w' hg
    go_simp
    with_reducible rfl
  · simp only [Act.put, List.setIfInBounds_toArray, List.set_cons_zero, List.set_cons_succ, i64_w, i32_w]
    rfl
  refine seq_pure (i := 3) (N := some 36) (v := ?_) (a' := ?_) rfl rfl (by rfl) (fun _ _ _ h => h) ?_ ?_ ?_
  rotate_left 2
  · intro w' hg
    go_simp
    with_reducible rfl
  · simp only [Act.put, List.setIfInBounds_toArray, List.set_cons_zero, List.set_cons_succ, i64_w, i32_w]
    rfl
  refine seq_call (i := 4) (N := some 37) rfl rfl Tryd.func9 (by kernel_rfl) rfl #[.slice (some ⟨W.heap.size, 0, none⟩) 32 32, .slice (some ⟨W.heap.size + 1, 0, none⟩) 12 12, .slice C nc cc, .slice D nd cd] (by rfl) rfl ?_ ?_
  · simp only [List.map_toArray, List.map_cons, List.map_nil]
    rfl
  refine (seal_calls hk hn ha ht hp (by omega) (by omega)).mono ?_
  rintro e w3 ⟨v, rfl, hx, hbw⟩
  refine ⟨_, rfl, fun _ => hbw, ?_⟩
  refine seq_norm (a' := ?_) ?_ ?_
  rotate_left
  · show Act.put _ (some 37) _ = _
    simp only [Act.put, List.setIfInBounds_toArray, List.set_cons_zero, List.set_cons_succ, i64_w, i32_w]
    rfl
  refine seq_pure (i := 5) (N := some 32) (v := ?_) (a' := ?_) rfl rfl (by rfl) (fun _ _ _ h => h) ?_ ?_ ?_
  rotate_left 2
  · intro w' hg
    go_simp
    with_reducible rfl
  · simp only [Act.put, List.setIfInBounds_toArray, List.set_cons_zero, List.set_cons_succ, i64_w, i32_w]
    rfl
  refine seq_pure (i := 6) (N := some 38) (v := ?_) (a' := ?_) rfl rfl (by rfl) (fun _ _ _ h => h) ?_ ?_ ?_
  rotate_left 2
  · intro w' hg
    go_simp
    with_reducible rfl
  · simp only [Act.put, List.setIfInBounds_toArray, List.set_cons_zero, List.set_cons_succ, i64_w, i32_w]
    rfl
  refine seq_pure (i := 7) (N := some 39) (v := ?_) (a' := ?_) rfl rfl (by rfl) (fun _ _ _ h => h) ?_ ?_ ?_
  rotate_left 2
  · intro w' hg
    go_simp
    with_reducible rfl
  · simp only [Act.put, List.setIfInBounds_toArray, List.set_cons_zero, List.set_cons_succ, i64_w, i32_w]
    rfl
  refine seq_pure (i := 8) (N := some 14) (v := ?_) (a' := ?_) rfl rfl (by rfl) (fun _ _ _ h => h) ?_ ?_ ?_
  rotate_left 2
  · intro w' hg
    go_simp
    with_reducible rfl
  · simp only [Act.put, List.setIfInBounds_toArray, List.set_cons_zero, List.set_cons_succ, i64_w, i32_w]
    rfl
  refine seq_pure (i := 9) (N := some 15) (v := ?_) (a' := ?_) rfl rfl (by rfl) (fun _ _ _ h => h) ?_ ?_ ?_
  rotate_left 2
  · intro w' hg
    go_simp
    with_reducible rfl
  · simp only [Act.put, List.setIfInBounds_toArray, List.set_cons_zero, List.set_cons_succ, i64_w, i32_w]
    rfl
  refine seq_done ?_
  rw [HX0.out] at hx
  obtain ⟨gx, cx, rfl, hgx, hgx2, hcx⟩ := hx.form (by rw [HXL.out]; omega)
  rw [HXL.out] at hx hcx ⊢
  go_wp2
  refine up_start [] [(0, true), (1, true), (2, true), (3, true), (4, false), (5, true), (6, true), (7, true), (8, true), (9, true)] (by kernel_rfl) rfl (by kernel_rfl) (by kernel_rfl) ?_
  replace hx := hx.below (below_drew (Below.refl _ _))
  replace hbw := hbw.drew
  generalize w3.drew = w4 at hx hbw ⊢
  have hb4 := below_seq hb hbw
  refine seq_pure (i := 0) (N := some 51) (v := ?_) (a' := ?_) rfl rfl (by rfl) (fun _ _ _ h => h) ?_ ?_ ?_
  rotate_left 2
  · intro w' hg
    go_simp
    with_reducible rfl
  · simp only [Act.put, List.setIfInBounds_toArray, List.set_cons_zero, List.set_cons_succ, i64_w, i32_w]
    rfl
  refine seq_pure (i := 1) (N := some 52) (v := ?_) (a' := ?_) rfl rfl (by rfl) (fun _ _ _ h => h) ?_ ?_ ?_
  rotate_left 2
  · intro w' hg
    go_simp
    with_reducible rfl
  · simp only [Act.put, List.setIfInBounds_toArray, List.set_cons_zero, List.set_cons_succ, i64_w, i32_w]
    rfl
  refine seq_pure (i := 2) (N := some 53) (v := ?_) (a' := ?_) rfl rfl (by rfl) (fun _ _ _ h => h) ?_ ?_ ?_
  rotate_left 2
  · intro w' hg
    go_simp
    with_reducible rfl
  · simp only [Act.put, List.setIfInBounds_toArray, List.set_cons_zero, List.set_cons_succ, i64_w, i32_w]
    rfl
  refine seq_pure (i := 3) (N := some 54) (v := ?_) (a' := ?_) rfl rfl (by rfl) (fun _ _ _ h => h) ?_ ?_ ?_
  rotate_left 2
  · intro w' hg
    go_simp
    with_reducible rfl
  · simp only [Act.put, List.setIfInBounds_toArray, List.set_cons_zero, List.set_cons_succ, i64_w, i32_w]
    rfl
  refine seq_call (i := 4) (N := some 55) rfl rfl Tryd.func13 (by kernel_rfl) rfl #[.slice (some ⟨W.heap.size, 0, none⟩) 32 32, .slice (some ⟨W.heap.size + 1, 0, none⟩) 12 12, .slice C nc cc, .slice (some ⟨gx, 0, none⟩) n16 cx] (by rfl) rfl ?_ ?_
  · simp only [List.map_toArray, List.map_cons, List.map_nil]
    rfl
  refine (open_calls (hk.below hbw) (hn.below hbw) (ha.below hbw) (hx.bytesOf HXO.out) (hp.below hbw) (by omega) (by omega)).mono ?_
  rw [show openN key nonce ad x0 = (text, 0) by rw [← HX0.out, openN_seal]]
  rintro e w5 ⟨v, rfl, hy, hb5⟩
  refine ⟨_, rfl, fun _ => hb5, ?_⟩
  have hx4lt : gx < w4.heap.size := by obtain ⟨g, hg1, _, hg3⟩ := hx.at_ (show 0 < n16 by omega); cases hg1; exact hg3
  replace hx := hx.below hb5
  replace hbw := below_seq hbw hb5
  refine seq_norm (a' := ?_) ?_ ?_
  rotate_left
  · show Act.put _ (some 55) _ = _
    simp only [Act.put, List.setIfInBounds_toArray, List.set_cons_zero, List.set_cons_succ, i64_w, i32_w]
    rfl
  refine seq_pure (i := 5) (N := some 50) (v := ?_) (a' := ?_) rfl rfl (by rfl) (fun _ _ _ h => h) ?_ ?_ ?_
  rotate_left 2
  · intro w' hg
    go_simp
    with_reducible rfl
  · simp only [Act.put, List.setIfInBounds_toArray, List.set_cons_zero, List.set_cons_succ, i64_w, i32_w]
    rfl
  refine seq_pure (i := 6) (N := some 56) (v := ?_) (a' := ?_) rfl rfl (by rfl) (fun _ _ _ h => h) ?_ ?_ ?_
  rotate_left 2
  · intro w' hg
    go_simp
    with_reducible rfl
  · simp only [Act.put, List.setIfInBounds_toArray, List.set_cons_zero, List.set_cons_succ, i64_w, i32_w]
    rfl
  refine seq_pure (i := 7) (N := some 57) (v := ?_) (a' := ?_) rfl rfl (by rfl) (fun _ _ _ h => h) ?_ ?_ ?_
  rotate_left 2
  · intro w' hg
    go_simp
    with_reducible rfl
  · simp only [Act.put, List.setIfInBounds_toArray, List.set_cons_zero, List.set_cons_succ, i64_w, i32_w]
    rfl
  refine seq_pure (i := 8) (N := some 16) (v := ?_) (a' := ?_) rfl rfl (by rfl) (fun _ _ _ h => h) ?_ ?_ ?_
  rotate_left 2
  · intro w' hg
    go_simp
    with_reducible rfl
  · simp only [Act.put, List.setIfInBounds_toArray, List.set_cons_zero, List.set_cons_succ, i64_w, i32_w]
    rfl
  refine seq_pure (i := 9) (N := some 17) (v := ?_) (a' := ?_) rfl rfl (by rfl) (fun _ _ _ h => h) ?_ ?_ ?_
  rotate_left 2
  · intro w' hg
    go_simp
    with_reducible rfl
  · simp only [Act.put, List.setIfInBounds_toArray, List.set_cons_zero, List.set_cons_succ, i64_w, i32_w]
    rfl
  refine seq_done ?_
  obtain ⟨Y, cy, rfl, _⟩ := hy.bytes nd ht.2.1 ht.ok
  obtain ⟨y, HY, hy1, hy2⟩ := hx.cellx kk k16
  have hyb : y < 256 := by rw [← HY.out]; exact HXO.out.getD _
  obtain ⟨z, HZ⟩ : ∃ z, Aside0 (y ^^^ tn = z) := ⟨_, ⟨rfl⟩⟩
  have fxor : bits .xor .u8 (y : Int) (tn : Int) = (z : Int) := by rw [← HZ.out]; exact xor_u8 hyb HTN.out
  have hzb : z < 256 := by rw [← HZ.out]; exact xor_lt hyb HTN.out
  have HX1 := hd (hx.put kk z)
  have HXB := hd (HXO.out.set hzb kk)
  have hys := hy.step (w1 := w5.setCell ⟨gx, kk, none⟩ (.int .u8 (z : Int))) (fun g h1 _ => Below.heap_setCell w5 ⟨gx, kk, none⟩ _ g (by show g ≠ gx; have := hx4lt; omega))
  have hbw2 := hbw.setCell (p := ⟨gx, kk, none⟩) hgx (.int .u8 (z : Int))
  have hres : ∃ res er, Aside0 (openN key nonce ad (x0.set kk z) = (res, er)) ∧ (Aside0 (tn = 0) ∧ res = text ∧ er = 0 ∨ Aside0 (tn ≠ 0) ∧ res = [] ∧ er = 10) := by
    rcases Nat.eq_zero_or_pos tn with h0 | h0
    · refine ⟨text, 0, ⟨?_⟩, Or.inl ⟨⟨h0⟩, rfl, rfl⟩⟩
      have hzy : z = y := by rw [← HZ.out, h0, Nat.xor_zero]
      rw [hzy, set_self x0 kk y HY.out (by rw [HXL.out]; exact k16), ← HX0.out, openN_seal]
    · refine ⟨[], 10, ⟨?_⟩, Or.inr ⟨⟨by omega⟩, rfl, rfl⟩⟩
      have hzy : y ≠ z := by
        rw [← HZ.out]
        intro h
        have h2 := congrArg (fun t => y ^^^ t) h
        simp only [Nat.xor_self, ← Nat.xor_assoc, Nat.zero_xor] at h2
        omega
      have h1 := openN_set (key := key) (nonce := nonce) (ad := ad) (text := text) j z (by have := HJ.out; omega) (by
        rw [← sealN_getD, HX0.out, ht.2.1, ← HKK.out, HY.out]
        exact hzy)
      rw [HX0.out, ht.2.1, ← HKK.out] at h1
      exact h1
  obtain ⟨res, er, HO, hcase⟩ := hres
  clear hx hy hbw
  go_wp2
  rcases hcase with ⟨HT0, hr1, hr2⟩ | ⟨HT0, hr1, hr2⟩
  · subst hr1
    subst hr2
    obtain rfl : tn = 0 := HT0.out
    refine up_start [] [(0, true), (1, true), (2, true), (3, true), (4, false), (5, true), (6, true), (7, true), (8, true), (9, true)] (by kernel_rfl) rfl (by kernel_rfl) (by kernel_rfl) ?_
    have hx6 := HX1.out.below (below_drew (Below.refl _ _))
    have hy6 := hys.below (below_drew (Below.refl _ _))
    have hbw6 := hbw2.drew
    generalize (World.setCell w5 ⟨gx, kk, none⟩ (Value.int .u8 (z : Int))).drew = w6 at hx6 hy6 hbw6 ⊢
    clear hys hbw2 HX1
    refine seq_pure (i := 0) (N := some 73) (v := ?_) (a' := ?_) rfl rfl (by rfl) (fun _ _ _ h => h) ?_ ?_ ?_
    rotate_left 2
    · intro w' hg
      go_simp
      with_reducible rfl
    · simp only [Act.put, List.setIfInBounds_toArray, List.set_cons_zero, List.set_cons_succ, i64_w, i32_w]
      rfl
    refine seq_pure (i := 1) (N := some 74) (v := ?_) (a' := ?_) rfl rfl (by rfl) (fun _ _ _ h => h) ?_ ?_ ?_
    rotate_left 2
    · intro w' hg
      go_simp
      with_reducible rfl
    · simp only [Act.put, List.setIfInBounds_toArray, List.set_cons_zero, List.set_cons_succ, i64_w, i32_w]
      rfl
    refine seq_pure (i := 2) (N := some 75) (v := ?_) (a' := ?_) rfl rfl (by rfl) (fun _ _ _ h => h) ?_ ?_ ?_
    rotate_left 2
    · intro w' hg
      go_simp
      with_reducible rfl
    · simp only [Act.put, List.setIfInBounds_toArray, List.set_cons_zero, List.set_cons_succ, i64_w, i32_w]
      rfl
    refine seq_pure (i := 3) (N := some 76) (v := ?_) (a' := ?_) rfl rfl (by rfl) (fun _ _ _ h => h) ?_ ?_ ?_
    rotate_left 2
    · intro w' hg
      go_simp
      with_reducible rfl
    · simp only [Act.put, List.setIfInBounds_toArray, List.set_cons_zero, List.set_cons_succ, i64_w, i32_w]
      rfl
    refine seq_call (i := 4) (N := some 77) rfl rfl Tryd.func13 (by kernel_rfl) rfl #[.slice (some ⟨W.heap.size, 0, none⟩) 32 32, .slice (some ⟨W.heap.size + 1, 0, none⟩) 12 12, .slice C nc cc, .slice (some ⟨gx, 0, none⟩) n16 cx] (by rfl) rfl ?_ ?_
    · simp only [List.map_toArray, List.map_cons, List.map_nil]
      rfl
    refine (open_calls (hk.below hbw6) (hn.below hbw6) (ha.below hbw6) (hx6.bytesOf HXB.out) (hp.below hbw6) (by omega) (by omega)).mono ?_
    rw [HO.out]
    rintro e w7 ⟨v, rfl, hz, hb7⟩
    refine ⟨_, rfl, fun _ => hb7, ?_⟩
    have hbw7 := below_seq hbw6 hb7
    have hy7 := hy6.below hb7
    refine seq_norm (a' := ?_) ?_ ?_
    rotate_left
    · show Act.put _ (some 77) _ = _
      simp only [Act.put, List.setIfInBounds_toArray, List.set_cons_zero, List.set_cons_succ, i64_w, i32_w]
      rfl
    refine seq_pure (i := 5) (N := some 72) (v := ?_) (a' := ?_) rfl rfl (by rfl) (fun _ _ _ h => h) ?_ ?_ ?_
    rotate_left 2
    · intro w' hg
      go_simp
      with_reducible rfl
    · simp only [Act.put, List.setIfInBounds_toArray, List.set_cons_zero, List.set_cons_succ, i64_w, i32_w]
      rfl
    refine seq_pure (i := 6) (N := some 78) (v := ?_) (a' := ?_) rfl rfl (by rfl) (fun _ _ _ h => h) ?_ ?_ ?_
    rotate_left 2
    · intro w' hg
      go_simp
      with_reducible rfl
    · simp only [Act.put, List.setIfInBounds_toArray, List.set_cons_zero, List.set_cons_succ, i64_w, i32_w]
      rfl
    refine seq_pure (i := 7) (N := some 79) (v := ?_) (a' := ?_) rfl rfl (by rfl) (fun _ _ _ h => h) ?_ ?_ ?_
    rotate_left 2
    · intro w' hg
      go_simp
      with_reducible rfl
    · simp only [Act.put, List.setIfInBounds_toArray, List.set_cons_zero, List.set_cons_succ, i64_w, i32_w]
      rfl
    refine seq_pure (i := 8) (N := some 19) (v := ?_) (a' := ?_) rfl rfl (by rfl) (fun _ _ _ h => h) ?_ ?_ ?_
    rotate_left 2
    · intro w' hg
      go_simp
      with_reducible rfl
    · simp only [Act.put, List.setIfInBounds_toArray, List.set_cons_zero, List.set_cons_succ, i64_w, i32_w]
      rfl
    refine seq_pure (i := 9) (N := some 20) (v := ?_) (a' := ?_) rfl rfl (by rfl) (fun _ _ _ h => h) ?_ ?_ ?_
    rotate_left 2
    · intro w' hg
      go_simp
      with_reducible rfl
    · simp only [Act.put, List.setIfInBounds_toArray, List.set_cons_zero, List.set_cons_succ, i64_w, i32_w]
      rfl
    refine seq_done ?_
    obtain ⟨Z, cz, rfl, h7⟩ := hz.bytes nd ht.2.1 ht.ok
    have sz := h7.str (P := Tryd.prog) Tryd.underlying22 Tryd.underlying5 Tryd.underlying9
    have sy := (hy7.bytesOf ht.ok).str (P := Tryd.prog) Tryd.underlying22 Tryd.underlying5 Tryd.underlying9
    have st := (ht.below hbw7).str (P := Tryd.prog) Tryd.underlying22 Tryd.underlying5 Tryd.underlying9
    go_wp2
    go_ret
    exact ⟨by simp, below_seq hb hbw7⟩
  · subst hr1
    subst hr2
    have hne : ((tn : Int) == 0) = false := by have := HT0.out; simp; omega
    refine up_start [] [(0, true), (1, true), (2, true), (3, true), (4, false), (5, true), (6, true), (7, true), (8, true), (9, true)] (by kernel_rfl) rfl (by kernel_rfl) (by kernel_rfl) ?_
    have hx6 := HX1.out.below (below_drew (Below.refl _ _))
    have hy6 := hys.below (below_drew (Below.refl _ _))
    have hbw6 := hbw2.drew
    generalize (World.setCell w5 ⟨gx, kk, none⟩ (Value.int .u8 (z : Int))).drew = w6 at hx6 hy6 hbw6 ⊢
    clear hys hbw2 HX1
    refine seq_pure (i := 0) (N := some 73) (v := ?_) (a' := ?_) rfl rfl (by rfl) (fun _ _ _ h => h) ?_ ?_ ?_
    rotate_left 2
    · intro w' hg
      go_simp
      with_reducible rfl
    · simp only [Act.put, List.setIfInBounds_toArray, List.set_cons_zero, List.set_cons_succ, i64_w, i32_w]
      rfl
    refine seq_pure (i := 1) (N := some 74) (v := ?_) (a' := ?_) rfl rfl (by rfl) (fun _ _ _ h => h) ?_ ?_ ?_
    rotate_left 2
    · intro w' hg
      go_simp
      with_reducible rfl
    · simp only [Act.put, List.setIfInBounds_toArray, List.set_cons_zero, List.set_cons_succ, i64_w, i32_w]
      rfl
    refine seq_pure (i := 2) (N := some 75) (v := ?_) (a' := ?_) rfl rfl (by rfl) (fun _ _ _ h => h) ?_ ?_ ?_
    rotate_left 2
    · intro w' hg
      go_simp
      with_reducible rfl
    · simp only [Act.put, List.setIfInBounds_toArray, List.set_cons_zero, List.set_cons_succ, i64_w, i32_w]
      rfl
    refine seq_pure (i := 3) (N := some 76) (v := ?_) (a' := ?_) rfl rfl (by rfl) (fun _ _ _ h => h) ?_ ?_ ?_
    rotate_left 2
    · intro w' hg
      go_simp
      with_reducible rfl
    · simp only [Act.put, List.setIfInBounds_toArray, List.set_cons_zero, List.set_cons_succ, i64_w, i32_w]
      rfl
    refine seq_call (i := 4) (N := some 77) rfl rfl Tryd.func13 (by kernel_rfl) rfl #[.slice (some ⟨W.heap.size, 0, none⟩) 32 32, .slice (some ⟨W.heap.size + 1, 0, none⟩) 12 12, .slice C nc cc, .slice (some ⟨gx, 0, none⟩) n16 cx] (by rfl) rfl ?_ ?_
    · simp only [List.map_toArray, List.map_cons, List.map_nil]
      rfl
    refine (open_calls (hk.below hbw6) (hn.below hbw6) (ha.below hbw6) (hx6.bytesOf HXB.out) (hp.below hbw6) (by omega) (by omega)).mono ?_
    rw [HO.out]
    rintro e w7 ⟨v, rfl, hz, hb7⟩
    refine ⟨_, rfl, fun _ => hb7, ?_⟩
    have hbw7 := below_seq hbw6 hb7
    have hy7 := hy6.below hb7
    refine seq_norm (a' := ?_) ?_ ?_
    rotate_left
    · show Act.put _ (some 77) _ = _
      simp only [Act.put, List.setIfInBounds_toArray, List.set_cons_zero, List.set_cons_succ, i64_w, i32_w]
      rfl
    refine seq_pure (i := 5) (N := some 72) (v := ?_) (a' := ?_) rfl rfl (by rfl) (fun _ _ _ h => h) ?_ ?_ ?_
    rotate_left 2
    · intro w' hg
      go_simp
      with_reducible rfl
    · simp only [Act.put, List.setIfInBounds_toArray, List.set_cons_zero, List.set_cons_succ, i64_w, i32_w]
      rfl
    refine seq_pure (i := 6) (N := some 78) (v := ?_) (a' := ?_) rfl rfl (by rfl) (fun _ _ _ h => h) ?_ ?_ ?_
    rotate_left 2
    · intro w' hg
      go_simp
      with_reducible rfl
    · simp only [Act.put, List.setIfInBounds_toArray, List.set_cons_zero, List.set_cons_succ, i64_w, i32_w]
      rfl
    refine seq_pure (i := 7) (N := some 79) (v := ?_) (a' := ?_) rfl rfl (by rfl) (fun _ _ _ h => h) ?_ ?_ ?_
    rotate_left 2
    · intro w' hg
      go_simp
      with_reducible rfl
    · simp only [Act.put, List.setIfInBounds_toArray, List.set_cons_zero, List.set_cons_succ, i64_w, i32_w]
      rfl
    refine seq_pure (i := 8) (N := some 19) (v := ?_) (a' := ?_) rfl rfl (by rfl) (fun _ _ _ h => h) ?_ ?_ ?_
    rotate_left 2
    · intro w' hg
      go_simp
      with_reducible rfl
    · simp only [Act.put, List.setIfInBounds_toArray, List.set_cons_zero, List.set_cons_succ, i64_w, i32_w]
      rfl
    refine seq_pure (i := 9) (N := some 20) (v := ?_) (a' := ?_) rfl rfl (by rfl) (fun _ _ _ h => h) ?_ ?_ ?_
    rotate_left 2
    · intro w' hg
      go_simp
      with_reducible rfl
    · simp only [Act.put, List.setIfInBounds_toArray, List.set_cons_zero, List.set_cons_succ, i64_w, i32_w]
      rfl
    refine seq_done ?_
    obtain ⟨Z, cz, rfl, h7⟩ := hz.bytes 0 rfl BytesOK.nil
    have sy := (hy7.bytesOf ht.ok).str (P := Tryd.prog) Tryd.underlying22 Tryd.underlying5 Tryd.underlying9
    have st := (ht.below hbw7).str (P := Tryd.prog) Tryd.underlying22 Tryd.underlying5 Tryd.underlying9
    go_wp2
    go_ret
    exact ⟨by simp, below_seq hb hbw7⟩

end Go.Proofs.YtkkhdjdoifnoaaaDoor
