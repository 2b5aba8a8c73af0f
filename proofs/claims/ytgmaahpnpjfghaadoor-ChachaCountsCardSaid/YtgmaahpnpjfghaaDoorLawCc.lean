/- The walk through redanlaw07.ChachaCounts. -/
import Derived.Test.YtgmaahpnpjfghaaDoorAwake07
import Derived.Test.YtgmaahpnpjfghaaDoorChaAny
import Derived.Test.YtgmaahpnpjfghaaDoorLawCq
import Derived.Test.YtgmaahpnpjfghaaDoorNum
set_option linter.unusedVariables false
set_option linter.unusedSimpArgs false
namespace Go.Proofs.YtgmaahpnpjfghaaDoor
open Go.RowKit Go.Proofs.YtgmaahpnpjfghaaDoorW.PrintWords Go.Proofs.YtgmaahpnpjfghaaDoorW.PrintLast Go.Proofs.YtgmaahpnpjfghaaDoorW.PrintMore

theorem Bytes.ofArr {T g n : Nat} {w : World} {l : List Nat} (h : Arr .u8 T g w l) (hl : l.length = n) (hb : BytesOK l) (hm : n ≤ 1000) : Bytes w (some ⟨g, 0, none⟩) n n l := ⟨h.row (by omega), hl, Nat.le_refl _, hb⟩
set_option maxHeartbeats 1000000 in
set_option maxRecDepth 100000 in
theorem chachaCounts_walk (W : World) (hpl : PlacesAt W) (key : List Nat) (hkl : key.length = 32) (hkb : BytesOK key) (nonce : List Nat) (hnl : nonce.length = 12) (hnb : BytesOK nonce) (a2 : Int) (w2 : (Lit.int .i64 a2).wf = true) (a3 : Int) (w3 : (Lit.int .i64 a3).wf = true) :
    Calls Tryd.prog 7 #[.agg (key.map fun x : Nat => Value.int .u8 x).toArray, .agg (nonce.map fun x : Nat => Value.int .u8 x).toArray, .int .i64 a2, .int .i64 a3] W fun e w' => e = .returned (.bool true) ∧ Below W.heap.size W w' := by
  have hal := below_alloc (below_alloc (Below.refl W.heap.size W) (.cells (key.map fun x : Nat => Value.int .u8 x).toArray 37)) (.cells (nonce.map fun x : Nat => Value.int .u8 x).toArray 38)
  have hka : Bytes ((W.alloc (.cells (key.map fun x : Nat => Value.int .u8 x).toArray 37)).alloc (.cells (nonce.map fun x : Nat => Value.int .u8 x).toArray 38)) (some ⟨W.heap.size, 0, none⟩) 32 32 key := (Bytes.ofArr (Arr.new W rfl) hkl hkb (by decide)).alloc _
  have hna : Bytes ((W.alloc (.cells (key.map fun x : Nat => Value.int .u8 x).toArray 37)).alloc (.cells (nonce.map fun x : Nat => Value.int .u8 x).toArray 38)) (some ⟨W.heap.size + 1, 0, none⟩) 12 12 nonce := Bytes.ofArr (by have := Arr.new (k := .u8) (T := 38) (l := nonce) (W.alloc (.cells (key.map fun x : Nat => Value.int .u8 x).toArray 37)) rfl; rw [World.size_alloc] at this; exact this) hnl hnb (by decide)
  have hkv : (key.map fun x : Nat => Value.int .u8 x).length = 32 := by rw [List.length_map, hkl]
  have hnv : (nonce.map fun x : Nat => Value.int .u8 x).length = 12 := by rw [List.length_map, hnl]
  generalize (key.map fun x : Nat => Value.int .u8 x) = kv at hkv hka hna hal ⊢
  generalize (nonce.map fun x : Nat => Value.int .u8 x) = nv at hnv hka hna hal ⊢
  obtain ⟨n, m1, m2⟩ := and_mask a3 511 (by decide)
  replace m1 : bits .and .i64 a3 511 = (n : Int) := m1
  obtain ⟨j, j1, j2⟩ := and_mask a2 7 (by decide)
  replace j1 : bits .and .i64 a2 7 = (j : Int) := j1
  have j3 := wrap_u32_small j (by omega)
  obtain ⟨c, hc1, hc2⟩ := mod32_nat (-(j : Int))
  have cw := wrap_u64_small c (by omega)
  have HC := hd hc2
  have HSO := hd (streamL_ok key c nonce (BytesOK.zeros n))
  obtain ⟨m, HM⟩ : ∃ m, Aside0 ((streamL key c nonce (List.replicate n 0)).length = m) := ⟨_, ⟨rfl⟩⟩
  have HAL := hd hal
  have HK := hd hka
  have HN := hd hna
  have hn9 : (n : Int) ≤ 511 := by omega
  clear hc2 w2 w3 j2 hal hka hna hkl hkb hnl hnb
  go_enter Tryd.func7, Tryd.ntmps7
  go_wp2_with fail
  refine (awake_calls (hpl.below HAL.out)).mono ?_
  rintro e w1 ⟨rfl, hb1⟩
  have hk := HK.out.below hb1
  have hn := HN.out.below hb1
  replace hb1 := below_seq HAL.out hb1
  clear HAL HK HN
  go_wp2_with ((with_reducible refine gate_dst (N := 17) rfl ?_); refine op_make 17 rfl 5 30 _ _ rfl rfl n (by first | rfl | exact congrArg _ m1) (by first | rfl | exact congrArg _ m1) Tryd.underlying30 Tryd.infoU8 (by decide) n rfl (by omega) ?_; intro D cd w2 hcd hod hb2)
  have hk2 := hk.below hb2
  have hn2 := hn.below hb2
  have hb := hod.bytesOf (BytesOK.zeros n)
  replace hb2 := below_seq hb1 hb2
  clear hod hb1 hk hn
  have hk := hk2
  have hn := hn2
  clear hk2 hn2
  refine up_start [] [(0, true), (1, true), (2, true), (3, true), (6, true), (7, true), (8, true), (9, true), (10, true), (4, false), (5, true), (11, false), (12, true), (13, true), (14, true)] (by kernel_rfl) rfl (by kernel_rfl) (by kernel_rfl) ?_
  have hk1 := hk.drew
  have hn1 := hn.drew
  have hd1 := hb.drew
  have hb3 := hb2.drew
  have hp3 := hpl.below hb3
  generalize w2.drew = w3 at hk1 hn1 hd1 hb3 hp3 ⊢
  clear hb2 hk hn hb
  refine seq_pure (i := 0) (N := some 22) (v := ?_) (a' := ?_) rfl rfl (by rfl) (fun _ _ _ h => h) ?_ ?_ ?_
  rotate_left 2
  · intro w' hg
    go_simp
    with_reducible rfl
  · simp only [Act.put, List.setIfInBounds_toArray, List.set_cons_zero, List.set_cons_succ, i64_w, i32_w]
    rfl
  refine seq_pure (i := 1) (N := some 23) (v := ?_) (a' := ?_) rfl rfl (by rfl) (fun _ _ _ h => h) ?_ ?_ ?_
  rotate_left 2
  · intro w' hg
    go_simp
    with_reducible rfl
  · simp only [Act.put, List.setIfInBounds_toArray, List.set_cons_zero, List.set_cons_succ, i64_w, i32_w]
    rfl
  refine seq_pure (i := 2) (N := some 24) (v := ?_) (a' := ?_) rfl rfl (by rfl) (fun _ _ _ h => h) ?_ ?_ ?_
  rotate_left 2
  · intro w' hg
    go_simp
    with_reducible rfl
  · simp only [Act.put, List.setIfInBounds_toArray, List.set_cons_zero, List.set_cons_succ, i64_w, i32_w]
    rfl
  refine seq_pure (i := 3) (N := some 25) (v := ?_) (a' := ?_) rfl rfl (by rfl) (fun _ _ _ h => h) ?_ ?_ ?_
  rotate_left 2
  · intro w' hg
    go_simp
    with_reducible rfl
  · simp only [Act.put, List.setIfInBounds_toArray, List.set_cons_zero, List.set_cons_succ, i64_w, i32_w]
    rfl
  refine seq_pure (i := 6) (N := some 28) (v := ?_) (a' := ?_) rfl rfl (by rfl) (fun _ _ _ h => h) ?_ ?_ ?_
  rotate_left 2
  · intro w' hg
    go_simp
    with_reducible rfl
  · simp only [Act.put, List.setIfInBounds_toArray, List.set_cons_zero, List.set_cons_succ, i64_w, i32_w]
    rfl
  refine seq_pure (i := 7) (N := some 29) (v := ?_) (a' := ?_) rfl rfl (by rfl) (fun _ _ _ h => h) ?_ ?_ ?_
  rotate_left 2
  · intro w' hg
    go_simp
    with_reducible rfl
  · simp only [Act.put, List.setIfInBounds_toArray, List.set_cons_zero, List.set_cons_succ, i64_w, i32_w]
    rfl
  refine seq_pure (i := 8) (N := some 30) (v := ?_) (a' := ?_) rfl rfl (by rfl) (fun _ _ _ h => h) ?_ ?_ ?_
  rotate_left 2
  · intro w' hg
    go_simp
    with_reducible rfl
  · simp only [Act.put, List.setIfInBounds_toArray, List.set_cons_zero, List.set_cons_succ, i64_w, i32_w]
    rfl
  refine seq_pure (i := 9) (N := some 31) (v := ?_) (a' := ?_) rfl rfl (by rfl) (fun _ _ _ h => h) ?_ ?_ ?_
  rotate_left 2
  · intro w' hg
    go_simp
    with_reducible rfl
  · simp only [Act.put, List.setIfInBounds_toArray, List.set_cons_zero, List.set_cons_succ, i64_w, i32_w]
    rfl
  refine seq_pure (i := 10) (N := some 32) (v := ?_) (a' := ?_) rfl rfl (by rfl) (fun _ _ _ h => h) ?_ ?_ ?_
  rotate_left 2
  · intro w' hg
    go_simp
    with_reducible rfl
  · simp only [Act.put, List.setIfInBounds_toArray, List.set_cons_zero, List.set_cons_succ, i64_w, i32_w]
    rfl
  refine seq_call (i := 4) (N := some 26) rfl rfl Tryd.func13 (by kernel_rfl) rfl #[.slice (some ⟨W.heap.size, 0, none⟩) 32 32, .int .u32 (c : Int), .slice (some ⟨W.heap.size + 1, 0, none⟩) 12 12, .slice D n cd] (by rfl) rfl ?_ ?_
  · simp only [List.map_toArray, List.map_cons, List.map_nil]
    rfl
  refine (stream_any c hk1 hn1 hd1 rfl HC.out hp3 (by omega)).mono ?_
  rintro e w4 ⟨v, rfl, ho4, hb4⟩
  obtain ⟨A4, c4, rfl, h4⟩ := ho4.bytes _ HM.out HSO.out
  have q4 := h4.strs (P := Tryd.prog) Tryd.underlying30 Tryd.underlying5 Tryd.underlying9
  refine ⟨_, rfl, fun _ => hb4, ?_⟩
  clear ho4
  replace hk1 := hk1.below hb4
  replace hn1 := hn1.below hb4
  replace hd1 := hd1.below hb4
  replace hb3 := below_seq hb3 hb4
  clear hb4
  refine seq_norm (a' := ?_) ?_ ?_
  rotate_left
  · show Act.put _ (some 26) _ = _
    simp only [Act.put, List.setIfInBounds_toArray, List.set_cons_zero, List.set_cons_succ, i64_w, i32_w]
    rfl
  refine seq_pure (i := 5) (N := some 27) (v := ?_) (a' := ?_) rfl rfl (by rfl) (fun _ _ _ h => h) ?_ ?_ ?_
  rotate_left 2
  · intro w' hg
    go_simp
    with_reducible rfl
  · simp only [Act.put, List.setIfInBounds_toArray, List.set_cons_zero, List.set_cons_succ, i64_w, i32_w]
    rfl
  clear q4
  refine seq_call (i := 11) (N := some 33) rfl rfl Tryd.func14 (by kernel_rfl) rfl #[.slice (some ⟨W.heap.size, 0, none⟩) 32 32, .int .u64 (c : Int), .slice (some ⟨W.heap.size + 1, 0, none⟩) 12 12, .slice D n cd] (by rfl) rfl ?_ ?_
  · simp only [List.map_toArray, List.map_cons, List.map_nil]
    rfl
  refine (refstream_any c hk1 hn1 hd1 rfl HC.out (by omega)).mono ?_
  rintro e w5 ⟨v, rfl, ho5, hb5⟩
  obtain ⟨A5, c5, rfl, h5⟩ := ho5.bytes _ HM.out HSO.out
  have q5 := h5.strs (P := Tryd.prog) Tryd.underlying30 Tryd.underlying5 Tryd.underlying9
  refine ⟨_, rfl, fun _ => hb5, ?_⟩
  clear ho5
  refine seq_norm (a' := ?_) ?_ ?_
  rotate_left
  · show Act.put _ (some 33) _ = _
    simp only [Act.put, List.setIfInBounds_toArray, List.set_cons_zero, List.set_cons_succ, i64_w, i32_w]
    rfl
  refine seq_pure (i := 12) (N := some 34) (v := ?_) (a' := ?_) rfl rfl (by rfl) (fun _ _ _ h => h) ?_ ?_ ?_
  rotate_left 2
  · intro w' hg
    go_simp
    with_reducible rfl
  · simp only [Act.put, List.setIfInBounds_toArray, List.set_cons_zero, List.set_cons_succ, i64_w, i32_w]
    rfl
  clear q5
  refine seq_pure (i := 13) (N := some 35) (v := ?_) (a' := ?_) rfl rfl (by rfl) (fun _ _ _ h => h) ?_ ?_ ?_
  rotate_left 2
  · intro w' hg
    go_simp
    with_reducible rfl
  · simp only [Act.put, List.setIfInBounds_toArray, List.set_cons_zero, List.set_cons_succ, i64_w, i32_w]
    rfl
  refine seq_pure (i := 14) (N := some 8) (v := ?_) (a' := ?_) rfl rfl (by rfl) (fun _ _ _ h => h) ?_ ?_ ?_
  rotate_left 2
  · intro w' hg
    go_simp
    with_reducible rfl
  · simp only [Act.put, List.setIfInBounds_toArray, List.set_cons_zero, List.set_cons_succ, i64_w, i32_w]
    rfl
  refine seq_done ?_
  go_wp2
  go_ret
  exact ⟨by simp, below_seq hb3 hb5⟩

end Go.Proofs.YtgmaahpnpjfghaaDoor
