/- The walk through redanlaw07.ChachaTwice. -/
import Derived.Test.YtgmaahpnpjfghaaDoorAwake07
import Derived.Test.YtgmaahpnpjfghaaDoorChaAny
import Derived.Test.YtgmaahpnpjfghaaDoorLawCq
import Derived.Test.YtgmaahpnpjfghaaDoorNum
set_option linter.unusedVariables false
set_option linter.unusedSimpArgs false
namespace Go.Proofs.YtgmaahpnpjfghaaDoor
open Go.RowKit Go.Proofs.YtgmaahpnpjfghaaDoorW.PrintWords Go.Proofs.YtgmaahpnpjfghaaDoorW.PrintLast Go.Proofs.YtgmaahpnpjfghaaDoorW.PrintMore

theorem strOf_append (l m : List Nat) : strOf (l ++ m) = strOf l ++ strOf m := by
  unfold strOf
  rw [List.map_append]
  rfl
theorem strOf_size (l : List Nat) : (strOf l).size = l.length := by simp [strOf, ByteArray.size]
theorem str_small {l m : List Nat} (h : l.length + m.length ≤ 9223372036854775807) : ((9223372036854775807 : Nat) < (strOf l).size + (strOf m).size) = False := by
  rw [strOf_size, strOf_size]
  exact eq_false (by omega)
theorem streamL_of {key nonce b : List Nat} {c : Nat} (hk : key.length = 32) (hn : nonce.length = 12) : streamL key c nonce b = stream key c nonce b := by
  rw [streamL, if_pos ⟨hk, hn⟩]

set_option maxHeartbeats 1000000 in
set_option maxRecDepth 100000 in
theorem chachaTwice_walk (W : World) (hpl : PlacesAt W) (key : List Nat) (hkl : key.length = 32) (hkb : BytesOK key) (a1 : Int) (w1 : (Lit.int .u32 a1).wf = true) (nonce : List Nat) (hnl : nonce.length = 12) (hnb : BytesOK nonce) {D : Option Addr} {nd cd : Nat} {b : List Nat} (hb : Bytes W D nd cd b) (hfd : nd ≤ 140737488351232) (a4 : Int) (w4 : (Lit.int .i64 a4).wf = true) :
    Calls Tryd.prog 6 #[.agg (key.map fun x : Nat => Value.int .u8 x).toArray, .int .u32 a1, .agg (nonce.map fun x : Nat => Value.int .u8 x).toArray, .slice D nd cd, .int .i64 a4] W fun e w' => e = .returned (.bool true) ∧ Below W.heap.size W w' := by
  obtain ⟨c, rfl, hc⟩ := nat_u32 w1
  have hal := below_alloc (below_alloc (Below.refl W.heap.size W) (.cells (key.map fun x : Nat => Value.int .u8 x).toArray 37)) (.cells (nonce.map fun x : Nat => Value.int .u8 x).toArray 38)
  have hka : Bytes ((W.alloc (.cells (key.map fun x : Nat => Value.int .u8 x).toArray 37)).alloc (.cells (nonce.map fun x : Nat => Value.int .u8 x).toArray 38)) (some ⟨W.heap.size, 0, none⟩) 32 32 key := (Bytes.ofArr (Arr.new W rfl) hkl hkb (by decide)).alloc _
  have hna : Bytes ((W.alloc (.cells (key.map fun x : Nat => Value.int .u8 x).toArray 37)).alloc (.cells (nonce.map fun x : Nat => Value.int .u8 x).toArray 38)) (some ⟨W.heap.size + 1, 0, none⟩) 12 12 nonce := Bytes.ofArr (by have := Arr.new (k := .u8) (T := 38) (l := nonce) (W.alloc (.cells (key.map fun x : Nat => Value.int .u8 x).toArray 37)) rfl; rw [World.size_alloc] at this; exact this) hnl hnb (by decide)
  have hkv : (key.map fun x : Nat => Value.int .u8 x).length = 32 := by rw [List.length_map, hkl]
  have hnv : (nonce.map fun x : Nat => Value.int .u8 x).length = 12 := by rw [List.length_map, hnl]
  generalize (key.map fun x : Nat => Value.int .u8 x) = kv at hkv hka hna hal ⊢
  generalize (nonce.map fun x : Nat => Value.int .u8 x) = nv at hnv hka hna hal ⊢
  have HC := hd hc
  have HB := hd hb
  have HAL := hd hal
  have HK := hd hka
  have HN := hd hna
  have HKL := hd hkl
  have HNL := hd hnl
  clear hc w1 hal hka hna hkl hkb hnl hnb hfd w4 hb
  by_cases hbig : 2000 < nd
  · have q1 : decide ((2000 : Int) < (nd : Int)) = true := by simp; omega
    go_enter Tryd.func6, Tryd.ntmps6
    go_wp2_with (go_at_call 8; refine (awake_calls (hpl.below HAL.out)).mono ?_; rintro e w1 ⟨rfl, hb1⟩)
    go_ret
    exact ⟨rfl, below_seq HAL.out hb1⟩
  · have q1 : decide ((2000 : Int) < (nd : Int)) = false := by simp; omega
    go_enter Tryd.func6, Tryd.ntmps6
    go_wp2_with (go_at_call 8; refine (awake_calls (hpl.below HAL.out)).mono ?_; rintro e w1 ⟨rfl, hb1⟩)
    have hk := HK.out.below hb1
    have hn := HN.out.below hb1
    have hd1 := (HB.out.below HAL.out).below hb1
    have hp := (hpl.below HAL.out).below hb1
    have hb := below_seq HAL.out hb1
    clear HAL HK HN hb1 hpl
    refine up_start [] [(0, true), (1, true), (2, true), (3, true), (4, false), (5, true)] (by kernel_rfl) rfl (by kernel_rfl) (by kernel_rfl) ?_
    replace hk := hk.below (below_drew (Below.refl _ _))
    replace hn := hn.below (below_drew (Below.refl _ _))
    replace hd1 := hd1.below (below_drew (Below.refl _ _))
    replace hp := hp.below (below_drew (Below.refl _ _))
    replace hb := hb.drew
    generalize w1.drew = w2 at hk hn hd1 hp hb  ⊢
    
    refine seq_pure (i := 0) (N := some 23) (v := ?_) (a' := ?_) rfl rfl (by rfl) (fun _ _ _ h => h) ?_ ?_ ?_
    rotate_left 2
    · intro w' hg
      go_simp
      with_reducible rfl
    · simp only [Act.put, List.setIfInBounds_toArray, List.set_cons_zero, List.set_cons_succ, i64_w, i32_w]
      rfl
    refine seq_pure (i := 1) (N := some 24) (v := ?_) (a' := ?_) rfl rfl (by rfl) (fun _ _ _ h => h) ?_ ?_ ?_
    rotate_left 2
    · intro w' hg
      go_simp
      with_reducible rfl
    · simp only [Act.put, List.setIfInBounds_toArray, List.set_cons_zero, List.set_cons_succ, i64_w, i32_w]
      rfl
    refine seq_pure (i := 2) (N := some 25) (v := ?_) (a' := ?_) rfl rfl (by rfl) (fun _ _ _ h => h) ?_ ?_ ?_
    rotate_left 2
    · intro w' hg
      go_simp
      with_reducible rfl
    · simp only [Act.put, List.setIfInBounds_toArray, List.set_cons_zero, List.set_cons_succ, i64_w, i32_w]
      rfl
    refine seq_pure (i := 3) (N := some 26) (v := ?_) (a' := ?_) rfl rfl (by rfl) (fun _ _ _ h => h) ?_ ?_ ?_
    rotate_left 2
    · intro w' hg
      go_simp
      with_reducible rfl
    · simp only [Act.put, List.setIfInBounds_toArray, List.set_cons_zero, List.set_cons_succ, i64_w, i32_w]
      rfl
    refine seq_call (i := 4) (N := some 27) rfl rfl Tryd.func13 (by kernel_rfl) rfl #[.slice (some ⟨W.heap.size, 0, none⟩) 32 32, .int .u32 (c : Int), .slice (some ⟨W.heap.size + 1, 0, none⟩) 12 12, .slice D nd cd] (by rfl) rfl ?_ ?_
    · simp only [List.map_toArray, List.map_cons, List.map_nil]
      rfl
    refine (stream_any c hk hn hd1 rfl HC.out hp (by omega)).mono ?_
    rintro e w3 ⟨v, rfl, hx, hb'⟩
    rw [streamL_of HKL.out HNL.out] at hx
    refine ⟨_, rfl, fun _ => hb', ?_⟩
    replace hk := hk.below hb'
    replace hn := hn.below hb'
    replace hd1 := hd1.below hb'
    replace hp := hp.below hb'
    replace hb := below_seq hb hb'
    clear hb'
    refine seq_norm (a' := ?_) ?_ ?_
    rotate_left
    · show Act.put _ (some 27) _ = _
      simp only [Act.put, List.setIfInBounds_toArray, List.set_cons_zero, List.set_cons_succ, i64_w, i32_w]
      rfl
    refine seq_pure (i := 5) (N := some 12) (v := ?_) (a' := ?_) rfl rfl (by rfl) (fun _ _ _ h => h) ?_ ?_ ?_
    rotate_left 2
    · intro w' hg
      go_simp
      with_reducible rfl
    · simp only [Act.put, List.setIfInBounds_toArray, List.set_cons_zero, List.set_cons_succ, i64_w, i32_w]
      rfl
    refine seq_done ?_
    have hsl : (stream key c nonce b).length = nd := by rw [stream_length, hd1.2.1]
    obtain ⟨X, cx, rfl, hx'⟩ := hx.bytes nd hsl (stream_ok _ _ _ hd1.ok)
    replace hx := hx'
    clear hx' hsl
    go_wp2
    refine up_start [] [(0, true), (1, true), (2, true), (3, true), (4, false), (5, true)] (by kernel_rfl) rfl (by kernel_rfl) (by kernel_rfl) ?_
    replace hk := hk.below (below_drew (Below.refl _ _))
    replace hn := hn.below (below_drew (Below.refl _ _))
    replace hd1 := hd1.below (below_drew (Below.refl _ _))
    replace hp := hp.below (below_drew (Below.refl _ _))
    replace hx := hx.below (below_drew (Below.refl _ _))
    replace hb := hb.drew
    generalize w3.drew = w4 at hk hn hd1 hp hb hx ⊢
    
    refine seq_pure (i := 0) (N := some 28) (v := ?_) (a' := ?_) rfl rfl (by rfl) (fun _ _ _ h => h) ?_ ?_ ?_
    rotate_left 2
    · intro w' hg
      go_simp
      with_reducible rfl
    · simp only [Act.put, List.setIfInBounds_toArray, List.set_cons_zero, List.set_cons_succ, i64_w, i32_w]
      rfl
    refine seq_pure (i := 1) (N := some 29) (v := ?_) (a' := ?_) rfl rfl (by rfl) (fun _ _ _ h => h) ?_ ?_ ?_
    rotate_left 2
    · intro w' hg
      go_simp
      with_reducible rfl
    · simp only [Act.put, List.setIfInBounds_toArray, List.set_cons_zero, List.set_cons_succ, i64_w, i32_w]
      rfl
    refine seq_pure (i := 2) (N := some 30) (v := ?_) (a' := ?_) rfl rfl (by rfl) (fun _ _ _ h => h) ?_ ?_ ?_
    rotate_left 2
    · intro w' hg
      go_simp
      with_reducible rfl
    · simp only [Act.put, List.setIfInBounds_toArray, List.set_cons_zero, List.set_cons_succ, i64_w, i32_w]
      rfl
    refine seq_pure (i := 3) (N := some 31) (v := ?_) (a' := ?_) rfl rfl (by rfl) (fun _ _ _ h => h) ?_ ?_ ?_
    rotate_left 2
    · intro w' hg
      go_simp
      with_reducible rfl
    · simp only [Act.put, List.setIfInBounds_toArray, List.set_cons_zero, List.set_cons_succ, i64_w, i32_w]
      rfl
    refine seq_call (i := 4) (N := some 32) rfl rfl Tryd.func13 (by kernel_rfl) rfl #[.slice (some ⟨W.heap.size, 0, none⟩) 32 32, .int .u32 (c : Int), .slice (some ⟨W.heap.size + 1, 0, none⟩) 12 12, .slice X nd cx] (by rfl) rfl ?_ ?_
    · simp only [List.map_toArray, List.map_cons, List.map_nil]
      rfl
    refine (stream_any c hk hn hx rfl HC.out hp (by omega)).mono ?_
    rintro e w5 ⟨v, rfl, hy, hb'⟩
    rw [streamL_of HKL.out HNL.out] at hy
    refine ⟨_, rfl, fun _ => hb', ?_⟩
    replace hk := hk.below hb'
    replace hn := hn.below hb'
    replace hd1 := hd1.below hb'
    replace hp := hp.below hb'
    replace hx := hx.below hb'
    replace hb := below_seq hb hb'
    clear hb'
    refine seq_norm (a' := ?_) ?_ ?_
    rotate_left
    · show Act.put _ (some 32) _ = _
      simp only [Act.put, List.setIfInBounds_toArray, List.set_cons_zero, List.set_cons_succ, i64_w, i32_w]
      rfl
    refine seq_pure (i := 5) (N := some 13) (v := ?_) (a' := ?_) rfl rfl (by rfl) (fun _ _ _ h => h) ?_ ?_ ?_
    rotate_left 2
    · intro w' hg
      go_simp
      with_reducible rfl
    · simp only [Act.put, List.setIfInBounds_toArray, List.set_cons_zero, List.set_cons_succ, i64_w, i32_w]
      rfl
    refine seq_done ?_
    have hsl : (stream key c nonce (stream key c nonce b)).length = nd := by rw [stream_length, stream_length, hd1.2.1]
    obtain ⟨Y, cy, rfl, hy'⟩ := hy.bytes nd hsl (stream_ok _ _ _ (stream_ok _ _ _ hd1.ok))
    rw [stream_twice] at hy'
    replace hy := hy'
    clear hy' hsl
    obtain ⟨k0, m1, m2⟩ := and_mask a4 31 (by decide)
    replace m1 : bits .and .i64 a4 31 = (k0 : Int) := m1
    have m3 : (k0 : Int) ≤ 31 := by omega
    by_cases hgt : nd < 64 * k0
    · have q2 : decide ((nd : Int) < 64 * (k0 : Int)) = true := by simp; omega
      obtain ⟨k, hk1⟩ : ∃ k, k = nd / 64 := ⟨_, rfl⟩
      have e0 : (nd : Int) / 64 = (k : Int) := by omega
      have k1 : 64 * k ≤ nd := by omega
      have k2 : k ≤ 31 := by omega
      clear hk1
      obtain ⟨p, hp1⟩ : ∃ p, p = 64 * k := ⟨_, rfl⟩
      have e1 : (64 : Int) * (k : Int) = (p : Int) := by omega
      have hp2 : p ≤ nd := by omega
      have i1 : (p : Int) ≤ nd := by omega
      have i0 : (0 : Int) ≤ p := by omega
      have hcd := HB.out.2.2.1
      have i2 : (p : Int) ≤ cd := by omega
      obtain ⟨c2, HC2, e2⟩ : ∃ c2, Aside0 (c2 < 2 ^ 32) ∧ Aside0 ((c + k) % 2 ^ 32 = c2) := ⟨_, ⟨Nat.mod_lt _ (by decide)⟩, ⟨rfl⟩⟩
      have e3 : IntKind.u32.wrap ((c : Int) + (k : Int)) = (c2 : Int) := (wrap_u32_add c k).trans (congrArg Nat.cast e2.out)
      have e4 := wrap_u32_small k (by omega)
      have HP := hd hp1
      clear hcd hp1
      go_wp2
      refine up_start [] [(0, true), (1, true), (2, true), (3, true), (4, true), (5, true), (6, true), (7, false), (8, true)] (by kernel_rfl) rfl (by kernel_rfl) (by kernel_rfl) ?_
      replace hk := hk.below (below_drew (Below.refl _ _))
      replace hn := hn.below (below_drew (Below.refl _ _))
      replace hd1 := hd1.below (below_drew (Below.refl _ _))
      replace hp := hp.below (below_drew (Below.refl _ _))
      replace hx := hx.below (below_drew (Below.refl _ _))
      replace hy := hy.below (below_drew (Below.refl _ _))
      replace hb := hb.drew
      generalize w5.drew = w6 at hk hn hd1 hp hb hx hy ⊢
      have ht := hd1.take p hp2
      refine seq_pure (i := 0) (N := some 43) (v := ?_) (a' := ?_) rfl rfl (by rfl) (fun _ _ _ h => h) ?_ ?_ ?_
      rotate_left 2
      · intro w' hg
        go_simp
        with_reducible rfl
      · simp only [Act.put, List.setIfInBounds_toArray, List.set_cons_zero, List.set_cons_succ, i64_w, i32_w]
        rfl
      refine seq_pure (i := 1) (N := some 44) (v := ?_) (a' := ?_) rfl rfl (by rfl) (fun _ _ _ h => h) ?_ ?_ ?_
      rotate_left 2
      · intro w' hg
        go_simp
        with_reducible rfl
      · simp only [Act.put, List.setIfInBounds_toArray, List.set_cons_zero, List.set_cons_succ, i64_w, i32_w]
        rfl
      refine seq_pure (i := 2) (N := some 45) (v := ?_) (a' := ?_) rfl rfl (by rfl) (fun _ _ _ h => h) ?_ ?_ ?_
      rotate_left 2
      · intro w' hg
        go_simp
        with_reducible rfl
      · simp only [Act.put, List.setIfInBounds_toArray, List.set_cons_zero, List.set_cons_succ, i64_w, i32_w]
        rfl
      refine seq_pure (i := 3) (N := some 46) (v := ?_) (a' := ?_) rfl rfl (by rfl) (fun _ _ _ h => h) ?_ ?_ ?_
      rotate_left 2
      · intro w' hg
        go_simp
        with_reducible rfl
      · simp only [Act.put, List.setIfInBounds_toArray, List.set_cons_zero, List.set_cons_succ, i64_w, i32_w]
        rfl
      refine seq_pure (i := 4) (N := some 47) (v := ?_) (a' := ?_) rfl rfl (by rfl) (fun _ _ _ h => h) ?_ ?_ ?_
      rotate_left 2
      · intro w' hg
        go_simp
        with_reducible rfl
      · simp only [Act.put, List.setIfInBounds_toArray, List.set_cons_zero, List.set_cons_succ, i64_w, i32_w]
        rfl
      refine seq_pure (i := 5) (N := some 48) (v := ?_) (a' := ?_) rfl rfl (by rfl) (fun _ _ _ h => h) ?_ ?_ ?_
      rotate_left 2
      · intro w' hg
        go_simp
        with_reducible rfl
      · simp only [Act.put, List.setIfInBounds_toArray, List.set_cons_zero, List.set_cons_succ, i64_w, i32_w]
        rfl
      have w0 := wrap64_small p (by omega)
      refine seq_pure (i := 6) (N := some 49) (v := ?_) (a' := ?_) rfl rfl (by rfl) (fun _ _ _ h => h) ?_ ?_ ?_
      rotate_left 2
      · intro w' hg
        go_simp
        with_reducible rfl
      · simp only [Act.put, List.setIfInBounds_toArray, List.set_cons_zero, List.set_cons_succ, i64_w, i32_w]
        rfl
      clear w0
      refine seq_call (i := 7) (N := some 50) rfl rfl Tryd.func13 (by kernel_rfl) rfl #[.slice (some ⟨W.heap.size, 0, none⟩) 32 32, .int .u32 (c : Int), .slice (some ⟨W.heap.size + 1, 0, none⟩) 12 12, .slice D p cd] (by rfl) rfl ?_ ?_
      · simp only [List.map_toArray, List.map_cons, List.map_nil]
        rfl
      refine (stream_any c hk hn ht rfl HC.out hp (by omega)).mono ?_
      rintro e w7 ⟨v, rfl, hq, hb'⟩
      rw [streamL_of HKL.out HNL.out] at hq
      refine ⟨_, rfl, fun _ => hb', ?_⟩
      replace hk := hk.below hb'
      replace hn := hn.below hb'
      replace hd1 := hd1.below hb'
      replace hp := hp.below hb'
      replace hx := hx.below hb'
      replace hy := hy.below hb'
      replace hb := below_seq hb hb'
      clear hb'
      refine seq_norm (a' := ?_) ?_ ?_
      rotate_left
      · show Act.put _ (some 50) _ = _
        simp only [Act.put, List.setIfInBounds_toArray, List.set_cons_zero, List.set_cons_succ, i64_w, i32_w]
        rfl
      refine seq_pure (i := 8) (N := some 15) (v := ?_) (a' := ?_) rfl rfl (by rfl) (fun _ _ _ h => h) ?_ ?_ ?_
      rotate_left 2
      · intro w' hg
        go_simp
        with_reducible rfl
      · simp only [Act.put, List.setIfInBounds_toArray, List.set_cons_zero, List.set_cons_succ, i64_w, i32_w]
        rfl
      refine seq_done ?_
      have hql : (stream key c nonce (b.take p)).length = p := by rw [stream_length, List.length_take, hd1.2.1]; omega
      obtain ⟨Z, cz, rfl, hq'⟩ := hq.bytes p hql (stream_ok _ _ _ (hd1.take p hp2).ok)
      replace hq := hq'
      clear hq' hql
      go_wp2
      refine up_start [] [(0, true), (1, true), (2, true), (3, true), (4, true), (5, true), (6, true), (7, true), (8, true), (9, true), (10, false), (11, true)] (by kernel_rfl) rfl (by kernel_rfl) (by kernel_rfl) ?_
      replace hk := hk.below (below_drew (Below.refl _ _))
      replace hn := hn.below (below_drew (Below.refl _ _))
      replace hd1 := hd1.below (below_drew (Below.refl _ _))
      replace hp := hp.below (below_drew (Below.refl _ _))
      replace hx := hx.below (below_drew (Below.refl _ _))
      replace hy := hy.below (below_drew (Below.refl _ _))
      replace hq := hq.below (below_drew (Below.refl _ _))
      replace hb := hb.drew
      generalize w7.drew = w8 at hk hn hd1 hp hb hx hy hq ⊢
      have ht := hd1.drop p hp2
      refine seq_pure (i := 0) (N := some 51) (v := ?_) (a' := ?_) rfl rfl (by rfl) (fun _ _ _ h => h) ?_ ?_ ?_
      rotate_left 2
      · intro w' hg
        go_simp
        with_reducible rfl
      · simp only [Act.put, List.setIfInBounds_toArray, List.set_cons_zero, List.set_cons_succ, i64_w, i32_w]
        rfl
      refine seq_pure (i := 1) (N := some 52) (v := ?_) (a' := ?_) rfl rfl (by rfl) (fun _ _ _ h => h) ?_ ?_ ?_
      rotate_left 2
      · intro w' hg
        go_simp
        with_reducible rfl
      · simp only [Act.put, List.setIfInBounds_toArray, List.set_cons_zero, List.set_cons_succ, i64_w, i32_w]
        rfl
      refine seq_pure (i := 2) (N := some 53) (v := ?_) (a' := ?_) rfl rfl (by rfl) (fun _ _ _ h => h) ?_ ?_ ?_
      rotate_left 2
      · intro w' hg
        go_simp
        with_reducible rfl
      · simp only [Act.put, List.setIfInBounds_toArray, List.set_cons_zero, List.set_cons_succ, i64_w, i32_w]
        rfl
      refine seq_pure (i := 3) (N := some 54) (v := ?_) (a' := ?_) rfl rfl (by rfl) (fun _ _ _ h => h) ?_ ?_ ?_
      rotate_left 2
      · intro w' hg
        go_simp
        with_reducible rfl
      · simp only [Act.put, List.setIfInBounds_toArray, List.set_cons_zero, List.set_cons_succ, i64_w, i32_w]
        rfl
      refine seq_pure (i := 4) (N := some 55) (v := ?_) (a' := ?_) rfl rfl (by rfl) (fun _ _ _ h => h) ?_ ?_ ?_
      rotate_left 2
      · intro w' hg
        go_simp
        with_reducible rfl
      · simp only [Act.put, List.setIfInBounds_toArray, List.set_cons_zero, List.set_cons_succ, i64_w, i32_w]
        rfl
      refine seq_pure (i := 5) (N := some 56) (v := ?_) (a' := ?_) rfl rfl (by rfl) (fun _ _ _ h => h) ?_ ?_ ?_
      rotate_left 2
      · intro w' hg
        go_simp
        with_reducible rfl
      · simp only [Act.put, List.setIfInBounds_toArray, List.set_cons_zero, List.set_cons_succ, i64_w, i32_w]
        rfl
      refine seq_pure (i := 6) (N := some 57) (v := ?_) (a' := ?_) rfl rfl (by rfl) (fun _ _ _ h => h) ?_ ?_ ?_
      rotate_left 2
      · intro w' hg
        go_simp
        with_reducible rfl
      · simp only [Act.put, List.setIfInBounds_toArray, List.set_cons_zero, List.set_cons_succ, i64_w, i32_w]
        rfl
      refine seq_pure (i := 7) (N := some 58) (v := ?_) (a' := ?_) rfl rfl (by rfl) (fun _ _ _ h => h) ?_ ?_ ?_
      rotate_left 2
      · intro w' hg
        go_simp
        with_reducible rfl
      · simp only [Act.put, List.setIfInBounds_toArray, List.set_cons_zero, List.set_cons_succ, i64_w, i32_w]
        rfl
      refine seq_pure (i := 8) (N := some 59) (v := ?_) (a' := ?_) rfl rfl (by rfl) (fun _ _ _ h => h) ?_ ?_ ?_
      rotate_left 2
      · intro w' hg
        go_simp
        with_reducible rfl
      · simp only [Act.put, List.setIfInBounds_toArray, List.set_cons_zero, List.set_cons_succ, i64_w, i32_w]
        rfl
      have w0 := wrap64_small p (by omega)
      refine seq_pure (i := 9) (N := some 60) (v := ?_) (a' := ?_) rfl rfl (by rfl) (fun _ _ _ h => h) ?_ ?_ ?_
      rotate_left 2
      · intro w' hg
        go_simp
        with_reducible rfl
      · simp only [Act.put, List.setIfInBounds_toArray, List.set_cons_zero, List.set_cons_succ, i64_w, i32_w]
        rfl
      clear w0
      refine seq_call (i := 10) (N := some 61) rfl rfl Tryd.func13 (by kernel_rfl) rfl #[.slice (some ⟨W.heap.size, 0, none⟩) 32 32, .int .u32 (c2 : Int), .slice (some ⟨W.heap.size + 1, 0, none⟩) 12 12, .slice (if cd = p then D else D.map (·.add p)) (nd - p) (cd - p)] (by rfl) rfl ?_ ?_
      · simp only [List.map_toArray, List.map_cons, List.map_nil]
        rfl
      refine (stream_any c2 hk hn ht rfl HC2.out hp (by omega)).mono ?_
      rintro e w9 ⟨v, rfl, hr, hb'⟩
      rw [streamL_of HKL.out HNL.out] at hr
      refine ⟨_, rfl, fun _ => hb', ?_⟩
      replace hk := hk.below hb'
      replace hn := hn.below hb'
      replace hd1 := hd1.below hb'
      replace hp := hp.below hb'
      replace hx := hx.below hb'
      replace hy := hy.below hb'
      replace hq := hq.below hb'
      replace hb := below_seq hb hb'
      clear hb'
      refine seq_norm (a' := ?_) ?_ ?_
      rotate_left
      · show Act.put _ (some 61) _ = _
        simp only [Act.put, List.setIfInBounds_toArray, List.set_cons_zero, List.set_cons_succ, i64_w, i32_w]
        rfl
      refine seq_pure (i := 11) (N := some 16) (v := ?_) (a' := ?_) rfl rfl (by rfl) (fun _ _ _ h => h) ?_ ?_ ?_
      rotate_left 2
      · intro w' hg
        go_simp
        with_reducible rfl
      · simp only [Act.put, List.setIfInBounds_toArray, List.set_cons_zero, List.set_cons_succ, i64_w, i32_w]
        rfl
      refine seq_done ?_
      have hrl : (stream key c2 nonce (b.drop p)).length = nd - p := by rw [stream_length, List.length_drop, hd1.2.1]
      obtain ⟨R, cr, rfl, hr'⟩ := hr.bytes (nd - p) hrl (stream_ok _ _ _ (hd1.drop p hp2).ok)
      have hcat : stream key c nonce b = stream key c nonce (b.take p) ++ stream key c2 nonce (b.drop p) := by
        have h1 := stream_append key c k nonce (b.take p) (b.drop p) (by rw [List.length_take, hd1.2.1, ← HP.out]; omega)
        rw [List.take_append_drop, e2.out] at h1
        exact h1
      rw [hcat] at hx
      generalize stream key c nonce (b.take p) = lq at hx hq
      generalize stream key c2 nonce (b.drop p) = lr at hx hr'
      have sx := hx.str (P := Tryd.prog) Tryd.underlying30 Tryd.underlying5 Tryd.underlying9
      have sy := hy.str (P := Tryd.prog) Tryd.underlying30 Tryd.underlying5 Tryd.underlying9
      have sq := hq.str (P := Tryd.prog) Tryd.underlying30 Tryd.underlying5 Tryd.underlying9
      have sr := hr'.str (P := Tryd.prog) Tryd.underlying30 Tryd.underlying5 Tryd.underlying9
      have sb := hd1.str (P := Tryd.prog) Tryd.underlying30 Tryd.underlying5 Tryd.underlying9
      have hsz : ((9223372036854775807 : Nat) < (strOf lq).size + (strOf lr).size) = False := str_small (by rw [hq.2.1, hr'.2.1]; omega)
      clear hcat hrl hr hr' hq hx hy hk hn hd1 hp e2
      generalize (if cd = p then D else Option.map (fun x => x.add p) D) = DD
      go_wp2
      go_ret
      refine ⟨?_, hb⟩
      rw [strOf_append]
      simp
    · have q2 : decide ((nd : Int) < 64 * (k0 : Int)) = false := by simp; omega
      have k1 : 64 * k0 ≤ nd := by omega
      obtain ⟨k, rfl⟩ : ∃ k, k = k0 := ⟨_, rfl⟩
      obtain ⟨p, hp1⟩ : ∃ p, p = 64 * k := ⟨_, rfl⟩
      have e1 : (64 : Int) * (k : Int) = (p : Int) := by omega
      have hp2 : p ≤ nd := by omega
      have i1 : (p : Int) ≤ nd := by omega
      have i0 : (0 : Int) ≤ p := by omega
      have hcd := HB.out.2.2.1
      have i2 : (p : Int) ≤ cd := by omega
      obtain ⟨c2, HC2, e2⟩ : ∃ c2, Aside0 (c2 < 2 ^ 32) ∧ Aside0 ((c + k) % 2 ^ 32 = c2) := ⟨_, ⟨Nat.mod_lt _ (by decide)⟩, ⟨rfl⟩⟩
      have e3 : IntKind.u32.wrap ((c : Int) + (k : Int)) = (c2 : Int) := (wrap_u32_add c k).trans (congrArg Nat.cast e2.out)
      have e4 := wrap_u32_small k (by omega)
      have HP := hd hp1
      clear hcd hp1
      go_wp2
      refine up_start [] [(0, true), (1, true), (2, true), (3, true), (4, true), (5, true), (6, true), (7, false), (8, true)] (by kernel_rfl) rfl (by kernel_rfl) (by kernel_rfl) ?_
      replace hk := hk.below (below_drew (Below.refl _ _))
      replace hn := hn.below (below_drew (Below.refl _ _))
      replace hd1 := hd1.below (below_drew (Below.refl _ _))
      replace hp := hp.below (below_drew (Below.refl _ _))
      replace hx := hx.below (below_drew (Below.refl _ _))
      replace hy := hy.below (below_drew (Below.refl _ _))
      replace hb := hb.drew
      generalize w5.drew = w6 at hk hn hd1 hp hb hx hy ⊢
      have ht := hd1.take p hp2
      refine seq_pure (i := 0) (N := some 43) (v := ?_) (a' := ?_) rfl rfl (by rfl) (fun _ _ _ h => h) ?_ ?_ ?_
      rotate_left 2
      · intro w' hg
        go_simp
        with_reducible rfl
      · simp only [Act.put, List.setIfInBounds_toArray, List.set_cons_zero, List.set_cons_succ, i64_w, i32_w]
        rfl
      refine seq_pure (i := 1) (N := some 44) (v := ?_) (a' := ?_) rfl rfl (by rfl) (fun _ _ _ h => h) ?_ ?_ ?_
      rotate_left 2
      · intro w' hg
        go_simp
        with_reducible rfl
      · simp only [Act.put, List.setIfInBounds_toArray, List.set_cons_zero, List.set_cons_succ, i64_w, i32_w]
        rfl
      refine seq_pure (i := 2) (N := some 45) (v := ?_) (a' := ?_) rfl rfl (by rfl) (fun _ _ _ h => h) ?_ ?_ ?_
      rotate_left 2
      · intro w' hg
        go_simp
        with_reducible rfl
      · simp only [Act.put, List.setIfInBounds_toArray, List.set_cons_zero, List.set_cons_succ, i64_w, i32_w]
        rfl
      refine seq_pure (i := 3) (N := some 46) (v := ?_) (a' := ?_) rfl rfl (by rfl) (fun _ _ _ h => h) ?_ ?_ ?_
      rotate_left 2
      · intro w' hg
        go_simp
        with_reducible rfl
      · simp only [Act.put, List.setIfInBounds_toArray, List.set_cons_zero, List.set_cons_succ, i64_w, i32_w]
        rfl
      refine seq_pure (i := 4) (N := some 47) (v := ?_) (a' := ?_) rfl rfl (by rfl) (fun _ _ _ h => h) ?_ ?_ ?_
      rotate_left 2
      · intro w' hg
        go_simp
        with_reducible rfl
      · simp only [Act.put, List.setIfInBounds_toArray, List.set_cons_zero, List.set_cons_succ, i64_w, i32_w]
        rfl
      refine seq_pure (i := 5) (N := some 48) (v := ?_) (a' := ?_) rfl rfl (by rfl) (fun _ _ _ h => h) ?_ ?_ ?_
      rotate_left 2
      · intro w' hg
        go_simp
        with_reducible rfl
      · simp only [Act.put, List.setIfInBounds_toArray, List.set_cons_zero, List.set_cons_succ, i64_w, i32_w]
        rfl
      have w0 := wrap64_small p (by omega)
      refine seq_pure (i := 6) (N := some 49) (v := ?_) (a' := ?_) rfl rfl (by rfl) (fun _ _ _ h => h) ?_ ?_ ?_
      rotate_left 2
      · intro w' hg
        go_simp
        with_reducible rfl
      · simp only [Act.put, List.setIfInBounds_toArray, List.set_cons_zero, List.set_cons_succ, i64_w, i32_w]
        rfl
      clear w0
      refine seq_call (i := 7) (N := some 50) rfl rfl Tryd.func13 (by kernel_rfl) rfl #[.slice (some ⟨W.heap.size, 0, none⟩) 32 32, .int .u32 (c : Int), .slice (some ⟨W.heap.size + 1, 0, none⟩) 12 12, .slice D p cd] (by rfl) rfl ?_ ?_
      · simp only [List.map_toArray, List.map_cons, List.map_nil]
        rfl
      refine (stream_any c hk hn ht rfl HC.out hp (by omega)).mono ?_
      rintro e w7 ⟨v, rfl, hq, hb'⟩
      rw [streamL_of HKL.out HNL.out] at hq
      refine ⟨_, rfl, fun _ => hb', ?_⟩
      replace hk := hk.below hb'
      replace hn := hn.below hb'
      replace hd1 := hd1.below hb'
      replace hp := hp.below hb'
      replace hx := hx.below hb'
      replace hy := hy.below hb'
      replace hb := below_seq hb hb'
      clear hb'
      refine seq_norm (a' := ?_) ?_ ?_
      rotate_left
      · show Act.put _ (some 50) _ = _
        simp only [Act.put, List.setIfInBounds_toArray, List.set_cons_zero, List.set_cons_succ, i64_w, i32_w]
        rfl
      refine seq_pure (i := 8) (N := some 15) (v := ?_) (a' := ?_) rfl rfl (by rfl) (fun _ _ _ h => h) ?_ ?_ ?_
      rotate_left 2
      · intro w' hg
        go_simp
        with_reducible rfl
      · simp only [Act.put, List.setIfInBounds_toArray, List.set_cons_zero, List.set_cons_succ, i64_w, i32_w]
        rfl
      refine seq_done ?_
      have hql : (stream key c nonce (b.take p)).length = p := by rw [stream_length, List.length_take, hd1.2.1]; omega
      obtain ⟨Z, cz, rfl, hq'⟩ := hq.bytes p hql (stream_ok _ _ _ (hd1.take p hp2).ok)
      replace hq := hq'
      clear hq' hql
      go_wp2
      refine up_start [] [(0, true), (1, true), (2, true), (3, true), (4, true), (5, true), (6, true), (7, true), (8, true), (9, true), (10, false), (11, true)] (by kernel_rfl) rfl (by kernel_rfl) (by kernel_rfl) ?_
      replace hk := hk.below (below_drew (Below.refl _ _))
      replace hn := hn.below (below_drew (Below.refl _ _))
      replace hd1 := hd1.below (below_drew (Below.refl _ _))
      replace hp := hp.below (below_drew (Below.refl _ _))
      replace hx := hx.below (below_drew (Below.refl _ _))
      replace hy := hy.below (below_drew (Below.refl _ _))
      replace hq := hq.below (below_drew (Below.refl _ _))
      replace hb := hb.drew
      generalize w7.drew = w8 at hk hn hd1 hp hb hx hy hq ⊢
      have ht := hd1.drop p hp2
      refine seq_pure (i := 0) (N := some 51) (v := ?_) (a' := ?_) rfl rfl (by rfl) (fun _ _ _ h => h) ?_ ?_ ?_
      rotate_left 2
      · intro w' hg
        go_simp
        with_reducible rfl
      · simp only [Act.put, List.setIfInBounds_toArray, List.set_cons_zero, List.set_cons_succ, i64_w, i32_w]
        rfl
      refine seq_pure (i := 1) (N := some 52) (v := ?_) (a' := ?_) rfl rfl (by rfl) (fun _ _ _ h => h) ?_ ?_ ?_
      rotate_left 2
      · intro w' hg
        go_simp
        with_reducible rfl
      · simp only [Act.put, List.setIfInBounds_toArray, List.set_cons_zero, List.set_cons_succ, i64_w, i32_w]
        rfl
      refine seq_pure (i := 2) (N := some 53) (v := ?_) (a' := ?_) rfl rfl (by rfl) (fun _ _ _ h => h) ?_ ?_ ?_
      rotate_left 2
      · intro w' hg
        go_simp
        with_reducible rfl
      · simp only [Act.put, List.setIfInBounds_toArray, List.set_cons_zero, List.set_cons_succ, i64_w, i32_w]
        rfl
      refine seq_pure (i := 3) (N := some 54) (v := ?_) (a' := ?_) rfl rfl (by rfl) (fun _ _ _ h => h) ?_ ?_ ?_
      rotate_left 2
      · intro w' hg
        go_simp
        with_reducible rfl
      · simp only [Act.put, List.setIfInBounds_toArray, List.set_cons_zero, List.set_cons_succ, i64_w, i32_w]
        rfl
      refine seq_pure (i := 4) (N := some 55) (v := ?_) (a' := ?_) rfl rfl (by rfl) (fun _ _ _ h => h) ?_ ?_ ?_
      rotate_left 2
      · intro w' hg
        go_simp
        with_reducible rfl
      · simp only [Act.put, List.setIfInBounds_toArray, List.set_cons_zero, List.set_cons_succ, i64_w, i32_w]
        rfl
      refine seq_pure (i := 5) (N := some 56) (v := ?_) (a' := ?_) rfl rfl (by rfl) (fun _ _ _ h => h) ?_ ?_ ?_
      rotate_left 2
      · intro w' hg
        go_simp
        with_reducible rfl
      · simp only [Act.put, List.setIfInBounds_toArray, List.set_cons_zero, List.set_cons_succ, i64_w, i32_w]
        rfl
      refine seq_pure (i := 6) (N := some 57) (v := ?_) (a' := ?_) rfl rfl (by rfl) (fun _ _ _ h => h) ?_ ?_ ?_
      rotate_left 2
      · intro w' hg
        go_simp
        with_reducible rfl
      · simp only [Act.put, List.setIfInBounds_toArray, List.set_cons_zero, List.set_cons_succ, i64_w, i32_w]
        rfl
      refine seq_pure (i := 7) (N := some 58) (v := ?_) (a' := ?_) rfl rfl (by rfl) (fun _ _ _ h => h) ?_ ?_ ?_
      rotate_left 2
      · intro w' hg
        go_simp
        with_reducible rfl
      · simp only [Act.put, List.setIfInBounds_toArray, List.set_cons_zero, List.set_cons_succ, i64_w, i32_w]
        rfl
      refine seq_pure (i := 8) (N := some 59) (v := ?_) (a' := ?_) rfl rfl (by rfl) (fun _ _ _ h => h) ?_ ?_ ?_
      rotate_left 2
      · intro w' hg
        go_simp
        with_reducible rfl
      · simp only [Act.put, List.setIfInBounds_toArray, List.set_cons_zero, List.set_cons_succ, i64_w, i32_w]
        rfl
      have w0 := wrap64_small p (by omega)
      refine seq_pure (i := 9) (N := some 60) (v := ?_) (a' := ?_) rfl rfl (by rfl) (fun _ _ _ h => h) ?_ ?_ ?_
      rotate_left 2
      · intro w' hg
        go_simp
        with_reducible rfl
      · simp only [Act.put, List.setIfInBounds_toArray, List.set_cons_zero, List.set_cons_succ, i64_w, i32_w]
        rfl
      clear w0
      refine seq_call (i := 10) (N := some 61) rfl rfl Tryd.func13 (by kernel_rfl) rfl #[.slice (some ⟨W.heap.size, 0, none⟩) 32 32, .int .u32 (c2 : Int), .slice (some ⟨W.heap.size + 1, 0, none⟩) 12 12, .slice (if cd = p then D else D.map (·.add p)) (nd - p) (cd - p)] (by rfl) rfl ?_ ?_
      · simp only [List.map_toArray, List.map_cons, List.map_nil]
        rfl
      refine (stream_any c2 hk hn ht rfl HC2.out hp (by omega)).mono ?_
      rintro e w9 ⟨v, rfl, hr, hb'⟩
      rw [streamL_of HKL.out HNL.out] at hr
      refine ⟨_, rfl, fun _ => hb', ?_⟩
      replace hk := hk.below hb'
      replace hn := hn.below hb'
      replace hd1 := hd1.below hb'
      replace hp := hp.below hb'
      replace hx := hx.below hb'
      replace hy := hy.below hb'
      replace hq := hq.below hb'
      replace hb := below_seq hb hb'
      clear hb'
      refine seq_norm (a' := ?_) ?_ ?_
      rotate_left
      · show Act.put _ (some 61) _ = _
        simp only [Act.put, List.setIfInBounds_toArray, List.set_cons_zero, List.set_cons_succ, i64_w, i32_w]
        rfl
      refine seq_pure (i := 11) (N := some 16) (v := ?_) (a' := ?_) rfl rfl (by rfl) (fun _ _ _ h => h) ?_ ?_ ?_
      rotate_left 2
      · intro w' hg
        go_simp
        with_reducible rfl
      · simp only [Act.put, List.setIfInBounds_toArray, List.set_cons_zero, List.set_cons_succ, i64_w, i32_w]
        rfl
      refine seq_done ?_
      have hrl : (stream key c2 nonce (b.drop p)).length = nd - p := by rw [stream_length, List.length_drop, hd1.2.1]
      obtain ⟨R, cr, rfl, hr'⟩ := hr.bytes (nd - p) hrl (stream_ok _ _ _ (hd1.drop p hp2).ok)
      have hcat : stream key c nonce b = stream key c nonce (b.take p) ++ stream key c2 nonce (b.drop p) := by
        have h1 := stream_append key c k nonce (b.take p) (b.drop p) (by rw [List.length_take, hd1.2.1, ← HP.out]; omega)
        rw [List.take_append_drop, e2.out] at h1
        exact h1
      rw [hcat] at hx
      generalize stream key c nonce (b.take p) = lq at hx hq
      generalize stream key c2 nonce (b.drop p) = lr at hx hr'
      have sx := hx.str (P := Tryd.prog) Tryd.underlying30 Tryd.underlying5 Tryd.underlying9
      have sy := hy.str (P := Tryd.prog) Tryd.underlying30 Tryd.underlying5 Tryd.underlying9
      have sq := hq.str (P := Tryd.prog) Tryd.underlying30 Tryd.underlying5 Tryd.underlying9
      have sr := hr'.str (P := Tryd.prog) Tryd.underlying30 Tryd.underlying5 Tryd.underlying9
      have sb := hd1.str (P := Tryd.prog) Tryd.underlying30 Tryd.underlying5 Tryd.underlying9
      have hsz : ((9223372036854775807 : Nat) < (strOf lq).size + (strOf lr).size) = False := str_small (by rw [hq.2.1, hr'.2.1]; omega)
      clear hcat hrl hr hr' hq hx hy hk hn hd1 hp e2
      generalize (if cd = p then D else Option.map (fun x => x.add p) D) = DD
      go_wp2
      go_ret
      refine ⟨?_, hb⟩
      rw [strOf_append]
      simp

end Go.Proofs.YtgmaahpnpjfghaaDoor
