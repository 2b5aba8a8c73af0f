/- The walk through redanref07.Stream. -/
import Derived.Test.YtlgdplodglchaaaDoorChaRef
import Derived.Test.YtlgdplodglchaaaDoorGPlain
import Derived.Test.YtlgdplodglchaaaDoorGLib
set_option linter.unusedVariables false
set_option linter.unusedSimpArgs false
namespace Go.Proofs.YtlgdplodglchaaaDoor
open Go.RowKit Go.Proofs.YtlgdplodglchaaaDoorW.PrintWords Go.Proofs.YtlgdplodglchaaaDoorW.PrintLast Go.Proofs.YtlgdplodglchaaaDoorW.PrintMore

theorem stream_snoc (key : List Nat) (c : Nat) (nonce b : List Nat) (m : Nat) (hm : m < b.length) : stream key c nonce (b.take (m + 1)) = stream key c nonce (b.take m) ++ [b.getD m 0 ^^^ (blockN key ((c + m / 64) % 2 ^ 32) nonce).getD (m % 64) 0] := by
  rw [take_snoc b m 0 hm]
  unfold stream
  rw [List.mapIdx_append, List.length_take, Nat.min_eq_left (Nat.le_of_lt hm)]
  simp
set_option maxHeartbeats 4000000 in
set_option maxRecDepth 100000 in
theorem refstream_calls {A B D : Option Addr} {ca cb nd cd : Nat} {key nonce b : List Nat} {ci : Int} (c : Nat) {w : World} (hk : Bytes w A 32 ca key) (hn : Bytes w B 12 cb nonce) (hbb : Bytes w D nd cd b) (hci : ci = (c : Int)) (hc : c < 2 ^ 32) (hfit : nd ≤ 1000000000) :
    Calls Tryd.prog 89 #[.slice A 32 ca, .int .u64 ci, .slice B 12 cb, .slice D nd cd] w fun e w' => ∃ v, e = .returned v ∧ OwnK .u8 5 w.heap.size w' v (stream key c nonce b) ∧ Below w.heap.size w w' := by
  subst hci
  have hbl := hbb.2.1
  go_enter Tryd.func89, Tryd.ntmps89
  go_wp2_with fail
  go_loopw [9, 10, 11] (fun v bl i wl => ∃ m : Nat, m ≤ nd ∧ i = .int .i64 m ∧ ∃ gl, OwnX (fun g => g ≠ gl) .u8 5 w.heap.size wl v (stream key c nonce (b.take m)) ∧ (m = 0 ∨ ∃ cl, bl = .slice (some ⟨gl, 0, none⟩) 64 cl ∧ OwnK .u8 5 w.heap.size wl (.slice (some ⟨gl, 0, none⟩) 64 cl) (blockN key ((c + (m - 1) / 64) % 2 ^ 32) nonce)) ∧ Below w.heap.size w wl) (fun _ _ i _ => nd - (intOf i).toNat)
  case atStart => exact ⟨0, Nat.zero_le _, rfl, 0, OwnX.nil _ _ _ _ _, Or.inl rfl, Below.refl _ _⟩
  case round =>
    rename World => wl
    obtain ⟨m, hm, rfl, gl, hx, hl, hb⟩ := hrel
    by_cases hlt : m < nd
    · obtain ⟨q, hq⟩ : ∃ q, q = m % 64 := ⟨_, rfl⟩
      obtain ⟨d, hd2⟩ : ∃ d, d = m / 64 := ⟨_, rfl⟩
      have fq : (m : Int) % 64 = (q : Int) := by omega
      have fd : (m : Int) / 64 = (d : Int) := by omega
      have ft : (m : Int).tmod 64 = (q : Int) := by rw [Int.tmod_eq_emod_of_nonneg (by omega)]; omega
      have ftd : (m : Int).tdiv 64 = (d : Int) := by rw [Int.tdiv_eq_ediv_of_nonneg (by omega)]; omega
      have hq64 : q < 64 := by omega
      have i0 : (0 : Int) ≤ m := by omega
      have i1 : (m : Int) < nd := by omega
      have j1 : (q : Int) < 64 := by omega
      have j0 : (0 : Int) ≤ q := by omega
      obtain ⟨cd2, HCD⟩ : ∃ x, Aside0 ((c + d) % 2 ^ 32 = x) := ⟨_, ⟨rfl⟩⟩
      have HQ := hd hq
      have HD := hd hd2
      clear hq hd2
      by_cases hq0 : q = 0
      · have hk2 := hk.below hb
        have hn2 := hn.below hb
        subst hq0
        have fq0 : (m : Int) % 64 = 0 := by omega
        have ft0 : (m : Int).tmod 64 = 0 := ft
        clear fq ft
        obtain ⟨e, he⟩ : ∃ e, e = c + d := ⟨_, rfl⟩
        have fe : (c : Int) + (d : Int) = (e : Int) := by omega
        have le : e < 2 ^ 64 := by omega
        have HE := hd le
        have HE2 := hd he
        clear hl le he
        go_wp2_with fail
        refine (refblock_calls e hk2 hn2 rfl HE.out).mono ?_
        rintro x w6 ⟨v6, rfl, hv6, hg6⟩
        rw [show e % 2 ^ 32 = cd2 by rw [HE2.out, HCD.out]] at hv6
        obtain ⟨gl2, cl, rfl, hgl, hgl2, hcl⟩ := hv6.form (by rw [blockN_length]; decide)
        rw [blockN_length] at hv6 ⊢
        have hl := hv6.lower (base' := w.heap.size) hb.size
        replace hx := (hx.mono (ok' := fun g => g ≠ gl2) (fun g hg _ => by omega)).below hg6
        replace hb := below_seq hb hg6
        clear hv6 hgl hcl hg6 gl hk2 hn2
        obtain ⟨gl, rfl⟩ : ∃ x, x = gl2 := ⟨_, rfl⟩
        obtain ⟨wl, rfl⟩ : ∃ x, x = w6 := ⟨_, rfl⟩
        go_wp2
        refine up_start [12] [(0, true), (1, true), (2, true), (3, true), (4, true), (5, true), (6, true), (7, true), (8, true), (9, true), (10, true), (11, false), (12, false), (13, true)] (by kernel_rfl) rfl (by kernel_rfl) (by kernel_rfl) ?_
        have hod := hx.below (below_drew (Below.refl _ _))
        have hbd := hb.drew
        have hld := hl.below (below_drew (Below.refl _ _))
        generalize wl.drew = w5 at hod hbd hld ⊢
        obtain ⟨x, HX, hx0, fx⟩ := hld.cellx 0 hq64
        have hbb5 := hbb.below hbd
        obtain ⟨ad, y, hD, HY, hy0⟩ := hbb5.1.at_ m (by omega)
        subst hD
        have gx := Grow.cells hx0
        have gy := Grow.cells hy0
        have lx : x < 256 := by rw [← HX.out]; exact (blockN_ok _ _ _).getD _
        have ly : y < 256 := by rw [← HY.out]; exact hbb.ok.getD _
        have fxor := (bits_u (k := .u8) rfl y x ly lx).2.2
        obtain ⟨z, HZ⟩ : ∃ z, Aside0 (y ^^^ x = z) := ⟨_, ⟨rfl⟩⟩
        rw [HZ.out] at fxor
        have hglt := hld.lt gl rfl
        clear hx0 hy0 fx lx ly hb hx hl
        refine seq_pure (i := 0) (N := some 37) (v := ?_) (a' := ?_) rfl rfl (by rfl) (fun _ _ _ h => h) ?_ ?_ ?_
        rotate_left 2
        · intro w' hg
          go_simp
          with_reducible rfl
        · simp only [Act.put, List.setIfInBounds_toArray, List.set_cons_zero, List.set_cons_succ, i64_w, i32_w]
          rfl
        refine seq_pure (i := 1) (N := some 38) (v := ?_) (a' := ?_) rfl rfl (by rfl) (fun _ _ _ h => h) ?_ ?_ ?_
        rotate_left 2
        · intro w' hg
          go_simp
          with_reducible rfl
        · simp only [Act.put, List.setIfInBounds_toArray, List.set_cons_zero, List.set_cons_succ, i64_w, i32_w]
          rfl
        refine seq_pure (i := 2) (N := some 39) (v := ?_) (a' := ?_) rfl rfl (by rfl) (fun _ _ _ h => h) ?_ ?_ ?_
        rotate_left 2
        · intro w' hg
          go_simp
          with_reducible rfl
        · simp only [Act.put, List.setIfInBounds_toArray, List.set_cons_zero, List.set_cons_succ, i64_w, i32_w]
          rfl
        refine seq_pure (i := 3) (N := some 40) (v := ?_) (a' := ?_) rfl rfl (by rfl) (fun _ _ _ h => h) ?_ ?_ ?_
        rotate_left 2
        · intro w' hg
          go_simp
          with_reducible rfl
        · simp only [Act.put, List.setIfInBounds_toArray, List.set_cons_zero, List.set_cons_succ, i64_w, i32_w]
          rfl
        refine seq_pure (i := 4) (N := some 41) (v := ?_) (a' := ?_) rfl rfl (by rfl) (fun _ _ _ h => h) ?_ ?_ ?_
        rotate_left 2
        · intro w' hg
          go_simp
          with_reducible rfl
        · simp only [Act.put, List.setIfInBounds_toArray, List.set_cons_zero, List.set_cons_succ, i64_w, i32_w]
          rfl
        refine seq_pure (i := 5) (N := some 42) (v := ?_) (a' := ?_) rfl rfl (by rfl) (fun _ _ _ h => h) ?_ ?_ ?_
        rotate_left 2
        · intro w' hg
          go_simp
          with_reducible rfl
        · simp only [Act.put, List.setIfInBounds_toArray, List.set_cons_zero, List.set_cons_succ, i64_w, i32_w]
          rfl
        refine seq_pure (i := 6) (N := some 43) (v := ?_) (a' := ?_) rfl rfl (by rfl) (fun _ _ _ h => h) ?_ ?_ ?_
        rotate_left 2
        · intro w' hg
          go_simp
          with_reducible rfl
        · simp only [Act.put, List.setIfInBounds_toArray, List.set_cons_zero, List.set_cons_succ, i64_w, i32_w]
          rfl
        refine seq_pure (i := 7) (N := some 44) (v := ?_) (a' := ?_) rfl rfl (by rfl) (fun _ _ _ h => h) ?_ ?_ ?_
        rotate_left 2
        · intro w' hg
          go_simp
          with_reducible rfl
        · simp only [Act.put, List.setIfInBounds_toArray, List.set_cons_zero, List.set_cons_succ, i64_w, i32_w]
          rfl
        refine seq_pure (i := 8) (N := some 45) (v := ?_) (a' := ?_) rfl rfl (by rfl) (fun _ _ _ h => h) ?_ ?_ ?_
        rotate_left 2
        · intro w' hg
          go_simp
          with_reducible rfl
        · simp only [Act.put, List.setIfInBounds_toArray, List.set_cons_zero, List.set_cons_succ, i64_w, i32_w]
          rfl
        refine seq_pure (i := 9) (N := some 46) (v := ?_) (a' := ?_) rfl rfl (by rfl) (fun _ _ _ h => h) ?_ ?_ ?_
        rotate_left 2
        · intro w' hg
          go_simp
          with_reducible rfl
        · simp only [Act.put, List.setIfInBounds_toArray, List.set_cons_zero, List.set_cons_succ, i64_w, i32_w]
          rfl
        refine seq_pure (i := 10) (N := some 47) (v := ?_) (a' := ?_) rfl rfl (by rfl) (fun _ _ _ h => h) ?_ ?_ ?_
        rotate_left 2
        · intro w' hg
          go_simp
          with_reducible rfl
        · simp only [Act.put, List.setIfInBounds_toArray, List.set_cons_zero, List.set_cons_succ, i64_w, i32_w]
          rfl
        refine seq_value (i := 11) (N := some 48) (v := .slice (some ⟨w5.heap.size, 0, none⟩) 1 1) (a' := ?_) (w1 := w5.alloc (.cells #[.int .u8 (z : Int)] 5)) rfl rfl (by rfl) ?_ ?_ ?_ ?_
        rotate_left
        · go_simp
        · exact fun _ => below_alloc (Below.refl _ _) _
        · simp only [Act.put, List.setIfInBounds_toArray, List.set_cons_zero, List.set_cons_succ, i64_w, i32_w]
          rfl
        refine seq_step rfl (fun K hK => ?_)
        refine opx_append1_step (ok := fun g => g ≠ gl) (k := .u8) (w0 := w) 49 (by rfl) w.heap.size 5 40 _ _ (by rfl) (by rfl) Tryd.underlying40 Tryd.infoU8 (by decide) u9 (stream key c nonce (b.take m)) z w5.heap.size (by rfl) (by rfl) (hod.below (below_alloc (Below.refl _ _) _)) (fun g hg => by simp at hg; omega) (by simp) (hbd.trans (below_alloc (Below.refl _ _) _ |>.mono hbd.size)) (by simp; exact Nat.le_succ_of_le hbd.size) (by rw [stream_length, List.length_take]; omega) ?_
        intro v1 w7 ho7 hb7 hg7
        refine hK _ _ (fun h => absurd (by decide) h) ?_
        clear hK K
        refine seq_norm (a' := ?_) ?_ ?_
        rotate_left
        · show Act.put _ (some 49) _ = _
          simp only [Act.put, List.setIfInBounds_toArray, List.set_cons_zero, List.set_cons_succ, i64_w, i32_w]
          rfl
        refine seq_pure (i := 13) (N := some 9) (v := ?_) (a' := ?_) rfl rfl (by rfl) (fun _ _ _ h => h) ?_ ?_ ?_
        rotate_left 2
        · intro w' hg
          go_simp
          with_reducible rfl
        · simp only [Act.put, List.setIfInBounds_toArray, List.set_cons_zero, List.set_cons_succ, i64_w, i32_w]
          rfl
        refine seq_done ?_
        go_wp2
        go_roundw
        case rel =>
          refine ⟨m + 1, by omega, by go_num, gl, ?_, Or.inr ⟨cl, rfl, ?_⟩, hb7⟩
          · rw [show stream key c nonce (b.take (m + 1)) = stream key c nonce (b.take m) ++ [z] by rw [stream_snoc key c nonce b m (by omega), HY.out, show m % 64 = _ from HQ.out.symm, show m / 64 = d from HD.out.symm, HCD.out, HX.out, HZ.out]]
            exact ho7
          · rw [show (m + 1 - 1) / 64 = d from HD.out.symm, HCD.out]
            exact ((hld.below (below_alloc (Below.refl _ _) _)).only.grown hg7 (fun g hg he => hod.blk g hg he)).own
        case measure => simp [intOf]; omega
      · have hq0i : ((q : Int) = 0) = False := by simp; omega
        have hl' := hl.resolve_left (by have := HQ.out; omega)
        clear hl
        obtain ⟨cl, rfl, hl⟩ := hl'
        rw [show (m - 1) / 64 = d by have := HQ.out; have := HD.out; omega, HCD.out] at hl
        go_wp2
        refine up_start [12] [(0, true), (1, true), (2, true), (3, true), (4, true), (5, true), (6, true), (7, true), (8, true), (9, true), (10, true), (11, false), (12, false), (13, true)] (by kernel_rfl) rfl (by kernel_rfl) (by kernel_rfl) ?_
        have hod := hx.below (below_drew (Below.refl _ _))
        have hbd := hb.drew
        have hld := hl.below (below_drew (Below.refl _ _))
        generalize wl.drew = w5 at hod hbd hld ⊢
        obtain ⟨x, HX, hx0, fx⟩ := hld.cellx q hq64
        have hbb5 := hbb.below hbd
        obtain ⟨ad, y, hD, HY, hy0⟩ := hbb5.1.at_ m (by omega)
        subst hD
        have gx := Grow.cells hx0
        have gy := Grow.cells hy0
        have lx : x < 256 := by rw [← HX.out]; exact (blockN_ok _ _ _).getD _
        have ly : y < 256 := by rw [← HY.out]; exact hbb.ok.getD _
        have fxor := (bits_u (k := .u8) rfl y x ly lx).2.2
        obtain ⟨z, HZ⟩ : ∃ z, Aside0 (y ^^^ x = z) := ⟨_, ⟨rfl⟩⟩
        rw [HZ.out] at fxor
        have hglt := hld.lt gl rfl
        clear hx0 hy0 fx lx ly hb hx hl
        refine seq_pure (i := 0) (N := some 37) (v := ?_) (a' := ?_) rfl rfl (by rfl) (fun _ _ _ h => h) ?_ ?_ ?_
        rotate_left 2
        · intro w' hg
          go_simp
          with_reducible rfl
        · simp only [Act.put, List.setIfInBounds_toArray, List.set_cons_zero, List.set_cons_succ, i64_w, i32_w]
          rfl
        refine seq_pure (i := 1) (N := some 38) (v := ?_) (a' := ?_) rfl rfl (by rfl) (fun _ _ _ h => h) ?_ ?_ ?_
        rotate_left 2
        · intro w' hg
          go_simp
          with_reducible rfl
        · simp only [Act.put, List.setIfInBounds_toArray, List.set_cons_zero, List.set_cons_succ, i64_w, i32_w]
          rfl
        refine seq_pure (i := 2) (N := some 39) (v := ?_) (a' := ?_) rfl rfl (by rfl) (fun _ _ _ h => h) ?_ ?_ ?_
        rotate_left 2
        · intro w' hg
          go_simp
          with_reducible rfl
        · simp only [Act.put, List.setIfInBounds_toArray, List.set_cons_zero, List.set_cons_succ, i64_w, i32_w]
          rfl
        refine seq_pure (i := 3) (N := some 40) (v := ?_) (a' := ?_) rfl rfl (by rfl) (fun _ _ _ h => h) ?_ ?_ ?_
        rotate_left 2
        · intro w' hg
          go_simp
          with_reducible rfl
        · simp only [Act.put, List.setIfInBounds_toArray, List.set_cons_zero, List.set_cons_succ, i64_w, i32_w]
          rfl
        refine seq_pure (i := 4) (N := some 41) (v := ?_) (a' := ?_) rfl rfl (by rfl) (fun _ _ _ h => h) ?_ ?_ ?_
        rotate_left 2
        · intro w' hg
          go_simp
          with_reducible rfl
        · simp only [Act.put, List.setIfInBounds_toArray, List.set_cons_zero, List.set_cons_succ, i64_w, i32_w]
          rfl
        refine seq_pure (i := 5) (N := some 42) (v := ?_) (a' := ?_) rfl rfl (by rfl) (fun _ _ _ h => h) ?_ ?_ ?_
        rotate_left 2
        · intro w' hg
          go_simp
          with_reducible rfl
        · simp only [Act.put, List.setIfInBounds_toArray, List.set_cons_zero, List.set_cons_succ, i64_w, i32_w]
          rfl
        refine seq_pure (i := 6) (N := some 43) (v := ?_) (a' := ?_) rfl rfl (by rfl) (fun _ _ _ h => h) ?_ ?_ ?_
        rotate_left 2
        · intro w' hg
          go_simp
          with_reducible rfl
        · simp only [Act.put, List.setIfInBounds_toArray, List.set_cons_zero, List.set_cons_succ, i64_w, i32_w]
          rfl
        refine seq_pure (i := 7) (N := some 44) (v := ?_) (a' := ?_) rfl rfl (by rfl) (fun _ _ _ h => h) ?_ ?_ ?_
        rotate_left 2
        · intro w' hg
          go_simp
          with_reducible rfl
        · simp only [Act.put, List.setIfInBounds_toArray, List.set_cons_zero, List.set_cons_succ, i64_w, i32_w]
          rfl
        refine seq_pure (i := 8) (N := some 45) (v := ?_) (a' := ?_) rfl rfl (by rfl) (fun _ _ _ h => h) ?_ ?_ ?_
        rotate_left 2
        · intro w' hg
          go_simp
          with_reducible rfl
        · simp only [Act.put, List.setIfInBounds_toArray, List.set_cons_zero, List.set_cons_succ, i64_w, i32_w]
          rfl
        refine seq_pure (i := 9) (N := some 46) (v := ?_) (a' := ?_) rfl rfl (by rfl) (fun _ _ _ h => h) ?_ ?_ ?_
        rotate_left 2
        · intro w' hg
          go_simp
          with_reducible rfl
        · simp only [Act.put, List.setIfInBounds_toArray, List.set_cons_zero, List.set_cons_succ, i64_w, i32_w]
          rfl
        refine seq_pure (i := 10) (N := some 47) (v := ?_) (a' := ?_) rfl rfl (by rfl) (fun _ _ _ h => h) ?_ ?_ ?_
        rotate_left 2
        · intro w' hg
          go_simp
          with_reducible rfl
        · simp only [Act.put, List.setIfInBounds_toArray, List.set_cons_zero, List.set_cons_succ, i64_w, i32_w]
          rfl
        refine seq_value (i := 11) (N := some 48) (v := .slice (some ⟨w5.heap.size, 0, none⟩) 1 1) (a' := ?_) (w1 := w5.alloc (.cells #[.int .u8 (z : Int)] 5)) rfl rfl (by rfl) ?_ ?_ ?_ ?_
        rotate_left
        · go_simp
        · exact fun _ => below_alloc (Below.refl _ _) _
        · simp only [Act.put, List.setIfInBounds_toArray, List.set_cons_zero, List.set_cons_succ, i64_w, i32_w]
          rfl
        refine seq_step rfl (fun K hK => ?_)
        refine opx_append1_step (ok := fun g => g ≠ gl) (k := .u8) (w0 := w) 49 (by rfl) w.heap.size 5 40 _ _ (by rfl) (by rfl) Tryd.underlying40 Tryd.infoU8 (by decide) u9 (stream key c nonce (b.take m)) z w5.heap.size (by rfl) (by rfl) (hod.below (below_alloc (Below.refl _ _) _)) (fun g hg => by simp at hg; omega) (by simp) (hbd.trans (below_alloc (Below.refl _ _) _ |>.mono hbd.size)) (by simp; exact Nat.le_succ_of_le hbd.size) (by rw [stream_length, List.length_take]; omega) ?_
        intro v1 w7 ho7 hb7 hg7
        refine hK _ _ (fun h => absurd (by decide) h) ?_
        clear hK K
        refine seq_norm (a' := ?_) ?_ ?_
        rotate_left
        · show Act.put _ (some 49) _ = _
          simp only [Act.put, List.setIfInBounds_toArray, List.set_cons_zero, List.set_cons_succ, i64_w, i32_w]
          rfl
        refine seq_pure (i := 13) (N := some 9) (v := ?_) (a' := ?_) rfl rfl (by rfl) (fun _ _ _ h => h) ?_ ?_ ?_
        rotate_left 2
        · intro w' hg
          go_simp
          with_reducible rfl
        · simp only [Act.put, List.setIfInBounds_toArray, List.set_cons_zero, List.set_cons_succ, i64_w, i32_w]
          rfl
        refine seq_done ?_
        go_wp2
        go_roundw
        case rel =>
          refine ⟨m + 1, by omega, by go_num, gl, ?_, Or.inr ⟨cl, rfl, ?_⟩, hb7⟩
          · rw [show stream key c nonce (b.take (m + 1)) = stream key c nonce (b.take m) ++ [z] by rw [stream_snoc key c nonce b m (by omega), HY.out, show m % 64 = _ from HQ.out.symm, show m / 64 = d from HD.out.symm, HCD.out, HX.out, HZ.out]]
            exact ho7
          · rw [show (m + 1 - 1) / 64 = d from HD.out.symm, HCD.out]
            exact ((hld.below (below_alloc (Below.refl _ _) _)).only.grown hg7 (fun g hg he => hod.blk g hg he)).own
        case measure => simp [intOf]; omega
    · obtain rfl : m = nd := by omega
      go_wp2
      go_ret
      rw [List.take_of_length_le (by omega)] at hx
      exact ⟨_, rfl, hx.own, hb⟩

end Go.Proofs.YtlgdplodglchaaaDoor
