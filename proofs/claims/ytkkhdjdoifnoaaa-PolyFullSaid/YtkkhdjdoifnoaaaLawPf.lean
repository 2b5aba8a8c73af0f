/- The walk through redanlaw08.PolyFull. -/
import Derived.Test.YtkkhdjdoifnoaaaLawPm
import Derived.Test.YtkkhdjdoifnoaaaNum
set_option linter.unusedVariables false
set_option linter.unusedSimpArgs false
namespace Go.Proofs.Ytkkhdjdoifnoaaa
open Go.RowKit Go.Proofs.YtkkhdjdoifnoaaaW.PrintWords Go.Proofs.YtkkhdjdoifnoaaaW.PrintLast Go.Proofs.YtkkhdjdoifnoaaaW.PrintMore

theorem nat_u8 {n : Int} (h : (Lit.int .u8 n).wf = true) : ∃ m : Nat, n = (m : Int) ∧ m < 256 := by
  simp [Lit.wf, IntKind.min, IntKind.max, IntKind.signed, IntKind.bits] at h
  exact ⟨n.toNat, by omega, by omega⟩
theorem rep_ok (n x : Nat) (h : x < 256) : BytesOK (List.replicate n x) := fun y hy => by rw [(List.mem_replicate.1 hy).2]; exact h
theorem fill_rep (n x m : Nat) (h : m < n) : (fillL (List.replicate n x) m).set m x = fillL (List.replicate n x) (m + 1) := by
  have := fillL_step (List.replicate n x) m (by rw [List.length_replicate]; exact h)
  rw [show (List.replicate n x).getD m 0 = x by rw [List.getD_eq_getElem?_getD, List.getElem?_replicate, if_pos h]; rfl] at this
  exact this
theorem fill_all (n x : Nat) : fillL (List.replicate n x) n = List.replicate n x := by
  have := fillL_all (List.replicate n x)
  rw [List.length_replicate] at this
  exact this
theorem fill_none (n x : Nat) : fillL (List.replicate n x) 0 = List.replicate n 0 := by rw [fillL_zero, List.length_replicate]
set_option maxHeartbeats 2000000 in
set_option maxRecDepth 100000 in
theorem polyFull_walk (W : World) (a0 : Int) (w0 : (Lit.int .u8 a0).wf = true) (a1 : Int) (w1 : (Lit.int .u8 a1).wf = true) (a2 : Int) (w2 : (Lit.int .i64 a2).wf = true) :
    Calls Try.prog 7 #[.int .u8 a0, .int .u8 a1, .int .i64 a2] W fun e w' => e = .returned (.bool true) ∧ Below W.heap.size W w' := by
  obtain ⟨c, rfl, hc⟩ := nat_u8 w0
  obtain ⟨k, rfl, hk⟩ := nat_u8 w1
  obtain ⟨n, m1, hn⟩ := and_mask a2 255 (by decide)
  replace m1 : bits .and .i64 a2 255 = (n : Int) := m1
  have HC := hd hc
  have HK0 := hd hk
  have hn9 : (n : Int) ≤ 255 := by omega
  clear w0 w1 w2 hc hk
  go_enter Try.func7, Try.ntmps7
  go_wp2_with (first
    | (go_at_call 8; refine (awake_calls W).mono ?_; rintro e w1 ⟨rfl, hb1⟩)
    | ((with_reducible refine gate_dst (N := 15) rfl ?_); refine op_make 15 rfl 5 22 _ _ rfl rfl 32 rfl rfl Try.underlying22 Try.infoU8 (by decide) 32 rfl (by decide) ?_; intro A4 c4 w4 hc4 ho4 hb4))
  obtain ⟨g1, rfl, hg4, _⟩ := ho4.at_ (by decide)
  have hg1 : W.heap.size ≤ g1 := Nat.le_trans hb1.size hg4
  replace ho4 := ho4.lower hb1.size
  have hb5 := below_seq hb1 hb4
  clear hb1 hb4 hg4
  go_loopw [9] (fun i wr => ∃ m : Nat, m ≤ 32 ∧ i = .int .i64 m ∧ OwnK .u8 5 W.heap.size wr (.slice (some ⟨g1, 0, none⟩) 32 c4) (fillL (List.replicate 32 k) m) ∧ Below W.heap.size W wr) (fun i _ => 32 - (intOf i).toNat)
  case atStart => exact ⟨0, by omega, rfl, by rw [fill_none]; exact ho4, hb5⟩
  case round =>
    clear ho4 hb5
    obtain ⟨m, hm, rfl, ho, hb⟩ := hrel
    by_cases hlt : m < 32
    · obtain ⟨y, HY, hcell, hfr⟩ := ho.cellx m hlt
      have i0 : (0 : Int) ≤ m := by omega
      have i1 : (m : Int) < 32 := by omega
      have hput := hd (ho.put m k)
      clear ho
      go_wp2
      go_roundw
      case rel => exact ⟨m + 1, by omega, by go_num, by rw [← fill_rep 32 k m hlt]; exact hput.out, hb.setCell hg1 _⟩
      case measure => simp [intOf]; omega
    · obtain rfl : m = 32 := by omega
      rw [fill_all] at ho
      have HKO := hd (ho.bytesOf (rep_ok 32 k HK0.out))
      have HB0 := hd hb
      clear ho hb
      obtain ⟨wo, rfl⟩ : ∃ x : World, x = wr := ⟨_, rfl⟩
      go_wp2_with ((with_reducible refine gate_dst (N := 26) rfl ?_); refine op_make 26 rfl 5 22 _ _ rfl rfl n (by first | rfl | exact congrArg _ m1) (by first | rfl | exact congrArg _ m1) Try.underlying22 Try.infoU8 (by decide) n rfl (by omega) ?_; intro A6 c6 w6 hc6 ho6 hb6)
      go_loopw [11] (fun i wi => ∃ m : Nat, m ≤ n ∧ i = .int .i64 m ∧ OwnK .u8 5 wo.heap.size wi (.slice A6 n c6) (fillL (List.replicate n c) m) ∧ Below wo.heap.size wo wi) (fun i _ => n - (intOf i).toNat)
      case atStart => exact ⟨0, by omega, rfl, by rw [fill_none]; exact ho6, hb6⟩
      case round =>
        clear ho6 hb6
        obtain ⟨m, hm, rfl, ho, hb6⟩ := hrel
        by_cases hlt2 : m < n
        · obtain ⟨g6, rfl, hg6, _⟩ := ho.at_ (by omega)
          obtain ⟨y, HY, hcell, hfr⟩ := ho.cellx m hlt2
          have i0 : (0 : Int) ≤ m := by omega
          have i1 : (m : Int) < n := by omega
          have hput := hd (ho.put m c)
          clear ho
          go_wp2
          go_roundw
          case rel => exact ⟨m + 1, by omega, by go_num, by rw [← fill_rep n c m hlt2]; exact hput.out, hb6.setCell hg6 _⟩
          case measure => simp [intOf]; omega
        · obtain rfl : m = n := by omega
          rw [fill_all] at ho
          have hk := HKO.out.below hb6
          have hn := ho.bytesOf (rep_ok m c HC.out)
          have hb := below_seq HB0.out hb6
          obtain ⟨m9, HM⟩ : ∃ m9, Aside0 ((macF (List.replicate 32 k) (List.replicate m c)).length = m9) := ⟨_, ⟨rfl⟩⟩
          clear ho hb6 HKO HB0
          go_wp2_with fail
          refine up_start [] [(0, true), (1, true), (4, true), (5, true), (2, false), (3, true), (6, false), (7, true), (8, true), (9, true)] (by kernel_rfl) rfl (by kernel_rfl) (by kernel_rfl) ?_
          replace hk := hk.drew
          replace hn := hn.drew
          replace hb := hb.drew
          generalize wr.drew = w5 at hk hn hb ⊢
          refine seq_pure (i := 0) (N := some 37) (v := ?_) (a' := ?_) rfl rfl (by rfl) (fun _ _ _ h => h) ?_ ?_ ?_
          rotate_left 2
          · intro w' hg
            go_simp
            with_reducible rfl
          · simp only [Act.put, List.setIfInBounds_toArray, List.set_cons_zero, List.set_cons_succ, i64_w, i32_w]
            rfl
          refine seq_pure (i := 1) (N := some 38) (v := ?_) (a' := ?_) rfl rfl (by rfl) (fun _ _ _ h => h) ?_ ?_ ?_
          rotate_left 2
          · intro w' hg
            go_simp
            with_reducible rfl
          · simp only [Act.put, List.setIfInBounds_toArray, List.set_cons_zero, List.set_cons_succ, i64_w, i32_w]
            rfl
          refine seq_pure (i := 4) (N := some 41) (v := ?_) (a' := ?_) rfl rfl (by rfl) (fun _ _ _ h => h) ?_ ?_ ?_
          rotate_left 2
          · intro w' hg
            go_simp
            with_reducible rfl
          · simp only [Act.put, List.setIfInBounds_toArray, List.set_cons_zero, List.set_cons_succ, i64_w, i32_w]
            rfl
          refine seq_pure (i := 5) (N := some 42) (v := ?_) (a' := ?_) rfl rfl (by rfl) (fun _ _ _ h => h) ?_ ?_ ?_
          rotate_left 2
          · intro w' hg
            go_simp
            with_reducible rfl
          · simp only [Act.put, List.setIfInBounds_toArray, List.set_cons_zero, List.set_cons_succ, i64_w, i32_w]
            rfl
          refine seq_call (i := 2) (N := some 39) rfl rfl Try.func9 (by kernel_rfl) rfl #[.slice (some ⟨g1, 0, none⟩) 32 c4, .slice A6 m c6] (by rfl) rfl ?_ ?_
          · simp only [List.map_toArray, List.map_cons, List.map_nil]
            rfl
          refine (mac_any hk hn (by omega)).mono ?_
          rintro e w6 ⟨v, rfl, ho, hb6⟩
          obtain ⟨A3, c3, rfl, h3⟩ := ho.bytes _ HM.out (macF_ok _ _)
          have q3 := h3.strs (P := Try.prog) Try.underlying22 Try.underlying5 Try.underlying9
          replace hk := hk.below hb6
          replace hn := hn.below hb6
          replace hb := below_seq hb hb6
          refine ⟨_, rfl, fun _ => hb6, ?_⟩
          clear ho
          refine seq_norm (a' := ?_) ?_ ?_
          rotate_left
          · show Act.put _ (some 39) _ = _
            simp only [Act.put, List.setIfInBounds_toArray, List.set_cons_zero, List.set_cons_succ, i64_w, i32_w]
            rfl
          refine seq_pure (i := 3) (N := some 40) (v := ?_) (a' := ?_) rfl rfl (by rfl) (fun _ _ _ h => h) ?_ ?_ ?_
          rotate_left 2
          · intro w' hg
            go_simp
            with_reducible rfl
          · simp only [Act.put, List.setIfInBounds_toArray, List.set_cons_zero, List.set_cons_succ, i64_w, i32_w]
            rfl
          clear q3
          refine seq_call (i := 6) (N := some 43) rfl rfl Try.func10 (by kernel_rfl) rfl #[.slice (some ⟨g1, 0, none⟩) 32 c4, .slice A6 m c6] (by rfl) rfl ?_ ?_
          · simp only [List.map_toArray, List.map_cons, List.map_nil]
            rfl
          refine (refmac_any hk hn (by omega)).mono ?_
          rintro e w7 ⟨v, rfl, ho, hb7⟩
          obtain ⟨A4, c4, rfl, h4⟩ := ho.bytes _ HM.out (macF_ok _ _)
          have q4 := h4.strs (P := Try.prog) Try.underlying22 Try.underlying5 Try.underlying9
          replace hb := below_seq hb hb7
          refine ⟨_, rfl, fun _ => hb7, ?_⟩
          clear ho
          refine seq_norm (a' := ?_) ?_ ?_
          rotate_left
          · show Act.put _ (some 43) _ = _
            simp only [Act.put, List.setIfInBounds_toArray, List.set_cons_zero, List.set_cons_succ, i64_w, i32_w]
            rfl
          refine seq_pure (i := 7) (N := some 44) (v := ?_) (a' := ?_) rfl rfl (by rfl) (fun _ _ _ h => h) ?_ ?_ ?_
          rotate_left 2
          · intro w' hg
            go_simp
            with_reducible rfl
          · simp only [Act.put, List.setIfInBounds_toArray, List.set_cons_zero, List.set_cons_succ, i64_w, i32_w]
            rfl
          clear q4
          refine seq_pure (i := 8) (N := some 45) (v := ?_) (a' := ?_) rfl rfl (by rfl) (fun _ _ _ h => h) ?_ ?_ ?_
          rotate_left 2
          · intro w' hg
            go_simp
            with_reducible rfl
          · simp only [Act.put, List.setIfInBounds_toArray, List.set_cons_zero, List.set_cons_succ, i64_w, i32_w]
            rfl
          refine seq_pure (i := 9) (N := some 6) (v := ?_) (a' := ?_) rfl rfl (by rfl) (fun _ _ _ h => h) ?_ ?_ ?_
          rotate_left 2
          · intro w' hg
            go_simp
            with_reducible rfl
          · simp only [Act.put, List.setIfInBounds_toArray, List.set_cons_zero, List.set_cons_succ, i64_w, i32_w]
            rfl
          refine seq_done ?_
          go_wp2
          go_ret
          exact ⟨by simp, hb⟩

end Go.Proofs.Ytkkhdjdoifnoaaa
