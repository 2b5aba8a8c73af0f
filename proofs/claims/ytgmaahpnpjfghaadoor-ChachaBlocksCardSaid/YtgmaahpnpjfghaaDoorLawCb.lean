/- The walk through redanlaw07.ChachaBlocks. -/
import Derived.Test.YtgmaahpnpjfghaaDoorAwake07
import Derived.Test.YtgmaahpnpjfghaaDoorChaAny
import Derived.Test.YtgmaahpnpjfghaaDoorLawCq
set_option linter.unusedVariables false
set_option linter.unusedSimpArgs false
namespace Go.Proofs.YtgmaahpnpjfghaaDoor
open Go.RowKit Go.Proofs.YtgmaahpnpjfghaaDoorW.PrintWords Go.Proofs.YtgmaahpnpjfghaaDoorW.PrintLast Go.Proofs.YtgmaahpnpjfghaaDoorW.PrintMore

set_option maxHeartbeats 1000000 in
set_option maxRecDepth 100000 in
theorem chachaBlocks_walk (W : World) (hpl : PlacesAt W) {A : Option Addr} {na ca : Nat} {key : List Nat} (hk : Bytes W A na ca key) (hfa : na ≤ 140737488351232) (a1 : Int) (w1 : (Lit.int .u32 a1).wf = true) {B : Option Addr} {nb cb : Nat} {nonce : List Nat} (hn : Bytes W B nb cb nonce) (hfb : nb ≤ 140737488351232) :
    Calls Tryd.prog 4 #[.slice A na ca, .int .u32 a1, .slice B nb cb] W fun e w' => e = .returned (.bool true) ∧ Below W.heap.size W w' := by
  obtain ⟨c, rfl, hc⟩ := nat_u32 w1
  have cw : IntKind.u64.wrap (c : Int) = (c : Int) := (wrapM_u (k := .u64) rfl c).trans (congrArg Nat.cast (Nat.mod_eq_of_lt (Nat.lt_trans hc (by decide))))
  have HC := hd hc
  obtain ⟨m, HM⟩ : ∃ m, Aside0 ((blockL key c nonce).length = m) := ⟨_, ⟨rfl⟩⟩
  clear hfa w1 hfb hc
  go_enter Tryd.func4, Tryd.ntmps4
  go_wp2_with fail
  refine (awake_calls hpl).mono ?_
  rintro e w1 ⟨rfl, hb1⟩
  go_wp2_with fail
  refine up_start [] [(0, true), (1, true), (2, true), (3, true), (4, true), (7, true), (8, true), (9, true), (10, true), (5, false), (6, true), (11, false), (12, true), (13, true), (14, true), (15, true)] (by kernel_rfl) rfl (by kernel_rfl) (by kernel_rfl) ?_
  have hk1 := hk.below hb1.drew
  have hn1 := hn.below hb1.drew
  have hb2 := hb1.drew
  have hp2 := hpl.below hb2
  generalize w1.drew = w2 at hk1 hn1 hb2 hp2 ⊢
  clear hb1 hk hn hpl
  refine seq_pure (i := 0) (N := some 9) (v := ?_) (a' := ?_) rfl rfl (by rfl) (fun _ _ _ h => h) ?_ ?_ ?_
  rotate_left 2
  · intro w' hg
    go_simp
    with_reducible rfl
  · simp only [Act.put, List.setIfInBounds_toArray, List.set_cons_zero, List.set_cons_succ, i64_w, i32_w]
    rfl
  refine seq_pure (i := 1) (N := some 10) (v := ?_) (a' := ?_) rfl rfl (by rfl) (fun _ _ _ h => h) ?_ ?_ ?_
  rotate_left 2
  · intro w' hg
    go_simp
    with_reducible rfl
  · simp only [Act.put, List.setIfInBounds_toArray, List.set_cons_zero, List.set_cons_succ, i64_w, i32_w]
    rfl
  refine seq_pure (i := 2) (N := some 11) (v := ?_) (a' := ?_) rfl rfl (by rfl) (fun _ _ _ h => h) ?_ ?_ ?_
  rotate_left 2
  · intro w' hg
    go_simp
    with_reducible rfl
  · simp only [Act.put, List.setIfInBounds_toArray, List.set_cons_zero, List.set_cons_succ, i64_w, i32_w]
    rfl
  refine seq_pure (i := 3) (N := some 12) (v := ?_) (a' := ?_) rfl rfl (by rfl) (fun _ _ _ h => h) ?_ ?_ ?_
  rotate_left 2
  · intro w' hg
    go_simp
    with_reducible rfl
  · simp only [Act.put, List.setIfInBounds_toArray, List.set_cons_zero, List.set_cons_succ, i64_w, i32_w]
    rfl
  refine seq_pure (i := 4) (N := some 13) (v := ?_) (a' := ?_) rfl rfl (by rfl) (fun _ _ _ h => h) ?_ ?_ ?_
  rotate_left 2
  · intro w' hg
    go_simp
    with_reducible rfl
  · simp only [Act.put, List.setIfInBounds_toArray, List.set_cons_zero, List.set_cons_succ, i64_w, i32_w]
    rfl
  refine seq_pure (i := 7) (N := some 16) (v := ?_) (a' := ?_) rfl rfl (by rfl) (fun _ _ _ h => h) ?_ ?_ ?_
  rotate_left 2
  · intro w' hg
    go_simp
    with_reducible rfl
  · simp only [Act.put, List.setIfInBounds_toArray, List.set_cons_zero, List.set_cons_succ, i64_w, i32_w]
    rfl
  refine seq_pure (i := 8) (N := some 17) (v := ?_) (a' := ?_) rfl rfl (by rfl) (fun _ _ _ h => h) ?_ ?_ ?_
  rotate_left 2
  · intro w' hg
    go_simp
    with_reducible rfl
  · simp only [Act.put, List.setIfInBounds_toArray, List.set_cons_zero, List.set_cons_succ, i64_w, i32_w]
    rfl
  refine seq_pure (i := 9) (N := some 18) (v := ?_) (a' := ?_) rfl rfl (by rfl) (fun _ _ _ h => h) ?_ ?_ ?_
  rotate_left 2
  · intro w' hg
    go_simp
    with_reducible rfl
  · simp only [Act.put, List.setIfInBounds_toArray, List.set_cons_zero, List.set_cons_succ, i64_w, i32_w]
    rfl
  refine seq_pure (i := 10) (N := some 19) (v := ?_) (a' := ?_) rfl rfl (by rfl) (fun _ _ _ h => h) ?_ ?_ ?_
  rotate_left 2
  · intro w' hg
    go_simp
    with_reducible rfl
  · simp only [Act.put, List.setIfInBounds_toArray, List.set_cons_zero, List.set_cons_succ, i64_w, i32_w]
    rfl
  refine seq_call (i := 5) (N := some 14) rfl rfl Tryd.func11 (by kernel_rfl) rfl #[.slice A na ca, .int .u32 (c : Int), .slice B nb cb] (by rfl) rfl ?_ ?_
  · simp only [List.map_toArray, List.map_cons, List.map_nil]
    rfl
  refine (block_any c hk1 hn1 rfl HC.out hp2).mono ?_
  rintro e w3 ⟨v, rfl, ho, hb⟩
  obtain ⟨A3, c3, rfl, h3⟩ := ho.bytes _ HM.out (blockL_ok _ _ _)
  have q3 := h3.strs (P := Tryd.prog) Tryd.underlying30 Tryd.underlying5 Tryd.underlying9
  have hk3 := hk1.below hb
  have hn3 := hn1.below hb
  have hb3 := below_seq hb2 hb
  refine ⟨_, rfl, fun _ => hb, ?_⟩
  clear ho hk1 hn1 hb2 hp2
  refine seq_norm (a' := ?_) ?_ ?_
  rotate_left
  · show Act.put _ (some 14) _ = _
    simp only [Act.put, List.setIfInBounds_toArray, List.set_cons_zero, List.set_cons_succ, i64_w, i32_w]
    rfl
  refine seq_pure (i := 6) (N := some 15) (v := ?_) (a' := ?_) rfl rfl (by rfl) (fun _ _ _ h => h) ?_ ?_ ?_
  rotate_left 2
  · intro w' hg
    go_simp
    with_reducible rfl
  · simp only [Act.put, List.setIfInBounds_toArray, List.set_cons_zero, List.set_cons_succ, i64_w, i32_w]
    rfl
  clear q3
  refine seq_call (i := 11) (N := some 20) rfl rfl Tryd.func12 (by kernel_rfl) rfl #[.slice A na ca, .int .u64 (c : Int), .slice B nb cb] (by rfl) rfl ?_ ?_
  · simp only [List.map_toArray, List.map_cons, List.map_nil]
    rfl
  refine (refblock_any c hk3 hn3 rfl HC.out).mono ?_
  rintro e w4 ⟨v, rfl, ho, hb4⟩
  obtain ⟨A4, c4, rfl, h4⟩ := ho.bytes _ HM.out (blockL_ok _ _ _)
  have q4 := h4.strs (P := Tryd.prog) Tryd.underlying30 Tryd.underlying5 Tryd.underlying9
  refine ⟨_, rfl, fun _ => hb4, ?_⟩
  clear ho
  refine seq_norm (a' := ?_) ?_ ?_
  rotate_left
  · show Act.put _ (some 20) _ = _
    simp only [Act.put, List.setIfInBounds_toArray, List.set_cons_zero, List.set_cons_succ, i64_w, i32_w]
    rfl
  refine seq_pure (i := 12) (N := some 21) (v := ?_) (a' := ?_) rfl rfl (by rfl) (fun _ _ _ h => h) ?_ ?_ ?_
  rotate_left 2
  · intro w' hg
    go_simp
    with_reducible rfl
  · simp only [Act.put, List.setIfInBounds_toArray, List.set_cons_zero, List.set_cons_succ, i64_w, i32_w]
    rfl
  clear q4
  refine seq_pure (i := 13) (N := some 22) (v := ?_) (a' := ?_) rfl rfl (by rfl) (fun _ _ _ h => h) ?_ ?_ ?_
  rotate_left 2
  · intro w' hg
    go_simp
    with_reducible rfl
  · simp only [Act.put, List.setIfInBounds_toArray, List.set_cons_zero, List.set_cons_succ, i64_w, i32_w]
    rfl
  refine seq_pure (i := 14) (N := some 23) (v := ?_) (a' := ?_) rfl rfl (by rfl) (fun _ _ _ h => h) ?_ ?_ ?_
  rotate_left 2
  · intro w' hg
    go_simp
    with_reducible rfl
  · simp only [Act.put, List.setIfInBounds_toArray, List.set_cons_zero, List.set_cons_succ, i64_w, i32_w]
    rfl
  refine seq_pure (i := 15) (N := some 6) (v := ?_) (a' := ?_) rfl rfl (by rfl) (fun _ _ _ h => h) ?_ ?_ ?_
  rotate_left 2
  · intro w' hg
    go_simp
    with_reducible rfl
  · simp only [Act.put, List.setIfInBounds_toArray, List.set_cons_zero, List.set_cons_succ, i64_w, i32_w]
    rfl
  refine seq_done ?_
  go_wp2
  go_ret
  exact ⟨by simp, below_seq hb3 hb4⟩

end Go.Proofs.YtgmaahpnpjfghaaDoor
