/- The walk through redanlaw07.ChachaStreams. -/
import Derived.Test.YtgmaahpnpjfghaaDoorAwake07
import Derived.Test.YtgmaahpnpjfghaaDoorChaAny
import Derived.Test.YtgmaahpnpjfghaaDoorLawCq
set_option linter.unusedVariables false
set_option linter.unusedSimpArgs false
namespace Go.Proofs.YtgmaahpnpjfghaaDoor
open Go.RowKit Go.Proofs.YtgmaahpnpjfghaaDoorW.PrintWords Go.Proofs.YtgmaahpnpjfghaaDoorW.PrintLast Go.Proofs.YtgmaahpnpjfghaaDoorW.PrintMore

set_option maxHeartbeats 1000000 in
set_option maxRecDepth 100000 in
theorem chachaStreams_walk (W : World) (hpl : PlacesAt W) {A : Option Addr} {na ca : Nat} {key : List Nat} (hk : Bytes W A na ca key) (hfa : na ≤ 140737488351232) (a1 : Int) (w1 : (Lit.int .u32 a1).wf = true) {B : Option Addr} {nb cb : Nat} {nonce : List Nat} (hn : Bytes W B nb cb nonce) (hfb : nb ≤ 140737488351232) {D : Option Addr} {nd cd : Nat} {b : List Nat} (hb : Bytes W D nd cd b) (hfd : nd ≤ 140737488351232) :
    Calls Tryd.prog 5 #[.slice A na ca, .int .u32 a1, .slice B nb cb, .slice D nd cd] W fun e w' => e = .returned (.bool true) ∧ Below W.heap.size W w' := by
  obtain ⟨c, rfl, hc⟩ := nat_u32 w1
  have cw : IntKind.u64.wrap (c : Int) = (c : Int) := (wrapM_u (k := .u64) rfl c).trans (congrArg Nat.cast (Nat.mod_eq_of_lt (Nat.lt_trans hc (by decide))))
  have HC := hd hc
  clear hfa w1 hfb hc hfd
  by_cases hbig : 2000 < nd
  · have q1 : decide ((2000 : Int) < (nd : Int)) = true := by simp; omega
    go_enter Tryd.func5, Tryd.ntmps5
    go_wp2_with (go_at_call 8; refine (awake_calls hpl).mono ?_; rintro e w1 ⟨rfl, hb1⟩)
    go_ret
    exact ⟨rfl, hb1⟩
  · have q1 : decide ((2000 : Int) < (nd : Int)) = false := by simp; omega
    obtain ⟨m, HM⟩ : ∃ m, Aside0 ((streamL key c nonce b).length = m) := ⟨_, ⟨rfl⟩⟩
    have hm1 : m ≤ 2000 := by
      rw [← HM.out, streamL]
      have := hb.2.1
      split
      · rw [stream_length]; omega
      · simp
    have HSO := hd (streamL_ok key c nonce hb.ok)
    go_enter Tryd.func5, Tryd.ntmps5
    go_wp2_with fail
    refine (awake_calls hpl).mono ?_
    rintro e w1 ⟨rfl, hb1⟩
    have sb := (hb.below hb1).str (P := Tryd.prog) Tryd.underlying30 Tryd.underlying5 Tryd.underlying9
    go_wp2_with fail
    refine (stream_any c (hk.below hb1) (hn.below hb1) (hb.below hb1) rfl HC.out (hpl.below hb1) (by omega)).mono ?_
    rintro e w2 ⟨v, rfl, ho2, hb2⟩
    clear sb
    replace hb2 := below_seq hb1 hb2
    have ho2' := ho2.lower hb1.size
    obtain ⟨A2, c2, rfl, h2⟩ := ho2.bytes m HM.out HSO.out
    have HO := hd ho2'
    clear ho2 ho2' hb1
    go_wp2_with fail
    refine up_start [] [(0, true), (1, true), (2, true), (3, true), (4, true), (5, true), (6, true), (7, false), (8, true), (9, true), (10, true)] (by kernel_rfl) rfl (by kernel_rfl) (by kernel_rfl) ?_
    have hk1 := hk.below hb2.drew
    have hn1 := hn.below hb2.drew
    have hd1 := hb.below hb2.drew
    have hb3 := hb2.drew
    have h3 := h2.drew
    have q3 := h3.strs (P := Tryd.prog) Tryd.underlying30 Tryd.underlying5 Tryd.underlying9
    have HO3 := hd (HO.out.below (below_drew (Below.refl _ _)))
    generalize w2.drew = w3 at hk1 hn1 hd1 hb3 h3 HO3 q3 ⊢
    clear hb2 h2 HO
    refine seq_pure (i := 0) (N := some 27) (v := ?_) (a' := ?_) rfl rfl (by rfl) (fun _ _ _ h => h) ?_ ?_ ?_
    rotate_left 2
    · intro w' hg
      go_simp
      with_reducible rfl
    · simp only [Act.put, List.setIfInBounds_toArray, List.set_cons_zero, List.set_cons_succ, i64_w, i32_w]
      rfl
    refine seq_pure (i := 1) (N := some 28) (v := ?_) (a' := ?_) rfl rfl (by rfl) (fun _ _ _ h => h) ?_ ?_ ?_
    rotate_left 2
    · intro w' hg
      go_simp
      with_reducible rfl
    · simp only [Act.put, List.setIfInBounds_toArray, List.set_cons_zero, List.set_cons_succ, i64_w, i32_w]
      rfl
    clear q3
    refine seq_pure (i := 2) (N := some 29) (v := ?_) (a' := ?_) rfl rfl (by rfl) (fun _ _ _ h => h) ?_ ?_ ?_
    rotate_left 2
    · intro w' hg
      go_simp
      with_reducible rfl
    · simp only [Act.put, List.setIfInBounds_toArray, List.set_cons_zero, List.set_cons_succ, i64_w, i32_w]
      rfl
    refine seq_pure (i := 3) (N := some 30) (v := ?_) (a' := ?_) rfl rfl (by rfl) (fun _ _ _ h => h) ?_ ?_ ?_
    rotate_left 2
    · intro w' hg
      go_simp
      with_reducible rfl
    · simp only [Act.put, List.setIfInBounds_toArray, List.set_cons_zero, List.set_cons_succ, i64_w, i32_w]
      rfl
    refine seq_pure (i := 4) (N := some 31) (v := ?_) (a' := ?_) rfl rfl (by rfl) (fun _ _ _ h => h) ?_ ?_ ?_
    rotate_left 2
    · intro w' hg
      go_simp
      with_reducible rfl
    · simp only [Act.put, List.setIfInBounds_toArray, List.set_cons_zero, List.set_cons_succ, i64_w, i32_w]
      rfl
    refine seq_pure (i := 5) (N := some 32) (v := ?_) (a' := ?_) rfl rfl (by rfl) (fun _ _ _ h => h) ?_ ?_ ?_
    rotate_left 2
    · intro w' hg
      go_simp
      with_reducible rfl
    · simp only [Act.put, List.setIfInBounds_toArray, List.set_cons_zero, List.set_cons_succ, i64_w, i32_w]
      rfl
    refine seq_pure (i := 6) (N := some 33) (v := ?_) (a' := ?_) rfl rfl (by rfl) (fun _ _ _ h => h) ?_ ?_ ?_
    rotate_left 2
    · intro w' hg
      go_simp
      with_reducible rfl
    · simp only [Act.put, List.setIfInBounds_toArray, List.set_cons_zero, List.set_cons_succ, i64_w, i32_w]
      rfl
    refine seq_call (i := 7) (N := some 34) rfl rfl Tryd.func14 (by kernel_rfl) rfl #[.slice A na ca, .int .u64 (c : Int), .slice B nb cb, .slice D nd cd] (by rfl) rfl ?_ ?_
    · simp only [List.map_toArray, List.map_cons, List.map_nil]
      rfl
    refine (refstream_any c hk1 hn1 hd1 rfl HC.out (by omega)).mono ?_
    rintro e w4 ⟨v, rfl, ho4, hb4⟩
    obtain ⟨A4, c4, rfl, h4⟩ := ho4.bytes _ HM.out HSO.out
    have q4 := h4.strs (P := Tryd.prog) Tryd.underlying30 Tryd.underlying5 Tryd.underlying9
    refine ⟨_, rfl, fun _ => hb4, ?_⟩
    clear ho4 h3 h4
    refine seq_norm (a' := ?_) ?_ ?_
    rotate_left
    · show Act.put _ (some 34) _ = _
      simp only [Act.put, List.setIfInBounds_toArray, List.set_cons_zero, List.set_cons_succ, i64_w, i32_w]
      rfl
    refine seq_pure (i := 8) (N := some 35) (v := ?_) (a' := ?_) rfl rfl (by rfl) (fun _ _ _ h => h) ?_ ?_ ?_
    rotate_left 2
    · intro w' hg
      go_simp
      with_reducible rfl
    · simp only [Act.put, List.setIfInBounds_toArray, List.set_cons_zero, List.set_cons_succ, i64_w, i32_w]
      rfl
    clear q4
    refine seq_pure (i := 9) (N := some 36) (v := ?_) (a' := ?_) rfl rfl (by rfl) (fun _ _ _ h => h) ?_ ?_ ?_
    rotate_left 2
    · intro w' hg
      go_simp
      with_reducible rfl
    · simp only [Act.put, List.setIfInBounds_toArray, List.set_cons_zero, List.set_cons_succ, i64_w, i32_w]
      rfl
    refine seq_pure (i := 10) (N := some 12) (v := ?_) (a' := ?_) rfl rfl (by rfl) (fun _ _ _ h => h) ?_ ?_ ?_
    rotate_left 2
    · intro w' hg
      go_simp
      with_reducible rfl
    · simp only [Act.put, List.setIfInBounds_toArray, List.set_cons_zero, List.set_cons_succ, i64_w, i32_w]
      rfl
    refine seq_done ?_
    go_wp2
    have hm : Mine W w4 A2 m c2 := ⟨_, HM.out, HO3.out.below hb4, HSO.out⟩
    have hb5 := below_seq hb3 hb4
    clear hk1 hn1 hd1 HO3 hb3 hb4
    go_loopw [13] (fun i wr => ∃ k : Nat, k ≤ m ∧ i = .int .i64 k ∧ Mine W wr A2 m c2 ∧ Below W.heap.size W wr) (fun i _ => m - (intOf i).toNat)
    case atStart => exact ⟨0, Nat.zero_le _, rfl, hm, hb5⟩
    case round =>
      clear hm hb5
      obtain ⟨k2, hk2, rfl, hm2, hb3⟩ := hrel
      by_cases hlt2 : k2 < m
      · obtain ⟨g, y, rfl, hg, hcell, hfr, hy, hput⟩ := hm2.at_ hlt2
        have i0 : (0 : Int) ≤ k2 := by omega
        have i1 : (k2 : Int) < m := by omega
        have hxy : bits .xor .u8 (y : Int) 255 = ((y ^^^ 255 : Nat) : Int) := xor_u8 hy (by decide)
        have HP := hd (hput (y ^^^ 255) (xor_lt hy (by decide)))
        clear hput
        go_wp2
        go_roundw
        case rel => exact ⟨k2 + 1, by omega, by go_num, HP.out, hb3.setCell hg _⟩
        case measure => simp [intOf]; omega
      · have sa := (hb.below hb3).str (P := Tryd.prog) Tryd.underlying30 Tryd.underlying5 Tryd.underlying9
        go_wp2
        go_ret
        exact ⟨by simp, hb3⟩

end Go.Proofs.YtgmaahpnpjfghaaDoor
