/- The walk through chacha.Stream. -/
import Derived.Test.YtlgdplodglchaaaDoorChaBlk
import Derived.Test.YtlgdplodglchaaaDoorGPlain
import Derived.Test.YtlgdplodglchaaaDoorGWords
import Derived.Test.YtlgdplodglchaaaDoorGLib
set_option linter.unusedVariables false
set_option linter.unusedSimpArgs false
namespace Go.Proofs.YtlgdplodglchaaaDoor
open Go.RowKit Go.Proofs.YtlgdplodglchaaaDoorW.PrintWords Go.Proofs.YtlgdplodglchaaaDoorW.PrintLast Go.Proofs.YtlgdplodglchaaaDoorW.PrintMore

attribute [local go_sem] max2_int min2_int max_two min_two max_three min_three
theorem stream_none {A B D : Option Addr} {na nb nd ca cb cd : Nat} {c : Int} (w : World) (h : na ≠ 32 ∨ nb ≠ 12) :
    Calls Tryd.prog 86 #[.slice A na ca, .int .u32 c, .slice B nb cb, .slice D nd cd] w fun e w' => e = .returned (.slice none 0 0) ∧ w = w' := by
  by_cases h1 : na = 32
  · have q1 : ((na : Int) != 32) = false := by simp; omega
    have q2 : ((nb : Int) != 12) = true := by simp; omega
    clear h h1
    go_enter Tryd.func86, Tryd.ntmps86
    go_wp2
    go_ret
    exact ⟨rfl, rfl⟩
  · have q1 : ((na : Int) != 32) = true := by simp; omega
    clear h h1
    go_enter Tryd.func86, Tryd.ntmps86
    go_wp2
    go_ret
    exact ⟨rfl, rfl⟩

set_option maxHeartbeats 4000000 in
set_option maxRecDepth 100000 in
theorem stream_calls {A B D : Option Addr} {ca cb nd cd : Nat} {key nonce b : List Nat} {ci : Int} (c : Nat) {w : World} (hk : Bytes w A 32 ca key) (hn : Bytes w B 12 cb nonce) (hbb : Bytes w D nd cd b) (hci : ci = (c : Int)) (hc : c < 2 ^ 32) (hpl : PlacesAt w) (hfit : nd ≤ 1000000000) :
    Calls Tryd.prog 86 #[.slice A 32 ca, .int .u32 ci, .slice B 12 cb, .slice D nd cd] w fun e w' => ∃ v, e = .returned v ∧ OwnK .u8 5 w.heap.size w' v (stream key c nonce b) ∧ Below w.heap.size w w' := by
  subst hci
  have hbl := hbb.2.1
  go_enter Tryd.func86, Tryd.ntmps86
  go_wp2_with fail
  go_loopw [1, 3, 9] (fun x y v wr => ∃ (d : Nat) (A2 : Option Addr) (r c2 : Nat), d + r = nd ∧ (r = 0 ∨ d % 64 = 0) ∧ (0 < r → x = .int .u32 (((c + d / 64) % 2 ^ 32 : Nat) : Int)) ∧ (∃ xi : Int, x = .int .u32 xi) ∧ y = .slice A2 r c2 ∧ Bytes w A2 r c2 (b.drop d) ∧ OwnK .u8 5 w.heap.size wr v (stream key c nonce (b.take d)) ∧ Below w.heap.size w wr) (fun _ y _ _ => match y with | .slice _ r _ => r | _ => 0)
  case atStart => exact ⟨0, D, nd, cd, by omega, Or.inr rfl, fun _ => by rw [Nat.zero_div, Nat.add_zero, Nat.mod_eq_of_lt hc], ⟨_, rfl⟩, rfl, hbb, OwnK.nil _ _ _ _, Below.refl _ _⟩
  case round =>
    obtain ⟨d, A2, r, c2, hd, hr64, hx, ⟨xi, rfl⟩, rfl, hr, ho, hb⟩ := hrel
    have hk2 := hk.below hb
    have hn2 := hn.below hb
    by_cases hlt : 0 < r
    · injection hx hlt with _ hx2
      subst hx2
      have hd64 : d % 64 = 0 := by omega
      obtain ⟨n, hnn⟩ : ∃ n, n = min r 64 := ⟨_, rfl⟩
      have hnle : n ≤ r := by omega
      have hn0 : 0 < n := by omega
      have hn64 : n ≤ 64 := by omega
      have hrc := hr.2.2.1
      have hnc : n ≤ c2 := by omega
      have hm : (if (64 : Int) < (r : Int) then (64 : Int) else (r : Int)) = (n : Int) := by split <;> omega
      have HNN : n = r ∨ n = 64 := by omega
      have hnr : r - n = 0 ∨ n = 64 := by omega
      obtain ⟨ct, HCT⟩ : ∃ ct, Aside0 ((c + d / 64) % 2 ^ 32 = ct) := ⟨_, ⟨rfl⟩⟩
      have hct : ct < 2 ^ 32 := by rw [← HCT.out]; exact Nat.mod_lt _ (by decide)
      rw [HCT.out]
      clear hx hnn
      go_wp2
      refine up_start [9] [(0, true), (1, true), (2, true), (3, true), (4, true), (5, true), (6, true), (7, false), (8, false), (9, false), (10, true)] (by kernel_rfl) rfl (by kernel_rfl) (by kernel_rfl) ?_
      have hkd := hk2.drew
      have hnd := hn2.drew
      have hod := ho.below (below_drew (Below.refl _ _))
      have hbd := hb.drew
      have hrd := (hr.below hb).drew
      have htd := (hrd.take n hnle)
      generalize wr.drew = w5 at hkd hnd hod hbd hrd htd ⊢
      clear ho hb hk2 hn2
      refine seq_pure (i := 0) (N := some 27) (v := ?_) (a' := ?_) rfl rfl (by rfl) (fun _ _ _ h => h) ?_ ?_ ?_
      rotate_left 2
      · intro w' hg
        go_simp
        with_reducible rfl
      · simp only [Act.put, List.setIfInBounds_toArray, List.set_cons_zero, List.set_cons_succ, i64_w, i32_w]
        rfl
      refine seq_pure (i := 1) (N := some 28) (v := ?_) (a' := ?_) rfl rfl (by rfl) (fun _ _ _ h => h) ?_ ?_ ?_
      rotate_left 2
      · intro w' hg
        go_simp
        with_reducible rfl
      · simp only [Act.put, List.setIfInBounds_toArray, List.set_cons_zero, List.set_cons_succ, i64_w, i32_w]
        rfl
      refine seq_pure (i := 2) (N := some 29) (v := ?_) (a' := ?_) rfl rfl (by rfl) (fun _ _ _ h => h) ?_ ?_ ?_
      rotate_left 2
      · intro w' hg
        go_simp
        with_reducible rfl
      · simp only [Act.put, List.setIfInBounds_toArray, List.set_cons_zero, List.set_cons_succ, i64_w, i32_w]
        rfl
      refine seq_pure (i := 3) (N := some 30) (v := ?_) (a' := ?_) rfl rfl (by rfl) (fun _ _ _ h => h) ?_ ?_ ?_
      rotate_left 2
      · intro w' hg
        go_simp
        with_reducible rfl
      · simp only [Act.put, List.setIfInBounds_toArray, List.set_cons_zero, List.set_cons_succ, i64_w, i32_w]
        rfl
      refine seq_pure (i := 4) (N := some 31) (v := ?_) (a' := ?_) rfl rfl (by rfl) (fun _ _ _ h => h) ?_ ?_ ?_
      rotate_left 2
      · intro w' hg
        go_simp
        with_reducible rfl
      · simp only [Act.put, List.setIfInBounds_toArray, List.set_cons_zero, List.set_cons_succ, i64_w, i32_w]
        rfl
      refine seq_pure (i := 5) (N := some 32) (v := ?_) (a' := ?_) rfl rfl (by rfl) (fun _ _ _ h => h) ?_ ?_ ?_
      rotate_left 2
      · intro w' hg
        go_simp
        with_reducible rfl
      · simp only [Act.put, List.setIfInBounds_toArray, List.set_cons_zero, List.set_cons_succ, i64_w, i32_w]
        rfl
      refine seq_pure (i := 6) (N := some 33) (v := ?_) (a' := ?_) rfl rfl (by rfl) (fun _ _ _ h => h) ?_ ?_ ?_
      rotate_left 2
      · intro w' hg
        go_simp
        with_reducible rfl
      · simp only [Act.put, List.setIfInBounds_toArray, List.set_cons_zero, List.set_cons_succ, i64_w, i32_w]
        rfl
      refine seq_call (i := 7) (N := some 34) rfl rfl Tryd.func100 (by kernel_rfl) rfl #[.slice A 32 ca, .int .u32 (ct : Int), .slice B 12 cb] (by rfl) rfl ?_ ?_
      · simp only [List.map_toArray, List.map_cons, List.map_nil]
        rfl
      refine (block_calls ct hkd hnd rfl hct (hpl.below hbd)).mono ?_
      rintro e w6 ⟨v, rfl, hv, hg6⟩
      obtain ⟨A6, c6, rfl, h6⟩ := hv.bytes 64 (blockN_length _ _ _) (blockN_ok _ _ _)
      replace hod := hod.below hg6
      replace htd := htd.below hg6
      replace hrd := hrd.below hg6
      replace hbd := below_seq hbd hg6
      refine ⟨_, rfl, fun _ => hg6, ?_⟩
      clear hv hg6
      refine seq_norm (a' := ?_) ?_ ?_
      rotate_left
      · show Act.put _ (some 34) _ = _
        simp only [Act.put, List.setIfInBounds_toArray, List.set_cons_zero, List.set_cons_succ, i64_w, i32_w]
        rfl
      refine seq_call (i := 8) (N := some 35) rfl rfl Tryd.func99 (by kernel_rfl) rfl #[.slice A2 n c2, .slice A6 64 c6] (by rfl) rfl ?_ ?_
      · simp only [List.map_toArray, List.map_cons, List.map_nil]
        rfl
      refine (xor_calls htd h6 (by omega)).mono ?_
      rintro e w7 ⟨v, rfl, hv, hg7⟩
      obtain ⟨A7, c7, rfl, h7⟩ := hv.bytes n (by rw [xorL_length, blockN_length, List.length_take, List.length_drop]; omega) (xorL_ok htd.ok h6.ok)
      replace hod := hod.below hg7
      replace hrd := hrd.below hg7
      replace hbd := below_seq hbd hg7
      refine ⟨_, rfl, fun _ => hg7, ?_⟩
      clear hv hg7
      refine seq_norm (a' := ?_) ?_ ?_
      rotate_left
      · show Act.put _ (some 35) _ = _
        simp only [Act.put, List.setIfInBounds_toArray, List.set_cons_zero, List.set_cons_succ, i64_w, i32_w]
        rfl
      refine seq_step rfl (fun K hK => ?_)
      refine op_append_row_step (k := .u8) (w0 := w) 36 (by rfl) w.heap.size 5 40 _ _ (by rfl) (by rfl) Tryd.underlying40 Tryd.infoU8 (by decide) u9 _ (xorL ((b.drop d).take n) (blockN key ct nonce)) A7 n c7 (by rfl) (by rfl) h7.2.1.symm hod h7.1 hbd hbd.size (by rw [stream_length, h7.2.1, List.length_take]; omega) ?_
      intro v1 w8 ho8 hb8 hg8
      refine hK _ _ (fun h => absurd (by decide) h) ?_
      clear hK K
      refine seq_norm (a' := ?_) ?_ ?_
      rotate_left
      · show Act.put _ (some 36) _ = _
        simp only [Act.put, List.setIfInBounds_toArray, List.set_cons_zero, List.set_cons_succ, i64_w, i32_w]
        rfl
      refine seq_pure (i := 10) (N := some 9) (v := ?_) (a' := ?_) rfl rfl (by rfl) (fun _ _ _ h => h) ?_ ?_ ?_
      rotate_left 2
      · intro w' hg
        go_simp
        with_reducible rfl
      · simp only [Act.put, List.setIfInBounds_toArray, List.set_cons_zero, List.set_cons_succ, i64_w, i32_w]
        rfl
      refine seq_done ?_
      have i1 : (n : Int) ≤ r := by omega
      have i2 : (0 : Int) ≤ n := by omega
      go_wp2
      go_roundw
      case rel =>
        refine ⟨d + n, _, r - n, _, by omega, by omega, ?_, ⟨_, rfl⟩, ?_, by rw [← List.drop_drop]; exact hr.drop n hnle, ?_, hb8⟩
        · intro hpos
          obtain rfl : n = 64 := by omega
          rw [show (c + (d + 64) / 64) % 2 ^ 32 = (ct + 1) % 2 ^ 32 by rw [← HCT.out]; omega]
          have e : ((ct : Int) + 1) % 4294967296 = (((ct + 1) % 2 ^ 32 : Nat) : Int) := by omega
          rw [e]
        · rfl
        · have e := stream_chunk key c (d / 64) n nonce b (by omega) hn64
          rw [show 64 * (d / 64) = d by omega, HCT.out] at e
          rw [e]
          exact ho8
      case measure => simp; omega
    · go_wp2
      go_ret
      obtain rfl : d = nd := by omega
      rw [List.take_of_length_le (by omega)] at ho
      exact ⟨_, rfl, ho, hb⟩

end Go.Proofs.YtlgdplodglchaaaDoor
