/- WordsJoins: the walk. -/
import Derived.Test.YtgmaahpnpjfghaaAwake01
import Derived.Test.YtgmaahpnpjfghaaUp
set_option linter.unusedVariables false
set_option linter.unusedSimpArgs false
namespace Go.Proofs.Ytgmaahpnpjfghaa
open Go.RowKit Go.Proofs.YtgmaahpnpjfghaaW.PrintWords Go.Proofs.YtgmaahpnpjfghaaW.PrintLast Go.Proofs.YtgmaahpnpjfghaaW.PrintMore

theorem flat_len (L : List (List Nat)) (k : Nat) (h : ∀ j, j < k → (L.getD j []).length ≤ 1000) : (L.take k).flatten.length ≤ 1000 * k := by
  induction k with
  | zero => simp
  | succ k ih =>
    have h1 := ih fun j hj => h j (by omega)
    by_cases hk : k < L.length
    · rw [take_snoc L k [] hk, List.flatten_append, List.length_append]
      have := h k (by omega)
      simp only [List.flatten_cons, List.flatten_nil, List.append_nil]
      omega
    · rw [List.take_of_length_le (by omega), ← List.take_of_length_le (show L.length ≤ k by omega)]
      omega

theorem flat_ok {L : List (List Nat)} (h : ∀ l ∈ L, BytesOK l) : BytesOK L.flatten := fun x hx => by
  obtain ⟨l, hl, hx⟩ := List.mem_flatten.1 hx
  exact h l hl x hx
theorem flat_take_ok {L : List (List Nat)} (h : ∀ l ∈ L, BytesOK l) (k : Nat) : BytesOK (L.take k).flatten := flat_ok fun l hl => h l (List.mem_of_mem_take hl)

set_option maxHeartbeats 2000000 in
set_option maxRecDepth 100000 in
theorem wordsJoins_walk (W : World) {A : Option Addr} {n c : Nat} {L : List (List Nat)} (h : Rows2 W A L) (hn : L.length = n) (hc : n ≤ c) (hB : ∀ l ∈ L, BytesOK l) :
    Calls Try.prog 7 #[.slice A n c] W fun e w' => e = .returned (.bool true) ∧ Below W.heap.size W w' := by
  have hn63 : n ≤ 9223372036854775807 := by rw [← hn]; exact h.1
  have HN := hd hn
  have HC := hd hc
  have HBY := hd hB
  clear hn hc hB
  go_enter Try.func7, Try.ntmps7
  go_wp2_with (go_at_call 9; refine (awake_calls W).mono ?_; rintro e w1 ⟨rfl, hb1⟩)
  go_loopw [4, 5] (fun v i wr => ∃ k : Nat, k ≤ n ∧ k ≤ 51 ∧ i = .int .i64 k ∧ Aside0 (∀ j, j < k → (L.getD j []).length ≤ 1000) ∧ Own W wr v (L.take k).flatten ∧ Below W.heap.size W wr) (fun _ i _ => n - (intOf i).toNat)
  case atStart => exact ⟨0, Nat.zero_le _, Nat.zero_le _, rfl, ⟨fun j hj => by omega⟩, OwnK.nil _ _ _ _, hb1⟩
  case round =>
    obtain ⟨k, hk, hk51, rfl, HS, ho, hb⟩ := hrel
    have HO := hd ho
    have HB := hd hb
    clear ho hb
    by_cases hlt : k < n
    · obtain ⟨ad, A', c', lk, rfl, HK, hcell, hc', hr'⟩ := (h.below HB.out).at_ k (by rw [HN.out]; exact hlt)
      have hbl : BytesOK lk := by
        rw [← HK.out, List.getD_eq_getElem?_getD, List.getElem?_eq_getElem (by rw [HN.out]; exact hlt)]
        exact HBY.out _ (List.getElem_mem _)
      have hlk : Bytes wr A' lk.length c' lk := ⟨hr', rfl, hc', hbl⟩
      have hsum := hd (flat_len L k HS.out)
      have i0 : (0 : Int) ≤ k := by omega
      have i1 : (k : Int) < n := by omega
      have HLK := hd hlk
      have hl63 := hr'.max
      clear hlk hr' hbl
      by_cases h1000 : 1000 < lk.length
      · have q1 : decide ((1000 : Int) < (lk.length : Int)) = true := by simp; omega
        go_wp2
        go_ret
        exact ⟨rfl, HB.out⟩
      · have q1 : decide ((1000 : Int) < (lk.length : Int)) = false := by simp; omega
        by_cases h50 : 50 < k
        · have q2 : decide ((50 : Int) < (k : Int)) = true := by simp; omega
          go_wp2
          go_ret
          exact ⟨rfl, HB.out⟩
        · have q2 : decide ((50 : Int) < (k : Int)) = false := by simp; omega
          obtain ⟨M, HM⟩ : ∃ M, Aside0 ((L.take k).flatten = M) := ⟨_, ⟨rfl⟩⟩
          have hM := flat_take_ok HBY.out k
          rw [HM.out] at HO hsum hM
          obtain ⟨A3, c3, rfl, hv⟩ := HO.out.bytes _ rfl hM
          have HV := hd hv
          clear hv
          go_wp2_with (go_at_call 20; refine (refjoin_calls HV.out HLK.out (by have := hsum.out; omega)).mono ?_; rintro e w3 ⟨v3, rfl, ho3, hb3⟩)
          refine ⟨⟨k + 1, by omega, by omega, by go_num, ⟨fun j hj => ?_⟩, ?_, below_seq HB.out hb3⟩, by simp [intOf]; omega⟩
          · by_cases hjk : j = k
            · rw [hjk, HK.out]; omega
            · exact HS.out j (by omega)
          · rw [take_snoc L k [] (by rw [HN.out]; exact hlt), List.flatten_append, HK.out, HM.out]
            simpa using ho3.lower HB.out.size
    · obtain rfl : k = n := by omega
      have hfl : (L.take k).flatten = L.flatten := by rw [List.take_of_length_le (by rw [HN.out]; exact Nat.le_refl _)]
      have hF : L.flatten.length ≤ 140737488355328 := by
        have := flat_len L k HS.out
        rw [hfl] at this
        omega
      have HF := hd hF
      have HFB := hd (flat_ok HBY.out)
      have ho := HO.out
      rw [hfl] at ho
      have hb4 := HB.out
      have hn := HN.out
      obtain ⟨M, HM⟩ : ∃ M, Aside0 (L.flatten = M) := ⟨_, ⟨rfl⟩⟩
      have hfb := HFB.out
      rw [HM.out] at ho hfb
      obtain ⟨A3, c3, rfl, hyv⟩ := ho.bytes _ rfl hfb
      clear hF hfl HO HB ho HN
      have HN := hd hn
      clear hn
      go_wp2_with fail
      refine up_start [] [(0, true), (3, true), (4, true), (1, false), (2, true), (5, true), (6, true)] (by kernel_rfl) rfl (by kernel_rfl) (by kernel_rfl) ?_
      have h2 := h.below hb4.drew
      have hy4 := hyv.drew
      have hb4d := hb4.drew
      generalize wr.drew = w4 at h2 hy4 hb4d ⊢
      clear hyv
      have q4 := hy4.strs (P := Try.prog) Try.underlying22 Try.underlying5 Try.underlying9
      refine seq_pure (i := 0) (N := some 31) (v := ?_) (a' := ?_) rfl rfl (by rfl) (fun _ _ _ h => h) ?_ ?_ ?_
      rotate_left 2
      · intro w' hg
        go_simp
        with_reducible rfl
      · simp only [Act.put, List.setIfInBounds_toArray, List.set_cons_zero, List.set_cons_succ, i64_w, i32_w]
        rfl
      refine seq_pure (i := 3) (N := some 34) (v := ?_) (a' := ?_) rfl rfl (by rfl) (fun _ _ _ h => h) ?_ ?_ ?_
      rotate_left 2
      · intro w' hg
        go_simp
        with_reducible rfl
      · simp only [Act.put, List.setIfInBounds_toArray, List.set_cons_zero, List.set_cons_succ, i64_w, i32_w]
        rfl
      refine seq_pure (i := 4) (N := some 35) (v := ?_) (a' := ?_) rfl rfl (by rfl) (fun _ _ _ h => h) ?_ ?_ ?_
      rotate_left 2
      · intro w' hg
        go_simp
        with_reducible rfl
      · simp only [Act.put, List.setIfInBounds_toArray, List.set_cons_zero, List.set_cons_succ, i64_w, i32_w]
        rfl
      clear q4
      refine seq_call (i := 1) (N := some 32) rfl rfl Try.func15 (by kernel_rfl) rfl #[.slice A k c] (by rfl) rfl ?_ ?_
      · simp only [List.map_toArray, List.map_cons, List.map_nil]
        rfl
      refine (join_calls h2 HN.out HC.out HF.out).mono ?_
      rintro e w5 ⟨v, rfl, ho, hb5⟩
      rw [HM.out] at ho
      obtain ⟨A5, c5, rfl, h5⟩ := ho.bytes _ rfl hfb
      have q5 := h5.strs (P := Try.prog) Try.underlying22 Try.underlying5 Try.underlying9
      refine ⟨_, rfl, fun _ => hb5, ?_⟩
      clear ho
      refine seq_norm (a' := ?_) ?_ ?_
      rotate_left
      · show Act.put _ (some 32) _ = _
        simp only [Act.put, List.setIfInBounds_toArray, List.set_cons_zero, List.set_cons_succ, i64_w, i32_w]
        rfl
      refine seq_pure (i := 2) (N := some 33) (v := ?_) (a' := ?_) rfl rfl (by rfl) (fun _ _ _ h => h) ?_ ?_ ?_
      rotate_left 2
      · intro w' hg
        go_simp
        with_reducible rfl
      · simp only [Act.put, List.setIfInBounds_toArray, List.set_cons_zero, List.set_cons_succ, i64_w, i32_w]
        rfl
      clear q5
      refine seq_pure (i := 5) (N := some 36) (v := ?_) (a' := ?_) rfl rfl (by rfl) (fun _ _ _ h => h) ?_ ?_ ?_
      rotate_left 2
      · intro w' hg
        go_simp
        with_reducible rfl
      · simp only [Act.put, List.setIfInBounds_toArray, List.set_cons_zero, List.set_cons_succ, i64_w, i32_w]
        rfl
      refine seq_pure (i := 6) (N := some 2) (v := ?_) (a' := ?_) rfl rfl (by rfl) (fun _ _ _ h => h) ?_ ?_ ?_
      rotate_left 2
      · intro w' hg
        go_simp
        with_reducible rfl
      · simp only [Act.put, List.setIfInBounds_toArray, List.set_cons_zero, List.set_cons_succ, i64_w, i32_w]
        rfl
      refine seq_done ?_
      go_wp2
      go_ret
      exact ⟨by simp, below_seq hb4d hb5⟩

end Go.Proofs.Ytgmaahpnpjfghaa
