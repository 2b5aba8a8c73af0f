/- The walk through awake. -/
import Derived.Test.YtcmiajnndmaeiaaFragAwP
set_option linter.unusedVariables false
set_option linter.unusedSimpArgs false
namespace Go.Proofs.Ytcmiajnndmaeiaa
open Go.RowKit Go.Proofs.YtcmiajnndmaeiaaW.PrintWords Go.Proofs.YtcmiajnndmaeiaaW.PrintLast Go.Proofs.YtcmiajnndmaeiaaW.PrintMore
theorem split_1025 : splitF (List.replicate 1025 0) = ([List.replicate 1024 0, [0]], 0) := by
  unfold splitF
  rw [if_neg (by rw [List.length_replicate]; decide), if_neg (by rw [List.length_replicate]; decide), List.length_replicate]
  rw [show (1025 + 1023) / 1024 = 2 by decide, pieces_succ, pieces_succ]
  rw [show pieces (List.replicate 1025 0) 0 = [] from rfl]
  simp only [List.drop_replicate, List.take_replicate]
  rfl
theorem AddPost.of {base b P A G : Nat} {w w' : World} {v : Value} {xs xs2 : List Cel} {R : List Cel × List Nat × Nat} {l : List Nat} {c : Nat} {e : Ending} (h : AddPost base b P A G w v xs R e w') (hR : R = (xs2, l, c)) :
    ∃ v' vo, e = .returned (.tuple #[vo, .int .i64 (c : Int)]) ∧ OwnK .u8 5 w.heap.size w' vo l ∧ BufAt base w' b P A G v' xs2 ∧ Mod (Foot_ b v xs) w w' ∧ ∀ k, Foot_ b v' xs2 k → Foot_ b v xs k ∨ w.heap.size ≤ k := by
  subst hR
  exact h
theorem foot_nil {b : Nat} {k : Nat} (h : Foot_ b (.slice none 0 0) [] k) : k = b := by
  rcases h with h | h | ⟨x, hx, _⟩
  · exact h
  · cases h
  · simp at hx
theorem max_2000 : maxz 2000 = 2000 := rfl
set_option maxHeartbeats 4000000 in
set_option maxRecDepth 100000 in
theorem awake_calls {w : World} : Calls Try.prog 8 #[] w fun e w' => e = .returned (.bool true) ∧ Below w.heap.size w w' := by
  go_enter Try.func8, Try.ntmps8
  go_wp2_with (((with_reducible refine gate_dst (N := 10) rfl ?_); refine op_make 10 rfl 5 22 _ _ rfl rfl 1025 rfl rfl Try.underlying22 Try.infoU8 (by decide) 1025 rfl (by decide) ?_; intro A1 c1 w1 hc1 ho1 hb1))
  have hbz : Bytes w1 A1 1025 c1 (List.replicate 1025 0) := ⟨ho1.row.2.2, List.length_replicate .., hc1, BytesOK.replicate (by decide)⟩
  have HS := hd (split_calls hbz (by decide))
  rw [split_1025] at HS
  clear hbz ho1 hc1
  go_wp2_with fail
  refine HS.out.mono ?_
  rintro e w2 ⟨v2, rfl, hp2, hb2⟩
  have hbw := below_seq hb1 hb2
  have HP := hd hp2
  have HN := hd (new_calls (P := 2000) (A := 2000) (G := 5) (w := w2))
  rw [max_2000] at HN
  obtain ⟨r, c, s, rfl, hcr, hps, _, hrl, hrc⟩ := hp2.at_ 1 (by decide)
  clear hcr hps hp2 hb2 hb1 HS
  go_wp2_with fail
  refine HN.out.mono ?_
  rintro e w3 ⟨b, rfl, hbu, hb3⟩
  have hbw3 := below_seq hbw hb3
  have HP3 := hd (HP.out.below hb3)
  obtain ⟨s, hcr, hps⟩ := HP3.out.cell 1 (by decide)
  have HB3 := hd hb3.size
  have HRL := hd hrl
  have HW2 := hd hbw.size
  clear HN hbw hb3 hrl
  have hlen : s.2.1 = 1 := hps.len
  obtain ⟨s1, s2, s3⟩ := s
  dsimp only at hlen hcr
  subst hlen
  have HPS := hd hps
  have HBU := hd hbu
  have HBW := hd hbw3
  have hrc1 : (1 : Int) < c := by have h1 : (2 : Nat) ≤ c := hrc; omega
  have ha : ∀ wx, Mod (Foot_ b (.slice none 0 0) []) w3 wx → Bytes wx s1 1 s3 [0] := fun wx hm => (hps.mod hm hbu.apart).bytes
  have HA := hd (add_any (peer := pS) (msg := 0) (part := 1) (parts := 2) (now := 1) hbu HB3.out ha (fun x hx => by simp at hx) (by decide) (by decide) (by decide) (by decide) (by decide) (by decide) (by decide) (by decide))
  clear ha hps hbu hbw3 HP
  go_wp2_with fail
  refine HA.out.mono ?_
  rintro e w4 ⟨g, q, hpo⟩
  obtain ⟨v4, vo, rfl, ho4, hbu4, hm4, hf4⟩ := hpo.of (add_first g q)
  obtain ⟨A4, c4, rfl, _, _⟩ := ho4.slice
  rw [List.length_nil]
  have hbw4 := HBW.out.trans (hm4.toBelow (fun k hk => by rw [foot_nil hk]; exact Nat.le_trans HW2.out HBU.out.bge) HBW.out.size)
  have HSZ := hd hm4.size
  have HP4 := hd (HP3.out.mod hm4 HBU.out.apart (fun k hk hf => by
    rw [foot_nil hf] at hk
    have h1 := HBU.out.bge
    have h2 := HRL.out
    have h3 : r = b := by simpa [Value.ownBlock] using hk
    omega))
  have HOK := hd (ok_first g q)
  have HH := hd (held_calls (peer := pS) hbu4 HOK.out (by simp))
  rw [held_first] at HH
  have HB4 := hd hbu4
  have HBW4 := hd hbw4
  clear ho4 hbu4 hm4 hf4 hbw4 hpo HA HP3 HBU HBW
  go_wp2_with fail
  refine HH.out.mono ?_
  rintro e w5 ⟨rfl, hb5⟩
  replace HP4 := hd (HP4.out.below hb5)
  have hbu5 := HB4.out.below hb5
  have hbw5 := below_seq HBW4.out hb5
  obtain ⟨s, hcr, hps⟩ := HP4.out.cell 0 (by decide)
  have hlen : s.2.1 = 1024 := hps.len.trans (List.length_replicate ..)
  obtain ⟨s1, s2, s3⟩ := s
  dsimp only at hlen hcr
  subst hlen
  have ha : ∀ wx, Mod (Foot_ b v4 [⟨g, q, ⟨pS, 0, 1, [[], [0]]⟩⟩]) w5 wx → Bytes wx s1 1024 s3 (List.replicate 1024 0) := fun wx hm => (hps.mod hm hbu5.apart).bytes
  have HA := hd (add_any (peer := pS) (msg := 0) (part := 0) (parts := 2) (now := 2) hbu5 (Nat.le_trans HB3.out (Nat.le_trans HSZ.out hb5.size)) ha HOK.out (by decide) (by simp) (Nat.lt_of_le_of_lt (List.length_filter_le _ _) (by simp)) (by decide) (by decide) (by decide) (by decide) (by decide))
  have HF5 := hd (fun k (hk : Foot_ b v4 [⟨g, q, ⟨pS, 0, 1, [[], [0]]⟩⟩] k) => (hbu5.typed hk).1)
  have HBW5 := hd hbw5
  clear ha hps hbu5 hbw5 hb5 HH HB4 HBW4
  go_wp2_with fail
  refine HA.out.mono ?_
  rintro e w6 ⟨g2, q2, hpo⟩
  obtain ⟨v6, vo6, rfl, ho6, hbu6, hm6, hf6⟩ := hpo.of (add_second g q g2 q2 _ (List.length_replicate ..))
  obtain ⟨A6, c6, rfl, _, _⟩ := ho6.slice
  rw [show (List.replicate 1024 0 ++ [0] : List Nat).length = 1025 by rw [List.length_append, List.length_replicate]; rfl]
  have hbw6 := HBW5.out.trans (hm6.toBelow (fun k hk => Nat.le_trans HW2.out (HF5.out k hk)) HBW5.out.size)
  have HT := hd (total_calls hbu6 (fun x hx => by simp at hx) (by simp))
  have HC := hd (fun w' (hb : Below w6.heap.size w6 w') => count_calls (hbu6.below hb))
  have HBW6 := hd hbw6
  clear ho6 hbu6 hm6 hf6 hpo HA hbw6 hcr
  go_wp2_with fail
  refine HT.out.mono ?_
  rintro e w7 ⟨rfl, hb7⟩
  have HC7 := hd (HC.out w7 hb7)
  have hbw7 := below_seq HBW6.out hb7
  go_wp2_with fail
  refine HC7.out.mono ?_
  rintro e w8 ⟨rfl, rfl⟩
  go_wp2
  go_ret
  exact ⟨rfl, hbw7⟩
end Go.Proofs.Ytcmiajnndmaeiaa
