/- WordsSelects: the walk. -/
import Derived.Test.YtgmaahpnpjfghaaAwake01
import Derived.Test.YtgmaahpnpjfghaaUp
set_option linter.unusedVariables false
set_option linter.unusedSimpArgs false
namespace Go.Proofs.Ytgmaahpnpjfghaa
open Go.RowKit Go.Proofs.YtgmaahpnpjfghaaW.PrintWords Go.Proofs.YtgmaahpnpjfghaaW.PrintLast Go.Proofs.YtgmaahpnpjfghaaW.PrintMore

theorem andNot_one {bit : Int} (h0 : bit ≠ 0) (h1 : bit ≠ 1) (hb : (Lit.int .i64 bit).wf = true) : (bits .andNot .i64 bit 1 != 0) = true := by
  simp [Lit.wf, IntKind.min, IntKind.max, IntKind.signed, IntKind.bits] at hb
  rw [bne_iff_ne]
  intro h
  have hbits : bits .andNot .i64 bit 1 = IntKind.i64.wrap (((BitVec.ofInt 64 bit &&& ~~~BitVec.ofInt 64 1).toNat : Nat) : Int) := rfl
  rw [hbits] at h
  have hlt := (BitVec.ofInt 64 bit &&& ~~~BitVec.ofInt 64 1).isLt
  generalize hv : (BitVec.ofInt 64 bit &&& ~~~BitVec.ofInt 64 1) = v at h hlt
  have hv0 : v.toNat = 0 := by
    rw [IntKind.wrap_i64] at h
    omega
  have hz : v = 0#64 := BitVec.eq_of_toNat_eq (by simpa using hv0)
  rw [hz] at hv
  have h2 : BitVec.ofInt 64 bit = 0#64 ∨ BitVec.ofInt 64 bit = 1#64 := by
    generalize BitVec.ofInt 64 bit = b at hv
    have h3 : b.toNat &&& (~~~(BitVec.ofInt 64 1)).toNat = 0 := by
      have := congrArg BitVec.toNat hv
      simpa using this
    have h4 : (~~~(BitVec.ofInt 64 1)).toNat = 2 ^ 64 - 2 := by decide
    rw [h4] at h3
    have h5 : b.toNat / 2 = 0 := by
      have h6 : (b.toNat &&& (2 ^ 64 - 2)) / 2 = b.toNat / 2 &&& (2 ^ 64 - 2) / 2 := Nat.and_div_two
      rw [h3, show (2 ^ 64 - 2) / 2 = 2 ^ 63 - 1 by decide, Nat.and_two_pow_sub_one_eq_mod] at h6
      have h7 := b.isLt
      rw [Nat.mod_eq_of_lt (by omega)] at h6
      omega
    rcases (show b.toNat = 0 ∨ b.toNat = 1 by omega) with h6 | h6
    · left; exact BitVec.eq_of_toNat_eq (by simpa using h6)
    · right; exact BitVec.eq_of_toNat_eq (by simpa using h6)
  rcases h2 with h2 | h2
  · have h3 := congrArg BitVec.toInt h2
    rw [BitVec.toInt_ofInt, Int.bmod_eq_of_le_mul_two (by omega) (by omega)] at h3
    exact h0 h3
  · have h3 := congrArg BitVec.toInt h2
    rw [BitVec.toInt_ofInt, Int.bmod_eq_of_le_mul_two (by omega) (by omega)] at h3
    exact h1 h3

def allZ (l : List Nat) : Bool := l.all (· == 0)
theorem allZ_snoc (l : List Nat) (k y : Nat) (hk : k < l.length) (hy : l.getD k 0 = y) : allZ (l.take (k + 1)) = (allZ (l.take k) && (y == 0)) := by
  unfold allZ
  rw [take_snoc l k 0 hk, List.all_append, hy]
  simp
theorem gather_allZ (l : List Nat) : (gatherL l == 0) = allZ l := by
  rw [Bool.eq_iff_iff, beq_iff_eq, gatherL_zero]
  simp [allZ]

set_option maxHeartbeats 2000000 in
set_option maxRecDepth 100000 in
theorem wordsSelects_big (W : World) (bit : Int) {A B : Option Addr} {na nb ca cb : Nat} (h : 2000 < na ∨ 2000 < nb) :
    Calls Try.prog 5 #[.int .i64 bit, .slice A na ca, .slice B nb cb] W fun e w' => e = .returned (.bool true) ∧ Below W.heap.size W w' := by
  by_cases h1 : 2000 < na
  · have q1 : decide ((2000 : Int) < (na : Int)) = true := by simp; omega
    clear h
    go_enter Try.func5, Try.ntmps5
    go_wp2_with (go_at_call 9; refine (awake_calls W).mono ?_; rintro e w1 ⟨rfl, hb1⟩)
    go_ret
    exact ⟨rfl, hb1⟩
  · have q1 : decide ((2000 : Int) < (na : Int)) = false := by simp; omega
    have q2 : decide ((2000 : Int) < (nb : Int)) = true := by simp; omega
    clear h
    go_enter Try.func5, Try.ntmps5
    go_wp2_with (go_at_call 9; refine (awake_calls W).mono ?_; rintro e w1 ⟨rfl, hb1⟩)
    go_ret
    exact ⟨rfl, hb1⟩

set_option maxHeartbeats 2000000 in
set_option maxRecDepth 100000 in
theorem wordsSelects_none (W : World) (bit : Int) {A B : Option Addr} {na nb ca cb : Nat} {a b : List Nat} (hbit : (Lit.int .i64 bit).wf = true) (ha : Bytes W A na ca a) (hb : Bytes W B nb cb b) (h1 : na ≤ 2000) (h2 : nb ≤ 2000) (h : na ≠ nb ∨ na = nb ∧ bit ≠ 0 ∧ bit ≠ 1) :
    Calls Try.prog 5 #[.int .i64 bit, .slice A na ca, .slice B nb cb] W fun e w' => e = .returned (.bool true) ∧ Below W.heap.size W w' := by
  have q1 : decide ((2000 : Int) < (na : Int)) = false := by simp; omega
  have q2 : decide ((2000 : Int) < (nb : Int)) = false := by simp; omega
  have hz : (gatherL a == 0) = allZ a := gather_allZ a
  have HZ := hd hz
  have hna : a.length = na := ha.2.1
  have hn63 : na ≤ 9223372036854775807 := by omega
  clear hz hna
  have hsel : na ≠ nb ∨ (bits .andNot .i64 bit 1 != 0) = true := h.imp id (fun ⟨_, h3, h4⟩ => andNot_one h3 h4 hbit)
  have HSEL := hd hsel
  have H := hd h
  clear hsel h hbit
  go_enter Try.func5, Try.ntmps5
  go_wp2_with (first
    | (go_at_call 9; refine (awake_calls W).mono ?_; rintro e w1 ⟨rfl, hb2⟩)
    | (go_at_call 18; refine (select_none bit A B na nb ca cb _ HSEL.out).mono ?_; rintro e w2 ⟨rfl, rfl⟩))
  go_loop [9, 10] (fun z i => ∃ k : Nat, k ≤ na ∧ i = .int .i64 k ∧ z = .bool (allZ (a.take k))) (fun _ i => na - (intOf i).toNat)
  case atStart => exact ⟨0, Nat.zero_le _, rfl, rfl⟩
  case round =>
    obtain ⟨k, hk, rfl, rfl⟩ := hrel
    obtain ⟨z, HZK⟩ : ∃ z, Aside0 (allZ (a.take k) = z) := ⟨_, ⟨rfl⟩⟩
    rw [HZK.out]
    by_cases hlt : k < na
    · obtain ⟨ad, y, rfl, HY, hcell⟩ := (ha.below hb2).1.at_ k (by rw [ha.2.1]; exact hlt)
      have i0 : (0 : Int) ≤ k := by omega
      have i1 : (k : Int) < na := by omega
      have hstep := hd (allZ_snoc a k y (by rw [ha.2.1]; exact hlt) HY.out)
      cases z with
      | true =>
        go_wp2
        go_round
        case rel => exact ⟨k + 1, by omega, by go_num, by rw [hstep.out, HZK.out, Bool.true_and]; exact congrArg Value.bool (beq_nat _ _)⟩
        case measure => simp [intOf]; omega
      | false =>
        go_wp2
        go_round
        case rel => exact ⟨k + 1, by omega, by go_num, by rw [hstep.out, HZK.out, Bool.false_and]⟩
        case measure => simp [intOf]; omega
    · have hkk : a.take k = a := List.take_of_length_le (by rw [ha.2.1]; omega)
      rw [hkk] at HZK
      have hend := hd (HZ.out.trans HZK.out)
      go_wp2_with fail
      refine (zero_calls (ha.below hb2)).mono ?_
      rintro e w3 ⟨rfl, rfl⟩
      rw [hend.out]
      clear hkk
      rcases H.out with h3 | ⟨h3, h4, h5⟩
      · have q3 : ((na : Int) != (nb : Int)) = true := by simp; omega
        go_wp2
        go_ret
        exact ⟨rfl, hb2⟩
      · have q3 : ((na : Int) != (nb : Int)) = false := by simp; omega
        have q4 : (bit != 0) = true := by simpa using h4
        have q5 : (bit != 1) = true := by simpa using h5
        clear h3 h4 h5
        go_wp2
        go_ret
        exact ⟨rfl, hb2⟩

set_option maxHeartbeats 2000000 in
set_option maxRecDepth 100000 in
theorem wordsSelects_some (W : World) (bit : Int) (mask : Nat) {A B : Option Addr} {na nb ca cb : Nat} {a b : List Nat} (hbit : bit = 0 ∧ mask = 0 ∨ bit = 1 ∧ mask = 255) (ha : Bytes W A na ca a) (hb : Bytes W B nb cb b) (h1 : na ≤ 2000) (h2 : nb ≤ 2000) (hab : na = nb) :
    Calls Try.prog 5 #[.int .i64 bit, .slice A na ca, .slice B nb cb] W fun e w' => e = .returned (.bool true) ∧ Below W.heap.size W w' := by
  have q1 : decide ((2000 : Int) < (na : Int)) = false := by simp; omega
  have q2 : decide ((2000 : Int) < (nb : Int)) = false := by simp; omega
  have hz : (gatherL a == 0) = allZ a := gather_allZ a
  have HZ := hd hz
  have hna : a.length = na := ha.2.1
  have hn63 : na ≤ 9223372036854775807 := by omega
  clear hz hna
  have HSEL := hd hbit
  have HAB := hd hab
  have q3 : ((na : Int) != (nb : Int)) = false := by simp; omega
  have hres : selL mask a b = if bit = 1 then b else a := by
    rcases hbit with ⟨rfl, rfl⟩ | ⟨rfl, rfl⟩
    · exact selL_zero (by rw [ha.2.1, hb.2.1, hab]) ha.ok
    · exact selL_all (by rw [ha.2.1, hb.2.1, hab]) hb.ok
  have HRES := hd hres
  clear hbit hab hres
  go_enter Try.func5, Try.ntmps5
  go_wp2_with (first
    | (go_at_call 9; refine (awake_calls W).mono ?_; rintro e w1 ⟨rfl, hb1⟩)
    | (go_at_call 18; refine (select_some mask HSEL.out (ha.below hb1) (hb.below hb1) HAB.out (by omega)).mono ?_; rintro e w2 ⟨v2, rfl, ho2, hw2⟩; obtain ⟨A2, c2, rfl, hc2, hr2⟩ := ho2.slice))
  have hb2 := below_seq hb1 hw2
  obtain ⟨lx, HLX⟩ : ∃ lx, Aside0 (selL mask a b = lx) := ⟨_, ⟨rfl⟩⟩
  rw [HLX.out] at ho2 ⊢
  have hlx : lx.length = na := by
    rw [← HLX.out]
    have h3 := ha.2.1
    have h4 := hb.2.1
    have h5 := HAB.out
    simp [selL]
    omega
  rw [hlx] at ho2 ⊢
  have hlok : BytesOK lx := by
    rw [← HLX.out, HRES.out]
    split
    · exact hb.ok
    · exact ha.ok
  have HLOK := hd hlok
  have HL := hd hlx
  have HO := hd (ho2.lower hb1.size)
  clear hc2 hr2 ho2 hlx hlok hw2 hb1
  go_loop [9, 10] (fun z i => ∃ k : Nat, k ≤ na ∧ i = .int .i64 k ∧ z = .bool (allZ (a.take k))) (fun _ i => na - (intOf i).toNat)
  case atStart => exact ⟨0, Nat.zero_le _, rfl, rfl⟩
  case round =>
    obtain ⟨k, hk, rfl, rfl⟩ := hrel
    obtain ⟨z, HZK⟩ : ∃ z, Aside0 (allZ (a.take k) = z) := ⟨_, ⟨rfl⟩⟩
    rw [HZK.out]
    by_cases hlt : k < na
    · obtain ⟨ad, y, rfl, HY, hcell⟩ := (ha.below hb2).1.at_ k (by rw [ha.2.1]; exact hlt)
      have i0 : (0 : Int) ≤ k := by omega
      have i1 : (k : Int) < na := by omega
      have hstep := hd (allZ_snoc a k y (by rw [ha.2.1]; exact hlt) HY.out)
      cases z with
      | true =>
        go_wp2
        go_round
        case rel => exact ⟨k + 1, by omega, by go_num, by rw [hstep.out, HZK.out, Bool.true_and]; exact congrArg Value.bool (beq_nat _ _)⟩
        case measure => simp [intOf]; omega
      | false =>
        go_wp2
        go_round
        case rel => exact ⟨k + 1, by omega, by go_num, by rw [hstep.out, HZK.out, Bool.false_and]⟩
        case measure => simp [intOf]; omega
    · have hkk : a.take k = a := List.take_of_length_le (by rw [ha.2.1]; omega)
      rw [hkk] at HZK
      have hend := hd (HZ.out.trans HZK.out)
      go_wp2_with fail
      refine (zero_calls (ha.below hb2)).mono ?_
      rintro e w3 ⟨rfl, rfl⟩
      rw [hend.out]
      clear hkk
      have hres2 : lx = if bit = 1 then b else a := by rw [← HLX.out, HRES.out]
      have HR2 := hd hres2
      clear hres2
      have sa := (ha.below hb2).str (P := Try.prog) Try.underlying22 Try.underlying5 Try.underlying9
      have sb := (hb.below hb2).str (P := Try.prog) Try.underlying22 Try.underlying5 Try.underlying9
      have hyx : Bytes w2 A2 na c2 lx := by
        obtain ⟨A9, c9, he9, h9⟩ := HO.out.bytes na HL.out HLOK.out
        injection he9 with e1 e2 e3
        subst e1; subst e3
        exact h9
      have sx := hyx.str (P := Try.prog) Try.underlying22 Try.underlying5 Try.underlying9
      clear hyx
      rcases HSEL.out with ⟨rfl, hmm⟩ | ⟨rfl, hmm⟩
      · have hlxa : lx = a := HR2.out
        subst hlxa
        clear hmm HSEL
        go_wp2
        have hm : Mine W w2 A2 na c2 := ⟨_, HL.out, HO.out, HLOK.out⟩
        clear sa sb sx
        go_loopw [14] (fun i wr => ∃ k : Nat, k ≤ na ∧ i = .int .i64 k ∧ Mine W wr A2 na c2 ∧ Below W.heap.size W wr) (fun i _ => na - (intOf i).toNat)
        case atStart => exact ⟨0, Nat.zero_le _, rfl, hm, hb2⟩
        case round =>
          obtain ⟨k2, hk2, rfl, hm2, hb3⟩ := hrel
          by_cases hlt2 : k2 < na
          · obtain ⟨g, y, rfl, hg, hcell, hfr, hy, hput⟩ := hm2.at_ hlt2
            have i0 : (0 : Int) ≤ k2 := by omega
            have i1 : (k2 : Int) < na := by omega
            have hxy : bits .xor .u8 (y : Int) 255 = ((y ^^^ 255 : Nat) : Int) := xor_u8 hy (by decide)
            have HP := hd (hput (y ^^^ 255) (xor_lt hy (by decide)))
            clear hput
            go_wp2
            go_roundw
            case rel => exact ⟨k2 + 1, by omega, by go_num, HP.out, hb3.setCell hg _⟩
            case measure => simp [intOf]; omega
          · have sa := (ha.below hb3).str (P := Try.prog) Try.underlying22 Try.underlying5 Try.underlying9
            go_wp2
            go_ret
            exact ⟨by simp, hb3⟩
      · have hlxa : lx = b := HR2.out
        subst hlxa
        clear hmm HSEL
        go_wp2
        have hm : Mine W w2 A2 na c2 := ⟨_, HL.out, HO.out, HLOK.out⟩
        clear sa sb sx
        go_loopw [14] (fun i wr => ∃ k : Nat, k ≤ na ∧ i = .int .i64 k ∧ Mine W wr A2 na c2 ∧ Below W.heap.size W wr) (fun i _ => na - (intOf i).toNat)
        case atStart => exact ⟨0, Nat.zero_le _, rfl, hm, hb2⟩
        case round =>
          obtain ⟨k2, hk2, rfl, hm2, hb3⟩ := hrel
          by_cases hlt2 : k2 < na
          · obtain ⟨g, y, rfl, hg, hcell, hfr, hy, hput⟩ := hm2.at_ hlt2
            have i0 : (0 : Int) ≤ k2 := by omega
            have i1 : (k2 : Int) < na := by omega
            have hxy : bits .xor .u8 (y : Int) 255 = ((y ^^^ 255 : Nat) : Int) := xor_u8 hy (by decide)
            have HP := hd (hput (y ^^^ 255) (xor_lt hy (by decide)))
            clear hput
            go_wp2
            go_roundw
            case rel => exact ⟨k2 + 1, by omega, by go_num, HP.out, hb3.setCell hg _⟩
            case measure => simp [intOf]; omega
          · have sa := (ha.below hb3).str (P := Try.prog) Try.underlying22 Try.underlying5 Try.underlying9
            go_wp2
            go_ret
            exact ⟨by simp, hb3⟩

theorem wordsSelects_walk (W : World) (bit : Int) (hbit : (Lit.int .i64 bit).wf = true) {A : Option Addr} {na ca : Nat} {a : List Nat} (ha : Bytes W A na ca a) (hfa : na ≤ 140737488351232) {B : Option Addr} {nb cb : Nat} {b : List Nat} (hb : Bytes W B nb cb b) (hfb : nb ≤ 140737488351232) :
    Calls Try.prog 5 #[.int .i64 bit, .slice A na ca, .slice B nb cb] W fun e w' => e = .returned (.bool true) ∧ Below W.heap.size W w' := by
  by_cases h1 : 2000 < na
  · exact wordsSelects_big W bit (Or.inl h1)
  by_cases h2 : 2000 < nb
  · exact wordsSelects_big W bit (Or.inr h2)
  by_cases h3 : na = nb
  · by_cases h4 : bit = 0
    · exact wordsSelects_some W bit 0 (Or.inl ⟨h4, rfl⟩) ha hb (by omega) (by omega) h3
    by_cases h5 : bit = 1
    · exact wordsSelects_some W bit 255 (Or.inr ⟨h5, rfl⟩) ha hb (by omega) (by omega) h3
    exact wordsSelects_none W bit hbit ha hb (by omega) (by omega) (Or.inr ⟨h3, h4, h5⟩)
  · exact wordsSelects_none W bit hbit ha hb (by omega) (by omega) (Or.inl h3)
end Go.Proofs.Ytgmaahpnpjfghaa
