/- WordsTurns: the walk. -/
import Derived.Test.YtgmaahpnpjfghaaAwake01
import Derived.Test.YtgmaahpnpjfghaaUp
set_option linter.unusedVariables false
set_option linter.unusedSimpArgs false
namespace Go.Proofs.Ytgmaahpnpjfghaa
open Go.RowKit Go.Proofs.YtgmaahpnpjfghaaW.PrintWords Go.Proofs.YtgmaahpnpjfghaaW.PrintLast Go.Proofs.YtgmaahpnpjfghaaW.PrintMore

theorem and_mask_i64 (x : Int) (j : Nat) (hj : j < 63) : ∃ q : Nat, bits .and .i64 x (2 ^ j - 1 : Int) = q ∧ q < 2 ^ j := by
  have hp : (2 : Nat) ^ j < 2 ^ 63 := Nat.pow_lt_pow_right (by decide) hj
  have h0 := Nat.two_pow_pos j
  have hm : ((2 : Int) ^ j - 1) = ((2 ^ j - 1 : Nat) : Int) := by rw [Int.natCast_sub h0]; simp
  have hb : (IntKind.i64.bits) = 64 := rfl
  rw [hm]
  simp only [bits, BitVec.ofInt_natCast, BitVec.toNat_and, BitVec.toNat_ofNat, hb]
  have h1 : (2 ^ j - 1) % 2 ^ 64 = 2 ^ j - 1 := Nat.mod_eq_of_lt (by omega)
  rw [h1]
  have h2 : (BitVec.ofInt 64 x).toNat &&& (2 ^ j - 1) ≤ 2 ^ j - 1 := Nat.and_le_right
  refine ⟨(BitVec.ofInt 64 x).toNat &&& (2 ^ j - 1), ?_, by omega⟩
  exact IntWalk.i64_in _ (by have h3 : (BitVec.ofInt IntKind.i64.bits x).toNat &&& (2 ^ j - 1) ≤ 2 ^ j - 1 := Nat.and_le_right; omega)

theorem turn_xor {l : List Nat} {k p x : Nat} (hk : k < l.length) (hx : l.getD k 0 = x) : xorL l (l.set k (x ^^^ p)) = (List.replicate l.length 0).set k p := by
  refine List.ext_getElem (by simp [xorL]) fun i h1 h2 => ?_
  have hi : i < l.length := by simpa using h2
  rw [List.getD_eq_getElem?_getD, List.getElem?_eq_getElem hk, Option.getD_some] at hx
  have h3 : (xorL l (l.set k (x ^^^ p)))[i] = l[i] ^^^ (l.set k (x ^^^ p))[i]'(by simpa using hi) := by simp [xorL]
  rw [h3, List.getElem_set, List.getElem_set, List.getElem_replicate]
  by_cases h : k = i
  · subst h
    rw [if_pos rfl, if_pos rfl, hx, ← Nat.xor_assoc, Nat.xor_self, Nat.zero_xor]
  · rw [if_neg h, if_neg h, Nat.xor_self]

theorem xor_self_gather (l : List Nat) : (gatherL (xorL l l) == 0) = true := by
  rw [beq_iff_eq, gatherL_zero, xorL_self_zero rfl]

set_option maxHeartbeats 2000000 in
set_option maxRecDepth 100000 in
theorem wordsTurns_walk (W : World) {A : Option Addr} {n c : Nat} {l : List Nat} (h : Bytes W A n c l) (hf : n ≤ 140737488351232) (pl : Int) (hpl : (Lit.int .i64 pl).wf = true) (bt : Int) (hbt : (Lit.int .i64 bt).wf = true) :
    Calls Try.prog 8 #[.slice A n c, .int .i64 pl, .int .i64 bt] W fun e w' => e = .returned (.bool true) ∧ Below W.heap.size W w' := by
  clear hpl hbt
  by_cases h0 : n = 0
  · subst h0
    go_enter Try.func8, Try.ntmps8
    go_wp2_with (go_at_call 9; refine (awake_calls W).mono ?_; rintro e w1 ⟨rfl, hb1⟩)
    go_ret
    exact ⟨rfl, hb1⟩
  have q0 : ((n : Int) == 0) = false := by simp; omega
  by_cases h1 : 2000 < n
  · have q1 : decide ((2000 : Int) < (n : Int)) = true := by simp; omega
    go_enter Try.func8, Try.ntmps8
    go_wp2_with (go_at_call 9; refine (awake_calls W).mono ?_; rintro e w1 ⟨rfl, hb1⟩)
    go_ret
    exact ⟨rfl, hb1⟩
  have q1 : decide ((2000 : Int) < (n : Int)) = false := by simp; omega
  have hn1 : 1 ≤ n := by omega
  have hn2 : n ≤ 2000 := by omega
  obtain ⟨q, hq, hq2⟩ := and_mask_i64 pl 24 (by decide)
  obtain ⟨s, hs, hs2⟩ := and_mask_i64 bt 3 (by decide)
  have hq' : bits .and .i64 pl 16777215 = (q : Int) := hq
  have hs' : bits .and .i64 bt 7 = (s : Int) := hs
  have hqb : q ≤ 16777215 := by omega
  have hsb : s ≤ 7 := by omega
  obtain ⟨k, hk⟩ : ∃ k, k = q % n := ⟨_, rfl⟩
  have hkn : k < n := by rw [hk]; exact Nat.mod_lt _ (by omega)
  have hqk : (q : Int) % (n : Int) = (k : Int) := by rw [hk]; simp
  have hp2 : IntKind.u8.wrap ((2 : Int) ^ s) = ((2 ^ s : Nat) : Int) := by
    have := wrapN_u (k := .u8) rfl (n := 2 ^ s) (Nat.pow_lt_pow_right (by decide) (show s < 8 by omega))
    simpa using this
  obtain ⟨p, hp⟩ : ∃ p : Nat, p = 2 ^ s := ⟨_, rfl⟩
  rw [← hp] at hp2
  have hp256 : p < 256 := by rw [hp]; exact Nat.pow_lt_pow_right (n := 8) (by decide) (by omega)
  have hp0 : 0 < p := by rw [hp]; exact Nat.two_pow_pos s
  have ssh : IntKind.u64.wrap (s : Int) = (s : Int) := wrapN_u rfl (show s < 2 ^ 64 by omega)
  have HK := hd hk
  have HP := hd hp
  clear hq hs hk hp hq2 hs2 h0 h1
  go_enter Try.func8, Try.ntmps8
  go_wp2_with (first
    | (go_at_call 9; refine (awake_calls W).mono ?_; rintro e w1 ⟨rfl, hb1⟩)
    | ((with_reducible refine gate_dst (N := 24) rfl ?_); at_builtin; refine op_append_row (k := .u8) (w0 := W) 24 rfl W.heap.size 5 22 _ _ rfl rfl Try.underlying22 Try.infoU8 (by decide) _ [] l _ _ _ rfl rfl h.2.1.symm (OwnK.nil _ _ _ _) (h.below hb1).1 hb1 hb1.size (by have := h.2.1; simp; omega) ?_; intro v2 w2 ho2 hb2 hg2; rw [List.nil_append] at ho2; obtain ⟨A2, c2, rfl, hy2⟩ := ho2.bytes n h.2.1 h.ok; obtain ⟨g, rfl, hg, hg3⟩ := ho2.at_ hn1; obtain ⟨x, HX, hcell, hfr⟩ := ho2.cellx k hkn; have hx256 : x < 256 := (by rw [← HX.out]; exact h.ok.getD k); have hxp : bits .xor .u8 (x : Int) (p : Int) = ((x ^^^ p : Nat) : Int) := xor_u8 hx256 hp256; have HO := hd (ho2.put k (x ^^^ p)); have i0 : (0 : Int) ≤ k := (by omega); have i1 : (k : Int) < n := (by omega); clear hg2 hy2 ho2)
    | fail)
  have hb3 : Below W.heap.size W (w2.setCell ⟨g, k, none⟩ (.int .u8 ((x ^^^ p : Nat) : Int))) := hb2.setCell hg _
  obtain ⟨lb, HLB⟩ : ∃ lb, Aside0 (l.set k (x ^^^ p) = lb) := ⟨_, ⟨rfl⟩⟩
  rw [HLB.out] at HO
  generalize (w2.setCell ⟨g, k, none⟩ (.int .u8 ((x ^^^ p : Nat) : Int))) = w3 at hb3 HO ⊢
  have hlb : lb.length = n := by rw [← HLB.out, List.length_set]; exact h.2.1
  have hlbok : BytesOK lb := by rw [← HLB.out]; exact h.ok.set (xor_lt hx256 hp256) k
  have HLBl := hd hlb
  have HLBok := hd hlbok
  obtain ⟨A5, c5, he5, hyb⟩ := HO.out.bytes n hlb hlbok
  injection he5 with e1 e2 e3
  subst e1; subst e3
  have HYB := hd hyb
  have HTX := hd (turn_xor (p := p) (by rw [h.2.1]; exact hkn) HX.out)
  clear hyb hlb hlbok hcell hfr hg3 hb2 hb1 e2
  refine (xor_calls (h.below hb3) HYB.out (by omega)).mono ?_
  rintro e w4 ⟨v4, rfl, ho4, hb4⟩
  rw [HLB.out, h.2.1] at HTX
  rw [HTX.out] at ho4
  obtain ⟨A4, c4, rfl, hy4⟩ := ho4.bytes n (by simp) ((BytesOK.replicate (by decide)).set hp256 k)
  have hb14 := below_seq hb3 hb4
  obtain ⟨ad, y, rfl, HY, hcy⟩ := hy4.1.at_ k (by simp; exact hkn)
  obtain rfl : p = y := by
    rw [← HY.out, List.getD_eq_getElem?_getD, List.getElem?_set_self (by simpa using hkn)]
    rfl
  have HYB4 := hd (HYB.out.below hb4)
  have HY4 := hd hy4
  clear hy4 ho4
  go_wp2_with fail
  refine (equal_calls (h.below hb14) HYB4.out (by omega)).mono ?_
  rintro e w5 ⟨rfl, hb5⟩
  have hne : (l == lb) = false := by
    rw [beq_eq_false_iff_ne]
    rintro heq
    have h1 := HTX.out
    rw [← HLB.out] at heq
    have h2 := congrArg (fun z => z.getD k 0) heq
    try simp only at h2
    rw [HX.out, List.getD_eq_getElem?_getD, List.getElem?_set_self (by rw [h.2.1]; exact hkn), Option.getD_some] at h2
    have h3 := congrArg (x ^^^ ·) h2
    simp only [Nat.xor_self, ← Nat.xor_assoc, Nat.zero_xor] at h3
    omega
  rw [hne]
  have hcy5 := pw_cell_below hb5 hcy
  have HY5 := hd (HY4.out.below hb5)
  clear hcy hne
  go_wp2_with fail
  refine (zero_calls HY5.out).mono ?_
  rintro e w6 ⟨rfl, rfl⟩
  have hz : (gatherL ((List.replicate n 0).set k p) == 0) = false := by
    rw [beq_eq_false_iff_ne]
    intro hz
    have h1 := (gatherL_zero _).1 hz p (List.mem_set (by simpa using hkn) p)
    omega
  rw [hz]
  clear hz
  go_wp2_with fail
  have hb15 := below_seq hb14 hb5
  refine (xor_calls (h.below hb15) (h.below hb15) (by omega)).mono ?_
  rintro e w7 ⟨v7, rfl, ho7, hb7⟩
  obtain ⟨A7, c7, rfl, hy7⟩ := ho7.bytes n (by rw [xorL_length, h.2.1, Nat.min_self]) (xorL_ok h.ok h.ok)
  clear ho7
  go_wp2_with fail
  refine (zero_calls hy7).mono ?_
  rintro e w8 ⟨rfl, rfl⟩
  rw [xor_self_gather]
  go_wp2_with fail
  go_ret
  exact ⟨rfl, below_seq hb15 hb7⟩
end Go.Proofs.Ytgmaahpnpjfghaa
