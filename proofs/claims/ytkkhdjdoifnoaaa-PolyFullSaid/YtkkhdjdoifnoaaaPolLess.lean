/- The walk through poly.number.less. -/
import Derived.Test.YtkkhdjdoifnoaaaPolPlus
set_option linter.unusedVariables false
set_option linter.unusedSimpArgs false
namespace Go.Proofs.Ytkkhdjdoifnoaaa
open Go.RowKit Go.Proofs.YtkkhdjdoifnoaaaW.PrintWords Go.Proofs.YtkkhdjdoifnoaaaW.PrintLast Go.Proofs.YtkkhdjdoifnoaaaW.PrintMore

theorem and3_u64 (x : Nat) (hx : x < 18446744073709551616) : bits .and .u64 (x : Int) 3 = ((x % 4 : Nat) : Int) := by
  have h := (bits_u (k := .u64) rfl x 3 hx (by decide)).1
  rw [show x &&& 3 = x % 4 from Nat.and_two_pow_sub_one_eq_mod x 2] at h
  exact h
theorem num_inj2 {n a0 a1 a2 : Nat} (h : num n = [a0, a1, a2]) : a0 = n % 18446744073709551616 ∧ a1 = n / 18446744073709551616 % 18446744073709551616 ∧ a2 = n / 340282366920938463463374607431768211456 % 18446744073709551616 := by
  simp only [num, List.cons.injEq, and_true] at h
  exact ⟨h.1.symm, h.2.1.symm, h.2.2.symm⟩
theorem num_low {a a0 a1 a2 m : Nat} (h : num a = [a0, a1, a2]) (hm : a2 % 4 = m) : num (a % 2 ^ 130) = [a0, a1, m] := by
  obtain ⟨rfl, rfl, rfl⟩ := num_inj2 h
  subst hm
  simp only [num, List.cons.injEq, and_true]
  refine ⟨by omega, by omega, by omega⟩
theorem num_high {a a0 a1 a2 m : Nat} (h : num a = [a0, a1, a2]) (hlt : a < 2 ^ 192) (hm : a2 / 4 = m) : num (a / 2 ^ 130) = [m, 0, 0] := by
  obtain ⟨rfl, rfl, rfl⟩ := num_inj2 h
  subst hm
  simp only [num, List.cons.injEq, and_true]
  refine ⟨by omega, by omega, by omega⟩
set_option maxHeartbeats 1000000 in
set_option maxRecDepth 100000 in
theorem less_calls {a0 a1 a2 : Nat} (a : Nat) (ha : num a = [a0, a1, a2]) (hlt : a < 2 ^ 192) (W : World) :
    Calls Try.prog 22 #[.agg #[.int .u64 (a0 : Int), .int .u64 (a1 : Int), .int .u64 (a2 : Int)]] W fun e w' => ∃ s0 s1 s2, num (lessN a) = [s0, s1, s2] ∧ e = .returned (.agg #[.int .u64 (s0 : Int), .int .u64 (s1 : Int), .int .u64 (s2 : Int)]) ∧ Below W.heap.size W w' := by
  obtain ⟨h, hh⟩ : ∃ h, a2 / 4 = h := ⟨_, rfl⟩
  obtain ⟨m, hm⟩ : ∃ m, a2 % 4 = m := ⟨_, rfl⟩
  have H1 := hd (num_high ha hlt hh)
  have H2 := hd (num_low ha hm)
  have e1 : (a2 : Int) / 4 = (h : Int) := by omega
  have e2 : bits .and .u64 (a2 : Int) 3 = (m : Int) := by rw [and3_u64 a2 (by obtain ⟨_, _, h⟩ := num_inj2 ha; omega), hm]
  have HN : lessN a = a % 2 ^ 130 + 5 * (a / 2 ^ 130) := rfl
  rw [HN]
  generalize a % 2 ^ 130 = lo at H2 ⊢
  generalize a / 2 ^ 130 = hi at H1 ⊢
  clear ha hlt HN hh hm
  go_enter Try.func22, Try.ntmps22
  go_wp2_with fail
  have b0 := Arr.new (k := .u64) (T := 38) (l := [a0, a1, m]) W (cs := #[.int .u64 (a0 : Int), .int .u64 (a1 : Int), .int .u64 (m : Int)]) rfl
  have b1 := Arr.new (k := .u64) (T := 38) (l := [0, 0, 0]) (W.alloc (.cells #[.int .u64 (a0 : Int), .int .u64 (a1 : Int), .int .u64 (m : Int)] 38)) (cs := #[.int .u64 0, .int .u64 0, .int .u64 0]) rfl
  have b2 := Arr.new (k := .u64) (T := 38) (l := [h, 0, 0]) ((W.alloc (.cells #[.int .u64 (a0 : Int), .int .u64 (a1 : Int), .int .u64 (m : Int)] 38)).alloc (.cells #[.int .u64 0, .int .u64 0, .int .u64 0] 38)) (cs := #[.int .u64 (h : Int), .int .u64 0, .int .u64 0]) rfl
  rw [World.size_alloc] at b1
  rw [World.size_alloc, World.size_alloc] at b2
  replace b0 := (b0.below (below_alloc (Below.refl _ _) (.cells #[.int .u64 0, .int .u64 0, .int .u64 0] 38))).below (below_alloc (Below.refl _ _) (.cells #[.int .u64 (h : Int), .int .u64 0, .int .u64 0] 38))
  replace b1 := b1.below (below_alloc (Below.refl _ _) (.cells #[.int .u64 (h : Int), .int .u64 0, .int .u64 0] 38))
  have hw := below_alloc (below_alloc (below_alloc (Below.refl W.heap.size W) (.cells #[.int .u64 (a0 : Int), .int .u64 (a1 : Int), .int .u64 (m : Int)] 38)) (.cells #[.int .u64 0, .int .u64 0, .int .u64 0] 38)) (.cells #[.int .u64 (h : Int), .int .u64 0, .int .u64 0] 38)
  generalize (((W.alloc (.cells #[.int .u64 (a0 : Int), .int .u64 (a1 : Int), .int .u64 (m : Int)] 38)).alloc (.cells #[.int .u64 0, .int .u64 0, .int .u64 0] 38)).alloc (.cells #[.int .u64 (h : Int), .int .u64 0, .int .u64 0] 38)) = w1 at b0 b1 b2 hw ⊢
  go_loopw [12] (fun i wr => ∃ k s0 s1 s2 : Nat, k ≤ 5 ∧ i = .int .i64 k ∧ num (lo + k * hi) = [s0, s1, s2] ∧ Arr .u64 38 W.heap.size wr [s0, s1, s2] ∧ Arr .u64 38 (W.heap.size + 1) wr [0, 0, 0] ∧ Arr .u64 38 (W.heap.size + 1 + 1) wr [h, 0, 0] ∧ Below W.heap.size W wr) (fun i _ => 5 - (intOf i).toNat)
  case atStart => exact ⟨0, a0, a1, m, by omega, rfl, by rw [Nat.zero_mul]; exact H2.out, b0, b1, b2, hw⟩
  case round =>
    clear b0 b1 b2 hw
    obtain ⟨k, s0, s1, s2, hk, rfl, hn, b0, b1, b2, hw⟩ := hrel
    have HN := hd hn
    clear hn
    by_cases hlt : k < 5
    · go_wp2_with (first
        | ((with_reducible refine gate_dst (N := 14) rfl ?_); refine op_loadA 14 rfl rfl 38 31 3 _ rfl rfl b0 #[.int .u64 (s0 : Int), .int .u64 (s1 : Int), .int .u64 (s2 : Int)] rfl Try.underlying38 (by kernel_rfl) rfl ?_)
        | ((with_reducible refine gate_dst (N := 15) rfl ?_); refine op_loadA 15 rfl rfl 38 31 3 _ rfl rfl b2 #[.int .u64 (h : Int), .int .u64 (0 : Int), .int .u64 (0 : Int)] rfl Try.underlying38 (by kernel_rfl) rfl ?_)
        | (go_at_call 14; refine (plus_calls (lo + k * hi) hi HN.out H1.out _).mono ?_; rintro e w2 ⟨t0, t1, t2, hn2, rfl, hb2⟩; replace b0 := b0.below hb2; replace b1 := b1.below hb2; replace b2 := b2.below hb2; replace hw := below_seq hw hb2; have HN2 := hd hn2; clear hn2)
        | ((with_reducible refine gate_store (t := 38) (p := 1) rfl ?_); refine op_storeA rfl rfl 38 3 _ _ rfl rfl [t0, t1, t2] rfl b0 (by kernel_rfl) rfl rfl ?_; intro w3 c0 o0; replace b1 := b1.only o0 (by omega); replace b2 := b2.only o0 (by omega); replace hw := below_only hw o0 (by omega); clear b0 o0))
      go_roundw
      case rel => exact ⟨k + 1, t0, t1, t2, by omega, by go_num, by rw [Nat.succ_mul, ← Nat.add_assoc]; exact HN2.out, c0, b1, b2, hw⟩
      case measure => simp [intOf]; omega
    · obtain rfl : k = 5 := by omega
      go_wp2_with (first
        | ((with_reducible refine gate_dst (N := 18) rfl ?_); refine op_loadA 18 rfl rfl 38 31 3 _ rfl rfl b0 #[.int .u64 (s0 : Int), .int .u64 (s1 : Int), .int .u64 (s2 : Int)] rfl Try.underlying38 (by kernel_rfl) rfl ?_)
        | ((with_reducible refine gate_store (t := 38) (p := 2) rfl ?_); refine op_storeA rfl rfl 38 3 _ _ rfl rfl [s0, s1, s2] rfl b1 (by kernel_rfl) rfl rfl ?_; intro w3 c1 o1))
      exact ret_cellA Try.results22 rfl c1 rfl Try.underlying38 (by kernel_rfl) rfl ⟨s0, s1, s2, HN.out, rfl, below_only hw o1 (by omega)⟩

end Go.Proofs.Ytkkhdjdoifnoaaa
