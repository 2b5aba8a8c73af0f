/- The walk through poly.number.rest. -/
import Derived.Test.YtkkhdjdoifnoaaaPolLess
set_option linter.unusedVariables false
set_option linter.unusedSimpArgs false
namespace Go.Proofs.Ytkkhdjdoifnoaaa
open Go.RowKit Go.Proofs.YtkkhdjdoifnoaaaW.PrintWords Go.Proofs.YtkkhdjdoifnoaaaW.PrintLast Go.Proofs.YtkkhdjdoifnoaaaW.PrintMore

theorem lessN_lt {a : Nat} (h : a < 2 ^ 131) : lessN a < 2 ^ 130 + 5 := by
  unfold lessN
  omega
theorem lessN_mod (a : Nat) : lessN a % polyP = a % polyP := by
  unfold lessN polyP
  omega
theorem rest_ge {a : Nat} (h : lessN a < 2 ^ 130 + 5) (hh : 0 < (lessN a + 5) / 2 ^ 130) : (lessN a + 5) % 2 ^ 130 = a % polyP := by
  rw [← lessN_mod]
  generalize lessN a = l at *
  unfold polyP
  omega
theorem rest_lt {a : Nat} (hh : ¬ 0 < (lessN a + 5) / 2 ^ 130) : lessN a = a % polyP := by
  rw [← lessN_mod]
  generalize lessN a = l at *
  unfold polyP
  omega
theorem num_top {a a0 a1 a2 : Nat} (h : num a = [a0, a1, a2]) (hlt : a < 2 ^ 192) : a2 / 4 = a / 2 ^ 130 := by
  obtain ⟨rfl, rfl, rfl⟩ := num_inj2 h
  omega
set_option maxHeartbeats 1000000 in
set_option maxRecDepth 100000 in
theorem rest_calls {a0 a1 a2 : Nat} (a : Nat) (ha : num a = [a0, a1, a2]) (hlt : a < 2 ^ 131) (W : World) :
    Calls Try.prog 16 #[.agg #[.int .u64 (a0 : Int), .int .u64 (a1 : Int), .int .u64 (a2 : Int)]] W fun e w' => ∃ s0 s1 s2, num (a % polyP) = [s0, s1, s2] ∧ e = .returned (.agg #[.int .u64 (s0 : Int), .int .u64 (s1 : Int), .int .u64 (s2 : Int)]) ∧ Below W.heap.size W w' := by
  have HA := hd ha
  have HL := hd hlt
  clear ha hlt
  go_enter Try.func16, Try.ntmps16
  go_wp2_with fail
  have b0 := Arr.new (k := .u64) (T := 38) (l := [a0, a1, a2]) W (cs := #[.int .u64 (a0 : Int), .int .u64 (a1 : Int), .int .u64 (a2 : Int)]) rfl
  have b1 := Arr.new (k := .u64) (T := 38) (l := [0, 0, 0]) (W.alloc (.cells #[.int .u64 (a0 : Int), .int .u64 (a1 : Int), .int .u64 (a2 : Int)] 38)) (cs := #[.int .u64 0, .int .u64 0, .int .u64 0]) rfl
  rw [World.size_alloc] at b1
  replace b0 := b0.below (below_alloc (Below.refl _ _) (.cells #[.int .u64 0, .int .u64 0, .int .u64 0] 38))
  have hw := below_alloc (below_alloc (Below.refl W.heap.size W) (.cells #[.int .u64 (a0 : Int), .int .u64 (a1 : Int), .int .u64 (a2 : Int)] 38)) (.cells #[.int .u64 0, .int .u64 0, .int .u64 0] 38)
  generalize ((W.alloc (.cells #[.int .u64 (a0 : Int), .int .u64 (a1 : Int), .int .u64 (a2 : Int)] 38)).alloc (.cells #[.int .u64 0, .int .u64 0, .int .u64 0] 38)) = w1 at b0 b1 hw ⊢
  refine (less_calls a HA.out (Nat.lt_trans HL.out (by decide)) _).mono ?_
  rintro e w2 ⟨r0, r1, r2, hn, rfl, hb2⟩
  replace b0 := b0.below hb2
  replace b1 := b1.below hb2
  replace hw := below_seq hw hb2
  have HR := hd hn
  clear hn hb2 HA
  go_wp2_with (first
    | ((with_reducible refine gate_store (t := 38) (p := 1) rfl ?_); refine op_storeA rfl rfl 38 3 _ _ rfl rfl [r0, r1, r2] rfl b0 (by kernel_rfl) rfl rfl ?_; intro w3 c0 o0; replace b1 := b1.only o0 (by omega); replace hw := below_only hw o0 (by omega); clear b0 o0)
    | ((with_reducible refine gate_dst (N := 6) rfl ?_); refine op_loadA 6 rfl rfl 38 31 3 _ rfl rfl c0 #[.int .u64 (r0 : Int), .int .u64 (r1 : Int), .int .u64 (r2 : Int)] rfl Try.underlying38 (by kernel_rfl) rfl ?_)
    | (go_at_call 14; fail))
  refine (plus_calls (lessN a) 5 HR.out rfl _).mono ?_
  rintro e w4 ⟨t0, t1, t2, hn, rfl, hb2⟩
  replace c0 := c0.below hb2
  replace b1 := b1.below hb2
  replace hw := below_seq hw hb2
  have hl := lessN_lt HL.out
  have ht := num_top hn (by omega)
  obtain ⟨h, hh⟩ : ∃ h, t2 / 4 = h := ⟨_, rfl⟩
  obtain ⟨m, hm⟩ : ∃ m, t2 % 4 = m := ⟨_, rfl⟩
  have H2 := hd (num_low hn hm)
  have e1 : (t2 : Int) / 4 = (h : Int) := by omega
  have e2 : bits .and .u64 (t2 : Int) 3 = (m : Int) := by rw [and3_u64 t2 (by obtain ⟨_, _, h⟩ := num_inj2 hn; omega), hm]
  rw [hh] at ht
  have hal := below_alloc (Below.refl w4.heap.size w4) (.cells #[.int .u64 (t0 : Int), .int .u64 (t1 : Int), .int .u64 (t2 : Int)] 38)
  have hal2 := below_alloc (Below.refl w4.heap.size w4) (.cells #[.int .u64 (t0 : Int), .int .u64 (t1 : Int), .int .u64 (m : Int)] 38)
  by_cases h0 : 0 < h
  · have q1 : decide ((0 : Int) < (h : Int)) = true := by simp; omega
    have HG := hd (rest_ge hl (by omega))
    have d2 := Arr.new (k := .u64) (T := 38) (l := [t0, t1, m]) w4 (cs := #[.int .u64 (t0 : Int), .int .u64 (t1 : Int), .int .u64 (m : Int)]) rfl
    have d1 := b1.below hal2
    have hsz : W.heap.size + 1 < w4.heap.size := b1.lt
    replace hw := below_seq hw hal2
    clear hn hl ht hh hm hb2 HR HL c0 b1 hal hal2
    go_wp2_with (first
      | ((with_reducible refine gate_dst (N := 17) rfl ?_); refine op_loadA 17 rfl rfl 38 31 3 _ rfl rfl d2 #[.int .u64 (t0 : Int), .int .u64 (t1 : Int), .int .u64 (m : Int)] rfl Try.underlying38 (by kernel_rfl) rfl ?_)
      | ((with_reducible refine gate_store (t := 38) (p := 2) rfl ?_); refine op_storeA rfl rfl 38 3 _ _ rfl rfl [t0, t1, m] rfl d1 (by kernel_rfl) rfl rfl ?_; intro w5 d1' o1))
    exact ret_cellA Try.results16 rfl d1' rfl Try.underlying38 (by kernel_rfl) rfl ⟨t0, t1, m, by rw [← HG.out]; exact H2.out, rfl, below_only hw o1 (by omega)⟩
  · have q1 : decide ((0 : Int) < (h : Int)) = false := by simp; omega
    have HG := hd (rest_lt (a := a) (by omega))
    have d1 := b1.below hal
    have d0 := c0.below hal
    replace hw := below_seq hw hal
    clear hn hl ht hh hm hb2 HL c0 b1 hal hal2
    go_wp2_with (first
      | ((with_reducible refine gate_dst (N := 18) rfl ?_); refine op_loadA 18 rfl rfl 38 31 3 _ rfl rfl d0 #[.int .u64 (r0 : Int), .int .u64 (r1 : Int), .int .u64 (r2 : Int)] rfl Try.underlying38 (by kernel_rfl) rfl ?_)
      | ((with_reducible refine gate_store (t := 38) (p := 2) rfl ?_); refine op_storeA rfl rfl 38 3 _ _ rfl rfl [r0, r1, r2] rfl d1 (by kernel_rfl) rfl rfl ?_; intro w5 d1' o1))
    exact ret_cellA Try.results16 rfl d1' rfl Try.underlying38 (by kernel_rfl) rfl ⟨r0, r1, r2, by rw [← HG.out]; exact HR.out, rfl, below_only hw o1 (by omega)⟩

end Go.Proofs.Ytkkhdjdoifnoaaa
