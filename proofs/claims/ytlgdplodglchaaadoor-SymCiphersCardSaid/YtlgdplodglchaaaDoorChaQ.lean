/- The walks through bits.RotateLeft32, chacha.Quarter, redanref07.turn and Quarter. -/
import Derived.Test.YtlgdplodglchaaaDoorProg
import Derived.Test.YtlgdplodglchaaaDoorGLib
import Derived.Test.YtlgdplodglchaaaDoorGPlain
set_option linter.unusedVariables false
set_option linter.unusedSimpArgs false
namespace Go.Proofs.YtlgdplodglchaaaDoor
open Go.RowKit Go.Proofs.YtlgdplodglchaaaDoorW.PrintWords Go.Proofs.YtlgdplodglchaaaDoorW.PrintLast Go.Proofs.YtlgdplodglchaaaDoorW.PrintMore

theorem rotl_calls {xi : Int} (x k : Nat) {ki : Int} (w : World) (hxi : xi = (x : Int)) (hki : ki = (k : Int)) (hx : x < 2 ^ 32) (hk : 0 < k) (hk2 : k < 32) :
    Calls Tryd.prog 128 #[.int .u32 xi, .int .i64 ki] w fun e w' => e = .returned (.int .u32 ((rot x k : Nat) : Int)) ∧ w = w' := by
  subst hxi; subst hki
  have h1 : IntKind.u64.wrap (k : Int) = (k : Int) := wrapN_u rfl (show k < 2 ^ 64 by omega)
  have h2 : bits .and .u64 (k : Int) 31 = (k : Int) := by
    have := (bits_u (k := .u64) rfl k (2 ^ 5 - 1) (show k < 2 ^ 64 by omega) (by decide)).1
    rw [Nat.and_two_pow_sub_one_eq_mod, Nat.mod_eq_of_lt (show k < 2 ^ 5 by omega)] at this
    exact this
  have hrb := rot_bits hx hk hk2
  rw [IntKind.wrap_u32] at hrb
  have HR := hd hrb
  clear hrb
  obtain ⟨j, hj⟩ : ∃ j : Nat, j = 32 - k := ⟨_, rfl⟩
  have h3 : (32 : Int) - (k : Int) = (j : Int) := by omega
  have hj2 : j ≤ 32 := by omega
  rw [← hj] at HR
  clear hj
  go_enter Tryd.func128, Tryd.ntmps128
  go_wp2
  go_ret
  exact ⟨by rw [← HR.out]; rfl, rfl⟩

theorem add32 (a b : Nat) : ((a : Int) + (b : Int)) % 4294967296 = (((a + b) % 2 ^ 32 : Nat) : Int) := by omega
theorem wrap64_add32 (x y : Nat) : IntKind.u64.wrap (IntKind.u32.wrap ((x : Int) + (y : Int))) = (((x + y) % 2 ^ 32 : Nat) : Int) := by
  have h1 := wrapM_u (k := .u32) rfl (x + y)
  have h2 := wrapM_u (k := .u64) rfl ((x + y) % 2 ^ 32)
  have h3 : (x + y) % 2 ^ 32 % 2 ^ 64 = (x + y) % 2 ^ 32 := Nat.mod_eq_of_lt (Nat.lt_trans (Nat.mod_lt _ (by decide)) (by decide))
  rw [show ((x + y : Nat) : Int) = (x : Int) + (y : Int) by simp] at h1
  refine (congrArg _ h1).trans (h2.trans ?_)
  exact congrArg _ h3
theorem xor32_bits {a b : Nat} (ha : a < 2 ^ 32) (hb : b < 2 ^ 32) : bits .xor .u32 (a : Int) (b : Int) = ((a ^^^ b : Nat) : Int) := (bits_u (k := .u32) rfl a b ha hb).2.2
theorem xor64_bits {a b : Nat} (ha : a < 2 ^ 32) (hb : b < 2 ^ 32) : bits .xor .u64 (a : Int) (b : Int) = ((a ^^^ b : Nat) : Int) := (bits_u (k := .u64) rfl a b (Nat.lt_trans ha (by decide)) (Nat.lt_trans hb (by decide))).2.2

set_option maxHeartbeats 1000000 in
set_option maxRecDepth 100000 in
theorem quarter_calls (a b c d : Nat) {ai bi ci di : Int} (w : World) (hai : ai = (a : Int)) (hbi : bi = (b : Int)) (hci : ci = (c : Int)) (hdi : di = (d : Int)) (ha : a < 2 ^ 32) (hb : b < 2 ^ 32) (hc : c < 2 ^ 32) (hdd : d < 2 ^ 32) :
    Calls Tryd.prog 114 #[.int .u32 ai, .int .u32 bi, .int .u32 ci, .int .u32 di] w fun e w' =>
      e = .returned (.tuple #[.int .u32 (((qr a b c d).1 : Nat) : Int), .int .u32 (((qr a b c d).2.1 : Nat) : Int), .int .u32 (((qr a b c d).2.2.1 : Nat) : Int), .int .u32 (((qr a b c d).2.2.2 : Nat) : Int)]) ∧ w = w' := by
  subst hai; subst hbi; subst hci; subst hdi
  obtain ⟨q, hq⟩ : ∃ q, qr a b c d = q := ⟨_, rfl⟩
  have HQ := hd hq
  rw [hq]
  unfold qr at hq
  simp only at hq
  obtain ⟨a1, ha1⟩ : ∃ a1, (a + b) % 2 ^ 32 = a1 := ⟨_, rfl⟩
  have la1 : a1 < 2 ^ 32 := by rw [← ha1]; exact mod32 _
  have fa1 := add32 a b
  rw [ha1] at hq fa1
  have fx1 := xor32_bits hdd la1
  have lx1 := xor32 hdd la1
  obtain ⟨x1, hx1⟩ : ∃ x1, d ^^^ a1 = x1 := ⟨_, rfl⟩
  rw [hx1] at hq fx1 lx1
  obtain ⟨d1, hd1⟩ : ∃ d1, rot x1 16 = d1 := ⟨_, rfl⟩
  have ld1 : d1 < 2 ^ 32 := by rw [← hd1]; exact rot_lt lx1 (by decide)
  rw [hd1] at hq
  obtain ⟨c1, hc1⟩ : ∃ c1, (c + d1) % 2 ^ 32 = c1 := ⟨_, rfl⟩
  have lc1 : c1 < 2 ^ 32 := by rw [← hc1]; exact mod32 _
  have fc1 := add32 c d1
  rw [hc1] at hq fc1
  have fx2 := xor32_bits hb lc1
  have lx2 := xor32 hb lc1
  obtain ⟨x2, hx2⟩ : ∃ x2, b ^^^ c1 = x2 := ⟨_, rfl⟩
  rw [hx2] at hq fx2 lx2
  obtain ⟨b1, hb1⟩ : ∃ b1, rot x2 12 = b1 := ⟨_, rfl⟩
  have lb1 : b1 < 2 ^ 32 := by rw [← hb1]; exact rot_lt lx2 (by decide)
  rw [hb1] at hq
  obtain ⟨a2, ha2⟩ : ∃ a2, (a1 + b1) % 2 ^ 32 = a2 := ⟨_, rfl⟩
  have la2 : a2 < 2 ^ 32 := by rw [← ha2]; exact mod32 _
  have fa2 := add32 a1 b1
  rw [ha2] at hq fa2
  have fx3 := xor32_bits ld1 la2
  have lx3 := xor32 ld1 la2
  obtain ⟨x3, hx3⟩ : ∃ x3, d1 ^^^ a2 = x3 := ⟨_, rfl⟩
  rw [hx3] at hq fx3 lx3
  obtain ⟨d2, hd2⟩ : ∃ d2, rot x3 8 = d2 := ⟨_, rfl⟩
  have ld2 : d2 < 2 ^ 32 := by rw [← hd2]; exact rot_lt lx3 (by decide)
  rw [hd2] at hq
  obtain ⟨c2, hc2⟩ : ∃ c2, (c1 + d2) % 2 ^ 32 = c2 := ⟨_, rfl⟩
  have lc2 : c2 < 2 ^ 32 := by rw [← hc2]; exact mod32 _
  have fc2 := add32 c1 d2
  rw [hc2] at hq fc2
  have fx4 := xor32_bits lb1 lc2
  have lx4 := xor32 lb1 lc2
  obtain ⟨x4, hx4⟩ : ∃ x4, b1 ^^^ c2 = x4 := ⟨_, rfl⟩
  rw [hx4] at hq fx4 lx4
  obtain ⟨b2, hb2⟩ : ∃ b2, rot x4 7 = b2 := ⟨_, rfl⟩
  rw [hb2] at hq
  subst hq
  have R1 := hd hd1
  have R2 := hd hb1
  have R3 := hd hd2
  have R4 := hd hb2
  clear ha1 hx1 hd1 hc1 hx2 hb1 ha2 hx3 hd2 hc2 hx4 hb2 HQ
  go_enter Tryd.func114, Tryd.ntmps114
  go_wp2_with fail
  refine (rotl_calls x1 16 _ rfl rfl lx1 (by decide) (by decide)).mono ?_
  rintro e w' ⟨rfl, rfl⟩
  rw [R1.out]
  go_wp2_with fail
  refine (rotl_calls x2 12 _ rfl rfl lx2 (by decide) (by decide)).mono ?_
  rintro e w' ⟨rfl, rfl⟩
  rw [R2.out]
  go_wp2_with fail
  refine (rotl_calls x3 8 _ rfl rfl lx3 (by decide) (by decide)).mono ?_
  rintro e w' ⟨rfl, rfl⟩
  rw [R3.out]
  go_wp2_with fail
  refine (rotl_calls x4 7 _ rfl rfl lx4 (by decide) (by decide)).mono ?_
  rintro e w' ⟨rfl, rfl⟩
  rw [R4.out]
  go_wp2_with fail
  exact bodyPost_ret (v := .tuple #[.int .u32 (a2 : Int), .int .u32 (b2 : Int), .int .u32 (c2 : Int), .int .u32 (d2 : Int)]) (by simp [results, Tryd.results114, go_sem]) rfl ⟨rfl, rfl⟩

/-- A word turned bit by bit. -/
theorem turn_calls (x n : Nat) {xi ni : Int} (w : World) (hxi : xi = (x : Int)) (hni : ni = (n : Int)) (hx : x < 2 ^ 32) (hn : n ≤ 32) :
    Calls Tryd.prog 132 #[.int .u64 xi, .int .i64 ni] w fun e w' => e = .returned (.int .u64 ((rot x n : Nat) : Int)) ∧ w = w' := by
  subst hxi; subst hni
  have HX := hd hx
  clear hx
  go_enter Tryd.func132, Tryd.ntmps132
  go_wp2
  go_loop [0, 5] (fun v i => ∃ k y : Nat, k ≤ n ∧ i = .int .i64 k ∧ v = .int .u64 (y : Int) ∧ y < 4294967296 ∧ Aside0 (rot x k = y)) (fun _ i => n - (intOf i).toNat)
  case atStart => exact ⟨0, x, Nat.zero_le _, rfl, rfl, HX.out, ⟨rot_zero HX.out⟩⟩
  case round =>
    obtain ⟨k, y, hk, rfl, rfl, hy, HY⟩ := hrel
    by_cases hlt : k < n
    · have hs := hd (rot_succ HX.out (show k < 32 by omega))
      by_cases h2 : 4294967296 ≤ y * 2
      · have q : decide ((4294967296 : Int) ≤ (y : Int) * 2) = true := by simp; omega
        go_wp2
        go_round
        case rel =>
          have h3 := hs.out
          rw [HY.out, if_pos h2] at h3
          exact ⟨k + 1, y * 2 - 4294967296 + 1, by omega, by go_num, by congr 1; omega, by omega, ⟨h3⟩⟩
        case measure => simp [intOf]; omega
      · have q : decide ((4294967296 : Int) ≤ (y : Int) * 2) = false := by simp; omega
        go_wp2
        go_round
        case rel =>
          have h3 := hs.out
          rw [HY.out, if_neg h2] at h3
          exact ⟨k + 1, y * 2, by omega, by go_num, by go_num, by omega, ⟨h3⟩⟩
        case measure => simp [intOf]; omega
    · go_wp2
      go_ret
      obtain rfl : k = n := by omega
      exact ⟨by rw [HY.out]; rfl, rfl⟩

/-- Half a quarter round. -/
def hr (s : Nat × Nat × Nat × Nat) (p q : Nat) : Nat × Nat × Nat × Nat :=
  let a1 := (s.1 + s.2.1) % 2 ^ 32
  let d1 := rot (s.2.2.2 ^^^ a1) p
  let c1 := (s.2.2.1 + d1) % 2 ^ 32
  let b1 := rot (s.2.1 ^^^ c1) q
  (a1, b1, c1, d1)
def Small (s : Nat × Nat × Nat × Nat) : Prop := s.1 < 2 ^ 32 ∧ s.2.1 < 2 ^ 32 ∧ s.2.2.1 < 2 ^ 32 ∧ s.2.2.2 < 2 ^ 32
theorem hr_small {s : Nat × Nat × Nat × Nat} (h : Small s) {p q : Nat} (hp : p ≤ 32) (hq : q ≤ 32) : Small (hr s p q) := by
  obtain ⟨h1, h2, h3, h4⟩ := h
  have l1 := mod32 (s.1 + s.2.1)
  have l2 := rot_lt (k := p) (xor32 h4 l1) hp
  exact ⟨l1, rot_lt (xor32 h2 (mod32 _)) hq, mod32 _, l2⟩
theorem add64 {a b : Nat} (ha : a < 2 ^ 32) (hb : b < 2 ^ 32) : ((a : Int) + (b : Int)) % 4294967296 = (((a + b) % 2 ^ 32 : Nat) : Int) := by omega

set_option maxHeartbeats 2000000 in
set_option maxRecDepth 100000 in
theorem refquarter_calls (a b c d : Nat) {ai bi ci di : Int} (w : World) (hai : ai = (a : Int)) (hbi : bi = (b : Int)) (hci : ci = (c : Int)) (hdi : di = (d : Int)) (ha : a < 2 ^ 32) (hb : b < 2 ^ 32) (hc : c < 2 ^ 32) (hdd : d < 2 ^ 32) :
    Calls Tryd.prog 119 #[.int .u64 ai, .int .u64 bi, .int .u64 ci, .int .u64 di] w fun e w' =>
      e = .returned (.tuple #[.int .u64 (((qr a b c d).1 : Nat) : Int), .int .u64 (((qr a b c d).2.1 : Nat) : Int), .int .u64 (((qr a b c d).2.2.1 : Nat) : Int), .int .u64 (((qr a b c d).2.2.2 : Nat) : Int)]) ∧ Below w.heap.size w w' := by
  subst hai; subst hbi; subst hci; subst hdi
  obtain ⟨s0, hs0⟩ : ∃ s : Nat × Nat × Nat × Nat, s = (a, b, c, d) := ⟨_, rfl⟩
  have hsm : Small s0 := by rw [hs0]; exact ⟨ha, hb, hc, hdd⟩
  have e1 : a = s0.1 := by rw [hs0]
  have e2 : b = s0.2.1 := by rw [hs0]
  have e3 : c = s0.2.2.1 := by rw [hs0]
  have e4 : d = s0.2.2.2 := by rw [hs0]
  have HQ := hd (show qr a b c d = hr (hr s0 16 12) 8 7 by rw [hs0]; rfl)
  rw [HQ.out]
  subst e1; subst e2; subst e3; subst e4
  have HS := hd hsm
  clear hs0 hsm ha hb hc hdd HQ
  go_enter Tryd.func119, Tryd.ntmps119
  go_wp2
  go_loop [0, 1, 2, 3, 13] (fun a b c d i => ∃ (k : Nat) (s : Nat × Nat × Nat × Nat), i = .int .i64 (2 * k : Nat) ∧ a = .int .u64 (s.1 : Int) ∧ b = .int .u64 (s.2.1 : Int) ∧ c = .int .u64 (s.2.2.1 : Int) ∧ d = .int .u64 (s.2.2.2 : Int) ∧ Aside0 (Small s ∧ (k = 0 ∧ s = s0 ∨ k = 1 ∧ s = hr s0 16 12 ∨ k = 2 ∧ s = hr (hr s0 16 12) 8 7))) (fun _ _ _ _ i => 4 - (intOf i).toNat)
  case atStart => exact ⟨0, s0, rfl, rfl, rfl, rfl, rfl, ⟨HS.out, Or.inl ⟨rfl, rfl⟩⟩⟩
  case round =>
    obtain ⟨k, s, rfl, rfl, rfl, rfl, rfl, HR⟩ := hrel
    have half : ∀ p q : Nat, p ≤ 31 → q ≤ 31 → 0 < p → 0 < q → True := fun _ _ _ _ _ _ => trivial
    clear half
    have hk : k = 0 ∨ k = 1 ∨ k = 2 := by rcases HR.out.2 with h | h | h <;> simp [h.1]
    obtain ⟨a, b, c, d⟩ := s
    obtain ⟨la, lb, lc, ld⟩ := HR.out.1
    simp only at la lb lc ld ⊢
    obtain ⟨a1, ha1⟩ : ∃ a1, (a + b) % 2 ^ 32 = a1 := ⟨_, rfl⟩
    have la1 : a1 < 2 ^ 32 := by rw [← ha1]; exact mod32 _
    have fa1 := add64 la lb
    rw [ha1] at fa1
    have fx1 := xor64_bits ld la1
    have lx1 := xor32 ld la1
    rcases hk with rfl | rfl | rfl
    · have hs : (a, b, c, d) = s0 := by
        rcases HR.out.2 with h | h | h
        · exact h.2
        · exact absurd h.1 (by decide)
        · exact absurd h.1 (by decide)
      have HSS := hd hs
      obtain ⟨x1, hx1⟩ : ∃ x1, d ^^^ a1 = x1 := ⟨_, rfl⟩
      rw [hx1] at fx1 lx1
      obtain ⟨d1, hd1⟩ : ∃ d1, rot x1 16 = d1 := ⟨_, rfl⟩
      have ld1 : d1 < 2 ^ 32 := by rw [← hd1]; exact rot_lt lx1 (by decide)
      obtain ⟨c1, hc1⟩ : ∃ c1, (c + d1) % 2 ^ 32 = c1 := ⟨_, rfl⟩
      have lc1 : c1 < 2 ^ 32 := by rw [← hc1]; exact mod32 _
      have fc1 := add64 lc ld1
      rw [hc1] at fc1
      have fx2 := xor64_bits lb lc1
      have lx2 := xor32 lb lc1
      obtain ⟨x2, hx2⟩ : ∃ x2, b ^^^ c1 = x2 := ⟨_, rfl⟩
      rw [hx2] at fx2 lx2
      obtain ⟨b1, hb1⟩ : ∃ b1, rot x2 12 = b1 := ⟨_, rfl⟩
      have hout := hd (show hr (a, b, c, d) 16 12 = (a1, b1, c1, d1) by unfold hr; simp only; rw [ha1, hx1, hd1, hc1, hx2, hb1])
      have hsmall := hd (hr_small (s := (a, b, c, d)) (p := 16) (q := 12) HR.out.1 (by decide) (by decide))
      have R1 := hd hd1
      have R2 := hd hb1
      clear ha1 hx1 hd1 hc1 hx2 hb1 hs HR
      go_wp2_with fail
      refine (turn_calls x1 16 _ rfl rfl lx1 (by decide)).mono ?_
      rintro e w' ⟨rfl, rfl⟩
      rw [R1.out]
      go_wp2_with fail
      refine (turn_calls x2 12 _ rfl rfl lx2 (by decide)).mono ?_
      rintro e w' ⟨rfl, rfl⟩
      rw [R2.out]
      go_wp2_with fail
      refine ⟨⟨1, (a1, b1, c1, d1), rfl, rfl, rfl, rfl, rfl, ⟨?_⟩⟩, by simp [intOf]⟩
      rw [← hout.out]
      exact ⟨hsmall.out, by rw [HSS.out]; simp⟩
    · have hs : (a, b, c, d) = hr s0 16 12 := by
        rcases HR.out.2 with h | h | h
        · exact absurd h.1 (by decide)
        · exact h.2
        · exact absurd h.1 (by decide)
      have HSS := hd hs
      obtain ⟨x1, hx1⟩ : ∃ x1, d ^^^ a1 = x1 := ⟨_, rfl⟩
      rw [hx1] at fx1 lx1
      obtain ⟨d1, hd1⟩ : ∃ d1, rot x1 8 = d1 := ⟨_, rfl⟩
      have ld1 : d1 < 2 ^ 32 := by rw [← hd1]; exact rot_lt lx1 (by decide)
      obtain ⟨c1, hc1⟩ : ∃ c1, (c + d1) % 2 ^ 32 = c1 := ⟨_, rfl⟩
      have lc1 : c1 < 2 ^ 32 := by rw [← hc1]; exact mod32 _
      have fc1 := add64 lc ld1
      rw [hc1] at fc1
      have fx2 := xor64_bits lb lc1
      have lx2 := xor32 lb lc1
      obtain ⟨x2, hx2⟩ : ∃ x2, b ^^^ c1 = x2 := ⟨_, rfl⟩
      rw [hx2] at fx2 lx2
      obtain ⟨b1, hb1⟩ : ∃ b1, rot x2 7 = b1 := ⟨_, rfl⟩
      have hout := hd (show hr (a, b, c, d) 8 7 = (a1, b1, c1, d1) by unfold hr; simp only; rw [ha1, hx1, hd1, hc1, hx2, hb1])
      have hsmall := hd (hr_small (s := (a, b, c, d)) (p := 8) (q := 7) HR.out.1 (by decide) (by decide))
      have R1 := hd hd1
      have R2 := hd hb1
      clear ha1 hx1 hd1 hc1 hx2 hb1 hs HR
      go_wp2_with fail
      refine (turn_calls x1 8 _ rfl rfl lx1 (by decide)).mono ?_
      rintro e w' ⟨rfl, rfl⟩
      rw [R1.out]
      go_wp2_with fail
      refine (turn_calls x2 7 _ rfl rfl lx2 (by decide)).mono ?_
      rintro e w' ⟨rfl, rfl⟩
      rw [R2.out]
      go_wp2_with fail
      refine ⟨⟨2, (a1, b1, c1, d1), rfl, rfl, rfl, rfl, rfl, ⟨?_⟩⟩, by simp [intOf]⟩
      rw [← hout.out]
      exact ⟨hsmall.out, by rw [HSS.out]; simp⟩
    · have hs : (a, b, c, d) = hr (hr s0 16 12) 8 7 := by
        rcases HR.out.2 with h | h | h
        · exact absurd h.1 (by decide)
        · exact absurd h.1 (by decide)
        · exact h.2
      have HS2 := hd hs
      clear hs
      go_wp2
      exact bodyPost_ret (v := .tuple #[.int .u64 (a : Int), .int .u64 (b : Int), .int .u64 (c : Int), .int .u64 (d : Int)]) (by simp [results, Tryd.results119, go_sem]) rfl ⟨by rw [← HS2.out], below_alloc (Below.refl _ _) _⟩
end Go.Proofs.YtlgdplodglchaaaDoor
