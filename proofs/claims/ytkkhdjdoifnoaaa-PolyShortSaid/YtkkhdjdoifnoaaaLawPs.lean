/- The walk through redanlaw08.PolyShort. -/
import Derived.Test.YtkkhdjdoifnoaaaPolAwake
import Derived.Test.YtkkhdjdoifnoaaaPolShortP
set_option linter.unusedVariables false
set_option linter.unusedSimpArgs false
namespace Go.Proofs.Ytkkhdjdoifnoaaa
open Go.RowKit Go.Proofs.YtkkhdjdoifnoaaaW.PrintWords Go.Proofs.YtkkhdjdoifnoaaaW.PrintLast Go.Proofs.YtkkhdjdoifnoaaaW.PrintMore

theorem and56_u64 (x : Nat) (hx : x < 18446744073709551616) : bits .and .u64 (x : Int) 72057594037927935 = ((x % 72057594037927936 : Nat) : Int) := by
  have h := (bits_u (k := .u64) rfl x 72057594037927935 hx (by decide)).1
  rw [show x &&& 72057594037927935 = x % 72057594037927936 from Nat.and_two_pow_sub_one_eq_mod x 56] at h
  exact h
set_option maxHeartbeats 2000000 in
set_option maxRecDepth 100000 in
theorem polyShort_walk (W : World) (a0 : Int) (w0 : (Lit.int .u8 a0).wf = true) (a1 : Int) (w1 : (Lit.int .u64 a1).wf = true) :
    Calls Try.prog 6 #[.int .u8 a0, .int .u64 a1] W fun e w' => e = .returned (.bool true) ∧ Below W.heap.size W w' := by
  obtain ⟨c, rfl, hc⟩ : ∃ c : Nat, a0 = (c : Int) ∧ c < 256 := by
    simp [Lit.wf, IntKind.min, IntKind.max, IntKind.signed, IntKind.bits] at w0
    exact ⟨a0.toNat, by omega, by omega⟩
  obtain ⟨s, rfl, hs⟩ : ∃ s : Nat, a1 = (s : Int) ∧ s < 18446744073709551616 := by
    simp [Lit.wf, IntKind.min, IntKind.max, IntKind.signed, IntKind.bits] at w1
    exact ⟨a1.toNat, by omega, by omega⟩
  have HC := hd hc
  have HS := hd hs
  clear w0 w1 hs hc
  go_enter Try.func6, Try.ntmps6
  go_wp2_with (first
    | (go_at_call 8; refine (awake_calls _).mono ?_; rintro e w1 ⟨rfl, hb1⟩)
    | ((with_reducible refine gate_dst (N := 14) rfl ?_); refine op_make 14 rfl 5 22 _ _ rfl rfl 32 rfl rfl Try.underlying22 Try.infoU8 (by decide) 32 rfl (by decide) ?_; intro A4 c4 w4 hc4 ho4 hb4; obtain ⟨g1, rfl, hg4, _⟩ := ho4.at_ (by decide); obtain ⟨y4, HY4, hcell4, hfr4⟩ := ho4.cellx 0 (by decide); have hput4 := hd (ho4.put 0 1); clear ho4))
  have hb5 := below_seq hb1 (hb4.setCell (p := ⟨g1, 0, none⟩) hg4 (.int .u8 1))
  have hg1 : W.heap.size ≤ g1 := Nat.le_trans hb1.size hg4
  have ho5 := hput4.out.lower hb1.size
  clear hput4 hcell4 hfr4 HY4 hb1 hb4 hg4
  rw [show ((1 : Nat) : Int) = 1 from rfl] at ho5
  generalize w4.setCell ⟨g1, 0, none⟩ (.int .u8 1) = w5 at ho5 hb5 ⊢
  go_loopw [7] (fun i wr => ∃ m : Nat, m ≤ 7 ∧ i = .int .i64 m ∧ OwnK .u8 5 W.heap.size wr (.slice (some ⟨g1, 0, none⟩) 32 c4) (shortL s m) ∧ Below W.heap.size W wr) (fun i _ => 7 - (intOf i).toNat)
  case atStart => exact ⟨0, by omega, rfl, ho5, hb5⟩
  case round =>
    clear ho5 hb5
    obtain ⟨m, hm, rfl, ho, hb⟩ := hrel
    by_cases hlt : m < 7
    · have hm012 : m = 0 ∨ m = 1 ∨ m = 2 ∨ m = 3 ∨ m = 4 ∨ m = 5 ∨ m = 6 := by omega
      rcases hm012 with rfl | rfl | rfl | rfl | rfl | rfl | rfl
      · obtain ⟨y, HY, hcell, hfr⟩ := ho.cellx 16 (by decide)
        obtain ⟨z, HZ⟩ : ∃ z, Aside0 (s / 256 ^ 0 % 256 = z) := ⟨_, ⟨rfl⟩⟩
        have hz : IntKind.u8.wrap (s : Int) = (z : Int) := by rw [← HZ.out, IntKind.wrap_u8]; omega
        have hput := hd (ho.put 16 z)
        clear ho
        go_wp2
        go_roundw
        case rel =>
          refine ⟨1, by omega, rfl, ?_, hb.setCell hg1 _⟩
          rw [shortL, HZ.out]
          exact hput.out
        case measure => simp [intOf]
      · obtain ⟨y, HY, hcell, hfr⟩ := ho.cellx 17 (by decide)
        obtain ⟨z, HZ⟩ : ∃ z, Aside0 (s / 256 ^ 1 % 256 = z) := ⟨_, ⟨rfl⟩⟩
        have hz : IntKind.u8.wrap ((s : Int) / 256) = (z : Int) := by rw [← HZ.out, IntKind.wrap_u8]; omega
        have hput := hd (ho.put 17 z)
        clear ho
        go_wp2
        go_roundw
        case rel =>
          refine ⟨2, by omega, rfl, ?_, hb.setCell hg1 _⟩
          rw [shortL, HZ.out]
          exact hput.out
        case measure => simp [intOf]
      · obtain ⟨y, HY, hcell, hfr⟩ := ho.cellx 18 (by decide)
        obtain ⟨z, HZ⟩ : ∃ z, Aside0 (s / 256 ^ 2 % 256 = z) := ⟨_, ⟨rfl⟩⟩
        have hz : IntKind.u8.wrap ((s : Int) / 65536) = (z : Int) := by rw [← HZ.out, IntKind.wrap_u8]; omega
        have hput := hd (ho.put 18 z)
        clear ho
        go_wp2
        go_roundw
        case rel =>
          refine ⟨3, by omega, rfl, ?_, hb.setCell hg1 _⟩
          rw [shortL, HZ.out]
          exact hput.out
        case measure => simp [intOf]
      · obtain ⟨y, HY, hcell, hfr⟩ := ho.cellx 19 (by decide)
        obtain ⟨z, HZ⟩ : ∃ z, Aside0 (s / 256 ^ 3 % 256 = z) := ⟨_, ⟨rfl⟩⟩
        have hz : IntKind.u8.wrap ((s : Int) / 16777216) = (z : Int) := by rw [← HZ.out, IntKind.wrap_u8]; omega
        have hput := hd (ho.put 19 z)
        clear ho
        go_wp2
        go_roundw
        case rel =>
          refine ⟨4, by omega, rfl, ?_, hb.setCell hg1 _⟩
          rw [shortL, HZ.out]
          exact hput.out
        case measure => simp [intOf]
      · obtain ⟨y, HY, hcell, hfr⟩ := ho.cellx 20 (by decide)
        obtain ⟨z, HZ⟩ : ∃ z, Aside0 (s / 256 ^ 4 % 256 = z) := ⟨_, ⟨rfl⟩⟩
        have hz : IntKind.u8.wrap ((s : Int) / 4294967296) = (z : Int) := by rw [← HZ.out, IntKind.wrap_u8]; omega
        have hput := hd (ho.put 20 z)
        clear ho
        go_wp2
        go_roundw
        case rel =>
          refine ⟨5, by omega, rfl, ?_, hb.setCell hg1 _⟩
          rw [shortL, HZ.out]
          exact hput.out
        case measure => simp [intOf]
      · obtain ⟨y, HY, hcell, hfr⟩ := ho.cellx 21 (by decide)
        obtain ⟨z, HZ⟩ : ∃ z, Aside0 (s / 256 ^ 5 % 256 = z) := ⟨_, ⟨rfl⟩⟩
        have hz : IntKind.u8.wrap ((s : Int) / 1099511627776) = (z : Int) := by rw [← HZ.out, IntKind.wrap_u8]; omega
        have hput := hd (ho.put 21 z)
        clear ho
        go_wp2
        go_roundw
        case rel =>
          refine ⟨6, by omega, rfl, ?_, hb.setCell hg1 _⟩
          rw [shortL, HZ.out]
          exact hput.out
        case measure => simp [intOf]
      · obtain ⟨y, HY, hcell, hfr⟩ := ho.cellx 22 (by decide)
        obtain ⟨z, HZ⟩ : ∃ z, Aside0 (s / 256 ^ 6 % 256 = z) := ⟨_, ⟨rfl⟩⟩
        have hz : IntKind.u8.wrap ((s : Int) / 281474976710656) = (z : Int) := by rw [← HZ.out, IntKind.wrap_u8]; omega
        have hput := hd (ho.put 22 z)
        clear ho
        go_wp2
        go_roundw
        case rel =>
          refine ⟨7, by omega, rfl, ?_, hb.setCell hg1 _⟩
          rw [shortL, HZ.out]
          exact hput.out
        case measure => simp [intOf]
    · obtain rfl : m = 7 := by omega
      have hone : Bytes (wr.alloc (.cells #[.int .u8 (c : Int)] 5)) (some ⟨wr.heap.size, 0, none⟩) 1 1 [c] := ⟨RowK.new [c] rfl (by simp), rfl, Nat.le_refl _, fun x hx => by simp at hx; rw [hx]; exact HC.out⟩
      have hal := below_alloc (Below.refl wr.heap.size wr) (.cells #[.int .u8 (c : Int)] 5)
      have hk := (ho.bytesOf (shortL_ok s 7)).below hal
      replace hb := below_seq hb hal
      have HKK := hd (And.intro hk hone)
      clear ho hone hal hk
      go_wp2_with fail
      refine (mac_calls HKK.out.1 HKK.out.2 (by decide)).mono ?_
      rintro e w9 ⟨v9, rfl, ho9, hb9⟩
      obtain ⟨A9, c9, rfl, h9⟩ := ho9.bytes 16 (macL_length _ _) (macL_ok _ _)
      obtain ⟨g9, rfl, _, _⟩ := ho9.at_ (by decide)
      replace hb := below_seq hb hb9
      have H9 := hd h9
      have hc9 := h9.2.2.1
      clear ho9 h9 hb9 HKK
      go_wp2_with fail
      go_loop [9, 10] (fun n i => ∃ m n' : Nat, m ≤ 8 ∧ i = .int .i64 m ∧ n = .int .u64 (n' : Int) ∧ loadN ((macL (shortL s 7) [c]).take m) = n') (fun _ i => 8 - (intOf i).toNat)
      case atStart => exact ⟨0, 0, by omega, rfl, rfl, rfl⟩
      case round =>
        obtain ⟨m, n, hm, rfl, rfl, hn⟩ := hrel
        have HNN := hd hn
        clear hn
        by_cases hlt : m < 8
        · have hm012 : m = 0 ∨ m = 1 ∨ m = 2 ∨ m = 3 ∨ m = 4 ∨ m = 5 ∨ m = 6 ∨ m = 7 := by omega
          rcases hm012 with rfl | rfl | rfl | rfl | rfl | rfl | rfl | rfl
          · obtain ⟨ad, y, e9, HY, hcell⟩ := H9.out.1.at_ 0 (by rw [macL_length]; decide)
            obtain rfl := Option.some.inj e9
            replace hcell : w9.cell? ⟨g9, 0, none⟩ = some (.int .u8 (y : Int)) := hcell
            have hy : y < 256 := by rw [← HY.out]; exact (macL_ok _ _).getD 0
            obtain ⟨t, HT⟩ : ∃ t, Aside0 (y * 256 ^ 0 = t) := ⟨_, ⟨rfl⟩⟩
            have hyw := wrap_u64_small y (by omega)
            have ht : IntKind.u64.wrap (y : Int) = (t : Int) := by rw [← HT.out, IntKind.wrap_u64]; omega
            have hstep := short_load s c 0 (by decide)
            rw [HY.out, HT.out, HNN.out] at hstep
            have hlt2 := short_lt s c 1
            rw [hstep] at hlt2
            have hsum := wrap_u64_sum n t (by omega)
            obtain ⟨u, HU⟩ : ∃ u, Aside0 (n + t = u) := ⟨_, ⟨rfl⟩⟩
            rw [HU.out] at hsum
            rw [show (t : Int) = (y : Int) by have := HT.out; omega] at hsum
            have HST := hd (hstep.trans HU.out)
            clear hstep hlt2 e9 hy
            go_wp2
            go_round
            case rel => exact ⟨1, u, by omega, rfl, rfl, HST.out⟩
            case measure => simp [intOf]
          · obtain ⟨ad, y, e9, HY, hcell⟩ := H9.out.1.at_ 1 (by rw [macL_length]; decide)
            obtain rfl := Option.some.inj e9
            replace hcell : w9.cell? ⟨g9, 1, none⟩ = some (.int .u8 (y : Int)) := hcell
            have hy : y < 256 := by rw [← HY.out]; exact (macL_ok _ _).getD 1
            obtain ⟨t, HT⟩ : ∃ t, Aside0 (y * 256 ^ 1 = t) := ⟨_, ⟨rfl⟩⟩
            have hyw := wrap_u64_small y (by omega)
            have ht : IntKind.u64.wrap ((y : Int) * 256) = (t : Int) := by rw [← HT.out, IntKind.wrap_u64]; omega
            have hstep := short_load s c 1 (by decide)
            rw [HY.out, HT.out, HNN.out] at hstep
            have hlt2 := short_lt s c 2
            rw [hstep] at hlt2
            have hsum := wrap_u64_sum n t (by omega)
            obtain ⟨u, HU⟩ : ∃ u, Aside0 (n + t = u) := ⟨_, ⟨rfl⟩⟩
            rw [HU.out] at hsum
            have HST := hd (hstep.trans HU.out)
            clear hstep hlt2 e9 hy
            go_wp2
            go_round
            case rel => exact ⟨2, u, by omega, rfl, rfl, HST.out⟩
            case measure => simp [intOf]
          · obtain ⟨ad, y, e9, HY, hcell⟩ := H9.out.1.at_ 2 (by rw [macL_length]; decide)
            obtain rfl := Option.some.inj e9
            replace hcell : w9.cell? ⟨g9, 2, none⟩ = some (.int .u8 (y : Int)) := hcell
            have hy : y < 256 := by rw [← HY.out]; exact (macL_ok _ _).getD 2
            obtain ⟨t, HT⟩ : ∃ t, Aside0 (y * 256 ^ 2 = t) := ⟨_, ⟨rfl⟩⟩
            have hyw := wrap_u64_small y (by omega)
            have ht : IntKind.u64.wrap ((y : Int) * 65536) = (t : Int) := by rw [← HT.out, IntKind.wrap_u64]; omega
            have hstep := short_load s c 2 (by decide)
            rw [HY.out, HT.out, HNN.out] at hstep
            have hlt2 := short_lt s c 3
            rw [hstep] at hlt2
            have hsum := wrap_u64_sum n t (by omega)
            obtain ⟨u, HU⟩ : ∃ u, Aside0 (n + t = u) := ⟨_, ⟨rfl⟩⟩
            rw [HU.out] at hsum
            have HST := hd (hstep.trans HU.out)
            clear hstep hlt2 e9 hy
            go_wp2
            go_round
            case rel => exact ⟨3, u, by omega, rfl, rfl, HST.out⟩
            case measure => simp [intOf]
          · obtain ⟨ad, y, e9, HY, hcell⟩ := H9.out.1.at_ 3 (by rw [macL_length]; decide)
            obtain rfl := Option.some.inj e9
            replace hcell : w9.cell? ⟨g9, 3, none⟩ = some (.int .u8 (y : Int)) := hcell
            have hy : y < 256 := by rw [← HY.out]; exact (macL_ok _ _).getD 3
            obtain ⟨t, HT⟩ : ∃ t, Aside0 (y * 256 ^ 3 = t) := ⟨_, ⟨rfl⟩⟩
            have hyw := wrap_u64_small y (by omega)
            have ht : IntKind.u64.wrap ((y : Int) * 16777216) = (t : Int) := by rw [← HT.out, IntKind.wrap_u64]; omega
            have hstep := short_load s c 3 (by decide)
            rw [HY.out, HT.out, HNN.out] at hstep
            have hlt2 := short_lt s c 4
            rw [hstep] at hlt2
            have hsum := wrap_u64_sum n t (by omega)
            obtain ⟨u, HU⟩ : ∃ u, Aside0 (n + t = u) := ⟨_, ⟨rfl⟩⟩
            rw [HU.out] at hsum
            have HST := hd (hstep.trans HU.out)
            clear hstep hlt2 e9 hy
            go_wp2
            go_round
            case rel => exact ⟨4, u, by omega, rfl, rfl, HST.out⟩
            case measure => simp [intOf]
          · obtain ⟨ad, y, e9, HY, hcell⟩ := H9.out.1.at_ 4 (by rw [macL_length]; decide)
            obtain rfl := Option.some.inj e9
            replace hcell : w9.cell? ⟨g9, 4, none⟩ = some (.int .u8 (y : Int)) := hcell
            have hy : y < 256 := by rw [← HY.out]; exact (macL_ok _ _).getD 4
            obtain ⟨t, HT⟩ : ∃ t, Aside0 (y * 256 ^ 4 = t) := ⟨_, ⟨rfl⟩⟩
            have hyw := wrap_u64_small y (by omega)
            have ht : IntKind.u64.wrap ((y : Int) * 4294967296) = (t : Int) := by rw [← HT.out, IntKind.wrap_u64]; omega
            have hstep := short_load s c 4 (by decide)
            rw [HY.out, HT.out, HNN.out] at hstep
            have hlt2 := short_lt s c 5
            rw [hstep] at hlt2
            have hsum := wrap_u64_sum n t (by omega)
            obtain ⟨u, HU⟩ : ∃ u, Aside0 (n + t = u) := ⟨_, ⟨rfl⟩⟩
            rw [HU.out] at hsum
            have HST := hd (hstep.trans HU.out)
            clear hstep hlt2 e9 hy
            go_wp2
            go_round
            case rel => exact ⟨5, u, by omega, rfl, rfl, HST.out⟩
            case measure => simp [intOf]
          · obtain ⟨ad, y, e9, HY, hcell⟩ := H9.out.1.at_ 5 (by rw [macL_length]; decide)
            obtain rfl := Option.some.inj e9
            replace hcell : w9.cell? ⟨g9, 5, none⟩ = some (.int .u8 (y : Int)) := hcell
            have hy : y < 256 := by rw [← HY.out]; exact (macL_ok _ _).getD 5
            obtain ⟨t, HT⟩ : ∃ t, Aside0 (y * 256 ^ 5 = t) := ⟨_, ⟨rfl⟩⟩
            have hyw := wrap_u64_small y (by omega)
            have ht : IntKind.u64.wrap ((y : Int) * 1099511627776) = (t : Int) := by rw [← HT.out, IntKind.wrap_u64]; omega
            have hstep := short_load s c 5 (by decide)
            rw [HY.out, HT.out, HNN.out] at hstep
            have hlt2 := short_lt s c 6
            rw [hstep] at hlt2
            have hsum := wrap_u64_sum n t (by omega)
            obtain ⟨u, HU⟩ : ∃ u, Aside0 (n + t = u) := ⟨_, ⟨rfl⟩⟩
            rw [HU.out] at hsum
            have HST := hd (hstep.trans HU.out)
            clear hstep hlt2 e9 hy
            go_wp2
            go_round
            case rel => exact ⟨6, u, by omega, rfl, rfl, HST.out⟩
            case measure => simp [intOf]
          · obtain ⟨ad, y, e9, HY, hcell⟩ := H9.out.1.at_ 6 (by rw [macL_length]; decide)
            obtain rfl := Option.some.inj e9
            replace hcell : w9.cell? ⟨g9, 6, none⟩ = some (.int .u8 (y : Int)) := hcell
            have hy : y < 256 := by rw [← HY.out]; exact (macL_ok _ _).getD 6
            obtain ⟨t, HT⟩ : ∃ t, Aside0 (y * 256 ^ 6 = t) := ⟨_, ⟨rfl⟩⟩
            have hyw := wrap_u64_small y (by omega)
            have ht : IntKind.u64.wrap ((y : Int) * 281474976710656) = (t : Int) := by rw [← HT.out, IntKind.wrap_u64]; omega
            have hstep := short_load s c 6 (by decide)
            rw [HY.out, HT.out, HNN.out] at hstep
            have hlt2 := short_lt s c 7
            rw [hstep] at hlt2
            have hsum := wrap_u64_sum n t (by omega)
            obtain ⟨u, HU⟩ : ∃ u, Aside0 (n + t = u) := ⟨_, ⟨rfl⟩⟩
            rw [HU.out] at hsum
            have HST := hd (hstep.trans HU.out)
            clear hstep hlt2 e9 hy
            go_wp2
            go_round
            case rel => exact ⟨7, u, by omega, rfl, rfl, HST.out⟩
            case measure => simp [intOf]
          · obtain ⟨ad, y, e9, HY, hcell⟩ := H9.out.1.at_ 7 (by rw [macL_length]; decide)
            obtain rfl := Option.some.inj e9
            replace hcell : w9.cell? ⟨g9, 7, none⟩ = some (.int .u8 (y : Int)) := hcell
            have hy : y < 256 := by rw [← HY.out]; exact (macL_ok _ _).getD 7
            obtain ⟨t, HT⟩ : ∃ t, Aside0 (y * 256 ^ 7 = t) := ⟨_, ⟨rfl⟩⟩
            have hyw := wrap_u64_small y (by omega)
            have ht : IntKind.u64.wrap ((y : Int) * 72057594037927936) = (t : Int) := by rw [← HT.out, IntKind.wrap_u64]; omega
            have hstep := short_load s c 7 (by decide)
            rw [HY.out, HT.out, HNN.out] at hstep
            have hlt2 := short_lt s c 8
            rw [hstep] at hlt2
            have hsum := wrap_u64_sum n t (by omega)
            obtain ⟨u, HU⟩ : ∃ u, Aside0 (n + t = u) := ⟨_, ⟨rfl⟩⟩
            rw [HU.out] at hsum
            have HST := hd (hstep.trans HU.out)
            clear hstep hlt2 e9 hy
            go_wp2
            go_round
            case rel => exact ⟨8, u, by omega, rfl, rfl, HST.out⟩
            case measure => simp [intOf]
        · obtain rfl : m = 8 := by omega
          have hn := HNN.out
          rw [short_end s c HC.out] at hn
          obtain ⟨p, HP⟩ : ∃ p, Aside0 (s % 72057594037927936 = p) := ⟨_, ⟨rfl⟩⟩
          have q1 := and56_u64 s HS.out
          rw [HP.out] at q1 hn
          have hp : p < 72057594037927936 := by rw [← HP.out]; exact Nat.mod_lt _ (by decide)
          have q2 := wrap_u64_small c (by have := HC.out; omega)
          have q3 := wrap_u64_sum p c (by have := HC.out; omega)
          obtain ⟨t1, HT1⟩ : ∃ t, Aside0 (p + c = t) := ⟨_, ⟨rfl⟩⟩
          rw [HT1.out] at q3 hn
          have q4 := wrap_u64_sum t1 256 (by have := HC.out; have := HT1.out; omega)
          rw [hn] at q4
          replace q4 : IntKind.u64.wrap ((t1 : Int) + 256) = (n : Int) := q4
          clear hn hp
          go_wp2
          go_ret
          exact ⟨by simp, hb⟩

end Go.Proofs.Ytkkhdjdoifnoaaa
