/- The walk through poly.Clamp. -/
import Derived.Test.YtlgdplodglchaaaDoorProg
import Derived.Test.YtlgdplodglchaaaDoorGWords
import Derived.Test.YtlgdplodglchaaaDoorGPlain
set_option linter.unusedVariables false
set_option linter.unusedSimpArgs false
namespace Go.Proofs.YtlgdplodglchaaaDoor
open Go.RowKit Go.Proofs.YtlgdplodglchaaaDoorW.PrintWords Go.Proofs.YtlgdplodglchaaaDoorW.PrintLast Go.Proofs.YtlgdplodglchaaaDoorW.PrintMore

set_option maxHeartbeats 1000000 in
set_option maxRecDepth 100000 in
theorem clamp_calls {A : Option Addr} {ca : Nat} {key : List Nat} {w : World} (hk : Bytes w A 32 ca key) :
    Calls Tryd.prog 115 #[.slice A 32 ca] w fun e w' => ∃ v, e = .returned v ∧ OwnK .u8 5 w.heap.size w' v (clampL key) ∧ Below w.heap.size w w' := by
  have HK := hd hk
  have hca := hk.2.2.1
  have i9 : (32 : Int) ≤ ca := by omega
  have i8 : (16 : Int) ≤ ca := by omega
  clear hk
  go_enter Tryd.func115, Tryd.ntmps115
  go_wp2_with fail
  go_loopw [3, 12] (fun v i wr => ∃ k : Nat, k ≤ 16 ∧ i = .int .i64 k ∧ OwnK .u8 5 w.heap.size wr v ((clampL key).take k) ∧ Below w.heap.size w wr) (fun _ i _ => 16 - (intOf i).toNat)
  case atStart => exact ⟨0, Nat.zero_le _, rfl, OwnK.nil _ _ _ _, Below.refl _ _⟩
  case round =>
    obtain ⟨k, hk16, rfl, ho, hb⟩ := hrel
    by_cases hlt : k < 16
    · obtain ⟨ad, c, rfl, HY, hcell⟩ := (HK.out.below hb).1.at_ k (by rw [HK.out.2.1]; omega)
      have hc : c < 256 := by rw [← HY.out]; exact HK.out.ok.getD k
      have i0 : (0 : Int) ≤ k := by omega
      have i1 : (k : Int) < 16 := by omega
      have hs := hb.size
      have hstep := hd (clampL_take key k hlt HK.out.2.1)
      have hsz : ((clampL key).take k).length + 1 ≤ 17 := by rw [List.length_take]; omega
      have HSZ := hd hsz
      clear hsz
      by_cases h3 : k % 4 = 3
      · have q1 : (k : Int).tmod 4 = 3 := by rw [Int.tmod_eq_emod_of_nonneg (by omega)]; omega
        obtain ⟨d, HD⟩ : ∃ d, Aside0 (c % 16 = d) := ⟨_, ⟨rfl⟩⟩
        have q2 := and15_u8 hc
        rw [HD.out] at q2
        have hcl : clampB k c = d := by rw [clampB, if_pos h3, HD.out]
        go_wp2_with ((with_reducible refine gate_dst (N := 36) rfl ?_); at_builtin; refine op_append (k := .u8) (w0 := w) 36 rfl w.heap.size 5 40 _ _ rfl rfl Tryd.underlying40 Tryd.infoU8 (by decide) u3 ((clampL key).take k) _ d rfl rfl rfl ho hb hs (by have := HSZ.out; omega) ?_; intro v1 w1 ho1 hb1 hg1)
        go_roundw
        case rel => exact ⟨k + 1, by omega, by go_num, by rw [hstep.out, HY.out, hcl]; exact ho1, hb1⟩
        case measure => simp [intOf]; omega
      · by_cases h0 : 0 < k ∧ k % 4 = 0
        · have q1 : (k : Int).tmod 4 = 0 := by rw [Int.tmod_eq_emod_of_nonneg (by omega)]; omega
          have q0 : decide ((0 : Int) < (k : Int)) = true := by simp; omega
          obtain ⟨d, HD⟩ : ∃ d, Aside0 (c / 4 * 4 = d) := ⟨_, ⟨rfl⟩⟩
          have q2 := and252_u8 hc
          rw [HD.out] at q2
          have hcl : clampB k c = d := by rw [clampB, if_neg h3, if_pos h0, HD.out]
          go_wp2_with ((with_reducible refine gate_dst (N := 36) rfl ?_); at_builtin; refine op_append (k := .u8) (w0 := w) 36 rfl w.heap.size 5 40 _ _ rfl rfl Tryd.underlying40 Tryd.infoU8 (by decide) u3 ((clampL key).take k) _ d rfl rfl rfl ho hb hs (by have := HSZ.out; omega) ?_; intro v1 w1 ho1 hb1 hg1)
          go_roundw
          case rel => exact ⟨k + 1, by omega, by go_num, by rw [hstep.out, HY.out, hcl]; exact ho1, hb1⟩
          case measure => simp [intOf]; omega
        · obtain ⟨d, rfl⟩ : ∃ d, d = c := ⟨_, rfl⟩
          obtain ⟨r, HR⟩ : ∃ r, Aside0 (k % 4 = r) := ⟨_, ⟨rfl⟩⟩
          have q1 : (k : Int).tmod 4 = (r : Int) := by rw [Int.tmod_eq_emod_of_nonneg (by omega)]; have := HR.out; omega
          have q3 : ((r : Int) == 3) = false := by have := HR.out; simp; omega
          by_cases hk0 : 0 < k
          · have q0 : decide ((0 : Int) < (k : Int)) = true := by simp; omega
            have q4 : ((r : Int) == 0) = false := by have := HR.out; simp; omega
            have hcl : clampB k d = d := by rw [clampB, if_neg h3, if_neg h0]
            go_wp2_with ((with_reducible refine gate_dst (N := 36) rfl ?_); at_builtin; refine op_append (k := .u8) (w0 := w) 36 rfl w.heap.size 5 40 _ _ rfl rfl Tryd.underlying40 Tryd.infoU8 (by decide) u3 ((clampL key).take k) _ d rfl rfl rfl ho hb hs (by have := HSZ.out; omega) ?_; intro v1 w1 ho1 hb1 hg1)
            go_roundw
            case rel => exact ⟨k + 1, by omega, by go_num, by rw [hstep.out, HY.out, hcl]; exact ho1, hb1⟩
            case measure => simp [intOf]; omega
          · have q0 : decide ((0 : Int) < (k : Int)) = false := by simp; omega
            have hcl : clampB k d = d := by rw [clampB, if_neg h3, if_neg h0]
            go_wp2_with ((with_reducible refine gate_dst (N := 36) rfl ?_); at_builtin; refine op_append (k := .u8) (w0 := w) 36 rfl w.heap.size 5 40 _ _ rfl rfl Tryd.underlying40 Tryd.infoU8 (by decide) u3 ((clampL key).take k) _ d rfl rfl rfl ho hb hs (by have := HSZ.out; omega) ?_; intro v1 w1 ho1 hb1 hg1)
            go_roundw
            case rel => exact ⟨k + 1, by omega, by go_num, by rw [hstep.out, HY.out, hcl]; exact ho1, hb1⟩
            case measure => simp [intOf]; omega
    · obtain rfl : k = 16 := by omega
      rw [List.take_of_length_le (by rw [clampL_length key HK.out.2.1]; exact Nat.le_refl _)] at ho
      go_wp2
      go_ret
      exact ⟨_, rfl, ho, hb⟩

end Go.Proofs.YtlgdplodglchaaaDoor
