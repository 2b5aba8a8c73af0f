/- The walk through words.Xor. -/
import Derived.Test.YtgmaahpnpjfghaaDoorProg
import Derived.Test.YtgmaahpnpjfghaaDoorWls
set_option linter.unusedVariables false
set_option linter.unusedSimpArgs false
namespace Go.Proofs.YtgmaahpnpjfghaaDoor
open Go.RowKit Go.Proofs.YtgmaahpnpjfghaaDoorW.PrintWords Go.Proofs.YtgmaahpnpjfghaaDoorW.PrintLast Go.Proofs.YtgmaahpnpjfghaaDoorW.PrintMore
attribute [local go_sem] max2_int min2_int max_two min_two max_three min_three

/-- The row that Xor fills. -/
theorem xor_step (a b : List Nat) (m k : Nat) (hk : k < m) (ha : m ≤ a.length) (hb : m ≤ b.length) :
    (xorL (a.take k) (b.take k) ++ List.replicate (m - k) 0).set k (a.getD k 0 ^^^ b.getD k 0) = xorL (a.take (k + 1)) (b.take (k + 1)) ++ List.replicate (m - (k + 1)) 0 := by
  have hl : (xorL (a.take k) (b.take k)).length = k := by rw [xorL_length, List.length_take, List.length_take]; omega
  rw [List.set_append_right _ _ (by omega), hl, Nat.sub_self, show m - k = (m - (k + 1)) + 1 by omega, List.replicate_succ, List.set_cons_zero, take_snoc a k 0 (by omega), take_snoc b k 0 (by omega)]
  unfold xorL
  rw [List.zipWith_append (by rw [List.length_take, List.length_take]; omega), List.append_assoc]
  rfl

set_option maxHeartbeats 1000000 in
set_option maxRecDepth 100000 in
theorem xor_calls {A B : Option Addr} {na nb ca cb : Nat} {a b : List Nat} {w : World} (ha : Bytes w A na ca a) (hb : Bytes w B nb cb b) (hfit : na ≤ 140737488355328) :
    Calls Tryd.prog 21 #[.slice A na ca, .slice B nb cb] w fun e w' => ∃ v, e = .returned v ∧ Own w w' v (xorL a b) ∧ Below w.heap.size w w' := by
  obtain ⟨hra, rfl, hca, hba⟩ := ha
  obtain ⟨hrb, rfl, hcb, hbb⟩ := hb
  obtain ⟨m, hm2⟩ : ∃ m : Nat, m = min a.length b.length := ⟨_, rfl⟩
  have hm3 : (if b.length < a.length then (b.length : Int) else (a.length : Int)) = (m : Int) := by split <;> omega
  have hma : m ≤ a.length := by omega
  have hmb : m ≤ b.length := by omega
  have hmf : m ≤ 140737488355328 := by omega
  have hlast : xorL (a.take m) (b.take m) = xorL a b := by
    unfold xorL
    rw [← List.take_zipWith, List.take_of_length_le (by rw [List.length_zipWith]; omega)]
  have HL := hd hlast
  have HCA := hd hca
  have HCB := hd hcb
  clear hm2 hlast hca hcb
  go_enter Tryd.func21, Tryd.ntmps21
  go_wp2_with (((with_reducible refine gate_dst (N := 12) rfl ?_); refine op_make 12 rfl 5 30 _ _ rfl rfl (m : Int) rfl rfl Tryd.underlying30 Tryd.infoU8 (by decide) m rfl (by omega) ?_; intro A1 c1 w1 hc1 ho hb))
  clear hm3
  have HO := hd ho
  have HB := hd hb
  clear ho hb
  go_loopw [15] (fun i wr => ∃ k : Nat, k ≤ m ∧ i = .int .i64 k ∧ Own w wr (.slice A1 m c1) (xorL (a.take k) (b.take k) ++ List.replicate (m - k) 0) ∧ Below w.heap.size w wr) (fun i _ => m - (intOf i).toNat)
  case atStart => exact ⟨0, Nat.zero_le _, rfl, HO.out, HB.out⟩
  case round =>
    obtain ⟨k, hk, rfl, ho, hb⟩ := hrel
    have HO := hd ho
    have HB := hd hb
    clear ho hb
    by_cases hlt : k < m
    · obtain ⟨g, rfl, hg, hg2⟩ := HO.out.at_ (by omega)
      obtain ⟨hcell, hfr⟩ := HO.out.cell k hlt
      obtain ⟨ad, x, rfl, HX, hca⟩ := (hra.below HB.out).at_ k (by omega)
      obtain ⟨bd, y, rfl, HY, hcb⟩ := (hrb.below HB.out).at_ k (by omega)
      have HP := hd (HO.out.put k (a.getD k 0 ^^^ b.getD k 0))
      have i0 : (0 : Int) ≤ k := by omega
      have i1 : (k : Int) < a.length := by omega
      have i2 : (k : Int) < b.length := by omega
      have i3 : (k : Int) < m := by omega
      go_wp2
      go_region
      go_wp2
      go_roundw
      case rel =>
        refine ⟨k + 1, by omega, by go_num, ?_, (HB.out.setCell hg _).drew⟩
        have h1 := HP.out
        rw [xor_step a b m k hlt hma hmb, ← xor_u8 (hba.getD k) (hbb.getD k)] at h1
        rw [HX.out, HY.out] at h1
        exact h1.below (Below.refl _ _).drew
      case measure => simp [intOf]; omega
    · go_wp2
      go_ret
      obtain rfl : k = m := by omega
      have h1 := HO.out
      rw [Nat.sub_self, List.replicate_zero, List.append_nil, HL.out] at h1
      exact ⟨_, rfl, h1, HB.out⟩

end Go.Proofs.YtgmaahpnpjfghaaDoor
