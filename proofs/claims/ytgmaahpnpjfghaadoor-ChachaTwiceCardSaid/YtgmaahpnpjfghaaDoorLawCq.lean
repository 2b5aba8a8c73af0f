/- The walk through redanlaw07.ChachaQuarters. -/
import Derived.Test.YtgmaahpnpjfghaaDoorAwake07
import Derived.OpenShut
set_option linter.unusedVariables false
set_option linter.unusedSimpArgs false
namespace Go.Proofs.YtgmaahpnpjfghaaDoor
open Go.RowKit Go.Proofs.YtgmaahpnpjfghaaDoorW.PrintWords Go.Proofs.YtgmaahpnpjfghaaDoorW.PrintLast Go.Proofs.YtgmaahpnpjfghaaDoorW.PrintMore

theorem nat_u32 {n : Int} (h : (Lit.int .u32 n).wf = true) : ∃ m : Nat, n = (m : Int) ∧ m < 2 ^ 32 := by
  have h1 := bounds_u32 h
  exact ⟨n.toNat, by omega, by omega⟩
set_option maxHeartbeats 1000000 in
set_option maxRecDepth 100000 in
theorem chachaQuarters_walk (W : World) (hpl : PlacesAt W) (a0 : Int) (w0 : (Lit.int .u32 a0).wf = true) (a1 : Int) (w1 : (Lit.int .u32 a1).wf = true) (a2 : Int) (w2 : (Lit.int .u32 a2).wf = true) (a3 : Int) (w3 : (Lit.int .u32 a3).wf = true) :
    Calls Tryd.prog 3 #[.int .u32 a0, .int .u32 a1, .int .u32 a2, .int .u32 a3] W fun e w' => e = .returned (.bool true) ∧ Below W.heap.size W w' := by
  obtain ⟨a, rfl, ha⟩ := nat_u32 w0
  obtain ⟨b, rfl, hb⟩ := nat_u32 w1
  obtain ⟨c, rfl, hc⟩ := nat_u32 w2
  obtain ⟨d, rfl, hdd⟩ := nat_u32 w3
  clear w0 w1 w2 w3
  obtain ⟨⟨x, y, z, u⟩, HQ⟩ : ∃ q, Aside0 (qr a b c d = q) := ⟨_, ⟨rfl⟩⟩
  have hl := qr_lt ha hb hc hdd
  rw [HQ.out] at hl
  simp only at hl
  obtain ⟨lx, ly, lz, lu⟩ := hl
  go_enter Tryd.func3, Tryd.ntmps3
  go_wp2_with fail
  refine (awake_calls hpl).mono ?_
  rintro e w1 ⟨rfl, hb1⟩
  go_wp2_with fail
  refine (quarter_calls a b c d _ rfl rfl rfl rfl ha hb hc hdd).mono ?_
  rintro e w' ⟨rfl, rfl⟩
  rw [HQ.out]
  simp only
  go_wp2_with fail
  refine (refquarter_calls a b c d _ rfl rfl rfl rfl ha hb hc hdd).mono ?_
  rintro e w2 ⟨rfl, hb2⟩
  rw [HQ.out]
  simp only
  replace hb1 := below_seq hb1 hb2
  go_wp2
  go_ret
  exact ⟨rfl, hb1⟩
end Go.Proofs.YtgmaahpnpjfghaaDoor
