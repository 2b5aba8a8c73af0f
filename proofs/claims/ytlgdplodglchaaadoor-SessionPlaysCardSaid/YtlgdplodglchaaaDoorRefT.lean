/- The walks through redanref22.Wait, Since, Due, Again; redanlaw22.rules. -/
import Derived.Test.YtlgdplodglchaaaDoorGSesF
import Derived.Laws.Rows
set_option linter.unusedVariables false
set_option linter.unusedSimpArgs false
namespace Go.Proofs.YtlgdplodglchaaaDoor
open Go.RowKit Go.Proofs.YtlgdplodglchaaaDoorW.PrintWords Go.Proofs.YtlgdplodglchaaaDoorW.PrintLast Go.Proofs.YtlgdplodglchaaaDoorW.PrintMore
theorem resc_2 {P : Program} {fn : Func} {p u v : Tmp} {ty : TypeId} (h : fn.results = #[.cell p ty, .tmp u, .tmp v]) (tmps : Array Value) (w : World) (g : Nat) (t : TypeId) (cs : Array Value) (fr : Nat × Nat) (d : TypeDesc)
    (hp : tmps.getD p undef = .pointer (some ⟨g, 0, none⟩)) (hg : w.heap[g]? = some (.cells cs t fr))
    (hu : P.underlying ty = some d) (hd : (match d with | .struct _ | .array _ _ => true | _ => false) = true) (hi : (P.info? ty).map (·.size) = some cs.size) :
    (results fn tmps).run P w = .ok (.tuple #[.agg cs, tmps.getD u undef, tmps.getD v undef]) w := by
  have hp' : tmps[p]?.getD undef = .pointer (some ⟨g, 0, none⟩) := by simpa using hp
  simp [results, h, hp', asAddr, run_loadVar_row w g t ty cs fr d hg hu hd hi]
theorem resc_3 {P : Program} {fn : Func} {p u v x : Tmp} {ty : TypeId} (h : fn.results = #[.cell p ty, .tmp u, .tmp v, .tmp x]) (tmps : Array Value) (w : World) (g : Nat) (t : TypeId) (cs : Array Value) (fr : Nat × Nat) (d : TypeDesc)
    (hp : tmps.getD p undef = .pointer (some ⟨g, 0, none⟩)) (hg : w.heap[g]? = some (.cells cs t fr))
    (hu : P.underlying ty = some d) (hd : (match d with | .struct _ | .array _ _ => true | _ => false) = true) (hi : (P.info? ty).map (·.size) = some cs.size) :
    (results fn tmps).run P w = .ok (.tuple #[.agg cs, tmps.getD u undef, tmps.getD v undef, tmps.getD x undef]) w := by
  have hp' : tmps[p]?.getD undef = .pointer (some ⟨g, 0, none⟩) := by simpa using hp
  simp [results, h, hp', asAddr, run_loadVar_row w g t ty cs fr d hg hu hd hi]
def Rul.a (r : Rul) : Array Value := #[.int .u64 (r.r0 : Int), .int .u64 (r.r1 : Int), .int .i64 r.r2, .int .u64 (r.r3 : Int), .int .u64 (r.r4 : Int), .int .u64 (r.r5 : Int), .int .u64 (r.r6 : Int)]
section
variable {w : World} {g now born last a b : Nat} {tries : Int} {r : Rul}
set_option maxRecDepth 100000 in
theorem rules_calls : Calls Tryd.prog 13 #[r.v] w fun e w' => e = .returned r.v ∧ Below w.heap.size w w' := by
  obtain ⟨r0, r1, r2, r3, r4, r5, r6⟩ := r
  unfold Rul.v
  dsimp only
  have hal := below_alloc (Below.refl w.heap.size w) (.cells (Rul.a ⟨r0, r1, r2, r3, r4, r5, r6⟩) 24)
  have hb2 := blk_new (w.alloc (.cells (Rul.a ⟨r0, r1, r2, r3, r4, r5, r6⟩) 24)) (.cells (Rul.a ⟨r0, r1, r2, r3, r4, r5, r6⟩) 27)
  have hal2 := below_seq hal (below_alloc (Below.refl _ (w.alloc (.cells (Rul.a ⟨r0, r1, r2, r3, r4, r5, r6⟩) 24))) (.cells (Rul.a ⟨r0, r1, r2, r3, r4, r5, r6⟩) 27))
  rw [World.size_alloc] at hb2
  unfold Rul.a at hb2 hal2
  dsimp only at hb2 hal2
  have HB := hd hb2
  have HA := hd hal2
  clear hal hb2 hal2
  go_enter Tryd.func13, Tryd.ntmps13
  go_wp2
  refine bodyPost_ret (results_cell_row rfl _ _ (w.heap.size + 1) 27 _ (0, 0) _ rfl HB.out Tryd.underlying27 rfl (by kernel_rfl)) rfl ?_
  exact ⟨rfl, HA.out⟩
theorem refsince_calls : Calls Tryd.prog 54 #[.int .u64 (a : Int), .int .u64 (b : Int)] w fun e w' => b < 2 ^ 64 → e = .returned (.int .u64 (sinceN a b : Nat)) ∧ w = w' := by
  by_cases h : b < a
  · have q : decide (b < a) = true := by simp; exact h
    have hs : sinceN a b = 0 := by unfold sinceN; omega
    have HS := hd hs
    clear hs h
    go_enter Tryd.func54, Tryd.ntmps54
    go_wp2
    go_ret
    exact fun _ => ⟨by rw [HS.out]; rfl, rfl⟩
  · have q : decide (b < a) = false := by simp; omega
    have hw : b < 2 ^ 64 → IntKind.u64.wrap ((b : Int) - (a : Int)) = ((b - a : Nat) : Int) := fun hb => by rw [show (b : Int) - (a : Int) = ((b - a : Nat) : Int) by omega]; exact wrapN_u rfl (show b - a < 2 ^ 64 by omega)
    have HW := hd hw
    clear hw h
    go_enter Tryd.func54, Tryd.ntmps54
    go_wp2
    go_ret
    exact fun hb => ⟨by rw [show sinceN a b = b - a from rfl, ← HW.out hb]; first | rfl | simp, rfl⟩
def timV (last : Nat) (tries : Int) : Value := .agg #[.int .u64 (last : Int), .int .i64 tries]
end
end Go.Proofs.YtlgdplodglchaaaDoor
