/- The walks through redanref22.Wait, Since, Due, Again; redanlaw22.rules. -/
import Derived.Test.YtlgdplodglchaaaDoorGSesF
import Derived.Laws.Rows
set_option linter.unusedVariables false
set_option linter.unusedSimpArgs false
namespace Go.Proofs.YtlgdplodglchaaaDoor
open Go.RowKit Go.Proofs.YtlgdplodglchaaaDoorW.PrintWords Go.Proofs.YtlgdplodglchaaaDoorW.PrintLast Go.Proofs.YtlgdplodglchaaaDoorW.PrintMore
theorem resc_1 {P : Program} {fn : Func} {p u : Tmp} {ty : TypeId} (h : fn.results = #[.cell p ty, .tmp u]) (tmps : Array Value) (w : World) (g : Nat) (t : TypeId) (cs : Array Value) (fr : Nat × Nat) (d : TypeDesc)
    (hp : tmps.getD p undef = .pointer (some ⟨g, 0, none⟩)) (hg : w.heap[g]? = some (.cells cs t fr))
    (hu : P.underlying ty = some d) (hd : (match d with | .struct _ | .array _ _ => true | _ => false) = true) (hi : (P.info? ty).map (·.size) = some cs.size) :
    (results fn tmps).run P w = .ok (.tuple #[.agg cs, tmps.getD u undef]) w := by
  have hp' : tmps[p]?.getD undef = .pointer (some ⟨g, 0, none⟩) := by simpa using hp
  simp [results, h, hp', asAddr, run_loadVar_row w g t ty cs fr d hg hu hd hi]
theorem resc_2 {P : Program} {fn : Func} {p u v : Tmp} {ty : TypeId} (h : fn.results = #[.cell p ty, .tmp u, .tmp v]) (tmps : Array Value) (w : World) (g : Nat) (t : TypeId) (cs : Array Value) (fr : Nat × Nat) (d : TypeDesc)
    (hp : tmps.getD p undef = .pointer (some ⟨g, 0, none⟩)) (hg : w.heap[g]? = some (.cells cs t fr))
    (hu : P.underlying ty = some d) (hd : (match d with | .struct _ | .array _ _ => true | _ => false) = true) (hi : (P.info? ty).map (·.size) = some cs.size) :
    (results fn tmps).run P w = .ok (.tuple #[.agg cs, tmps.getD u undef, tmps.getD v undef]) w := by
  have hp' : tmps[p]?.getD undef = .pointer (some ⟨g, 0, none⟩) := by simpa using hp
  simp [results, h, hp', asAddr, run_loadVar_row w g t ty cs fr d hg hu hd hi]
theorem resc_3 {P : Program} {fn : Func} {p u v x : Tmp} {ty : TypeId} (h : fn.results = #[.cell p ty, .tmp u, .tmp v, .tmp x]) (tmps : Array Value) (w : World) (g : Nat) (t : TypeId) (cs : Array Value) (fr : Nat × Nat) (d : TypeDesc)
    (hp : tmps.getD p undef = .pointer (some ⟨g, 0, none⟩)) (hg : w.heap[g]? = some (.cells cs t fr))
    (hu : P.underlying ty = some d) (hd : (match d with | .struct _ | .array _ _ => true | _ => false) = true) (hi : (P.info? ty).map (·.size) = some cs.size) :
    (results fn tmps).run P w = .ok (.tuple #[.agg cs, tmps.getD u undef, tmps.getD v undef, tmps.getD x undef]) w := by
  have hp' : tmps[p]?.getD undef = .pointer (some ⟨g, 0, none⟩) := by simpa using hp
  simp [results, h, hp', asAddr, run_loadVar_row w g t ty cs fr d hg hu hd hi]
def Rul.a (r : Rul) : Array Value := #[.int .u64 (r.r0 : Int), .int .u64 (r.r1 : Int), .int .i64 r.r2, .int .u64 (r.r3 : Int), .int .u64 (r.r4 : Int), .int .u64 (r.r5 : Int), .int .u64 (r.r6 : Int)]
section
variable {w : World} {g now born last a b : Nat} {tries : Int} {r : Rul}
set_option maxRecDepth 100000 in
theorem rules_calls : Calls Tryd.prog 13 #[r.v] w fun e w' => e = .returned r.v ∧ Below w.heap.size w w' := by
  obtain ⟨r0, r1, r2, r3, r4, r5, r6⟩ := r
  unfold Rul.v
  dsimp only
  have hal := below_alloc (Below.refl w.heap.size w) (.cells (Rul.a ⟨r0, r1, r2, r3, r4, r5, r6⟩) 24)
  have hb2 := blk_new (w.alloc (.cells (Rul.a ⟨r0, r1, r2, r3, r4, r5, r6⟩) 24)) (.cells (Rul.a ⟨r0, r1, r2, r3, r4, r5, r6⟩) 27)
  have hal2 := below_seq hal (below_alloc (Below.refl _ (w.alloc (.cells (Rul.a ⟨r0, r1, r2, r3, r4, r5, r6⟩) 24))) (.cells (Rul.a ⟨r0, r1, r2, r3, r4, r5, r6⟩) 27))
  rw [World.size_alloc] at hb2
  unfold Rul.a at hb2 hal2
  dsimp only at hb2 hal2
  have HB := hd hb2
  have HA := hd hal2
  clear hal hb2 hal2
  go_enter Tryd.func13, Tryd.ntmps13
  go_wp2
  refine bodyPost_ret (results_cell_row rfl _ _ (w.heap.size + 1) 27 _ (0, 0) _ rfl HB.out Tryd.underlying27 rfl (by kernel_rfl)) rfl ?_
  exact ⟨rfl, HA.out⟩
theorem refsince_calls : Calls Tryd.prog 54 #[.int .u64 (a : Int), .int .u64 (b : Int)] w fun e w' => b < 2 ^ 64 → e = .returned (.int .u64 (sinceN a b : Nat)) ∧ w = w' := by
  by_cases h : b < a
  · have q : decide (b < a) = true := by simp; exact h
    have hs : sinceN a b = 0 := by unfold sinceN; omega
    have HS := hd hs
    clear hs h
    go_enter Tryd.func54, Tryd.ntmps54
    go_wp2
    go_ret
    exact fun _ => ⟨by rw [HS.out]; rfl, rfl⟩
  · have q : decide (b < a) = false := by simp; omega
    have hw : b < 2 ^ 64 → IntKind.u64.wrap ((b : Int) - (a : Int)) = ((b - a : Nat) : Int) := fun hb => by rw [show (b : Int) - (a : Int) = ((b - a : Nat) : Int) by omega]; exact wrapN_u rfl (show b - a < 2 ^ 64 by omega)
    have HW := hd hw
    clear hw h
    go_enter Tryd.func54, Tryd.ntmps54
    go_wp2
    go_ret
    exact fun hb => ⟨by rw [show sinceN a b = b - a from rfl, ← HW.out hb]; first | rfl | simp, rfl⟩
theorem twice_w {x : Nat} (h : ¬ 9223372036854775808 ≤ x) : IntKind.u64.wrap (2 * (x : Int)) = ((2 * x : Nat) : Int) := by
  rw [show 2 * (x : Int) = ((2 * x : Nat) : Int) by omega]
  exact wrapN_u rfl (show 2 * x < 2 ^ 64 by omega)
theorem over_w {mo x : Nat} (ho : mo / 2 < x) : mo < 2 * x := by omega
theorem under_w {mo x : Nat} (ho : ¬ mo / 2 < x) : ¬ mo < 2 * x := by omega
theorem under_63 {mo x : Nat} (ho : ¬ mo / 2 < x) (hm : mo < 2 ^ 64) : ¬ 9223372036854775808 ≤ x := by omega
theorem dec_le_t {a b : Nat} (h : a ≤ b) : decide (a ≤ b) = true ∧ decide ((a : Int) ≤ (b : Int)) = true := ⟨by simpa using h, by simpa using h⟩
theorem dec_le_f {a b : Nat} (h : ¬ a ≤ b) : decide (a ≤ b) = false ∧ decide ((a : Int) ≤ (b : Int)) = false := ⟨by simpa using h, by simpa using h⟩
theorem dec_lt_t {a b : Nat} (h : a < b) : decide (a < b) = true ∧ decide ((a : Int) < (b : Int)) = true := ⟨by simpa using h, by simpa using h⟩
theorem dec_lt_f {a b : Nat} (h : ¬ a < b) : decide (a < b) = false ∧ decide ((a : Int) < (b : Int)) = false := ⟨by simpa using h, by simpa using h⟩
set_option maxHeartbeats 4000000 in
set_option maxRecDepth 100000 in
theorem refwait_calls (hr : r.ok) (ht : tries ≤ 9223372036854775807) :
    Calls Tryd.prog 15 #[r.v, .int .i64 tries] w fun e w' => e = .returned (.int .u64 (waitF r.r0 r.r1 tries : Nat)) ∧ Below w.heap.size w w' := by
  have hal := below_alloc (Below.refl w.heap.size w) (.cells (Rul.a r) 27)
  have hbx := blk_new w (.cells (Rul.a r) 27)
  have HF := hd (firstW_pos r.r0)
  have HM := hd (first_most r.r0 r.r1)
  have HML := hd (show mostW r.r0 r.r1 < 2 ^ 64 by unfold mostW firstW; have := hr.1; have := hr.2; omega)
  have HAL := hd hal
  have HBX := hd hbx
  obtain ⟨nt, hnt⟩ : ∃ nt, Aside0 (tries.toNat = nt) := ⟨_, ⟨rfl⟩⟩
  unfold waitF
  rw [hnt.out]
  clear hal hr ht hbx
  obtain ⟨f0, hf0⟩ : ∃ f0, Aside0 (firstW r.r0 = f0) := ⟨_, ⟨rfl⟩⟩
  obtain ⟨mo, hmo⟩ : ∃ mo, Aside0 (mostW r.r0 r.r1 = mo) := ⟨_, ⟨rfl⟩⟩
  have hmo2 : max r.r1 f0 = mo := by have := hmo.out; unfold mostW at this; rw [hf0.out] at this; exact this
  rw [hf0.out] at HF HM ⊢
  rw [hmo.out] at HM HML ⊢
  clear hmo
  have hmo := hd hmo2
  clear hmo2
  unfold Rul.a at HAL HBX
  unfold Rul.v
  go_enter Tryd.func15, Tryd.ntmps15
  go_upto_region 1 with (fail)
  generalize (w.alloc (.cells #[.int .u64 (r.r0 : Int), .int .u64 (r.r1 : Int), .int .i64 r.r2, .int .u64 (r.r3 : Int), .int .u64 (r.r4 : Int), .int .u64 (r.r5 : Int), .int .u64 (r.r6 : Int)] 27)) = w1 at HAL HBX ⊢
  have c0 : w1.cell? ⟨w.heap.size, 0, none⟩ = some (.int .u64 (r.r0 : Int)) := by rw [blk_cell HBX.out]; rfl
  have c1 : w1.cell? ⟨w.heap.size, 1, none⟩ = some (.int .u64 (r.r1 : Int)) := by rw [blk_cell HBX.out]; rfl
  generalize w.heap.size = q at c0 c1 ⊢
  clear HBX
  go_upto_if 11 with (fail)
  go_cut [5] from 8 (fun u5 wx => u5 = .int .u64 (f0 : Int) ∧ wx = w1)
  case first =>
    by_cases h0 : r.r0 = 0
    · have q0 : ((r.r0 : Int) == 0) = true := by simp; exact h0
      have hf1 := hd (show f0 = 1 by have := hf0.out; unfold firstW at this; omega)
      clear h0
      go_wp2
      go_meet
      case rel => exact ⟨by rw [hf1.out]; rfl, rfl⟩
    · have q0 : ((r.r0 : Int) == 0) = false := by simp; exact h0
      have hf1 := hd (show r.r0 = f0 by have := hf0.out; unfold firstW at this; omega)
      clear h0
      go_wp2
      go_meet
      case rel => exact ⟨by rw [hf1.out], rfl⟩
  case rest =>
    obtain ⟨rfl, rfl⟩ := hcut
    clear c0
    go_upto_if 16 with (fail)
    go_cut [6] from 8 (fun u6 wx => u6 = .int .u64 (mo : Int) ∧ wx = wc)
    case first =>
      by_cases hm : r.r1 < f0
      · obtain ⟨q5, q6⟩ := dec_lt_t hm
        have hf1 := hd (show f0 = mo by have := hmo.out; omega)
        go_wp2
        go_meet
        case rel => exact ⟨by rw [hf1.out], rfl⟩
      · obtain ⟨q5, q6⟩ := dec_lt_f hm
        have hf1 := hd (show r.r1 = mo by have := hmo.out; omega)
        go_wp2
        go_meet
        case rel => exact ⟨by rw [hf1.out], rfl⟩
    case rest =>
      obtain ⟨rfl, rfl⟩ := hcut
      clear c1
      go_upto_region 8 with (fail)
      go_loop [5, 7] (fun u5 u7 => ∃ k : Nat, k ≤ nt ∧ k ≤ 64 ∧ u7 = .int .i64 k ∧ u5 = .int .u64 ((waitN f0 mo k : Nat) : Int)) (fun _ u7 => 64 - (intOf u7).toNat)
      case atStart => exact ⟨0, Nat.zero_le _, Nat.zero_le _, rfl, rfl⟩
      case round =>
        obtain ⟨k, hk, hk64, rfl, rfl⟩ := hrel
        have HMO := hd (show 1 ≤ mo from Nat.le_trans HF.out HM.out)
        by_cases hlt : k < nt
        · have k1 : decide ((k : Int) < tries) = true := by simp; have := hnt.out; omega
          by_cases h64 : k < 64
          · have k2 : decide ((k : Int) < 64) = true := (dec_lt_t h64).2
            have k3 : decide (k < 64) = true := (dec_lt_t h64).1
            have hle := hd (waitN_le HM.out k)
            have HOV := hd (fun h => waitN_over (w0 := f0) (most := mo) (k := k) (n := nt) HMO.out hlt h)
            have HUN := hd (fun h => waitN_under (w0 := f0) (most := mo) (k := k) h)
            have HK := hd (And.intro hlt h64)
            obtain ⟨x, hx⟩ : ∃ x, x = waitN f0 mo k := ⟨_, rfl⟩
            rw [← hx] at hle HOV HUN ⊢
            clear hx hlt h64 hk hk64
            by_cases ho : mo / 2 < x
            · have HX := hd (HOV.out ho)
              by_cases h63 : 9223372036854775808 ≤ x
              · have q1 : decide (9223372036854775808 ≤ x) = true := (dec_le_t h63).1
                have q2 : decide ((9223372036854775808 : Int) ≤ (x : Int)) = true := (dec_le_t h63).2
                clear ho h63
                go_wp2
                go_ret
                exact ⟨by rw [HX.out]; rfl, HAL.out⟩
              · have q1 : decide (9223372036854775808 ≤ x) = false := (dec_le_f h63).1
                have q2 : decide ((9223372036854775808 : Int) ≤ (x : Int)) = false := (dec_le_f h63).2
                have hw := twice_w h63
                have hmy := over_w ho
                obtain ⟨y, hy⟩ : ∃ y, y = 2 * x := ⟨_, rfl⟩
                rw [← hy] at hw hmy
                obtain ⟨q3, q4⟩ := dec_lt_t hmy
                clear ho h63 hy hmy
                go_wp2
                go_ret
                exact ⟨by rw [HX.out]; rfl, HAL.out⟩
            · have HX := hd (HUN.out ho)
              have h63 := under_63 ho HML.out
              have q1 : decide (9223372036854775808 ≤ x) = false := (dec_le_f h63).1
              have q2 : decide ((9223372036854775808 : Int) ≤ (x : Int)) = false := (dec_le_f h63).2
              have hw := twice_w h63
              have hmy := under_w ho
              obtain ⟨y, hy⟩ : ∃ y, y = 2 * x := ⟨_, rfl⟩
              rw [← hy] at hw HX hmy
              obtain ⟨q3, q4⟩ := dec_lt_f hmy
              have hks : wrap64 ((k : Int) + 1) = ((k + 1 : Nat) : Int) := Go.IntWalk.wrap64_in _ ⟨by omega, by have := HK.out; omega⟩
              clear ho h63 hy hmy
              go_wp2
              go_round
              case rel => exact ⟨k + 1, HK.out.1, HK.out.2, by rw [hks], by rw [HX.out]⟩
              case measure =>
                have h1 := HK.out.2
                rw [hks]
                clear hw hks q1 q2 q3 q4 k1 k2 k3
                simp [intOf]
                omega
          · have k2 : decide ((k : Int) < 64) = false := (dec_lt_f h64).2
            have k3 : decide (k < 64) = false := (dec_lt_f h64).1
            have hk6 : k = 64 := by omega
            have HX := hd (show waitN f0 mo k = waitN f0 mo nt by rw [hk6, waitN_64 HF.out HM.out HML.out (Nat.le_refl _), waitN_64 HF.out HM.out HML.out (show 64 ≤ nt by omega)])
            clear hlt h64 hk hk64 hk6
            go_wp2
            go_ret
            exact ⟨by rw [← HX.out]; rfl, HAL.out⟩
        · have k1 : decide ((k : Int) < tries) = false := by simp; have := hnt.out; omega
          obtain rfl : k = nt := by omega
          clear hlt hk hk64
          go_wp2
          go_ret
          exact ⟨rfl, HAL.out⟩
def timV (last : Nat) (tries : Int) : Value := .agg #[.int .u64 (last : Int), .int .i64 tries]
set_option maxRecDepth 100000 in
theorem refdue_calls {now : Nat} (hr : r.ok) (hnow : now < 2 ^ 64) (ht : tries ≤ 9223372036854775807) :
    Calls Tryd.prog 17 #[r.v, timV last tries, .int .u64 (now : Int)] w fun e w' => e = .returned (.bool (dueB r last tries now)) ∧ Below w.heap.size w w' := by
  have hal := below_alloc (Below.refl w.heap.size w) (.cells (Rul.a r) 27)
  have hbx := blk_new w (.cells (Rul.a r) 27)
  have hby := blk_new (w.alloc (.cells (Rul.a r) 27)) (.cells #[.int .u64 (last : Int), .int .i64 tries] 34)
  have hal1 := below_alloc (Below.refl _ (w.alloc (.cells (Rul.a r) 27))) (.cells #[.int .u64 (last : Int), .int .i64 tries] 34)
  rw [World.size_alloc] at hby
  have HAL := hd (below_seq hal hal1)
  have HBX := hd (blk_below hbx hal1)
  have HBY := hd hby
  have HSI := fun w => hd (refsince_calls (a := last) (b := now) (w := w))
  have HWA := fun w => hd (refwait_calls (r := r) (tries := tries) (w := w) hr ht)
  obtain ⟨b, hb⟩ : ∃ b, Aside0 (dueB r last tries now = b) := ⟨_, ⟨rfl⟩⟩
  rw [hb.out]
  have hbb := hb.out
  unfold dueB at hbb
  obtain ⟨x, hx⟩ : ∃ x, x = waitF r.r0 r.r1 tries := ⟨_, rfl⟩
  obtain ⟨y, hy⟩ : ∃ y, y = sinceN last now := ⟨_, rfl⟩
  rw [← hx] at hbb HWA
  rw [← hy] at hbb HSI
  have HNOW := hd hnow
  clear hal hbx hby hal1 hr hnow ht hx hy
  unfold Rul.v timV
  unfold Rul.a at HAL HBX HBY
  unfold Rul.v at HWA
  go_enter Tryd.func17, Tryd.ntmps17
  go_upto_region 1 with (fail)
  generalize ((w.alloc (.cells #[.int .u64 (r.r0 : Int), .int .u64 (r.r1 : Int), .int .i64 r.r2, .int .u64 (r.r3 : Int), .int .u64 (r.r4 : Int), .int .u64 (r.r5 : Int), .int .u64 (r.r6 : Int)] 27)).alloc (.cells #[.int .u64 (last : Int), .int .i64 tries] 34)) = w1 at HAL HBX HBY ⊢
  generalize w.heap.size = q at HBX HBY ⊢
  refine up_start [] [(0, true), (1, true), (2, true), (4, true), (5, true), (6, true), (3, false), (7, false), (8, true), (9, true)] (by kernel_rfl) rfl (by kernel_rfl) (by kernel_rfl) ?_
  have HBW0 := hd (below_seq HAL.out (below_drew (Below.refl w1.heap.size w1)))
  replace HBX := hd (blk_below HBX.out (below_drew (Below.refl w1.heap.size w1)))
  replace HBY := hd (blk_below HBY.out (below_drew (Below.refl w1.heap.size w1)))
  generalize w1.drew = w5 at HBW0 HBX HBY ⊢
  have t0 := Grow.cells (show w5.cell? ⟨q, 0, none⟩ = some (.int .u64 (r.r0 : Int)) by rw [blk_cell HBX.out]; rfl)
  have t1 := Grow.cells (show w5.cell? ⟨q, 1, none⟩ = some (.int .u64 (r.r1 : Int)) by rw [blk_cell HBX.out]; rfl)
  have t2 := Grow.cells (show w5.cell? ⟨q, 2, none⟩ = some (.int .i64 r.r2) by rw [blk_cell HBX.out]; rfl)
  have t3 := Grow.cells (show w5.cell? ⟨q, 3, none⟩ = some (.int .u64 (r.r3 : Int)) by rw [blk_cell HBX.out]; rfl)
  have t4 := Grow.cells (show w5.cell? ⟨q, 4, none⟩ = some (.int .u64 (r.r4 : Int)) by rw [blk_cell HBX.out]; rfl)
  have t5 := Grow.cells (show w5.cell? ⟨q, 5, none⟩ = some (.int .u64 (r.r5 : Int)) by rw [blk_cell HBX.out]; rfl)
  have t6 := Grow.cells (show w5.cell? ⟨q, 6, none⟩ = some (.int .u64 (r.r6 : Int)) by rw [blk_cell HBX.out]; rfl)
  have t7 := Grow.cells (show w5.cell? ⟨q + 1, 0, none⟩ = some (.int .u64 (last : Int)) by rw [blk_cell HBY.out]; rfl)
  have t8 := Grow.cells (show w5.cell? ⟨q + 1, 1, none⟩ = some (.int .i64 tries) by rw [blk_cell HBY.out]; rfl)
  refine seq_pure (i := 0) (N := some 7) (v := ?_) (a' := ?_) rfl rfl (by rfl) (fun _ _ _ h => h) ?_ ?_ ?_
  rotate_left 2
  · intro w' hg
    go_simp
    with_reducible rfl
  · simp only [Act.put, List.setIfInBounds_toArray, List.set_cons_zero, List.set_cons_succ, i64_w, i32_w]
    rfl
  refine seq_pure (i := 1) (N := some 8) (v := ?_) (a' := ?_) rfl rfl (by rfl) (fun _ _ _ h => h) ?_ ?_ ?_
  rotate_left 2
  · intro w' hg
    go_simp
    with_reducible rfl
  · simp only [Act.put, List.setIfInBounds_toArray, List.set_cons_zero, List.set_cons_succ, i64_w, i32_w]
    rfl
  refine seq_pure (i := 2) (N := some 9) (v := ?_) (a' := ?_) rfl rfl (by rfl) (fun _ _ _ h => h) ?_ ?_ ?_
  rotate_left 2
  · intro w' hg
    go_simp
    with_reducible rfl
  · simp only [Act.put, List.setIfInBounds_toArray, List.set_cons_zero, List.set_cons_succ, i64_w, i32_w]
    rfl
  refine seq_pure (i := 4) (N := some 11) (v := ?_) (a' := ?_) rfl rfl (by rfl) (fun _ _ _ h => h) ?_ ?_ ?_
  rotate_left 2
  · intro w' hg
    go_simp
    with_reducible rfl
  · simp only [Act.put, List.setIfInBounds_toArray, List.set_cons_zero, List.set_cons_succ, i64_w, i32_w]
    rfl
  refine seq_pure (i := 5) (N := some 12) (v := ?_) (a' := ?_) rfl rfl (by rfl) (fun _ _ _ h => h) ?_ ?_ ?_
  rotate_left 2
  · intro w' hg
    go_simp
    with_reducible rfl
  · simp only [Act.put, List.setIfInBounds_toArray, List.set_cons_zero, List.set_cons_succ, i64_w, i32_w]
    rfl
  refine seq_pure (i := 6) (N := some 13) (v := ?_) (a' := ?_) rfl rfl (by rfl) (fun _ _ _ h => h) ?_ ?_ ?_
  rotate_left 2
  · intro w' hg
    go_simp
    with_reducible rfl
  · simp only [Act.put, List.setIfInBounds_toArray, List.set_cons_zero, List.set_cons_succ, i64_w, i32_w]
    rfl
  refine seq_call (i := 3) (N := some 10) rfl rfl Tryd.func54 (by kernel_rfl) rfl #[.int .u64 (last : Int), .int .u64 (now : Int)] (by rfl) rfl ?_ ?_
  · simp only [List.map_toArray, List.map_cons, List.map_nil]
    rfl
  refine (HSI w5).out.mono ?_
  rintro e w6 h
  obtain ⟨rfl, rfl⟩ := h HNOW.out
  refine ⟨_, rfl, fun _ => Below.refl _ _, ?_⟩
  refine seq_norm (a' := ?_) ?_ ?_
  rotate_left
  · show Act.put _ (some 10) _ = _
    simp only [Act.put, List.setIfInBounds_toArray, List.set_cons_zero, List.set_cons_succ, i64_w, i32_w]
    rfl
  refine seq_call (i := 7) (N := some 14) rfl rfl Tryd.func15 (by kernel_rfl) rfl #[.agg #[.int .u64 (r.r0 : Int), .int .u64 (r.r1 : Int), .int .i64 r.r2, .int .u64 (r.r3 : Int), .int .u64 (r.r4 : Int), .int .u64 (r.r5 : Int), .int .u64 (r.r6 : Int)], .int .i64 tries] (by rfl) rfl ?_ ?_
  · simp only [List.map_toArray, List.map_cons, List.map_nil]
    rfl
  refine (HWA w5).out.mono ?_
  rintro e w7 ⟨rfl, hb7⟩
  have HBW := hd (below_seq HBW0.out hb7)
  refine ⟨_, rfl, fun _ => hb7, ?_⟩
  clear hb7
  refine seq_norm (a' := ?_) ?_ ?_
  rotate_left
  · show Act.put _ (some 14) _ = _
    simp only [Act.put, List.setIfInBounds_toArray, List.set_cons_zero, List.set_cons_succ, i64_w, i32_w]
    rfl
  refine seq_pure (i := 8) (N := some 15) (v := ?_) (a' := ?_) rfl rfl (by rfl) (fun _ _ _ h => h) ?_ ?_ ?_
  rotate_left 2
  · intro w' hg
    go_simp
    with_reducible rfl
  · simp only [Act.put, List.setIfInBounds_toArray, List.set_cons_zero, List.set_cons_succ, i64_w, i32_w]
    rfl
  refine seq_pure (i := 9) (N := some 6) (v := ?_) (a' := ?_) rfl rfl (by rfl) (fun _ _ _ h => h) ?_ ?_ ?_
  rotate_left 2
  · intro w' hg
    go_simp
    with_reducible rfl
  · simp only [Act.put, List.setIfInBounds_toArray, List.set_cons_zero, List.set_cons_succ, i64_w, i32_w]
    rfl
  refine seq_done ?_
  go_wp2
  go_ret
  exact ⟨by rw [← hbb]; first | rfl | simp, HBW.out⟩
set_option maxRecDepth 100000 in
theorem refagain_calls {now : Nat} (ht : tries ≤ 9000000000000000000) (ht0 : -9223372036854775808 ≤ tries) :
    Calls Tryd.prog 19 #[r.v, timV last tries, .int .u64 (now : Int)] w fun e w' => e = .returned (.tuple (if tries < r.r2 then #[timV now (tries + 1), .bool true] else #[timV last tries, .bool false])) ∧ Below w.heap.size w w' := by
  have hal := below_alloc (Below.refl w.heap.size w) (.cells (Rul.a r) 27)
  have hbx := blk_new w (.cells (Rul.a r) 27)
  have hby := blk_new (w.alloc (.cells (Rul.a r) 27)) (.cells #[.int .u64 (last : Int), .int .i64 tries] 34)
  have hal1 := below_alloc (Below.refl _ (w.alloc (.cells (Rul.a r) 27))) (.cells #[.int .u64 (last : Int), .int .i64 tries] 34)
  have hbz := blk_new ((w.alloc (.cells (Rul.a r) 27)).alloc (.cells #[.int .u64 (last : Int), .int .i64 tries] 34)) (.cells #[.int .u64 0, .int .i64 0] 34)
  have hal2 := below_alloc (Below.refl _ ((w.alloc (.cells (Rul.a r) 27)).alloc (.cells #[.int .u64 (last : Int), .int .i64 tries] 34))) (.cells #[.int .u64 0, .int .i64 0] 34)
  rw [World.size_alloc] at hby
  rw [World.size_alloc, World.size_alloc] at hbz
  have HAL := hd (below_seq (below_seq hal hal1) hal2)
  have HBX := hd (blk_below (blk_below hbx hal1) hal2)
  have HBY := hd (blk_below hby hal2)
  have HBZ := hd hbz
  clear hal hbx hby hal1 hbz hal2
  unfold Rul.v timV
  unfold Rul.a at HAL HBX HBY HBZ
  by_cases hlt : tries < r.r2
  · have hw : wrap64 (tries + 1) = tries + 1 := Go.IntWalk.wrap64_in _ ⟨by omega, by omega⟩
    have q2 : decide (r.r2 ≤ tries) = false := by simp; omega
    rw [if_pos hlt]
    clear ht ht0
    go_enter Tryd.func19, Tryd.ntmps19
    go_upto_region 1 with (fail)
    generalize (((w.alloc (.cells #[.int .u64 (r.r0 : Int), .int .u64 (r.r1 : Int), .int .i64 r.r2, .int .u64 (r.r3 : Int), .int .u64 (r.r4 : Int), .int .u64 (r.r5 : Int), .int .u64 (r.r6 : Int)] 27)).alloc (.cells #[.int .u64 (last : Int), .int .i64 tries] 34)).alloc (.cells #[.int .u64 0, .int .i64 0] 34)) = w3 at HAL HBX HBY HBZ ⊢
    obtain ⟨q, hq⟩ : ∃ q, w.heap.size = q := ⟨_, rfl⟩
    have HQ := hd (show w.heap.size ≤ q + 1 + 1 by omega)
    rw [hq] at HBX HBY HBZ ⊢
    clear hq
    have c2 : w3.cell? ⟨q, 2, none⟩ = some (.int .i64 r.r2) := by rw [blk_cell HBX.out]; rfl
    have d0 : w3.cell? ⟨q + 1, 0, none⟩ = some (.int .u64 (last : Int)) := by rw [blk_cell HBY.out]; rfl
    have d1 : w3.cell? ⟨q + 1, 1, none⟩ = some (.int .i64 tries) := by rw [blk_cell HBY.out]; rfl
    have g0 := blk_frozen HBZ.out 0
    have g1 := blk_frozen (blk_set HBZ.out 0 (.int .u64 (now : Int))) 1
    have y0 : w3.cell? ⟨q + 1 + 1, 0, none⟩ = some (.int .u64 0) := by rw [blk_cell HBZ.out]; rfl
    have y1 : (w3.setCell ⟨q + 1 + 1, 0, none⟩ (.int .u64 (now : Int))).cell? ⟨q + 1 + 1, 1, none⟩ = some (.int .i64 0) := by rw [blk_cell (blk_set HBZ.out 0 (.int .u64 (now : Int)))]; rfl
    go_wp2
    refine bodyPost_ret (resc_1 rfl _ _ (q + 1 + 1) 34 _ (0, 0) _ rfl (blk_set (blk_set HBZ.out 0 (.int .u64 (now : Int))) 1 (.int .i64 (tries + 1))) Tryd.underlying34 rfl (by kernel_rfl)) rfl ?_
    exact ⟨rfl, (HAL.out.setCell (p := ⟨q + 1 + 1, 0, none⟩) HQ.out _).setCell (p := ⟨q + 1 + 1, 1, none⟩) HQ.out _⟩
  · have q2 : decide (r.r2 ≤ tries) = true := by simp; omega
    rw [if_neg hlt]
    clear ht ht0
    go_enter Tryd.func19, Tryd.ntmps19
    go_upto_region 1 with (fail)
    generalize (((w.alloc (.cells #[.int .u64 (r.r0 : Int), .int .u64 (r.r1 : Int), .int .i64 r.r2, .int .u64 (r.r3 : Int), .int .u64 (r.r4 : Int), .int .u64 (r.r5 : Int), .int .u64 (r.r6 : Int)] 27)).alloc (.cells #[.int .u64 (last : Int), .int .i64 tries] 34)).alloc (.cells #[.int .u64 0, .int .i64 0] 34)) = w3 at HAL HBX HBY HBZ ⊢
    obtain ⟨q, hq⟩ : ∃ q, w.heap.size = q := ⟨_, rfl⟩
    have HQ := hd (show w.heap.size ≤ q + 1 + 1 by omega)
    rw [hq] at HBX HBY HBZ ⊢
    clear hq
    have c2 : w3.cell? ⟨q, 2, none⟩ = some (.int .i64 r.r2) := by rw [blk_cell HBX.out]; rfl
    have d0 : w3.cell? ⟨q + 1, 0, none⟩ = some (.int .u64 (last : Int)) := by rw [blk_cell HBY.out]; rfl
    have d1 : w3.cell? ⟨q + 1, 1, none⟩ = some (.int .i64 tries) := by rw [blk_cell HBY.out]; rfl
    have g0 := blk_frozen HBZ.out 0
    have g1 := blk_frozen (blk_set HBZ.out 0 (.int .u64 (last : Int))) 1
    have y0 : w3.cell? ⟨q + 1 + 1, 0, none⟩ = some (.int .u64 0) := by rw [blk_cell HBZ.out]; rfl
    have y1 : (w3.setCell ⟨q + 1 + 1, 0, none⟩ (.int .u64 (last : Int))).cell? ⟨q + 1 + 1, 1, none⟩ = some (.int .i64 0) := by rw [blk_cell (blk_set HBZ.out 0 (.int .u64 (last : Int)))]; rfl
    go_wp2
    refine bodyPost_ret (resc_1 rfl _ _ (q + 1 + 1) 34 _ (0, 0) _ rfl (blk_set (blk_set HBZ.out 0 (.int .u64 (last : Int))) 1 (.int .i64 tries)) Tryd.underlying34 rfl (by kernel_rfl)) rfl ?_
    exact ⟨rfl, (HAL.out.setCell (p := ⟨q + 1 + 1, 0, none⟩) HQ.out _).setCell (p := ⟨q + 1 + 1, 1, none⟩) HQ.out _⟩
end
end Go.Proofs.YtlgdplodglchaaaDoor
