/- Texts put together: SesW SymU WinW SesN. -/
import Derived.Test.YtlgdplodglchaaaDoorProg
import Derived.Test.YtlgdplodglchaaaDoorGSesP
import Derived.Test.YtlgdplodglchaaaDoorGLib
import Derived.Deep.QuietTactic
import Derived.BigQuiet
import Derived.Test.YtlgdplodglchaaaDoorGAead
import Derived.Test.YtlgdplodglchaaaDoorGWords
import Derived.OwnWalk
/- The walks through session.since, Wait, Start. -/
set_option linter.unusedVariables false
set_option linter.unusedSimpArgs false
namespace Go.Proofs.YtlgdplodglchaaaDoor
open Go.RowKit Go.Proofs.YtlgdplodglchaaaDoorW.PrintWords Go.Proofs.YtlgdplodglchaaaDoorW.PrintLast Go.Proofs.YtlgdplodglchaaaDoorW.PrintMore
attribute [local go_sem] max2_int min2_int max_two min_two
theorem dbl_lt {x m2 mo : Nat} (h : ¬ m2 < x) (hm : m2 = mo / 2) (hmo : mo < 2 ^ 64) : 2 * x < 2 ^ 64 := by omega
theorem half_lt {m2 mo : Nat} (hm : m2 = mo / 2) (hmo : mo < 2 ^ 64) : m2 < 2 ^ 64 := by omega
theorem dbl_cast (x : Nat) : (x : Int) * 2 = ((2 * x : Nat) : Int) := by omega
theorem since_calls {a b : Nat} {w : World} (hb : b < 2 ^ 64) : Calls Tryd.prog 55 #[.int .u64 (a : Int), .int .u64 (b : Int)] w fun e w' => e = .returned (.int .u64 (sinceN a b : Nat)) ∧ w = w' := by
  by_cases h : a ≤ b
  · have h1 : ¬ ((b : Int) < (a : Int)) := by omega
    have hw : IntKind.u64.wrap ((b : Int) - (a : Int)) = ((b - a : Nat) : Int) := by rw [show (b : Int) - (a : Int) = ((b - a : Nat) : Int) by omega]; exact wrapN_u rfl (show b - a < 2 ^ 64 by omega)
    have h2 : max (b : Int) (a : Int) = (b : Int) := by omega
    have h4 : decide ((b : Int) < (a : Int)) = false := by simp; exact h
    go_enter Tryd.func55, Tryd.ntmps55
    go_wp2
    go_ret
    exact ⟨rfl, rfl⟩
  · have h1 : (b : Int) < (a : Int) := by omega
    have h2 : max (b : Int) (a : Int) = (a : Int) := by omega
    have hs : sinceN a b = 0 := by unfold sinceN; omega
    have HS := hd hs
    have h4 : decide ((b : Int) < (a : Int)) = true := by simp; omega
    clear hs
    go_enter Tryd.func55, Tryd.ntmps55
    go_wp2
    go_ret
    exact ⟨by rw [HS.out]; first | rfl | simp, rfl⟩
set_option maxRecDepth 100000 in
theorem wait_calls {r0 r1 : Nat} {r2 : Int} {r3 r4 r5 r6 : Nat} {tries : Int} {w : World} (h0 : r0 < 2 ^ 64) (h1 : r1 < 2 ^ 64) (ht : tries ≤ 9223372036854775807) :
    Calls Tryd.prog 14 #[.agg #[.int .u64 (r0 : Int), .int .u64 (r1 : Int), .int .i64 r2, .int .u64 (r3 : Int), .int .u64 (r4 : Int), .int .u64 (r5 : Int), .int .u64 (r6 : Int)], .int .i64 tries] w fun e w' => e = .returned (.int .u64 (waitF r0 r1 tries : Nat)) ∧ Below w.heap.size w w' := by
  have hal := below_alloc (Below.refl w.heap.size w) (.cells #[.int .u64 (r0 : Int), .int .u64 (r1 : Int), .int .i64 r2, .int .u64 (r3 : Int), .int .u64 (r4 : Int), .int .u64 (r5 : Int), .int .u64 (r6 : Int)] 24)
  have e5 : (if (r0 : Int) < 1 then (1 : Int) else (r0 : Int)) = ((firstW r0 : Nat) : Int) := by unfold firstW; split <;> omega
  have e6 : (if (r1 : Int) < ((firstW r0 : Nat) : Int) then ((firstW r0 : Nat) : Int) else (r1 : Int)) = ((mostW r0 r1 : Nat) : Int) := by unfold mostW; split <;> omega
  have HF := hd (firstW_pos r0)
  have HM := hd (first_most r0 r1)
  have HML := hd (show mostW r0 r1 < 2 ^ 64 by unfold mostW firstW; omega)
  have HAL := hd hal
  have HTT := hd ht
  have HE5 := hd e5
  have HE6 := hd e6
  obtain ⟨nt, hnt⟩ : ∃ nt, Aside0 (tries.toNat = nt) := ⟨_, ⟨rfl⟩⟩
  unfold waitF
  rw [hnt.out]
  clear hal h0 h1 e5 e6 ht
  obtain ⟨f0, hf0⟩ : ∃ f0, Aside0 (firstW r0 = f0) := ⟨_, ⟨rfl⟩⟩
  obtain ⟨mo, hmo⟩ : ∃ mo, Aside0 (mostW r0 r1 = mo) := ⟨_, ⟨rfl⟩⟩
  rw [hf0.out] at HF HM HE5 HE6 ⊢
  rw [hmo.out] at HM HML HE6 ⊢
  go_enter Tryd.func14, Tryd.ntmps14
  go_upto_region 3 with (fail)
  rw [HE5.out, HE6.out]
  clear HE5 HE6
  generalize (w.alloc (.cells #[.int .u64 (r0 : Int), .int .u64 (r1 : Int), .int .i64 r2, .int .u64 (r3 : Int), .int .u64 (r4 : Int), .int .u64 (r5 : Int), .int .u64 (r6 : Int)] 24)) = w1 at HAL ⊢
  go_upto_region 4 with (fail)
  go_loopw [5, 15] (fun u5 u15 wr => ∃ k : Nat, k ≤ nt ∧ u15 = .int .i64 k ∧ u5 = .int .u64 ((waitN f0 mo k : Nat) : Int) ∧ wr = w1) (fun _ u15 _ => nt - (intOf u15).toNat)
  case atStart => exact ⟨0, Nat.zero_le _, rfl, rfl, rfl⟩
  case round =>
    obtain ⟨k, hk, rfl, rfl, rfl⟩ := hrel
    by_cases hlt : k < nt
    · have k1 : (k : Int) < tries := by have := hnt.out; omega
      have HK := hd hlt
      have HTB := hd (show (k : Int) < 9223372036854775807 by have := HTT.out; omega)
      have hle := waitN_le HM.out k
      have HOV := hd (fun h => waitN_over (w0 := f0) (most := mo) (k := k) (n := nt) (by have := HF.out; have := HM.out; omega) hlt h)
      have HUN := hd (fun h => waitN_under (w0 := f0) (most := mo) (k := k) h)
      generalize waitN f0 mo k = x at hle HOV HUN ⊢
      obtain ⟨m2, hm2⟩ : ∃ m2, m2 = mo / 2 := ⟨_, rfl⟩
      have hq : (mo : Int).tdiv 2 = (m2 : Int) := by rw [hm2]; rfl
      have hq2 : (mo : Int) / 2 = (m2 : Int) := by omega
      have HM2 := hd hm2
      have HLE := hd hle
      have hwq : IntKind.u64.wrap (m2 : Int) = (m2 : Int) := wrapN_u rfl (half_lt hm2 HML.out)
      clear hm2 hlt hle
      by_cases ho : m2 < x
      · have q : decide (m2 < x) = true := by simp; exact ho
        have q' : decide ((m2 : Int) < (x : Int)) = true := by simp; exact ho
        have HX := hd (HOV.out (by rw [← HM2.out]; exact ho))
        clear ho
        go_wp2
        go_ret
        exact ⟨by rw [HX.out]; rfl, HAL.out⟩
      · have q : decide (m2 < x) = false := by simp; omega
        have q' : decide ((m2 : Int) < (x : Int)) = false := by simp; omega
        have HX := hd (HUN.out (by rw [← HM2.out]; exact ho))
        have hw : IntKind.u64.wrap ((x : Int) * 2) = ((2 * x : Nat) : Int) := by rw [dbl_cast]; exact wrapN_u rfl (dbl_lt ho HM2.out HML.out)
        have htb := HTB.out
        clear ho
        go_wp2
        go_roundw
        case rel => exact ⟨k + 1, HK.out, by go_num, by rw [HX.out]; exact congrArg (Value.int .u64) (by omega), by first | rfl | trivial⟩
        case measure => simp [intOf]; have := HK.out; omega
    · have k1 : tries ≤ (k : Int) ∨ (nt = 0 ∧ k = 0) := by have := hnt.out; omega
      have k2 : ¬ ((k : Int) < tries) := by have := hnt.out; omega
      have k3 : decide ((k : Int) < tries) = false := by simp; omega
      obtain rfl : k = nt := by omega
      have HA := hd k1
      clear k1 hlt
      go_wp2
      go_ret
      exact ⟨rfl, HAL.out⟩
end Go.Proofs.YtlgdplodglchaaaDoor
/- The walks through sym.nonce, Cipher.use, Seal, Open; slices.Clone. -/
set_option linter.unusedVariables false
set_option linter.unusedSimpArgs false
namespace Go.Proofs.YtlgdplodglchaaaDoor
open Go.RowKit Go.Proofs.YtlgdplodglchaaaDoorW.PrintWords Go.Proofs.YtlgdplodglchaaaDoorW.PrintLast Go.Proofs.YtlgdplodglchaaaDoorW.PrintMore
section
variable {P : Program} {ops : Array Oper} {rest : List Oper} {o : Oper} {a : Act} {Kc : Act → World → Prop} {Q : Exit → Act → World → Prop}
/-- make([]byte, m), in whatever world. -/
theorem op_makeB_step {W : World} (N : Tmp) (hd : o.dst = some N) (x y : Operand) (ho : o.op = .makeSlice 40 x y) (hw : Region.wanted o (yielded ops a.tmps) = true) (m : Nat) (hx : a.eval x = .int .i64 (m : Int)) (hy : a.eval y = .int .i64 (m : Int)) (h64 : m ≤ 2000)
    (h : ∀ A c w1, OwnK .u8 5 W.heap.size w1 (.slice A m c) (List.replicate m 0) → Below W.heap.size W w1 → Kc (a.put o.dst (.slice A m c)) w1) :
    if Region.wanted o (yielded ops a.tmps) = true then Oper.wp Tryd.prog o a W Kc Q else Kc (a.put o.dst undef) W :=
  Kd.R_make_step (Kd.int .u8) (w0 := W) W.heap.size 5 hw hd 40 x y ho (m : Int) hx hy Tryd.underlying40 (.int .u8 0) 1 Tryd.infoU8 rfl (Nat.zero_lt_one) (by decide) 0 (okp := fun _ => True) (ok := fun _ => True) rfl (fun _ _ => trivial) trivial (by omega) (by rw [Int.toNat_natCast]; omega) (Below.refl _ _) (Nat.le_refl _) (fun v1 w1 hr hb _ _ => by
    rw [Int.toNat_natCast] at hr
    have h2 : OwnK .u8 5 W.heap.size w1 v1 (List.replicate m 0) := by
      unfold OwnK
      rw [show ints (List.replicate m 0) = List.replicate m (0 : Int) by simp [ints]]
      exact hr
    obtain ⟨A, c, rfl, _, _⟩ := h2.slice
    rw [List.length_replicate] at *
    exact h A c w1 h2 hb)
/-- A call of a function that lies in a slot. -/
theorem goesV_ {oi : Oper} {N : Option Tmp} {a : Act} {w : World} {K : Act → World → Prop} {f : FuncId} {fn : Func} {x : Operand} {as1 : Array Operand} {ts : Array TypeId} (hf : P.funcs[f]? = some fn) (hname : (fn.name == "runtime.NumGoroutine") = false) (hb : fn.body.isSome = true) (args : Array Value)
    (hw : Region.wanted oi (yielded ops a.tmps) = true) (hN : oi.dst = N) (hop : oi.op = .call { callee := .value x, args := as1, argTypes := ts }) (hx : a.eval x = .func (.func f) #[] #[]) (hargs : as1.map a.eval = args)
    (h : Calls P f args w fun e w' => ∃ v, e = .returned v ∧ K (a.put N v) w') : if Region.wanted oi (yielded ops a.tmps) = true then Oper.wp P oi a w K Q else K (a.put N undef) w := by
  refine call_ f args hw hN ?_ h
  have he := enters_ hf hname hb args w
  unfold execOp
  simp [hop, resolve, Deferred.ofValue, invoke, hx, hargs, he]
theorem seq_callV {ds : List Nat} {i : Nat} {oi : Oper} {N : Option Tmp} {s : List (Nat × Bool)} {a : Act} {w : World} {f : FuncId} {fn : Func} {x : Operand} {as1 : Array Operand} {ts : Array TypeId} (hi : ops[i]? = some oi) (hN : oi.dst = N) (hf : P.funcs[f]? = some fn) (hname : (fn.name == "runtime.NumGoroutine") = false) (hb : fn.body.isSome = true) (args : Array Value)
    (hw : Region.wanted oi (yielded ops a.tmps) = true) (hop : oi.op = .call { callee := .value x, args := as1, argTypes := ts }) (hx : a.eval x = .func (.func f) #[] #[]) (hargs : as1.map a.eval = args)
    (h : Calls P f args w fun e w' => ∃ v, e = .returned v ∧ (i ∉ ds → Grow w w') ∧ wpSeq P ops Q ds s (a.put N v) w') : wpSeq P ops Q ds ((i, false) :: s) a w :=
  wpOp_step hi (fun K hK => by
    subst hN
    refine goesV_ hf hname hb args hw rfl hop hx hargs (h.mono ?_)
    rintro e w' ⟨v, rfl, hg, hs⟩
    exact ⟨v, rfl, hK _ _ ⟨hg, hs⟩⟩)
theorem uq_makeB {ds : List Nat} {R : World → World → Prop} {C : Act → World → Prop} {i : Nat} {W : World} {N : Tmp} (hi : ops[i]? = some o) (hd : o.dst = some N) (x y : Operand) (ho : o.op = .makeSlice 40 x y) (hw : Region.wanted o (yielded ops a.tmps) = true) (m : Nat) (hx : a.eval x = .int .i64 (m : Int)) (hy : a.eval y = .int .i64 (m : Int)) (h64 : m ≤ 2000)
    (h : ∀ A c w1, OwnK .u8 5 W.heap.size w1 (.slice A m c) (List.replicate m 0) → Below W.heap.size W w1 → ((i ∉ ds → Grow W w1) ∧ R W w1) ∧ C (a.put (some N) (.slice A m c)) w1) : wpOp Tryd.prog ops Q i (fun a' w' => ((i ∉ ds → Grow W w') ∧ R W w') ∧ C a' w') a W :=
  wpOp_step hi (fun K hK => op_makeB_step N hd x y ho hw m hx hy h64 (fun A c w1 h1 h2 => by
    rw [hd]
    exact hK _ _ (h A c w1 h1 h2)))
end
/-- A cell that is stored as it is. -/
theorem setCell_self {w : World} {p : Addr} {v : Value} (h : w.cell? p = some v) : w.setCell p v = w := by
  unfold World.cell? at h
  unfold World.setCell
  have hh : (w.heap.modify p.block fun
      | .cells c elem frozen => .cells (if p.spot.isSome then c else c.setIfInBounds p.off v) elem frozen
      | o => o) = w.heap := by
    apply Array.ext (by simp)
    intro i h1 h2
    rw [Array.getElem_modify]
    split
    · rename_i e
      subst e
      rw [Array.getElem?_eq_getElem h2] at h
      generalize w.heap[p.block] = o at h ⊢
      cases o with
      | cells c t f =>
        simp only at h ⊢
        split at h
        · cases h
        · rename_i hs
          rw [if_neg hs]
          congr 1
          apply Array.ext (by simp)
          intro j g1 g2
          rw [Array.getElem_setIfInBounds]
          split
          · rename_i e
            subst e
            rw [Array.getElem?_eq_getElem g2] at h
            injection h with h
            exact h.symm
          · rfl
      | _ => rfl
    · rfl
  exact congrArg (fun h => { w with heap := h }) hh
def nonceN (x : Nat) : List Nat := List.replicate 4 0 ++ storeN x 8
theorem nonceN_length (x : Nat) : (nonceN x).length = 12 := by rw [nonceN, List.length_append, List.length_replicate, storeN_length]
theorem nonceN_ok (x : Nat) : BytesOK (nonceN x) := BytesOK.append (BytesOK.replicate (by decide)) (storeN_ok _ _)
theorem own_bytes4 {e base n c : Nat} {w : World} {A : Option Addr} (h : OwnK .u8 e base w (.slice A n c) (List.replicate n 0)) : Bytes w A n c (List.replicate n 0) := ⟨h.row.2.2, List.length_replicate .., by have := h.row.2.1; rw [List.length_replicate] at this; exact this, BytesOK.replicate (by decide)⟩
theorem own_bytes8 {e base c x : Nat} {w : World} {A : Option Addr} (h : OwnK .u8 e base w (.slice A 8 c) (storeN x 8)) : Bytes w A 8 c (storeN x 8) := ⟨h.row.2.2, storeN_length _ _, by have := h.row.2.1; rw [storeN_length] at this; exact this, storeN_ok _ _⟩
set_option maxRecDepth 100000 in
theorem nonce_calls {x : Nat} {w : World} (hx : x < 2 ^ 64) :
    Calls Tryd.prog 71 #[.int .u64 (x : Int)] w fun e w' => ∃ v, e = .returned v ∧ OwnK .u8 5 w.heap.size w' v (nonceN x) ∧ Below w.heap.size w w' := by
  go_enter Tryd.func71, Tryd.ntmps71
  go_wp2_with fail
  refine uq_start (fun _ _ => True) [] 6 rfl (by kernel_rfl) ?_
  have hb0 := below_drew (Below.refl w.heap.size w)
  generalize w.drew = w0 at hb0 ⊢
  have HB0 := hd hb0
  clear hb0
  refine uq_pure Keeps.any (i := 1) (N := some 4) (v := ?_) (a' := ?_) (by kernel_rfl) (by kernel_rfl) rfl rfl (by rfl) (fun _ _ _ h => h) ?_ ?_ ?_
  rotate_left 2
  · intro w' hg
    go_simp
    with_reducible rfl
  · simp only [Act.put, List.setIfInBounds_toArray, List.set_cons_zero, List.set_cons_succ, i64_w, i32_w]
    rfl
  refine uq_two (i := 0) (j := 2) (by kernel_rfl) ?_ ?_
  · refine uq_makeB (R := fun _ _ => True) (W := w0) (i := 0) (N := 3) rfl rfl (.const (.int .i64 4)) (.const (.int .i64 4)) rfl (by rfl) 4 rfl rfl (by decide) ?_
    intro Am cm w1 hom hbm
    refine ⟨⟨fun _ => hbm, trivial⟩, ?_⟩
    refine uq_norm (a' := ?_) ?_ ?_
    rotate_left
    · simp only [Act.put, List.setIfInBounds_toArray, List.set_cons_zero, List.set_cons_succ, i64_w, i32_w]
      rfl
    refine uq_one (i := 2) (by kernel_rfl) ?_
    refine uq_call (R := fun _ _ => True) (i := 2) (N := some 5) rfl rfl Tryd.func88 (by kernel_rfl) rfl #[.int .u64 (x : Int), .int .i64 8] (by rfl) rfl ?_ ?_
    · simp only [List.map_toArray, List.map_cons, List.map_nil]
      rfl
    refine (store_calls x 8 w1 rfl hx).mono ?_
    rintro e w2 ⟨vs, rfl, hos, hbs⟩
    replace hos : OwnK .u8 5 w1.heap.size w2 vs (storeN x 8) := hos
    obtain ⟨As, cs, rfl, _⟩ := hos.bytes 8 (storeN_length _ _) (storeN_ok _ _)
    refine ⟨_, rfl, ⟨fun _ => hbs, trivial⟩, ?_⟩
    refine uq_norm (a' := ?_) ?_ ?_
    rotate_left
    · show Act.put _ (some 5) _ = _
      simp only [Act.put, List.setIfInBounds_toArray, List.set_cons_zero, List.set_cons_succ, i64_w, i32_w]
      rfl
    have HB12 := hd (below_seq hbm hbs)
    have HM := hd ((own_bytes4 hom).below hbs)
    have HS := hd (own_bytes8 hos)
    clear hom hos hbm hbs
    have hB := hd (below_seq HB0.out HB12.out)
    have hal := below_alloc (Below.refl w2.heap.size w2) (.cells #[.slice Am 4 cm, .slice As 8 cs] 40)
    refine uq_one (i := 3) (by kernel_rfl) ?_
    refine uq_value (R := fun _ _ => True) (i := 3) (N := some 6) (v := .slice (some ⟨w2.heap.size, 0, none⟩) 2 2) (a' := ?_) (w1 := w2.alloc (.cells #[.slice Am 4 cm, .slice As 8 cs] 40)) rfl rfl (by rfl) ?_ ⟨fun _ => hal, trivial⟩ ?_ ?_
    rotate_left
    · go_simp
    · simp only [Act.put, List.setIfInBounds_toArray, List.set_cons_zero, List.set_cons_succ, i64_w, i32_w]
      rfl
    have HR2 := hd (Rows2.new (t := 40) (g := w2.heap.size) (vs := [.slice Am 4 cm, .slice As 8 cs]) (L := [List.replicate 4 0, storeN x 8]) ⟨⟨_, _, _, rfl, HM.out⟩, ⟨_, _, _, rfl, HS.out⟩, trivial⟩ rfl rfl (by simp))
    have HAL := hd hal
    clear hal
    refine uq_one (i := 4) (by kernel_rfl) ?_
    refine uq_call (R := fun _ _ => True) (i := 4) (N := some 7) rfl rfl Tryd.func66 (by kernel_rfl) rfl #[.slice (some ⟨w2.heap.size, 0, none⟩) 2 2] (by rfl) rfl ?_ ?_
    · simp only [List.map_toArray, List.map_cons, List.map_nil]
      rfl
    refine (join_calls HR2.out rfl (Nat.le_refl 2) (by simp [storeN_length])).mono ?_
    rintro e w4 ⟨vj, rfl, hoj, hbj⟩
    refine ⟨_, rfl, ⟨fun _ => hbj, trivial⟩, ?_⟩
    have hfl : ([List.replicate 4 0, storeN x 8] : List (List Nat)).flatten = nonceN x := by simp [nonceN]
    rw [hfl] at hoj
    have HOJ := hd hoj
    have HBJ := hd hbj
    clear hoj hbj hfl
    refine uq_norm (a' := ?_) ?_ ?_
    rotate_left
    · show Act.put _ (some 7) _ = _
      simp only [Act.put, List.setIfInBounds_toArray, List.set_cons_zero, List.set_cons_succ, i64_w, i32_w]
      rfl
    refine uq_pure Keeps.any (i := 5) (N := some 2) (v := ?_) (a' := ?_) (by kernel_rfl) (by kernel_rfl) rfl rfl (by rfl) (fun _ _ _ h => h) ?_ ?_ ?_
    rotate_left 2
    · intro w' hg
      go_simp
      with_reducible rfl
    · simp only [Act.put, List.setIfInBounds_toArray, List.set_cons_zero, List.set_cons_succ, i64_w, i32_w]
      rfl
    refine uq_end (by kernel_rfl) ?_
    go_wp2
    go_ret
    exact ⟨vj, rfl, HOJ.out.lower (Nat.le_trans HB0.out.size (Nat.le_trans HB12.out.size HAL.out.size)), below_seq hB.out (below_seq HAL.out HBJ.out)⟩
  · refine uq_call (R := fun _ _ => True) (i := 2) (N := some 5) rfl rfl Tryd.func88 (by kernel_rfl) rfl #[.int .u64 (x : Int), .int .i64 8] (by rfl) rfl ?_ ?_
    · simp only [List.map_toArray, List.map_cons, List.map_nil]
      rfl
    refine (store_calls x 8 w0 rfl hx).mono ?_
    rintro e w1 ⟨vs, rfl, hos, hbs⟩
    replace hos : OwnK .u8 5 w0.heap.size w1 vs (storeN x 8) := hos
    obtain ⟨As, cs, rfl, _⟩ := hos.bytes 8 (storeN_length _ _) (storeN_ok _ _)
    refine ⟨_, rfl, ⟨fun _ => hbs, trivial⟩, ?_⟩
    refine uq_norm (a' := ?_) ?_ ?_
    rotate_left
    · show Act.put _ (some 5) _ = _
      simp only [Act.put, List.setIfInBounds_toArray, List.set_cons_zero, List.set_cons_succ, i64_w, i32_w]
      rfl
    refine uq_one (i := 0) (by kernel_rfl) ?_
    refine uq_makeB (R := fun _ _ => True) (W := w1) (i := 0) (N := 3) rfl rfl (.const (.int .i64 4)) (.const (.int .i64 4)) rfl (by rfl) 4 rfl rfl (by decide) ?_
    intro Am cm w2 hom hbm
    refine ⟨⟨fun _ => hbm, trivial⟩, ?_⟩
    refine uq_norm (a' := ?_) ?_ ?_
    rotate_left
    · simp only [Act.put, List.setIfInBounds_toArray, List.set_cons_zero, List.set_cons_succ, i64_w, i32_w]
      rfl
    have HB12 := hd (below_seq hbs hbm)
    have HM := hd (own_bytes4 hom)
    have HS := hd ((own_bytes8 hos).below hbm)
    clear hom hos hbm hbs
    have hB := hd (below_seq HB0.out HB12.out)
    have hal := below_alloc (Below.refl w2.heap.size w2) (.cells #[.slice Am 4 cm, .slice As 8 cs] 40)
    refine uq_one (i := 3) (by kernel_rfl) ?_
    refine uq_value (R := fun _ _ => True) (i := 3) (N := some 6) (v := .slice (some ⟨w2.heap.size, 0, none⟩) 2 2) (a' := ?_) (w1 := w2.alloc (.cells #[.slice Am 4 cm, .slice As 8 cs] 40)) rfl rfl (by rfl) ?_ ⟨fun _ => hal, trivial⟩ ?_ ?_
    rotate_left
    · go_simp
    · simp only [Act.put, List.setIfInBounds_toArray, List.set_cons_zero, List.set_cons_succ, i64_w, i32_w]
      rfl
    have HR2 := hd (Rows2.new (t := 40) (g := w2.heap.size) (vs := [.slice Am 4 cm, .slice As 8 cs]) (L := [List.replicate 4 0, storeN x 8]) ⟨⟨_, _, _, rfl, HM.out⟩, ⟨_, _, _, rfl, HS.out⟩, trivial⟩ rfl rfl (by simp))
    have HAL := hd hal
    clear hal
    refine uq_one (i := 4) (by kernel_rfl) ?_
    refine uq_call (R := fun _ _ => True) (i := 4) (N := some 7) rfl rfl Tryd.func66 (by kernel_rfl) rfl #[.slice (some ⟨w2.heap.size, 0, none⟩) 2 2] (by rfl) rfl ?_ ?_
    · simp only [List.map_toArray, List.map_cons, List.map_nil]
      rfl
    refine (join_calls HR2.out rfl (Nat.le_refl 2) (by simp [storeN_length])).mono ?_
    rintro e w4 ⟨vj, rfl, hoj, hbj⟩
    refine ⟨_, rfl, ⟨fun _ => hbj, trivial⟩, ?_⟩
    have hfl : ([List.replicate 4 0, storeN x 8] : List (List Nat)).flatten = nonceN x := by simp [nonceN]
    rw [hfl] at hoj
    have HOJ := hd hoj
    have HBJ := hd hbj
    clear hoj hbj hfl
    refine uq_norm (a' := ?_) ?_ ?_
    rotate_left
    · show Act.put _ (some 7) _ = _
      simp only [Act.put, List.setIfInBounds_toArray, List.set_cons_zero, List.set_cons_succ, i64_w, i32_w]
      rfl
    refine uq_pure Keeps.any (i := 5) (N := some 2) (v := ?_) (a' := ?_) (by kernel_rfl) (by kernel_rfl) rfl rfl (by rfl) (fun _ _ _ h => h) ?_ ?_ ?_
    rotate_left 2
    · intro w' hg
      go_simp
      with_reducible rfl
    · simp only [Act.put, List.setIfInBounds_toArray, List.set_cons_zero, List.set_cons_succ, i64_w, i32_w]
      rfl
    refine uq_end (by kernel_rfl) ?_
    go_wp2
    go_ret
    exact ⟨vj, rfl, HOJ.out.lower (Nat.le_trans HB0.out.size (Nat.le_trans HB12.out.size HAL.out.size)), below_seq hB.out (below_seq HAL.out HBJ.out)⟩
/-- slices.Clone, of none too. -/
theorem clone_any {A : Option Addr} {n c : Nat} {l : List Nat} {w : World} (hb : Bytes w A n c l) (hn : n ≤ 100000000) :
    Calls Tryd.prog 56 #[.slice A n c] w fun e w' => ∃ v, e = .returned v ∧ OwnK .u8 5 w.heap.size w' v l ∧ Below w.heap.size w w' := by
  cases A with
  | none =>
    have hl : l = [] := by
      have h1 := hb.1.at_ 0
      rcases l with _ | ⟨x, l⟩
      · rfl
      · obtain ⟨ad, _, h2, _⟩ := h1 (by simp)
        cases h2
    subst hl
    have hn0 : n = 0 := hb.2.1.symm
    subst hn0
    have hne := fun w => nil_eq none 0 c w
    go_enter Tryd.func56, Tryd.ntmps56
    go_wp2
    go_ret
    exact ⟨_, rfl, OwnK.nil _ _ _ _, Below.refl _ _⟩
  | some ad =>
    have hne := fun w => nil_eq (some ad) n c w
    have HB := hd hb
    have hlit := OwnK.lit (k := .u8) (e := 5) w (cs := #[]) [] rfl (by decide)
    have hal := below_alloc (Below.refl w.heap.size w) (.cells #[] 5)
    have HL := hd hlit
    have HR := hd (hb.below hal).1
    have HH := hd (show (([] : List Nat).length + l.length) * 1 ≤ 140737488355328 by rw [hb.2.1]; simp; omega)
    clear hb hlit
    go_enter Tryd.func56, Tryd.ntmps56
    go_wp2_with ((with_reducible refine gate_dst (N := 7) rfl ?_); at_builtin; refine op_append_row (k := .u8) (w0 := w) 7 rfl w.heap.size 5 40 (.tmp 5) (.tmp 6) rfl rfl Tryd.underlying40 Tryd.infoU8 (by decide) (.slice (some ⟨w.heap.size, 0, none⟩) 0 0) [] l (some ad) n c rfl rfl HB.out.2.1.symm HL.out HR.out hal (by simp) HH.out ?_; intro v1 w1 ho1 hb1 hg1; rw [List.nil_append] at ho1)
    go_ret
    exact ⟨v1, rfl, ho1, hb1⟩
/-- What use makes of a cipher's key and number: what comes out, the error, the number then. -/
def useC (key : List Nat) (N : Nat) (b : List Nat) (r : List Nat × Nat) : List Nat × Nat × Nat :=
  if key.length = 0 then (b, 0, N) else if key.length ≠ 32 then ([], 1, N) else if N = 18446744073709551615 then ([], 31, N) else if r.2 ≠ 0 then ([], r.2, N) else (r.1, 0, N + 1)
theorem useC_lt {key : List Nat} {N : Nat} (b : List Nat) (r : List Nat × Nat) (h : N < 2 ^ 64) : (useC key N b r).2.2 < 2 ^ 64 := by
  unfold useC
  split
  · exact h
  · split
    · exact h
    · split
      · exact h
      · split
        · exact h
        · show N + 1 < 2 ^ 64
          omega
theorem wrap_u64_succ {N : Nat} (h : N < 2 ^ 64) (hne : N ≠ 18446744073709551615) : IntKind.u64.wrap ((N : Int) + 1) = ((N + 1 : Nat) : Int) := wrapN_u (k := .u64) rfl (show N + 1 < 2 ^ 64 by omega)
def UsePost (g o : Nat) (w : World) (r : List Nat × Nat × Nat) (e : Ending) (w' : World) : Prop :=
  ∃ v w1, e = .returned (.tuple #[v, .int .i64 (r.2.1 : Nat)]) ∧ w' = w1.setCell ⟨g, o + 1, none⟩ (.int .u64 (r.2.2 : Nat)) ∧ Below w.heap.size w w1 ∧ OwnK .u8 5 w.heap.size w' v r.1
theorem OwnK.setOut {k : IntKind} {e base : Nat} {w : World} {v : Value} {l : List Nat} (h : OwnK k e base w v l) {p : Addr} (hp : p.block < base) (x : Value) : OwnK k e base (w.setCell p x) v l :=
  h.step (fun g hg _ => Below.heap_setCell w p x g (by omega))
section
variable {g o F T : Nat} {cs : Array Value} {fn : Func} {A C D : Option Addr} {n c nc cc nd cd N : Nat} {key ad b : List Nat} {w : World} {r : List Nat × Nat}
set_option maxHeartbeats 1000000 in
set_option maxRecDepth 100000 in
theorem use_calls (hf : Tryd.prog.funcs[F]? = some fn) (hname : (fn.name == "runtime.NumGoroutine") = false) (hbd : fn.body.isSome = true) (hblk : w.heap[g]? = some (.cells cs T (0, 0))) (e0 : cs[o]? = some (.slice A n c)) (e1 : cs[o + 1]? = some (.int .u64 (N : Int)))
    (hk : Bytes w A n c key) (hN : N < 2 ^ 64) (hb : Bytes w D nd cd b) (hnd : nd ≤ 100000000)
    (hF : n = 32 → ∀ w1 B cb, Below w.heap.size w w1 → Bytes w1 B 12 cb (nonceN N) → Calls Tryd.prog F #[.slice A n c, .slice B 12 cb, .slice C nc cc, .slice D nd cd] w1 fun e w' => ∃ v, e = .returned (.tuple #[v, .int .i64 (r.2 : Nat)]) ∧ OwnK .u8 5 w1.heap.size w' v r.1 ∧ Below w1.heap.size w1 w') :
    Calls Tryd.prog 74 #[.pointer (some ⟨g, o, none⟩), .func (.func F) #[] #[], .slice C nc cc, .slice D nd cd] w (UsePost g o w (useC key N b r)) := by
  have hkl := hk.2.1
  have c0 : w.cell? ⟨g, o, none⟩ = some (.slice A n c) := by rw [blk_cell hblk]; exact e0
  have c1 : w.cell? ⟨g, o + 1, none⟩ = some (.int .u64 (N : Int)) := by rw [blk_cell hblk]; exact e1
  have HBLK := hd hblk
  clear hblk e0 e1
  have HSELF := hd (setCell_self c1)
  have HGLT := hd (blk_lt HBLK.out)
  by_cases h0 : n = 0
  · subst h0
    have hu : useC key N b r = (b, 0, N) := by rw [useC, if_pos hkl]
    rw [hu]
    have HCL := hd (clone_any hb hnd)
    have HC1 := hd c1
    clear hu hkl hk hF c1 hb
    go_enter Tryd.func74, Tryd.ntmps74
    go_wp2_with fail
    refine HCL.out.mono ?_
    rintro e w1 ⟨v, rfl, ho, hb1⟩
    go_wp2
    go_ret2
    have hc := pw_cell_below hb1 HC1.out
    exact ⟨v, w1, rfl, (setCell_self hc).symm, hb1, ho⟩
  by_cases h32 : ¬ n = 32
  · have hu : useC key N b r = ([], 1, N) := by rw [useC, if_neg (by omega), if_pos (by omega)]
    rw [hu]
    have n0 : ((n : Int) == 0) = false := by simp; omega
    have n1 : ((n : Int) != 32) = true := by simp; omega
    have n0' : decide ((n : Int) = 0) = false := by simp; omega
    have n1' : decide ((n : Int) = 32) = false := by simp; omega
    clear hu hkl hk hF h0 h32 hb
    go_enter Tryd.func74, Tryd.ntmps74
    go_wp2
    go_ret2
    exact ⟨_, w, rfl, HSELF.out.symm, Below.refl _ _, OwnK.nil _ _ _ _⟩
  obtain rfl : n = 32 := by omega
  by_cases hM : N = 18446744073709551615
  · subst hM
    have hu : useC key 18446744073709551615 b r = ([], 31, 18446744073709551615) := by rw [useC, if_neg (by omega), if_neg (by omega), if_pos rfl]
    rw [hu]
    clear hu hkl hk hF h0 hb
    go_enter Tryd.func74, Tryd.ntmps74
    go_wp2
    go_ret2
    exact ⟨_, w, rfl, HSELF.out.symm, Below.refl _ _, OwnK.nil _ _ _ _⟩
  have n3 : ((N : Int) == 18446744073709551615) = false := by simp; omega
  have n3' : decide ((N : Int) = 18446744073709551615) = false := by simp; omega
  have n3'' : decide (N = 18446744073709551615) = false := by simp; omega
  have HW := hd (wrap_u64_succ hN hM)
  have HU := hd (show useC key N b r = if r.2 ≠ 0 then ([], r.2, N) else (r.1, 0, N + 1) by rw [useC, if_neg (by omega), if_neg (by omega), if_neg hM])
  have HNO := hd (nonce_calls (w := w.drew) hN)
  have HF := hd (hF rfl)
  have HC1 := hd c1
  have HN := hd hN
  clear hkl hk hF h0 hM hN hb
  go_enter Tryd.func74, Tryd.ntmps74
  go_wp2_with fail
  refine up_start [] [(0, true), (1, true), (2, true), (3, true), (4, true), (5, true), (6, true), (7, true), (8, true), (10, true), (11, true), (9, false), (12, false), (13, true), (14, true), (15, true), (16, true), (17, true)] (by kernel_rfl) rfl (by kernel_rfl) (by kernel_rfl) ?_
  have HBW := hd (below_drew (Below.refl w.heap.size w))
  have t0 := Grow.cells (show w.drew.cell? ⟨g, o, none⟩ = _ from c0)
  have t1 := Grow.cells (show w.drew.cell? ⟨g, o + 1, none⟩ = _ from c1)
  generalize w.drew = w5 at t0 t1 HBW HNO ⊢
  clear c0 c1
  refine seq_pure (i := 0) (N := some 38) (v := ?_) (a' := ?_) rfl rfl (by rfl) (fun _ _ _ h => h) ?_ ?_ ?_
  rotate_left 2
  · intro w' hg
    go_simp
    with_reducible rfl
  · simp only [Act.put, List.setIfInBounds_toArray, List.set_cons_zero, List.set_cons_succ, i64_w, i32_w]
    rfl
  refine seq_pure (i := 1) (N := some 39) (v := ?_) (a' := ?_) rfl rfl (by rfl) (fun _ _ _ h => h) ?_ ?_ ?_
  rotate_left 2
  · intro w' hg
    go_simp
    with_reducible rfl
  · simp only [Act.put, List.setIfInBounds_toArray, List.set_cons_zero, List.set_cons_succ, i64_w, i32_w]
    rfl
  refine seq_pure (i := 2) (N := some 40) (v := ?_) (a' := ?_) rfl rfl (by rfl) (fun _ _ _ h => h) ?_ ?_ ?_
  rotate_left 2
  · intro w' hg
    go_simp
    with_reducible rfl
  · simp only [Act.put, List.setIfInBounds_toArray, List.set_cons_zero, List.set_cons_succ, i64_w, i32_w]
    rfl
  refine seq_pure (i := 3) (N := some 41) (v := ?_) (a' := ?_) rfl rfl (by rfl) (fun _ _ _ h => h) ?_ ?_ ?_
  rotate_left 2
  · intro w' hg
    go_simp
    with_reducible rfl
  · simp only [Act.put, List.setIfInBounds_toArray, List.set_cons_zero, List.set_cons_succ, i64_w, i32_w]
    rfl
  refine seq_pure (i := 4) (N := some 42) (v := ?_) (a' := ?_) rfl rfl (by rfl) (fun _ _ _ h => h) ?_ ?_ ?_
  rotate_left 2
  · intro w' hg
    go_simp
    with_reducible rfl
  · simp only [Act.put, List.setIfInBounds_toArray, List.set_cons_zero, List.set_cons_succ, i64_w, i32_w]
    rfl
  refine seq_pure (i := 5) (N := some 43) (v := ?_) (a' := ?_) rfl rfl (by rfl) (fun _ _ _ h => h) ?_ ?_ ?_
  rotate_left 2
  · intro w' hg
    go_simp
    with_reducible rfl
  · simp only [Act.put, List.setIfInBounds_toArray, List.set_cons_zero, List.set_cons_succ, i64_w, i32_w]
    rfl
  refine seq_pure (i := 6) (N := some 44) (v := ?_) (a' := ?_) rfl rfl (by rfl) (fun _ _ _ h => h) ?_ ?_ ?_
  rotate_left 2
  · intro w' hg
    go_simp
    with_reducible rfl
  · simp only [Act.put, List.setIfInBounds_toArray, List.set_cons_zero, List.set_cons_succ, i64_w, i32_w]
    rfl
  refine seq_pure (i := 7) (N := some 45) (v := ?_) (a' := ?_) rfl rfl (by rfl) (fun _ _ _ h => h) ?_ ?_ ?_
  rotate_left 2
  · intro w' hg
    go_simp
    with_reducible rfl
  · simp only [Act.put, List.setIfInBounds_toArray, List.set_cons_zero, List.set_cons_succ, i64_w, i32_w]
    rfl
  refine seq_pure (i := 8) (N := some 46) (v := ?_) (a' := ?_) rfl rfl (by rfl) (fun _ _ _ h => h) ?_ ?_ ?_
  rotate_left 2
  · intro w' hg
    go_simp
    with_reducible rfl
  · simp only [Act.put, List.setIfInBounds_toArray, List.set_cons_zero, List.set_cons_succ, i64_w, i32_w]
    rfl
  refine seq_pure (i := 10) (N := some 48) (v := ?_) (a' := ?_) rfl rfl (by rfl) (fun _ _ _ h => h) ?_ ?_ ?_
  rotate_left 2
  · intro w' hg
    go_simp
    with_reducible rfl
  · simp only [Act.put, List.setIfInBounds_toArray, List.set_cons_zero, List.set_cons_succ, i64_w, i32_w]
    rfl
  refine seq_pure (i := 11) (N := some 49) (v := ?_) (a' := ?_) rfl rfl (by rfl) (fun _ _ _ h => h) ?_ ?_ ?_
  rotate_left 2
  · intro w' hg
    go_simp
    with_reducible rfl
  · simp only [Act.put, List.setIfInBounds_toArray, List.set_cons_zero, List.set_cons_succ, i64_w, i32_w]
    rfl
  refine seq_call (i := 9) (N := some 47) rfl rfl Tryd.func71 (by kernel_rfl) rfl #[.int .u64 (N : Int)] (by rfl) rfl ?_ ?_
  · simp only [List.map_toArray, List.map_cons, List.map_nil]
    rfl
  refine HNO.out.mono ?_
  rintro e w6 ⟨vn, rfl, hon, hb6⟩
  obtain ⟨Bn, cn, rfl, hbn⟩ := hon.bytes 12 (nonceN_length _) (nonceN_ok _)
  have HBN := hd hbn
  have HFX := hd (HF.out w6 Bn cn (below_seq HBW.out hb6) hbn)
  have HB6 := hd hb6
  clear hon hb6 hbn
  refine ⟨_, rfl, fun _ => HB6.out, ?_⟩
  refine seq_norm (a' := ?_) ?_ ?_
  rotate_left
  · show Act.put _ (some 47) _ = _
    simp only [Act.put, List.setIfInBounds_toArray, List.set_cons_zero, List.set_cons_succ, i64_w, i32_w]
    rfl
  refine seq_callV (i := 12) (N := some 50) rfl rfl hf hname hbd #[.slice A 32 c, .slice Bn 12 cn, .slice C nc cc, .slice D nd cd] (by rfl) rfl rfl ?_ ?_
  · simp only [List.map_toArray, List.map_cons, List.map_nil]
    rfl
  refine HFX.out.mono ?_
  rintro e w7 ⟨vo, rfl, hoo, hb7⟩
  refine ⟨_, rfl, fun _ => hb7, ?_⟩
  refine seq_norm (a' := ?_) ?_ ?_
  rotate_left
  · show Act.put _ (some 50) _ = _
    simp only [Act.put, List.setIfInBounds_toArray, List.set_cons_zero, List.set_cons_succ, i64_w, i32_w]
    rfl
  have HB7 := hd hb7
  have HOO := hd hoo
  clear hb7 hoo
  refine seq_pure (i := 13) (N := some 37) (v := ?_) (a' := ?_) rfl rfl (by rfl) (fun _ _ _ h => h) ?_ ?_ ?_
  rotate_left 2
  · intro w' hg
    go_simp
    with_reducible rfl
  · simp only [Act.put, List.setIfInBounds_toArray, List.set_cons_zero, List.set_cons_succ, i64_w, i32_w]
    rfl
  refine seq_pure (i := 14) (N := some 51) (v := ?_) (a' := ?_) rfl rfl (by rfl) (fun _ _ _ h => h) ?_ ?_ ?_
  rotate_left 2
  · intro w' hg
    go_simp
    with_reducible rfl
  · simp only [Act.put, List.setIfInBounds_toArray, List.set_cons_zero, List.set_cons_succ, i64_w, i32_w]
    rfl
  refine seq_pure (i := 15) (N := some 52) (v := ?_) (a' := ?_) rfl rfl (by rfl) (fun _ _ _ h => h) ?_ ?_ ?_
  rotate_left 2
  · intro w' hg
    go_simp
    with_reducible rfl
  · simp only [Act.put, List.setIfInBounds_toArray, List.set_cons_zero, List.set_cons_succ, i64_w, i32_w]
    rfl
  refine seq_pure (i := 16) (N := some 10) (v := ?_) (a' := ?_) rfl rfl (by rfl) (fun _ _ _ h => h) ?_ ?_ ?_
  rotate_left 2
  · intro w' hg
    go_simp
    with_reducible rfl
  · simp only [Act.put, List.setIfInBounds_toArray, List.set_cons_zero, List.set_cons_succ, i64_w, i32_w]
    rfl
  refine seq_pure (i := 17) (N := some 11) (v := ?_) (a' := ?_) rfl rfl (by rfl) (fun _ _ _ h => h) ?_ ?_ ?_
  rotate_left 2
  · intro w' hg
    go_simp
    with_reducible rfl
  · simp only [Act.put, List.setIfInBounds_toArray, List.set_cons_zero, List.set_cons_succ, i64_w, i32_w]
    rfl
  refine seq_done ?_
  have HBA := hd (below_seq HBW.out (below_seq HB6.out HB7.out))
  have hc1 := pw_cell_below HBA.out HC1.out
  have hfr7 := blk_frozen (blk_below HBLK.out HBA.out) (o + 1)
  by_cases hr : r.2 = 0
  · rw [hr, show ((0 : Nat) : Int) = 0 from rfl]
    have hu : useC key N b r = (r.1, 0, N + 1) := by rw [HU.out, if_neg (by simp [hr])]
    have hw := HW.out
    go_wp2
    go_ret2
    rw [hu]
    refine ⟨vo, w7, rfl, rfl, HBA.out, ?_⟩
    exact (HOO.out.lower (Nat.le_trans HBW.out.size HB6.out.size)).setOut HGLT.out _
  · have hu : useC key N b r = ([], r.2, N) := by rw [HU.out, if_pos hr]
    have q : decide ((r.2 : Int) = 0) = false := by simp; exact hr
    have q' : (((r.2 : Nat) : Int) != 0) = true := by simp; exact hr
    go_wp2
    go_ret2
    rw [hu]
    exact ⟨_, w7, rfl, (setCell_self hc1).symm, HBA.out, OwnK.nil _ _ _ _⟩
end
end Go.Proofs.YtlgdplodglchaaaDoor
/- The walks through window.Window. -/
set_option linter.unusedVariables false
set_option linter.unusedSimpArgs false
namespace Go.Proofs.YtlgdplodglchaaaDoor
open Go.RowKit Go.Proofs.YtlgdplodglchaaaDoorW.PrintWords Go.Proofs.YtlgdplodglchaaaDoorW.PrintLast Go.Proofs.YtlgdplodglchaaaDoorW.PrintMore
theorem min_two128 (ats : Array TypeId) (ty : TypeId) (a : Nat) : Builtin.min_ ats ty #[.int .u64 (a : Int), .int .u64 128] = pure (.int .u64 ((min a 128 : Nat) : Int)) := by
  rw [min_two, min2_int]
  show (pure (Value.int .u64 (if (128 : Int) < (a : Int) then 128 else (a : Int))) : Sem Value) = _
  congr 2
  split <;> omega
attribute [local go_sem high] min_two128
/-- A window's cells within a block. -/
def putWin (cs : Array Value) (v : Win) : Array Value := (((cs.setIfInBounds 13 (.bool v.some)).setIfInBounds 14 (.int .u64 (v.top : Int))).setIfInBounds 15 (.int .u64 (v.c.1 : Int))).setIfInBounds 16 (.int .u64 (v.c.2 : Int))
def WinAt (w : World) (g : Nat) (cs : Array Value) (T : TypeId) (v : Win) : Prop := w.heap[g]? = some (.cells (putWin cs v) T (0, 0)) ∧ cs.size = 17
theorem putWin_at {cs : Array Value} (h : cs.size = 17) (v : Win) : (putWin cs v)[13]? = some (.bool v.some) ∧ (putWin cs v)[14]? = some (.int .u64 (v.top : Int)) ∧ (putWin cs v)[15]? = some (.int .u64 (v.c.1 : Int)) ∧ (putWin cs v)[16]? = some (.int .u64 (v.c.2 : Int)) := by
  refine ⟨?_, ?_, ?_, ?_⟩
  · rw [putWin, Array.getElem?_setIfInBounds, if_neg (by decide), Array.getElem?_setIfInBounds, if_neg (by decide), Array.getElem?_setIfInBounds, if_neg (by decide), Array.getElem?_setIfInBounds, if_pos rfl, if_pos (by omega)]
  · rw [putWin, Array.getElem?_setIfInBounds, if_neg (by decide), Array.getElem?_setIfInBounds, if_neg (by decide), Array.getElem?_setIfInBounds, if_pos rfl, if_pos (by simp; omega)]
  · rw [putWin, Array.getElem?_setIfInBounds, if_neg (by decide), Array.getElem?_setIfInBounds, if_pos rfl, if_pos (by simp; omega)]
  · rw [putWin, Array.getElem?_setIfInBounds, if_pos rfl, if_pos (by simp; omega)]
theorem putWin13 (cs : Array Value) (v : Win) (b : Bool) : (putWin cs v).setIfInBounds 13 (.bool b) = putWin cs { v with some := b } := by
  rw [putWin, Array.setIfInBounds_comm _ _ (show 16 ≠ 13 by decide), Array.setIfInBounds_comm _ _ (show 15 ≠ 13 by decide), Array.setIfInBounds_comm _ _ (show 14 ≠ 13 by decide), Array.setIfInBounds_setIfInBounds]
  rfl
theorem putWin14 (cs : Array Value) (v : Win) (n : Nat) : (putWin cs v).setIfInBounds 14 (.int .u64 (n : Int)) = putWin cs { v with top := n } := by
  rw [putWin, Array.setIfInBounds_comm _ _ (show 16 ≠ 14 by decide), Array.setIfInBounds_comm _ _ (show 15 ≠ 14 by decide), Array.setIfInBounds_setIfInBounds]
  rfl
theorem putWin15 (cs : Array Value) (v : Win) (n : Nat) : (putWin cs v).setIfInBounds 15 (.int .u64 (n : Int)) = putWin cs { v with c := (n, v.c.2) } := by
  rw [putWin, Array.setIfInBounds_comm _ _ (show 16 ≠ 15 by decide), Array.setIfInBounds_setIfInBounds]
  rfl
theorem putWin16 (cs : Array Value) (v : Win) (n : Nat) : (putWin cs v).setIfInBounds 16 (.int .u64 (n : Int)) = putWin cs { v with c := (v.c.1, n) } := by
  rw [putWin, Array.setIfInBounds_setIfInBounds]
  rfl
theorem quo64 {d : Nat} (h : d < 2 ^ 64) : IntKind.u64.wrap ((d : Int) / 64) = ((d / 64 : Nat) : Int) := by
  rw [show (d : Int) / 64 = ((d / 64 : Nat) : Int) from rfl]
  exact wrapN_u rfl (show d / 64 < 2 ^ 64 by omega)
theorem int64 {q : Nat} (h : q < 2 ^ 63) : wrap64 (q : Int) = (q : Int) := Go.IntWalk.wrap64_in _ ⟨by omega, by omega⟩
theorem pow64 (d : Nat) : IntKind.u64.wrap ((2 : Int) ^ (d % 64)) = ((2 ^ (d % 64) : Nat) : Int) := by
  rw [show (2 : Int) ^ (d % 64) = ((2 ^ (d % 64) : Nat) : Int) by simp]
  exact wrapN_u rfl (Nat.pow_lt_pow_right (by decide) (Nat.mod_lt _ (by decide)))
theorem div_lt63 {d : Nat} (h : d < 2 ^ 64) : d / 64 < 2 ^ 63 := by omega
theorem and_pow (x e : Nat) : x &&& 2 ^ e = if x.testBit e then 2 ^ e else 0 := by
  apply Nat.eq_of_testBit_eq
  intro i
  rw [Nat.testBit_and, Nat.testBit_two_pow]
  by_cases h : e = i
  · subst h
    cases hx : x.testBit e <;> simp [Nat.testBit_two_pow]
  · cases hx : x.testBit e <;> simp [Nat.testBit_two_pow, h]
theorem and_bit {x e : Nat} (hx : x < 2 ^ 64) (he : e < 64) : bits .and .u64 (x : Int) ((2 ^ e : Nat) : Int) = ((if x.testBit e then 2 ^ e else 0 : Nat) : Int) := by
  rw [(bits_u (k := .u64) rfl x (2 ^ e) hx (Nat.pow_lt_pow_right (by decide) he)).1, and_pow]
section
variable {w : World} {g T n : Nat} {cs : Array Value} {v : Win}
theorem WinAt.cells (h : WinAt w g cs T v) : w.cell? ⟨g, 13, none⟩ = some (.bool v.some) ∧ w.cell? ⟨g, 14, none⟩ = some (.int .u64 (v.top : Int)) ∧ w.cell? ⟨g, 15, none⟩ = some (.int .u64 (v.c.1 : Int)) ∧ w.cell? ⟨g, 16, none⟩ = some (.int .u64 (v.c.2 : Int)) := by
  obtain ⟨h0, h1, h2, h3⟩ := putWin_at h.2 v
  exact ⟨(blk_cell h.1 13).trans h0, (blk_cell h.1 14).trans h1, (blk_cell h.1 15).trans h2, (blk_cell h.1 16).trans h3⟩
theorem WinAt.frozen (h : WinAt w g cs T v) (i : Nat) : w.frozen? ⟨g, i, none⟩ = false := blk_frozen h.1 i
theorem WinAt.below {w1 : World} (h : WinAt w g cs T v) (hb : Below w.heap.size w w1) : WinAt w1 g cs T v := ⟨blk_below h.1 hb, h.2⟩
theorem WinAt.drew (h : WinAt w g cs T v) : WinAt w.drew g cs T v := h.below (below_drew (Below.refl _ _))
theorem WinAt.set13 (h : WinAt w g cs T v) (b : Bool) : WinAt (w.setCell ⟨g, 13, none⟩ (.bool b)) g cs T { v with some := b } := ⟨by rw [blk_set h.1 13 (.bool b), putWin13], h.2⟩
theorem WinAt.set14 (h : WinAt w g cs T v) (n : Nat) : WinAt (w.setCell ⟨g, 14, none⟩ (.int .u64 (n : Int))) g cs T { v with top := n } := ⟨by rw [blk_set h.1 14 (.int .u64 (n : Int)), putWin14], h.2⟩
theorem WinAt.set15 (h : WinAt w g cs T v) (n : Nat) : WinAt (w.setCell ⟨g, 15, none⟩ (.int .u64 (n : Int))) g cs T { v with c := (n, v.c.2) } := ⟨by rw [blk_set h.1 15 (.int .u64 (n : Int)), putWin15], h.2⟩
theorem WinAt.set16 (h : WinAt w g cs T v) (n : Nat) : WinAt (w.setCell ⟨g, 16, none⟩ (.int .u64 (n : Int))) g cs T { v with c := (v.c.1, n) } := ⟨by rw [blk_set h.1 16 (.int .u64 (n : Int)), putWin16], h.2⟩
set_option maxRecDepth 100000 in
theorem back_calls (h : WinAt w g cs T v) (hok : v.ok) (hn : n ≤ v.top) :
    Calls Tryd.prog 77 #[.pointer (some ⟨g, 13, none⟩), .int .u64 (n : Int)] w fun e w' => e = .returned (.tuple #[.int .i64 (((v.top - n) / 64 : Nat) : Int), .int .u64 ((2 ^ ((v.top - n) % 64) : Nat) : Int)]) ∧ w = w' := by
  obtain ⟨_, c1, _, _⟩ := h.cells
  have ht := hok.1
  clear h hok
  obtain ⟨d, hd1⟩ : ∃ d, d = v.top - n := ⟨_, rfl⟩
  have hw : IntKind.u64.wrap ((v.top : Int) - (n : Int)) = (d : Int) := by rw [show (v.top : Int) - (n : Int) = ((d : Nat) : Int) by omega]; exact wrapN_u rfl (show d < 2 ^ 64 by omega)
  rw [← hd1]
  have HD := hd (show d < 2 ^ 64 by omega)
  clear hd1 ht hn
  go_enter Tryd.func77, Tryd.ntmps77
  go_wp2
  go_ret2
  refine ⟨?_, rfl⟩
  rw [quo64 HD.out, int64 (div_lt63 HD.out), pow64]
  rfl
set_option maxRecDepth 100000 in
theorem check_calls (h : WinAt w g cs T v) (hok : v.ok) (hn : n < 2 ^ 64) :
    Calls Tryd.prog 58 #[.pointer (some ⟨g, 13, none⟩), .int .u64 (n : Int)] w fun e w' => e = .returned (.int .i64 ((checkW v.some v.top v.c n : Nat) : Int)) ∧ w = w' := by
  obtain ⟨c0, c1, c2, c3⟩ := h.cells
  obtain ⟨some_, top, ⟨ca, cb⟩⟩ := v
  dsimp only at c0 c1 c2 c3 ⊢
  unfold checkW
  cases some_ with
  | false =>
    have q : decide (top < n) = decide (top < n) := rfl
    rw [if_pos (Or.inl rfl)]
    clear h hok hn
    go_enter Tryd.func58, Tryd.ntmps58
    go_wp2
    go_ret
    exact ⟨rfl, rfl⟩
  | true =>
    by_cases ht : top < n
    · rw [if_pos (Or.inr ht)]
      have q : decide (top < n) = true := by simp; exact ht
      clear h hok hn ht
      go_enter Tryd.func58, Tryd.ntmps58
      go_wp2
      go_ret
      exact ⟨rfl, rfl⟩
    · rw [if_neg (by rintro (h2 | h2); cases h2; exact ht h2)]
      have q : decide (top < n) = false := by simp; omega
      have HBK := hd (back_calls h hok (n := n) (by show n ≤ top; omega))
      dsimp only at HBK
      obtain ⟨d, hd1⟩ : ∃ d, d = top - n := ⟨_, rfl⟩
      have hw : IntKind.u64.wrap ((top : Int) - (n : Int)) = (d : Int) := by rw [show (top : Int) - (n : Int) = ((d : Nat) : Int) by omega]; exact wrapN_u rfl (show d < 2 ^ 64 by have := hok.1; dsimp only at this; omega)
      rw [← hd1] at HBK ⊢
      have hca : ca < 2 ^ 64 := hok.2.1
      have hcb : cb < 2 ^ 64 := hok.2.2
      clear hd1 h hok hn ht
      by_cases h8 : 128 ≤ d
      · rw [if_pos h8]
        have q1 : decide (128 ≤ d) = true := by simp; exact h8
        have q2 : decide ((128 : Int) ≤ (d : Int)) = true := by simp; omega
        clear h8 hca hcb
        go_enter Tryd.func58, Tryd.ntmps58
        go_wp2
        go_ret
        exact ⟨rfl, rfl⟩
      · rw [if_neg h8]
        have q1 : decide (128 ≤ d) = false := by simp; omega
        have q2 : decide ((128 : Int) ≤ (d : Int)) = false := by simp; omega
        have h9 : d / 64 = 0 ∨ d / 64 = 1 := by omega
        rcases h9 with h9 | h9
        · have h64 : d < 64 := by omega
          have he : d < 64 := by omega
          have ha := and_bit (e := d) hca he
          rw [h9, show d % 64 = d by omega] at HBK
          rw [bitW, if_pos h64]
          dsimp only
          obtain ⟨p, hp⟩ : ∃ p, p = 2 ^ (d) := ⟨_, rfl⟩
          have hp0 : 0 < p := by rw [hp]; exact Nat.pow_pos (by decide)
          rw [← hp] at ha HBK
          clear h64 he hp h9 hca hcb h8
          cases hb : ca.testBit (d)
          · rw [hb] at ha
            have ha' : bits .and .u64 (ca : Int) (p : Int) = 0 := ha
            clear ha hp0 hb
            go_enter Tryd.func58, Tryd.ntmps58
            go_wp2_with fail
            refine HBK.out.mono ?_
            rintro e w1 ⟨rfl, rfl⟩
            go_wp2
            go_ret
            exact ⟨rfl, rfl⟩
          · rw [hb] at ha
            have ha' : bits .and .u64 (ca : Int) (p : Int) = (p : Int) := ha
            have q4 : decide (p = 0) = false := by simp; omega
            have q5 : decide ((p : Int) = 0) = false := by simp; omega
            have q6 : ((p : Int) != 0) = true := by simp; omega
            clear ha hp0 hb
            go_enter Tryd.func58, Tryd.ntmps58
            go_wp2_with fail
            refine HBK.out.mono ?_
            rintro e w1 ⟨rfl, rfl⟩
            go_wp2
            go_ret
            exact ⟨rfl, rfl⟩
        · have h64 : 64 ≤ d := by omega
          have he : d - 64 < 64 := by omega
          have ha := and_bit (e := d - 64) hcb he
          rw [h9, show d % 64 = d - 64 by omega] at HBK
          rw [bitW, if_neg (show ¬ d < 64 by omega)]
          dsimp only
          obtain ⟨p, hp⟩ : ∃ p, p = 2 ^ (d - 64) := ⟨_, rfl⟩
          have hp0 : 0 < p := by rw [hp]; exact Nat.pow_pos (by decide)
          rw [← hp] at ha HBK
          clear h64 he hp h9 hca hcb h8
          cases hb : cb.testBit (d - 64)
          · rw [hb] at ha
            have ha' : bits .and .u64 (cb : Int) (p : Int) = 0 := ha
            clear ha hp0 hb
            go_enter Tryd.func58, Tryd.ntmps58
            go_wp2_with fail
            refine HBK.out.mono ?_
            rintro e w1 ⟨rfl, rfl⟩
            go_wp2
            go_ret
            exact ⟨rfl, rfl⟩
          · rw [hb] at ha
            have ha' : bits .and .u64 (cb : Int) (p : Int) = (p : Int) := ha
            have q4 : decide (p = 0) = false := by simp; omega
            have q5 : decide ((p : Int) = 0) = false := by simp; omega
            have q6 : ((p : Int) != 0) = true := by simp; omega
            clear ha hp0 hb
            go_enter Tryd.func58, Tryd.ntmps58
            go_wp2_with fail
            refine HBK.out.mono ?_
            rintro e w1 ⟨rfl, rfl⟩
            go_wp2
            go_ret
            exact ⟨rfl, rfl⟩
theorem shl_one {c : Nat} (h : c < 2 ^ 64) : IntKind.u64.wrap ((c : Int) * 2) = ((c * 2 % 2 ^ 64 : Nat) : Int) := by
  rw [show (c : Int) * 2 = ((c * 2 : Nat) : Int) by omega]
  exact wrapM_u (k := .u64) rfl _
theorem or_word {x y : Nat} (hx : x < 2 ^ 64) : bits .or .u64 ((y : Int) * 2 % 18446744073709551616) ((x : Int) / 9223372036854775808) = (((y * 2 % 2 ^ 64) ||| (x / 2 ^ 63) : Nat) : Int) := by
  rw [show (y : Int) * 2 % 18446744073709551616 = ((y * 2 % 2 ^ 64 : Nat) : Int) by omega, show (x : Int) / 9223372036854775808 = ((x / 2 ^ 63 : Nat) : Int) by omega]
  exact (bits_u (k := .u64) rfl _ _ (Nat.mod_lt _ (by decide)) (show x / 2 ^ 63 < 2 ^ 64 by omega)).2.1
theorem wrap_succ {k m : Nat} (h : k < m ∧ m ≤ 128) : IntKind.u64.wrap ((k : Int) + 1) = ((k + 1 : Nat) : Int) := wrapN_u (k := .u64) rfl (show k + 1 < 2 ^ 64 by omega)
set_option maxHeartbeats 1000000 in
set_option maxRecDepth 100000 in
theorem slide_calls (h : WinAt w g cs T v) (hok : v.ok) (hlt : v.top < n) (hn : n < 2 ^ 64) :
    Calls Tryd.prog 78 #[.pointer (some ⟨g, 13, none⟩), .int .u64 (n : Int)] w fun e w' => e = .returned (.tuple #[]) ∧ WinAt w' g cs T ⟨v.some, n, slideN v.c (min (n - v.top) 128)⟩ ∧ Mod (fun k => k = g) w w' := by
  obtain ⟨c0, c1, c2, c3⟩ := h.cells
  obtain ⟨m, hm⟩ : ∃ m, m = min (n - v.top) 128 := ⟨_, rfl⟩
  have hd1 : IntKind.u64.wrap ((n : Int) - (v.top : Int)) = ((n - v.top : Nat) : Int) := by rw [show (n : Int) - (v.top : Int) = ((n - v.top : Nat) : Int) by omega]; exact wrapN_u rfl (show n - v.top < 2 ^ 64 by omega)
  have HM := hd hm
  have HW := hd h
  have HOK := hd hok.2
  rw [← hm]
  clear hm h hok hlt hn
  go_enter Tryd.func78, Tryd.ntmps78
  go_upto_region 1 with (fail)
  rw [← HM.out]
  clear hd1 c0 c1 c2 c3
  go_loopw [11] (fun u wr => ∃ k : Nat, k ≤ m ∧ u = .int .u64 (k : Int) ∧ WinAt wr g cs T ⟨v.some, v.top, slideN v.c k⟩ ∧ Mod (fun k => k = g) w wr) (fun u _ => m - (intOf u).toNat)
  case atStart => exact ⟨0, Nat.zero_le _, rfl, HW.out, Mod.refl _ _⟩
  case round =>
    obtain ⟨k, hk, rfl, hwr, hmr⟩ := hrel
    have HKM := hd (show k ≤ m ∧ m ≤ 128 from ⟨hk, by have := HM.out; omega⟩)
    by_cases hlt : k < m
    · have k1 : decide (k < m) = true := by simp; exact hlt
      have k2 : decide ((k : Int) < (m : Int)) = true := by simp; exact hlt
      have HLT := hd hlt
      have hlx := slideN_lt HOK.out k
      rcases hxy : slideN v.c k with ⟨x, y⟩
      rw [hxy] at hwr hlx
      have HXY := hd hxy
      obtain ⟨c0, c1, c2, c3⟩ := hwr.cells
      dsimp only at c0 c1 c2 c3 hlx
      have s1 := shl_one hlx.1
      have s2 := shl_one hlx.2
      have HWR := hd hwr
      have HMR := hd hmr
      have f15 := hwr.frozen 15
      have f16 := hwr.frozen 16
      clear hlt hk hwr hmr hxy
      go_upto_region 2 with (fail)
      go_region
      rw [or_word hlx.1]
      have HW2 := hd ((HWR.out.set16 ((y * 2 % 2 ^ 64) ||| (x / 2 ^ 63))).drew)
      have HM2 := hd ((HMR.out.trans (Mod.set (S := fun k => k = g) (i := 16) _ rfl (.int .u64 (((y * 2 % 2 ^ 64) ||| (x / 2 ^ 63) : Nat) : Int)))).trans (Mod.below (below_drew (Below.refl _ _))))
      dsimp only at HW2
      clear HWR HMR c0 c1 c2 c3 f15 f16 s1 s2
      generalize (wr.setCell ⟨g, 16, none⟩ (.int .u64 (((y * 2 % 2 ^ 64) ||| (x / 2 ^ 63) : Nat) : Int))).drew = w2 at HW2 HM2 ⊢
      obtain ⟨c0, c1, c2, c3⟩ := HW2.out.cells
      dsimp only at c0 c1 c2 c3
      have f15 := HW2.out.frozen 15
      go_upto_region 3 with (fail)
      go_region
      rw [shl_one hlx.1]
      have HW3 := hd ((HW2.out.set15 (x * 2 % 2 ^ 64)).drew)
      have HM3 := hd ((HM2.out.trans (Mod.set (S := fun k => k = g) (i := 15) _ rfl (.int .u64 ((x * 2 % 2 ^ 64 : Nat) : Int)))).trans (Mod.below (below_drew (Below.refl _ _))))
      dsimp only at HW3
      clear HW2 HM2 c0 c1 c2 c3 f15 hlx
      generalize (w2.setCell ⟨g, 15, none⟩ (.int .u64 ((x * 2 % 2 ^ 64 : Nat) : Int))).drew = w3 at HW3 HM3 ⊢
      have hsc := wrap_succ (k := k) (m := m) ⟨HLT.out, HKM.out.2⟩
      go_wp2
      go_roundw
      case rel =>
        refine ⟨k + 1, HLT.out, by rfl, ?_, HM3.out⟩
        rw [slideN, HXY.out]
        exact HW3.out
      case measure => simp [intOf]; have := HLT.out; omega
    · have k1 : decide (k < m) = false := by simp; omega
      have k2 : decide ((k : Int) < (m : Int)) = false := by simp; omega
      obtain rfl : k = m := by omega
      obtain ⟨c0, c1, c2, c3⟩ := hwr.cells
      have f14 := hwr.frozen 14
      have HWR := hd (hwr.set14 n)
      have HMR := hd (hmr.trans (Mod.set (S := fun k => k = g) (i := 14) _ rfl (.int .u64 (n : Int))))
      clear hlt hk hwr hmr
      go_wp2
      go_end0
      exact ⟨rfl, HWR.out, HMR.out⟩
theorem or_bit {x d : Nat} (hx : x < 2 ^ 64) (hd : d < 64) : bits .or .u64 (x : Int) ((2 ^ d : Nat) : Int) = ((x ||| 2 ^ d : Nat) : Int) :=
  (bits_u (k := .u64) rfl x (2 ^ d) hx (Nat.pow_lt_pow_right (by decide) hd)).2.1
set_option maxHeartbeats 1000000 in
set_option maxRecDepth 100000 in
theorem mark_calls (h : WinAt w g cs T v) (hok : v.ok) (hn : n < 2 ^ 64) :
    Calls Tryd.prog 59 #[.pointer (some ⟨g, 13, none⟩), .int .u64 (n : Int)] w fun e w' => e = .returned (.int .i64 ((checkW v.some v.top v.c n : Nat) : Int)) ∧ WinAt w' g cs T (markW v n) ∧ Mod (fun k => k = g) w w' := by
  have HCH := hd (check_calls h hok hn)
  by_cases hc : checkW v.some v.top v.c n = 0
  · rw [hc] at HCH ⊢
    obtain ⟨some_, top, ⟨ca, cb⟩⟩ := v
    dsimp only at hc HCH
    obtain ⟨c0, c1, c2, c3⟩ := h.cells
    dsimp only at c0 c1 c2 c3
    have f13 := h.frozen 13
    have f14 := h.frozen 14
    have HW := hd h
    have HOK := hd hok
    have HN := hd hn
    cases some_ with
    | false =>
      have HMK := hd (show markW ⟨false, top, (ca, cb)⟩ n = ⟨true, n, setW (ca, cb) 0⟩ by rw [markW, if_neg (by rw [hc]; simp), if_pos rfl])
      clear h hok hn hc
      go_enter Tryd.func59, Tryd.ntmps59
      go_wp2_with fail
      refine HCH.out.mono ?_
      rintro e w1 ⟨rfl, rfl⟩
      go_upto_region 6 with (fail)
      have HWX := hd ((HW.out.set13 true).set14 n)
      have HMX := hd ((Mod.set (S := fun k => k = g) (i := 13) w rfl (.bool true)).trans (Mod.set (S := fun k => k = g) (i := 14) _ rfl (.int .u64 (n : Int))))
      dsimp only at HWX
      clear c0 c1 c2 c3 f13 f14 HW
      generalize ((w.setCell ⟨g, 13, none⟩ (.bool true)).setCell ⟨g, 14, none⟩ (.int .u64 (n : Int))) = wx at HWX HMX ⊢
      have hokx : Win.ok ⟨true, n, (ca, cb)⟩ := ⟨HN.out, HOK.out.2⟩
      have hle : n ≤ n := Nat.le_refl _
      have hq0 : (n - n) / 64 = 0 := by omega
      have hq1 : (n - n) % 64 = 0 := by omega
      have he64 : 0 < 64 := by decide
      have k0 : decide (n < n) = false := by simp
      clear HN HOK
      have HBK := hd (back_calls HWX.out hokx hle)
      dsimp only at HBK
      rw [hq0, hq1] at HBK
      have hxl : ca < 2 ^ 64 := hokx.2.1
      have ho := or_bit (d := 0) hxl he64
      obtain ⟨c0, c1, c2, c3⟩ := HWX.out.cells
      dsimp only at c0 c1 c2 c3
      have fx := HWX.out.frozen 15
      have HWY := hd ((HWX.out.set15 (ca ||| 2 ^ (0))).drew)
      have HMY := hd ((HMX.out.trans (Mod.set (S := fun k => k = g) (i := 15) _ rfl (.int .u64 ((ca ||| 2 ^ (0) : Nat) : Int)))).trans (Mod.below (below_drew (Below.refl _ _))))
      dsimp only at HWY
      obtain ⟨nx, hnx⟩ : ∃ nx, nx = ca ||| 2 ^ (0) := ⟨_, rfl⟩
      rw [← hnx] at ho HWY HMY
      have HNX := hd hnx
      clear hnx
      obtain ⟨p, hp⟩ : ∃ p, p = 2 ^ (0) := ⟨_, rfl⟩
      rw [← hp] at ho HBK
      clear HMX hokx hle hq0 hq1 he64 hxl hp
      go_wp2_with fail
      refine HBK.out.mono ?_
      rintro e w1 ⟨rfl, rfl⟩
      go_upto_region 9 with (fail)
      go_region
      try rw [ho]
      clear c0 c1 c2 c3 fx ho HWX
      generalize (wx.setCell ⟨g, 15, none⟩ (.int .u64 (nx : Int))).drew = wz at HWY HMY ⊢
      go_wp2
      go_ret
      refine ⟨rfl, ?_, HMY.out⟩
      rw [HMK.out]
      rw [HNX.out] at HWY
      exact HWY.out
    | true =>
      by_cases ht : top < n
      · have HMK := hd (show markW ⟨true, top, (ca, cb)⟩ n = ⟨true, n, setW (slideN (ca, cb) (min (n - top) 128)) 0⟩ by rw [markW, if_neg (by rw [hc]; simp), if_neg (by simp), if_pos ht])
        have HSL := hd (slide_calls h hok ht hn)
        dsimp only at HSL
        have k0 : decide (top < n) = true := by simp; exact ht
        clear h hok hn hc ht
        go_enter Tryd.func59, Tryd.ntmps59
        go_wp2_with fail
        refine HCH.out.mono ?_
        rintro e w1 ⟨rfl, rfl⟩
        go_wp2_with fail
        refine HSL.out.mono ?_
        rintro e wx ⟨rfl, hwx, hmx⟩
        have hsl := slideN_lt HOK.out.2 (min (n - top) 128)
        rcases hxy : slideN (ca, cb) (min (n - top) 128) with ⟨x, y⟩
        rw [hxy] at hwx hsl HMK
        have HWX := hd hwx
        have HMX := hd hmx
        have hokx : Win.ok ⟨true, n, (x, y)⟩ := ⟨HN.out, hsl⟩
        have hle : n ≤ n := Nat.le_refl _
        have hq0 : (n - n) / 64 = 0 := by omega
        have hq1 : (n - n) % 64 = 0 := by omega
        have he64 : 0 < 64 := by decide
        clear HN HOK c0 c1 c2 c3 f13 f14 HW hwx hmx hsl hxy HSL
        have HBK := hd (back_calls HWX.out hokx hle)
        dsimp only at HBK
        rw [hq0, hq1] at HBK
        have hxl : x < 2 ^ 64 := hokx.2.1
        have ho := or_bit (d := 0) hxl he64
        obtain ⟨c0, c1, c2, c3⟩ := HWX.out.cells
        dsimp only at c0 c1 c2 c3
        have fx := HWX.out.frozen 15
        have HWY := hd ((HWX.out.set15 (x ||| 2 ^ (0))).drew)
        have HMY := hd ((HMX.out.trans (Mod.set (S := fun k => k = g) (i := 15) _ rfl (.int .u64 ((x ||| 2 ^ (0) : Nat) : Int)))).trans (Mod.below (below_drew (Below.refl _ _))))
        dsimp only at HWY
        obtain ⟨nx, hnx⟩ : ∃ nx, nx = x ||| 2 ^ (0) := ⟨_, rfl⟩
        rw [← hnx] at ho HWY HMY
        have HNX := hd hnx
        clear hnx
        obtain ⟨p, hp⟩ : ∃ p, p = 2 ^ (0) := ⟨_, rfl⟩
        rw [← hp] at ho HBK
        clear HMX hokx hle hq0 hq1 he64 hxl hp
        go_wp2_with fail
        refine HBK.out.mono ?_
        rintro e w1 ⟨rfl, rfl⟩
        go_upto_region 9 with (fail)
        go_region
        try rw [ho]
        clear c0 c1 c2 c3 fx ho HWX
        generalize (wx.setCell ⟨g, 15, none⟩ (.int .u64 (nx : Int))).drew = wz at HWY HMY ⊢
        go_wp2
        go_ret
        refine ⟨rfl, ?_, HMY.out⟩
        rw [HMK.out]
        rw [HNX.out] at HWY
        exact HWY.out
      · have HMK := hd (show markW ⟨true, top, (ca, cb)⟩ n = ⟨true, top, setW (ca, cb) (top - n)⟩ by rw [markW, if_neg (by rw [hc]; simp), if_neg (by simp), if_neg ht])
        have k0 : decide (top < n) = false := by simp; omega
        have hdl : top - n < 128 := by
          unfold checkW at hc
          rw [if_neg (by rintro (h2 | h2); cases h2; exact ht h2)] at hc
          split at hc
          · cases hc
          · omega
        have hle : n ≤ top := by omega
        have hokx := hok
        clear hok hn hc ht h HN HOK f13 f14 c1 c2 c3
        have HWX := HW
        have HMX := hd (Mod.refl (fun k => k = g) w)
        by_cases h64 : top - n < 64
        · have hq0 : (top - n) / 64 = 0 := by omega
          have hq1 : (top - n) % 64 = top - n := by omega
          have he64 : top - n < 64 := h64
          have HS := hd (show setW (ca, cb) (top - n) = (ca ||| 2 ^ (top - n), cb) by rw [setW, if_pos h64])
          clear h64 hdl HW
          go_enter Tryd.func59, Tryd.ntmps59
          go_wp2_with fail
          refine HCH.out.mono ?_
          rintro e w1 ⟨rfl, rfl⟩
          clear c0
          have HBK := hd (back_calls HWX.out hokx hle)
          dsimp only at HBK
          rw [hq0, hq1] at HBK
          have hxl : ca < 2 ^ 64 := hokx.2.1
          have ho := or_bit (d := top - n) hxl he64
          obtain ⟨c0, c1, c2, c3⟩ := HWX.out.cells
          dsimp only at c0 c1 c2 c3
          have fx := HWX.out.frozen 15
          have HWY := hd ((HWX.out.set15 (ca ||| 2 ^ (top - n))).drew)
          have HMY := hd ((HMX.out.trans (Mod.set (S := fun k => k = g) (i := 15) _ rfl (.int .u64 ((ca ||| 2 ^ (top - n) : Nat) : Int)))).trans (Mod.below (below_drew (Below.refl _ _))))
          dsimp only at HWY
          obtain ⟨nx, hnx⟩ : ∃ nx, nx = ca ||| 2 ^ (top - n) := ⟨_, rfl⟩
          rw [← hnx] at ho HWY HMY
          have HNX := hd hnx
          clear hnx
          obtain ⟨p, hp⟩ : ∃ p, p = 2 ^ (top - n) := ⟨_, rfl⟩
          rw [← hp] at ho HBK
          clear HMX hokx hle hq0 hq1 he64 hxl hp
          go_wp2_with fail
          refine HBK.out.mono ?_
          rintro e w1 ⟨rfl, rfl⟩
          go_upto_region 9 with (fail)
          go_region
          try rw [ho]
          clear c0 c1 c2 c3 fx ho HWX
          generalize (w.setCell ⟨g, 15, none⟩ (.int .u64 (nx : Int))).drew = wz at HWY HMY ⊢
          go_wp2
          go_ret
          refine ⟨rfl, ?_, HMY.out⟩
          rw [HMK.out]
          rw [HNX.out] at HWY
          rw [HS.out]
          exact HWY.out
        · have hq0 : (top - n) / 64 = 1 := by omega
          have hq1 : (top - n) % 64 = top - n - 64 := by omega
          have he64 : top - n - 64 < 64 := by omega
          have HS := hd (show setW (ca, cb) (top - n) = (ca, cb ||| 2 ^ (top - n - 64)) by rw [setW, if_neg h64])
          clear h64 hdl HW
          go_enter Tryd.func59, Tryd.ntmps59
          go_wp2_with fail
          refine HCH.out.mono ?_
          rintro e w1 ⟨rfl, rfl⟩
          clear c0
          have HBK := hd (back_calls HWX.out hokx hle)
          dsimp only at HBK
          rw [hq0, hq1] at HBK
          have hxl : cb < 2 ^ 64 := hokx.2.2
          have ho := or_bit (d := top - n - 64) hxl he64
          obtain ⟨c0, c1, c2, c3⟩ := HWX.out.cells
          dsimp only at c0 c1 c2 c3
          have fx := HWX.out.frozen 16
          have HWY := hd ((HWX.out.set16 (cb ||| 2 ^ (top - n - 64))).drew)
          have HMY := hd ((HMX.out.trans (Mod.set (S := fun k => k = g) (i := 16) _ rfl (.int .u64 ((cb ||| 2 ^ (top - n - 64) : Nat) : Int)))).trans (Mod.below (below_drew (Below.refl _ _))))
          dsimp only at HWY
          obtain ⟨nx, hnx⟩ : ∃ nx, nx = cb ||| 2 ^ (top - n - 64) := ⟨_, rfl⟩
          rw [← hnx] at ho HWY HMY
          have HNX := hd hnx
          clear hnx
          obtain ⟨p, hp⟩ : ∃ p, p = 2 ^ (top - n - 64) := ⟨_, rfl⟩
          rw [← hp] at ho HBK
          clear HMX hokx hle hq0 hq1 he64 hxl hp
          go_wp2_with fail
          refine HBK.out.mono ?_
          rintro e w1 ⟨rfl, rfl⟩
          go_upto_region 9 with (fail)
          go_region
          try rw [ho]
          clear c0 c1 c2 c3 fx ho HWX
          generalize (w.setCell ⟨g, 16, none⟩ (.int .u64 (nx : Int))).drew = wz at HWY HMY ⊢
          go_wp2
          go_ret
          refine ⟨rfl, ?_, HMY.out⟩
          rw [HMK.out]
          rw [HNX.out] at HWY
          rw [HS.out]
          exact HWY.out
  · have hmk : markW v n = v := by rw [markW, if_pos hc]
    rw [hmk]
    have hne : checkW v.some v.top v.c n = 43 := by
      unfold checkW at hc ⊢
      split
      · rename_i h1; rw [if_pos h1] at hc; exact absurd rfl hc
      · rename_i h1
        rw [if_neg h1] at hc
        split
        · rfl
        · rename_i h2
          rw [if_neg h2] at hc
          split
          · rfl
          · rename_i h3; rw [if_neg h3] at hc; exact absurd rfl hc
    rw [hne] at HCH ⊢
    have HW := hd h
    clear h hok hn hc hmk hne
    go_enter Tryd.func59, Tryd.ntmps59
    go_wp2_with fail
    refine HCH.out.mono ?_
    rintro e w1 ⟨rfl, rfl⟩
    go_wp2
    go_ret
    exact ⟨rfl, HW.out, Mod.refl _ _⟩
end
end Go.Proofs.YtlgdplodglchaaaDoor
/- The walks through session.Start, Timer, New, Sent, Rekey, old, Expired. -/
set_option linter.unusedVariables false
set_option linter.unusedSimpArgs false
namespace Go.Proofs.YtlgdplodglchaaaDoor
open Go.RowKit Go.Proofs.YtlgdplodglchaaaDoorW.PrintWords Go.Proofs.YtlgdplodglchaaaDoorW.PrintLast Go.Proofs.YtlgdplodglchaaaDoorW.PrintMore
structure Rul where
  (r0 r1 : Nat) (r2 : Int) (r3 r4 r5 r6 : Nat)
def Rul.ok (r : Rul) : Prop := r.r0 < 2 ^ 64 ∧ r.r1 < 2 ^ 64
def Rul.v (r : Rul) : Value := .agg #[.int .u64 (r.r0 : Int), .int .u64 (r.r1 : Int), .int .i64 r.r2, .int .u64 (r.r3 : Int), .int .u64 (r.r4 : Int), .int .u64 (r.r5 : Int), .int .u64 (r.r6 : Int)]
def timC (r : Rul) (last : Nat) (tries : Int) : Array Value := #[.int .u64 (r.r0 : Int), .int .u64 (r.r1 : Int), .int .i64 r.r2, .int .u64 (r.r3 : Int), .int .u64 (r.r4 : Int), .int .u64 (r.r5 : Int), .int .u64 (r.r6 : Int), .int .u64 (last : Int), .int .i64 tries]
def TimAt (w : World) (g : Nat) (r : Rul) (last : Nat) (tries : Int) : Prop := w.heap[g]? = some (.cells (timC r last tries) 104 (0, 0))
/-- A slice: where, how long, how long it may be. -/
structure Sl where
  (A : Option Addr) (n c : Nat)
def Sl.v (s : Sl) : Value := .slice s.A s.n s.c
def sesC (r : Rul) (born sent : Nat) (k1 : Sl) (N1 : Nat) (k2 : Sl) (N2 : Nat) (v : Win) : Array Value := #[.int .u64 (r.r0 : Int), .int .u64 (r.r1 : Int), .int .i64 r.r2, .int .u64 (r.r3 : Int), .int .u64 (r.r4 : Int), .int .u64 (r.r5 : Int), .int .u64 (r.r6 : Int), .int .u64 (born : Int), .int .u64 (sent : Int), .slice k1.A k1.n k1.c, .int .u64 (N1 : Int), .slice k2.A k2.n k2.c, .int .u64 (N2 : Int), .bool v.some, .int .u64 (v.top : Int), .int .u64 (v.c.1 : Int), .int .u64 (v.c.2 : Int)]
def SesAt (w : World) (g : Nat) (r : Rul) (born sent : Nat) (k1 : Sl) (N1 : Nat) (k2 : Sl) (N2 : Nat) (v : Win) : Prop := w.heap[g]? = some (.cells (sesC r born sent k1 N1 k2 N2 v) 112 (0, 0))
theorem SesAt.win {w : World} {g : Nat} {r : Rul} {born sent : Nat} {k1 : Sl} {N1 : Nat} {k2 : Sl} {N2 : Nat} {v : Win} (h : SesAt w g r born sent k1 N1 k2 N2 v) : WinAt w g (sesC r born sent k1 N1 k2 N2 v) 112 v := ⟨h, rfl⟩
theorem SesAt.ofWin {w : World} {g : Nat} {r : Rul} {born sent : Nat} {k1 : Sl} {N1 : Nat} {k2 : Sl} {N2 : Nat} {v v' : Win} (h : WinAt w g (sesC r born sent k1 N1 k2 N2 v) 112 v') : SesAt w g r born sent k1 N1 k2 N2 v' := h.1
theorem SesAt.below {w w1 : World} {g : Nat} {r : Rul} {born sent : Nat} {k1 : Sl} {N1 : Nat} {k2 : Sl} {N2 : Nat} {v : Win} (h : SesAt w g r born sent k1 N1 k2 N2 v) (hb : Below w.heap.size w w1) : SesAt w1 g r born sent k1 N1 k2 N2 v := blk_below h hb
theorem TimAt.below {w w1 : World} {g : Nat} {r : Rul} {last : Nat} {tries : Int} (h : TimAt w g r last tries) (hb : Below w.heap.size w w1) : TimAt w1 g r last tries := blk_below h hb
def dueB (r : Rul) (last : Nat) (tries : Int) (now : Nat) : Bool := decide (waitF r.r0 r.r1 tries ≤ sinceN last now)
def oldB (r : Rul) (born now : Nat) : Bool := decide (r.r4 ≤ sinceN born now)
def expB (r : Rul) (born sent now : Nat) : Bool := oldB r born now || decide (r.r6 ≤ sent)
def rekB (r : Rul) (born sent now : Nat) : Bool := decide (r.r3 ≤ sinceN born now) || decide (r.r5 ≤ sent)
section
variable {w : World} {g now born sent N1 N2 last : Nat} {tries : Int} {r : Rul} {k1 k2 : Sl} {v : Win}
theorem start_calls {now : Nat} :
    Calls Tryd.prog 16 #[r.v, .int .u64 (now : Int)] w fun e w' => e = .returned (.pointer (some ⟨w.heap.size + 1, 0, none⟩)) ∧ TimAt w' (w.heap.size + 1) r now 0 ∧ Below w.heap.size w w' := by
  obtain ⟨r0, r1, r2, r3, r4, r5, r6⟩ := r
  unfold Rul.v TimAt timC
  dsimp only
  have hal := below_alloc (Below.refl w.heap.size w) (.cells #[.int .u64 (r0 : Int), .int .u64 (r1 : Int), .int .i64 r2, .int .u64 (r3 : Int), .int .u64 (r4 : Int), .int .u64 (r5 : Int), .int .u64 (r6 : Int)] 24)
  have hb := blk_new (w.alloc (.cells #[.int .u64 (r0 : Int), .int .u64 (r1 : Int), .int .i64 r2, .int .u64 (r3 : Int), .int .u64 (r4 : Int), .int .u64 (r5 : Int), .int .u64 (r6 : Int)] 24)) (.cells #[.int .u64 (r0 : Int), .int .u64 (r1 : Int), .int .i64 r2, .int .u64 (r3 : Int), .int .u64 (r4 : Int), .int .u64 (r5 : Int), .int .u64 (r6 : Int), .int .u64 (now : Int), .int .i64 0] 104)
  have hal2 := below_seq hal (below_alloc (Below.refl _ (w.alloc (.cells #[.int .u64 (r0 : Int), .int .u64 (r1 : Int), .int .i64 r2, .int .u64 (r3 : Int), .int .u64 (r4 : Int), .int .u64 (r5 : Int), .int .u64 (r6 : Int)] 24))) (.cells #[.int .u64 (r0 : Int), .int .u64 (r1 : Int), .int .i64 r2, .int .u64 (r3 : Int), .int .u64 (r4 : Int), .int .u64 (r5 : Int), .int .u64 (r6 : Int), .int .u64 (now : Int), .int .i64 0] 104))
  rw [World.size_alloc] at hb
  have HB := hd hb
  have HA := hd hal2
  clear hal hb hal2
  go_enter Tryd.func16, Tryd.ntmps16
  go_wp2
  go_ret
  exact ⟨rfl, HB.out, HA.out⟩
set_option maxRecDepth 100000 in
theorem sent_calls (h : SesAt w g r born sent k1 N1 k2 N2 v) : Calls Tryd.prog 26 #[.pointer (some ⟨g, 0, none⟩)] w fun e w' => e = .returned (.int .u64 (sent : Int)) ∧ w = w' := by
  have c8 : w.cell? ⟨g, 8, none⟩ = some (.int .u64 (sent : Int)) := by rw [blk_cell h]; rfl
  clear h
  go_enter Tryd.func26, Tryd.ntmps26
  go_wp2
  go_ret
  exact ⟨rfl, rfl⟩
set_option maxRecDepth 100000 in
theorem due_calls (h : TimAt w g r last tries) (hr : r.ok) (hnow : now < 2 ^ 64) (ht : tries ≤ 9223372036854775807) :
    Calls Tryd.prog 18 #[.pointer (some ⟨g, 0, none⟩), .int .u64 (now : Int)] w fun e w' => e = .returned (.bool (dueB r last tries now)) ∧ Below w.heap.size w w' := by
  obtain ⟨r0, r1, r2, r3, r4, r5, r6⟩ := r
  have h1 := blk_cell h
  unfold timC at h1
  dsimp only at h1
  have c0 := h1 0
  have c1 := h1 1
  have c2 := h1 2
  have c3 := h1 3
  have c4 := h1 4
  have c5 := h1 5
  have c6 := h1 6
  have c7 := h1 7
  have c8 := h1 8
  obtain ⟨b, hb⟩ : ∃ b, Aside0 (dueB ⟨r0, r1, r2, r3, r4, r5, r6⟩ last tries now = b) := ⟨_, ⟨rfl⟩⟩
  rw [hb.out]
  have hbb := hb.out
  unfold dueB at hbb
  dsimp only at hbb
  have HSI := fun w => hd (since_calls (a := last) (w := w) hnow)
  have HWA := fun w => hd (wait_calls (r2 := r2) (r3 := r3) (r4 := r4) (r5 := r5) (r6 := r6) (w := w) hr.1 hr.2 ht)
  obtain ⟨x, hx⟩ : ∃ x, x = waitF r0 r1 tries := ⟨_, rfl⟩
  obtain ⟨y, hy⟩ : ∃ y, y = sinceN last now := ⟨_, rfl⟩
  dsimp only at HWA
  rw [← hx] at hbb HWA
  rw [← hy] at hbb HSI
  clear h h1 hr hnow ht hx hy
  go_enter Tryd.func18, Tryd.ntmps18
  go_wp2_with fail
  refine up_start [] [(0, true), (1, true), (2, true), (3, true), (4, true), (5, true), (6, true), (7, true), (9, true), (10, true), (11, true), (12, true), (13, true), (14, true), (15, true), (16, true), (8, false), (17, false), (18, true), (19, true), (20, true)] (by kernel_rfl) rfl (by kernel_rfl) (by kernel_rfl) ?_
  have HBW0 := hd (below_drew (Below.refl w.heap.size w))
  have t0 := Grow.cells (show w.drew.cell? ⟨g, 0, none⟩ = _ from c0)
  have t1 := Grow.cells (show w.drew.cell? ⟨g, 1, none⟩ = _ from c1)
  have t2 := Grow.cells (show w.drew.cell? ⟨g, 2, none⟩ = _ from c2)
  have t3 := Grow.cells (show w.drew.cell? ⟨g, 3, none⟩ = _ from c3)
  have t4 := Grow.cells (show w.drew.cell? ⟨g, 4, none⟩ = _ from c4)
  have t5 := Grow.cells (show w.drew.cell? ⟨g, 5, none⟩ = _ from c5)
  have t6 := Grow.cells (show w.drew.cell? ⟨g, 6, none⟩ = _ from c6)
  have t7 := Grow.cells (show w.drew.cell? ⟨g, 7, none⟩ = _ from c7)
  have t8 := Grow.cells (show w.drew.cell? ⟨g, 8, none⟩ = _ from c8)
  generalize w.drew = w5 at HBW0 t0 t1 t2 t3 t4 t5 t6 t7 t8 ⊢
  clear c0 c1 c2 c3 c4 c5 c6 c7 c8
  refine seq_pure (i := 0) (N := some 5) (v := ?_) (a' := ?_) rfl rfl (by rfl) (fun _ _ _ h => h) ?_ ?_ ?_
  rotate_left 2
  · intro w' hg
    go_simp
    with_reducible rfl
  · simp only [Act.put, List.setIfInBounds_toArray, List.set_cons_zero, List.set_cons_succ, i64_w, i32_w]
    rfl
  refine seq_pure (i := 1) (N := some 6) (v := ?_) (a' := ?_) rfl rfl (by rfl) (fun _ _ _ h => h) ?_ ?_ ?_
  rotate_left 2
  · intro w' hg
    go_simp
    with_reducible rfl
  · simp only [Act.put, List.setIfInBounds_toArray, List.set_cons_zero, List.set_cons_succ, i64_w, i32_w]
    rfl
  refine seq_pure (i := 2) (N := some 7) (v := ?_) (a' := ?_) rfl rfl (by rfl) (fun _ _ _ h => h) ?_ ?_ ?_
  rotate_left 2
  · intro w' hg
    go_simp
    with_reducible rfl
  · simp only [Act.put, List.setIfInBounds_toArray, List.set_cons_zero, List.set_cons_succ, i64_w, i32_w]
    rfl
  refine seq_pure (i := 3) (N := some 8) (v := ?_) (a' := ?_) rfl rfl (by rfl) (fun _ _ _ h => h) ?_ ?_ ?_
  rotate_left 2
  · intro w' hg
    go_simp
    with_reducible rfl
  · simp only [Act.put, List.setIfInBounds_toArray, List.set_cons_zero, List.set_cons_succ, i64_w, i32_w]
    rfl
  refine seq_pure (i := 4) (N := some 9) (v := ?_) (a' := ?_) rfl rfl (by rfl) (fun _ _ _ h => h) ?_ ?_ ?_
  rotate_left 2
  · intro w' hg
    go_simp
    with_reducible rfl
  · simp only [Act.put, List.setIfInBounds_toArray, List.set_cons_zero, List.set_cons_succ, i64_w, i32_w]
    rfl
  refine seq_pure (i := 5) (N := some 10) (v := ?_) (a' := ?_) rfl rfl (by rfl) (fun _ _ _ h => h) ?_ ?_ ?_
  rotate_left 2
  · intro w' hg
    go_simp
    with_reducible rfl
  · simp only [Act.put, List.setIfInBounds_toArray, List.set_cons_zero, List.set_cons_succ, i64_w, i32_w]
    rfl
  refine seq_pure (i := 6) (N := some 11) (v := ?_) (a' := ?_) rfl rfl (by rfl) (fun _ _ _ h => h) ?_ ?_ ?_
  rotate_left 2
  · intro w' hg
    go_simp
    with_reducible rfl
  · simp only [Act.put, List.setIfInBounds_toArray, List.set_cons_zero, List.set_cons_succ, i64_w, i32_w]
    rfl
  refine seq_pure (i := 7) (N := some 12) (v := ?_) (a' := ?_) rfl rfl (by rfl) (fun _ _ _ h => h) ?_ ?_ ?_
  rotate_left 2
  · intro w' hg
    go_simp
    with_reducible rfl
  · simp only [Act.put, List.setIfInBounds_toArray, List.set_cons_zero, List.set_cons_succ, i64_w, i32_w]
    rfl
  refine seq_pure (i := 9) (N := some 14) (v := ?_) (a' := ?_) rfl rfl (by rfl) (fun _ _ _ h => h) ?_ ?_ ?_
  rotate_left 2
  · intro w' hg
    go_simp
    with_reducible rfl
  · simp only [Act.put, List.setIfInBounds_toArray, List.set_cons_zero, List.set_cons_succ, i64_w, i32_w]
    rfl
  refine seq_pure (i := 10) (N := some 15) (v := ?_) (a' := ?_) rfl rfl (by rfl) (fun _ _ _ h => h) ?_ ?_ ?_
  rotate_left 2
  · intro w' hg
    go_simp
    with_reducible rfl
  · simp only [Act.put, List.setIfInBounds_toArray, List.set_cons_zero, List.set_cons_succ, i64_w, i32_w]
    rfl
  refine seq_pure (i := 11) (N := some 16) (v := ?_) (a' := ?_) rfl rfl (by rfl) (fun _ _ _ h => h) ?_ ?_ ?_
  rotate_left 2
  · intro w' hg
    go_simp
    with_reducible rfl
  · simp only [Act.put, List.setIfInBounds_toArray, List.set_cons_zero, List.set_cons_succ, i64_w, i32_w]
    rfl
  refine seq_pure (i := 12) (N := some 17) (v := ?_) (a' := ?_) rfl rfl (by rfl) (fun _ _ _ h => h) ?_ ?_ ?_
  rotate_left 2
  · intro w' hg
    go_simp
    with_reducible rfl
  · simp only [Act.put, List.setIfInBounds_toArray, List.set_cons_zero, List.set_cons_succ, i64_w, i32_w]
    rfl
  refine seq_pure (i := 13) (N := some 18) (v := ?_) (a' := ?_) rfl rfl (by rfl) (fun _ _ _ h => h) ?_ ?_ ?_
  rotate_left 2
  · intro w' hg
    go_simp
    with_reducible rfl
  · simp only [Act.put, List.setIfInBounds_toArray, List.set_cons_zero, List.set_cons_succ, i64_w, i32_w]
    rfl
  refine seq_pure (i := 14) (N := some 19) (v := ?_) (a' := ?_) rfl rfl (by rfl) (fun _ _ _ h => h) ?_ ?_ ?_
  rotate_left 2
  · intro w' hg
    go_simp
    with_reducible rfl
  · simp only [Act.put, List.setIfInBounds_toArray, List.set_cons_zero, List.set_cons_succ, i64_w, i32_w]
    rfl
  refine seq_pure (i := 15) (N := some 20) (v := ?_) (a' := ?_) rfl rfl (by rfl) (fun _ _ _ h => h) ?_ ?_ ?_
  rotate_left 2
  · intro w' hg
    go_simp
    with_reducible rfl
  · simp only [Act.put, List.setIfInBounds_toArray, List.set_cons_zero, List.set_cons_succ, i64_w, i32_w]
    rfl
  refine seq_pure (i := 16) (N := some 21) (v := ?_) (a' := ?_) rfl rfl (by rfl) (fun _ _ _ h => h) ?_ ?_ ?_
  rotate_left 2
  · intro w' hg
    go_simp
    with_reducible rfl
  · simp only [Act.put, List.setIfInBounds_toArray, List.set_cons_zero, List.set_cons_succ, i64_w, i32_w]
    rfl
  refine seq_call (i := 8) (N := some 13) rfl rfl Tryd.func55 (by kernel_rfl) rfl #[.int .u64 (last : Int), .int .u64 (now : Int)] (by rfl) rfl ?_ ?_
  · simp only [List.map_toArray, List.map_cons, List.map_nil]
    rfl
  refine (HSI w5).out.mono ?_
  rintro e w6 ⟨rfl, rfl⟩
  refine ⟨_, rfl, fun _ => Below.refl _ _, ?_⟩
  refine seq_norm (a' := ?_) ?_ ?_
  rotate_left
  · show Act.put _ (some 13) _ = _
    simp only [Act.put, List.setIfInBounds_toArray, List.set_cons_zero, List.set_cons_succ, i64_w, i32_w]
    rfl
  refine seq_call (i := 17) (N := some 22) rfl rfl Tryd.func14 (by kernel_rfl) rfl #[.agg #[.int .u64 (r0 : Int), .int .u64 (r1 : Int), .int .i64 r2, .int .u64 (r3 : Int), .int .u64 (r4 : Int), .int .u64 (r5 : Int), .int .u64 (r6 : Int)], .int .i64 tries] (by rfl) rfl ?_ ?_
  · simp only [List.map_toArray, List.map_cons, List.map_nil]
    rfl
  refine (HWA w5).out.mono ?_
  rintro e w7 ⟨rfl, hb7⟩
  have HBW := hd (below_seq HBW0.out hb7)
  refine ⟨_, rfl, fun _ => hb7, ?_⟩
  clear hb7
  refine seq_norm (a' := ?_) ?_ ?_
  rotate_left
  · show Act.put _ (some 22) _ = _
    simp only [Act.put, List.setIfInBounds_toArray, List.set_cons_zero, List.set_cons_succ, i64_w, i32_w]
    rfl
  refine seq_pure (i := 18) (N := some 23) (v := ?_) (a' := ?_) rfl rfl (by rfl) (fun _ _ _ h => h) ?_ ?_ ?_
  rotate_left 2
  · intro w' hg
    go_simp
    with_reducible rfl
  · simp only [Act.put, List.setIfInBounds_toArray, List.set_cons_zero, List.set_cons_succ, i64_w, i32_w]
    rfl
  refine seq_pure (i := 19) (N := some 24) (v := ?_) (a' := ?_) rfl rfl (by rfl) (fun _ _ _ h => h) ?_ ?_ ?_
  rotate_left 2
  · intro w' hg
    go_simp
    with_reducible rfl
  · simp only [Act.put, List.setIfInBounds_toArray, List.set_cons_zero, List.set_cons_succ, i64_w, i32_w]
    rfl
  refine seq_pure (i := 20) (N := some 4) (v := ?_) (a' := ?_) rfl rfl (by rfl) (fun _ _ _ h => h) ?_ ?_ ?_
  rotate_left 2
  · intro w' hg
    go_simp
    with_reducible rfl
  · simp only [Act.put, List.setIfInBounds_toArray, List.set_cons_zero, List.set_cons_succ, i64_w, i32_w]
    rfl
  refine seq_done ?_
  go_wp2
  go_ret
  exact ⟨by rw [← hbb]; first | rfl | simp, HBW.out⟩
set_option maxRecDepth 100000 in
theorem old_calls (h : SesAt w g r born sent k1 N1 k2 N2 v) (hnow : now < 2 ^ 64) :
    Calls Tryd.prog 57 #[.pointer (some ⟨g, 0, none⟩), .int .u64 (now : Int)] w fun e w' => e = .returned (.bool (oldB r born now)) ∧ Below w.heap.size w w' := by
  obtain ⟨r0, r1, r2, r3, r4, r5, r6⟩ := r
  have c4 : w.cell? ⟨g, 4, none⟩ = some (.int .u64 (r4 : Int)) := by rw [blk_cell h]; rfl
  have c7 : w.cell? ⟨g, 7, none⟩ = some (.int .u64 (born : Int)) := by rw [blk_cell h]; rfl
  obtain ⟨b, hb⟩ : ∃ b, Aside0 (oldB ⟨r0, r1, r2, r3, r4, r5, r6⟩ born now = b) := ⟨_, ⟨rfl⟩⟩
  rw [hb.out]
  have hbb := hb.out
  unfold oldB at hbb
  dsimp only at hbb
  have HSI := fun w => hd (since_calls (a := born) (w := w) hnow)
  obtain ⟨y, hy⟩ : ∃ y, y = sinceN born now := ⟨_, rfl⟩
  rw [← hy] at hbb HSI
  clear h hnow hy
  go_enter Tryd.func57, Tryd.ntmps57
  go_wp2_with fail
  refine up_start [] [(0, true), (1, true), (2, true), (3, true), (4, true), (5, true), (7, true), (8, true), (9, true), (10, true), (11, true), (12, true), (6, false), (13, true), (14, true)] (by kernel_rfl) rfl (by kernel_rfl) (by kernel_rfl) ?_
  have HBW0 := hd (below_drew (Below.refl w.heap.size w))
  have t4 := Grow.cells (show w.drew.cell? ⟨g, 4, none⟩ = _ from c4)
  have t7 := Grow.cells (show w.drew.cell? ⟨g, 7, none⟩ = _ from c7)
  generalize w.drew = w5 at HBW0 t4 t7 ⊢
  clear c4 c7
  have HBW := HBW0
  refine seq_pure (i := 0) (N := some 5) (v := ?_) (a' := ?_) rfl rfl (by rfl) (fun _ _ _ h => h) ?_ ?_ ?_
  rotate_left 2
  · intro w' hg
    go_simp
    with_reducible rfl
  · simp only [Act.put, List.setIfInBounds_toArray, List.set_cons_zero, List.set_cons_succ, i64_w, i32_w]
    rfl
  refine seq_pure (i := 1) (N := some 6) (v := ?_) (a' := ?_) rfl rfl (by rfl) (fun _ _ _ h => h) ?_ ?_ ?_
  rotate_left 2
  · intro w' hg
    go_simp
    with_reducible rfl
  · simp only [Act.put, List.setIfInBounds_toArray, List.set_cons_zero, List.set_cons_succ, i64_w, i32_w]
    rfl
  refine seq_pure (i := 2) (N := some 7) (v := ?_) (a' := ?_) rfl rfl (by rfl) (fun _ _ _ h => h) ?_ ?_ ?_
  rotate_left 2
  · intro w' hg
    go_simp
    with_reducible rfl
  · simp only [Act.put, List.setIfInBounds_toArray, List.set_cons_zero, List.set_cons_succ, i64_w, i32_w]
    rfl
  refine seq_pure (i := 3) (N := some 8) (v := ?_) (a' := ?_) rfl rfl (by rfl) (fun _ _ _ h => h) ?_ ?_ ?_
  rotate_left 2
  · intro w' hg
    go_simp
    with_reducible rfl
  · simp only [Act.put, List.setIfInBounds_toArray, List.set_cons_zero, List.set_cons_succ, i64_w, i32_w]
    rfl
  refine seq_pure (i := 4) (N := some 9) (v := ?_) (a' := ?_) rfl rfl (by rfl) (fun _ _ _ h => h) ?_ ?_ ?_
  rotate_left 2
  · intro w' hg
    go_simp
    with_reducible rfl
  · simp only [Act.put, List.setIfInBounds_toArray, List.set_cons_zero, List.set_cons_succ, i64_w, i32_w]
    rfl
  refine seq_pure (i := 5) (N := some 10) (v := ?_) (a' := ?_) rfl rfl (by rfl) (fun _ _ _ h => h) ?_ ?_ ?_
  rotate_left 2
  · intro w' hg
    go_simp
    with_reducible rfl
  · simp only [Act.put, List.setIfInBounds_toArray, List.set_cons_zero, List.set_cons_succ, i64_w, i32_w]
    rfl
  refine seq_pure (i := 7) (N := some 12) (v := ?_) (a' := ?_) rfl rfl (by rfl) (fun _ _ _ h => h) ?_ ?_ ?_
  rotate_left 2
  · intro w' hg
    go_simp
    with_reducible rfl
  · simp only [Act.put, List.setIfInBounds_toArray, List.set_cons_zero, List.set_cons_succ, i64_w, i32_w]
    rfl
  refine seq_pure (i := 8) (N := some 13) (v := ?_) (a' := ?_) rfl rfl (by rfl) (fun _ _ _ h => h) ?_ ?_ ?_
  rotate_left 2
  · intro w' hg
    go_simp
    with_reducible rfl
  · simp only [Act.put, List.setIfInBounds_toArray, List.set_cons_zero, List.set_cons_succ, i64_w, i32_w]
    rfl
  refine seq_pure (i := 9) (N := some 14) (v := ?_) (a' := ?_) rfl rfl (by rfl) (fun _ _ _ h => h) ?_ ?_ ?_
  rotate_left 2
  · intro w' hg
    go_simp
    with_reducible rfl
  · simp only [Act.put, List.setIfInBounds_toArray, List.set_cons_zero, List.set_cons_succ, i64_w, i32_w]
    rfl
  refine seq_pure (i := 10) (N := some 15) (v := ?_) (a' := ?_) rfl rfl (by rfl) (fun _ _ _ h => h) ?_ ?_ ?_
  rotate_left 2
  · intro w' hg
    go_simp
    with_reducible rfl
  · simp only [Act.put, List.setIfInBounds_toArray, List.set_cons_zero, List.set_cons_succ, i64_w, i32_w]
    rfl
  refine seq_pure (i := 11) (N := some 16) (v := ?_) (a' := ?_) rfl rfl (by rfl) (fun _ _ _ h => h) ?_ ?_ ?_
  rotate_left 2
  · intro w' hg
    go_simp
    with_reducible rfl
  · simp only [Act.put, List.setIfInBounds_toArray, List.set_cons_zero, List.set_cons_succ, i64_w, i32_w]
    rfl
  refine seq_pure (i := 12) (N := some 17) (v := ?_) (a' := ?_) rfl rfl (by rfl) (fun _ _ _ h => h) ?_ ?_ ?_
  rotate_left 2
  · intro w' hg
    go_simp
    with_reducible rfl
  · simp only [Act.put, List.setIfInBounds_toArray, List.set_cons_zero, List.set_cons_succ, i64_w, i32_w]
    rfl
  refine seq_call (i := 6) (N := some 11) rfl rfl Tryd.func55 (by kernel_rfl) rfl #[.int .u64 (born : Int), .int .u64 (now : Int)] (by rfl) rfl ?_ ?_
  · simp only [List.map_toArray, List.map_cons, List.map_nil]
    rfl
  refine (HSI w5).out.mono ?_
  rintro e w6 ⟨rfl, rfl⟩
  refine ⟨_, rfl, fun _ => Below.refl _ _, ?_⟩
  refine seq_norm (a' := ?_) ?_ ?_
  rotate_left
  · show Act.put _ (some 11) _ = _
    simp only [Act.put, List.setIfInBounds_toArray, List.set_cons_zero, List.set_cons_succ, i64_w, i32_w]
    rfl
  refine seq_pure (i := 13) (N := some 18) (v := ?_) (a' := ?_) rfl rfl (by rfl) (fun _ _ _ h => h) ?_ ?_ ?_
  rotate_left 2
  · intro w' hg
    go_simp
    with_reducible rfl
  · simp only [Act.put, List.setIfInBounds_toArray, List.set_cons_zero, List.set_cons_succ, i64_w, i32_w]
    rfl
  refine seq_pure (i := 14) (N := some 4) (v := ?_) (a' := ?_) rfl rfl (by rfl) (fun _ _ _ h => h) ?_ ?_ ?_
  rotate_left 2
  · intro w' hg
    go_simp
    with_reducible rfl
  · simp only [Act.put, List.setIfInBounds_toArray, List.set_cons_zero, List.set_cons_succ, i64_w, i32_w]
    rfl
  refine seq_done ?_
  go_wp2
  go_ret
  exact ⟨by rw [← hbb]; first | rfl | simp, HBW.out⟩
set_option maxRecDepth 100000 in
theorem expired_calls (h : SesAt w g r born sent k1 N1 k2 N2 v) (hnow : now < 2 ^ 64) :
    Calls Tryd.prog 29 #[.pointer (some ⟨g, 0, none⟩), .int .u64 (now : Int)] w fun e w' => e = .returned (.bool (expB r born sent now)) ∧ Below w.heap.size w w' := by
  have HOL := fun (w1 : World) (hb : Below w.heap.size w w1) => hd (old_calls (h.below hb) hnow)
  have c6 : w.cell? ⟨g, 6, none⟩ = some (.int .u64 (r.r6 : Int)) := by rw [blk_cell h]; rfl
  have c8 : w.cell? ⟨g, 8, none⟩ = some (.int .u64 (sent : Int)) := by rw [blk_cell h]; rfl
  unfold expB
  obtain ⟨x6, hx6⟩ : ∃ x6, x6 = r.r6 := ⟨_, rfl⟩
  rw [← hx6] at c6 ⊢
  clear h hnow hx6
  cases ho : oldB r born now
  · rw [Bool.false_or]
    rw [ho] at HOL
    clear ho
    go_enter Tryd.func29, Tryd.ntmps29
    go_wp2_with fail
    refine up_start [] [(0, true), (1, true), (2, true), (3, true), (4, true), (5, false), (6, true), (7, true), (8, true), (9, true), (10, true), (11, true), (12, true), (13, true), (14, true), (15, true), (16, true), (17, true), (18, true), (19, true), (20, true), (21, true)] (by kernel_rfl) rfl (by kernel_rfl) (by kernel_rfl) ?_
    have HBW0 := hd (below_drew (Below.refl w.heap.size w))
    have t6 := Grow.cells (show w.drew.cell? ⟨g, 6, none⟩ = _ from c6)
    have t8 := Grow.cells (show w.drew.cell? ⟨g, 8, none⟩ = _ from c8)
    generalize w.drew = w5 at HBW0 t6 t8 ⊢
    clear c6 c8
    refine seq_pure (i := 0) (N := some 5) (v := ?_) (a' := ?_) rfl rfl (by rfl) (fun _ _ _ h => h) ?_ ?_ ?_
    rotate_left 2
    · intro w' hg
      go_simp
      with_reducible rfl
    · simp only [Act.put, List.setIfInBounds_toArray, List.set_cons_zero, List.set_cons_succ, i64_w, i32_w]
      rfl
    refine seq_pure (i := 1) (N := some 6) (v := ?_) (a' := ?_) rfl rfl (by rfl) (fun _ _ _ h => h) ?_ ?_ ?_
    rotate_left 2
    · intro w' hg
      go_simp
      with_reducible rfl
    · simp only [Act.put, List.setIfInBounds_toArray, List.set_cons_zero, List.set_cons_succ, i64_w, i32_w]
      rfl
    refine seq_pure (i := 2) (N := some 7) (v := ?_) (a' := ?_) rfl rfl (by rfl) (fun _ _ _ h => h) ?_ ?_ ?_
    rotate_left 2
    · intro w' hg
      go_simp
      with_reducible rfl
    · simp only [Act.put, List.setIfInBounds_toArray, List.set_cons_zero, List.set_cons_succ, i64_w, i32_w]
      rfl
    refine seq_pure (i := 3) (N := some 8) (v := ?_) (a' := ?_) rfl rfl (by rfl) (fun _ _ _ h => h) ?_ ?_ ?_
    rotate_left 2
    · intro w' hg
      go_simp
      with_reducible rfl
    · simp only [Act.put, List.setIfInBounds_toArray, List.set_cons_zero, List.set_cons_succ, i64_w, i32_w]
      rfl
    refine seq_pure (i := 4) (N := some 9) (v := ?_) (a' := ?_) rfl rfl (by rfl) (fun _ _ _ h => h) ?_ ?_ ?_
    rotate_left 2
    · intro w' hg
      go_simp
      with_reducible rfl
    · simp only [Act.put, List.setIfInBounds_toArray, List.set_cons_zero, List.set_cons_succ, i64_w, i32_w]
      rfl
    refine seq_call (i := 5) (N := some 10) rfl rfl Tryd.func57 (by kernel_rfl) rfl #[.pointer (some ⟨g, 0, none⟩), .int .u64 (now : Int)] (by rfl) rfl ?_ ?_
    · simp only [List.map_toArray, List.map_cons, List.map_nil]
      rfl
    refine (HOL w5 HBW0.out).out.mono ?_
    rintro e w7 ⟨rfl, hb7⟩
    have HBW := hd (below_seq HBW0.out hb7)
    have u6 := fun w' (hg : Grow w7 w') => t6 w' (below_seq hb7 hg)
    have u8 := fun w' (hg : Grow w7 w') => t8 w' (below_seq hb7 hg)
    refine ⟨_, rfl, fun _ => hb7, ?_⟩
    clear hb7
    refine seq_norm (a' := ?_) ?_ ?_
    rotate_left
    · show Act.put _ (some 10) _ = _
      simp only [Act.put, List.setIfInBounds_toArray, List.set_cons_zero, List.set_cons_succ, i64_w, i32_w]
      rfl
    refine seq_pure (i := 6) (N := some 11) (v := ?_) (a' := ?_) rfl rfl (by rfl) (fun _ _ _ h => h) ?_ ?_ ?_
    rotate_left 2
    · intro w' hg
      go_simp
      with_reducible rfl
    · simp only [Act.put, List.setIfInBounds_toArray, List.set_cons_zero, List.set_cons_succ, i64_w, i32_w]
      rfl
    refine seq_pure (i := 7) (N := some 12) (v := ?_) (a' := ?_) rfl rfl (by rfl) (fun _ _ _ h => h) ?_ ?_ ?_
    rotate_left 2
    · intro w' hg
      go_simp
      with_reducible rfl
    · simp only [Act.put, List.setIfInBounds_toArray, List.set_cons_zero, List.set_cons_succ, i64_w, i32_w]
      rfl
    refine seq_pure (i := 8) (N := some 13) (v := ?_) (a' := ?_) rfl rfl (by rfl) (fun _ _ _ h => h) ?_ ?_ ?_
    rotate_left 2
    · intro w' hg
      go_simp
      with_reducible rfl
    · simp only [Act.put, List.setIfInBounds_toArray, List.set_cons_zero, List.set_cons_succ, i64_w, i32_w]
      rfl
    refine seq_pure (i := 9) (N := some 14) (v := ?_) (a' := ?_) rfl rfl (by rfl) (fun _ _ _ h => h) ?_ ?_ ?_
    rotate_left 2
    · intro w' hg
      go_simp
      with_reducible rfl
    · simp only [Act.put, List.setIfInBounds_toArray, List.set_cons_zero, List.set_cons_succ, i64_w, i32_w]
      rfl
    refine seq_pure (i := 10) (N := some 15) (v := ?_) (a' := ?_) rfl rfl (by rfl) (fun _ _ _ h => h) ?_ ?_ ?_
    rotate_left 2
    · intro w' hg
      go_simp
      with_reducible rfl
    · simp only [Act.put, List.setIfInBounds_toArray, List.set_cons_zero, List.set_cons_succ, i64_w, i32_w]
      rfl
    refine seq_pure (i := 11) (N := some 16) (v := ?_) (a' := ?_) rfl rfl (by rfl) (fun _ _ _ h => h) ?_ ?_ ?_
    rotate_left 2
    · intro w' hg
      go_simp
      with_reducible rfl
    · simp only [Act.put, List.setIfInBounds_toArray, List.set_cons_zero, List.set_cons_succ, i64_w, i32_w]
      rfl
    refine seq_pure (i := 12) (N := some 17) (v := ?_) (a' := ?_) rfl rfl (by rfl) (fun _ _ _ h => h) ?_ ?_ ?_
    rotate_left 2
    · intro w' hg
      go_simp
      with_reducible rfl
    · simp only [Act.put, List.setIfInBounds_toArray, List.set_cons_zero, List.set_cons_succ, i64_w, i32_w]
      rfl
    refine seq_pure (i := 13) (N := some 18) (v := ?_) (a' := ?_) rfl rfl (by rfl) (fun _ _ _ h => h) ?_ ?_ ?_
    rotate_left 2
    · intro w' hg
      go_simp
      with_reducible rfl
    · simp only [Act.put, List.setIfInBounds_toArray, List.set_cons_zero, List.set_cons_succ, i64_w, i32_w]
      rfl
    refine seq_pure (i := 14) (N := some 19) (v := ?_) (a' := ?_) rfl rfl (by rfl) (fun _ _ _ h => h) ?_ ?_ ?_
    rotate_left 2
    · intro w' hg
      go_simp
      with_reducible rfl
    · simp only [Act.put, List.setIfInBounds_toArray, List.set_cons_zero, List.set_cons_succ, i64_w, i32_w]
      rfl
    refine seq_pure (i := 15) (N := some 20) (v := ?_) (a' := ?_) rfl rfl (by rfl) (fun _ _ _ h => h) ?_ ?_ ?_
    rotate_left 2
    · intro w' hg
      go_simp
      with_reducible rfl
    · simp only [Act.put, List.setIfInBounds_toArray, List.set_cons_zero, List.set_cons_succ, i64_w, i32_w]
      rfl
    refine seq_pure (i := 16) (N := some 21) (v := ?_) (a' := ?_) rfl rfl (by rfl) (fun _ _ _ h => h) ?_ ?_ ?_
    rotate_left 2
    · intro w' hg
      go_simp
      with_reducible rfl
    · simp only [Act.put, List.setIfInBounds_toArray, List.set_cons_zero, List.set_cons_succ, i64_w, i32_w]
      rfl
    refine seq_pure (i := 17) (N := some 22) (v := ?_) (a' := ?_) rfl rfl (by rfl) (fun _ _ _ h => h) ?_ ?_ ?_
    rotate_left 2
    · intro w' hg
      go_simp
      with_reducible rfl
    · simp only [Act.put, List.setIfInBounds_toArray, List.set_cons_zero, List.set_cons_succ, i64_w, i32_w]
      rfl
    refine seq_pure (i := 18) (N := some 23) (v := ?_) (a' := ?_) rfl rfl (by rfl) (fun _ _ _ h => h) ?_ ?_ ?_
    rotate_left 2
    · intro w' hg
      go_simp
      with_reducible rfl
    · simp only [Act.put, List.setIfInBounds_toArray, List.set_cons_zero, List.set_cons_succ, i64_w, i32_w]
      rfl
    refine seq_pure (i := 19) (N := some 24) (v := ?_) (a' := ?_) rfl rfl (by rfl) (fun _ _ _ h => h) ?_ ?_ ?_
    rotate_left 2
    · intro w' hg
      go_simp
      with_reducible rfl
    · simp only [Act.put, List.setIfInBounds_toArray, List.set_cons_zero, List.set_cons_succ, i64_w, i32_w]
      rfl
    refine seq_pure (i := 20) (N := some 25) (v := ?_) (a' := ?_) rfl rfl (by rfl) (fun _ _ _ h => h) ?_ ?_ ?_
    rotate_left 2
    · intro w' hg
      go_simp
      with_reducible rfl
    · simp only [Act.put, List.setIfInBounds_toArray, List.set_cons_zero, List.set_cons_succ, i64_w, i32_w]
      rfl
    refine seq_pure (i := 21) (N := some 4) (v := ?_) (a' := ?_) rfl rfl (by rfl) (fun _ _ _ h => h) ?_ ?_ ?_
    rotate_left 2
    · intro w' hg
      go_simp
      with_reducible rfl
    · simp only [Act.put, List.setIfInBounds_toArray, List.set_cons_zero, List.set_cons_succ, i64_w, i32_w]
      rfl
    refine seq_done ?_
    go_wp2
    go_ret
    exact ⟨by first | rfl | simp, HBW.out⟩
  · rw [Bool.true_or]
    rw [ho] at HOL
    clear ho c6 c8
    go_enter Tryd.func29, Tryd.ntmps29
    go_wp2_with fail
    refine up_start [] [(0, true), (1, true), (2, true), (3, true), (4, true), (5, false), (6, true), (7, true), (8, true), (9, true), (10, true), (11, true), (12, true), (13, true), (14, true), (15, true), (16, true), (17, true), (18, true), (19, true), (20, true), (21, true)] (by kernel_rfl) rfl (by kernel_rfl) (by kernel_rfl) ?_
    have HBW0 := hd (below_drew (Below.refl w.heap.size w))
    generalize w.drew = w5 at HBW0 ⊢
    refine seq_pure (i := 0) (N := some 5) (v := ?_) (a' := ?_) rfl rfl (by rfl) (fun _ _ _ h => h) ?_ ?_ ?_
    rotate_left 2
    · intro w' hg
      go_simp
      with_reducible rfl
    · simp only [Act.put, List.setIfInBounds_toArray, List.set_cons_zero, List.set_cons_succ, i64_w, i32_w]
      rfl
    refine seq_pure (i := 1) (N := some 6) (v := ?_) (a' := ?_) rfl rfl (by rfl) (fun _ _ _ h => h) ?_ ?_ ?_
    rotate_left 2
    · intro w' hg
      go_simp
      with_reducible rfl
    · simp only [Act.put, List.setIfInBounds_toArray, List.set_cons_zero, List.set_cons_succ, i64_w, i32_w]
      rfl
    refine seq_pure (i := 2) (N := some 7) (v := ?_) (a' := ?_) rfl rfl (by rfl) (fun _ _ _ h => h) ?_ ?_ ?_
    rotate_left 2
    · intro w' hg
      go_simp
      with_reducible rfl
    · simp only [Act.put, List.setIfInBounds_toArray, List.set_cons_zero, List.set_cons_succ, i64_w, i32_w]
      rfl
    refine seq_pure (i := 3) (N := some 8) (v := ?_) (a' := ?_) rfl rfl (by rfl) (fun _ _ _ h => h) ?_ ?_ ?_
    rotate_left 2
    · intro w' hg
      go_simp
      with_reducible rfl
    · simp only [Act.put, List.setIfInBounds_toArray, List.set_cons_zero, List.set_cons_succ, i64_w, i32_w]
      rfl
    refine seq_pure (i := 4) (N := some 9) (v := ?_) (a' := ?_) rfl rfl (by rfl) (fun _ _ _ h => h) ?_ ?_ ?_
    rotate_left 2
    · intro w' hg
      go_simp
      with_reducible rfl
    · simp only [Act.put, List.setIfInBounds_toArray, List.set_cons_zero, List.set_cons_succ, i64_w, i32_w]
      rfl
    refine seq_call (i := 5) (N := some 10) rfl rfl Tryd.func57 (by kernel_rfl) rfl #[.pointer (some ⟨g, 0, none⟩), .int .u64 (now : Int)] (by rfl) rfl ?_ ?_
    · simp only [List.map_toArray, List.map_cons, List.map_nil]
      rfl
    refine (HOL w5 HBW0.out).out.mono ?_
    rintro e w7 ⟨rfl, hb7⟩
    have HBW := hd (below_seq HBW0.out hb7)
    refine ⟨_, rfl, fun _ => hb7, ?_⟩
    clear hb7
    refine seq_norm (a' := ?_) ?_ ?_
    rotate_left
    · show Act.put _ (some 10) _ = _
      simp only [Act.put, List.setIfInBounds_toArray, List.set_cons_zero, List.set_cons_succ, i64_w, i32_w]
      rfl
    refine seq_pure (i := 6) (N := some 11) (v := ?_) (a' := ?_) rfl rfl (by rfl) (fun _ _ _ h => h) ?_ ?_ ?_
    rotate_left 2
    · intro w' hg
      go_simp
      with_reducible rfl
    · simp only [Act.put, List.setIfInBounds_toArray, List.set_cons_zero, List.set_cons_succ, i64_w, i32_w]
      rfl
    refine seq_pure (i := 7) (N := some 12) (v := ?_) (a' := ?_) rfl rfl (by rfl) (fun _ _ _ h => h) ?_ ?_ ?_
    rotate_left 2
    · intro w' hg
      go_simp
      with_reducible rfl
    · simp only [Act.put, List.setIfInBounds_toArray, List.set_cons_zero, List.set_cons_succ, i64_w, i32_w]
      rfl
    refine seq_off (i := 8) (N := some 13) (a' := ?_) rfl rfl (by rfl) (fun _ _ _ h => h) ?_ ?_
    rotate_left
    · simp only [Act.put, List.setIfInBounds_toArray, List.set_cons_zero, List.set_cons_succ, i64_w, i32_w]
      rfl
    refine seq_off (i := 9) (N := some 14) (a' := ?_) rfl rfl (by rfl) (fun _ _ _ h => h) ?_ ?_
    rotate_left
    · simp only [Act.put, List.setIfInBounds_toArray, List.set_cons_zero, List.set_cons_succ, i64_w, i32_w]
      rfl
    refine seq_off (i := 10) (N := some 15) (a' := ?_) rfl rfl (by rfl) (fun _ _ _ h => h) ?_ ?_
    rotate_left
    · simp only [Act.put, List.setIfInBounds_toArray, List.set_cons_zero, List.set_cons_succ, i64_w, i32_w]
      rfl
    refine seq_off (i := 11) (N := some 16) (a' := ?_) rfl rfl (by rfl) (fun _ _ _ h => h) ?_ ?_
    rotate_left
    · simp only [Act.put, List.setIfInBounds_toArray, List.set_cons_zero, List.set_cons_succ, i64_w, i32_w]
      rfl
    refine seq_off (i := 12) (N := some 17) (a' := ?_) rfl rfl (by rfl) (fun _ _ _ h => h) ?_ ?_
    rotate_left
    · simp only [Act.put, List.setIfInBounds_toArray, List.set_cons_zero, List.set_cons_succ, i64_w, i32_w]
      rfl
    refine seq_off (i := 13) (N := some 18) (a' := ?_) rfl rfl (by rfl) (fun _ _ _ h => h) ?_ ?_
    rotate_left
    · simp only [Act.put, List.setIfInBounds_toArray, List.set_cons_zero, List.set_cons_succ, i64_w, i32_w]
      rfl
    refine seq_off (i := 14) (N := some 19) (a' := ?_) rfl rfl (by rfl) (fun _ _ _ h => h) ?_ ?_
    rotate_left
    · simp only [Act.put, List.setIfInBounds_toArray, List.set_cons_zero, List.set_cons_succ, i64_w, i32_w]
      rfl
    refine seq_off (i := 15) (N := some 20) (a' := ?_) rfl rfl (by rfl) (fun _ _ _ h => h) ?_ ?_
    rotate_left
    · simp only [Act.put, List.setIfInBounds_toArray, List.set_cons_zero, List.set_cons_succ, i64_w, i32_w]
      rfl
    refine seq_off (i := 16) (N := some 21) (a' := ?_) rfl rfl (by rfl) (fun _ _ _ h => h) ?_ ?_
    rotate_left
    · simp only [Act.put, List.setIfInBounds_toArray, List.set_cons_zero, List.set_cons_succ, i64_w, i32_w]
      rfl
    refine seq_off (i := 17) (N := some 22) (a' := ?_) rfl rfl (by rfl) (fun _ _ _ h => h) ?_ ?_
    rotate_left
    · simp only [Act.put, List.setIfInBounds_toArray, List.set_cons_zero, List.set_cons_succ, i64_w, i32_w]
      rfl
    refine seq_off (i := 18) (N := some 23) (a' := ?_) rfl rfl (by rfl) (fun _ _ _ h => h) ?_ ?_
    rotate_left
    · simp only [Act.put, List.setIfInBounds_toArray, List.set_cons_zero, List.set_cons_succ, i64_w, i32_w]
      rfl
    refine seq_off (i := 19) (N := some 24) (a' := ?_) rfl rfl (by rfl) (fun _ _ _ h => h) ?_ ?_
    rotate_left
    · simp only [Act.put, List.setIfInBounds_toArray, List.set_cons_zero, List.set_cons_succ, i64_w, i32_w]
      rfl
    refine seq_pure (i := 20) (N := some 25) (v := ?_) (a' := ?_) rfl rfl (by rfl) (fun _ _ _ h => h) ?_ ?_ ?_
    rotate_left 2
    · intro w' hg
      go_simp
      with_reducible rfl
    · simp only [Act.put, List.setIfInBounds_toArray, List.set_cons_zero, List.set_cons_succ, i64_w, i32_w]
      rfl
    refine seq_pure (i := 21) (N := some 4) (v := ?_) (a' := ?_) rfl rfl (by rfl) (fun _ _ _ h => h) ?_ ?_ ?_
    rotate_left 2
    · intro w' hg
      go_simp
      with_reducible rfl
    · simp only [Act.put, List.setIfInBounds_toArray, List.set_cons_zero, List.set_cons_succ, i64_w, i32_w]
      rfl
    refine seq_done ?_
    go_wp2
    go_ret
    exact ⟨by first | rfl | simp, HBW.out⟩
set_option maxRecDepth 100000 in
theorem rekey_calls (h : SesAt w g r born sent k1 N1 k2 N2 v) (hnow : now < 2 ^ 64) :
    Calls Tryd.prog 27 #[.pointer (some ⟨g, 0, none⟩), .int .u64 (now : Int)] w fun e w' => e = .returned (.bool (rekB r born sent now)) ∧ Below w.heap.size w w' := by
  have HSI := fun w => hd (since_calls (a := born) (w := w) hnow)
  have c3 : w.cell? ⟨g, 3, none⟩ = some (.int .u64 (r.r3 : Int)) := by rw [blk_cell h]; rfl
  have c5 : w.cell? ⟨g, 5, none⟩ = some (.int .u64 (r.r5 : Int)) := by rw [blk_cell h]; rfl
  have c7 : w.cell? ⟨g, 7, none⟩ = some (.int .u64 (born : Int)) := by rw [blk_cell h]; rfl
  have c8 : w.cell? ⟨g, 8, none⟩ = some (.int .u64 (sent : Int)) := by rw [blk_cell h]; rfl
  unfold rekB
  obtain ⟨x3, hx3⟩ : ∃ x3, x3 = r.r3 := ⟨_, rfl⟩
  obtain ⟨x5, hx5⟩ : ∃ x5, x5 = r.r5 := ⟨_, rfl⟩
  obtain ⟨y, hy⟩ : ∃ y, y = sinceN born now := ⟨_, rfl⟩
  rw [← hx3] at c3 ⊢
  rw [← hx5] at c5 ⊢
  rw [← hy] at HSI ⊢
  clear h hnow hx3 hx5 hy
  cases ho : decide (x3 ≤ y)
  · rw [Bool.false_or]
    have ho' : decide ((x3 : Int) ≤ (y : Int)) = false := by simpa using ho
    go_enter Tryd.func27, Tryd.ntmps27
    go_wp2_with fail
    refine up_start [] [(0, true), (1, true), (2, true), (3, true), (4, true), (5, true), (6, true), (7, true), (8, true), (10, true), (11, true), (12, true), (13, true), (14, true), (15, true), (9, false), (16, true), (17, true), (18, true), (19, true), (20, true), (21, true), (22, true), (23, true), (24, true), (25, true), (26, true), (27, true), (28, true), (29, true), (30, true), (31, true), (32, true)] (by kernel_rfl) rfl (by kernel_rfl) (by kernel_rfl) ?_
    have HBW0 := hd (below_drew (Below.refl w.heap.size w))
    have t3 := Grow.cells (show w.drew.cell? ⟨g, 3, none⟩ = _ from c3)
    have t5 := Grow.cells (show w.drew.cell? ⟨g, 5, none⟩ = _ from c5)
    have t7 := Grow.cells (show w.drew.cell? ⟨g, 7, none⟩ = _ from c7)
    have t8 := Grow.cells (show w.drew.cell? ⟨g, 8, none⟩ = _ from c8)
    generalize w.drew = w5 at HBW0 t3 t5 t7 t8 ⊢
    clear c3 c5 c7 c8
    have HBW := HBW0
    refine seq_pure (i := 0) (N := some 5) (v := ?_) (a' := ?_) rfl rfl (by rfl) (fun _ _ _ h => h) ?_ ?_ ?_
    rotate_left 2
    · intro w' hg
      go_simp
      with_reducible rfl
    · simp only [Act.put, List.setIfInBounds_toArray, List.set_cons_zero, List.set_cons_succ, i64_w, i32_w]
      rfl
    refine seq_pure (i := 1) (N := some 6) (v := ?_) (a' := ?_) rfl rfl (by rfl) (fun _ _ _ h => h) ?_ ?_ ?_
    rotate_left 2
    · intro w' hg
      go_simp
      with_reducible rfl
    · simp only [Act.put, List.setIfInBounds_toArray, List.set_cons_zero, List.set_cons_succ, i64_w, i32_w]
      rfl
    refine seq_pure (i := 2) (N := some 7) (v := ?_) (a' := ?_) rfl rfl (by rfl) (fun _ _ _ h => h) ?_ ?_ ?_
    rotate_left 2
    · intro w' hg
      go_simp
      with_reducible rfl
    · simp only [Act.put, List.setIfInBounds_toArray, List.set_cons_zero, List.set_cons_succ, i64_w, i32_w]
      rfl
    refine seq_pure (i := 3) (N := some 8) (v := ?_) (a' := ?_) rfl rfl (by rfl) (fun _ _ _ h => h) ?_ ?_ ?_
    rotate_left 2
    · intro w' hg
      go_simp
      with_reducible rfl
    · simp only [Act.put, List.setIfInBounds_toArray, List.set_cons_zero, List.set_cons_succ, i64_w, i32_w]
      rfl
    refine seq_pure (i := 4) (N := some 9) (v := ?_) (a' := ?_) rfl rfl (by rfl) (fun _ _ _ h => h) ?_ ?_ ?_
    rotate_left 2
    · intro w' hg
      go_simp
      with_reducible rfl
    · simp only [Act.put, List.setIfInBounds_toArray, List.set_cons_zero, List.set_cons_succ, i64_w, i32_w]
      rfl
    refine seq_pure (i := 5) (N := some 10) (v := ?_) (a' := ?_) rfl rfl (by rfl) (fun _ _ _ h => h) ?_ ?_ ?_
    rotate_left 2
    · intro w' hg
      go_simp
      with_reducible rfl
    · simp only [Act.put, List.setIfInBounds_toArray, List.set_cons_zero, List.set_cons_succ, i64_w, i32_w]
      rfl
    refine seq_pure (i := 6) (N := some 11) (v := ?_) (a' := ?_) rfl rfl (by rfl) (fun _ _ _ h => h) ?_ ?_ ?_
    rotate_left 2
    · intro w' hg
      go_simp
      with_reducible rfl
    · simp only [Act.put, List.setIfInBounds_toArray, List.set_cons_zero, List.set_cons_succ, i64_w, i32_w]
      rfl
    refine seq_pure (i := 7) (N := some 12) (v := ?_) (a' := ?_) rfl rfl (by rfl) (fun _ _ _ h => h) ?_ ?_ ?_
    rotate_left 2
    · intro w' hg
      go_simp
      with_reducible rfl
    · simp only [Act.put, List.setIfInBounds_toArray, List.set_cons_zero, List.set_cons_succ, i64_w, i32_w]
      rfl
    refine seq_pure (i := 8) (N := some 13) (v := ?_) (a' := ?_) rfl rfl (by rfl) (fun _ _ _ h => h) ?_ ?_ ?_
    rotate_left 2
    · intro w' hg
      go_simp
      with_reducible rfl
    · simp only [Act.put, List.setIfInBounds_toArray, List.set_cons_zero, List.set_cons_succ, i64_w, i32_w]
      rfl
    refine seq_pure (i := 10) (N := some 15) (v := ?_) (a' := ?_) rfl rfl (by rfl) (fun _ _ _ h => h) ?_ ?_ ?_
    rotate_left 2
    · intro w' hg
      go_simp
      with_reducible rfl
    · simp only [Act.put, List.setIfInBounds_toArray, List.set_cons_zero, List.set_cons_succ, i64_w, i32_w]
      rfl
    refine seq_pure (i := 11) (N := some 16) (v := ?_) (a' := ?_) rfl rfl (by rfl) (fun _ _ _ h => h) ?_ ?_ ?_
    rotate_left 2
    · intro w' hg
      go_simp
      with_reducible rfl
    · simp only [Act.put, List.setIfInBounds_toArray, List.set_cons_zero, List.set_cons_succ, i64_w, i32_w]
      rfl
    refine seq_pure (i := 12) (N := some 17) (v := ?_) (a' := ?_) rfl rfl (by rfl) (fun _ _ _ h => h) ?_ ?_ ?_
    rotate_left 2
    · intro w' hg
      go_simp
      with_reducible rfl
    · simp only [Act.put, List.setIfInBounds_toArray, List.set_cons_zero, List.set_cons_succ, i64_w, i32_w]
      rfl
    refine seq_pure (i := 13) (N := some 18) (v := ?_) (a' := ?_) rfl rfl (by rfl) (fun _ _ _ h => h) ?_ ?_ ?_
    rotate_left 2
    · intro w' hg
      go_simp
      with_reducible rfl
    · simp only [Act.put, List.setIfInBounds_toArray, List.set_cons_zero, List.set_cons_succ, i64_w, i32_w]
      rfl
    refine seq_pure (i := 14) (N := some 19) (v := ?_) (a' := ?_) rfl rfl (by rfl) (fun _ _ _ h => h) ?_ ?_ ?_
    rotate_left 2
    · intro w' hg
      go_simp
      with_reducible rfl
    · simp only [Act.put, List.setIfInBounds_toArray, List.set_cons_zero, List.set_cons_succ, i64_w, i32_w]
      rfl
    refine seq_pure (i := 15) (N := some 20) (v := ?_) (a' := ?_) rfl rfl (by rfl) (fun _ _ _ h => h) ?_ ?_ ?_
    rotate_left 2
    · intro w' hg
      go_simp
      with_reducible rfl
    · simp only [Act.put, List.setIfInBounds_toArray, List.set_cons_zero, List.set_cons_succ, i64_w, i32_w]
      rfl
    refine seq_call (i := 9) (N := some 14) rfl rfl Tryd.func55 (by kernel_rfl) rfl #[.int .u64 (born : Int), .int .u64 (now : Int)] (by rfl) rfl ?_ ?_
    · simp only [List.map_toArray, List.map_cons, List.map_nil]
      rfl
    refine (HSI w5).out.mono ?_
    rintro e w6 ⟨rfl, rfl⟩
    refine ⟨_, rfl, fun _ => Below.refl _ _, ?_⟩
    refine seq_norm (a' := ?_) ?_ ?_
    rotate_left
    · show Act.put _ (some 14) _ = _
      simp only [Act.put, List.setIfInBounds_toArray, List.set_cons_zero, List.set_cons_succ, i64_w, i32_w]
      rfl
    refine seq_pure (i := 16) (N := some 21) (v := ?_) (a' := ?_) rfl rfl (by rfl) (fun _ _ _ h => h) ?_ ?_ ?_
    rotate_left 2
    · intro w' hg
      go_simp
      with_reducible rfl
    · simp only [Act.put, List.setIfInBounds_toArray, List.set_cons_zero, List.set_cons_succ, i64_w, i32_w]
      rfl
    refine seq_pure (i := 17) (N := some 22) (v := ?_) (a' := ?_) rfl rfl (by rfl) (fun _ _ _ h => h) ?_ ?_ ?_
    rotate_left 2
    · intro w' hg
      go_simp
      with_reducible rfl
    · simp only [Act.put, List.setIfInBounds_toArray, List.set_cons_zero, List.set_cons_succ, i64_w, i32_w]
      rfl
    refine seq_pure (i := 18) (N := some 23) (v := ?_) (a' := ?_) rfl rfl (by rfl) (fun _ _ _ h => h) ?_ ?_ ?_
    rotate_left 2
    · intro w' hg
      go_simp
      with_reducible rfl
    · simp only [Act.put, List.setIfInBounds_toArray, List.set_cons_zero, List.set_cons_succ, i64_w, i32_w]
      rfl
    refine seq_pure (i := 19) (N := some 24) (v := ?_) (a' := ?_) rfl rfl (by rfl) (fun _ _ _ h => h) ?_ ?_ ?_
    rotate_left 2
    · intro w' hg
      go_simp
      with_reducible rfl
    · simp only [Act.put, List.setIfInBounds_toArray, List.set_cons_zero, List.set_cons_succ, i64_w, i32_w]
      rfl
    refine seq_pure (i := 20) (N := some 25) (v := ?_) (a' := ?_) rfl rfl (by rfl) (fun _ _ _ h => h) ?_ ?_ ?_
    rotate_left 2
    · intro w' hg
      go_simp
      with_reducible rfl
    · simp only [Act.put, List.setIfInBounds_toArray, List.set_cons_zero, List.set_cons_succ, i64_w, i32_w]
      rfl
    refine seq_pure (i := 21) (N := some 26) (v := ?_) (a' := ?_) rfl rfl (by rfl) (fun _ _ _ h => h) ?_ ?_ ?_
    rotate_left 2
    · intro w' hg
      go_simp
      with_reducible rfl
    · simp only [Act.put, List.setIfInBounds_toArray, List.set_cons_zero, List.set_cons_succ, i64_w, i32_w]
      rfl
    refine seq_pure (i := 22) (N := some 27) (v := ?_) (a' := ?_) rfl rfl (by rfl) (fun _ _ _ h => h) ?_ ?_ ?_
    rotate_left 2
    · intro w' hg
      go_simp
      with_reducible rfl
    · simp only [Act.put, List.setIfInBounds_toArray, List.set_cons_zero, List.set_cons_succ, i64_w, i32_w]
      rfl
    refine seq_pure (i := 23) (N := some 28) (v := ?_) (a' := ?_) rfl rfl (by rfl) (fun _ _ _ h => h) ?_ ?_ ?_
    rotate_left 2
    · intro w' hg
      go_simp
      with_reducible rfl
    · simp only [Act.put, List.setIfInBounds_toArray, List.set_cons_zero, List.set_cons_succ, i64_w, i32_w]
      rfl
    refine seq_pure (i := 24) (N := some 29) (v := ?_) (a' := ?_) rfl rfl (by rfl) (fun _ _ _ h => h) ?_ ?_ ?_
    rotate_left 2
    · intro w' hg
      go_simp
      with_reducible rfl
    · simp only [Act.put, List.setIfInBounds_toArray, List.set_cons_zero, List.set_cons_succ, i64_w, i32_w]
      rfl
    refine seq_pure (i := 25) (N := some 30) (v := ?_) (a' := ?_) rfl rfl (by rfl) (fun _ _ _ h => h) ?_ ?_ ?_
    rotate_left 2
    · intro w' hg
      go_simp
      with_reducible rfl
    · simp only [Act.put, List.setIfInBounds_toArray, List.set_cons_zero, List.set_cons_succ, i64_w, i32_w]
      rfl
    refine seq_pure (i := 26) (N := some 31) (v := ?_) (a' := ?_) rfl rfl (by rfl) (fun _ _ _ h => h) ?_ ?_ ?_
    rotate_left 2
    · intro w' hg
      go_simp
      with_reducible rfl
    · simp only [Act.put, List.setIfInBounds_toArray, List.set_cons_zero, List.set_cons_succ, i64_w, i32_w]
      rfl
    refine seq_pure (i := 27) (N := some 32) (v := ?_) (a' := ?_) rfl rfl (by rfl) (fun _ _ _ h => h) ?_ ?_ ?_
    rotate_left 2
    · intro w' hg
      go_simp
      with_reducible rfl
    · simp only [Act.put, List.setIfInBounds_toArray, List.set_cons_zero, List.set_cons_succ, i64_w, i32_w]
      rfl
    refine seq_pure (i := 28) (N := some 33) (v := ?_) (a' := ?_) rfl rfl (by rfl) (fun _ _ _ h => h) ?_ ?_ ?_
    rotate_left 2
    · intro w' hg
      go_simp
      with_reducible rfl
    · simp only [Act.put, List.setIfInBounds_toArray, List.set_cons_zero, List.set_cons_succ, i64_w, i32_w]
      rfl
    refine seq_pure (i := 29) (N := some 34) (v := ?_) (a' := ?_) rfl rfl (by rfl) (fun _ _ _ h => h) ?_ ?_ ?_
    rotate_left 2
    · intro w' hg
      go_simp
      with_reducible rfl
    · simp only [Act.put, List.setIfInBounds_toArray, List.set_cons_zero, List.set_cons_succ, i64_w, i32_w]
      rfl
    refine seq_pure (i := 30) (N := some 35) (v := ?_) (a' := ?_) rfl rfl (by rfl) (fun _ _ _ h => h) ?_ ?_ ?_
    rotate_left 2
    · intro w' hg
      go_simp
      with_reducible rfl
    · simp only [Act.put, List.setIfInBounds_toArray, List.set_cons_zero, List.set_cons_succ, i64_w, i32_w]
      rfl
    refine seq_pure (i := 31) (N := some 36) (v := ?_) (a' := ?_) rfl rfl (by rfl) (fun _ _ _ h => h) ?_ ?_ ?_
    rotate_left 2
    · intro w' hg
      go_simp
      with_reducible rfl
    · simp only [Act.put, List.setIfInBounds_toArray, List.set_cons_zero, List.set_cons_succ, i64_w, i32_w]
      rfl
    refine seq_pure (i := 32) (N := some 4) (v := ?_) (a' := ?_) rfl rfl (by rfl) (fun _ _ _ h => h) ?_ ?_ ?_
    rotate_left 2
    · intro w' hg
      go_simp
      with_reducible rfl
    · simp only [Act.put, List.setIfInBounds_toArray, List.set_cons_zero, List.set_cons_succ, i64_w, i32_w]
      rfl
    refine seq_done ?_
    go_wp2
    go_ret
    exact ⟨by first | rfl | simp, HBW.out⟩
  · rw [Bool.true_or]
    have ho' : decide ((x3 : Int) ≤ (y : Int)) = true := by simpa using ho
    clear c5 c8
    go_enter Tryd.func27, Tryd.ntmps27
    go_wp2_with fail
    refine up_start [] [(0, true), (1, true), (2, true), (3, true), (4, true), (5, true), (6, true), (7, true), (8, true), (10, true), (11, true), (12, true), (13, true), (14, true), (15, true), (9, false), (16, true), (17, true), (18, true), (19, true), (20, true), (21, true), (22, true), (23, true), (24, true), (25, true), (26, true), (27, true), (28, true), (29, true), (30, true), (31, true), (32, true)] (by kernel_rfl) rfl (by kernel_rfl) (by kernel_rfl) ?_
    have HBW0 := hd (below_drew (Below.refl w.heap.size w))
    have t3 := Grow.cells (show w.drew.cell? ⟨g, 3, none⟩ = _ from c3)
    have t7 := Grow.cells (show w.drew.cell? ⟨g, 7, none⟩ = _ from c7)
    generalize w.drew = w5 at HBW0 t3 t7 ⊢
    clear c3 c7
    have HBW := HBW0
    refine seq_pure (i := 0) (N := some 5) (v := ?_) (a' := ?_) rfl rfl (by rfl) (fun _ _ _ h => h) ?_ ?_ ?_
    rotate_left 2
    · intro w' hg
      go_simp
      with_reducible rfl
    · simp only [Act.put, List.setIfInBounds_toArray, List.set_cons_zero, List.set_cons_succ, i64_w, i32_w]
      rfl
    refine seq_pure (i := 1) (N := some 6) (v := ?_) (a' := ?_) rfl rfl (by rfl) (fun _ _ _ h => h) ?_ ?_ ?_
    rotate_left 2
    · intro w' hg
      go_simp
      with_reducible rfl
    · simp only [Act.put, List.setIfInBounds_toArray, List.set_cons_zero, List.set_cons_succ, i64_w, i32_w]
      rfl
    refine seq_pure (i := 2) (N := some 7) (v := ?_) (a' := ?_) rfl rfl (by rfl) (fun _ _ _ h => h) ?_ ?_ ?_
    rotate_left 2
    · intro w' hg
      go_simp
      with_reducible rfl
    · simp only [Act.put, List.setIfInBounds_toArray, List.set_cons_zero, List.set_cons_succ, i64_w, i32_w]
      rfl
    refine seq_pure (i := 3) (N := some 8) (v := ?_) (a' := ?_) rfl rfl (by rfl) (fun _ _ _ h => h) ?_ ?_ ?_
    rotate_left 2
    · intro w' hg
      go_simp
      with_reducible rfl
    · simp only [Act.put, List.setIfInBounds_toArray, List.set_cons_zero, List.set_cons_succ, i64_w, i32_w]
      rfl
    refine seq_pure (i := 4) (N := some 9) (v := ?_) (a' := ?_) rfl rfl (by rfl) (fun _ _ _ h => h) ?_ ?_ ?_
    rotate_left 2
    · intro w' hg
      go_simp
      with_reducible rfl
    · simp only [Act.put, List.setIfInBounds_toArray, List.set_cons_zero, List.set_cons_succ, i64_w, i32_w]
      rfl
    refine seq_pure (i := 5) (N := some 10) (v := ?_) (a' := ?_) rfl rfl (by rfl) (fun _ _ _ h => h) ?_ ?_ ?_
    rotate_left 2
    · intro w' hg
      go_simp
      with_reducible rfl
    · simp only [Act.put, List.setIfInBounds_toArray, List.set_cons_zero, List.set_cons_succ, i64_w, i32_w]
      rfl
    refine seq_pure (i := 6) (N := some 11) (v := ?_) (a' := ?_) rfl rfl (by rfl) (fun _ _ _ h => h) ?_ ?_ ?_
    rotate_left 2
    · intro w' hg
      go_simp
      with_reducible rfl
    · simp only [Act.put, List.setIfInBounds_toArray, List.set_cons_zero, List.set_cons_succ, i64_w, i32_w]
      rfl
    refine seq_pure (i := 7) (N := some 12) (v := ?_) (a' := ?_) rfl rfl (by rfl) (fun _ _ _ h => h) ?_ ?_ ?_
    rotate_left 2
    · intro w' hg
      go_simp
      with_reducible rfl
    · simp only [Act.put, List.setIfInBounds_toArray, List.set_cons_zero, List.set_cons_succ, i64_w, i32_w]
      rfl
    refine seq_pure (i := 8) (N := some 13) (v := ?_) (a' := ?_) rfl rfl (by rfl) (fun _ _ _ h => h) ?_ ?_ ?_
    rotate_left 2
    · intro w' hg
      go_simp
      with_reducible rfl
    · simp only [Act.put, List.setIfInBounds_toArray, List.set_cons_zero, List.set_cons_succ, i64_w, i32_w]
      rfl
    refine seq_pure (i := 10) (N := some 15) (v := ?_) (a' := ?_) rfl rfl (by rfl) (fun _ _ _ h => h) ?_ ?_ ?_
    rotate_left 2
    · intro w' hg
      go_simp
      with_reducible rfl
    · simp only [Act.put, List.setIfInBounds_toArray, List.set_cons_zero, List.set_cons_succ, i64_w, i32_w]
      rfl
    refine seq_pure (i := 11) (N := some 16) (v := ?_) (a' := ?_) rfl rfl (by rfl) (fun _ _ _ h => h) ?_ ?_ ?_
    rotate_left 2
    · intro w' hg
      go_simp
      with_reducible rfl
    · simp only [Act.put, List.setIfInBounds_toArray, List.set_cons_zero, List.set_cons_succ, i64_w, i32_w]
      rfl
    refine seq_pure (i := 12) (N := some 17) (v := ?_) (a' := ?_) rfl rfl (by rfl) (fun _ _ _ h => h) ?_ ?_ ?_
    rotate_left 2
    · intro w' hg
      go_simp
      with_reducible rfl
    · simp only [Act.put, List.setIfInBounds_toArray, List.set_cons_zero, List.set_cons_succ, i64_w, i32_w]
      rfl
    refine seq_pure (i := 13) (N := some 18) (v := ?_) (a' := ?_) rfl rfl (by rfl) (fun _ _ _ h => h) ?_ ?_ ?_
    rotate_left 2
    · intro w' hg
      go_simp
      with_reducible rfl
    · simp only [Act.put, List.setIfInBounds_toArray, List.set_cons_zero, List.set_cons_succ, i64_w, i32_w]
      rfl
    refine seq_pure (i := 14) (N := some 19) (v := ?_) (a' := ?_) rfl rfl (by rfl) (fun _ _ _ h => h) ?_ ?_ ?_
    rotate_left 2
    · intro w' hg
      go_simp
      with_reducible rfl
    · simp only [Act.put, List.setIfInBounds_toArray, List.set_cons_zero, List.set_cons_succ, i64_w, i32_w]
      rfl
    refine seq_pure (i := 15) (N := some 20) (v := ?_) (a' := ?_) rfl rfl (by rfl) (fun _ _ _ h => h) ?_ ?_ ?_
    rotate_left 2
    · intro w' hg
      go_simp
      with_reducible rfl
    · simp only [Act.put, List.setIfInBounds_toArray, List.set_cons_zero, List.set_cons_succ, i64_w, i32_w]
      rfl
    refine seq_call (i := 9) (N := some 14) rfl rfl Tryd.func55 (by kernel_rfl) rfl #[.int .u64 (born : Int), .int .u64 (now : Int)] (by rfl) rfl ?_ ?_
    · simp only [List.map_toArray, List.map_cons, List.map_nil]
      rfl
    refine (HSI w5).out.mono ?_
    rintro e w6 ⟨rfl, rfl⟩
    refine ⟨_, rfl, fun _ => Below.refl _ _, ?_⟩
    refine seq_norm (a' := ?_) ?_ ?_
    rotate_left
    · show Act.put _ (some 14) _ = _
      simp only [Act.put, List.setIfInBounds_toArray, List.set_cons_zero, List.set_cons_succ, i64_w, i32_w]
      rfl
    refine seq_pure (i := 16) (N := some 21) (v := ?_) (a' := ?_) rfl rfl (by rfl) (fun _ _ _ h => h) ?_ ?_ ?_
    rotate_left 2
    · intro w' hg
      go_simp
      with_reducible rfl
    · simp only [Act.put, List.setIfInBounds_toArray, List.set_cons_zero, List.set_cons_succ, i64_w, i32_w]
      rfl
    refine seq_pure (i := 17) (N := some 22) (v := ?_) (a' := ?_) rfl rfl (by rfl) (fun _ _ _ h => h) ?_ ?_ ?_
    rotate_left 2
    · intro w' hg
      go_simp
      with_reducible rfl
    · simp only [Act.put, List.setIfInBounds_toArray, List.set_cons_zero, List.set_cons_succ, i64_w, i32_w]
      rfl
    refine seq_pure (i := 18) (N := some 23) (v := ?_) (a' := ?_) rfl rfl (by rfl) (fun _ _ _ h => h) ?_ ?_ ?_
    rotate_left 2
    · intro w' hg
      go_simp
      with_reducible rfl
    · simp only [Act.put, List.setIfInBounds_toArray, List.set_cons_zero, List.set_cons_succ, i64_w, i32_w]
      rfl
    refine seq_off (i := 19) (N := some 24) (a' := ?_) rfl rfl (by rfl) (fun _ _ _ h => h) ?_ ?_
    rotate_left
    · simp only [Act.put, List.setIfInBounds_toArray, List.set_cons_zero, List.set_cons_succ, i64_w, i32_w]
      rfl
    refine seq_off (i := 20) (N := some 25) (a' := ?_) rfl rfl (by rfl) (fun _ _ _ h => h) ?_ ?_
    rotate_left
    · simp only [Act.put, List.setIfInBounds_toArray, List.set_cons_zero, List.set_cons_succ, i64_w, i32_w]
      rfl
    refine seq_off (i := 21) (N := some 26) (a' := ?_) rfl rfl (by rfl) (fun _ _ _ h => h) ?_ ?_
    rotate_left
    · simp only [Act.put, List.setIfInBounds_toArray, List.set_cons_zero, List.set_cons_succ, i64_w, i32_w]
      rfl
    refine seq_off (i := 22) (N := some 27) (a' := ?_) rfl rfl (by rfl) (fun _ _ _ h => h) ?_ ?_
    rotate_left
    · simp only [Act.put, List.setIfInBounds_toArray, List.set_cons_zero, List.set_cons_succ, i64_w, i32_w]
      rfl
    refine seq_off (i := 23) (N := some 28) (a' := ?_) rfl rfl (by rfl) (fun _ _ _ h => h) ?_ ?_
    rotate_left
    · simp only [Act.put, List.setIfInBounds_toArray, List.set_cons_zero, List.set_cons_succ, i64_w, i32_w]
      rfl
    refine seq_off (i := 24) (N := some 29) (a' := ?_) rfl rfl (by rfl) (fun _ _ _ h => h) ?_ ?_
    rotate_left
    · simp only [Act.put, List.setIfInBounds_toArray, List.set_cons_zero, List.set_cons_succ, i64_w, i32_w]
      rfl
    refine seq_off (i := 25) (N := some 30) (a' := ?_) rfl rfl (by rfl) (fun _ _ _ h => h) ?_ ?_
    rotate_left
    · simp only [Act.put, List.setIfInBounds_toArray, List.set_cons_zero, List.set_cons_succ, i64_w, i32_w]
      rfl
    refine seq_off (i := 26) (N := some 31) (a' := ?_) rfl rfl (by rfl) (fun _ _ _ h => h) ?_ ?_
    rotate_left
    · simp only [Act.put, List.setIfInBounds_toArray, List.set_cons_zero, List.set_cons_succ, i64_w, i32_w]
      rfl
    refine seq_off (i := 27) (N := some 32) (a' := ?_) rfl rfl (by rfl) (fun _ _ _ h => h) ?_ ?_
    rotate_left
    · simp only [Act.put, List.setIfInBounds_toArray, List.set_cons_zero, List.set_cons_succ, i64_w, i32_w]
      rfl
    refine seq_off (i := 28) (N := some 33) (a' := ?_) rfl rfl (by rfl) (fun _ _ _ h => h) ?_ ?_
    rotate_left
    · simp only [Act.put, List.setIfInBounds_toArray, List.set_cons_zero, List.set_cons_succ, i64_w, i32_w]
      rfl
    refine seq_off (i := 29) (N := some 34) (a' := ?_) rfl rfl (by rfl) (fun _ _ _ h => h) ?_ ?_
    rotate_left
    · simp only [Act.put, List.setIfInBounds_toArray, List.set_cons_zero, List.set_cons_succ, i64_w, i32_w]
      rfl
    refine seq_off (i := 30) (N := some 35) (a' := ?_) rfl rfl (by rfl) (fun _ _ _ h => h) ?_ ?_
    rotate_left
    · simp only [Act.put, List.setIfInBounds_toArray, List.set_cons_zero, List.set_cons_succ, i64_w, i32_w]
      rfl
    refine seq_pure (i := 31) (N := some 36) (v := ?_) (a' := ?_) rfl rfl (by rfl) (fun _ _ _ h => h) ?_ ?_ ?_
    rotate_left 2
    · intro w' hg
      go_simp
      with_reducible rfl
    · simp only [Act.put, List.setIfInBounds_toArray, List.set_cons_zero, List.set_cons_succ, i64_w, i32_w]
      rfl
    refine seq_pure (i := 32) (N := some 4) (v := ?_) (a' := ?_) rfl rfl (by rfl) (fun _ _ _ h => h) ?_ ?_ ?_
    rotate_left 2
    · intro w' hg
      go_simp
      with_reducible rfl
    · simp only [Act.put, List.setIfInBounds_toArray, List.set_cons_zero, List.set_cons_succ, i64_w, i32_w]
      rfl
    refine seq_done ?_
    go_wp2
    go_ret
    exact ⟨by first | rfl | simp, HBW.out⟩
end
end Go.Proofs.YtlgdplodglchaaaDoor
