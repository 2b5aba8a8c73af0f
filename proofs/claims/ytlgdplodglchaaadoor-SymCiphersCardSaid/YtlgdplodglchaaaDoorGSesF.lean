/- Texts put together: SesW SymU WinW SesN. -/
import Derived.Test.YtlgdplodglchaaaDoorProg
import Derived.Test.YtlgdplodglchaaaDoorGSesP
import Derived.Test.YtlgdplodglchaaaDoorGLib
import Derived.Deep.QuietTactic
import Derived.BigQuiet
import Derived.Test.YtlgdplodglchaaaDoorGAead
import Derived.Test.YtlgdplodglchaaaDoorGWords
import Derived.OwnWalk
/- The walks through session.since, Wait, Start. -/
set_option linter.unusedVariables false
set_option linter.unusedSimpArgs false
namespace Go.Proofs.YtlgdplodglchaaaDoor
open Go.RowKit Go.Proofs.YtlgdplodglchaaaDoorW.PrintWords Go.Proofs.YtlgdplodglchaaaDoorW.PrintLast Go.Proofs.YtlgdplodglchaaaDoorW.PrintMore
attribute [local go_sem] max2_int min2_int max_two min_two
end Go.Proofs.YtlgdplodglchaaaDoor
/- The walks through sym.nonce, Cipher.use, Seal, Open; slices.Clone. -/
set_option linter.unusedVariables false
set_option linter.unusedSimpArgs false
namespace Go.Proofs.YtlgdplodglchaaaDoor
open Go.RowKit Go.Proofs.YtlgdplodglchaaaDoorW.PrintWords Go.Proofs.YtlgdplodglchaaaDoorW.PrintLast Go.Proofs.YtlgdplodglchaaaDoorW.PrintMore
section
variable {P : Program} {ops : Array Oper} {rest : List Oper} {o : Oper} {a : Act} {Kc : Act → World → Prop} {Q : Exit → Act → World → Prop}
/-- make([]byte, m), in whatever world. -/
theorem op_makeB_step {W : World} (N : Tmp) (hd : o.dst = some N) (x y : Operand) (ho : o.op = .makeSlice 40 x y) (hw : Region.wanted o (yielded ops a.tmps) = true) (m : Nat) (hx : a.eval x = .int .i64 (m : Int)) (hy : a.eval y = .int .i64 (m : Int)) (h64 : m ≤ 2000)
    (h : ∀ A c w1, OwnK .u8 5 W.heap.size w1 (.slice A m c) (List.replicate m 0) → Below W.heap.size W w1 → Kc (a.put o.dst (.slice A m c)) w1) :
    if Region.wanted o (yielded ops a.tmps) = true then Oper.wp Tryd.prog o a W Kc Q else Kc (a.put o.dst undef) W :=
  Kd.R_make_step (Kd.int .u8) (w0 := W) W.heap.size 5 hw hd 40 x y ho (m : Int) hx hy Tryd.underlying40 (.int .u8 0) 1 Tryd.infoU8 rfl (Nat.zero_lt_one) (by decide) 0 (okp := fun _ => True) (ok := fun _ => True) rfl (fun _ _ => trivial) trivial (by omega) (by rw [Int.toNat_natCast]; omega) (Below.refl _ _) (Nat.le_refl _) (fun v1 w1 hr hb _ _ => by
    rw [Int.toNat_natCast] at hr
    have h2 : OwnK .u8 5 W.heap.size w1 v1 (List.replicate m 0) := by
      unfold OwnK
      rw [show ints (List.replicate m 0) = List.replicate m (0 : Int) by simp [ints]]
      exact hr
    obtain ⟨A, c, rfl, _, _⟩ := h2.slice
    rw [List.length_replicate] at *
    exact h A c w1 h2 hb)
/-- A call of a function that lies in a slot. -/
theorem goesV_ {oi : Oper} {N : Option Tmp} {a : Act} {w : World} {K : Act → World → Prop} {f : FuncId} {fn : Func} {x : Operand} {as1 : Array Operand} {ts : Array TypeId} (hf : P.funcs[f]? = some fn) (hname : (fn.name == "runtime.NumGoroutine") = false) (hb : fn.body.isSome = true) (args : Array Value)
    (hw : Region.wanted oi (yielded ops a.tmps) = true) (hN : oi.dst = N) (hop : oi.op = .call { callee := .value x, args := as1, argTypes := ts }) (hx : a.eval x = .func (.func f) #[] #[]) (hargs : as1.map a.eval = args)
    (h : Calls P f args w fun e w' => ∃ v, e = .returned v ∧ K (a.put N v) w') : if Region.wanted oi (yielded ops a.tmps) = true then Oper.wp P oi a w K Q else K (a.put N undef) w := by
  refine call_ f args hw hN ?_ h
  have he := enters_ hf hname hb args w
  unfold execOp
  simp [hop, resolve, Deferred.ofValue, invoke, hx, hargs, he]
theorem seq_callV {ds : List Nat} {i : Nat} {oi : Oper} {N : Option Tmp} {s : List (Nat × Bool)} {a : Act} {w : World} {f : FuncId} {fn : Func} {x : Operand} {as1 : Array Operand} {ts : Array TypeId} (hi : ops[i]? = some oi) (hN : oi.dst = N) (hf : P.funcs[f]? = some fn) (hname : (fn.name == "runtime.NumGoroutine") = false) (hb : fn.body.isSome = true) (args : Array Value)
    (hw : Region.wanted oi (yielded ops a.tmps) = true) (hop : oi.op = .call { callee := .value x, args := as1, argTypes := ts }) (hx : a.eval x = .func (.func f) #[] #[]) (hargs : as1.map a.eval = args)
    (h : Calls P f args w fun e w' => ∃ v, e = .returned v ∧ (i ∉ ds → Grow w w') ∧ wpSeq P ops Q ds s (a.put N v) w') : wpSeq P ops Q ds ((i, false) :: s) a w :=
  wpOp_step hi (fun K hK => by
    subst hN
    refine goesV_ hf hname hb args hw rfl hop hx hargs (h.mono ?_)
    rintro e w' ⟨v, rfl, hg, hs⟩
    exact ⟨v, rfl, hK _ _ ⟨hg, hs⟩⟩)
theorem uq_makeB {ds : List Nat} {R : World → World → Prop} {C : Act → World → Prop} {i : Nat} {W : World} {N : Tmp} (hi : ops[i]? = some o) (hd : o.dst = some N) (x y : Operand) (ho : o.op = .makeSlice 40 x y) (hw : Region.wanted o (yielded ops a.tmps) = true) (m : Nat) (hx : a.eval x = .int .i64 (m : Int)) (hy : a.eval y = .int .i64 (m : Int)) (h64 : m ≤ 2000)
    (h : ∀ A c w1, OwnK .u8 5 W.heap.size w1 (.slice A m c) (List.replicate m 0) → Below W.heap.size W w1 → ((i ∉ ds → Grow W w1) ∧ R W w1) ∧ C (a.put (some N) (.slice A m c)) w1) : wpOp Tryd.prog ops Q i (fun a' w' => ((i ∉ ds → Grow W w') ∧ R W w') ∧ C a' w') a W :=
  wpOp_step hi (fun K hK => op_makeB_step N hd x y ho hw m hx hy h64 (fun A c w1 h1 h2 => by
    rw [hd]
    exact hK _ _ (h A c w1 h1 h2)))
end
/-- A cell that is stored as it is. -/
theorem setCell_self {w : World} {p : Addr} {v : Value} (h : w.cell? p = some v) : w.setCell p v = w := by
  unfold World.cell? at h
  unfold World.setCell
  have hh : (w.heap.modify p.block fun
      | .cells c elem frozen => .cells (if p.spot.isSome then c else c.setIfInBounds p.off v) elem frozen
      | o => o) = w.heap := by
    apply Array.ext (by simp)
    intro i h1 h2
    rw [Array.getElem_modify]
    split
    · rename_i e
      subst e
      rw [Array.getElem?_eq_getElem h2] at h
      generalize w.heap[p.block] = o at h ⊢
      cases o with
      | cells c t f =>
        simp only at h ⊢
        split at h
        · cases h
        · rename_i hs
          rw [if_neg hs]
          congr 1
          apply Array.ext (by simp)
          intro j g1 g2
          rw [Array.getElem_setIfInBounds]
          split
          · rename_i e
            subst e
            rw [Array.getElem?_eq_getElem g2] at h
            injection h with h
            exact h.symm
          · rfl
      | _ => rfl
    · rfl
  exact congrArg (fun h => { w with heap := h }) hh
def nonceN (x : Nat) : List Nat := List.replicate 4 0 ++ storeN x 8
theorem nonceN_length (x : Nat) : (nonceN x).length = 12 := by rw [nonceN, List.length_append, List.length_replicate, storeN_length]
theorem nonceN_ok (x : Nat) : BytesOK (nonceN x) := BytesOK.append (BytesOK.replicate (by decide)) (storeN_ok _ _)
theorem own_bytes4 {e base n c : Nat} {w : World} {A : Option Addr} (h : OwnK .u8 e base w (.slice A n c) (List.replicate n 0)) : Bytes w A n c (List.replicate n 0) := ⟨h.row.2.2, List.length_replicate .., by have := h.row.2.1; rw [List.length_replicate] at this; exact this, BytesOK.replicate (by decide)⟩
theorem own_bytes8 {e base c x : Nat} {w : World} {A : Option Addr} (h : OwnK .u8 e base w (.slice A 8 c) (storeN x 8)) : Bytes w A 8 c (storeN x 8) := ⟨h.row.2.2, storeN_length _ _, by have := h.row.2.1; rw [storeN_length] at this; exact this, storeN_ok _ _⟩
set_option maxRecDepth 100000 in
theorem nonce_calls {x : Nat} {w : World} (hx : x < 2 ^ 64) :
    Calls Tryd.prog 71 #[.int .u64 (x : Int)] w fun e w' => ∃ v, e = .returned v ∧ OwnK .u8 5 w.heap.size w' v (nonceN x) ∧ Below w.heap.size w w' := by
  go_enter Tryd.func71, Tryd.ntmps71
  go_wp2_with fail
  refine uq_start (fun _ _ => True) [] 6 rfl (by kernel_rfl) ?_
  have hb0 := below_drew (Below.refl w.heap.size w)
  generalize w.drew = w0 at hb0 ⊢
  have HB0 := hd hb0
  clear hb0
  refine uq_pure Keeps.any (i := 1) (N := some 4) (v := ?_) (a' := ?_) (by kernel_rfl) (by kernel_rfl) rfl rfl (by rfl) (fun _ _ _ h => h) ?_ ?_ ?_
  rotate_left 2
  · intro w' hg
    go_simp
    with_reducible rfl
  · simp only [Act.put, List.setIfInBounds_toArray, List.set_cons_zero, List.set_cons_succ, i64_w, i32_w]
    rfl
  refine uq_two (i := 0) (j := 2) (by kernel_rfl) ?_ ?_
  · refine uq_makeB (R := fun _ _ => True) (W := w0) (i := 0) (N := 3) rfl rfl (.const (.int .i64 4)) (.const (.int .i64 4)) rfl (by rfl) 4 rfl rfl (by decide) ?_
    intro Am cm w1 hom hbm
    refine ⟨⟨fun _ => hbm, trivial⟩, ?_⟩
    refine uq_norm (a' := ?_) ?_ ?_
    rotate_left
    · simp only [Act.put, List.setIfInBounds_toArray, List.set_cons_zero, List.set_cons_succ, i64_w, i32_w]
      rfl
    refine uq_one (i := 2) (by kernel_rfl) ?_
    refine uq_call (R := fun _ _ => True) (i := 2) (N := some 5) rfl rfl Tryd.func88 (by kernel_rfl) rfl #[.int .u64 (x : Int), .int .i64 8] (by rfl) rfl ?_ ?_
    · simp only [List.map_toArray, List.map_cons, List.map_nil]
      rfl
    refine (store_calls x 8 w1 rfl hx).mono ?_
    rintro e w2 ⟨vs, rfl, hos, hbs⟩
    replace hos : OwnK .u8 5 w1.heap.size w2 vs (storeN x 8) := hos
    obtain ⟨As, cs, rfl, _⟩ := hos.bytes 8 (storeN_length _ _) (storeN_ok _ _)
    refine ⟨_, rfl, ⟨fun _ => hbs, trivial⟩, ?_⟩
    refine uq_norm (a' := ?_) ?_ ?_
    rotate_left
    · show Act.put _ (some 5) _ = _
      simp only [Act.put, List.setIfInBounds_toArray, List.set_cons_zero, List.set_cons_succ, i64_w, i32_w]
      rfl
    have HB12 := hd (below_seq hbm hbs)
    have HM := hd ((own_bytes4 hom).below hbs)
    have HS := hd (own_bytes8 hos)
    clear hom hos hbm hbs
    have hB := hd (below_seq HB0.out HB12.out)
    have hal := below_alloc (Below.refl w2.heap.size w2) (.cells #[.slice Am 4 cm, .slice As 8 cs] 40)
    refine uq_one (i := 3) (by kernel_rfl) ?_
    refine uq_value (R := fun _ _ => True) (i := 3) (N := some 6) (v := .slice (some ⟨w2.heap.size, 0, none⟩) 2 2) (a' := ?_) (w1 := w2.alloc (.cells #[.slice Am 4 cm, .slice As 8 cs] 40)) rfl rfl (by rfl) ?_ ⟨fun _ => hal, trivial⟩ ?_ ?_
    rotate_left
    · go_simp
    · simp only [Act.put, List.setIfInBounds_toArray, List.set_cons_zero, List.set_cons_succ, i64_w, i32_w]
      rfl
    have HR2 := hd (Rows2.new (t := 40) (g := w2.heap.size) (vs := [.slice Am 4 cm, .slice As 8 cs]) (L := [List.replicate 4 0, storeN x 8]) ⟨⟨_, _, _, rfl, HM.out⟩, ⟨_, _, _, rfl, HS.out⟩, trivial⟩ rfl rfl (by simp))
    have HAL := hd hal
    clear hal
    refine uq_one (i := 4) (by kernel_rfl) ?_
    refine uq_call (R := fun _ _ => True) (i := 4) (N := some 7) rfl rfl Tryd.func66 (by kernel_rfl) rfl #[.slice (some ⟨w2.heap.size, 0, none⟩) 2 2] (by rfl) rfl ?_ ?_
    · simp only [List.map_toArray, List.map_cons, List.map_nil]
      rfl
    refine (join_calls HR2.out rfl (Nat.le_refl 2) (by simp [storeN_length])).mono ?_
    rintro e w4 ⟨vj, rfl, hoj, hbj⟩
    refine ⟨_, rfl, ⟨fun _ => hbj, trivial⟩, ?_⟩
    have hfl : ([List.replicate 4 0, storeN x 8] : List (List Nat)).flatten = nonceN x := by simp [nonceN]
    rw [hfl] at hoj
    have HOJ := hd hoj
    have HBJ := hd hbj
    clear hoj hbj hfl
    refine uq_norm (a' := ?_) ?_ ?_
    rotate_left
    · show Act.put _ (some 7) _ = _
      simp only [Act.put, List.setIfInBounds_toArray, List.set_cons_zero, List.set_cons_succ, i64_w, i32_w]
      rfl
    refine uq_pure Keeps.any (i := 5) (N := some 2) (v := ?_) (a' := ?_) (by kernel_rfl) (by kernel_rfl) rfl rfl (by rfl) (fun _ _ _ h => h) ?_ ?_ ?_
    rotate_left 2
    · intro w' hg
      go_simp
      with_reducible rfl
    · simp only [Act.put, List.setIfInBounds_toArray, List.set_cons_zero, List.set_cons_succ, i64_w, i32_w]
      rfl
    refine uq_end (by kernel_rfl) ?_
    go_wp2
    go_ret
    exact ⟨vj, rfl, HOJ.out.lower (Nat.le_trans HB0.out.size (Nat.le_trans HB12.out.size HAL.out.size)), below_seq hB.out (below_seq HAL.out HBJ.out)⟩
  · refine uq_call (R := fun _ _ => True) (i := 2) (N := some 5) rfl rfl Tryd.func88 (by kernel_rfl) rfl #[.int .u64 (x : Int), .int .i64 8] (by rfl) rfl ?_ ?_
    · simp only [List.map_toArray, List.map_cons, List.map_nil]
      rfl
    refine (store_calls x 8 w0 rfl hx).mono ?_
    rintro e w1 ⟨vs, rfl, hos, hbs⟩
    replace hos : OwnK .u8 5 w0.heap.size w1 vs (storeN x 8) := hos
    obtain ⟨As, cs, rfl, _⟩ := hos.bytes 8 (storeN_length _ _) (storeN_ok _ _)
    refine ⟨_, rfl, ⟨fun _ => hbs, trivial⟩, ?_⟩
    refine uq_norm (a' := ?_) ?_ ?_
    rotate_left
    · show Act.put _ (some 5) _ = _
      simp only [Act.put, List.setIfInBounds_toArray, List.set_cons_zero, List.set_cons_succ, i64_w, i32_w]
      rfl
    refine uq_one (i := 0) (by kernel_rfl) ?_
    refine uq_makeB (R := fun _ _ => True) (W := w1) (i := 0) (N := 3) rfl rfl (.const (.int .i64 4)) (.const (.int .i64 4)) rfl (by rfl) 4 rfl rfl (by decide) ?_
    intro Am cm w2 hom hbm
    refine ⟨⟨fun _ => hbm, trivial⟩, ?_⟩
    refine uq_norm (a' := ?_) ?_ ?_
    rotate_left
    · simp only [Act.put, List.setIfInBounds_toArray, List.set_cons_zero, List.set_cons_succ, i64_w, i32_w]
      rfl
    have HB12 := hd (below_seq hbs hbm)
    have HM := hd (own_bytes4 hom)
    have HS := hd ((own_bytes8 hos).below hbm)
    clear hom hos hbm hbs
    have hB := hd (below_seq HB0.out HB12.out)
    have hal := below_alloc (Below.refl w2.heap.size w2) (.cells #[.slice Am 4 cm, .slice As 8 cs] 40)
    refine uq_one (i := 3) (by kernel_rfl) ?_
    refine uq_value (R := fun _ _ => True) (i := 3) (N := some 6) (v := .slice (some ⟨w2.heap.size, 0, none⟩) 2 2) (a' := ?_) (w1 := w2.alloc (.cells #[.slice Am 4 cm, .slice As 8 cs] 40)) rfl rfl (by rfl) ?_ ⟨fun _ => hal, trivial⟩ ?_ ?_
    rotate_left
    · go_simp
    · simp only [Act.put, List.setIfInBounds_toArray, List.set_cons_zero, List.set_cons_succ, i64_w, i32_w]
      rfl
    have HR2 := hd (Rows2.new (t := 40) (g := w2.heap.size) (vs := [.slice Am 4 cm, .slice As 8 cs]) (L := [List.replicate 4 0, storeN x 8]) ⟨⟨_, _, _, rfl, HM.out⟩, ⟨_, _, _, rfl, HS.out⟩, trivial⟩ rfl rfl (by simp))
    have HAL := hd hal
    clear hal
    refine uq_one (i := 4) (by kernel_rfl) ?_
    refine uq_call (R := fun _ _ => True) (i := 4) (N := some 7) rfl rfl Tryd.func66 (by kernel_rfl) rfl #[.slice (some ⟨w2.heap.size, 0, none⟩) 2 2] (by rfl) rfl ?_ ?_
    · simp only [List.map_toArray, List.map_cons, List.map_nil]
      rfl
    refine (join_calls HR2.out rfl (Nat.le_refl 2) (by simp [storeN_length])).mono ?_
    rintro e w4 ⟨vj, rfl, hoj, hbj⟩
    refine ⟨_, rfl, ⟨fun _ => hbj, trivial⟩, ?_⟩
    have hfl : ([List.replicate 4 0, storeN x 8] : List (List Nat)).flatten = nonceN x := by simp [nonceN]
    rw [hfl] at hoj
    have HOJ := hd hoj
    have HBJ := hd hbj
    clear hoj hbj hfl
    refine uq_norm (a' := ?_) ?_ ?_
    rotate_left
    · show Act.put _ (some 7) _ = _
      simp only [Act.put, List.setIfInBounds_toArray, List.set_cons_zero, List.set_cons_succ, i64_w, i32_w]
      rfl
    refine uq_pure Keeps.any (i := 5) (N := some 2) (v := ?_) (a' := ?_) (by kernel_rfl) (by kernel_rfl) rfl rfl (by rfl) (fun _ _ _ h => h) ?_ ?_ ?_
    rotate_left 2
    · intro w' hg
      go_simp
      with_reducible rfl
    · simp only [Act.put, List.setIfInBounds_toArray, List.set_cons_zero, List.set_cons_succ, i64_w, i32_w]
      rfl
    refine uq_end (by kernel_rfl) ?_
    go_wp2
    go_ret
    exact ⟨vj, rfl, HOJ.out.lower (Nat.le_trans HB0.out.size (Nat.le_trans HB12.out.size HAL.out.size)), below_seq hB.out (below_seq HAL.out HBJ.out)⟩
/-- slices.Clone, of none too. -/
theorem clone_any {A : Option Addr} {n c : Nat} {l : List Nat} {w : World} (hb : Bytes w A n c l) (hn : n ≤ 100000000) :
    Calls Tryd.prog 56 #[.slice A n c] w fun e w' => ∃ v, e = .returned v ∧ OwnK .u8 5 w.heap.size w' v l ∧ Below w.heap.size w w' := by
  cases A with
  | none =>
    have hl : l = [] := by
      have h1 := hb.1.at_ 0
      rcases l with _ | ⟨x, l⟩
      · rfl
      · obtain ⟨ad, _, h2, _⟩ := h1 (by simp)
        cases h2
    subst hl
    have hn0 : n = 0 := hb.2.1.symm
    subst hn0
    have hne := fun w => nil_eq none 0 c w
    go_enter Tryd.func56, Tryd.ntmps56
    go_wp2
    go_ret
    exact ⟨_, rfl, OwnK.nil _ _ _ _, Below.refl _ _⟩
  | some ad =>
    have hne := fun w => nil_eq (some ad) n c w
    have HB := hd hb
    have hlit := OwnK.lit (k := .u8) (e := 5) w (cs := #[]) [] rfl (by decide)
    have hal := below_alloc (Below.refl w.heap.size w) (.cells #[] 5)
    have HL := hd hlit
    have HR := hd (hb.below hal).1
    have HH := hd (show (([] : List Nat).length + l.length) * 1 ≤ 140737488355328 by rw [hb.2.1]; simp; omega)
    clear hb hlit
    go_enter Tryd.func56, Tryd.ntmps56
    go_wp2_with ((with_reducible refine gate_dst (N := 7) rfl ?_); at_builtin; refine op_append_row (k := .u8) (w0 := w) 7 rfl w.heap.size 5 40 (.tmp 5) (.tmp 6) rfl rfl Tryd.underlying40 Tryd.infoU8 (by decide) (.slice (some ⟨w.heap.size, 0, none⟩) 0 0) [] l (some ad) n c rfl rfl HB.out.2.1.symm HL.out HR.out hal (by simp) HH.out ?_; intro v1 w1 ho1 hb1 hg1; rw [List.nil_append] at ho1)
    go_ret
    exact ⟨v1, rfl, ho1, hb1⟩
/-- What use makes of a cipher's key and number: what comes out, the error, the number then. -/
def useC (key : List Nat) (N : Nat) (b : List Nat) (r : List Nat × Nat) : List Nat × Nat × Nat :=
  if key.length = 0 then (b, 0, N) else if key.length ≠ 32 then ([], 1, N) else if N = 18446744073709551615 then ([], 31, N) else if r.2 ≠ 0 then ([], r.2, N) else (r.1, 0, N + 1)
theorem useC_lt {key : List Nat} {N : Nat} (b : List Nat) (r : List Nat × Nat) (h : N < 2 ^ 64) : (useC key N b r).2.2 < 2 ^ 64 := by
  unfold useC
  split
  · exact h
  · split
    · exact h
    · split
      · exact h
      · split
        · exact h
        · show N + 1 < 2 ^ 64
          omega
theorem wrap_u64_succ {N : Nat} (h : N < 2 ^ 64) (hne : N ≠ 18446744073709551615) : IntKind.u64.wrap ((N : Int) + 1) = ((N + 1 : Nat) : Int) := wrapN_u (k := .u64) rfl (show N + 1 < 2 ^ 64 by omega)
def UsePost (g o : Nat) (w : World) (r : List Nat × Nat × Nat) (e : Ending) (w' : World) : Prop :=
  ∃ v w1, e = .returned (.tuple #[v, .int .i64 (r.2.1 : Nat)]) ∧ w' = w1.setCell ⟨g, o + 1, none⟩ (.int .u64 (r.2.2 : Nat)) ∧ Below w.heap.size w w1 ∧ OwnK .u8 5 w.heap.size w' v r.1
theorem OwnK.setOut {k : IntKind} {e base : Nat} {w : World} {v : Value} {l : List Nat} (h : OwnK k e base w v l) {p : Addr} (hp : p.block < base) (x : Value) : OwnK k e base (w.setCell p x) v l :=
  h.step (fun g hg _ => Below.heap_setCell w p x g (by omega))
section
variable {g o F T : Nat} {cs : Array Value} {fn : Func} {A C D : Option Addr} {n c nc cc nd cd N : Nat} {key ad b : List Nat} {w : World} {r : List Nat × Nat}
set_option maxHeartbeats 1000000 in
set_option maxRecDepth 100000 in
theorem use_calls (hf : Tryd.prog.funcs[F]? = some fn) (hname : (fn.name == "runtime.NumGoroutine") = false) (hbd : fn.body.isSome = true) (hblk : w.heap[g]? = some (.cells cs T (0, 0))) (e0 : cs[o]? = some (.slice A n c)) (e1 : cs[o + 1]? = some (.int .u64 (N : Int)))
    (hk : Bytes w A n c key) (hN : N < 2 ^ 64) (hb : Bytes w D nd cd b) (hnd : nd ≤ 100000000)
    (hF : n = 32 → ∀ w1 B cb, Below w.heap.size w w1 → Bytes w1 B 12 cb (nonceN N) → Calls Tryd.prog F #[.slice A n c, .slice B 12 cb, .slice C nc cc, .slice D nd cd] w1 fun e w' => ∃ v, e = .returned (.tuple #[v, .int .i64 (r.2 : Nat)]) ∧ OwnK .u8 5 w1.heap.size w' v r.1 ∧ Below w1.heap.size w1 w') :
    Calls Tryd.prog 74 #[.pointer (some ⟨g, o, none⟩), .func (.func F) #[] #[], .slice C nc cc, .slice D nd cd] w (UsePost g o w (useC key N b r)) := by
  have hkl := hk.2.1
  have c0 : w.cell? ⟨g, o, none⟩ = some (.slice A n c) := by rw [blk_cell hblk]; exact e0
  have c1 : w.cell? ⟨g, o + 1, none⟩ = some (.int .u64 (N : Int)) := by rw [blk_cell hblk]; exact e1
  have HBLK := hd hblk
  clear hblk e0 e1
  have HSELF := hd (setCell_self c1)
  have HGLT := hd (blk_lt HBLK.out)
  by_cases h0 : n = 0
  · subst h0
    have hu : useC key N b r = (b, 0, N) := by rw [useC, if_pos hkl]
    rw [hu]
    have HCL := hd (clone_any hb hnd)
    have HC1 := hd c1
    clear hu hkl hk hF c1 hb
    go_enter Tryd.func74, Tryd.ntmps74
    go_wp2_with fail
    refine HCL.out.mono ?_
    rintro e w1 ⟨v, rfl, ho, hb1⟩
    go_wp2
    go_ret2
    have hc := pw_cell_below hb1 HC1.out
    exact ⟨v, w1, rfl, (setCell_self hc).symm, hb1, ho⟩
  by_cases h32 : ¬ n = 32
  · have hu : useC key N b r = ([], 1, N) := by rw [useC, if_neg (by omega), if_pos (by omega)]
    rw [hu]
    have n0 : ((n : Int) == 0) = false := by simp; omega
    have n1 : ((n : Int) != 32) = true := by simp; omega
    have n0' : decide ((n : Int) = 0) = false := by simp; omega
    have n1' : decide ((n : Int) = 32) = false := by simp; omega
    clear hu hkl hk hF h0 h32 hb
    go_enter Tryd.func74, Tryd.ntmps74
    go_wp2
    go_ret2
    exact ⟨_, w, rfl, HSELF.out.symm, Below.refl _ _, OwnK.nil _ _ _ _⟩
  obtain rfl : n = 32 := by omega
  by_cases hM : N = 18446744073709551615
  · subst hM
    have hu : useC key 18446744073709551615 b r = ([], 31, 18446744073709551615) := by rw [useC, if_neg (by omega), if_neg (by omega), if_pos rfl]
    rw [hu]
    clear hu hkl hk hF h0 hb
    go_enter Tryd.func74, Tryd.ntmps74
    go_wp2
    go_ret2
    exact ⟨_, w, rfl, HSELF.out.symm, Below.refl _ _, OwnK.nil _ _ _ _⟩
  have n3 : ((N : Int) == 18446744073709551615) = false := by simp; omega
  have n3' : decide ((N : Int) = 18446744073709551615) = false := by simp; omega
  have n3'' : decide (N = 18446744073709551615) = false := by simp; omega
  have HW := hd (wrap_u64_succ hN hM)
  have HU := hd (show useC key N b r = if r.2 ≠ 0 then ([], r.2, N) else (r.1, 0, N + 1) by rw [useC, if_neg (by omega), if_neg (by omega), if_neg hM])
  have HNO := hd (nonce_calls (w := w.drew) hN)
  have HF := hd (hF rfl)
  have HC1 := hd c1
  have HN := hd hN
  clear hkl hk hF h0 hM hN hb
  go_enter Tryd.func74, Tryd.ntmps74
  go_wp2_with fail
  refine up_start [] [(0, true), (1, true), (2, true), (3, true), (4, true), (5, true), (6, true), (7, true), (8, true), (10, true), (11, true), (9, false), (12, false), (13, true), (14, true), (15, true), (16, true), (17, true)] (by kernel_rfl) rfl (by kernel_rfl) (by kernel_rfl) ?_
  have HBW := hd (below_drew (Below.refl w.heap.size w))
  have t0 := Grow.cells (show w.drew.cell? ⟨g, o, none⟩ = _ from c0)
  have t1 := Grow.cells (show w.drew.cell? ⟨g, o + 1, none⟩ = _ from c1)
  generalize w.drew = w5 at t0 t1 HBW HNO ⊢
  clear c0 c1
  refine seq_pure (i := 0) (N := some 38) (v := ?_) (a' := ?_) rfl rfl (by rfl) (fun _ _ _ h => h) ?_ ?_ ?_
  rotate_left 2
  · intro w' hg
    go_simp
    with_reducible rfl
  · simp only [Act.put, List.setIfInBounds_toArray, List.set_cons_zero, List.set_cons_succ, i64_w, i32_w]
    rfl
  refine seq_pure (i := 1) (N := some 39) (v := ?_) (a' := ?_) rfl rfl (by rfl) (fun _ _ _ h => h) ?_ ?_ ?_
  rotate_left 2
  · intro w' hg
    go_simp
    with_reducible rfl
  · simp only [Act.put, List.setIfInBounds_toArray, List.set_cons_zero, List.set_cons_succ, i64_w, i32_w]
    rfl
  refine seq_pure (i := 2) (N := some 40) (v := ?_) (a' := ?_) rfl rfl (by rfl) (fun _ _ _ h => h) ?_ ?_ ?_
  rotate_left 2
  · intro w' hg
    go_simp
    with_reducible rfl
  · simp only [Act.put, List.setIfInBounds_toArray, List.set_cons_zero, List.set_cons_succ, i64_w, i32_w]
    rfl
  refine seq_pure (i := 3) (N := some 41) (v := ?_) (a' := ?_) rfl rfl (by rfl) (fun _ _ _ h => h) ?_ ?_ ?_
  rotate_left 2
  · intro w' hg
    go_simp
    with_reducible rfl
  · simp only [Act.put, List.setIfInBounds_toArray, List.set_cons_zero, List.set_cons_succ, i64_w, i32_w]
    rfl
  refine seq_pure (i := 4) (N := some 42) (v := ?_) (a' := ?_) rfl rfl (by rfl) (fun _ _ _ h => h) ?_ ?_ ?_
  rotate_left 2
  · intro w' hg
    go_simp
    with_reducible rfl
  · simp only [Act.put, List.setIfInBounds_toArray, List.set_cons_zero, List.set_cons_succ, i64_w, i32_w]
    rfl
  refine seq_pure (i := 5) (N := some 43) (v := ?_) (a' := ?_) rfl rfl (by rfl) (fun _ _ _ h => h) ?_ ?_ ?_
  rotate_left 2
  · intro w' hg
    go_simp
    with_reducible rfl
  · simp only [Act.put, List.setIfInBounds_toArray, List.set_cons_zero, List.set_cons_succ, i64_w, i32_w]
    rfl
  refine seq_pure (i := 6) (N := some 44) (v := ?_) (a' := ?_) rfl rfl (by rfl) (fun _ _ _ h => h) ?_ ?_ ?_
  rotate_left 2
  · intro w' hg
    go_simp
    with_reducible rfl
  · simp only [Act.put, List.setIfInBounds_toArray, List.set_cons_zero, List.set_cons_succ, i64_w, i32_w]
    rfl
  refine seq_pure (i := 7) (N := some 45) (v := ?_) (a' := ?_) rfl rfl (by rfl) (fun _ _ _ h => h) ?_ ?_ ?_
  rotate_left 2
  · intro w' hg
    go_simp
    with_reducible rfl
  · simp only [Act.put, List.setIfInBounds_toArray, List.set_cons_zero, List.set_cons_succ, i64_w, i32_w]
    rfl
  refine seq_pure (i := 8) (N := some 46) (v := ?_) (a' := ?_) rfl rfl (by rfl) (fun _ _ _ h => h) ?_ ?_ ?_
  rotate_left 2
  · intro w' hg
    go_simp
    with_reducible rfl
  · simp only [Act.put, List.setIfInBounds_toArray, List.set_cons_zero, List.set_cons_succ, i64_w, i32_w]
    rfl
  refine seq_pure (i := 10) (N := some 48) (v := ?_) (a' := ?_) rfl rfl (by rfl) (fun _ _ _ h => h) ?_ ?_ ?_
  rotate_left 2
  · intro w' hg
    go_simp
    with_reducible rfl
  · simp only [Act.put, List.setIfInBounds_toArray, List.set_cons_zero, List.set_cons_succ, i64_w, i32_w]
    rfl
  refine seq_pure (i := 11) (N := some 49) (v := ?_) (a' := ?_) rfl rfl (by rfl) (fun _ _ _ h => h) ?_ ?_ ?_
  rotate_left 2
  · intro w' hg
    go_simp
    with_reducible rfl
  · simp only [Act.put, List.setIfInBounds_toArray, List.set_cons_zero, List.set_cons_succ, i64_w, i32_w]
    rfl
  refine seq_call (i := 9) (N := some 47) rfl rfl Tryd.func71 (by kernel_rfl) rfl #[.int .u64 (N : Int)] (by rfl) rfl ?_ ?_
  · simp only [List.map_toArray, List.map_cons, List.map_nil]
    rfl
  refine HNO.out.mono ?_
  rintro e w6 ⟨vn, rfl, hon, hb6⟩
  obtain ⟨Bn, cn, rfl, hbn⟩ := hon.bytes 12 (nonceN_length _) (nonceN_ok _)
  have HBN := hd hbn
  have HFX := hd (HF.out w6 Bn cn (below_seq HBW.out hb6) hbn)
  have HB6 := hd hb6
  clear hon hb6 hbn
  refine ⟨_, rfl, fun _ => HB6.out, ?_⟩
  refine seq_norm (a' := ?_) ?_ ?_
  rotate_left
  · show Act.put _ (some 47) _ = _
    simp only [Act.put, List.setIfInBounds_toArray, List.set_cons_zero, List.set_cons_succ, i64_w, i32_w]
    rfl
  refine seq_callV (i := 12) (N := some 50) rfl rfl hf hname hbd #[.slice A 32 c, .slice Bn 12 cn, .slice C nc cc, .slice D nd cd] (by rfl) rfl rfl ?_ ?_
  · simp only [List.map_toArray, List.map_cons, List.map_nil]
    rfl
  refine HFX.out.mono ?_
  rintro e w7 ⟨vo, rfl, hoo, hb7⟩
  refine ⟨_, rfl, fun _ => hb7, ?_⟩
  refine seq_norm (a' := ?_) ?_ ?_
  rotate_left
  · show Act.put _ (some 50) _ = _
    simp only [Act.put, List.setIfInBounds_toArray, List.set_cons_zero, List.set_cons_succ, i64_w, i32_w]
    rfl
  have HB7 := hd hb7
  have HOO := hd hoo
  clear hb7 hoo
  refine seq_pure (i := 13) (N := some 37) (v := ?_) (a' := ?_) rfl rfl (by rfl) (fun _ _ _ h => h) ?_ ?_ ?_
  rotate_left 2
  · intro w' hg
    go_simp
    with_reducible rfl
  · simp only [Act.put, List.setIfInBounds_toArray, List.set_cons_zero, List.set_cons_succ, i64_w, i32_w]
    rfl
  refine seq_pure (i := 14) (N := some 51) (v := ?_) (a' := ?_) rfl rfl (by rfl) (fun _ _ _ h => h) ?_ ?_ ?_
  rotate_left 2
  · intro w' hg
    go_simp
    with_reducible rfl
  · simp only [Act.put, List.setIfInBounds_toArray, List.set_cons_zero, List.set_cons_succ, i64_w, i32_w]
    rfl
  refine seq_pure (i := 15) (N := some 52) (v := ?_) (a' := ?_) rfl rfl (by rfl) (fun _ _ _ h => h) ?_ ?_ ?_
  rotate_left 2
  · intro w' hg
    go_simp
    with_reducible rfl
  · simp only [Act.put, List.setIfInBounds_toArray, List.set_cons_zero, List.set_cons_succ, i64_w, i32_w]
    rfl
  refine seq_pure (i := 16) (N := some 10) (v := ?_) (a' := ?_) rfl rfl (by rfl) (fun _ _ _ h => h) ?_ ?_ ?_
  rotate_left 2
  · intro w' hg
    go_simp
    with_reducible rfl
  · simp only [Act.put, List.setIfInBounds_toArray, List.set_cons_zero, List.set_cons_succ, i64_w, i32_w]
    rfl
  refine seq_pure (i := 17) (N := some 11) (v := ?_) (a' := ?_) rfl rfl (by rfl) (fun _ _ _ h => h) ?_ ?_ ?_
  rotate_left 2
  · intro w' hg
    go_simp
    with_reducible rfl
  · simp only [Act.put, List.setIfInBounds_toArray, List.set_cons_zero, List.set_cons_succ, i64_w, i32_w]
    rfl
  refine seq_done ?_
  have HBA := hd (below_seq HBW.out (below_seq HB6.out HB7.out))
  have hc1 := pw_cell_below HBA.out HC1.out
  have hfr7 := blk_frozen (blk_below HBLK.out HBA.out) (o + 1)
  by_cases hr : r.2 = 0
  · rw [hr, show ((0 : Nat) : Int) = 0 from rfl]
    have hu : useC key N b r = (r.1, 0, N + 1) := by rw [HU.out, if_neg (by simp [hr])]
    have hw := HW.out
    go_wp2
    go_ret2
    rw [hu]
    refine ⟨vo, w7, rfl, rfl, HBA.out, ?_⟩
    exact (HOO.out.lower (Nat.le_trans HBW.out.size HB6.out.size)).setOut HGLT.out _
  · have hu : useC key N b r = ([], r.2, N) := by rw [HU.out, if_pos hr]
    have q : decide ((r.2 : Int) = 0) = false := by simp; exact hr
    have q' : (((r.2 : Nat) : Int) != 0) = true := by simp; exact hr
    go_wp2
    go_ret2
    rw [hu]
    exact ⟨_, w7, rfl, (setCell_self hc1).symm, HBA.out, OwnK.nil _ _ _ _⟩
end
end Go.Proofs.YtlgdplodglchaaaDoor
/- The walks through window.Window. -/
set_option linter.unusedVariables false
set_option linter.unusedSimpArgs false
namespace Go.Proofs.YtlgdplodglchaaaDoor
open Go.RowKit Go.Proofs.YtlgdplodglchaaaDoorW.PrintWords Go.Proofs.YtlgdplodglchaaaDoorW.PrintLast Go.Proofs.YtlgdplodglchaaaDoorW.PrintMore
theorem min_two128 (ats : Array TypeId) (ty : TypeId) (a : Nat) : Builtin.min_ ats ty #[.int .u64 (a : Int), .int .u64 128] = pure (.int .u64 ((min a 128 : Nat) : Int)) := by
  rw [min_two, min2_int]
  show (pure (Value.int .u64 (if (128 : Int) < (a : Int) then 128 else (a : Int))) : Sem Value) = _
  congr 2
  split <;> omega
attribute [local go_sem high] min_two128
/-- A window's cells within a block. -/
def putWin (cs : Array Value) (v : Win) : Array Value := (((cs.setIfInBounds 13 (.bool v.some)).setIfInBounds 14 (.int .u64 (v.top : Int))).setIfInBounds 15 (.int .u64 (v.c.1 : Int))).setIfInBounds 16 (.int .u64 (v.c.2 : Int))
def WinAt (w : World) (g : Nat) (cs : Array Value) (T : TypeId) (v : Win) : Prop := w.heap[g]? = some (.cells (putWin cs v) T (0, 0)) ∧ cs.size = 17
theorem putWin_at {cs : Array Value} (h : cs.size = 17) (v : Win) : (putWin cs v)[13]? = some (.bool v.some) ∧ (putWin cs v)[14]? = some (.int .u64 (v.top : Int)) ∧ (putWin cs v)[15]? = some (.int .u64 (v.c.1 : Int)) ∧ (putWin cs v)[16]? = some (.int .u64 (v.c.2 : Int)) := by
  refine ⟨?_, ?_, ?_, ?_⟩
  · rw [putWin, Array.getElem?_setIfInBounds, if_neg (by decide), Array.getElem?_setIfInBounds, if_neg (by decide), Array.getElem?_setIfInBounds, if_neg (by decide), Array.getElem?_setIfInBounds, if_pos rfl, if_pos (by omega)]
  · rw [putWin, Array.getElem?_setIfInBounds, if_neg (by decide), Array.getElem?_setIfInBounds, if_neg (by decide), Array.getElem?_setIfInBounds, if_pos rfl, if_pos (by simp; omega)]
  · rw [putWin, Array.getElem?_setIfInBounds, if_neg (by decide), Array.getElem?_setIfInBounds, if_pos rfl, if_pos (by simp; omega)]
  · rw [putWin, Array.getElem?_setIfInBounds, if_pos rfl, if_pos (by simp; omega)]
section
variable {w : World} {g T n : Nat} {cs : Array Value} {v : Win}
theorem WinAt.cells (h : WinAt w g cs T v) : w.cell? ⟨g, 13, none⟩ = some (.bool v.some) ∧ w.cell? ⟨g, 14, none⟩ = some (.int .u64 (v.top : Int)) ∧ w.cell? ⟨g, 15, none⟩ = some (.int .u64 (v.c.1 : Int)) ∧ w.cell? ⟨g, 16, none⟩ = some (.int .u64 (v.c.2 : Int)) := by
  obtain ⟨h0, h1, h2, h3⟩ := putWin_at h.2 v
  exact ⟨(blk_cell h.1 13).trans h0, (blk_cell h.1 14).trans h1, (blk_cell h.1 15).trans h2, (blk_cell h.1 16).trans h3⟩
theorem WinAt.frozen (h : WinAt w g cs T v) (i : Nat) : w.frozen? ⟨g, i, none⟩ = false := blk_frozen h.1 i
theorem WinAt.below {w1 : World} (h : WinAt w g cs T v) (hb : Below w.heap.size w w1) : WinAt w1 g cs T v := ⟨blk_below h.1 hb, h.2⟩
theorem WinAt.drew (h : WinAt w g cs T v) : WinAt w.drew g cs T v := h.below (below_drew (Below.refl _ _))
end
end Go.Proofs.YtlgdplodglchaaaDoor
/- The walks through session.Start, Timer, New, Sent, Rekey, old, Expired. -/
set_option linter.unusedVariables false
set_option linter.unusedSimpArgs false
namespace Go.Proofs.YtlgdplodglchaaaDoor
open Go.RowKit Go.Proofs.YtlgdplodglchaaaDoorW.PrintWords Go.Proofs.YtlgdplodglchaaaDoorW.PrintLast Go.Proofs.YtlgdplodglchaaaDoorW.PrintMore
structure Rul where
  (r0 r1 : Nat) (r2 : Int) (r3 r4 r5 r6 : Nat)
def Rul.ok (r : Rul) : Prop := r.r0 < 2 ^ 64 ∧ r.r1 < 2 ^ 64
def Rul.v (r : Rul) : Value := .agg #[.int .u64 (r.r0 : Int), .int .u64 (r.r1 : Int), .int .i64 r.r2, .int .u64 (r.r3 : Int), .int .u64 (r.r4 : Int), .int .u64 (r.r5 : Int), .int .u64 (r.r6 : Int)]
def timC (r : Rul) (last : Nat) (tries : Int) : Array Value := #[.int .u64 (r.r0 : Int), .int .u64 (r.r1 : Int), .int .i64 r.r2, .int .u64 (r.r3 : Int), .int .u64 (r.r4 : Int), .int .u64 (r.r5 : Int), .int .u64 (r.r6 : Int), .int .u64 (last : Int), .int .i64 tries]
def TimAt (w : World) (g : Nat) (r : Rul) (last : Nat) (tries : Int) : Prop := w.heap[g]? = some (.cells (timC r last tries) 104 (0, 0))
/-- A slice: where, how long, how long it may be. -/
structure Sl where
  (A : Option Addr) (n c : Nat)
def Sl.v (s : Sl) : Value := .slice s.A s.n s.c
def sesC (r : Rul) (born sent : Nat) (k1 : Sl) (N1 : Nat) (k2 : Sl) (N2 : Nat) (v : Win) : Array Value := #[.int .u64 (r.r0 : Int), .int .u64 (r.r1 : Int), .int .i64 r.r2, .int .u64 (r.r3 : Int), .int .u64 (r.r4 : Int), .int .u64 (r.r5 : Int), .int .u64 (r.r6 : Int), .int .u64 (born : Int), .int .u64 (sent : Int), .slice k1.A k1.n k1.c, .int .u64 (N1 : Int), .slice k2.A k2.n k2.c, .int .u64 (N2 : Int), .bool v.some, .int .u64 (v.top : Int), .int .u64 (v.c.1 : Int), .int .u64 (v.c.2 : Int)]
def SesAt (w : World) (g : Nat) (r : Rul) (born sent : Nat) (k1 : Sl) (N1 : Nat) (k2 : Sl) (N2 : Nat) (v : Win) : Prop := w.heap[g]? = some (.cells (sesC r born sent k1 N1 k2 N2 v) 112 (0, 0))
theorem SesAt.below {w w1 : World} {g : Nat} {r : Rul} {born sent : Nat} {k1 : Sl} {N1 : Nat} {k2 : Sl} {N2 : Nat} {v : Win} (h : SesAt w g r born sent k1 N1 k2 N2 v) (hb : Below w.heap.size w w1) : SesAt w1 g r born sent k1 N1 k2 N2 v := blk_below h hb
theorem TimAt.below {w w1 : World} {g : Nat} {r : Rul} {last : Nat} {tries : Int} (h : TimAt w g r last tries) (hb : Below w.heap.size w w1) : TimAt w1 g r last tries := blk_below h hb
section
variable {w : World} {g now born sent N1 N2 last : Nat} {tries : Int} {r : Rul} {k1 k2 : Sl} {v : Win}
end
end Go.Proofs.YtlgdplodglchaaaDoor
