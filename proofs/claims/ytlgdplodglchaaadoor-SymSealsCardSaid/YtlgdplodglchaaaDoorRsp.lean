/- The reference's sums: what they stand on. -/
import Derived.Test.YtlgdplodglchaaaDoorFast
set_option linter.unusedVariables false
set_option linter.unusedSimpArgs false
namespace Go.Proofs.YtlgdplodglchaaaDoor
open Go.RowKit Go.Proofs.YtlgdplodglchaaaDoorW.PrintWords Go.Proofs.YtlgdplodglchaaaDoorW.PrintLast Go.Proofs.YtlgdplodglchaaaDoorW.PrintMore
/-! ### plain -/
/-- The bytes, with what stands behind them. -/
def padR (rate suf : Nat) (b : List Nat) : List Nat :=
  let l := b ++ [suf] ++ List.replicate (rate * (b.length / rate + 1) - b.length - 1) 0
  l.set (rate * (b.length / rate + 1) - 1) (l.getD (rate * (b.length / rate + 1) - 1) 0 ^^^ 128)
def blkN (rate : Nat) (P : List Nat) (q : Nat) : List Nat := (P.drop (rate * q)).take rate
def pbN (rate : Nat) (P : List Nat) : Nat → List Nat
  | 0 => List.replicate 25 0
  | q + 1 => kecN (layN (pbN rate P q) (blkN rate P q))
theorem pad_lt {rate : Nat} (h : 1 ≤ rate) (n : Nat) : rate * (n / rate) ≤ n ∧ n < rate * (n / rate + 1) := by
  have h1 := Nat.div_add_mod n rate
  have h2 := Nat.mod_lt n h
  rw [Nat.mul_succ]
  omega
theorem padR_length {rate suf : Nat} {b : List Nat} (h : 1 ≤ rate) : (padR rate suf b).length = rate * (b.length / rate + 1) := by
  have := (pad_lt h b.length).2
  simp [padR]
  omega
theorem padR_ok {rate suf : Nat} {b : List Nat} (hs : suf < 256) (hb : BytesOK b) : BytesOK (padR rate suf b) := by
  have h0 : BytesOK (b ++ [suf] ++ List.replicate (rate * (b.length / rate + 1) - b.length - 1) 0) := (hb.append (BytesOK.cons hs BytesOK.nil)).append (BytesOK.replicate (by decide))
  exact h0.set (xor_lt (h0.getD _) (by decide)) _
theorem blkN_ok {rate : Nat} {P : List Nat} (h : BytesOK P) (q : Nat) : BytesOK (blkN rate P q) := (h.drop _).take _
theorem pbN_ok {rate : Nat} {P : List Nat} (h : BytesOK P) (q : Nat) : Lanes (pbN rate P q) := by
  induction q with
  | zero => exact Lanes.zeros 25
  | succ q ih => exact kecN_ok (layN_ok ih (blkN_ok h q))
theorem pbN_length (rate : Nat) (P : List Nat) (q : Nat) : (pbN rate P q).length = 25 := by
  cases q with
  | zero => simp [pbN]
  | succ q => exact kecN_length (layN_length _ _)
theorem pad_block {rate suf : Nat} {b : List Nat} (h : 1 ≤ rate) {q : Nat} (hq : q < b.length / rate) : blkN rate (padR rate suf b) q = (b.drop (rate * q)).take rate := by
  have h1 := pad_lt h b.length
  have h2 : rate * q + rate ≤ rate * (b.length / rate) := by rw [← Nat.mul_succ]; exact Nat.mul_le_mul_left _ hq
  have h3 : rate * (b.length / rate + 1) = rate * (b.length / rate) + rate := Nat.mul_succ _ _
  apply List.ext_getElem?
  intro j
  by_cases hj : j < rate
  · rw [blkN, List.getElem?_take_of_lt hj, List.getElem?_take_of_lt hj, List.getElem?_drop, List.getElem?_drop, padR]
    rw [List.getElem?_set_ne (by omega), List.getElem?_append_left (by simp; omega), List.getElem?_append_left (by omega)]
  · rw [blkN, List.getElem?_eq_none (by rw [List.length_take]; omega), List.getElem?_eq_none (by rw [List.length_take]; omega)]
theorem pad_last {rate suf : Nat} {b : List Nat} (h : 1 ≤ rate) : blkN rate (padR rate suf b) (b.length / rate) = lastN rate suf (b.drop (rate * (b.length / rate))) := by
  have h1 := pad_lt h b.length
  have h3 : rate * (b.length / rate + 1) = rate * (b.length / rate) + rate := Nat.mul_succ _ _
  obtain ⟨m, hm⟩ : ∃ m, m = rate * (b.length / rate) := ⟨_, rfl⟩
  obtain ⟨c, hc⟩ : ∃ c, c = b.drop m := ⟨_, rfl⟩
  have hcl : c.length = b.length - m := by rw [hc, List.length_drop]
  have htl : (b.take m).length = m := by rw [List.length_take]; omega
  have e1 : (b ++ [suf] ++ List.replicate (rate * (b.length / rate + 1) - b.length - 1) 0) = b.take m ++ (c ++ [suf] ++ List.replicate (rate - c.length - 1) 0) := by
    have e0 : rate * (b.length / rate + 1) - b.length - 1 = rate - c.length - 1 := by rw [h3, ← hm]; omega
    have hb2 : b.take m ++ c = b := by rw [hc]; exact List.take_append_drop m b
    rw [e0]
    generalize List.replicate (rate - c.length - 1) 0 = z
    rw [← List.append_assoc, ← List.append_assoc, hb2]
  have e2 : (c ++ List.replicate (rate - c.length) 0).set c.length ((c ++ List.replicate (rate - c.length) 0).getD c.length 0 ^^^ suf) = c ++ [suf] ++ List.replicate (rate - c.length - 1) 0 := by
    obtain ⟨k, hk⟩ : ∃ k, rate - c.length = k + 1 := ⟨rate - c.length - 1, by omega⟩
    rw [hk, List.replicate_succ, List.set_append_right _ _ (Nat.le_refl _), Nat.sub_self, List.set_cons_zero]
    simp [List.getD_eq_getElem?_getD]
  have e3 : rate * (b.length / rate + 1) - 1 = m + (rate - 1) := by rw [h3, ← hm]; omega
  rw [blkN, padR, lastN, ← hm, ← hc]
  rw [e1, e2, e3, List.set_append_right _ _ (by rw [htl]; omega), List.drop_append, List.drop_eq_nil_of_le (by rw [htl]; exact Nat.le_refl _), List.nil_append, htl, Nat.sub_self, List.drop_zero, Nat.add_sub_cancel_left]
  rw [List.take_of_length_le (by simp; omega)]
  congr 2
  rw [List.getD_eq_getElem?_getD, List.getElem?_append_right (by rw [htl]; omega), htl, Nat.add_sub_cancel_left, List.getD_eq_getElem?_getD]
theorem pb_blocks {rate suf : Nat} {b : List Nat} (h : 1 ≤ rate) : ∀ q, q ≤ b.length / rate → pbN rate (padR rate suf b) q = blocksN rate b q
  | 0, _ => rfl
  | q + 1, hq => by rw [pbN, blocksN, pb_blocks h q (by omega), pad_block h hq]
theorem pb_all {rate suf : Nat} {b : List Nat} (h : 1 ≤ rate) : pbN rate (padR rate suf b) (b.length / rate + 1) = absN rate suf b := by
  rw [pbN, pb_blocks h _ (Nat.le_refl _), pad_last h, absN]
/-! ### walks -/
set_option maxHeartbeats 4000000 in
set_option maxRecDepth 100000 in
theorem rbytes_calls {A : Option Addr} {c : Nat} {a : List Nat} {w : World} (hr_ : RowK .u64 w A a) (ha_ : a.length = 25) (hl_ : Lanes a) (hc_ : 25 ≤ c) : Calls Tryd.prog 95 #[.slice A 25 c] w fun e w' => ∃ v, e = .returned v ∧ OwnK .u8 5 w.heap.size w' v (bytesN a) ∧ Below w.heap.size w w' := by
  have HR := hd hr_
  have ha := hd ha_
  have hl := hd hl_
  have hc1 : (25 : Int) ≤ c := by omega
  clear hr_ ha_ hl_ hc_
  go_enter Tryd.func95, Tryd.ntmps95
  go_upto_region 3 with (fail)
  go_loopw [3, 4] (fun u3 u4 wr => ∃ i : Nat, i ≤ 25 ∧ u4 = .int .i64 i ∧ Aside0 (OwnK .u8 5 w.heap.size wr u3 (bytesN (a.take i))) ∧ Aside0 (Below w.heap.size w wr)) (fun _ u4 _ => 25 - (intOf u4).toNat)
  case atStart => exact ⟨0, by decide, rfl, ⟨OwnK.nil _ _ _ _⟩, ⟨Below.refl _ _⟩⟩
  case round =>
    obtain ⟨i, hi, rfl, HO, HBW⟩ := hrel
    by_cases hlt : i < 25
    · have i1 : (i : Int) < 25 := by omega
      have HLT := hd hlt
      obtain ⟨ad, x, rfl, HX, hcell⟩ := (HR.out.below HBW.out).at_ i (by rw [ha.out]; exact hlt)
      clear hi hlt
      go_wp2_with fail
      refine (refstore_calls x 8 _ rfl (by rw [← HX.out]; exact hl.out.getD _)).mono ?_
      rintro e w6 ⟨v, rfl, hv, hb⟩
      obtain ⟨A6, c6, rfl, h6'⟩ := hv.bytes 8 (storeN_length _ _) (storeN_ok _ _)
      have h6 := hd h6'
      replace HO := hd (HO.out.below hb)
      replace HBW := hd (below_seq HBW.out hb)
      have hlen : ((bytesN (a.take i)).length + (storeN x 8).length) * 1 ≤ 140737488355328 := by
        rw [bytesN_length, storeN_length, List.length_take]
        have := HLT.out
        omega
      clear hv hb hcell h6'
      go_upto_region 4 with ((with_reducible refine gate_dst (N := 15) rfl ?_); refine op_append_row (k := .u8) (w0 := w) 15 rfl w.heap.size 5 40 (.tmp 9) (.tmp 14) rfl rfl Tryd.underlying40 Tryd.infoU8 (by decide) u3 (bytesN (a.take i)) (storeN x 8) A6 8 c6 rfl rfl (by rw [storeN_length]) HO.out h6.out.1 HBW.out HBW.out.size hlen ?_; intro v7 w7 ho7 hb7 hg7)
      have HO7 := hd ho7
      have HBW7 := hd hb7
      clear ho7 hb7 hg7 hlen
      go_wp2
      go_roundw
      case rel => exact ⟨i + 1, HLT.out, by go_num, ⟨by rw [bytesN_take_succ (by rw [ha.out]; exact HLT.out), HX.out]; exact HO7.out⟩, HBW7⟩
      case measure => simp [intOf]; have := HLT.out; omega
    · have i1 : ¬ ((i : Int) < 25) := by omega
      obtain rfl : i = 25 := by omega
      clear hi hlt
      rw [List.take_of_length_le (by rw [ha.out]; exact Nat.le_refl _)] at HO
      go_wp2
      go_ret
      exact ⟨_, rfl, HO.out, HBW.out⟩
def lanesI (s : List Nat) (i : Nat) : List Nat := (List.range i).map fun i => loadN ((s.drop (8 * i)).take 8)
theorem lanesI_succ (s : List Nat) (i : Nat) : lanesI s (i + 1) = lanesI s i ++ [loadN ((s.drop (8 * i)).take 8)] := by simp [lanesI, List.range_succ]
set_option maxHeartbeats 4000000 in
set_option maxRecDepth 100000 in
theorem rstate_calls {B : Option Addr} {c : Nat} {s : List Nat} {w : World} (hb_ : Bytes w B 200 c s) : Calls Tryd.prog 97 #[.slice B 200 c] w fun e w' => ∃ A c', e = .returned (.slice A 25 c') ∧ 25 ≤ c' ∧ OwnK .u64 22 w.heap.size w' (.slice A 25 c') (lanesN s) ∧ Below w.heap.size w w' := by
  have HB := hd hb_
  have hcc := hb_.2.2.1
  obtain ⟨ad, rfl⟩ := hb_.get (by decide)
  have HC := hd hcc
  clear hb_ hcc
  go_enter Tryd.func97, Tryd.ntmps97
  go_upto_region 3 with (fail)
  go_loopw [3, 4] (fun u3 u4 wr => ∃ i : Nat, i ≤ 25 ∧ u4 = .int .i64 i ∧ Aside0 (OwnK .u64 22 w.heap.size wr u3 (lanesI s i)) ∧ Aside0 (Below w.heap.size w wr)) (fun _ u4 _ => 25 - (intOf u4).toNat)
  case atStart => exact ⟨0, by decide, rfl, ⟨OwnK.nil _ _ _ _⟩, ⟨Below.refl _ _⟩⟩
  case round =>
    obtain ⟨i, hi, rfl, HO, HBW⟩ := hrel
    by_cases hlt : i < 25
    · have i1 : (i : Int) < 25 := by omega
      have HLT := hd hlt
      have hmid := hd ((HB.out.below HBW.out).mid (8 * i) 8 (by omega) (by have := HC.out; omega))
      have j1 : (8 : Int) * (i : Int) + 8 ≤ c := by have := HC.out; omega
      clear hi hlt
      go_wp2_with fail
      refine (refload_calls hmid.out).mono ?_
      rintro e w' ⟨rfl, rfl⟩
      obtain ⟨x, HX⟩ : ∃ x, Aside0 (loadN ((s.drop (8 * i)).take 8) = x) := ⟨_, ⟨rfl⟩⟩
      rw [show loadN (((s.drop (8 * i)).take 8).take 8) = x by rw [List.take_take]; exact HX.out]
      have hlen : ((lanesI s i).length + 1) * 8 ≤ 140737488355328 := by
        simp [lanesI]
        have := HLT.out
        omega
      clear j1
      go_upto_region 4 with ((with_reducible refine gate_dst (N := 19) rfl ?_); at_builtin; refine op_append (k := .u64) (w0 := w) 19 rfl w.heap.size 22 25 (.tmp 9) (.tmp 18) rfl rfl Tryd.underlying25 Tryd.infoU64 (by decide) u3 (lanesI s i) _ x rfl rfl rfl HO.out HBW.out HBW.out.size hlen ?_; intro v7 w7 ho7 hb7 hg7)
      have HO7 := hd ho7
      have HBW7 := hd hb7
      clear ho7 hb7 hg7 hlen
      go_wp2
      go_roundw
      case rel => exact ⟨i + 1, HLT.out, by go_num, ⟨by rw [lanesI_succ, HX.out]; exact HO7.out⟩, HBW7⟩
      case measure => simp [intOf]; have := HLT.out; omega
    · have i1 : ¬ ((i : Int) < 25) := by omega
      obtain rfl : i = 25 := by omega
      clear hi hlt
      obtain ⟨A9, c9, rfl, hc9, _⟩ := HO.out.slice
      have h25 : (lanesI s 25).length = 25 := by simp [lanesI]
      rw [h25] at hc9 HO ⊢
      go_wp2
      go_ret
      exact ⟨A9, c9, rfl, hc9, HO.out, HBW.out⟩
end Go.Proofs.YtlgdplodglchaaaDoor
