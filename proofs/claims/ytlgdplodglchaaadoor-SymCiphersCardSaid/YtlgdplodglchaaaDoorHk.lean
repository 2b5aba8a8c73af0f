/- The walks through SHA3-256 and the keys made of it. -/
import Derived.Test.YtlgdplodglchaaaDoorSpo
set_option linter.unusedVariables false
set_option linter.unusedSimpArgs false
namespace Go.Proofs.YtlgdplodglchaaaDoor
open Go.RowKit Go.Proofs.YtlgdplodglchaaaDoorW.PrintWords Go.Proofs.YtlgdplodglchaaaDoorW.PrintLast Go.Proofs.YtlgdplodglchaaaDoorW.PrintMore
set_option maxHeartbeats 1000000 in
set_option maxRecDepth 100000 in
theorem sum_calls {B : Option Addr} {n c : Nat} {b : List Nat} {w : World} (hb : Bytes w B n c b) (hn : n ≤ 1000000000) (ht : TurnsAt w) (hc : ConstsAt w) :
    Calls Tryd.prog 62 #[.slice B n c] w fun e w' => ∃ v, e = .returned v ∧ OwnK .u8 5 w.heap.size w' v (sumN b) ∧ Below w.heap.size w w' := by
  have HA := hd (absorb_calls (rate := 136) (suf := 6) (by decide) (by decide) (by decide) hb hn ht hc)
  have HBO := hd hb.ok
  clear hb hn ht hc
  go_enter Tryd.func62, Tryd.ntmps62
  go_wp2_with fail
  refine HA.out.mono ?_
  rintro e w1 ⟨rfl, hb1⟩
  have HB1 := hd hb1
  clear hb1
  go_wp2_with fail
  refine (take_calls (n := 32) (absN_length 136 6 b) (absN_ok HBO.out (by decide)) (by decide)).mono ?_
  rintro e w2 ⟨v, rfl, ho, hb2⟩
  have ho' := ho.lower HB1.out.size
  have hb := below_seq HB1.out hb2
  clear ho hb2
  go_wp2
  go_ret
  exact ⟨_, rfl, ho', hb⟩
def xorF (l : List Nat) (c i : Nat) : Nat := l.getD i 0 ^^^ c
theorem xorF_all (l : List Nat) (c n : Nat) (hn : l.length = n) : (List.range n).map (xorF l c) = l.map (· ^^^ c) := by
  subst hn
  apply List.ext_getElem?
  intro i
  by_cases h : i < l.length
  · simp [xorF, h, List.getD_eq_getElem?_getD]
  · rw [List.getElem?_eq_none (by simpa using h), List.getElem?_eq_none (by simpa using h)]
theorem map_xor_ok {l : List Nat} {c : Nat} (h : BytesOK l) (hc : c < 256) : BytesOK (l.map (· ^^^ c)) := fun x hx => by
  obtain ⟨y, hy, rfl⟩ := List.mem_map.1 hx
  exact xor_lt (h y hy) hc
set_option maxHeartbeats 4000000 in
set_option maxRecDepth 100000 in
theorem with_calls {l : List Nat} (hl_ : l.length = 136) (hb_ : BytesOK l) {c : Nat} (hc_ : c < 256) {w : World} :
    Calls Tryd.prog 98 #[.agg (cellsOf .u8 l), .int .u8 (c : Int)] w fun e w' => ∃ g, e = .returned (.slice (some ⟨g, 0, none⟩) 136 136) ∧ Bytes w' (some ⟨g, 0, none⟩) 136 136 (l.map (· ^^^ c)) ∧ Below w.heap.size w w' := by
  have hl := hd hl_
  have HO := hd hb_
  have HC := hd hc_
  clear hl_ hb_ hc_
  go_enter Tryd.func98, Tryd.ntmps98
  go_upto_region 2 with (fail)
  have hal := below_alloc (Below.refl w.heap.size w) (.cells (cellsOf .u8 l) 152)
  have HA := hd (Arr.new (k := .u8) (T := 152) (l := l) w (cs := cellsOf .u8 l) rfl)
  have HBW := hd hal
  clear hal
  generalize w.alloc (.cells (cellsOf .u8 l) 152) = w3 at HA HBW ⊢
  obtain ⟨q, hq⟩ : ∃ q, Aside0 (w.heap.size = q) := ⟨_, ⟨rfl⟩⟩
  have HQ := hd (show w.heap.size ≤ q by rw [hq.out]; exact Nat.le_refl _)
  rw [hq.out] at HA ⊢
  clear hq
  go_loopw [5, 6] (fun u5 u6 wr => ∃ i : Nat, i ≤ 136 ∧ u6 = .int .i64 i ∧ Aside0 (Arr .u8 152 q wr (upto (xorF l c) l i)) ∧ Aside0 (Below w.heap.size w wr)) (fun _ u6 _ => 136 - (intOf u6).toNat)
  case atStart => exact ⟨0, by decide, rfl, ⟨by rw [upto_zero]; exact HA.out⟩, HBW⟩
  case round =>
    obtain ⟨i, hi, rfl, HA, HBW⟩ := hrel
    by_cases hlt : i < 136
    · have i1 : (i : Int) < 136 := by omega
      have HLT := hd hlt
      obtain ⟨x, X, hx, fx⟩ := HA.out.cell i (by rw [upto_length, hl.out]; exact hlt)
      have X0 := X.out
      rw [upto_old _ _ _ _ (Nat.le_refl i)] at X0
      obtain ⟨y, HY⟩ : ∃ y, Aside0 (xorF l c i = y) := ⟨_, ⟨rfl⟩⟩
      have e1 : bits .xor .u8 (x : Int) (c : Int) = (y : Int) := by rw [← HY.out, xorF, X0]; exact xor_u8 (by rw [← X0]; exact HO.out.getD _) HC.out
      clear hi hlt X0
      go_upto_region 5 with (fail)
      have ha2 := hd (HA.out.set i y)
      rw [upto_succ _ _ i y (by rw [hl.out]; exact HLT.out) HY.out.symm] at ha2
      replace HBW := hd (HBW.out.setCell (p := ⟨q, i, none⟩) HQ.out (.int .u8 (y : Int)))
      generalize wr.setCell ⟨q, i, none⟩ (.int .u8 (y : Int)) = w6 at ha2 HBW ⊢
      clear hx fx e1 HA
      go_wp2
      go_roundw
      case rel => exact ⟨i + 1, HLT.out, by go_num, ha2, HBW⟩
      case measure => simp [intOf]; have := HLT.out; omega
    · have i1 : ¬ ((i : Int) < 136) := by omega
      obtain rfl : i = 136 := by omega
      clear hi hlt
      rw [upto_all _ _ 136 hl.out, xorF_all _ _ _ hl.out] at HA
      have HB := hd (Bytes.ofArr (n := 136) HA.out (by rw [List.length_map]; exact hl.out) (map_xor_ok HO.out HC.out) (by decide))
      go_wp2
      go_ret
      exact ⟨q, rfl, HB.out, HBW.out⟩
theorem Bytes.get {w : World} {A : Option Addr} {n c : Nat} {l : List Nat} (h : Bytes w A n c l) (hn : 0 < n) : ∃ ad, A = some ad := by
  obtain ⟨ad, y, e, _, _⟩ := h.1.at_ 0 (by rw [h.2.1]; exact hn)
  exact ⟨ad, e⟩
section
variable {P : Program} {ops : Array Oper} {rest : List Oper} {o : Oper} {a : Act} {Q : Exit → Act → World → Prop} {W : World} {k : IntKind} {T g : Nat} {l : List Nat}
/-- copy(array's cells, row). -/
theorem op_copyA (N : Tmp) (hd : o.dst = some N) (hgd : o.guard = none) (m cap n c e : Nat) (t t' : TypeId) (s x : Operand) (ad : Addr) (ys : List Nat) (ho : o.op = .call { callee := .builtin .copy, args := #[s, x], argTypes := #[t, t'] }) (ht : P.underlying t = some (.slice e)) (hinfo : (P.info? e).map (·.size) = some 1)
    (hs : a.eval s = .slice (some ⟨g, 0, none⟩) m cap) (hx : a.eval x = .slice (some ad) n c) (hA : Arr k T g W l) (hR : RowK k W (some ad) ys) (hn : ys.length = n) (hnm : n ≤ m) (hml : m ≤ l.length)
    (h : ∀ W1, Arr k T g W1 (ys ++ l.drop n) → Only g W W1 → wpList P ops Q rest (a.put (some N) (.int .i64 (n : Int))) W1) : wpList P ops Q (o :: rest) a W := by
  have hr := run_copyA (P := P) m cap n c e t t' s x ad ys ho ht hinfo hs hx hA hR hn hnm hml
  refine wpList_plain hgd fun K hK => ?_
  unfold Oper.wp
  rw [hr]
  show K (a.put o.dst (.int .i64 (n : Int))) _
  rw [hd]
  exact hK _ _ (h _ (hA.setRow _) (Only.setRow _))
end
set_option maxHeartbeats 4000000 in
set_option maxRecDepth 100000 in
theorem mac32_calls {A B : Option Addr} {ca nb cb : Nat} {key b : List Nat} {w : World} (hk_ : Bytes w A 32 ca key) (hb_ : Bytes w B nb cb b) (hn_ : nb ≤ 100000000) (ht_ : TurnsAt w) (hc_ : ConstsAt w) :
    Calls Tryd.prog 85 #[.slice A 32 ca, .slice B nb cb] w fun e w' => ∃ v, e = .returned v ∧ OwnK .u8 5 w.heap.size w' v (macN key b) ∧ Below w.heap.size w w' := by
  have HK := hd hk_
  have HB := hd hb_
  have HB0 := hd hb_
  have HNB := hd hn_
  have HBL := hd (show b.length ≤ 100000000 by rw [hb_.2.1]; exact hn_)
  have HT := hd ht_
  have HCO := hd hc_
  obtain ⟨ad, rfl⟩ := hk_.get (by decide)
  have HKO := hd (keyN_ok hk_.ok)
  have HKN := hd (show key ++ (List.replicate 136 0).drop 32 = keyN key by rw [keyN, if_neg (by rw [hk_.2.1]; decide), hk_.2.1]; rfl)
  clear hk_ hb_ hn_ ht_ hc_
  go_enter Tryd.func85, Tryd.ntmps85
  go_upto_region 4 with (fail)
  have hal := below_alloc (Below.refl w.heap.size w) (.cells (cellsOf .u8 (List.replicate 136 0)) 152)
  have HA := hd (Arr.new (k := .u8) (T := 152) (l := List.replicate 136 0) w (cs := cellsOf .u8 (List.replicate 136 0)) rfl)
  rw [show Tryd.zeroCells152 = cellsOf .u8 (List.replicate 136 0) from rfl]
  have HBW := hd hal
  replace HK := hd (HK.out.below hal)
  replace HB := hd (HB.out.below hal)
  clear hal
  generalize w.alloc (.cells (cellsOf .u8 (List.replicate 136 0)) 152) = w3 at HA HBW HK HB ⊢
  obtain ⟨q, hq⟩ : ∃ q, Aside0 (w.heap.size = q) := ⟨_, ⟨rfl⟩⟩
  have HQ := hd (show w.heap.size ≤ q by rw [hq.out]; exact Nat.le_refl _)
  rw [hq.out] at HA ⊢
  clear hq
  go_upto_region 5 with ((with_reducible refine gate_dst (N := 14) rfl ?_); refine op_copyA 14 rfl rfl 136 136 32 ca 5 40 40 _ _ ad key rfl Tryd.underlying40 (by kernel_rfl) rfl rfl HA.out HK.out.1 HK.out.2.1 (by decide) (by simp) ?_; intro w4 hz4 ho4)
  rw [HKN.out] at hz4
  replace HA := hd hz4
  replace HB := hd (HB0.out.below (below_only HBW.out ho4 HQ.out))
  replace HBW := hd (below_only HBW.out ho4 HQ.out)
  clear hz4 ho4 HK
  go_wp2_with ((with_reducible refine gate_dst (N := 15) rfl ?_); refine op_loadA 15 rfl rfl 152 5 136 _ rfl rfl HA.out (cellsOf .u8 (keyN key)) rfl Tryd.underlying152 (by kernel_rfl) (keyN_length key) ?_)
  refine (with_calls (keyN_length key) HKO.out (c := 54) (by decide)).mono ?_
  rintro e w5 ⟨g1, rfl, hg, hb⟩
  have HG := hd hg
  replace HA := hd (HA.out.below hb)
  replace HB := hd (HB.out.below hb)
  replace HBW := hd (below_seq HBW.out hb)
  clear hg hb
  go_wp2_with fail
  have hal := below_alloc (Below.refl w5.heap.size w5) (.cells #[.slice (some ⟨g1, 0, none⟩) 136 136, .slice B nb cb] 40)
  have HR2 := hd (Rows2.new (t := 40) (g := w5.heap.size) (vs := [.slice (some ⟨g1, 0, none⟩) 136 136, .slice B nb cb]) (L := [(keyN key).map (· ^^^ 54), b]) ⟨⟨_, _, _, rfl, HG.out⟩, ⟨_, _, _, rfl, HB.out⟩, trivial⟩ rfl rfl (by simp))
  replace HA := hd (HA.out.below hal)
  replace HB := hd (HB.out.below hal)
  replace HBW := hd (below_seq HBW.out hal)
  clear hal HG
  generalize w5.alloc (.cells #[.slice (some ⟨g1, 0, none⟩) 136 136, .slice B nb cb] 40) = w6 at HA HB HBW  HR2 ⊢
  have hfit : ([(keyN key).map (· ^^^ 54), b] : List (List Nat)).flatten.length ≤ 140737488355328 := by simp [keyN_length, sumN_length]; have := HBL.out; omega
  refine (join_calls HR2.out rfl (Nat.le_refl 2) hfit).mono ?_
  rintro e w7 ⟨vj, rfl, hj, hb⟩
  have hjo : ([(keyN key).map (· ^^^ 54), b] : List (List Nat)).flatten = (keyN key).map (· ^^^ 54) ++ b := by simp
  rw [hjo] at hj
  obtain ⟨Aj, cj, rfl, hjb⟩ := OwnK.bytes hj (136 + nb) (by rw [List.length_append, List.length_map, keyN_length, HB.out.2.1]) ((map_xor_ok HKO.out (by decide)).append HB.out.ok)
  have HJ := hd hjb
  replace HA := hd (HA.out.below hb)
  replace HB := hd (HB.out.below hb)
  replace HBW := hd (below_seq HBW.out hb)
  clear hj hb hfit hjo HR2 hjb
  go_wp2_with fail
  refine (sum_calls HJ.out (by have := HNB.out; omega) (HT.out.below HBW.out) (HCO.out.below HBW.out)).mono ?_
  rintro e w8 ⟨v1, rfl, ho1, hb⟩
  obtain ⟨Ai, ci, rfl, hi⟩ := OwnK.bytes ho1 32 (sumN_length _) (sumN_ok _)
  have HI := hd hi
  replace HA := hd (HA.out.below hb)
  replace HBW := hd (below_seq HBW.out hb)
  clear hb ho1 hi HJ HB HB0
  go_wp2_with ((with_reducible refine gate_dst (N := 21) rfl ?_); refine op_loadA 21 rfl rfl 152 5 136 _ rfl rfl HA.out (cellsOf .u8 (keyN key)) rfl Tryd.underlying152 (by kernel_rfl) (keyN_length key) ?_)
  refine (with_calls (keyN_length key) HKO.out (c := 92) (by decide)).mono ?_
  rintro e w9 ⟨g2, rfl, hg, hb⟩
  have HG := hd hg
  replace HA := hd (HA.out.below hb)
  replace HI := hd (HI.out.below hb)
  replace HBW := hd (below_seq HBW.out hb)
  clear hg hb
  go_wp2_with fail
  have hal := below_alloc (Below.refl w9.heap.size w9) (.cells #[.slice (some ⟨g2, 0, none⟩) 136 136, .slice Ai 32 ci] 40)
  have HR2 := hd (Rows2.new (t := 40) (g := w9.heap.size) (vs := [.slice (some ⟨g2, 0, none⟩) 136 136, .slice Ai 32 ci]) (L := [(keyN key).map (· ^^^ 92), sumN ((keyN key).map (· ^^^ 54) ++ b)]) ⟨⟨_, _, _, rfl, HG.out⟩, ⟨_, _, _, rfl, HI.out⟩, trivial⟩ rfl rfl (by simp))
  replace HA := hd (HA.out.below hal)
  replace HI := hd (HI.out.below hal)
  replace HBW := hd (below_seq HBW.out hal)
  clear hal HG
  generalize w9.alloc (.cells #[.slice (some ⟨g2, 0, none⟩) 136 136, .slice Ai 32 ci] 40) = w10 at HA HI HBW HR2 ⊢
  have hfit : ([(keyN key).map (· ^^^ 92), sumN ((keyN key).map (· ^^^ 54) ++ b)] : List (List Nat)).flatten.length ≤ 140737488355328 := by simp [keyN_length, sumN_length]
  refine (join_calls HR2.out rfl (Nat.le_refl 2) hfit).mono ?_
  rintro e w11 ⟨vj, rfl, hj, hb⟩
  have hjo : ([(keyN key).map (· ^^^ 92), sumN ((keyN key).map (· ^^^ 54) ++ b)] : List (List Nat)).flatten = (keyN key).map (· ^^^ 92) ++ sumN ((keyN key).map (· ^^^ 54) ++ b) := by simp
  rw [hjo] at hj
  obtain ⟨Aj, cj, rfl, hjb⟩ := OwnK.bytes hj (136 + 32) (by rw [List.length_append, List.length_map, keyN_length, sumN_length]) ((map_xor_ok HKO.out (by decide)).append (sumN_ok _))
  have HJ := hd hjb
  replace HA := hd (HA.out.below hb)
  replace HI := hd (HI.out.below hb)
  replace HBW := hd (below_seq HBW.out hb)
  clear hj hb hfit hjo HR2 hjb
  go_wp2_with fail
  refine (sum_calls HJ.out (by decide) (HT.out.below HBW.out) (HCO.out.below HBW.out)).mono ?_
  rintro e w12 ⟨v2, rfl, ho2, hb⟩
  have ho' := ho2.lower HBW.out.size
  have hbz := below_seq HBW.out hb
  clear hb ho2
  go_wp2
  go_ret
  exact ⟨_, rfl, ho', hbz⟩
set_option maxHeartbeats 4000000 in
set_option maxRecDepth 100000 in
theorem three_calls {A B : Option Addr} {ca nb cb : Nat} {ck b : List Nat} {w : World} (hk_ : Bytes w A 32 ca ck) (hb_ : Bytes w B nb cb b) (hn_ : nb ≤ 100000000) (ht_ : TurnsAt w) (hc_ : ConstsAt w) :
    Calls Tryd.prog 68 #[.slice A 32 ca, .slice B nb cb] w fun e w' => ∃ va vb vc, e = .returned (.tuple #[va, vb, vc]) ∧ OwnK .u8 5 w.heap.size w' va (threeA ck b) ∧ OwnK .u8 5 w.heap.size w' vb (threeB ck b) ∧ OwnK .u8 5 w.heap.size w' vc (threeC ck b) ∧ Below w.heap.size w w' := by
  have HM := hd (mac32_calls hk_ hb_ hn_ ht_ hc_)
  have HT := hd ht_
  have HCO := hd hc_
  clear hk_ hb_ hn_ ht_ hc_
  go_enter Tryd.func68, Tryd.ntmps68
  go_wp2_with fail
  refine HM.out.mono ?_
  rintro e w1 ⟨v, rfl, ho, hb⟩
  obtain ⟨At, ct, rfl, ht⟩ := OwnK.bytes ho 32 (macN_length _ _) (macN_ok _ _)
  have HK := hd ht
  have HBW := hd hb
  clear ho ht hb HM
  go_wp2_with fail
  have hal := below_alloc (Below.refl w1.heap.size w1) (.cells #[.int .u8 1] 5)
  have HL := hd (Bytes.new (W := w1) (t := 5) (g := w1.heap.size) (n := 1) (cs := #[.int .u8 1]) [1] rfl rfl rfl (by decide) rfl)
  replace HK := hd (HK.out.below hal)
  replace HBW := hd (below_seq HBW.out hal)
  clear hal
  generalize w1.alloc (.cells #[.int .u8 1] 5) = w2 at HL HK HBW ⊢
  refine (mac32_calls HK.out HL.out (by decide) (HT.out.below HBW.out) (HCO.out.below HBW.out)).mono ?_
  rintro e w3 ⟨v, rfl, ho, hb⟩
  have HOA := hd (show OwnK .u8 5 w.heap.size w3 v (threeA ck b) from ho.lower HBW.out.size)
  replace HK := hd (HK.out.below hb)
  replace HBW := hd (below_seq HBW.out hb)
  obtain ⟨Aa, ca', rfl, ha⟩ := OwnK.bytes HOA.out 32 (threeA_length _ _) (threeA_ok _ _)
  have HA := hd ha
  clear ho hb ha HL
  go_wp2_with fail
  have hal := below_alloc (Below.refl w3.heap.size w3) (.cells #[.int .u8 2] 5)
  have hL := Bytes.new (W := w3) (t := 5) (g := w3.heap.size) (n := 1) (cs := #[.int .u8 2]) [2] rfl rfl rfl (by decide) rfl
  replace HK := hd (HK.out.below hal)
  replace HOA := hd (HOA.out.below hal)
  replace HA := hd (HA.out.below hal)
  replace HBW := hd (below_seq HBW.out hal)
  clear hal
  obtain ⟨gl, HGL⟩ : ∃ gl, Aside0 (w3.heap.size = gl) := ⟨_, ⟨rfl⟩⟩
  have HSZ := hd (World.size_alloc w3 (.cells #[.int .u8 2] 5))
  generalize w3.alloc (.cells #[.int .u8 2] 5) = w4 at hL HK HOA HA HBW HSZ ⊢
  rw [HGL.out] at HSZ hL ⊢
  have HL := hd hL
  have hal := below_alloc (Below.refl w4.heap.size w4) (.cells #[.slice Aa 32 ca', .slice (some ⟨gl, 0, none⟩) 1 1] 40)
  have HR2 := hd (Rows2.new (t := 40) (g := gl + 1) (vs := [.slice Aa 32 ca', .slice (some ⟨gl, 0, none⟩) 1 1]) (L := [threeA ck b, [2]]) ⟨⟨_, _, _, rfl, HA.out⟩, ⟨_, _, _, rfl, HL.out⟩, trivial⟩ rfl HSZ.out.symm (by simp))
  replace HK := hd (HK.out.below hal)
  replace HOA := hd (HOA.out.below hal)
  replace HA := hd (HA.out.below hal)
  replace HBW := hd (below_seq HBW.out hal)
  clear hal hL HL
  generalize w4.alloc (.cells #[.slice Aa 32 ca', .slice (some ⟨gl, 0, none⟩) 1 1] 40) = w5 at HR2 HK HOA HA HBW ⊢
  refine (join_calls HR2.out rfl (Nat.le_refl 2) (by simp [threeA_length])).mono ?_
  rintro e w6 ⟨vj, rfl, hj, hb⟩
  rw [show ([threeA ck b, [2]] : List (List Nat)).flatten = threeA ck b ++ [2] by simp] at hj
  obtain ⟨Aj, cj, rfl, hjb⟩ := OwnK.bytes hj 33 (by rw [List.length_append, threeA_length]; rfl) ((threeA_ok _ _).append (lit_ok' _ rfl))
  have HJ := hd hjb
  replace HK := hd (HK.out.below hb)
  replace HOA := hd (HOA.out.below hb)
  replace HA := hd (HA.out.below hb)
  replace HBW := hd (below_seq HBW.out hb)
  clear hj hb hjb HR2 HSZ HGL
  go_wp2_with fail
  refine (mac32_calls HK.out HJ.out (by decide) (HT.out.below HBW.out) (HCO.out.below HBW.out)).mono ?_
  rintro e w7 ⟨v, rfl, ho, hb⟩
  have HOB := hd (show OwnK .u8 5 w.heap.size w7 v (threeB ck b) from ho.lower HBW.out.size)
  replace HK := hd (HK.out.below hb)
  replace HOA := hd (HOA.out.below hb)
  replace HA := hd (HA.out.below hb)
  replace HBW := hd (below_seq HBW.out hb)
  obtain ⟨Ab, cb', rfl, hb'⟩ := OwnK.bytes HOB.out 32 (threeB_length _ _) (threeB_ok _ _)
  have HB := hd hb'
  clear ho hb hb' HJ HA
  go_wp2_with fail
  have hal := below_alloc (Below.refl w7.heap.size w7) (.cells #[.int .u8 3] 5)
  have hL := Bytes.new (W := w7) (t := 5) (g := w7.heap.size) (n := 1) (cs := #[.int .u8 3]) [3] rfl rfl rfl (by decide) rfl
  replace HK := hd (HK.out.below hal)
  replace HOA := hd (HOA.out.below hal)
  replace HOB := hd (HOB.out.below hal)
  replace HB := hd (HB.out.below hal)
  replace HBW := hd (below_seq HBW.out hal)
  clear hal
  obtain ⟨gl, HGL⟩ : ∃ gl, Aside0 (w7.heap.size = gl) := ⟨_, ⟨rfl⟩⟩
  have HSZ := hd (World.size_alloc w7 (.cells #[.int .u8 3] 5))
  generalize w7.alloc (.cells #[.int .u8 3] 5) = w8 at hL HK HOA HOB HB HBW HSZ ⊢
  rw [HGL.out] at HSZ hL ⊢
  have HL := hd hL
  have hal := below_alloc (Below.refl w8.heap.size w8) (.cells #[.slice Ab 32 cb', .slice (some ⟨gl, 0, none⟩) 1 1] 40)
  have HR2 := hd (Rows2.new (t := 40) (g := gl + 1) (vs := [.slice Ab 32 cb', .slice (some ⟨gl, 0, none⟩) 1 1]) (L := [threeB ck b, [3]]) ⟨⟨_, _, _, rfl, HB.out⟩, ⟨_, _, _, rfl, HL.out⟩, trivial⟩ rfl HSZ.out.symm (by simp))
  replace HK := hd (HK.out.below hal)
  replace HOA := hd (HOA.out.below hal)
  replace HOB := hd (HOB.out.below hal)
  replace HB := hd (HB.out.below hal)
  replace HBW := hd (below_seq HBW.out hal)
  clear hal hL HL
  generalize w8.alloc (.cells #[.slice Ab 32 cb', .slice (some ⟨gl, 0, none⟩) 1 1] 40) = w9 at HR2 HK HOA HOB HB HBW ⊢
  refine (join_calls HR2.out rfl (Nat.le_refl 2) (by simp [threeB_length])).mono ?_
  rintro e w10 ⟨vj, rfl, hj, hb⟩
  rw [show ([threeB ck b, [3]] : List (List Nat)).flatten = threeB ck b ++ [3] by simp] at hj
  obtain ⟨Aj, cj, rfl, hjb⟩ := OwnK.bytes hj 33 (by rw [List.length_append, threeB_length]; rfl) ((threeB_ok _ _).append (lit_ok' _ rfl))
  have HJ := hd hjb
  replace HK := hd (HK.out.below hb)
  replace HOA := hd (HOA.out.below hb)
  replace HOB := hd (HOB.out.below hb)
  replace HB := hd (HB.out.below hb)
  replace HBW := hd (below_seq HBW.out hb)
  clear hj hb hjb HR2 HSZ HGL
  go_wp2_with fail
  refine (mac32_calls HK.out HJ.out (by decide) (HT.out.below HBW.out) (HCO.out.below HBW.out)).mono ?_
  rintro e w11 ⟨v, rfl, ho, hb⟩
  have HOC := hd (show OwnK .u8 5 w.heap.size w11 v (threeC ck b) from ho.lower HBW.out.size)
  replace HK := hd (HK.out.below hb)
  replace HOA := hd (HOA.out.below hb)
  replace HOB := hd (HOB.out.below hb)
  replace HB := hd (HB.out.below hb)
  replace HBW := hd (below_seq HBW.out hb)
  clear ho hb HJ HB HK
  go_wp2
  exact bodyPost_ret (v := .tuple #[.slice Aa 32 ca', .slice Ab 32 cb', v]) (by simp [results, Tryd.results68, go_sem]) rfl ⟨_, _, _, rfl, HOA.out, HOB.out, HOC.out, HBW.out⟩
set_option maxHeartbeats 4000000 in
set_option maxRecDepth 100000 in
theorem two_calls {A B : Option Addr} {ca nb cb : Nat} {ck b : List Nat} {w : World} (hk_ : Bytes w A 32 ca ck) (hb_ : Bytes w B nb cb b) (hn_ : nb ≤ 100000000) (ht_ : TurnsAt w) (hc_ : ConstsAt w) :
    Calls Tryd.prog 64 #[.slice A 32 ca, .slice B nb cb] w fun e w' => ∃ va vb, e = .returned (.tuple #[va, vb]) ∧ OwnK .u8 5 w.heap.size w' va (threeA ck b) ∧ OwnK .u8 5 w.heap.size w' vb (threeB ck b) ∧ Below w.heap.size w w' := by
  have HM := hd (three_calls hk_ hb_ hn_ ht_ hc_)
  clear hk_ hb_ hn_ ht_ hc_
  go_enter Tryd.func64, Tryd.ntmps64
  go_wp2_with fail
  refine HM.out.mono ?_
  rintro e w1 ⟨va, vb, vc, rfl, hoa, hob, hoc, hb⟩
  go_wp2
  exact bodyPost_ret (v := .tuple #[va, vb]) (by simp [results, Tryd.results64, go_sem]) rfl ⟨_, _, rfl, hoa, hob, hb⟩
end Go.Proofs.YtlgdplodglchaaaDoor
