/- The walks through the reference's sums. -/
import Derived.Test.YtlgdplodglchaaaDoorRsp
set_option linter.unusedVariables false
set_option linter.unusedSimpArgs false
namespace Go.Proofs.YtlgdplodglchaaaDoor
open Go.RowKit Go.Proofs.YtlgdplodglchaaaDoorW.PrintWords Go.Proofs.YtlgdplodglchaaaDoorW.PrintLast Go.Proofs.YtlgdplodglchaaaDoorW.PrintMore
theorem OwnK.rowK {k : IntKind} {e base : Nat} {w : World} {A : Option Addr} {n c : Nat} {l : List Nat} (h : OwnK k e base w (.slice A n c) l) : RowK k w A l := h.row.2.2
theorem sub_two (n j : Nat) : n + 1 + j - n - 1 = j := by omega
theorem mod_full {L T rate : Nat} (h : 1 ≤ rate) (q : Nat) (hT : T = rate * (q + 1)) (h1 : rate * q < L) (h2 : L ≤ T) (h3 : L % rate = 0) : L = T := by
 obtain ⟨d, hd⟩ := Nat.dvd_of_mod_eq_zero h3
 subst hd
 subst hT
 have : q < d := Nat.lt_of_mul_lt_mul_left h1
 have h4 : d ≤ q + 1 := Nat.le_of_mul_le_mul_left h2 h
 have : d = q + 1 := by omega
 rw [this]
set_option maxHeartbeats 8000000 in
set_option maxRecDepth 100000 in
theorem rabsorb_calls {rate suf : Nat} (h1_ : 1 ≤ rate) (h2_ : rate ≤ 200) (h8_ : rate % 8 = 0) (hs_ : suf < 256) {B : Option Addr} {n c : Nat} {b : List Nat} {w : World} (hb_ : Bytes w B n c b) (hn_ : n ≤ 1000000000) :
 Calls Tryd.prog 83 #[.int .i64 (rate : Int), .int .u8 (suf : Int), .slice B n c] w fun e w' => ∃ A c', e = .returned (.slice A 25 c') ∧ 25 ≤ c' ∧ OwnK .u64 22 w.heap.size w' (.slice A 25 c') (absN rate suf b) ∧ Below w.heap.size w w' := by
 have HB := hd hb_
 have HBO := hd hb_.ok
 have HBN := hd hb_.2.1
 have HS8 := hd hs_
 have HN := hd hn_
 have HR1 := hd h1_
 have HR2 := hd h2_
 have HR8 := hd h8_
 have q1 : decide ((rate : Int) < 1) = false := decide_eq_false (by omega)
 have q2 : decide ((200 : Int) < (rate : Int)) = false := decide_eq_false (by omega)
 have hr0 : (rate : Int) ≠ 0 := by omega
 have hr0' : ((rate : Int) == 0) = false := by simpa using (show rate ≠ 0 by omega)
 obtain ⟨T, hT⟩ : ∃ T, Aside0 (rate * (n / rate + 1) = T) := ⟨_, ⟨rfl⟩⟩
 have HT := hd (show n < T ∧ T ≤ n + 200 from by
  have h := pad_lt h1_ n
  have := hT.out
  rw [Nat.mul_succ] at this
  have h3 := h.2
  rw [Nat.mul_succ] at h3
  omega)
 clear hb_ hs_ hn_ h1_ h2_ h8_
 go_enter Tryd.func83, Tryd.ntmps83
 go_upto_region 2 with ((with_reducible refine gate_dst (N := 12) rfl ?_); refine op_make 12 rfl 22 25 _ _ rfl rfl 25 rfl rfl Tryd.underlying25 Tryd.infoU64 (by decide) 25 rfl (by decide) ?_; intro Aa ca w1 hck hok hbk)
 have HA := hd hok
 have HCA := hd hck
 have HBW := hd hbk
 replace HB := hd (HB.out.below hbk)
 clear hok hck hbk
 go_upto_region 5 with (fail)
 clear q1 q2
 have hl0 : (([] : List Nat).length + b.length) * 1 ≤ 140737488355328 := by rw [HBN.out]; have := HN.out; simp; omega
 go_upto_region 6 with ((with_reducible refine gate_dst (N := 22) rfl ?_); refine op_append_row (k := .u8) (w0 := w) 22 rfl w.heap.size 5 40 (.tmp 20) (.tmp 21) rfl rfl Tryd.underlying40 Tryd.infoU8 (by decide) (.slice none 0 0) [] b B n c rfl rfl HBN.out.symm (OwnK.nil _ _ _ _) HB.out.1 HBW.out HBW.out.size hl0 ?_; intro v2 w2 ho2 hb2 hg2)
 have hm2 := Mod.grown hg2 (S := fun _ => False) (fun k hk => by cases hk)
 replace HA := hd (HA.out.mod hm2 (fun _ _ _ h => h))
 have HO := hd (show OwnK .u8 5 w.heap.size w2 v2 b from ho2)
 replace HBW := hd hb2
 clear hl0 hm2 ho2 hb2 hg2 HB
 have hl1 : (b.length + 1) * 1 ≤ 140737488355328 := by rw [HBN.out]; have := HN.out; omega
 go_upto_region 7 with ((with_reducible refine gate_dst (N := 26) rfl ?_); at_builtin; refine op_append (k := .u8) (w0 := w) 26 rfl w.heap.size 5 40 (.tmp 23) (.tmp 25) rfl rfl Tryd.underlying40 Tryd.infoU8 (by decide) v2 b _ suf rfl rfl rfl HO.out HBW.out HBW.out.size hl1 ?_; intro v3 w3 ho3 hb3 hg3)
 replace HA := hd (HA.out.mod (Mod.grown hg3 (S := fun k => v2.ownBlock = some k) (fun k hk => hk)) (R_apart HO.out (by decide)))
 have HO3 := hd ho3
 replace HBW := hd hb3
 clear hl1 ho3 hb3 hg3 HO
 go_loopw [8] (fun u8 wr => ∃ j : Nat, n + 1 + j ≤ T ∧ Aside0 (OwnK .u8 5 w.heap.size wr u8 (b ++ [suf] ++ List.replicate j 0)) ∧ Aside0 (OwnK .u64 22 w.heap.size wr (.slice Aa 25 ca) (List.replicate 25 0)) ∧ Aside0 (Below w.heap.size w wr)) (fun u8 _ => T - slLen u8)
 case atStart => exact ⟨0, by have := HT.out; omega, ⟨by rw [List.replicate_zero, List.append_nil]; exact HO3.out⟩, HA, HBW⟩
 case round =>
  obtain ⟨j, hj, HO, HA, HBW⟩ := hrel
  obtain ⟨A8, c8, rfl, hc8, _⟩ := HO.out.slice
  have hlen : (b ++ [suf] ++ List.replicate j 0).length = n + 1 + j := by simp [HBN.out]; omega
  rw [hlen] at hc8 HO ⊢
  obtain ⟨L, hL⟩ : ∃ L, Aside0 (n + 1 + j = L) := ⟨_, ⟨rfl⟩⟩
  rw [hL.out] at hc8 HO hj ⊢
  obtain ⟨m, hm⟩ : ∃ m, Aside0 (L % rate = m) := ⟨_, ⟨rfl⟩⟩
  have t1 : Int.tmod (L : Int) (rate : Int) = (m : Int) := by rw [← hm.out]; exact (Int.ofNat_tmod L rate).symm
  have t2 : (L : Int) % (rate : Int) = (m : Int) := by rw [← hm.out]; exact (Int.natCast_emod L rate).symm
  have HJ := hd hj
  have HC8 := hd hc8
  by_cases hm0 : m = 0
  · have q3 : ((m : Int) != 0) = false := by simp [hm0]
    have HLT := hd (show L = T from mod_full HR1.out (n / rate) hT.out.symm (by have := (pad_lt HR1.out n).1; have := hL.out; omega) hj (by rw [hm.out, hm0]))
    clear hm0 hj hc8
    obtain ⟨gp, rfl, hgp, _⟩ := HO.out.at_ (by have := hL.out; omega)
    have HGP := hd hgp
    have hnA := hd (show (Value.slice Aa 25 ca).ownBlock ≠ some gp from fun e => by
     obtain ⟨cs9, h9⟩ := R_typed HO.out gp rfl
     exact R_not HA.out h9 (by decide) e)
    obtain ⟨l1, hl1⟩ : ∃ l1, Aside0 (L - 1 = l1) := ⟨_, ⟨rfl⟩⟩
    have HL1 := hd (show l1 < L ∧ l1 ≤ 2000000000 ∧ l1 + 1 = L by have := hl1.out; have := hL.out; have := HLT.out; have := HT.out; have := HN.out; omega)
    obtain ⟨x, HX, hx, fx⟩ := HO.out.cellx l1 HL1.out.1
    obtain ⟨y, HY⟩ : ∃ y, Aside0 (x ^^^ 128 = y) := ⟨_, ⟨rfl⟩⟩
    have h1ok := hd (show BytesOK (b ++ [suf] ++ List.replicate j 0) from (HBO.out.append (BytesOK.cons HS8.out BytesOK.nil)).append (BytesOK.replicate (by decide)))
    have e1 : bits .xor .u8 (x : Int) 128 = (y : Int) := by rw [← HY.out]; exact xor_u8 (by rw [← HX.out]; exact h1ok.out.getD _) (by decide)
    have e2 : (L : Int) - 1 = (l1 : Int) := by have := HL1.out.2.2; omega
    have e3 : wrap64 (l1 : Int) = (l1 : Int) := IntWalk.wrap64_in _ (by have := HL1.out.2.1; omega)
    have e4 : wrap64 ((L : Int) - 1) = (l1 : Int) := by rw [e2, e3]
    have jl : (l1 : Int) < L := Int.ofNat_lt.2 HL1.out.1
    have jc : (L : Int) ≤ c8 := Int.ofNat_le.2 HC8.out
    go_upto_region 10 with (fail)
    have h2 := hd (HO.out.put l1 y)
    obtain ⟨P, hP⟩ : ∃ P, Aside0 (padR rate suf b = P) := ⟨_, ⟨rfl⟩⟩
    have hjj := hd (show L - n - 1 = j by rw [← hL.out]; exact sub_two n j)
    have hP2 : (b ++ [suf] ++ List.replicate j 0).set l1 y = P := by
     rw [← hP.out, padR, HBN.out, hT.out, ← HLT.out, hl1.out]
     rw [hjj.out, HX.out, HY.out]
    rw [hP2, HLT.out] at h2
    replace HA := hd (HA.out.far (g := gp) (i := l1) hnA.out (.int .u8 (y : Int)))
    replace HBW := hd (HBW.out.setCell (p := ⟨gp, l1, none⟩) HGP.out (.int .u8 (y : Int)))
    rw [HLT.out] at jc ⊢
    generalize wr.setCell ⟨gp, l1, none⟩ (.int .u8 (y : Int)) = w6 at h2 HA HBW ⊢
    clear hx fx e1 e2 e3 e4 jl t1 t2 q3 HO hP2
    have HPO := hd (show BytesOK P by rw [← hP.out]; exact padR_ok HS8.out HBO.out)
    have HPL := hd (show P.length = T by rw [← hP.out, padR_length HR1.out, HBN.out]; exact hT.out)
    go_upto_region 11 with (fail)
    go_loopw [7, 9, 10, 11] (fun u7 u9 u10 u11 wr => ∃ (q : Nat) (A7 : Option Addr) (c7 : Nat), q ≤ n / rate + 1 ∧ u9 = .int .i64 ((rate * q : Nat) : Int) ∧ u7 = .slice A7 25 c7 ∧ Aside0 (25 ≤ c7) ∧ Aside0 (OwnK .u64 22 w.heap.size wr (.slice A7 25 c7) (pbN rate P q)) ∧ Aside0 (OwnK .u8 5 w.heap.size wr (.slice (some ⟨gp, 0, none⟩) T c8) P) ∧ Aside0 (Below w.heap.size w wr)) (fun _ u9 _ _ _ => T - (intOf u9).toNat)
    case atStart => exact ⟨0, Aa, ca, Nat.zero_le _, by rw [Nat.mul_zero]; rfl, rfl, HCA, HA, h2, HBW⟩
    case round =>
     clear HA HCA h2 hnA
     obtain ⟨q, A7, c7, hq, rfl, rfl, HCA, HA, HP, HBW⟩ := hrel
     obtain ⟨iq, hiq⟩ : ∃ iq, Aside0 (rate * q = iq) := ⟨_, ⟨rfl⟩⟩
     rw [hiq.out]
     by_cases hlt : iq < T
     · have i1 : (iq : Int) < T := Int.ofNat_lt.2 hlt
       have HQ := hd (show iq + rate ≤ T ∧ q + 1 ≤ n / rate + 1 from by
        have h1 : q < n / rate + 1 := Nat.lt_of_mul_lt_mul_left (show rate * q < rate * (n / rate + 1) by rw [hiq.out, hT.out]; exact hlt)
        refine ⟨?_, h1⟩
        rw [← hiq.out, ← Nat.mul_succ, ← hT.out]
        exact Nat.mul_le_mul_left _ h1)
       obtain ⟨a, ha⟩ : ∃ a, Aside0 (pbN rate P q = a) := ⟨_, ⟨rfl⟩⟩
       rw [ha.out] at HA
       have HAL := hd (show a.length = 25 by rw [← ha.out]; exact pbN_length _ _ _)
       have HAO := hd (show Lanes a by rw [← ha.out]; exact pbN_ok HPO.out q)
       clear hq hlt jc
       go_wp2_with fail
       refine (rbytes_calls HA.out.rowK HAL.out HAO.out HCA.out).mono ?_
       rintro e w7 ⟨v, rfl, ho, hb⟩
       have hbl : (bytesN a).length = 200 := by rw [bytesN_length, HAL.out]
       obtain ⟨As, cs, rfl, hcs, _⟩ := ho.slice
       rw [hbl] at ho hcs ⊢
       obtain ⟨gs, rfl, hgs, hgs2⟩ := ho.at_ (by decide)
       have HS := hd (ho.lower HBW.out.size)
       have HGS := hd (show w.heap.size ≤ gs ∧ gp ≠ gs from ⟨Nat.le_trans HBW.out.size hgs, by have := (HP.out.lt gp rfl).2; omega⟩)
       have hcs1 : (200 : Int) ≤ cs := by omega
       replace HA := hd (HA.out.below hb)
       replace HP := hd (HP.out.below hb)
       have hnA := hd (show (Value.slice A7 25 c7).ownBlock ≠ some gs from fun e => by
        obtain ⟨cs9, h9⟩ := R_typed ho gs rfl
        exact R_not HA.out h9 (by decide) e)
       replace HBW := hd (below_seq HBW.out hb)
       have HCS := hd hcs
       clear ho hb hgs hgs2 hbl hcs i1
       go_upto_region 15 with (fail)
       go_loopw [11] (fun u11 wr => ∃ k : Nat, k ≤ rate ∧ u11 = .int .i64 k ∧ Aside0 (OwnK .u8 5 w.heap.size wr (.slice (some ⟨gs, 0, none⟩) 200 cs) (upto (overF (bytesN a) (blkN rate P q)) (bytesN a) k)) ∧ Aside0 (OwnK .u64 22 w.heap.size wr (.slice A7 25 c7) a) ∧ Aside0 (OwnK .u8 5 w.heap.size wr (.slice (some ⟨gp, 0, none⟩) T c8) P) ∧ Aside0 (Below w.heap.size w wr)) (fun u11 _ => rate - (intOf u11).toNat)
       case atStart => exact ⟨0, Nat.zero_le _, rfl, ⟨by rw [upto_zero]; exact HS.out⟩, HA, HP, HBW⟩
       case round =>
        obtain ⟨k, hk, rfl, HS, HA, HP, HBW⟩ := hrel
        by_cases hlt : k < rate
        · have i1 : (k : Int) < rate := Int.ofNat_lt.2 hlt
          have i2 : (k : Int) < 200 := by have := HR2.out; omega
          obtain ⟨pk, hpk⟩ : ∃ pk, Aside0 (iq + k = pk) := ⟨_, ⟨rfl⟩⟩
          have HPK := hd (show pk < T by have := hpk.out; have := HQ.out.1; omega)
          have u1 : wrap64 ((iq : Int) + (k : Int)) = (pk : Int) := (IntWalk.wrap64_in _ (by have := hpk.out; have := HPK.out; have := HT.out; have := HN.out; omega)).trans (by rw [← hpk.out]; push_cast; rfl)
          have jpk : (pk : Int) < T := Int.ofNat_lt.2 HPK.out
          have jc : (T : Int) ≤ c8 := by have := HC8.out; have := HLT.out; omega
          clear hk
          go_upto_region 17 with (fail)
          refine upR_start Keeps.any [14] [(0, 1), (1, 1), (2, 1), (3, 1), (4, 1), (5, 1), (6, 1), (7, 1), (8, 1), (9, 1), (10, 1), (11, 1), (12, 1), (13, 1), (14, 0)] (by kernel_rfl) rfl (by kernel_rfl) (by kernel_rfl) ?_
          have hdr := below_drew (Below.refl wr.heap.size wr)
          replace HS := hd (HS.out.below hdr)
          replace HP := hd (HP.out.below hdr)
          replace HA := hd (HA.out.below hdr)
          replace HBW := hd (below_seq HBW.out hdr)
          generalize wr.drew = w5 at hdr HS HP HA HBW ⊢
          clear hdr
          obtain ⟨x0, X0, hx0, fx0⟩ := HS.out.cellx (k) (by have := HR2.out; omega)

          have gx0 := Grow.cells hx0
          obtain ⟨y0, Y0, hy0, fy0⟩ := HP.out.cellx (pk) (HPK.out)
          have gy0 := Grow.cells hy0
          clear hy0 fy0
          have X0' := X0.out
          rw [upto_old _ _ _ _ (Nat.le_refl k)] at X0'
          have Y0' : (blkN rate P q).getD k 0 = y0 := by rw [← Y0.out, blkN, List.getD_eq_getElem?_getD, List.getElem?_take_of_lt hlt, List.getElem?_drop, List.getD_eq_getElem?_getD, ← hpk.out, ← hiq.out]
          obtain ⟨y, HY⟩ : ∃ y, Aside0 (overF (bytesN a) (blkN rate P q) k = y) := ⟨_, ⟨rfl⟩⟩
          have lx : x0 < 256 := by rw [← X0']; exact (bytesN_ok a).getD _
          have ly : y0 < 256 := by rw [← Y0']; exact (blkN_ok HPO.out q).getD _
          have e1 : bits .xor .u8 (x0 : Int) (y0 : Int) = (y : Int) := by rw [xor_u8 lx ly, ← HY.out, overF, X0', Y0']
          clear X0' Y0' lx ly
          refine rseq_pure (i := 0) (N := some 61) (v := ?_) (a' := ?_) rfl rfl (by rfl) (fun _ _ _ h => h) ?_ ?_ ?_
          rotate_left 2
          · intro w' hg; go_simp; with_reducible rfl
          · simp only [Act.put, List.setIfInBounds_toArray, List.set_cons_zero, List.set_cons_succ, i64_w, i32_w]; rfl
          refine rseq_pure (i := 1) (N := some 62) (v := ?_) (a' := ?_) rfl rfl (by rfl) (fun _ _ _ h => h) ?_ ?_ ?_
          rotate_left 2
          · intro w' hg; go_simp; with_reducible rfl
          · simp only [Act.put, List.setIfInBounds_toArray, List.set_cons_zero, List.set_cons_succ, i64_w, i32_w]; rfl
          refine rseq_pure (i := 2) (N := some 63) (v := ?_) (a' := ?_) rfl rfl (by rfl) (fun _ _ _ h => h) ?_ ?_ ?_
          rotate_left 2
          · intro w' hg; go_simp; with_reducible rfl
          · simp only [Act.put, List.setIfInBounds_toArray, List.set_cons_zero, List.set_cons_succ, i64_w, i32_w]; rfl
          refine rseq_pure (i := 3) (N := some 64) (v := ?_) (a' := ?_) rfl rfl (by rfl) (fun _ _ _ h => h) ?_ ?_ ?_
          rotate_left 2
          · intro w' hg; go_simp; with_reducible rfl
          · simp only [Act.put, List.setIfInBounds_toArray, List.set_cons_zero, List.set_cons_succ, i64_w, i32_w]; rfl
          refine rseq_pure (i := 4) (N := some 65) (v := ?_) (a' := ?_) rfl rfl (by rfl) (fun _ _ _ h => h) ?_ ?_ ?_
          rotate_left 2
          · intro w' hg; go_simp; with_reducible rfl
          · simp only [Act.put, List.setIfInBounds_toArray, List.set_cons_zero, List.set_cons_succ, i64_w, i32_w]; rfl
          refine rseq_pure (i := 5) (N := some 66) (v := ?_) (a' := ?_) rfl rfl (by rfl) (fun _ _ _ h => h) ?_ ?_ ?_
          rotate_left 2
          · intro w' hg; go_simp; with_reducible rfl
          · simp only [Act.put, List.setIfInBounds_toArray, List.set_cons_zero, List.set_cons_succ, i64_w, i32_w]; rfl
          refine rseq_pure (i := 6) (N := some 67) (v := ?_) (a' := ?_) rfl rfl (by rfl) (fun _ _ _ h => h) ?_ ?_ ?_
          rotate_left 2
          · intro w' hg; go_simp; with_reducible rfl
          · simp only [Act.put, List.setIfInBounds_toArray, List.set_cons_zero, List.set_cons_succ, i64_w, i32_w]; rfl
          refine rseq_pure (i := 7) (N := some 68) (v := ?_) (a' := ?_) rfl rfl (by rfl) (fun _ _ _ h => h) ?_ ?_ ?_
          rotate_left 2
          · intro w' hg; go_simp; with_reducible rfl
          · simp only [Act.put, List.setIfInBounds_toArray, List.set_cons_zero, List.set_cons_succ, i64_w, i32_w]; rfl
          refine rseq_pure (i := 8) (N := some 69) (v := ?_) (a' := ?_) rfl rfl (by rfl) (fun _ _ _ h => h) ?_ ?_ ?_
          rotate_left 2
          · intro w' hg; go_simp; with_reducible rfl
          · simp only [Act.put, List.setIfInBounds_toArray, List.set_cons_zero, List.set_cons_succ, i64_w, i32_w]; rfl
          refine rseq_pure (i := 9) (N := some 70) (v := ?_) (a' := ?_) rfl rfl (by rfl) (fun _ _ _ h => h) ?_ ?_ ?_
          rotate_left 2
          · intro w' hg; go_simp; with_reducible rfl
          · simp only [Act.put, List.setIfInBounds_toArray, List.set_cons_zero, List.set_cons_succ, i64_w, i32_w]; rfl
          refine rseq_pure (i := 10) (N := some 71) (v := ?_) (a' := ?_) rfl rfl (by rfl) (fun _ _ _ h => h) ?_ ?_ ?_
          rotate_left 2
          · intro w' hg; go_simp; with_reducible rfl
          · simp only [Act.put, List.setIfInBounds_toArray, List.set_cons_zero, List.set_cons_succ, i64_w, i32_w]; rfl
          refine rseq_pure (i := 11) (N := some 72) (v := ?_) (a' := ?_) rfl rfl (by rfl) (fun _ _ _ h => h) ?_ ?_ ?_
          rotate_left 2
          · intro w' hg; go_simp; with_reducible rfl
          · simp only [Act.put, List.setIfInBounds_toArray, List.set_cons_zero, List.set_cons_succ, i64_w, i32_w]; rfl
          refine rseq_pure (i := 12) (N := some 73) (v := ?_) (a' := ?_) rfl rfl (by rfl) (fun _ _ _ h => h) ?_ ?_ ?_
          rotate_left 2
          · intro w' hg; go_simp; with_reducible rfl
          · simp only [Act.put, List.setIfInBounds_toArray, List.set_cons_zero, List.set_cons_succ, i64_w, i32_w]; rfl
          refine rseq_pure (i := 13) (N := some 74) (v := ?_) (a' := ?_) rfl rfl (by rfl) (fun _ _ _ h => h) ?_ ?_ ?_
          rotate_left 2
          · intro w' hg; go_simp; with_reducible rfl
          · simp only [Act.put, List.setIfInBounds_toArray, List.set_cons_zero, List.set_cons_succ, i64_w, i32_w]; rfl
          refine rseq_skip (i := 14) (w1 := ?_) rfl rfl (by rfl) ?_ ?_ ?_
          rotate_left
          · go_simp
            rfl
          · exact ⟨fun h => absurd (by decide) h, trivial⟩
          refine rseq_done ?_
          have h2 := hd (HS.out.put k y)
          rw [upto_succ _ _ k y (by rw [bytesN_length, HAL.out]; have := HR2.out; omega) HY.out.symm] at h2
          replace HA := hd (HA.out.far (g := gs) (i := k) hnA.out (.int .u8 (y : Int)))
          replace HP := hd (HP.out.far (g := gs) (i := k) (sl_ne HGS.out.2) (.int .u8 (y : Int)))
          replace HBW := hd (HBW.out.setCell (p := ⟨gs, k, none⟩) HGS.out.1 (.int .u8 (y : Int)))
          generalize w5.setCell ⟨gs, k, none⟩ (.int .u8 (y : Int)) = w8 at h2 HA HP HBW ⊢
          clear hx0 fx0 gx0 gy0 e1 HS u1 jpk jc
          go_wp2
          go_roundw
          case rel => exact ⟨k + 1, hlt, by go_num, h2, HA, HP, HBW⟩
          case measure => simp [intOf]; omega
        · have i1 : ¬ ((k : Int) < rate) := by omega
          obtain rfl : k = rate := by omega
          clear hk hlt
          have hbk : (blkN k P q).length = k := by rw [blkN, List.length_take, List.length_drop, HPL.out, hiq.out]; have := HQ.out.1; omega
          have hov := lanes_over HAL.out HAO.out (blkN_ok (rate := k) HPO.out q) (by rw [hbk]; exact HR8.out) (by rw [hbk]; exact HR2.out)
          rw [hbk] at hov
          have HOV := hd hov
          have hsok : BytesOK (upto (overF (bytesN a) (blkN k P q)) (bytesN a) k) := fun z hz => by
           obtain ⟨m, _, rfl⟩ := List.mem_map.1 hz
           split
           · exact xor_lt ((bytesN_ok a).getD _) ((blkN_ok HPO.out q).getD _)
           · exact (bytesN_ok a).getD _
          have HSB := hd (own_bytes HS.out hsok)
          clear hbk hov hsok HS HA
          go_wp2_with fail
          refine (rstate_calls HSB.out).mono ?_
          rintro e w8 ⟨A9, c9, rfl, hc9, ho, hb⟩
          rw [HOV.out] at ho
          have HO9 := hd ho
          have HC9 := hd hc9
          replace HP := hd (HP.out.below hb)
          replace HBW := hd (below_seq HBW.out hb)
          clear ho hb hc9 HSB
          go_wp2_with fail
          refine (fast_calls (layN_ok HAO.out (blkN_ok HPO.out q)) (layN_length _ _) HO9.out.rowK HC9.out).mono ?_
          rintro e w9 ⟨g9, cc9, rfl, hcc, hg, ho, hb⟩
          have HA9 := hd (show OwnK .u64 22 w.heap.size w9 (.slice (some ⟨g9, 0, none⟩) 25 cc9) (pbN k P (q + 1)) by rw [pbN, ha.out]; exact ho.lower HBW.out.size)
          have HC := hd hcc
          replace HP := hd (HP.out.below hb)
          replace HBW := hd (below_seq HBW.out hb)
          clear ho hb hcc hg HO9
          have u1 : wrap64 ((iq : Int) + (k : Int)) = (iq : Int) + (k : Int) := IntWalk.wrap64_in _ (by have := HQ.out.1; have := HT.out; have := HN.out; omega)
          have u2 : (iq : Int) + (k : Int) ≤ 2000000000 := by have := HQ.out.1; have := HT.out; have := HN.out; omega
          go_wp2
          go_roundw
          case rel => exact ⟨q + 1, _, _, HQ.out.2, by rw [Nat.mul_succ, hiq.out]; push_cast; first | rfl | (congr 1), rfl, HC, HA9, HP, HBW⟩
          case measure => simp [intOf, u1]; have := HQ.out.1; have := HR1.out; omega
     · have i1 : ¬ ((iq : Int) < T) := by omega
       have hqq : q = n / rate + 1 := by
        have h1 : rate * (n / rate + 1) ≤ rate * q := by rw [hiq.out, hT.out]; omega
        have h2 := Nat.le_of_mul_le_mul_left h1 HR1.out
        omega
       subst hqq
       clear hq hlt jc
       have hfin : pbN rate P (n / rate + 1) = absN rate suf b := by rw [← hP.out, ← HBN.out]; exact pb_all HR1.out
       rw [hfin] at HA
       clear hfin
       go_wp2
       go_ret
       exact ⟨A7, c7, rfl, HCA.out, HA.out, HBW.out⟩
  · have q3 : ((m : Int) != 0) = true := by simpa using hm0
    have HLT := hd (show L < T from by
     rcases Nat.lt_or_ge L T with h | h
     · exact h
     · exfalso
       have e : L = T := by omega
       rw [e, ← hT.out, Nat.mul_mod_right] at hm
       exact hm0 hm.out.symm)
    have hl1 : ((b ++ [suf] ++ List.replicate j 0).length + 1) * 1 ≤ 140737488355328 := by rw [hlen]; have := HJ.out; have := HT.out; have := HN.out; have := hL.out; omega
    clear hm0 hj hc8
    go_upto_region 8 with (fail)
    clear t1 t2 q3
    go_wp2_with ((with_reducible refine gate_dst (N := 34) rfl ?_); at_builtin; refine op_append (k := .u8) (w0 := w) 34 rfl w.heap.size 5 40 (.tmp 32) (.tmp 33) rfl rfl Tryd.underlying40 Tryd.infoU8 (by decide) _ (b ++ [suf] ++ List.replicate j 0) _ 0 rfl rfl rfl HO.out HBW.out HBW.out.size hl1 ?_; intro v9 w9 ho9 hb9 hg9)
    replace HA := hd (HA.out.mod (Mod.grown hg9 (S := fun k => (Value.slice A8 L c8).ownBlock = some k) (fun k hk => hk)) (R_apart HO.out (by decide)))
    have HO9 := hd (show OwnK .u8 5 w.heap.size w9 v9 (b ++ [suf] ++ List.replicate (j + 1) 0) by rw [List.replicate_succ', ← List.append_assoc]; exact ho9)
    have HBW9 := hd hb9
    clear ho9 hb9 hg9 hl1
    obtain ⟨A7, c7, hv7, _⟩ := HO9.out.slice
    go_roundw
    case rel => exact ⟨j + 1, by have := HLT.out; have := hL.out; omega, HO9, HA, HBW9⟩
    case measure =>
     rw [hv7]
     simp [slLen, HBN.out]
     have := HLT.out
     have := hL.out
     omega
end Go.Proofs.YtlgdplodglchaaaDoor
