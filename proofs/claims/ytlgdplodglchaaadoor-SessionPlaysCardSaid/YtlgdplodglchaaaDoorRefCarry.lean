/- The walk through redanref08.carry. -/
import Derived.Test.YtlgdplodglchaaaDoorProg
import Derived.Test.YtlgdplodglchaaaDoorGPlain2
import Derived.Test.YtlgdplodglchaaaDoorGLib
set_option linter.unusedVariables false
set_option linter.unusedSimpArgs false
namespace Go.Proofs.YtlgdplodglchaaaDoor
open Go.RowKit Go.Proofs.YtlgdplodglchaaaDoorW.PrintWords Go.Proofs.YtlgdplodglchaaaDoorW.PrintLast Go.Proofs.YtlgdplodglchaaaDoorW.PrintMore

theorem Tryd.infoI64 : (Tryd.prog.info? 3).map (fun i => (i.zero, i.size, i.bytes)) = some (some (.int .i64 0), 1, 8) := by kernel_rfl
set_option maxHeartbeats 2000000 in
set_option maxRecDepth 100000 in
theorem carry_calls {A : Option Addr} {ca n M : Nat} {L : List Nat} {w : World} (hL : RowK .i64 w A L) (hca : L.length ≤ ca) (hx : ∀ x ∈ L, x < 1099511627776) (hM : M = max L.length n) (hM2 : M ≤ 200000) :
    Calls Tryd.prog 121 #[.slice A L.length ca, .int .i64 (n : Int)] w fun e w' => ∃ v D, e = .returned v ∧ OwnK .i64 3 w.heap.size w' v D ∧ BytesOK D ∧ loadN D = loadN L ∧ M ≤ D.length ∧ (D.length ≤ M ∨ 256 ^ (D.length - 1) ≤ loadN L) ∧ D.length ≤ M + 6 ∧ Below w.heap.size w w' := by
  have HL := hd hL
  have HX := hd hx
  obtain ⟨la, hla⟩ : ∃ la, la = L.length := ⟨_, rfl⟩
  rw [← hla] at hca ⊢
  have hLa : la ≤ M := by omega
  have hnM : n ≤ M := by omega
  have hMx : M = la ∨ M = n := by omega
  have HLA := hd hla
  clear hL hx hM hla
  go_enter Tryd.func121, Tryd.ntmps121
  go_wp2_with fail
  go_loopw [5, 6, 7] (fun v c i wr => ∃ (k c' : Nat) (D : List Nat), i = .int .i64 k ∧ c = .int .i64 (c' : Int) ∧ OwnK .i64 3 w.heap.size wr v D ∧ BytesOK D ∧ D.length = k ∧ loadN D + 256 ^ k * c' = loadN (L.take k) ∧ c' ≤ 2199023255552 ∧ k ≤ M + 6 ∧ (k ≤ M ∨ 256 ^ (k - 1) ≤ loadN L) ∧ (M ≤ k → c' * 256 ^ (k - M) ≤ 2199023255552) ∧ Below w.heap.size w wr) (fun _ c i _ => 4398046511104 * (M + 6 - (intOf i).toNat) + (intOf c).toNat)
  case atStart => exact ⟨0, 0, [], rfl, rfl, OwnK.nil _ _ _ _, BytesOK.nil, rfl, rfl, by omega, by omega, Or.inl (Nat.zero_le _), fun _ => by omega, Below.refl _ _⟩
  case round =>
    obtain ⟨k, c, D, rfl, rfl, ho, hdb, hdl, hv, hc, hk6, hkM, hcM, hb⟩ := hrel
    have HDB := hd hdb
    have HDL := hd hdl
    have HV := hd hv
    have HKM := hd hkM
    have HCM := hd hcM
    clear hdb hdl hv hkM hcM
    have c0 : (0 : Int) ≤ c := by omega
    have c1 : (c : Int) ≤ 2199023255552 := by omega
    by_cases h1 : k < la
    · have q1 : decide ((k : Int) < (la : Int)) = true := by simp; omega
      obtain ⟨ad, x, rfl, HX0, hcell⟩ := (HL.out.below hb).at_ k (by rw [← HLA.out]; exact h1)
      have hx : x < 1099511627776 := by
        rw [← HX0.out, List.getD_eq_getElem?_getD, List.getElem?_eq_getElem (by rw [← HLA.out]; exact h1)]
        exact HX.out _ (List.getElem_mem _)
      have i1 : (k : Int) < (la : Int) := by omega
      obtain ⟨t, HT⟩ : ∃ t, Aside0 (c + x = t) := ⟨_, ⟨rfl⟩⟩
      have ht : (c : Int) + (x : Int) = (t : Int) := by have := HT.out; omega
      have ht2 : t < 4398046511104 := by have := HT.out; omega
      obtain ⟨r, HR⟩ : ∃ r, Aside0 (t % 256 = r) := ⟨_, ⟨rfl⟩⟩
      obtain ⟨d, HD⟩ : ∃ d, Aside0 (t / 256 = d) := ⟨_, ⟨rfl⟩⟩
      have s1 : (t : Int).tmod 256 = (r : Int) := by rw [Int.tmod_eq_emod_of_nonneg (by omega)]; have := HR.out; omega
      have s2 : (t : Int).tdiv 256 = (d : Int) := by rw [Int.tdiv_eq_ediv_of_nonneg (by omega)]; have := HD.out; omega
      have s3 : (t : Int) / 256 = (d : Int) := by have := HD.out; omega
      have s4 : (t : Int) ≤ 4398046511104 := by omega
      have s5 : (0 : Int) ≤ t := by omega
      have s6 : (k : Int) ≤ 300000 := by omega
      have s7 : (0 : Int) ≤ k := by omega
      have HST := hd (carry_step (loadN D) (loadN (L.take k)) c x (256 ^ k) HV.out)
      have hs := hb.size
      clear ht2
      go_wp2_with ((with_reducible refine gate_dst (N := 37) rfl ?_); at_builtin; refine op_append (k := .i64) (w0 := w) 37 rfl w.heap.size 3 68 _ _ rfl rfl Tryd.underlying68 Tryd.infoI64 (by decide) u5 D _ r rfl rfl rfl ho hb hs (by have := HDL.out; omega) ?_; intro v1 w1 ho1 hb1 hg1)
      go_roundw
      case rel =>
        have hst := HST.out
        rw [HT.out, HR.out, HD.out, ← pow256_succ] at hst
        refine ⟨k + 1, d, D ++ [r], by go_num, rfl, ho1, HDB.out.append (fun y hy => by simp at hy; have := HR.out; omega), by rw [List.length_append, HDL.out]; rfl, ?_, by have := HD.out; omega, by omega, ?_, ?_, hb1⟩
        · rw [loadN_snoc0, HDL.out, hst]
          rw [loadN_take_succ L k (by rw [← HLA.out]; exact h1), HX0.out]
        · exact Or.inl (by omega)
        · intro hm
          rcases Nat.lt_or_ge k M with h1 | h1
          · obtain rfl : M = k + 1 := by omega
            rw [Nat.sub_self, Nat.pow_zero, Nat.mul_one]
            have := HD.out
            omega
          · have h2 := HCM.out h1
            have h3 : k + 1 - M = (k - M) + 1 := by omega
            rw [h3, pow256_succ, ← Nat.mul_assoc]
            have h4 : d * 256 ≤ c + x := by have := HD.out; have := HT.out; omega
            omega
      case measure => simp [intOf]; have := HD.out; have := HT.out; omega
    · have q1 : decide ((k : Int) < (la : Int)) = false := by simp; omega
      have htk : L.take k = L := List.take_of_length_le (by rw [← HLA.out]; omega)
      have htk1 : L.take (k + 1) = L := List.take_of_length_le (by rw [← HLA.out]; omega)
      by_cases h2 : 0 < c
      · have q2 : decide ((0 : Int) < (c : Int)) = true := by simp; omega
        have hpos : 256 ^ k ≤ loadN L := by
          have := HV.out
          rw [htk] at this
          have h3 : 256 ^ k * 1 ≤ 256 ^ k * c := Nat.mul_le_mul_left _ h2
          omega
        have HPOS := hd hpos
        have hk5 : k + 1 ≤ M + 6 := by
          rcases Nat.lt_or_ge k M with h1 | h1
          · omega
          · have h3 := HCM.out h1
            have h4 : 1 * 256 ^ (k - M) ≤ c * 256 ^ (k - M) := Nat.mul_le_mul_right _ h2
            rcases Nat.lt_or_ge (k - M) 6 with h5 | h5
            · omega
            · have h6 : (256 : Nat) ^ 6 ≤ 256 ^ (k - M) := Nat.pow_le_pow_right (by decide) h5
              omega
        clear hpos
        obtain ⟨r, HR⟩ : ∃ r, Aside0 (c % 256 = r) := ⟨_, ⟨rfl⟩⟩
        obtain ⟨d, HD⟩ : ∃ d, Aside0 (c / 256 = d) := ⟨_, ⟨rfl⟩⟩
        have s1 : (c : Int).tmod 256 = (r : Int) := by rw [Int.tmod_eq_emod_of_nonneg (by omega)]; have := HR.out; omega
        have s2 : (c : Int).tdiv 256 = (d : Int) := by rw [Int.tdiv_eq_ediv_of_nonneg (by omega)]; have := HD.out; omega
        have s3 : (c : Int) / 256 = (d : Int) := by have := HD.out; omega
        have s6 : (k : Int) ≤ 300000 := by omega
        have s7 : (0 : Int) ≤ k := by omega
        have HST := hd (carry_step (loadN D) (loadN (L.take k)) c 0 (256 ^ k) HV.out)
        have hs := hb.size
        go_wp2_with ((with_reducible refine gate_dst (N := 37) rfl ?_); at_builtin; refine op_append (k := .i64) (w0 := w) 37 rfl w.heap.size 3 68 _ _ rfl rfl Tryd.underlying68 Tryd.infoI64 (by decide) u5 D _ r rfl rfl rfl ho hb hs (by have := HDL.out; omega) ?_; intro v1 w1 ho1 hb1 hg1)
        go_roundw
        case rel =>
          have hst := HST.out
          rw [Nat.add_zero, HR.out, HD.out, ← pow256_succ, Nat.mul_zero, Nat.add_zero, htk] at hst
          refine ⟨k + 1, d, D ++ [r], by go_num, rfl, ho1, HDB.out.append (fun y hy => by simp at hy; have := HR.out; omega), by rw [List.length_append, HDL.out]; rfl, ?_, by have := HD.out; omega, by omega, ?_, ?_, hb1⟩
          · rw [loadN_snoc0, HDL.out, htk1, hst, Nat.add_zero]
          · exact Or.inr (by rw [Nat.add_sub_cancel]; exact HPOS.out)
          · intro hm
            rcases Nat.lt_or_ge k M with h1 | h1
            · obtain rfl : M = k + 1 := by omega
              rw [Nat.sub_self, Nat.pow_zero, Nat.mul_one]
              have := HD.out
              omega
            · have h2 := HCM.out h1
              have h3 : k + 1 - M = (k - M) + 1 := by omega
              rw [h3, pow256_succ, ← Nat.mul_assoc]
              refine Nat.le_trans (Nat.mul_le_mul_right _ ?_) h2
              have := HD.out
              omega
        case measure => simp [intOf]; have := HD.out; omega
      · obtain rfl : c = 0 := by omega
        have q2 : decide ((0 : Int) < ((0 : Nat) : Int)) = false := by decide
        by_cases h3 : k < n
        · have q3 : decide ((k : Int) < (n : Int)) = true := by simp; omega
          have hk5 : k + 1 ≤ M + 6 := by omega
          obtain ⟨r, HR⟩ : ∃ r, Aside0 (0 % 256 = r) := ⟨_, ⟨rfl⟩⟩
          obtain ⟨d, HD⟩ : ∃ d, Aside0 (0 / 256 = d) := ⟨_, ⟨rfl⟩⟩
          have s1 : (0 : Int).tmod 256 = (r : Int) := by rw [Int.tmod_eq_emod_of_nonneg (by omega)]; have := HR.out; omega
          have s2 : (0 : Int).tdiv 256 = (d : Int) := by rw [Int.tdiv_eq_ediv_of_nonneg (by omega)]; have := HD.out; omega
          have s3 : (0 : Int) / 256 = (d : Int) := by have := HD.out; omega
          have s6 : (k : Int) ≤ 300000 := by omega
          have s7 : (0 : Int) ≤ k := by omega
          have HST := hd (carry_step (loadN D) (loadN (L.take k)) 0 0 (256 ^ k) HV.out)
          have hs := hb.size
          go_wp2_with ((with_reducible refine gate_dst (N := 37) rfl ?_); at_builtin; refine op_append (k := .i64) (w0 := w) 37 rfl w.heap.size 3 68 _ _ rfl rfl Tryd.underlying68 Tryd.infoI64 (by decide) u5 D _ r rfl rfl rfl ho hb hs (by have := HDL.out; omega) ?_; intro v1 w1 ho1 hb1 hg1)
          go_roundw
          case rel =>
            have hst := HST.out
            rw [Nat.add_zero, HR.out, HD.out, ← pow256_succ, Nat.mul_zero, Nat.add_zero, htk] at hst
            refine ⟨k + 1, d, D ++ [r], by go_num, rfl, ho1, HDB.out.append (fun y hy => by simp at hy; have := HR.out; omega), by rw [List.length_append, HDL.out]; rfl, ?_, by have := HD.out; omega, by omega, ?_, ?_, hb1⟩
            · rw [loadN_snoc0, HDL.out, htk1, hst, Nat.add_zero]
            · exact Or.inl (by omega)
            · intro hm
              rcases Nat.lt_or_ge k M with h1 | h1
              · obtain rfl : M = k + 1 := by omega
                rw [Nat.sub_self, Nat.pow_zero, Nat.mul_one]
                have := HD.out
                omega
              · have h2 := HCM.out h1
                have h3 : k + 1 - M = (k - M) + 1 := by omega
                rw [h3, pow256_succ, ← Nat.mul_assoc]
                refine Nat.le_trans (Nat.mul_le_mul_right _ ?_) h2
                have := HD.out
                omega
          case measure => simp [intOf]; have := HD.out; omega
        · have q3 : decide ((k : Int) < (n : Int)) = false := by simp; omega
          go_wp2
          go_ret
          have hv := HV.out
          rw [htk, Nat.mul_zero, Nat.add_zero] at hv
          refine ⟨_, D, rfl, ho, HDB.out, hv, by rw [HDL.out]; omega, ?_, by rw [HDL.out]; exact hk6, hb⟩
          rw [HDL.out]
          exact HKM.out

end Go.Proofs.YtlgdplodglchaaaDoor
