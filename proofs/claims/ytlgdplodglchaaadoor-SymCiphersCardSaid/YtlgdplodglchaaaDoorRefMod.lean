/- The walk through redanref08.mod. -/
import Derived.Test.YtlgdplodglchaaaDoorM2
import Derived.Test.YtlgdplodglchaaaDoorGPlain2
import Derived.Test.YtlgdplodglchaaaDoorM3
set_option linter.unusedVariables false
set_option linter.unusedSimpArgs false
namespace Go.Proofs.YtlgdplodglchaaaDoor
open Go.RowKit Go.Proofs.YtlgdplodglchaaaDoorW.PrintWords Go.Proofs.YtlgdplodglchaaaDoorW.PrintLast Go.Proofs.YtlgdplodglchaaaDoorW.PrintMore

/-- A row's number, as it stands in memory. -/
def valOf (wr : World) : Value → Nat
  | .slice (some ad) n _ => loadN ((List.range n).map fun i => match wr.cell? (ad.add i) with | some (.int _ z) => z.toNat | _ => 0)
  | _ => 0
theorem valOf_eq {e base : Nat} {wr : World} {v : Value} {l : List Nat} (h : OwnK .i64 e base wr v l) (hp : 0 < l.length) : valOf wr v = loadN l := by
  obtain ⟨A, c, rfl, _, hr⟩ := h.slice
  obtain ⟨ad, x, rfl, _, _⟩ := hr.at_ 0 hp
  simp only [valOf]
  congr 1
  apply List.ext_getElem?
  intro i
  rw [List.getElem?_map]
  by_cases hi : i < l.length
  · rw [List.getElem?_range hi, Option.map_some]
    obtain ⟨ad', y, e1, HY, hc⟩ := hr.at_ i hi
    injection e1 with e1
    subst e1
    rw [hc, List.getElem?_eq_getElem hi]
    simp only [Int.toNat_natCast]
    rw [← HY.out, List.getD_eq_getElem?_getD, List.getElem?_eq_getElem hi]
    rfl
  · rw [List.getElem?_eq_none (by rw [List.length_range]; omega), List.getElem?_eq_none (by omega)]
    rfl
theorem BytesOK.set0 {l : List Nat} (h : BytesOK l) (i : Nat) {x : Nat} (hx : x < 256) : BytesOK (l.set i x) := fun y hy => by
  rcases List.mem_or_eq_of_mem_set hy with h1 | rfl
  · exact h y h1
  · exact hx
theorem load_set0 (y : Nat) : loadN ((List.replicate 18 0).set 0 y) = y := by
  have h1 := loadN_set (List.replicate 18 0) 0 y (by decide)
  have h2 : (List.replicate 18 0).getD 0 0 = 0 := rfl
  rw [h2, Nat.zero_add, loadN_zeros, Nat.pow_zero, Nat.one_mul, Nat.zero_add] at h1
  exact h1
def lenOf : Value → Nat
  | .slice _ n _ => n
  | _ => 0
theorem beq255 (x : Nat) : ((x : Int) == 255) = decide (x = 255) := by
  rw [Bool.eq_iff_iff, beq_iff_eq, decide_eq_true_iff]
  omega
theorem dec_lt (a b : Nat) : decide ((a : Int) < (b : Int)) = decide (a < b) := by simp
theorem mod_round {D O D9 : List Nat} {M : Nat} (ht : 2 ^ 130 ≤ loadN D) (hv : loadN D < 256 ^ M) (hd : loadN O = lessN (loadN D)) (hl : loadN D9 = loadN O) (hM : max O.length 18 ≤ M) (h1 : max O.length 18 ≤ D9.length) (h2 : D9.length ≤ max O.length 18 ∨ 256 ^ (D9.length - 1) ≤ loadN O) :
    18 ≤ D9.length ∧ D9.length ≤ M ∧ loadN D9 < 256 ^ M ∧ loadN D9 % polyP = loadN D % polyP ∧ loadN D9 < loadN D := by
  have h3 := lessN_lt_self ht
  rw [← hd, ← hl] at h3
  refine ⟨by omega, ?_, by omega, by rw [hl, hd, lessN_mod], h3⟩
  rcases h2 with h2 | h2
  · omega
  · rcases Nat.lt_or_ge M D9.length with h4 | h4
    · have h5 : 256 ^ M ≤ 256 ^ (D9.length - 1) := Nat.pow_le_pow_right (by decide) (by omega)
      omega
    · exact h4
set_option maxHeartbeats 4000000 in
set_option maxRecDepth 100000 in
theorem mod_calls {A : Option Addr} {ca M : Nat} {L : List Nat} {w : World} (hL : RowK .i64 w A L) (hca : L.length ≤ ca) (hx : ∀ x ∈ L, x < 1099511627776) (hM : M = max L.length 18) (hM2 : M ≤ 100000) (hval : loadN L < 256 ^ M) :
    Calls Tryd.prog 122 #[.slice A L.length ca] w fun e w' => ∃ v, e = .returned v ∧ ∃ D, OwnK .i64 3 w.heap.size w' v D ∧ BytesOK D ∧ loadN D = loadN L % polyP ∧ 18 ≤ D.length ∧ D.length ≤ M ∧ Below w.heap.size w w' := by
  have HL := hd hL
  have HX := hd hx
  have HV := hd hval
  have HM := hd hM
  clear hL hx hval hM
  go_enter Tryd.func122, Tryd.ntmps122
  go_wp2_with fail
  refine (carry_calls (n := 18) HL.out hca HX.out HM.out (by omega)).mono ?_
  rintro e w1 ⟨v, D, rfl, ho, hdb, hld, hlM, hlM2, _, hb⟩
  have hl18 : 18 ≤ D.length := by have := HM.out; omega
  have hlM3 : D.length ≤ M := by
    rcases hlM2 with h | h
    · exact h
    · rcases Nat.lt_or_ge M D.length with h2 | h2
      · have h3 : 256 ^ M ≤ 256 ^ (D.length - 1) := Nat.pow_le_pow_right (by decide) (by omega)
        have := HV.out
        omega
      · exact h2
  have hvD : loadN D < 256 ^ M := by rw [hld]; exact HV.out
  have HD0 := hd (And.intro hdb (And.intro hl18 (And.intro hlM3 (And.intro hvD (congrArg (· % polyP) hld)))))
  clear hdb hl18 hlM hlM2 hlM3 hvD hld
  go_wp2_with fail
  go_loopw [0] (fun v wr => ∃ D : List Nat, OwnK .i64 3 w.heap.size wr v D ∧ BytesOK D ∧ 18 ≤ D.length ∧ D.length ≤ M ∧ loadN D < 256 ^ M ∧ loadN D % polyP = loadN L % polyP ∧ Below w.heap.size w wr) (fun v wr => valOf wr v)
  case atStart => exact ⟨D, ho, HD0.out.1, HD0.out.2.1, HD0.out.2.2.1, HD0.out.2.2.2.1, HD0.out.2.2.2.2, hb⟩
  case round =>
    clear ho hb HD0
    obtain ⟨D, ho, hdb, hl18, hlM, hvD, hmod, hb⟩ := hrel
    have HVAL := hd (valOf_eq ho (by omega))
    obtain ⟨g, cD, rfl, hg, hgs, hcD⟩ := ho.form (by omega)
    obtain ⟨dl, hdl⟩ : ∃ dl, dl = D.length := ⟨_, rfl⟩
    have HDL := hd hdl
    rw [← hdl] at hl18 hlM hcD ho HVAL ⊢
    have HO := hd ho
    have HDB := hd hdb
    have HVD := hd hvD
    have HMOD := hd hmod
    obtain ⟨x16, X16, c16, f16⟩ := ho.cellx 16 (by omega)
    have i16 : (16 : Int) < dl := by omega
    clear hdl ho hdb hvD hmod
    go_wp2_with fail
    go_loop [3, 4] (fun h i => ∃ k : Nat, 17 ≤ k ∧ k ≤ dl ∧ i = .int .i64 k ∧ h = .bool (highB D k)) (fun _ i => dl - (intOf i).toNat)
    case atStart => exact ⟨17, by omega, by omega, rfl, by rw [highB_start D (by rw [← HDL.out]; omega), X16.out, ← dec_lt]; rfl⟩
    case round =>
      obtain ⟨k, hk17, hkd, rfl, rfl⟩ := hrel
      by_cases hlt : k < dl
      · obtain ⟨x, X, hcell, hfr⟩ := HO.out.cellx k hlt
        have i0 : (0 : Int) ≤ k := by omega
        have i1 : (k : Int) < dl := by omega
        have HST := hd (highB_step D k hk17 (by rw [← HDL.out]; exact hlt))
        obtain ⟨z, HZ⟩ : ∃ z, Aside0 (highB D k = z) := ⟨_, ⟨rfl⟩⟩
        rw [HZ.out]
        cases z with
        | true =>
          go_wp2
          go_round
          case rel => exact ⟨k + 1, by omega, by omega, by go_num, by rw [HST.out, HZ.out, Bool.true_or]⟩
          case measure => simp [intOf]; omega
        | false =>
          go_wp2
          go_round
          case rel => exact ⟨k + 1, by omega, by omega, by go_num, by rw [HST.out, HZ.out, Bool.false_or, X.out, ← dec_lt]; try rfl⟩
          case measure => simp [intOf]; omega
      · obtain rfl : k = dl := by omega
        have HE : highB D k = decide (4 ≤ loadN (D.drop 16)) := by rw [HDL.out]; exact highB_end D
        rw [HE]
        by_cases ht : loadN (D.drop 16) < 4
        · rw [decide_eq_false (show ¬ 4 ≤ loadN (D.drop 16) by omega)]
          clear HE
          have HT := hd ht
          clear ht
          obtain ⟨x0, X0, c0, f0⟩ := HO.out.cellx 0 (by omega)
          have q0 : (0 : Int) < (k : Int) := by omega
          by_cases h3 : x16 = 3 ∧ 251 ≤ x0
          · obtain ⟨h31, h32⟩ := h3
            have q3 : ((x16 : Int) == 3) = true := by simp; omega
            have q4 : decide ((251 : Int) ≤ (x0 : Int)) = true := by simp; omega
            go_wp2_with fail
            go_loop [9, 10] (fun a i => ∃ m : Nat, 1 ≤ m ∧ m ≤ 16 ∧ i = .int .i64 m ∧ a = .bool (allB D m)) (fun _ i => 16 - (intOf i).toNat)
            case atStart => exact ⟨1, by omega, by omega, rfl, rfl⟩
            case round =>
              obtain ⟨m, hm1, hm16, rfl, rfl⟩ := hrel
              by_cases hlt2 : m < 16
              · obtain ⟨x, X, hcell, hfr⟩ := HO.out.cellx m (by omega)
                have i0 : (0 : Int) ≤ m := by omega
                have i1 : (m : Int) < 16 := by omega
                have i2 : (m : Int) < k := by omega
                have HST := hd (allB_step D HDB.out m hm1 (by rw [← HDL.out]; omega))
                obtain ⟨z, HZ⟩ : ∃ z, Aside0 (allB D m = z) := ⟨_, ⟨rfl⟩⟩
                rw [HZ.out]
                cases z with
                | true =>
                  go_wp2
                  go_round
                  case rel => exact ⟨m + 1, by omega, by omega, by go_num, by rw [HST.out, HZ.out, Bool.true_and, X.out]; exact congrArg Value.bool (beq255 x)⟩
                  case measure => simp [intOf]; omega
                | false =>
                  go_wp2
                  go_round
                  case rel => exact ⟨m + 1, by omega, by omega, by go_num, by rw [HST.out, HZ.out, Bool.false_and]⟩
                  case measure => simp [intOf]; omega
              · obtain rfl : m = 16 := by omega
                obtain ⟨z, HZ⟩ : ∃ z, Aside0 (allB D 16 = z) := ⟨_, ⟨rfl⟩⟩
                rw [HZ.out]
                obtain ⟨y, HY⟩ : ∃ y, Aside0 (x0 - 251 = y) := ⟨_, ⟨rfl⟩⟩
                have hy : (x0 : Int) - 251 = (y : Int) := by have := HY.out; omega
                have HYI := hd hy
                clear hy
                have hx0 : x0 < 256 := by
                  have h1 := HDB.out.getD 0
                  rw [X0.out] at h1
                  exact h1
                cases z with
                | true =>
                  have hge := mod_ge (by rw [← HDL.out]; omega) HDB.out HT.out (by rw [X16.out]; exact h31) (by rw [X0.out]; exact h32) HZ.out
                  rw [X0.out, HY.out, HMOD.out] at hge
                  have HGE := hd hge
                  have HYB := hd (show y < 256 by
                    have h1 := HDB.out.getD 0
                    rw [X0.out] at h1
                    have := HY.out
                    omega)
                  have HM18 := hd (show 18 ≤ M by omega)
                  clear hge
                  go_wp2_with ((with_reducible refine gate_dst (N := 118) rfl ?_); refine op_make (k := .i64) 118 rfl 3 68 _ _ rfl rfl 18 rfl rfl Tryd.underlying68 Tryd.infoI64 (by decide) 18 rfl (by decide) ?_; intro A5 c5 w5 hc5 ho5 hb5; obtain ⟨g5, rfl, hg5, _⟩ := ho5.at_ (by decide); obtain ⟨y5, HY5, hcell5, hfr5⟩ := ho5.cellx 0 (by decide); have hput5 := hd (ho5.put 0 y); have c0' := pw_cell_below hb5 c0; clear ho5)
                  go_ret
                  have hp5 := hput5.out
                  rw [← HYI.out] at hp5
                  exact ⟨_, rfl, (List.replicate 18 0).set 0 y, hp5.lower hb.size, BytesOK.set0 (BytesOK.zeros 18) 0 HYB.out, by rw [load_set0]; exact HGE.out, by rw [List.length_set, List.length_replicate]; exact Nat.le_refl _, by rw [List.length_set, List.length_replicate]; exact HM18.out, below_seq hb (hb5.setCell hg5 _)⟩
                | false =>
                  go_wp2
                  go_ret
                  have hlt := mod_lt (by rw [← HDL.out]; omega) HDB.out HT.out (fun h => by rw [HZ.out] at h; exact absurd h.2.2 (by decide))
                  rw [HMOD.out] at hlt
                  exact ⟨_, rfl, D, HO.out, HDB.out, hlt, by rw [← HDL.out]; omega, by rw [← HDL.out]; omega, hb⟩
          · have hlt := mod_lt (by rw [← HDL.out]; omega) HDB.out HT.out (fun h => h3 ⟨by rw [← X16.out]; exact h.1, by rw [← X0.out]; exact h.2.1⟩)
            rw [HMOD.out] at hlt
            have HLT := hd hlt
            clear hlt
            by_cases h31 : x16 = 3
            · have q3 : ((x16 : Int) == 3) = true := by simp; omega
              have q4 : decide ((251 : Int) ≤ (x0 : Int)) = false := by simp; omega
              go_wp2
              go_ret
              exact ⟨_, rfl, D, HO.out, HDB.out, HLT.out, by rw [← HDL.out]; omega, by rw [← HDL.out]; omega, hb⟩
            · have q3 : ((x16 : Int) == 3) = false := by simp; omega
              go_wp2
              go_ret
              exact ⟨_, rfl, D, HO.out, HDB.out, HLT.out, by rw [← HDL.out]; omega, by rw [← HDL.out]; omega, hb⟩
        · rw [decide_eq_true (show 4 ≤ loadN (D.drop 16) by omega)]
          clear HE
          have HT := hd (mod_large (by rw [← HDL.out]; omega) HDB.out ht)
          have HKM := hd hlM
          clear ht
          obtain ⟨wo, rfl⟩ : ∃ x : World, x = wr := ⟨_, rfl⟩
          go_wp2_with ((with_reducible refine gate_dst (N := 34) rfl ?_); refine op_make (k := .i64) 34 rfl 3 68 _ _ rfl rfl 17 rfl rfl Tryd.underlying68 Tryd.infoI64 (by decide) 17 rfl (by decide) ?_; intro A5 c5 w5 hc5 ho5 hb5; obtain ⟨g5, rfl, hg5, _⟩ := ho5.at_ (by decide))
          go_loopw [6] (fun i wi => ∃ m : Nat, m ≤ 17 ∧ i = .int .i64 m ∧ OwnK .i64 3 wo.heap.size wi (.slice (some ⟨g5, 0, none⟩) 17 c5) (fillL (D.take 17) m) ∧ Below wo.heap.size wo wi) (fun i _ => 17 - (intOf i).toNat)
          case atStart =>
            refine ⟨0, by omega, rfl, ?_, hb5⟩
            rw [fillL_zero, List.length_take, ← HDL.out, Nat.min_eq_left (by omega)]
            exact ho5
          case round =>
            clear ho5 hb5
            obtain ⟨m, hm, rfl, ho6, hb6⟩ := hrel
            have HLT := hd (show (D.take 17).length = 17 by rw [List.length_take, ← HDL.out]; omega)
            by_cases hlt2 : m < 17
            · obtain ⟨c, C, hcell, hfr⟩ := (HO.out.below hb6).cellx m (by omega)
              obtain ⟨y, HY, hcell6, hfr6⟩ := ho6.cellx m hlt2
              have i0 : (0 : Int) ≤ m := by omega
              have i1 : (m : Int) < 17 := by omega
              have i2 : (m : Int) < k := by omega
              have hput6 := hd (ho6.put m c)
              have HST := hd (fillL_step (D.take 17) m (by rw [HLT.out]; exact hlt2))
              clear ho6
              go_wp2
              go_roundw
              case rel =>
                refine ⟨m + 1, by omega, by go_num, ?_, hb6.setCell hg5 _⟩
                have h1 := HST.out
                have h2 : (D.take 17).getD m 0 = c := by rw [← C.out, List.getD_eq_getElem?_getD, List.getElem?_take_of_lt hlt2, List.getD_eq_getElem?_getD]
                rw [h2] at h1
                rw [← h1]
                exact hput6.out
              case measure => simp [intOf]; omega
            · obtain rfl : m = 17 := by omega
              have hfl : fillL (D.take 17) 17 = D.take 17 := by
                have := fillL_all (D.take 17)
                rw [HLT.out] at this
                exact this
              rw [hfl] at ho6
              obtain ⟨r, HR⟩ : ∃ r, Aside0 (x16 % 4 = r) := ⟨_, ⟨rfl⟩⟩
              have s1 : (x16 : Int).tmod 4 = (r : Int) := by rw [Int.tmod_eq_emod_of_nonneg (by omega)]; have := HR.out; omega
              have hc16 := pw_cell_below (HO.out.slice.elim fun _ _ => hb6) c16
              obtain ⟨y, HY, hcell6, hfr6⟩ := ho6.cellx 16 (by decide)
              have hput6 := hd (ho6.put 16 r)
              have HB6 := hd hb6
              have HS0 := hd (SumR.start (r := r) (M := M) (D := D) (by rw [← HDL.out]; omega) (by omega) HDB.out (by have := HR.out; omega))
              clear ho6 hfl hb6
              go_wp2_with fail
              have hb7 := HB6.out.setCell (p := ⟨g5, 16, none⟩) hg5 (.int .i64 (r : Int))
              have ho7 := hput6.out
              clear hput6 hcell6 hfr6 hc16 HB6 s1 HY
              generalize wr.setCell ⟨g5, 16, none⟩ (.int .i64 (r : Int)) = w7 at ho7 hb7 ⊢
              rw [show ((17 : Nat) : Int) = 17 from rfl]
              go_loopw [5, 7] (fun v i wi => ∃ (k2 : Nat) (O : List Nat), 16 ≤ k2 ∧ k2 ≤ k ∧ i = .int .i64 k2 ∧ OwnK .i64 3 wo.heap.size wi v O ∧ SumR D r M k2 O ∧ Below wo.heap.size wo wi) (fun _ i _ => k - (intOf i).toNat)
              case atStart => exact ⟨16, _, by omega, by omega, rfl, ho7, HS0.out, hb7⟩
              case round =>
                clear ho7 hb7 HS0
                obtain ⟨k2, O, hk16, hk2, rfl, ho7, hs7, hb7⟩ := hrel
                have HS7 := hd hs7
                clear hs7
                by_cases hlt2 : k2 < k
                · go_wp2_with fail
                  go_loopw [5] (fun v wi => ∃ (n5 c8 : Nat) (A8 : Option Addr) (O : List Nat), v = .slice A8 n5 c8 ∧ O.length = n5 ∧ OwnK .i64 3 wo.heap.size wi v O ∧ SumR D r M k2 O ∧ Below wo.heap.size wo wi) (fun v _ => k2 - lenOf v)
                  case atStart =>
                    obtain ⟨A8, c8, rfl, _, _⟩ := ho7.slice
                    exact ⟨_, c8, A8, O, rfl, rfl, ho7, HS7.out, hb7⟩
                  case round =>
                    clear ho7 hb7 HS7 O
                    obtain ⟨n5, c8, A8, O, rfl, hn5, ho7, hs7, hb7⟩ := hrel
                    have HS7 := hd hs7
                    clear hs7
                    by_cases hlt3 : n5 < k2
                    · have q1 : decide ((n5 : Int) < (k2 : Int)) = true := by simp; omega
                      have hs := hb7.size
                      have HN := hd (HS7.out.zero (by omega) (by omega))
                      have hlen := HS7.out.lenM
                      go_wp2_with ((with_reducible refine gate_dst (N := 64) rfl ?_); at_builtin; refine op_append (k := .i64) (w0 := wo) 64 rfl wo.heap.size 3 68 _ _ rfl rfl Tryd.underlying68 Tryd.infoI64 (by decide) (.slice A8 n5 c8) O _ 0 rfl rfl rfl ho7 hb7 hs (by omega) ?_; intro v1 w1 ho1 hb1 hg1; obtain ⟨A9, c9, rfl, _, _⟩ := ho1.slice)
                      go_roundw
                      case rel =>
                        have hl9 : (O ++ [0]).length = n5 + 1 := by rw [List.length_append, hn5]; rfl
                        rw [hl9] at ho1
                        exact ⟨n5 + 1, c9, A9, O ++ [0], rfl, hl9, ho1, HN.out, hb1⟩
                      case measure =>
                        show k2 - (n5 + 1) < k2 - n5
                        omega
                    · have q1 : decide ((n5 : Int) < (k2 : Int)) = false := by simp; omega
                      have hkO : k2 ≤ O.length := by omega
                      obtain ⟨x, X, hcell, hfr⟩ := (HO.out.below hb7).cellx k2 hlt2
                      have hx : x < 256 := by rw [← X.out]; exact HDB.out.getD k2
                      have i0 : (0 : Int) ≤ k2 := by omega
                      have i1 : (k2 : Int) < k := by omega
                      have i3 : (16 : Int) ≤ k2 := by omega
                      have i4 : (k2 : Int) ≤ 100000 := by omega
                      obtain ⟨d, HD⟩ : ∃ d, Aside0 (x / 4 = d) := ⟨_, ⟨rfl⟩⟩
                      have s1 : (x : Int).tdiv 4 = (d : Int) := by rw [Int.tdiv_eq_ediv_of_nonneg (by omega)]; have := HD.out; omega
                      have s2 : (x : Int) / 4 = (d : Int) := by have := HD.out; omega
                      have hqg := qL_get (D.drop 16) (k2 - 16) (by rw [List.length_drop, ← HDL.out]; omega)
                      rw [show (D.drop 16).getD (k2 - 16) 0 = x by rw [← X.out, List.getD_eq_getElem?_getD, List.getElem?_drop, List.getD_eq_getElem?_getD, show 16 + (k2 - 16) = k2 by omega], HD.out, List.length_drop, ← HDL.out] at hqg
                      subst hn5
                      by_cases h5 : k2 + 1 < k
                      · have q5 : decide ((k2 : Int) + 1 < (k : Int)) = true := by simp; omega
                        obtain ⟨y, Y, hcelly, hfry⟩ := (HO.out.below hb7).cellx (k2 + 1) h5
                        obtain ⟨k3, HK3⟩ : ∃ k3, Aside0 (k2 + 1 = k3) := ⟨_, ⟨rfl⟩⟩
                        have hk3 : (k2 : Int) + 1 = (k3 : Int) := by have := HK3.out; omega
                        have hk30 : (0 : Int) ≤ k3 := by omega
                        have hk31 : (k3 : Int) < k := by have := HK3.out; omega
                        rw [HK3.out] at hcelly
                        obtain ⟨e, HE⟩ : ∃ e, Aside0 (y % 4 = e) := ⟨_, ⟨rfl⟩⟩
                        have s3 : (y : Int).tmod 4 = (e : Int) := by rw [Int.tmod_eq_emod_of_nonneg (by omega)]; have := HE.out; omega
                        have e4 : e < 4 := by have := HE.out; omega
                        obtain ⟨e6, HE6⟩ : ∃ e6, Aside0 (e * 64 = e6) := ⟨_, ⟨rfl⟩⟩
                        have s4 : (e : Int) * 64 = (e6 : Int) := by have := HE6.out; omega
                        obtain ⟨t, HT7⟩ : ∃ t, Aside0 (d + e6 = t) := ⟨_, ⟨rfl⟩⟩
                        have s5 : (d : Int) + (e6 : Int) = (t : Int) := by have := HT7.out; omega
                        rw [if_pos (by omega), show (D.drop 16).getD (k2 - 16 + 1) 0 = y by rw [← Y.out, List.getD_eq_getElem?_getD, List.getElem?_drop, List.getD_eq_getElem?_getD, show 16 + (k2 - 16 + 1) = k2 + 1 by omega], HE.out, HE6.out, HT7.out] at hqg
                        replace HT7 := hd hqg
                        have htb : t ≤ 255 := by have := HE6.out; have := HD.out; omega
                        clear hqg
                        obtain ⟨p, HP⟩ : ∃ p, Aside0 (k2 - 16 = p) := ⟨_, ⟨rfl⟩⟩
                        have hpI : (k2 : Int) - 16 = (p : Int) := by have := HP.out; omega
                        obtain ⟨g7, rfl, hg7, hg7s⟩ := ho7.at_ (by have := HS7.out.len; omega)
                        have hpl : p < O.length := by have := HP.out; omega
                        obtain ⟨o, HOO, hcell7, hfr7⟩ := ho7.cellx p hpl
                        have hpi0 : (0 : Int) ≤ p := by omega
                        have hpi1 : (p : Int) < O.length := by omega
                        have ho4 : o < 256 := by rw [← HOO.out, ← HP.out]; exact HS7.out.tail _ (Nat.le_refl _)
                        obtain ⟨f, HF⟩ : ∃ f, Aside0 (5 * t = f) := ⟨_, ⟨rfl⟩⟩
                        have hf : (5 : Int) * (t : Int) = (f : Int) := by have := HF.out; omega
                        obtain ⟨u, HU⟩ : ∃ u, Aside0 (o + f = u) := ⟨_, ⟨rfl⟩⟩
                        have hu : (o : Int) + (f : Int) = (u : Int) := by have := HU.out; omega
                        have hu1 : (u : Int) ≤ 5000 := by have := HU.out; have := HF.out; omega
                        have hf1 : (f : Int) ≤ 5000 := by have := HF.out; omega
                        have HN := hd (HS7.out.put (by omega) (by rw [← HDL.out]; exact hlt2) hkO HT7.out htb)
                        have hput7 := hd (ho7.put p u)
                        clear ho7
                        clear htb ho4 hx e4 hpl hkO
                        go_wp2
                        go_roundw
                        case rel =>
                          have hn := HN.out
                          rw [HP.out, HOO.out, HF.out, HU.out] at hn
                          exact ⟨k2 + 1, _, by omega, by omega, by go_num, hput7.out, hn, hb7.setCell hg7 _⟩
                        case measure => simp [intOf]; omega
                      · have q5 : decide ((k2 : Int) + 1 < (k : Int)) = false := by simp; omega
                        obtain ⟨t, rfl⟩ : ∃ t, t = d := ⟨_, rfl⟩
                        rw [if_neg (by omega), Nat.add_zero] at hqg
                        have HT7 := hd hqg
                        have htb : t ≤ 255 := by have := HD.out; omega
                        clear hqg
                        obtain ⟨p, HP⟩ : ∃ p, Aside0 (k2 - 16 = p) := ⟨_, ⟨rfl⟩⟩
                        have hpI : (k2 : Int) - 16 = (p : Int) := by have := HP.out; omega
                        obtain ⟨g7, rfl, hg7, hg7s⟩ := ho7.at_ (by have := HS7.out.len; omega)
                        have hpl : p < O.length := by have := HP.out; omega
                        obtain ⟨o, HOO, hcell7, hfr7⟩ := ho7.cellx p hpl
                        have hpi0 : (0 : Int) ≤ p := by omega
                        have hpi1 : (p : Int) < O.length := by omega
                        have ho4 : o < 256 := by rw [← HOO.out, ← HP.out]; exact HS7.out.tail _ (Nat.le_refl _)
                        obtain ⟨f, HF⟩ : ∃ f, Aside0 (5 * t = f) := ⟨_, ⟨rfl⟩⟩
                        have hf : (5 : Int) * (t : Int) = (f : Int) := by have := HF.out; omega
                        obtain ⟨u, HU⟩ : ∃ u, Aside0 (o + f = u) := ⟨_, ⟨rfl⟩⟩
                        have hu : (o : Int) + (f : Int) = (u : Int) := by have := HU.out; omega
                        have hu1 : (u : Int) ≤ 5000 := by have := HU.out; have := HF.out; omega
                        have hf1 : (f : Int) ≤ 5000 := by have := HF.out; omega
                        have HN := hd (HS7.out.put (by omega) (by rw [← HDL.out]; exact hlt2) hkO HT7.out htb)
                        have hput7 := hd (ho7.put p u)
                        clear ho7
                        clear htb ho4 hx hpl hkO
                        go_wp2
                        go_roundw
                        case rel =>
                          have hn := HN.out
                          rw [HP.out, HOO.out, HF.out, HU.out] at hn
                          exact ⟨k2 + 1, _, by omega, by omega, by go_num, hput7.out, hn, hb7.setCell hg7 _⟩
                        case measure => simp [intOf]; omega
                · obtain rfl : k2 = k := by omega
                  obtain ⟨A8, c8, rfl, hc8, hr8⟩ := ho7.slice
                  have HROW := hd hr8
                  have HW := hd hb7
                  have HSM := hd (Nat.max_le.2 ⟨HS7.out.lenM, (show 18 ≤ M by omega)⟩)
                  have hlo := HS7.out
                  rw [HDL.out, ← HR.out] at hlo
                  have hdone := hlo.done (by rw [← HDL.out]; omega) HDB.out X16.out
                  have HDONE := hd hdone
                  clear ho7 hb7 hr8 hlo hdone
                  go_wp2_with fail
                  refine (carry_calls (n := 18) HROW.out hc8 (fun x hx => Nat.lt_trans (HS7.out.dig x hx) (by decide)) rfl (by have := HSM.out; omega)).mono ?_
                  rintro e w9 ⟨v9, D9, rfl, ho9, hdb9, hld9, hlM9, hlM92, _, hb9⟩
                  have HB9 := hd (below_seq hb (below_seq HW.out hb9))
                  have HF := hd (mod_round HT.out HVD.out HDONE.out hld9 HSM.out hlM9 hlM92)
                  have ho9' := hd (ho9.lower (Nat.le_trans hb.size HW.out.size))
                  have hdb9' := hd hdb9
                  clear ho9 hdb9 hld9 hlM9 hlM92 hb9
                  go_wp2_with fail
                  refine ⟨⟨D9, ho9'.out, hdb9'.out, HF.out.1, HF.out.2.1, HF.out.2.2.1, HF.out.2.2.2.1.trans HMOD.out, HB9.out⟩, ?_⟩
                  rw [HVAL.out, valOf_eq ho9'.out (by have := HF.out.1; omega)]
                  exact HF.out.2.2.2.2

end Go.Proofs.YtlgdplodglchaaaDoor
