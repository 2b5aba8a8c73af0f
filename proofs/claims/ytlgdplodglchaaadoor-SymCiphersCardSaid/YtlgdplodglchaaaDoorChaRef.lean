/- The walk through redanref07.Block. -/
import Derived.Test.YtlgdplodglchaaaDoorChaQ
import Derived.Test.YtlgdplodglchaaaDoorGLib
import Derived.Test.YtlgdplodglchaaaDoorGWords
set_option linter.unusedVariables false
set_option linter.unusedSimpArgs false
namespace Go.Proofs.YtlgdplodglchaaaDoor
open Go.RowKit Go.Proofs.YtlgdplodglchaaaDoorW.PrintWords Go.Proofs.YtlgdplodglchaaaDoorW.PrintLast Go.Proofs.YtlgdplodglchaaaDoorW.PrintMore

theorem Tryd.underlying25 : Tryd.prog.underlying 25 = some (.slice 22) := by kernel_rfl
theorem Tryd.infoU64 : (Tryd.prog.info? 22).map (fun i => (i.zero, i.size, i.bytes)) = some (some (.int .u64 0), 1, 8) := by kernel_rfl
theorem wrap64_of (p : Nat) (h : p < 16) : wrap64 (p : Int) = (p : Int) := Go.IntWalk.wrap64_in _ ⟨by omega, by omega⟩
theorem add64_mod {x y : Nat} (hx : x < 2 ^ 32) (hy : y < 2 ^ 32) : IntKind.u64.wrap ((x : Int) + (y : Int)) = ((x + y : Nat) : Int) ∧ ((x + y : Nat) : Int).tmod 4294967296 = (((x + y) % 2 ^ 32 : Nat) : Int) := by
  have h1 := wrapM_u (k := .u64) rfl (x + y)
  have h2 : (x + y) % 2 ^ 64 = x + y := Nat.mod_eq_of_lt (by omega)
  rw [show ((x + y : Nat) : Int) = (x : Int) + (y : Int) by simp] at h1
  refine ⟨h1.trans (congrArg _ h2), ?_⟩
  rw [Int.tmod_eq_emod_of_nonneg (by omega)]
  omega
theorem places_a (m : Nat) (hm : m < 4) : places.take (m + 1) = places.take m ++ [(m, m + 4, m + 8, m + 12)] := by
  match m, hm with
  | 0, _ => rfl
  | 1, _ => rfl
  | 2, _ => rfl
  | 3, _ => rfl
theorem places_b (m : Nat) (hm : m < 4) : places.take (4 + m + 1) = places.take (4 + m) ++ [(m, 4 + (m + 1) % 4, 8 + (m + 2) % 4, 12 + (m + 3) % 4)] := by
  match m, hm with
  | 0, _ => rfl
  | 1, _ => rfl
  | 2, _ => rfl
  | 3, _ => rfl
set_option maxHeartbeats 4000000 in
set_option maxRecDepth 100000 in
theorem refblock_calls {A B : Option Addr} {ca cb : Nat} {key nonce : List Nat} {ci : Int} (c : Nat) {w : World} (hk : Bytes w A 32 ca key) (hn : Bytes w B 12 cb nonce) (hci : ci = (c : Int)) (hc : c < 2 ^ 64) :
    Calls Tryd.prog 103 #[.slice A 32 ca, .int .u64 ci, .slice B 12 cb] w fun e w' => ∃ v, e = .returned v ∧ OwnK .u8 5 w.heap.size w' v (blockN key (c % 2 ^ 32) nonce) ∧ Below w.heap.size w w' := by
  subst hci
  obtain ⟨cm, HCM⟩ : ∃ cm, Aside0 (c % 2 ^ 32 = cm) := ⟨_, ⟨rfl⟩⟩
  have fcm : (c : Int) % 4294967296 = (cm : Int) := by have := HCM.out; omega
  have HC := hd hc
  rw [HCM.out]
  clear hc
  go_enter Tryd.func103, Tryd.ntmps103
  go_wp2_with fail
  go_loopw [7, 8] (fun v i wr => ∃ k : Nat, k ≤ 8 ∧ i = .int .i64 k ∧ OwnK .u64 22 w.heap.size wr v (consts ++ words4 key k) ∧ Below w.heap.size w wr) (fun _ i _ => 8 - (intOf i).toNat)
  case atStart => exact ⟨0, Nat.zero_le _, rfl, OwnK.lit w consts rfl (by decide), below_alloc (Below.refl w.heap.size w) _⟩
  case round =>
    obtain ⟨k, hk8, rfl, ho, hb⟩ := hrel
    by_cases hlt : k < 8
    · have hbr := hk.below hb
      obtain ⟨ad, y, rfl, _, _⟩ := hbr.1.at_ (4 * k) (by rw [hbr.2.1]; omega)
      have hmid := hd (hbr.mid (4 * k) 4 (by omega) (by have := hbr.2.2.1; omega))
      have hca := hbr.2.2.1
      have HK := hd hk
      clear hbr hk
      have i1 : (4 : Int) * (k : Int) + 4 ≤ ca := by omega
      go_wp2_with fail
      refine (refload_calls hmid.out).mono ?_
      rintro e w' ⟨rfl, rfl⟩
      have hv : loadN (List.take 8 (List.take 4 (List.drop (4 * k) key))) = loadN ((key.drop (4 * k)).take 4) := by rw [List.take_take]; rfl
      rw [hv]
      obtain ⟨v, HV⟩ : ∃ v, Aside0 (loadN ((key.drop (4 * k)).take 4) = v) := ⟨_, ⟨rfl⟩⟩
      rw [HV.out]
      clear hv
      have hs := hb.size
      go_wp2_with (((with_reducible refine gate_dst (N := 42) rfl ?_); at_builtin; refine op_append (k := .u64) (w0 := w) 42 rfl w.heap.size 22 25 _ _ rfl rfl Tryd.underlying25 Tryd.infoU64 (by decide) u7 (consts ++ words4 key k) _ v rfl rfl rfl ho hb hs (by rw [List.length_append, words4_length]; simp only [consts, List.length_cons, List.length_nil]; omega) ?_; intro v1 w1 ho1 hb1 hg1))
      go_roundw
      case rel =>
        refine ⟨k + 1, by omega, by go_num, ?_, hb1⟩
        rw [words4_succ, HV.out, ← List.append_assoc]
        exact ho1
      case measure => simp [intOf]; omega
    · obtain rfl : k = 8 := by omega
      have hs := hb.size
      go_wp2_with (((with_reducible refine gate_dst (N := 47) rfl ?_); at_builtin; refine op_append (k := .u64) (w0 := w) 47 rfl w.heap.size 22 25 _ _ rfl rfl Tryd.underlying25 Tryd.infoU64 (by decide) u7 (consts ++ words4 key 8) _ cm (by first | exact fcm | rfl) rfl rfl ho hb hs (by rw [List.length_append, words4_length]; simp only [consts, List.length_cons, List.length_nil]; omega) ?_; intro v1 w1 ho1 hb1 hg1))
      clear ho hb hs
      go_loopw [7, 9] (fun v i wr => ∃ k : Nat, k ≤ 3 ∧ i = .int .i64 k ∧ OwnK .u64 22 w.heap.size wr v (consts ++ words4 key 8 ++ [cm] ++ words4 nonce k) ∧ Below w.heap.size w wr) (fun _ i _ => 3 - (intOf i).toNat)
      case atStart => exact ⟨0, Nat.zero_le _, rfl, by rw [show words4 nonce 0 = [] from rfl, List.append_nil]; exact ho1, hb1⟩
      case round =>
        clear ho1 hb1
        obtain ⟨k, hk3, rfl, ho, hb⟩ := hrel
        by_cases hlt : k < 3
        · have hbr := hn.below hb
          obtain ⟨ad, y, rfl, _, _⟩ := hbr.1.at_ (4 * k) (by rw [hbr.2.1]; omega)
          have hmid := hd (hbr.mid (4 * k) 4 (by omega) (by have := hbr.2.2.1; omega))
          have hcb := hbr.2.2.1
          have HN := hd hn
          clear hbr hn
          have i1 : (4 : Int) * (k : Int) + 4 ≤ cb := by omega
          go_wp2_with fail
          refine (refload_calls hmid.out).mono ?_
          rintro e w' ⟨rfl, rfl⟩
          have hv : loadN (List.take 8 (List.take 4 (List.drop (4 * k) nonce))) = loadN ((nonce.drop (4 * k)).take 4) := by rw [List.take_take]; rfl
          rw [hv]
          obtain ⟨v, HV⟩ : ∃ v, Aside0 (loadN ((nonce.drop (4 * k)).take 4) = v) := ⟨_, ⟨rfl⟩⟩
          rw [HV.out]
          clear hv
          have hs := hb.size
          go_wp2_with (((with_reducible refine gate_dst (N := 62) rfl ?_); at_builtin; refine op_append (k := .u64) (w0 := w) 62 rfl w.heap.size 22 25 _ _ rfl rfl Tryd.underlying25 Tryd.infoU64 (by decide) u7 (consts ++ words4 key 8 ++ [cm] ++ words4 nonce k) _ v rfl rfl rfl ho hb hs (by rw [List.length_append, List.length_append, List.length_append, words4_length, words4_length]; simp only [consts, List.length_cons, List.length_nil]; omega) ?_; intro v1 w1 ho1 hb1 hg1))
          go_roundw
          case rel =>
            refine ⟨k + 1, by omega, by go_num, ?_, hb1⟩
            rw [words4_succ nonce, HV.out, ← List.append_assoc]
            exact ho1
          case measure => simp [intOf]; omega
        · obtain rfl : k = 3 := by omega
          obtain ⟨f, HFF⟩ : ∃ f, Aside0 (first key cm nonce = f) := ⟨_, ⟨rfl⟩⟩
          have hfl : f.length = 16 := by rw [← HFF.out]; exact first_length _ _ _
          have HFW := hd (show Words32 f by rw [← HFF.out]; exact first_ok hk.ok (by have := HCM.out; omega) hn.ok)
          rw [show consts ++ words4 key 8 ++ [cm] ++ words4 nonce 3 = f from HFF.out] at ho
          obtain ⟨gf, cf, rfl, hgf, hgf2, hcf⟩ := ho.form (by omega)
          rw [hfl] at ho ⊢
          have HFL := hd hfl
          go_wp2_with (((with_reducible refine gate_dst (N := 65) rfl ?_); at_builtin; go_loud (refine op_append_row (k := .u64) (w0 := wr) 65 rfl wr.heap.size 22 25 _ _ rfl rfl Tryd.underlying25 Tryd.infoU64 (by decide) (.slice none 0 0) [] f (some ⟨gf, 0, none⟩) 16 cf rfl rfl hfl.symm (OwnK.nil _ _ _ _) ho.row.2.2 (Below.refl _ _) (Nat.le_refl _) (by rw [hfl]; decide) ?_); intro v1 w4 ho4 hb4 hg1))
          rw [List.nil_append] at ho4
          obtain ⟨gv, cv, rfl, hgvb, hgv2, hcv⟩ := ho4.form (by omega)
          rw [hfl] at ho4 ⊢
          have HF := hd ho
          have hgfv : gf ≠ gv := by omega
          obtain ⟨wr0, rfl⟩ : ∃ x : World, x = wr := ⟨_, rfl⟩
          clear ho hcf hcv hk hn hgv2 hg1
          go_wp2
          go_loopw [11] (fun i wr => ∃ n : Nat, n ≤ 10 ∧ i = .int .i64 n ∧ OwnK .u64 22 wr0.heap.size wr (.slice (some ⟨gv, 0, none⟩) 16 cv) (dbls f n) ∧ Below wr0.heap.size wr0 wr) (fun i _ => 10 - (intOf i).toNat)
          case atStart => exact ⟨0, Nat.zero_le _, rfl, ho4, hb4⟩
          case round =>
            clear ho4 hb4
            obtain ⟨n, hn10, rfl, ho, hb4⟩ := hrel
            by_cases hlt : n < 10
            · go_wp2
              go_loopw [12] (fun j wi => ∃ m : Nat, m ≤ 4 ∧ j = .int .i64 m ∧ OwnK .u64 22 wr0.heap.size wi (.slice (some ⟨gv, 0, none⟩) 16 cv) (qrs (dbls f n) (places.take m)) ∧ Below wr0.heap.size wr0 wi) (fun j _ => 4 - (intOf j).toNat)
              case atStart => exact ⟨0, Nat.zero_le _, rfl, ho, hb4⟩
              case round =>
                clear ho hb4
                obtain ⟨m, hm, rfl, ho, hb4⟩ := hrel
                by_cases hlt2 : m < 4
                · as_aux_lemma =>
                  obtain ⟨s, HSS⟩ : ∃ s, Aside0 (qrs (dbls f n) (places.take m) = s) := ⟨_, ⟨rfl⟩⟩
                  rw [HSS.out] at ho
                  have HW := hd (show Words32 s by rw [← HSS.out]; exact qrs_ok _ _ (dbls_ok HFW.out n))
                  obtain ⟨p1, hp1⟩ : ∃ p : Nat, p = m + 4 := ⟨_, rfl⟩
                  obtain ⟨p2, hp2⟩ : ∃ p : Nat, p = m + 8 := ⟨_, rfl⟩
                  obtain ⟨p3, hp3⟩ : ∃ p : Nat, p = m + 12 := ⟨_, rfl⟩
                  have HPM := hd (places_a m hlt2)
                  rw [← hp1, ← hp2, ← hp3] at HPM
                  have e1 : (m : Int) + 4 = (p1 : Int) := by omega
                  have e2 : (m : Int) + 8 = (p2 : Int) := by omega
                  have e3 : (m : Int) + 12 = (p3 : Int) := by omega
                  have l0 : m < 16 := by omega
                  have l1 : p1 < 16 := by omega
                  have l2 : p2 < 16 := by omega
                  have l3 : p3 < 16 := by omega
                  clear hp1 hp2 hp3
                  go_wp2
                  refine upR_start Keeps.any [37, 39, 41, 43] [(0, 1), (1, 1), (2, 2), (3, 2), (4, 2), (5, 2), (6, 2), (7, 2), (8, 2), (9, 2), (10, 2), (11, 1), (12, 1), (13, 1), (14, 1), (15, 1), (16, 1), (17, 1), (18, 1), (19, 1), (20, 1), (21, 1), (22, 1), (23, 1), (24, 1), (25, 1), (26, 1), (27, 1), (28, 1), (29, 1), (30, 0), (31, 1), (32, 1), (33, 2), (34, 2), (35, 2), (36, 1), (37, 0), (38, 1), (39, 0), (40, 1), (41, 0), (42, 1), (43, 0)] (by kernel_rfl) rfl (by kernel_rfl) (by kernel_rfl) ?_
                  have harr := ho.below (below_drew (Below.refl _ _))
                  have hb5 := hb4.drew
                  generalize wr.drew = w5 at harr hb5 ⊢
                  obtain ⟨x0, X0, hx0, fx0⟩ := harr.cellx m (by omega)
                  obtain ⟨x1, X1, hx1, fx1⟩ := harr.cellx p1 (by omega)
                  obtain ⟨x2, X2, hx2, fx2⟩ := harr.cellx p2 (by omega)
                  obtain ⟨x3, X3, hx3, fx3⟩ := harr.cellx p3 (by omega)
                  have gx0 := Grow.cells hx0
                  have gx1 := Grow.cells hx1
                  have gx2 := Grow.cells hx2
                  have gx3 := Grow.cells hx3
                  have j0 : (m : Int) < 16 := by omega
                  have j1 : (p1 : Int) < 16 := by omega
                  have j2 : (p2 : Int) < 16 := by omega
                  have j3 : (p3 : Int) < 16 := by omega
                  have k0 : (0 : Int) ≤ m := by omega
                  have k1 : (0 : Int) ≤ p1 := by omega
                  have k2 : (0 : Int) ≤ p2 := by omega
                  have k3 : (0 : Int) ≤ p3 := by omega
                  have q1 := wrap64_of p1 l1
                  have q2 := wrap64_of p2 l2
                  have q3 := wrap64_of p3 l3
                  clear hx0 hx1 hx2 hx3 fx0 fx1 fx2 fx3 ho hb4
                  refine rseq_pure (i := 0) (N := some 75) (v := ?_) (a' := ?_) rfl rfl (by rfl) (fun _ _ _ h => h) ?_ ?_ ?_
                  rotate_left 2
                  · intro w' hg
                    go_simp
                    with_reducible rfl
                  · simp only [Act.put, List.setIfInBounds_toArray, List.set_cons_zero, List.set_cons_succ, i64_w, i32_w]
                    rfl
                  refine rseq_pure (i := 1) (N := some 76) (v := ?_) (a' := ?_) rfl rfl (by rfl) (fun _ _ _ h => h) ?_ ?_ ?_
                  rotate_left 2
                  · intro w' hg
                    go_simp
                    with_reducible rfl
                  · simp only [Act.put, List.setIfInBounds_toArray, List.set_cons_zero, List.set_cons_succ, i64_w, i32_w]
                    rfl
                  refine rseq_pure2 (i := 2) (N := some 77) (v := ?_) (a' := ?_) rfl rfl (by rfl) (fun _ _ _ h => h) ?_ ?_ ?_
                  rotate_left 2
                  · intro w' hg
                    go_simp
                    with_reducible rfl
                  · simp only [Act.put, List.setIfInBounds_toArray, List.set_cons_zero, List.set_cons_succ, i64_w, i32_w]
                    rfl
                  refine rseq_pure2 (i := 3) (N := some 78) (v := ?_) (a' := ?_) rfl rfl (by rfl) (fun _ _ _ h => h) ?_ ?_ ?_
                  rotate_left 2
                  · intro w' hg
                    go_simp
                    with_reducible rfl
                  · simp only [Act.put, List.setIfInBounds_toArray, List.set_cons_zero, List.set_cons_succ, i64_w, i32_w]
                    rfl
                  refine rseq_pure2 (i := 4) (N := some 79) (v := ?_) (a' := ?_) rfl rfl (by rfl) (fun _ _ _ h => h) ?_ ?_ ?_
                  rotate_left 2
                  · intro w' hg
                    go_simp
                    with_reducible rfl
                  · simp only [Act.put, List.setIfInBounds_toArray, List.set_cons_zero, List.set_cons_succ, i64_w, i32_w]
                    rfl
                  refine rseq_pure2 (i := 5) (N := some 80) (v := ?_) (a' := ?_) rfl rfl (by rfl) (fun _ _ _ h => h) ?_ ?_ ?_
                  rotate_left 2
                  · intro w' hg
                    go_simp
                    with_reducible rfl
                  · simp only [Act.put, List.setIfInBounds_toArray, List.set_cons_zero, List.set_cons_succ, i64_w, i32_w]
                    rfl
                  refine rseq_pure2 (i := 6) (N := some 81) (v := ?_) (a' := ?_) rfl rfl (by rfl) (fun _ _ _ h => h) ?_ ?_ ?_
                  rotate_left 2
                  · intro w' hg
                    go_simp
                    with_reducible rfl
                  · simp only [Act.put, List.setIfInBounds_toArray, List.set_cons_zero, List.set_cons_succ, i64_w, i32_w]
                    rfl
                  refine rseq_pure2 (i := 7) (N := some 82) (v := ?_) (a' := ?_) rfl rfl (by rfl) (fun _ _ _ h => h) ?_ ?_ ?_
                  rotate_left 2
                  · intro w' hg
                    go_simp
                    with_reducible rfl
                  · simp only [Act.put, List.setIfInBounds_toArray, List.set_cons_zero, List.set_cons_succ, i64_w, i32_w]
                    rfl
                  refine rseq_pure2 (i := 8) (N := some 83) (v := ?_) (a' := ?_) rfl rfl (by rfl) (fun _ _ _ h => h) ?_ ?_ ?_
                  rotate_left 2
                  · intro w' hg
                    go_simp
                    with_reducible rfl
                  · simp only [Act.put, List.setIfInBounds_toArray, List.set_cons_zero, List.set_cons_succ, i64_w, i32_w]
                    rfl
                  refine rseq_pure2 (i := 9) (N := some 84) (v := ?_) (a' := ?_) rfl rfl (by rfl) (fun _ _ _ h => h) ?_ ?_ ?_
                  rotate_left 2
                  · intro w' hg
                    go_simp
                    with_reducible rfl
                  · simp only [Act.put, List.setIfInBounds_toArray, List.set_cons_zero, List.set_cons_succ, i64_w, i32_w]
                    rfl
                  refine rseq_pure2 (i := 10) (N := some 85) (v := ?_) (a' := ?_) rfl rfl (by rfl) (fun _ _ _ h => h) ?_ ?_ ?_
                  rotate_left 2
                  · intro w' hg
                    go_simp
                    with_reducible rfl
                  · simp only [Act.put, List.setIfInBounds_toArray, List.set_cons_zero, List.set_cons_succ, i64_w, i32_w]
                    rfl
                  refine rseq_pure (i := 11) (N := some 86) (v := ?_) (a' := ?_) rfl rfl (by rfl) (fun _ _ _ h => h) ?_ ?_ ?_
                  rotate_left 2
                  · intro w' hg
                    go_simp
                    with_reducible rfl
                  · simp only [Act.put, List.setIfInBounds_toArray, List.set_cons_zero, List.set_cons_succ, i64_w, i32_w]
                    rfl
                  refine rseq_pure (i := 12) (N := some 87) (v := ?_) (a' := ?_) rfl rfl (by rfl) (fun _ _ _ h => h) ?_ ?_ ?_
                  rotate_left 2
                  · intro w' hg
                    go_simp
                    with_reducible rfl
                  · simp only [Act.put, List.setIfInBounds_toArray, List.set_cons_zero, List.set_cons_succ, i64_w, i32_w]
                    rfl
                  refine rseq_pure (i := 13) (N := some 88) (v := ?_) (a' := ?_) rfl rfl (by rfl) (fun _ _ _ h => h) ?_ ?_ ?_
                  rotate_left 2
                  · intro w' hg
                    go_simp
                    with_reducible rfl
                  · simp only [Act.put, List.setIfInBounds_toArray, List.set_cons_zero, List.set_cons_succ, i64_w, i32_w]
                    rfl
                  refine rseq_pure (i := 14) (N := some 89) (v := ?_) (a' := ?_) rfl rfl (by rfl) (fun _ _ _ h => h) ?_ ?_ ?_
                  rotate_left 2
                  · intro w' hg
                    go_simp
                    with_reducible rfl
                  · simp only [Act.put, List.setIfInBounds_toArray, List.set_cons_zero, List.set_cons_succ, i64_w, i32_w]
                    rfl
                  refine rseq_pure (i := 15) (N := some 90) (v := ?_) (a' := ?_) rfl rfl (by rfl) (fun _ _ _ h => h) ?_ ?_ ?_
                  rotate_left 2
                  · intro w' hg
                    go_simp
                    with_reducible rfl
                  · simp only [Act.put, List.setIfInBounds_toArray, List.set_cons_zero, List.set_cons_succ, i64_w, i32_w]
                    rfl
                  refine rseq_pure (i := 16) (N := some 91) (v := ?_) (a' := ?_) rfl rfl (by rfl) (fun _ _ _ h => h) ?_ ?_ ?_
                  rotate_left 2
                  · intro w' hg
                    go_simp
                    with_reducible rfl
                  · simp only [Act.put, List.setIfInBounds_toArray, List.set_cons_zero, List.set_cons_succ, i64_w, i32_w]
                    rfl
                  refine rseq_pure (i := 17) (N := some 92) (v := ?_) (a' := ?_) rfl rfl (by rfl) (fun _ _ _ h => h) ?_ ?_ ?_
                  rotate_left 2
                  · intro w' hg
                    go_simp
                    with_reducible rfl
                  · simp only [Act.put, List.setIfInBounds_toArray, List.set_cons_zero, List.set_cons_succ, i64_w, i32_w]
                    rfl
                  refine rseq_pure (i := 18) (N := some 93) (v := ?_) (a' := ?_) rfl rfl (by rfl) (fun _ _ _ h => h) ?_ ?_ ?_
                  rotate_left 2
                  · intro w' hg
                    go_simp
                    with_reducible rfl
                  · simp only [Act.put, List.setIfInBounds_toArray, List.set_cons_zero, List.set_cons_succ, i64_w, i32_w]
                    rfl
                  refine rseq_pure (i := 19) (N := some 94) (v := ?_) (a' := ?_) rfl rfl (by rfl) (fun _ _ _ h => h) ?_ ?_ ?_
                  rotate_left 2
                  · intro w' hg
                    go_simp
                    with_reducible rfl
                  · simp only [Act.put, List.setIfInBounds_toArray, List.set_cons_zero, List.set_cons_succ, i64_w, i32_w]
                    rfl
                  refine rseq_pure (i := 20) (N := some 95) (v := ?_) (a' := ?_) rfl rfl (by rfl) (fun _ _ _ h => h) ?_ ?_ ?_
                  rotate_left 2
                  · intro w' hg
                    go_simp
                    with_reducible rfl
                  · simp only [Act.put, List.setIfInBounds_toArray, List.set_cons_zero, List.set_cons_succ, i64_w, i32_w]
                    rfl
                  refine rseq_pure (i := 21) (N := some 96) (v := ?_) (a' := ?_) rfl rfl (by rfl) (fun _ _ _ h => h) ?_ ?_ ?_
                  rotate_left 2
                  · intro w' hg
                    go_simp
                    with_reducible rfl
                  · simp only [Act.put, List.setIfInBounds_toArray, List.set_cons_zero, List.set_cons_succ, i64_w, i32_w]
                    rfl
                  refine rseq_pure (i := 22) (N := some 97) (v := ?_) (a' := ?_) rfl rfl (by rfl) (fun _ _ _ h => h) ?_ ?_ ?_
                  rotate_left 2
                  · intro w' hg
                    go_simp
                    with_reducible rfl
                  · simp only [Act.put, List.setIfInBounds_toArray, List.set_cons_zero, List.set_cons_succ, i64_w, i32_w]
                    rfl
                  refine rseq_pure (i := 23) (N := some 98) (v := ?_) (a' := ?_) rfl rfl (by rfl) (fun _ _ _ h => h) ?_ ?_ ?_
                  rotate_left 2
                  · intro w' hg
                    go_simp
                    with_reducible rfl
                  · simp only [Act.put, List.setIfInBounds_toArray, List.set_cons_zero, List.set_cons_succ, i64_w, i32_w]
                    rfl
                  refine rseq_pure (i := 24) (N := some 99) (v := ?_) (a' := ?_) rfl rfl (by rfl) (fun _ _ _ h => h) ?_ ?_ ?_
                  rotate_left 2
                  · intro w' hg
                    go_simp
                    with_reducible rfl
                  · simp only [Act.put, List.setIfInBounds_toArray, List.set_cons_zero, List.set_cons_succ, i64_w, i32_w]
                    rfl
                  refine rseq_pure (i := 25) (N := some 100) (v := ?_) (a' := ?_) rfl rfl (by rfl) (fun _ _ _ h => h) ?_ ?_ ?_
                  rotate_left 2
                  · intro w' hg
                    go_simp
                    with_reducible rfl
                  · simp only [Act.put, List.setIfInBounds_toArray, List.set_cons_zero, List.set_cons_succ, i64_w, i32_w]
                    rfl
                  refine rseq_pure (i := 26) (N := some 101) (v := ?_) (a' := ?_) rfl rfl (by rfl) (fun _ _ _ h => h) ?_ ?_ ?_
                  rotate_left 2
                  · intro w' hg
                    go_simp
                    with_reducible rfl
                  · simp only [Act.put, List.setIfInBounds_toArray, List.set_cons_zero, List.set_cons_succ, i64_w, i32_w]
                    rfl
                  refine rseq_pure (i := 27) (N := some 102) (v := ?_) (a' := ?_) rfl rfl (by rfl) (fun _ _ _ h => h) ?_ ?_ ?_
                  rotate_left 2
                  · intro w' hg
                    go_simp
                    with_reducible rfl
                  · simp only [Act.put, List.setIfInBounds_toArray, List.set_cons_zero, List.set_cons_succ, i64_w, i32_w]
                    rfl
                  refine rseq_pure (i := 28) (N := some 103) (v := ?_) (a' := ?_) rfl rfl (by rfl) (fun _ _ _ h => h) ?_ ?_ ?_
                  rotate_left 2
                  · intro w' hg
                    go_simp
                    with_reducible rfl
                  · simp only [Act.put, List.setIfInBounds_toArray, List.set_cons_zero, List.set_cons_succ, i64_w, i32_w]
                    rfl
                  refine rseq_pure (i := 29) (N := some 104) (v := ?_) (a' := ?_) rfl rfl (by rfl) (fun _ _ _ h => h) ?_ ?_ ?_
                  rotate_left 2
                  · intro w' hg
                    go_simp
                    with_reducible rfl
                  · simp only [Act.put, List.setIfInBounds_toArray, List.set_cons_zero, List.set_cons_succ, i64_w, i32_w]
                    rfl
                  refine rseq_call (i := 30) (N := some 105) rfl rfl Tryd.func119 (by kernel_rfl) rfl #[.int .u64 x0, .int .u64 x1, .int .u64 x2, .int .u64 x3] (by rfl) rfl ?_ ?_
                  · simp only [List.map_toArray, List.map_cons, List.map_nil]
                    rfl
                  refine (refquarter_calls x0 x1 x2 x3 _ rfl rfl rfl rfl (by rw [← X0.out]; exact HW.out.getD _) (by rw [← X1.out]; exact HW.out.getD _) (by rw [← X2.out]; exact HW.out.getD _) (by rw [← X3.out]; exact HW.out.getD _)).mono ?_
                  rintro e w6 ⟨rfl, hg6⟩
                  obtain ⟨⟨y0, y1, y2, y3⟩, HY⟩ : ∃ y, Aside0 (qr x0 x1 x2 x3 = y) := ⟨_, ⟨rfl⟩⟩
                  rw [HY.out]
                  refine ⟨_, rfl, ⟨fun _ => hg6, trivial⟩, ?_⟩
                  replace harr := harr.below hg6
                  replace hb5 := hb5.trans (hg6.mono hb5.size)
                  have s1 := harr.put m y0
                  have s2 := s1.put p1 y1
                  have s3 := s2.put p2 y2
                  have s4 := s3.put p3 y3
                  obtain ⟨z0, _, hz0, fz0⟩ := harr.cellx m (by omega)
                  obtain ⟨z1, _, hz1, fz1⟩ := s1.cellx p1 (by omega)
                  obtain ⟨z2, _, hz2, fz2⟩ := s2.cellx p2 (by omega)
                  obtain ⟨z3, _, hz3, fz3⟩ := s3.cellx p3 (by omega)
                  have S4 := hd s4
                  clear s1 s2 s3 s4 harr hg6
                  refine rseq_norm (a' := ?_) ?_ ?_
                  rotate_left
                  · show Act.put _ (some 105) _ = _
                    simp only [Act.put, List.setIfInBounds_toArray, List.set_cons_zero, List.set_cons_succ, i64_w, i32_w]
                    rfl
                  refine rseq_pure (i := 31) (N := some 74) (v := ?_) (a' := ?_) rfl rfl (by rfl) (fun _ _ _ h => h) ?_ ?_ ?_
                  rotate_left 2
                  · intro w' hg
                    go_simp
                    with_reducible rfl
                  · simp only [Act.put, List.setIfInBounds_toArray, List.set_cons_zero, List.set_cons_succ, i64_w, i32_w]
                    rfl
                  refine rseq_pure (i := 32) (N := some 106) (v := ?_) (a' := ?_) rfl rfl (by rfl) (fun _ _ _ h => h) ?_ ?_ ?_
                  rotate_left 2
                  · intro w' hg
                    go_simp
                    with_reducible rfl
                  · simp only [Act.put, List.setIfInBounds_toArray, List.set_cons_zero, List.set_cons_succ, i64_w, i32_w]
                    rfl
                  refine rseq_pure2 (i := 33) (N := some 107) (v := ?_) (a' := ?_) rfl rfl (by rfl) (fun _ _ _ h => h) ?_ ?_ ?_
                  rotate_left 2
                  · intro w' hg
                    go_simp
                    with_reducible rfl
                  · simp only [Act.put, List.setIfInBounds_toArray, List.set_cons_zero, List.set_cons_succ, i64_w, i32_w]
                    rfl
                  refine rseq_pure2 (i := 34) (N := some 108) (v := ?_) (a' := ?_) rfl rfl (by rfl) (fun _ _ _ h => h) ?_ ?_ ?_
                  rotate_left 2
                  · intro w' hg
                    go_simp
                    with_reducible rfl
                  · simp only [Act.put, List.setIfInBounds_toArray, List.set_cons_zero, List.set_cons_succ, i64_w, i32_w]
                    rfl
                  refine rseq_pure2 (i := 35) (N := some 109) (v := ?_) (a' := ?_) rfl rfl (by rfl) (fun _ _ _ h => h) ?_ ?_ ?_
                  rotate_left 2
                  · intro w' hg
                    go_simp
                    with_reducible rfl
                  · simp only [Act.put, List.setIfInBounds_toArray, List.set_cons_zero, List.set_cons_succ, i64_w, i32_w]
                    rfl
                  refine rseq_pure (i := 36) (N := some 110) (v := ?_) (a' := ?_) rfl rfl (by rfl) (fun _ _ _ h => h) ?_ ?_ ?_
                  rotate_left 2
                  · intro w' hg
                    go_simp
                    with_reducible rfl
                  · simp only [Act.put, List.setIfInBounds_toArray, List.set_cons_zero, List.set_cons_succ, i64_w, i32_w]
                    rfl
                  refine rseq_skip (i := 37) (w1 := ?_) rfl rfl (by rfl) ?_ ?_ ?_
                  rotate_left
                  · go_simp
                    rfl
                  · exact ⟨fun h => absurd (by decide) h, trivial⟩
                  refine rseq_pure (i := 38) (N := some 111) (v := ?_) (a' := ?_) rfl rfl (by rfl) (fun _ _ _ h => h) ?_ ?_ ?_
                  rotate_left 2
                  · intro w' hg
                    go_simp
                    with_reducible rfl
                  · simp only [Act.put, List.setIfInBounds_toArray, List.set_cons_zero, List.set_cons_succ, i64_w, i32_w]
                    rfl
                  refine rseq_skip (i := 39) (w1 := ?_) rfl rfl (by rfl) ?_ ?_ ?_
                  rotate_left
                  · go_simp
                    rfl
                  · exact ⟨fun h => absurd (by decide) h, trivial⟩
                  refine rseq_pure (i := 40) (N := some 112) (v := ?_) (a' := ?_) rfl rfl (by rfl) (fun _ _ _ h => h) ?_ ?_ ?_
                  rotate_left 2
                  · intro w' hg
                    go_simp
                    with_reducible rfl
                  · simp only [Act.put, List.setIfInBounds_toArray, List.set_cons_zero, List.set_cons_succ, i64_w, i32_w]
                    rfl
                  refine rseq_skip (i := 41) (w1 := ?_) rfl rfl (by rfl) ?_ ?_ ?_
                  rotate_left
                  · go_simp
                    rfl
                  · exact ⟨fun h => absurd (by decide) h, trivial⟩
                  refine rseq_pure (i := 42) (N := some 113) (v := ?_) (a' := ?_) rfl rfl (by rfl) (fun _ _ _ h => h) ?_ ?_ ?_
                  rotate_left 2
                  · intro w' hg
                    go_simp
                    with_reducible rfl
                  · simp only [Act.put, List.setIfInBounds_toArray, List.set_cons_zero, List.set_cons_succ, i64_w, i32_w]
                    rfl
                  refine rseq_skip (i := 43) (w1 := ?_) rfl rfl (by rfl) ?_ ?_ ?_
                  rotate_left
                  · go_simp
                    rfl
                  · exact ⟨fun h => absurd (by decide) h, trivial⟩
                  refine rseq_doneW (fun w' => OwnK .u64 22 wr0.heap.size w' (.slice (some ⟨gv, 0, none⟩) 16 cv) ((((s.set m y0).set p1 y1).set p2 y2).set p3 y3) ∧ Below wr0.heap.size wr0 w') ⟨S4.out, (((hb5.setCell hgvb _).setCell hgvb _).setCell hgvb _).setCell hgvb _⟩ ?_
                  clear q1 q2 q3 j0 j1 j2 j3 k0 k1 k2 k3 S4 hb5 hz0 hz1 hz2 hz3 fz0 fz1 fz2 fz3 gx0 gx1 gx2 gx3
                  intro w8 hw8
                  have HW8 := hd hw8
                  clear hw8
                  go_wp2
                  go_roundw
                  case rel =>
                    refine ⟨m + 1, by omega, by go_num, ?_, ?_⟩
                    · have e0 := HPM.out
                      rw [e0, qrs_snoc, HSS.out]
                      have e : qrAt s m p1 p2 p3 = (((s.set m y0).set p1 y1).set p2 y2).set p3 y3 := by
                        unfold qrAt
                        simp only
                        rw [X0.out, X1.out, X2.out, X3.out, HY.out]
                      rw [e]
                      exact HW8.out.1
                    · exact HW8.out.2
                  case measure => simp [intOf]; omega
                · obtain rfl : m = 4 := by omega
                  go_wp2
                  go_loopw [13] (fun j wi => ∃ m : Nat, m ≤ 4 ∧ j = .int .i64 m ∧ OwnK .u64 22 wr0.heap.size wi (.slice (some ⟨gv, 0, none⟩) 16 cv) (qrs (dbls f n) (places.take (4 + m))) ∧ Below wr0.heap.size wr0 wi) (fun j _ => 4 - (intOf j).toNat)
                  case atStart => exact ⟨0, Nat.zero_le _, rfl, ho, hb4⟩
                  case round =>
                    clear ho hb4 hm hlt2
                    obtain ⟨m, hm, rfl, ho, hb4⟩ := hrel
                    by_cases hlt2 : m < 4
                    · as_aux_lemma =>
                      obtain ⟨s, HSS⟩ : ∃ s, Aside0 (qrs (dbls f n) (places.take (4 + m)) = s) := ⟨_, ⟨rfl⟩⟩
                      rw [HSS.out] at ho
                      have HW := hd (show Words32 s by rw [← HSS.out]; exact qrs_ok _ _ (dbls_ok HFW.out n))
                      obtain ⟨p1, hp1⟩ : ∃ p : Nat, p = 4 + (m + 1) % 4 := ⟨_, rfl⟩
                      obtain ⟨p2, hp2⟩ : ∃ p : Nat, p = 8 + (m + 2) % 4 := ⟨_, rfl⟩
                      obtain ⟨p3, hp3⟩ : ∃ p : Nat, p = 12 + (m + 3) % 4 := ⟨_, rfl⟩
                      have HPM := hd (places_b m hlt2)
                      rw [← hp1, ← hp2, ← hp3] at HPM
                      have e1 : 4 + ((m : Int) + 1) % 4 = (p1 : Int) := by omega
                      have e2 : 8 + ((m : Int) + 2) % 4 = (p2 : Int) := by omega
                      have e3 : 12 + ((m : Int) + 3) % 4 = (p3 : Int) := by omega
                      have l0 : m < 16 := by omega
                      have l1 : p1 < 16 := by omega
                      have l2 : p2 < 16 := by omega
                      have l3 : p3 < 16 := by omega
                      clear hp1 hp2 hp3
                      go_wp2
                      refine upR_start Keeps.any [31, 33, 35, 37] [(0, 1), (1, 1), (2, 2), (3, 2), (4, 2), (5, 2), (6, 2), (7, 2), (8, 1), (9, 1), (10, 1), (11, 1), (12, 1), (13, 1), (14, 1), (15, 1), (16, 1), (17, 1), (18, 1), (19, 1), (20, 1), (21, 1), (22, 1), (23, 1), (24, 0), (25, 1), (26, 1), (27, 2), (28, 2), (29, 2), (30, 1), (31, 0), (32, 1), (33, 0), (34, 1), (35, 0), (36, 1), (37, 0)] (by kernel_rfl) rfl (by kernel_rfl) (by kernel_rfl) ?_
                      have harr := ho.below (below_drew (Below.refl _ _))
                      have hb5 := hb4.drew
                      generalize wr.drew = w5 at harr hb5 ⊢
                      obtain ⟨x0, X0, hx0, fx0⟩ := harr.cellx m (by omega)
                      obtain ⟨x1, X1, hx1, fx1⟩ := harr.cellx p1 (by omega)
                      obtain ⟨x2, X2, hx2, fx2⟩ := harr.cellx p2 (by omega)
                      obtain ⟨x3, X3, hx3, fx3⟩ := harr.cellx p3 (by omega)
                      have gx0 := Grow.cells hx0
                      have gx1 := Grow.cells hx1
                      have gx2 := Grow.cells hx2
                      have gx3 := Grow.cells hx3
                      have j0 : (m : Int) < 16 := by omega
                      have j1 : (p1 : Int) < 16 := by omega
                      have j2 : (p2 : Int) < 16 := by omega
                      have j3 : (p3 : Int) < 16 := by omega
                      have k0 : (0 : Int) ≤ m := by omega
                      have k1 : (0 : Int) ≤ p1 := by omega
                      have k2 : (0 : Int) ≤ p2 := by omega
                      have k3 : (0 : Int) ≤ p3 := by omega
                      have q1 := wrap64_of p1 l1
                      have q2 := wrap64_of p2 l2
                      have q3 := wrap64_of p3 l3
                      clear hx0 hx1 hx2 hx3 fx0 fx1 fx2 fx3 ho hb4
                      refine rseq_pure (i := 0) (N := some 131) (v := ?_) (a' := ?_) rfl rfl (by rfl) (fun _ _ _ h => h) ?_ ?_ ?_
                      rotate_left 2
                      · intro w' hg
                        go_simp
                        with_reducible rfl
                      · simp only [Act.put, List.setIfInBounds_toArray, List.set_cons_zero, List.set_cons_succ, i64_w, i32_w]
                        rfl
                      refine rseq_pure (i := 1) (N := some 132) (v := ?_) (a' := ?_) rfl rfl (by rfl) (fun _ _ _ h => h) ?_ ?_ ?_
                      rotate_left 2
                      · intro w' hg
                        go_simp
                        with_reducible rfl
                      · simp only [Act.put, List.setIfInBounds_toArray, List.set_cons_zero, List.set_cons_succ, i64_w, i32_w]
                        rfl
                      refine rseq_pure2 (i := 2) (N := some 133) (v := ?_) (a' := ?_) rfl rfl (by rfl) (fun _ _ _ h => h) ?_ ?_ ?_
                      rotate_left 2
                      · intro w' hg
                        go_simp
                        with_reducible rfl
                      · simp only [Act.put, List.setIfInBounds_toArray, List.set_cons_zero, List.set_cons_succ, i64_w, i32_w]
                        rfl
                      refine rseq_pure2 (i := 3) (N := some 134) (v := ?_) (a' := ?_) rfl rfl (by rfl) (fun _ _ _ h => h) ?_ ?_ ?_
                      rotate_left 2
                      · intro w' hg
                        go_simp
                        with_reducible rfl
                      · simp only [Act.put, List.setIfInBounds_toArray, List.set_cons_zero, List.set_cons_succ, i64_w, i32_w]
                        rfl
                      refine rseq_pure2 (i := 4) (N := some 135) (v := ?_) (a' := ?_) rfl rfl (by rfl) (fun _ _ _ h => h) ?_ ?_ ?_
                      rotate_left 2
                      · intro w' hg
                        go_simp
                        with_reducible rfl
                      · simp only [Act.put, List.setIfInBounds_toArray, List.set_cons_zero, List.set_cons_succ, i64_w, i32_w]
                        rfl
                      refine rseq_pure2 (i := 5) (N := some 136) (v := ?_) (a' := ?_) rfl rfl (by rfl) (fun _ _ _ h => h) ?_ ?_ ?_
                      rotate_left 2
                      · intro w' hg
                        go_simp
                        with_reducible rfl
                      · simp only [Act.put, List.setIfInBounds_toArray, List.set_cons_zero, List.set_cons_succ, i64_w, i32_w]
                        rfl
                      refine rseq_pure2 (i := 6) (N := some 137) (v := ?_) (a' := ?_) rfl rfl (by rfl) (fun _ _ _ h => h) ?_ ?_ ?_
                      rotate_left 2
                      · intro w' hg
                        go_simp
                        with_reducible rfl
                      · simp only [Act.put, List.setIfInBounds_toArray, List.set_cons_zero, List.set_cons_succ, i64_w, i32_w]
                        rfl
                      refine rseq_pure2 (i := 7) (N := some 138) (v := ?_) (a' := ?_) rfl rfl (by rfl) (fun _ _ _ h => h) ?_ ?_ ?_
                      rotate_left 2
                      · intro w' hg
                        go_simp
                        with_reducible rfl
                      · simp only [Act.put, List.setIfInBounds_toArray, List.set_cons_zero, List.set_cons_succ, i64_w, i32_w]
                        rfl
                      refine rseq_pure (i := 8) (N := some 139) (v := ?_) (a' := ?_) rfl rfl (by rfl) (fun _ _ _ h => h) ?_ ?_ ?_
                      rotate_left 2
                      · intro w' hg
                        go_simp
                        with_reducible rfl
                      · simp only [Act.put, List.setIfInBounds_toArray, List.set_cons_zero, List.set_cons_succ, i64_w, i32_w]
                        rfl
                      refine rseq_pure (i := 9) (N := some 140) (v := ?_) (a' := ?_) rfl rfl (by rfl) (fun _ _ _ h => h) ?_ ?_ ?_
                      rotate_left 2
                      · intro w' hg
                        go_simp
                        with_reducible rfl
                      · simp only [Act.put, List.setIfInBounds_toArray, List.set_cons_zero, List.set_cons_succ, i64_w, i32_w]
                        rfl
                      refine rseq_pure (i := 10) (N := some 141) (v := ?_) (a' := ?_) rfl rfl (by rfl) (fun _ _ _ h => h) ?_ ?_ ?_
                      rotate_left 2
                      · intro w' hg
                        go_simp
                        with_reducible rfl
                      · simp only [Act.put, List.setIfInBounds_toArray, List.set_cons_zero, List.set_cons_succ, i64_w, i32_w]
                        rfl
                      refine rseq_pure (i := 11) (N := some 142) (v := ?_) (a' := ?_) rfl rfl (by rfl) (fun _ _ _ h => h) ?_ ?_ ?_
                      rotate_left 2
                      · intro w' hg
                        go_simp
                        with_reducible rfl
                      · simp only [Act.put, List.setIfInBounds_toArray, List.set_cons_zero, List.set_cons_succ, i64_w, i32_w]
                        rfl
                      refine rseq_pure (i := 12) (N := some 143) (v := ?_) (a' := ?_) rfl rfl (by rfl) (fun _ _ _ h => h) ?_ ?_ ?_
                      rotate_left 2
                      · intro w' hg
                        go_simp
                        with_reducible rfl
                      · simp only [Act.put, List.setIfInBounds_toArray, List.set_cons_zero, List.set_cons_succ, i64_w, i32_w]
                        rfl
                      refine rseq_pure (i := 13) (N := some 144) (v := ?_) (a' := ?_) rfl rfl (by rfl) (fun _ _ _ h => h) ?_ ?_ ?_
                      rotate_left 2
                      · intro w' hg
                        go_simp
                        with_reducible rfl
                      · simp only [Act.put, List.setIfInBounds_toArray, List.set_cons_zero, List.set_cons_succ, i64_w, i32_w]
                        rfl
                      refine rseq_pure (i := 14) (N := some 145) (v := ?_) (a' := ?_) rfl rfl (by rfl) (fun _ _ _ h => h) ?_ ?_ ?_
                      rotate_left 2
                      · intro w' hg
                        go_simp
                        with_reducible rfl
                      · simp only [Act.put, List.setIfInBounds_toArray, List.set_cons_zero, List.set_cons_succ, i64_w, i32_w]
                        rfl
                      refine rseq_pure (i := 15) (N := some 146) (v := ?_) (a' := ?_) rfl rfl (by rfl) (fun _ _ _ h => h) ?_ ?_ ?_
                      rotate_left 2
                      · intro w' hg
                        go_simp
                        with_reducible rfl
                      · simp only [Act.put, List.setIfInBounds_toArray, List.set_cons_zero, List.set_cons_succ, i64_w, i32_w]
                        rfl
                      refine rseq_pure (i := 16) (N := some 147) (v := ?_) (a' := ?_) rfl rfl (by rfl) (fun _ _ _ h => h) ?_ ?_ ?_
                      rotate_left 2
                      · intro w' hg
                        go_simp
                        with_reducible rfl
                      · simp only [Act.put, List.setIfInBounds_toArray, List.set_cons_zero, List.set_cons_succ, i64_w, i32_w]
                        rfl
                      refine rseq_pure (i := 17) (N := some 148) (v := ?_) (a' := ?_) rfl rfl (by rfl) (fun _ _ _ h => h) ?_ ?_ ?_
                      rotate_left 2
                      · intro w' hg
                        go_simp
                        with_reducible rfl
                      · simp only [Act.put, List.setIfInBounds_toArray, List.set_cons_zero, List.set_cons_succ, i64_w, i32_w]
                        rfl
                      refine rseq_pure (i := 18) (N := some 149) (v := ?_) (a' := ?_) rfl rfl (by rfl) (fun _ _ _ h => h) ?_ ?_ ?_
                      rotate_left 2
                      · intro w' hg
                        go_simp
                        with_reducible rfl
                      · simp only [Act.put, List.setIfInBounds_toArray, List.set_cons_zero, List.set_cons_succ, i64_w, i32_w]
                        rfl
                      refine rseq_pure (i := 19) (N := some 150) (v := ?_) (a' := ?_) rfl rfl (by rfl) (fun _ _ _ h => h) ?_ ?_ ?_
                      rotate_left 2
                      · intro w' hg
                        go_simp
                        with_reducible rfl
                      · simp only [Act.put, List.setIfInBounds_toArray, List.set_cons_zero, List.set_cons_succ, i64_w, i32_w]
                        rfl
                      refine rseq_pure (i := 20) (N := some 151) (v := ?_) (a' := ?_) rfl rfl (by rfl) (fun _ _ _ h => h) ?_ ?_ ?_
                      rotate_left 2
                      · intro w' hg
                        go_simp
                        with_reducible rfl
                      · simp only [Act.put, List.setIfInBounds_toArray, List.set_cons_zero, List.set_cons_succ, i64_w, i32_w]
                        rfl
                      refine rseq_pure (i := 21) (N := some 152) (v := ?_) (a' := ?_) rfl rfl (by rfl) (fun _ _ _ h => h) ?_ ?_ ?_
                      rotate_left 2
                      · intro w' hg
                        go_simp
                        with_reducible rfl
                      · simp only [Act.put, List.setIfInBounds_toArray, List.set_cons_zero, List.set_cons_succ, i64_w, i32_w]
                        rfl
                      refine rseq_pure (i := 22) (N := some 153) (v := ?_) (a' := ?_) rfl rfl (by rfl) (fun _ _ _ h => h) ?_ ?_ ?_
                      rotate_left 2
                      · intro w' hg
                        go_simp
                        with_reducible rfl
                      · simp only [Act.put, List.setIfInBounds_toArray, List.set_cons_zero, List.set_cons_succ, i64_w, i32_w]
                        rfl
                      refine rseq_pure (i := 23) (N := some 154) (v := ?_) (a' := ?_) rfl rfl (by rfl) (fun _ _ _ h => h) ?_ ?_ ?_
                      rotate_left 2
                      · intro w' hg
                        go_simp
                        with_reducible rfl
                      · simp only [Act.put, List.setIfInBounds_toArray, List.set_cons_zero, List.set_cons_succ, i64_w, i32_w]
                        rfl
                      refine rseq_call (i := 24) (N := some 155) rfl rfl Tryd.func119 (by kernel_rfl) rfl #[.int .u64 x0, .int .u64 x1, .int .u64 x2, .int .u64 x3] (by rfl) rfl ?_ ?_
                      · simp only [List.map_toArray, List.map_cons, List.map_nil]
                        rfl
                      refine (refquarter_calls x0 x1 x2 x3 _ rfl rfl rfl rfl (by rw [← X0.out]; exact HW.out.getD _) (by rw [← X1.out]; exact HW.out.getD _) (by rw [← X2.out]; exact HW.out.getD _) (by rw [← X3.out]; exact HW.out.getD _)).mono ?_
                      rintro e w6 ⟨rfl, hg6⟩
                      obtain ⟨⟨y0, y1, y2, y3⟩, HY⟩ : ∃ y, Aside0 (qr x0 x1 x2 x3 = y) := ⟨_, ⟨rfl⟩⟩
                      rw [HY.out]
                      refine ⟨_, rfl, ⟨fun _ => hg6, trivial⟩, ?_⟩
                      replace harr := harr.below hg6
                      replace hb5 := hb5.trans (hg6.mono hb5.size)
                      have s1 := harr.put m y0
                      have s2 := s1.put p1 y1
                      have s3 := s2.put p2 y2
                      have s4 := s3.put p3 y3
                      obtain ⟨z0, _, hz0, fz0⟩ := harr.cellx m (by omega)
                      obtain ⟨z1, _, hz1, fz1⟩ := s1.cellx p1 (by omega)
                      obtain ⟨z2, _, hz2, fz2⟩ := s2.cellx p2 (by omega)
                      obtain ⟨z3, _, hz3, fz3⟩ := s3.cellx p3 (by omega)
                      have S4 := hd s4
                      clear s1 s2 s3 s4 harr hg6
                      refine rseq_norm (a' := ?_) ?_ ?_
                      rotate_left
                      · show Act.put _ (some 155) _ = _
                        simp only [Act.put, List.setIfInBounds_toArray, List.set_cons_zero, List.set_cons_succ, i64_w, i32_w]
                        rfl
                      refine rseq_pure (i := 25) (N := some 130) (v := ?_) (a' := ?_) rfl rfl (by rfl) (fun _ _ _ h => h) ?_ ?_ ?_
                      rotate_left 2
                      · intro w' hg
                        go_simp
                        with_reducible rfl
                      · simp only [Act.put, List.setIfInBounds_toArray, List.set_cons_zero, List.set_cons_succ, i64_w, i32_w]
                        rfl
                      refine rseq_pure (i := 26) (N := some 156) (v := ?_) (a' := ?_) rfl rfl (by rfl) (fun _ _ _ h => h) ?_ ?_ ?_
                      rotate_left 2
                      · intro w' hg
                        go_simp
                        with_reducible rfl
                      · simp only [Act.put, List.setIfInBounds_toArray, List.set_cons_zero, List.set_cons_succ, i64_w, i32_w]
                        rfl
                      refine rseq_pure2 (i := 27) (N := some 157) (v := ?_) (a' := ?_) rfl rfl (by rfl) (fun _ _ _ h => h) ?_ ?_ ?_
                      rotate_left 2
                      · intro w' hg
                        go_simp
                        with_reducible rfl
                      · simp only [Act.put, List.setIfInBounds_toArray, List.set_cons_zero, List.set_cons_succ, i64_w, i32_w]
                        rfl
                      refine rseq_pure2 (i := 28) (N := some 158) (v := ?_) (a' := ?_) rfl rfl (by rfl) (fun _ _ _ h => h) ?_ ?_ ?_
                      rotate_left 2
                      · intro w' hg
                        go_simp
                        with_reducible rfl
                      · simp only [Act.put, List.setIfInBounds_toArray, List.set_cons_zero, List.set_cons_succ, i64_w, i32_w]
                        rfl
                      refine rseq_pure2 (i := 29) (N := some 159) (v := ?_) (a' := ?_) rfl rfl (by rfl) (fun _ _ _ h => h) ?_ ?_ ?_
                      rotate_left 2
                      · intro w' hg
                        go_simp
                        with_reducible rfl
                      · simp only [Act.put, List.setIfInBounds_toArray, List.set_cons_zero, List.set_cons_succ, i64_w, i32_w]
                        rfl
                      refine rseq_pure (i := 30) (N := some 160) (v := ?_) (a' := ?_) rfl rfl (by rfl) (fun _ _ _ h => h) ?_ ?_ ?_
                      rotate_left 2
                      · intro w' hg
                        go_simp
                        with_reducible rfl
                      · simp only [Act.put, List.setIfInBounds_toArray, List.set_cons_zero, List.set_cons_succ, i64_w, i32_w]
                        rfl
                      refine rseq_skip (i := 31) (w1 := ?_) rfl rfl (by rfl) ?_ ?_ ?_
                      rotate_left
                      · go_simp
                        rfl
                      · exact ⟨fun h => absurd (by decide) h, trivial⟩
                      refine rseq_pure (i := 32) (N := some 161) (v := ?_) (a' := ?_) rfl rfl (by rfl) (fun _ _ _ h => h) ?_ ?_ ?_
                      rotate_left 2
                      · intro w' hg
                        go_simp
                        with_reducible rfl
                      · simp only [Act.put, List.setIfInBounds_toArray, List.set_cons_zero, List.set_cons_succ, i64_w, i32_w]
                        rfl
                      refine rseq_skip (i := 33) (w1 := ?_) rfl rfl (by rfl) ?_ ?_ ?_
                      rotate_left
                      · go_simp
                        rfl
                      · exact ⟨fun h => absurd (by decide) h, trivial⟩
                      refine rseq_pure (i := 34) (N := some 162) (v := ?_) (a' := ?_) rfl rfl (by rfl) (fun _ _ _ h => h) ?_ ?_ ?_
                      rotate_left 2
                      · intro w' hg
                        go_simp
                        with_reducible rfl
                      · simp only [Act.put, List.setIfInBounds_toArray, List.set_cons_zero, List.set_cons_succ, i64_w, i32_w]
                        rfl
                      refine rseq_skip (i := 35) (w1 := ?_) rfl rfl (by rfl) ?_ ?_ ?_
                      rotate_left
                      · go_simp
                        rfl
                      · exact ⟨fun h => absurd (by decide) h, trivial⟩
                      refine rseq_pure (i := 36) (N := some 163) (v := ?_) (a' := ?_) rfl rfl (by rfl) (fun _ _ _ h => h) ?_ ?_ ?_
                      rotate_left 2
                      · intro w' hg
                        go_simp
                        with_reducible rfl
                      · simp only [Act.put, List.setIfInBounds_toArray, List.set_cons_zero, List.set_cons_succ, i64_w, i32_w]
                        rfl
                      refine rseq_skip (i := 37) (w1 := ?_) rfl rfl (by rfl) ?_ ?_ ?_
                      rotate_left
                      · go_simp
                        rfl
                      · exact ⟨fun h => absurd (by decide) h, trivial⟩
                      refine rseq_doneW (fun w' => OwnK .u64 22 wr0.heap.size w' (.slice (some ⟨gv, 0, none⟩) 16 cv) ((((s.set m y0).set p1 y1).set p2 y2).set p3 y3) ∧ Below wr0.heap.size wr0 w') ⟨S4.out, (((hb5.setCell hgvb _).setCell hgvb _).setCell hgvb _).setCell hgvb _⟩ ?_
                      clear q1 q2 q3 j0 j1 j2 j3 k0 k1 k2 k3 S4 hb5 hz0 hz1 hz2 hz3 fz0 fz1 fz2 fz3 gx0 gx1 gx2 gx3
                      intro w8 hw8
                      have HW8 := hd hw8
                      clear hw8
                      go_wp2
                      go_roundw
                      case rel =>
                        refine ⟨m + 1, by omega, by go_num, ?_, ?_⟩
                        · have e0 := HPM.out
                          rw [show 4 + (m + 1) = 4 + m + 1 from rfl, e0, qrs_snoc, HSS.out]
                          have e : qrAt s m p1 p2 p3 = (((s.set m y0).set p1 y1).set p2 y2).set p3 y3 := by
                            unfold qrAt
                            simp only
                            rw [X0.out, X1.out, X2.out, X3.out, HY.out]
                          rw [e]
                          exact HW8.out.1
                        · exact HW8.out.2
                      case measure => simp [intOf]; omega
                    · obtain rfl : m = 4 := by omega
                      go_wp2
                      go_roundw
                      case rel => exact ⟨n + 1, by omega, by go_num, ho, hb4⟩
                      case measure => simp [intOf]; omega
            · obtain rfl : n = 10 := by omega
              obtain ⟨s8, HSS⟩ : ∃ s, Aside0 (dbls f 10 = s) := ⟨_, ⟨rfl⟩⟩
              rw [HSS.out] at ho
              have HSL := hd (show s8.length = 16 by rw [← HSS.out, dbls_length, hfl])
              have HSW := hd (show Words32 s8 by rw [← HSS.out]; exact dbls_ok HFW.out 10)
              obtain ⟨W8, rfl⟩ : ∃ x : World, x = wr := ⟨_, rfl⟩
              go_wp2
              go_loopw [17, 18] (fun v i wl => ∃ m : Nat, m ≤ 16 ∧ i = .int .i64 m ∧ OwnK .u8 5 W8.heap.size wl v (told s8 f m) ∧ Below W8.heap.size W8 wl) (fun _ i _ => 16 - (intOf i).toNat)
              case atStart => exact ⟨0, Nat.zero_le _, rfl, OwnK.nil _ _ _ _, Below.refl _ _⟩
              case round =>
                have hv := ho
                have hf := HF.out
                clear ho
                obtain ⟨m, hm, rfl, ho, hbw⟩ := hrel
                by_cases hlt : m < 16
                · as_aux_lemma =>
                  have i0 : (0 : Int) ≤ m := by omega
                  have i1 : (m : Int) < 16 := by omega
                  go_wp2
                  refine up_start [12] [(0, true), (1, true), (2, true), (3, true), (4, true), (5, true), (6, true), (7, true), (8, true), (9, true), (10, true), (11, false), (12, false), (13, true)] (by kernel_rfl) rfl (by kernel_rfl) (by kernel_rfl) ?_
                  have hod := ho.below (below_drew (Below.refl _ _))
                  have hbd := hbw.drew
                  have hxv := hv.below hbd
                  have hyf := hf.below (below_seq hb4 hbd)
                  generalize wr.drew = w5 at hod hbd hxv hyf ⊢
                  obtain ⟨x, HX, hx, fx⟩ := hxv.cellx m hlt
                  obtain ⟨y, HY, hy, fy⟩ := hyf.cellx m hlt
                  have gx := Grow.cells hx
                  have gy := Grow.cells hy
                  have lx : x < 2 ^ 32 := by rw [← HX.out]; exact HSW.out.getD _
                  have ly : y < 2 ^ 32 := by rw [← HY.out]; exact HFW.out.getD _
                  obtain ⟨s, HS⟩ : ∃ s, Aside0 ((x + y) % 2 ^ 32 = s) := ⟨_, ⟨rfl⟩⟩
                  obtain ⟨f1, f2⟩ := add64_mod lx ly
                  rw [HS.out] at f2
                  obtain ⟨t, HT⟩ : ∃ t, Aside0 (x + y = t) := ⟨_, ⟨rfl⟩⟩
                  rw [HT.out] at f1 f2
                  have hs2 : s < 2 ^ 64 := by rw [← HS.out]; omega
                  have HS2 := hd hs2
                  clear ho hbw hx hy fx fy hs2 hxv hyf
                  refine seq_pure (i := 0) (N := some 168) (v := ?_) (a' := ?_) rfl rfl (by rfl) (fun _ _ _ h => h) ?_ ?_ ?_
                  rotate_left 2
                  · intro w' hg
                    go_simp
                    with_reducible rfl
                  · simp only [Act.put, List.setIfInBounds_toArray, List.set_cons_zero, List.set_cons_succ, i64_w, i32_w]
                    rfl
                  refine seq_pure (i := 1) (N := some 169) (v := ?_) (a' := ?_) rfl rfl (by rfl) (fun _ _ _ h => h) ?_ ?_ ?_
                  rotate_left 2
                  · intro w' hg
                    go_simp
                    with_reducible rfl
                  · simp only [Act.put, List.setIfInBounds_toArray, List.set_cons_zero, List.set_cons_succ, i64_w, i32_w]
                    rfl
                  refine seq_pure (i := 2) (N := some 170) (v := ?_) (a' := ?_) rfl rfl (by rfl) (fun _ _ _ h => h) ?_ ?_ ?_
                  rotate_left 2
                  · intro w' hg
                    go_simp
                    with_reducible rfl
                  · simp only [Act.put, List.setIfInBounds_toArray, List.set_cons_zero, List.set_cons_succ, i64_w, i32_w]
                    rfl
                  refine seq_pure (i := 3) (N := some 171) (v := ?_) (a' := ?_) rfl rfl (by rfl) (fun _ _ _ h => h) ?_ ?_ ?_
                  rotate_left 2
                  · intro w' hg
                    go_simp
                    with_reducible rfl
                  · simp only [Act.put, List.setIfInBounds_toArray, List.set_cons_zero, List.set_cons_succ, i64_w, i32_w]
                    rfl
                  refine seq_pure (i := 4) (N := some 172) (v := ?_) (a' := ?_) rfl rfl (by rfl) (fun _ _ _ h => h) ?_ ?_ ?_
                  rotate_left 2
                  · intro w' hg
                    go_simp
                    with_reducible rfl
                  · simp only [Act.put, List.setIfInBounds_toArray, List.set_cons_zero, List.set_cons_succ, i64_w, i32_w]
                    rfl
                  refine seq_pure (i := 5) (N := some 173) (v := ?_) (a' := ?_) rfl rfl (by rfl) (fun _ _ _ h => h) ?_ ?_ ?_
                  rotate_left 2
                  · intro w' hg
                    go_simp
                    with_reducible rfl
                  · simp only [Act.put, List.setIfInBounds_toArray, List.set_cons_zero, List.set_cons_succ, i64_w, i32_w]
                    rfl
                  refine seq_pure (i := 6) (N := some 174) (v := ?_) (a' := ?_) rfl rfl (by rfl) (fun _ _ _ h => h) ?_ ?_ ?_
                  rotate_left 2
                  · intro w' hg
                    go_simp
                    with_reducible rfl
                  · simp only [Act.put, List.setIfInBounds_toArray, List.set_cons_zero, List.set_cons_succ, i64_w, i32_w]
                    rfl
                  refine seq_pure (i := 7) (N := some 175) (v := ?_) (a' := ?_) rfl rfl (by rfl) (fun _ _ _ h => h) ?_ ?_ ?_
                  rotate_left 2
                  · intro w' hg
                    go_simp
                    with_reducible rfl
                  · simp only [Act.put, List.setIfInBounds_toArray, List.set_cons_zero, List.set_cons_succ, i64_w, i32_w]
                    rfl
                  refine seq_pure (i := 8) (N := some 176) (v := ?_) (a' := ?_) rfl rfl (by rfl) (fun _ _ _ h => h) ?_ ?_ ?_
                  rotate_left 2
                  · intro w' hg
                    go_simp
                    with_reducible rfl
                  · simp only [Act.put, List.setIfInBounds_toArray, List.set_cons_zero, List.set_cons_succ, i64_w, i32_w]
                    rfl
                  refine seq_pure (i := 9) (N := some 177) (v := ?_) (a' := ?_) rfl rfl (by rfl) (fun _ _ _ h => h) ?_ ?_ ?_
                  rotate_left 2
                  · intro w' hg
                    go_simp
                    with_reducible rfl
                  · simp only [Act.put, List.setIfInBounds_toArray, List.set_cons_zero, List.set_cons_succ, i64_w, i32_w]
                    rfl
                  refine seq_pure (i := 10) (N := some 178) (v := ?_) (a' := ?_) rfl rfl (by rfl) (fun _ _ _ h => h) ?_ ?_ ?_
                  rotate_left 2
                  · intro w' hg
                    go_simp
                    with_reducible rfl
                  · simp only [Act.put, List.setIfInBounds_toArray, List.set_cons_zero, List.set_cons_succ, i64_w, i32_w]
                    rfl
                  refine seq_call (i := 11) (N := some 179) rfl rfl Tryd.func91 (by kernel_rfl) rfl #[.int .u64 (s : Int), .int .i64 4] (by rfl) rfl ?_ ?_
                  · simp only [List.map_toArray, List.map_cons, List.map_nil]
                    rfl
                  refine (refstore_calls s 4 _ rfl HS2.out).mono ?_
                  rintro e w6 ⟨v, rfl, hv6, hg6⟩
                  obtain ⟨A6, c6, rfl, h6⟩ := hv6.bytes 4 (storeN_length _ _) (storeN_ok _ _)
                  replace hod := hod.below hg6
                  replace hbd := below_seq hbd hg6
                  refine ⟨_, rfl, fun _ => hg6, ?_⟩
                  clear hv6 gx gy
                  refine seq_norm (a' := ?_) ?_ ?_
                  rotate_left
                  · show Act.put _ (some 179) _ = _
                    simp only [Act.put, List.setIfInBounds_toArray, List.set_cons_zero, List.set_cons_succ, i64_w, i32_w]
                    rfl
                  refine seq_step rfl (fun K hK => ?_)
                  refine op_append_row_step (k := .u8) (w0 := W8) 180 (by rfl) W8.heap.size 5 40 _ _ (by rfl) (by rfl) Tryd.underlying40 Tryd.infoU8 (by decide) u17 (told s8 f m) (storeN s 4) A6 4 c6 (by rfl) (by rfl) (by rw [storeN_length]) hod h6.1 hbd hbd.size (by rw [told_length, storeN_length]; omega) ?_
                  intro v1 w7 ho7 hb7 hg7
                  refine hK _ _ (fun h => absurd (by decide) h) ?_
                  clear hK K
                  refine seq_norm (a' := ?_) ?_ ?_
                  rotate_left
                  · show Act.put _ (some 180) _ = _
                    simp only [Act.put, List.setIfInBounds_toArray, List.set_cons_zero, List.set_cons_succ, i64_w, i32_w]
                    rfl
                  refine seq_pure (i := 13) (N := some 17) (v := ?_) (a' := ?_) rfl rfl (by rfl) (fun _ _ _ h => h) ?_ ?_ ?_
                  rotate_left 2
                  · intro w' hg
                    go_simp
                    with_reducible rfl
                  · simp only [Act.put, List.setIfInBounds_toArray, List.set_cons_zero, List.set_cons_succ, i64_w, i32_w]
                    rfl
                  refine seq_done ?_
                  go_wp2
                  go_roundw
                  case rel =>
                    refine ⟨m + 1, by omega, by go_num, ?_, hb7⟩
                    have e : told s8 f (m + 1) = told s8 f m ++ storeN s 4 := by rw [told, HX.out, HY.out, HS.out]
                    rw [e]
                    exact ho7
                  case measure => simp [intOf]; omega
                · obtain rfl : m = 16 := by omega
                  go_wp2
                  go_ret
                  refine ⟨_, rfl, ?_, below_seq hb (below_seq hb4 hbw)⟩
                  have e : blockN key cm nonce = told s8 f 16 := by rw [blockN, HFF.out, HSS.out]
                  rw [e]
                  exact ho.lower (Nat.le_trans hb.size hb4.size)

end Go.Proofs.YtlgdplodglchaaaDoor
