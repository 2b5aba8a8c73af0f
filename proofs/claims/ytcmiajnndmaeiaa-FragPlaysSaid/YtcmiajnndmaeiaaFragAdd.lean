/- The walk through Buffer.Add. -/
import Derived.Test.YtcmiajnndmaeiaaFragSt
set_option linter.unusedVariables false
set_option linter.unusedSimpArgs false
namespace Go.Proofs.Ytcmiajnndmaeiaa
open Go.RowKit Go.Proofs.YtcmiajnndmaeiaaW.PrintWords Go.Proofs.YtcmiajnndmaeiaaW.PrintLast Go.Proofs.YtcmiajnndmaeiaaW.PrintMore
theorem mayB_all {msg : Int} {p m n : Nat} (h : mayB msg p m n = true) : 0 ≤ msg ∧ msg ≤ 7 ∧ 1 ≤ m ∧ m ≤ 64 ∧ p < m ∧ 1 ≤ n ∧ n ≤ 1024 ∧ (n = 1024 ∨ (n < 1024 ∧ p + 1 = m)) := by
  unfold mayB at h
  simp only [Bool.and_eq_true, Bool.or_eq_true, decide_eq_true_eq] at h
  omega
theorem find_idx {α : Type} {q : α → Bool} {xs : List α} {y : α} (h : xs.find? q = some y) : q y = true ∧ ∃ k, ∃ hk : k < xs.length, xs[k] = y ∧ idxZ q xs = (k : Int) := by
  rw [List.find?_eq_some_iff_getElem] at h
  obtain ⟨h1, k, hk, he, hb⟩ := h
  refine ⟨h1, k, hk, he, idxZ_hit hk (fun x hx => ?_) (by rw [he]; exact h1)⟩
  obtain ⟨j, hj, rfl⟩ := List.mem_iff_getElem.1 hx
  rw [List.length_take] at hj
  have := hb j (by omega)
  rw [List.getElem_take]
  simpa using this
set_option maxHeartbeats 8000000 in
set_option maxRecDepth 100000 in
theorem add_own {base b P A G now n c p m : Nat} {w : World} {v : Value} {xs xs1 : List Cel} {peer : ByteArray} {msg : Int} {Ab : Option Addr} {body : List Nat} {y : Cel}
    (h : BufAt base w b P A G v xs) (hbase : base ≤ w.heap.size) (hb : ∀ wx, Mod (Foot_ b v xs) w wx → Bytes wx Ab n c body) (hok : ∀ x ∈ xs, EntOk x.e) (hnow : now < 2 ^ 64) (hfit : xs.length ≤ 1000000) (hfew : (xs.filter (mine_ peer)).length < 20)
    (hP : P ≤ 9223372036854775807) (hA : A ≤ 9223372036854775807) (hmay : mayB msg p m n = true) (hx1 : (xs.filter fun x => !old_ G now x) = xs1) (hown : xs1.find? (own_ peer msg) = some y) :
    Calls Try.prog 12 #[.pointer (gp b), .string peer, .int .i64 msg, .int .i64 (p : Int), .int .i64 (m : Int), .slice Ab n c, .int .u64 (now : Int)] w (AddPostC base b P A G w v xs (addOwn P A xs1 peer y (p : Int) (m : Int) body)) := by
  obtain ⟨g1, g2, g3, g4, g5, g6, g7, g9⟩ := mayB_all hmay
  obtain ⟨hyo, k, hk, hxk, hidx⟩ := find_idx hown
  have hal := below_alloc (below_alloc (Below.refl w.heap.size w) (.cells #[.string peer] 9)) (.cells #[.int .i64 msg] 3)
  have HX := hd (expire_calls (h.below hal) hnow hfit)
  have HST := hd (fun w1 v1 hv hb hm => AddSt.start (peer := peer) (msg := msg) (w1 := w1) (v1 := v1) (q := fun x => !old_ G now x) h hv hb hm)
  have HB := hd hb
  have hl1 : xs1.length ≤ xs.length := by rw [← hx1]; exact List.length_filter_le _ _
  have HOK : Aside0 (∀ x ∈ xs1, EntOk x.e) := ⟨fun x hx => hok x (by rw [← hx1] at hx; exact (List.mem_filter.1 hx).1)⟩
  rw [hx1] at HX HST
  obtain ⟨nx, hnx⟩ : ∃ nx, nx = xs1.length := ⟨_, rfl⟩
  have hmem : y ∈ xs1 := by rw [← hxk]; exact List.getElem_mem _
  have hel : (xs1.map fun x => gp x.g).getD k none = gp y.g := by
    rw [List.getD_eq_getElem?_getD, List.getElem?_map, List.getElem?_eq_getElem hk, hxk]; rfl
  have HEL := hd hel
  have HME := hd hmem
  have HNX := hd hnx
  have HID := hd hidx
  have q1 : decide (msg < 0) = false := by simp; omega
  have q2 : decide (7 < msg) = false := by simp; omega
  have q3 : decide ((m : Int) < 1) = false := by simp; omega
  have q4 : decide (64 < (m : Int)) = false := by simp; omega
  have q6 : decide ((m : Int) ≤ (p : Int)) = false := by simp; omega
  have q6' : decide (m ≤ p) = false := by simp; omega
  have q7 : decide ((n : Int) < 1) = false := by simp; omega
  have q8 : decide ((1024 : Int) < (n : Int)) = false := by simp; omega
  have q9 : decide ((n : Int) < 1024) = false ∨ (decide ((n : Int) < 1024) = true ∧ decide ((p : Int) < (m : Int) - 1) = false) := by
    rcases g9 with h | h
    · exact Or.inl (by simp; omega)
    · exact Or.inr ⟨by simp; omega, by simp; omega⟩
  have n9 : (n : Int) ≤ 1024 := by omega
  have m9 : (m : Int) ≤ 64 := by omega
  have m1 : (1 : Int) ≤ m := by omega
  have k0 : (0 : Int) ≤ k := by omega
  have HK : Aside0 (k < nx) := ⟨by rw [hnx]; exact hk⟩
  have HFIT : Aside0 (xs1.length ≤ 1000000) := ⟨by omega⟩
  have HP := hd hP
  have HA := hd hA
  have HG := hd g5
  have HN := hd (show 0 < n ∧ n ≤ 1024 from ⟨g6, g7⟩)
  have HBL := hd (hb _ (Mod.refl _ _)).2.1
  have HBB := hd (hb _ (Mod.refl _ _)).ok
  have HFW := hd (others_few (peer := peer) hx1 hfew)
  have HBS := hd hbase
  clear hbase hfew hyo hk hxk hidx h hok hown hb hx1 hmay hel hmem hnx g9 g1 g2 g3 g4 g5 g6 g7 hP hA hl1 hal
  unfold gp at HX
  unfold gp
  rcases q9 with q9 | ⟨q9, q10⟩
  all_goals
    go_enter Try.func12, Try.ntmps12
    go_wp2_with fail
    refine HX.out.mono ?_
    rintro e w1 ⟨rfl, v1, hv1, hb1, hm1⟩
    have hst := HST.out _ _ hv1 hb1 hm1
    clear hv1 hb1 hm1
    obtain ⟨A1, c1, rfl, _⟩ := hst.buf.row.slice
    rw [List.length_map] at *
    obtain ⟨hc3, hcp, hcm, hco, hfo⟩ := hst.cells
    have HI := hd (indexFunc_calls hst.buf.row hst.says HFIT.out)
    rw [HID.out] at HI
    have HS1 := hd hst
    clear hst
    go_upto_region 6 with (fail)
    generalize w1.alloc (.cells #[.pointer none] 64) = w2 at hc3 hcp hcm hco hfo HI HS1 ⊢
    generalize w1.heap.size = o at hco hfo HS1 ⊢
    rw [← HNX.out] at hc3 HI HS1 
    go_wp2_with fail
    refine HI.out.mono ?_
    rintro e w3 ⟨rfl, hb3⟩
    replace HS1 := hd (HS1.out.below hb3)
    clear hc3 hcp hcm hco hfo HI hb3
    obtain ⟨hc3, hcp, hcm, hco, hfo⟩ := HS1.out.cells
    obtain ⟨r, rfl, _, _⟩ := HS1.out.buf.row.at_ (by have := HK.out; omega)
    obtain ⟨hcr, _⟩ := HS1.out.buf.row.cell k HK.out
    rw [HEL.out] at hcr
    unfold gp at hcr
    have kn : (k : Int) < nx := by have := HK.out; omega
    go_upto_region 9 with (fail)
    replace HS1 := hd (HS1.out.put (gp y.g))
    unfold gp at HS1
    clear hc3 hcp hcm hco hfo hcr
    generalize w3.setCell ⟨o, 0, none⟩ (.pointer (some ⟨y.g, 0, none⟩)) = w4 at HS1 ⊢
    obtain ⟨hc3, hcp, hcm, hco, hfo⟩ := HS1.out.cells
    obtain ⟨ny, hny⟩ : ∃ ny, ny = y.e.parts.length := ⟨_, rfl⟩
    have HNY := hd hny
    have ny9 : (ny : Int) ≤ 64 := by have := (HOK.out y HME.out).few; omega
    by_cases hne : ny = m
    · subst hne
      obtain ⟨cy, s, hp3, hcs, _, hpa⟩ := HS1.out.reads HME.out HG.out hny
      have hpn : (p : Int) < ny := by have := HG.out; omega
      obtain ⟨l0, hl0⟩ : ∃ l0, Aside0 (y.e.parts.getD p [] = l0) := ⟨_, ⟨rfl⟩⟩
      rw [hl0.out] at hpa
      clear hny
      rcases hpa with ⟨rfl, rfl⟩ | hpa
      · have q11 : ((ny : Int) != (ny : Int)) = false := by simp
        have hneq : (binOp .neq 22 (.slice none 0 0) (.slice none 0 0)).run Try.prog w4 = .ok (.bool false) w4 := nil_ne _ _ _ _
        go_upto_region 13 with (fail)
        clear hcs hp3 hneq hc3 hcm hfo q11 hpn
        obtain ⟨rr, hrr⟩ : ∃ rr, Aside0 (roomR P A n peer (some y.g) xs1 = rr) := ⟨_, ⟨rfl⟩⟩
        have HGO := hd (show (∀ z ∈ rr.gone, z ∈ xs1) ∧ (∀ z ∈ rr.gone, z.g ≠ y.g) ∧ rr.gone.length ≤ 1000000 by
          rw [← hrr.out]
          exact ⟨fun z hz => roomR_mem hz, fun z hz => gone_ne hz, Nat.le_trans gone_len (by have := HFW.out (some y.g); omega)⟩)
        have HRM := hd (room_calls (n := n) (peer := peer) (o := some y.g) HS1.out.buf HOK.out (fun g hg => ⟨y, by injection hg, HS1.out.buf.ents y HME.out⟩) HP.out HA.out HN.out.2 HFIT.out (HFW.out _))
        rw [hrr.out] at HRM
        have HRE := hd (addOwn_none (P := P) (A := A) (xs := xs1) (peer := peer) (y := y) (p := p) (body := body) HNY.out hl0.out)
        rw [HBL.out, hrr.out] at HRE
        rw [show ownPtr (some y.g) = some ⟨y.g, 0, none⟩ from rfl] at HRM
        unfold gp at HRM
        have HBV := hd (And.intro HS1.out.buf.row_lt (Nat.le_trans HBS.out HS1.out.size))
        go_wp2_with fail
        refine HRM.out.mono ?_
        rintro e w6 ⟨vg, rfl, hg6, hb6⟩
        obtain ⟨A2, c2, rfl, hgc⟩ := hg6.slice
        rw [List.length_map] at hg6 hgc ⊢
        replace HS1 := hd (HS1.out.below hb6)
        obtain ⟨n2, hn2⟩ : ∃ n2, n2 = rr.gone.length := ⟨_, rfl⟩
        rw [← hn2] at hg6 hgc ⊢
        clear hb6 hn2 hco hcp HRM
        go_upto_region 14 with (fail)
        have hal7 := below_alloc (Below.refl w6.heap.size w6) (.cells #[.slice A2 n2 c2] 61)
        have HG7 := hd (And.intro (hg6.below hal7) (blk_new w6 (.cells #[.slice A2 n2 c2] 61)))
        replace HS1 := hd (HS1.out.below hal7)
        clear hal7 hg6
        generalize w6.alloc (.cells #[.slice A2 n2 c2] 61) = w7 at HG7 HS1 ⊢
        generalize w6.heap.size = gb at HG7 ⊢
        have HWO := hd (without_calls HS1.out.buf (HS1.out.goes HG7.out.1 HBV.out.1 HBV.out.2 HGO.out.1 HGO.out.2.2 HG7.out.2) HFIT.out)
        unfold gp at HWO
        obtain ⟨fi, hfi⟩ : ∃ fi, Aside0 (rr.fits = fi) := ⟨_, ⟨rfl⟩⟩
        rw [hfi.out]
        cases fi
        · go_wp2
          go_ret2
          exact HS1.out.exit (by rw [HRE.out, hfi.out, if_pos rfl])
        go_wp2_with fail
        refine HWO.out.mono ?_
        rintro e w8 ⟨rfl, v2, hv2, hb2, hm2⟩
        replace HS1 := hd (HS1.out.cut hv2 hb2 hm2)
        clear hv2 hb2 hm2 HWO HG7 HBV
        have HM2 := hd (show y ∈ stay rr.gone xs1 from List.mem_filter.2 ⟨HME.out, by
          have : (rr.gone.any fun z => z.g == y.g) = false := by
            rw [List.any_eq_false]
            intro z hz
            simpa using HGO.out.2.1 z hz
          rw [this]; rfl⟩)
        obtain ⟨xs2, hxs2⟩ : ∃ xs2, Aside0 (stay rr.gone xs1 = xs2) := ⟨_, ⟨rfl⟩⟩
        rw [show (xs1.filter fun x => !(rr.gone.any fun z => z.g == x.g)) = xs2 from hxs2.out] at HS1
        have HFIT2 := hd (show (stay rr.gone xs1).length ≤ 1000000 from Nat.le_trans (List.length_filter_le _ _) HFIT.out)
        rw [hfi.out, if_neg (by decide)] at HRE
        rw [hxs2.out] at HM2 HRE HFIT2
        obtain ⟨hc3, hcp, hcm, hco, hfo⟩ := HS1.out.cells
        have HOY := hd (HOK.out y HME.out)
        go_upto_region 20 with (fail)
        clear hc3 hcp hcm hco hfo
        refine upR_start Keeps.any [8] [(0, 1), (1, 1), (2, 1), (3, 1), (4, 1), (5, 1), (6, 0), (7, 1), (8, 0)] (by kernel_rfl) rfl (by kernel_rfl) (by kernel_rfl) ?_
        replace HS1 := hd (HS1.out.below (below_drew (Below.refl _ _)))
        generalize w8.drew = w9 at HS1 ⊢
        obtain ⟨hc3, hcp, hcm, hco, hfo⟩ := HS1.out.cells
        obtain ⟨cy9, s9, hp9, hcs9, hfs9, _⟩ := HS1.out.reads HM2.out HG.out HNY.out
        have t1 := Grow.cells hco
        have t2 := Grow.cells hp9
        have hpn : (p : Int) < ny := by have := HG.out; omega
        clear hc3 hcp hcm hco hfo hp9 hcs9 hfs9
        refine rseq_pure (i := 0) (N := some 157) (v := ?_) (a' := ?_) rfl rfl (by rfl) (fun _ _ _ h => h) ?_ ?_ ?_
        rotate_left 2
        · intro w' hg
          go_simp
          with_reducible rfl
        · simp only [Act.put, List.setIfInBounds_toArray, List.set_cons_zero, List.set_cons_succ, i64_w, i32_w]
          rfl
        refine rseq_pure (i := 1) (N := some 158) (v := ?_) (a' := ?_) rfl rfl (by rfl) (fun _ _ _ h => h) ?_ ?_ ?_
        rotate_left 2
        · intro w' hg
          go_simp
          with_reducible rfl
        · simp only [Act.put, List.setIfInBounds_toArray, List.set_cons_zero, List.set_cons_succ, i64_w, i32_w]
          rfl
        refine rseq_pure (i := 2) (N := some 159) (v := ?_) (a' := ?_) rfl rfl (by rfl) (fun _ _ _ h => h) ?_ ?_ ?_
        rotate_left 2
        · intro w' hg
          go_simp
          with_reducible rfl
        · simp only [Act.put, List.setIfInBounds_toArray, List.set_cons_zero, List.set_cons_succ, i64_w, i32_w]
          rfl
        refine rseq_pure (i := 3) (N := some 160) (v := ?_) (a' := ?_) rfl rfl (by rfl) (fun _ _ _ h => h) ?_ ?_ ?_
        rotate_left 2
        · intro w' hg
          go_simp
          with_reducible rfl
        · simp only [Act.put, List.setIfInBounds_toArray, List.set_cons_zero, List.set_cons_succ, i64_w, i32_w]
          rfl
        refine rseq_pure (i := 4) (N := some 161) (v := ?_) (a' := ?_) rfl rfl (by rfl) (fun _ _ _ h => h) ?_ ?_ ?_
        rotate_left 2
        · intro w' hg
          go_simp
          with_reducible rfl
        · simp only [Act.put, List.setIfInBounds_toArray, List.set_cons_zero, List.set_cons_succ, i64_w, i32_w]
          rfl
        refine rseq_pure (i := 5) (N := some 162) (v := ?_) (a' := ?_) rfl rfl (by rfl) (fun _ _ _ h => h) ?_ ?_ ?_
        rotate_left 2
        · intro w' hg
          go_simp
          with_reducible rfl
        · simp only [Act.put, List.setIfInBounds_toArray, List.set_cons_zero, List.set_cons_succ, i64_w, i32_w]
          rfl
        refine rseq_call (i := 6) (N := some 163) rfl rfl Try.func24 (by kernel_rfl) rfl #[.slice Ab n c] (by rfl) rfl ?_ ?_
        · simp only [List.map_toArray, List.map_cons, List.map_nil]
          rfl
        refine (clone_calls (HB.out _ HS1.out.mod) HN.out.1 (Nat.le_trans HN.out.2 (by decide))).mono ?_
        rintro e w10 ⟨vc, rfl, hvo, hb10⟩
        refine ⟨_, rfl, ⟨fun _ => hb10, trivial⟩, ?_⟩
        obtain ⟨gc, cc, rfl, hgcb, _, _⟩ := hvo.form (by rw [HBL.out]; exact HN.out.1)
        have HGCB := hd (Nat.le_trans HS1.out.size hgcb)
        have HPN := hd (PartAt.new hvo (by rw [HBL.out]; exact HN.out.1) HBB.out (Nat.le_trans HBS.out HS1.out.size))
        rw [HBL.out] at HPN ⊢
        replace HS1 := hd (HS1.out.below hb10)
        clear hvo hb10 hgcb
        refine rseq_norm (a' := ?_) ?_ ?_
        rotate_left
        · show Act.put _ (some 163) _ = _
          simp only [Act.put, List.setIfInBounds_toArray, List.set_cons_zero, List.set_cons_succ, i64_w, i32_w]
          rfl
        refine rseq_pure (i := 7) (N := some 164) (v := ?_) (a' := ?_) rfl rfl (by rfl) (fun _ _ _ h => h) ?_ ?_ ?_
        rotate_left 2
        · intro w' hg
          go_simp
          with_reducible rfl
        · simp only [Act.put, List.setIfInBounds_toArray, List.set_cons_zero, List.set_cons_succ, i64_w, i32_w]
          rfl
        obtain ⟨cy9, s9, _, hcs9, hfs9, _⟩ := HS1.out.reads HM2.out HG.out HNY.out
        refine rseq_skip (i := 8) (w1 := ?_) rfl rfl (by rfl) ?_ ?_ ?_
        rotate_left
        · go_simp
          rfl
        · exact ⟨fun h => absurd (by decide) h, trivial⟩
        clear t1 t2 hcs9 hfs9
        refine rseq_done ?_
        have HS2 := hd (HS1.out.part HM2.out HPN.out (fun A hA => by injection hA with hA; rw [← hA]; exact HGCB.out) p)
        dsimp only at HS2
        clear HS1 HPN
        have HSF := hd (set_fit HOY.out (body := body) (by rw [HBL.out]; exact HN.out.2) p)
        generalize w10.setCell ⟨y.q, p, none⟩ (.slice (some ⟨gc, 0, none⟩) n cc) = w11 at HS2 ⊢
        obtain ⟨ps, hps⟩ : ∃ ps, Aside0 (y.e.parts.set p body = ps) := ⟨_, ⟨rfl⟩⟩
        have HZM0 := putPart_mem (ps := ps) HM2.out
        have HF3 := hd (show (xs2.map (putPart y.g ps)).length ≤ 1000000 by rw [List.length_map]; exact HFIT2.out)
        obtain ⟨xs3, hxs3⟩ : ∃ xs3, Aside0 (xs2.map (putPart y.g ps) = xs3) := ⟨_, ⟨rfl⟩⟩
        rw [hps.out] at HSF HS2 HRE
        rw [hxs3.out] at HZM0 HF3 HS2 HRE
        obtain ⟨z, hzg, hzp, hzm⟩ : ∃ z : Cel, Aside0 (z.g = y.g) ∧ Aside0 (z.e.parts = ps) ∧ Aside0 (z ∈ xs3) := ⟨⟨y.g, y.q, ⟨y.e.peer, y.e.msg, y.e.born, ps⟩⟩, ⟨rfl⟩, ⟨rfl⟩, ⟨HZM0⟩⟩
        clear HZM0
        obtain ⟨hc3, hcp, hcm, hco, hfo⟩ := HS2.out.cells
        obtain ⟨cz, _, _, _, hz3, ss, hsr, hpt⟩ := (HS2.out.buf.ents z hzm.out).cells
        rw [hzg.out, hzp.out] at hz3
        rw [hzp.out] at hsr hpt
        have HCN := hd (containsNil_calls hsr hpt HSF.out.2)
        clear hsr hpt
        go_wp2_with fail
        refine HCN.out.mono ?_
        rintro e w' ⟨rfl, rfl⟩
        obtain ⟨an, han⟩ : ∃ an, Aside0 (ps.any isNil = an) := ⟨_, ⟨rfl⟩⟩
        rw [han.out]
        cases an
        · have HWO := hd (without_calls HS2.out.buf (HS2.out.ends (HS2.out.buf.ents z hzm.out) (fun w' hm => HS2.out.buf.ent_row hm hzm.out) (by rw [hzg.out]; rfl)) HF3.out)
          unfold gp at HWO
          go_wp2_with fail
          refine HWO.out.mono ?_
          rintro e w12 ⟨rfl, v3, hv3, hb3, hm3⟩
          have HEZ := hd (HS2.out.ent_cut hzm.out hm3)
          replace HS2 := hd (HS2.out.cut hv3 hb3 hm3)
          clear hc3 hcp hcm hco hfo hz3 hv3 hb3 hm3 HCN HWO
          obtain ⟨hc3, hcp, hcm, hco, hfo⟩ := HS2.out.cells
          obtain ⟨cz, _, _, _, hz3, ss, hsr, hpt⟩ := HEZ.out.cells
          rw [hzg.out, hzp.out] at hz3
          rw [hzp.out] at hsr hpt
          have HJ := hd (join_calls (rows2_of_parts hsr hpt HSF.out.2) (n := ps.length) rfl hsr.len.2 HSF.out.1)
          clear hsr hpt
          go_wp2_with fail
          refine HJ.out.mono ?_
          rintro e w13 ⟨vo, rfl, ho, hb13⟩
          have HSZ := hd HS2.out.size
          replace HS2 := hd (HS2.out.below hb13)
          have HO := hd ho
          clear ho hb13 hc3 hcp hcm hco hfo hz3
          go_wp2
          go_ret2
          exact HS2.out.exit2 (by rw [HRE.out, endAdd, if_neg (by rw [han.out]; decide), hzg.out]) HO.out HSZ.out
        · go_wp2
          go_ret2
          exact HS2.out.exit (by rw [HRE.out, endAdd, if_pos han.out])

      · have hlp := hpa.1
        have HPA := hd (show PartAt base w4 s l0 from Or.inr hpa)
        have HB4 := hd (HB.out _ HS1.out.mod)
        obtain ⟨ap, hap, _, _⟩ := hpa.2.2.at_ (by rw [hpa.2.2.row.1]; exact hlp)
        obtain ⟨s1, s2, s3⟩ := s
        dsimp only at hap hcs HPA
        subst hap
        have hneq : (binOp .neq 22 (.slice (some ⟨ap, 0, none⟩) s2 s3) (.slice none 0 0)).run Try.prog w4 = .ok (.bool true) w4 := nil_ne _ _ _ _
        have HEQ := hd (equal_calls HPA.out.bytes HB4.out (HPA.out.fit ((HOK.out y HME.out).small l0 (by rw [← hl0.out, List.getD_eq_getElem?_getD, List.getElem?_eq_getElem (by rw [← HNY.out]; exact HG.out)]; exact List.getElem_mem _))))
        clear hpa
        have q11 : ((ny : Int) != (ny : Int)) = false := by simp
        have HLP := hd hlp
        clear hlp
        go_wp2_with fail
        refine HEQ.out.mono ?_
        rintro e w5 ⟨rfl, hb5⟩
        clear hc3 hcp hcm hco hfo hp3 hcs hneq
        replace HS1 := hd (HS1.out.below hb5)
        obtain ⟨bb, hbb⟩ : ∃ bb, Aside0 ((l0 == body) = bb) := ⟨_, ⟨rfl⟩⟩
        rw [hbb.out]
        cases bb
        · go_wp2
          go_ret2
          exact HS1.out.exit (addOwn_is HNY.out hl0.out HLP.out hbb.out)
        · obtain ⟨hc3, hcp, hcm, hco, hfo⟩ := HS1.out.cells
          obtain ⟨cy, s, hp3, hcs, _, hpa⟩ := HS1.out.reads HME.out HG.out HNY.out
          rw [hl0.out] at hpa
          obtain ⟨s1, s2, s3⟩ := s
          dsimp only at hcs
          obtain ⟨ap, hap, _, _⟩ : ∃ g, s1 = some ⟨g, 0, none⟩ ∧ True ∧ True := by
            rcases hpa with ⟨rfl, _⟩ | hpa
            · exact absurd HLP.out (by simp)
            · obtain ⟨g, hg, _, _⟩ := hpa.2.2.at_ (by rw [hpa.2.2.row.1]; exact HLP.out)
              exact ⟨g, hg, trivial, trivial⟩
          subst hap
          have hneq : (binOp .neq 22 (.slice (some ⟨ap, 0, none⟩) s2 s3) (.slice none 0 0)).run Try.prog w5 = .ok (.bool true) w5 := nil_ne _ _ _ _
          clear hpa
          go_wp2
          go_ret2
          exact HS1.out.exit (addOwn_is HNY.out hl0.out HLP.out hbb.out)
    · have q11 : ((ny : Int) != (m : Int)) = true := by simp; omega
      obtain ⟨cy, _, _, _, hp3, ss, hsr, hpt⟩ := (HS1.out.buf.ents y HME.out).cells
      rw [← hny] at hp3 hsr
      clear hny hsr hpt
      go_wp2
      go_ret2
      exact HS1.out.exit (addOwn_ne (by rw [← HNY.out]; omega))
  all_goals skip
end Go.Proofs.Ytcmiajnndmaeiaa
