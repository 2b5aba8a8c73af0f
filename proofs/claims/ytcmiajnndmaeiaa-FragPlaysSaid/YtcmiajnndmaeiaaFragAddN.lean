/- The walk through Buffer.Add. -/
import Derived.Test.YtcmiajnndmaeiaaFragAdd
set_option linter.unusedVariables false
set_option linter.unusedSimpArgs false
namespace Go.Proofs.Ytcmiajnndmaeiaa
open Go.RowKit Go.Proofs.YtcmiajnndmaeiaaW.PrintWords Go.Proofs.YtcmiajnndmaeiaaW.PrintLast Go.Proofs.YtcmiajnndmaeiaaW.PrintMore
set_option maxHeartbeats 8000000 in
set_option maxRecDepth 100000 in
theorem add_new {base b P A G now n c p m : Nat} {w : World} {v : Value} {xs xs1 : List Cel} {peer : ByteArray} {msg : Int} {Ab : Option Addr} {body : List Nat}
    (h : BufAt base w b P A G v xs) (hbase : base ≤ w.heap.size) (hb : ∀ wx, Mod (Foot_ b v xs) w wx → Bytes wx Ab n c body) (hok : ∀ x ∈ xs, EntOk x.e) (hnow : now < 2 ^ 64) (hfit : xs.length < 1000000) (hfew : (xs.filter (mine_ peer)).length < 20)
    (hP : P ≤ 9223372036854775807) (hA : A ≤ 9223372036854775807) (hmay : mayB msg p m n = true) (hx1 : (xs.filter fun x => !old_ G now x) = xs1) (hown : xs1.find? (own_ peer msg) = none) :
    Calls Try.prog 12 #[.pointer (gp b), .string peer, .int .i64 msg, .int .i64 (p : Int), .int .i64 (m : Int), .slice Ab n c, .int .u64 (now : Int)] w (fun e w' => ∃ g q, w.heap.size ≤ g ∧ AddPostC base b P A G w v xs (addNew P A xs1 peer msg (p : Int) (m : Int) body now g q) e w') := by
  obtain ⟨g1, g2, g3, g4, g5, g6, g7, g9⟩ := mayB_all hmay
  have hidx : idxZ (own_ peer msg) xs1 = -1 := idxZ_miss (fun x hx => by simpa using List.find?_eq_none.1 hown x hx)
  have hal := below_alloc (below_alloc (Below.refl w.heap.size w) (.cells #[.string peer] 9)) (.cells #[.int .i64 msg] 3)
  have HX := hd (expire_calls (h.below hal) hnow (Nat.le_of_lt hfit))
  have HST := hd (fun w1 v1 hv hb hm => AddSt.start (peer := peer) (msg := msg) (w1 := w1) (v1 := v1) (q := fun x => !old_ G now x) h hv hb hm)
  have HB := hd hb
  have hl1 : xs1.length ≤ xs.length := by rw [← hx1]; exact List.length_filter_le _ _
  have HOK : Aside0 (∀ x ∈ xs1, EntOk x.e) := ⟨fun x hx => hok x (by rw [← hx1] at hx; exact (List.mem_filter.1 hx).1)⟩
  rw [hx1] at HX HST
  obtain ⟨nx, hnx⟩ : ∃ nx, nx = xs1.length := ⟨_, rfl⟩
  have HNX := hd hnx
  have HID := hd hidx
  have q1 : decide (msg < 0) = false := by simp; omega
  have q2 : decide (7 < msg) = false := by simp; omega
  have q3 : decide ((m : Int) < 1) = false := by simp; omega
  have q4 : decide (64 < (m : Int)) = false := by simp; omega
  have q6 : decide ((m : Int) ≤ (p : Int)) = false := by simp; omega
  have q6' : decide (m ≤ p) = false := by simp; omega
  have q7 : decide ((n : Int) < 1) = false := by simp; omega
  have q8 : decide ((1024 : Int) < (n : Int)) = false := by simp; omega
  have q9 : decide ((n : Int) < 1024) = false ∨ (decide ((n : Int) < 1024) = true ∧ decide ((p : Int) < (m : Int) - 1) = false) := by
    rcases g9 with h | h
    · exact Or.inl (by simp; omega)
    · exact Or.inr ⟨by simp; omega, by simp; omega⟩
  have n9 : (n : Int) ≤ 1024 := by omega
  have m9 : (m : Int) ≤ 64 := by omega
  have m1 : (1 : Int) ≤ m := by omega
  have HFIT : Aside0 (xs1.length ≤ 1000000) := ⟨by omega⟩
  have HFIT1 : Aside0 (xs1.length < 1000000) := ⟨by omega⟩
  have HP := hd hP
  have HA := hd hA
  have HG := hd g5
  have HEK := hd (show EntOk ⟨peer, msg, now, List.replicate m []⟩ from EntOk.new g3 g4 hnow g1 g2)
  have HM1 := hd g3
  have HM64 := hd g4
  have HN := hd (show 0 < n ∧ n ≤ 1024 from ⟨g6, g7⟩)
  have HBL := hd (hb _ (Mod.refl _ _)).2.1
  have HBB := hd (hb _ (Mod.refl _ _)).ok
  have HFW := hd (others_few (peer := peer) hx1 hfew)
  have HBS := hd hbase
  clear hbase hfew hidx h hok hown hb hx1 hmay hnx g9 g1 g2 g3 g4 g5 g6 g7 hP hA hl1 hal
  unfold gp at HX
  unfold gp
  rcases q9 with q9 | ⟨q9, q10⟩
  all_goals
    go_enter Try.func12, Try.ntmps12
    go_wp2_with fail
    refine HX.out.mono ?_
    rintro e w1 ⟨rfl, v1, hv1, hb1, hm1⟩
    have hst := HST.out _ _ hv1 hb1 hm1
    clear hv1 hb1 hm1
    obtain ⟨A1, c1, rfl, _⟩ := hst.buf.row.slice
    rw [List.length_map] at *
    obtain ⟨hc3, hcp, hcm, hco, hfo⟩ := hst.cells
    have HI := hd (indexFunc_calls hst.buf.row hst.says HFIT.out)
    rw [HID.out] at HI
    have HS1 := hd hst
    clear hst
    go_upto_region 6 with (fail)
    generalize w1.alloc (.cells #[.pointer none] 64) = w2 at hc3 hcp hcm hco hfo HI HS1 ⊢
    generalize w1.heap.size = o at hco hfo HS1 ⊢
    rw [← HNX.out] at hc3 HI HS1 
    go_wp2_with fail
    refine HI.out.mono ?_
    rintro e w3 ⟨rfl, hb3⟩
    replace HS1 := hd (HS1.out.below hb3)
    clear hc3 hcp hcm hco hfo HI hb3
    obtain ⟨hc3, hcp, hcm, hco, hfo⟩ := HS1.out.cells
    go_upto_region 13 with (fail)
    clear hc3 hcm hfo
    obtain ⟨rr, hrr⟩ : ∃ rr, Aside0 (roomR P A n peer none xs1 = rr) := ⟨_, ⟨rfl⟩⟩
    have HGO := hd (show (∀ z ∈ rr.gone, z ∈ xs1) ∧ True ∧ rr.gone.length ≤ 1000000 by
      rw [← hrr.out]
      exact ⟨fun z hz => roomR_mem hz, trivial, Nat.le_trans gone_len (by have := HFW.out none; omega)⟩)
    have HRM := hd (room_calls (n := n) (peer := peer) (o := none) HS1.out.buf HOK.out (fun g hg => by cases hg) HP.out HA.out HN.out.2 HFIT.out (HFW.out _))
    rw [hrr.out] at HRM
    have HRE := hd (fun g q => addNew_eq (P := P) (A := A) (xs := xs1) (peer := peer) (msg := msg) (part := (p : Int)) (parts := (m : Int)) (body := body) (now := now) (g := g) (q := q))
    rw [HBL.out, hrr.out, Int.toNat_natCast, Int.toNat_natCast] at HRE
    rw [show ownPtr none = none from rfl] at HRM
    unfold gp at HRM
    have HBV := hd (And.intro HS1.out.buf.row_lt (Nat.le_trans HBS.out HS1.out.size))
    go_wp2_with fail
    refine HRM.out.mono ?_
    rintro e w6 ⟨vg, rfl, hg6, hb6⟩
    obtain ⟨A2, c2, rfl, hgc⟩ := hg6.slice
    rw [List.length_map] at hg6 hgc ⊢
    replace HS1 := hd (HS1.out.below hb6)
    obtain ⟨n2, hn2⟩ : ∃ n2, n2 = rr.gone.length := ⟨_, rfl⟩
    rw [← hn2] at hg6 hgc ⊢
    clear hb6 hn2 hco hcp HRM
    go_upto_region 14 with (fail)
    have hal7 := below_alloc (Below.refl w6.heap.size w6) (.cells #[.slice A2 n2 c2] 61)
    have HG7 := hd (And.intro (hg6.below hal7) (blk_new w6 (.cells #[.slice A2 n2 c2] 61)))
    replace HS1 := hd (HS1.out.below hal7)
    clear hal7 hg6
    generalize w6.alloc (.cells #[.slice A2 n2 c2] 61) = w7 at HG7 HS1 ⊢
    generalize w6.heap.size = gb at HG7 ⊢
    have HWO := hd (without_calls HS1.out.buf (HS1.out.goes HG7.out.1 HBV.out.1 HBV.out.2 HGO.out.1 HGO.out.2.2 HG7.out.2) HFIT.out)
    unfold gp at HWO
    obtain ⟨fi, hfi⟩ : ∃ fi, Aside0 (rr.fits = fi) := ⟨_, ⟨rfl⟩⟩
    rw [hfi.out]
    cases fi
    · go_wp2
      go_ret2
      exact ⟨w.heap.size, 0, Nat.le_refl _, HS1.out.exit (by rw [HRE.out, hfi.out, if_pos rfl])⟩
    go_wp2_with fail
    refine HWO.out.mono ?_
    rintro e w8 ⟨rfl, v2, hv2, hb2, hm2⟩
    replace HS1 := hd (HS1.out.cut hv2 hb2 hm2)
    clear hv2 hb2 hm2 HWO HG7 HBV
    have HFIT2 := hd (show (stay rr.gone xs1).length ≤ 1000000 from Nat.le_trans (List.length_filter_le _ _) HFIT.out)
    rw [hfi.out] at HRE
    replace HRE := hd (fun g q => (HRE.out g q).trans (if_neg (by decide)))
    have HL2 := hd (show (stay rr.gone xs1).length < 1000000 from Nat.lt_of_le_of_lt (List.length_filter_le _ _) HFIT1.out)
    obtain ⟨xs2, hxs2⟩ : ∃ xs2, Aside0 (stay rr.gone xs1 = xs2) := ⟨_, ⟨rfl⟩⟩
    rw [show (xs1.filter fun x => !(rr.gone.any fun z => z.g == x.g)) = xs2 from hxs2.out] at HS1
    rw [hxs2.out] at HRE HL2
    obtain ⟨hc3, hcp, hcm, hco, hfo⟩ := HS1.out.cells
    go_upto_region 18 with (fail)
    clear hc3 hcp hcm hco hfo
    refine upR_start Keeps.any [7] [(0, 1), (1, 1), (2, 1), (3, 1), (4, 0), (5, 1), (6, 0), (7, 0)] (by kernel_rfl) rfl (by kernel_rfl) (by kernel_rfl) ?_
    replace HS1 := hd (HS1.out.below (below_drew (Below.refl _ _)))
    generalize w8.drew = w9 at HS1 ⊢
    obtain ⟨hc3, hcp, hcm, hco, hfo⟩ := HS1.out.cells
    have t1 := Grow.cells hcp
    have t2 := Grow.cells hcm
    have HQL := hd (fun y (hy : y ∈ xs2) => (HS1.out.buf.ents y hy).qlt)
    clear hc3 hcp hcm hco hfo
    refine rseq_pure (i := 0) (N := some 140) (v := ?_) (a' := ?_) rfl rfl (by rfl) (fun _ _ _ h => h) ?_ ?_ ?_
    rotate_left 2
    · intro w' hg
      go_simp
      with_reducible rfl
    · simp only [Act.put, List.setIfInBounds_toArray, List.set_cons_zero, List.set_cons_succ, i64_w, i32_w]
      rfl
    refine rseq_pure (i := 1) (N := some 141) (v := ?_) (a' := ?_) rfl rfl (by rfl) (fun _ _ _ h => h) ?_ ?_ ?_
    rotate_left 2
    · intro w' hg
      go_simp
      with_reducible rfl
    · simp only [Act.put, List.setIfInBounds_toArray, List.set_cons_zero, List.set_cons_succ, i64_w, i32_w]
      rfl
    refine rseq_pure (i := 2) (N := some 142) (v := ?_) (a' := ?_) rfl rfl (by rfl) (fun _ _ _ h => h) ?_ ?_ ?_
    rotate_left 2
    · intro w' hg
      go_simp
      with_reducible rfl
    · simp only [Act.put, List.setIfInBounds_toArray, List.set_cons_zero, List.set_cons_succ, i64_w, i32_w]
      rfl
    refine rseq_pure (i := 3) (N := some 143) (v := ?_) (a' := ?_) rfl rfl (by rfl) (fun _ _ _ h => h) ?_ ?_ ?_
    rotate_left 2
    · intro w' hg
      go_simp
      with_reducible rfl
    · simp only [Act.put, List.setIfInBounds_toArray, List.set_cons_zero, List.set_cons_succ, i64_w, i32_w]
      rfl
    refine rseq_step rfl (fun K hK => ?_)
    refine op_makeS_step 144 (by rfl) _ _ (by rfl) (by rfl) m (by rfl) (by rfl) HM64.out HM1.out ?_
    intro q cq w10 hq hqs hb10
    refine hK _ _ ⟨fun _ => hb10, trivial⟩ ?_
    clear hK K
    refine rseq_norm (a' := ?_) ?_ ?_
    rotate_left
    · show Act.put _ (some 144) _ = _
      simp only [Act.put, List.setIfInBounds_toArray, List.set_cons_zero, List.set_cons_succ, i64_w, i32_w]
      rfl
    have HQS := hd (And.intro hqs HS1.out.size)
    replace HS1 := hd (HS1.out.below hb10)
    have HGL := hd (fun y (hy : y ∈ xs2) => (HS1.out.buf.ents y hy).glt)
    have HSR := hd hq
    clear hq hb10 hqs
    refine rseq_pure (i := 5) (N := some 145) (v := ?_) (a' := ?_) rfl rfl (by rfl) (fun _ _ _ h => h) ?_ ?_ ?_
    rotate_left 2
    · intro w' hg
      go_simp
      with_reducible rfl
    · simp only [Act.put, List.setIfInBounds_toArray, List.set_cons_zero, List.set_cons_succ, i64_w, i32_w]
      rfl
    have hbx := blk_new w10 (.cells #[.string peer, .int .i64 msg, .int .u64 (now : Int), .slice (some ⟨q, 0, none⟩) m cq] 67)
    have hal := below_alloc (Below.refl w10.heap.size w10) (.cells #[.string peer, .int .i64 msg, .int .u64 (now : Int), .slice (some ⟨q, 0, none⟩) m cq] 67)
    refine rseq_value (i := 6) (N := some 146) (v := .pointer (some ⟨w10.heap.size, 0, none⟩)) (a' := ?_) (w1 := w10.alloc (.cells #[.string peer, .int .i64 msg, .int .u64 (now : Int), .slice (some ⟨q, 0, none⟩) m cq] 67)) rfl rfl (by rfl) ?_ ⟨fun _ => hal, trivial⟩ ?_ ?_
    rotate_left
    · go_simp
    · simp only [Act.put, List.setIfInBounds_toArray, List.set_cons_zero, List.set_cons_succ, i64_w, i32_w]
      rfl
    have HEN := hd (EntAt.new (Nat.le_trans HBS.out HS1.out.size) hbx (Kd.R_lower (HSR.out.below hal) (Nat.le_trans HBS.out HQS.out.2)))
    have HGX := hd HS1.out.size
    replace HS1 := hd (HS1.out.below hal)
    generalize w10.alloc (.cells #[.string peer, .int .i64 msg, .int .u64 (now : Int), .slice (some ⟨q, 0, none⟩) m cq] 67) = w11 at hbx hal HEN HS1 ⊢
    generalize w10.heap.size = gx at hbx hal HEN HGX HGL ⊢
    clear hbx hal HSR
    obtain ⟨hc3, hcp, hcm, hco, hfo⟩ := HS1.out.cells
    refine rseq_skip (i := 7) (w1 := ?_) rfl rfl (by rfl) ?_ ?_ ?_
    rotate_left
    · go_simp
      rfl
    · exact ⟨fun h => absurd (by decide) h, trivial⟩
    clear hc3 hcp hcm hco hfo t1 t2
    refine rseq_done ?_
    replace HEN := hd (HS1.out.put_ent HEN.out (gp gx))
    replace HS1 := hd (HS1.out.put (gp gx))
    unfold gp at HEN HS1
    generalize w11.setCell ⟨o, 0, none⟩ (.pointer (some ⟨gx, 0, none⟩)) = w12 at HEN HS1 ⊢
    obtain ⟨y, hy, hyg, hyq, hyp⟩ : ∃ y : Cel, y = ⟨gx, q, ⟨peer, msg, now, List.replicate m []⟩⟩ ∧ y.g = gx ∧ y.q = q ∧ y.e = ⟨peer, msg, now, List.replicate m []⟩ := ⟨_, rfl, rfl, rfl, rfl⟩
    rw [← hy] at HEN
    have HYE := hd hyp
    have HYQ := hd (show w.heap.size ≤ y.q ∧ ∀ z ∈ xs2, z.q ≠ y.q from ⟨by rw [hyq]; exact Nat.le_trans HQS.out.2 HQS.out.1, fun z hz => by have := HQL.out z hz; have := HQS.out.1; omega⟩)
    have HYG := hd (show w.heap.size ≤ y.g ∧ ∀ z ∈ xs2, z.g ≠ y.g from ⟨by rw [hyg]; exact HGX.out, fun z hz => by have := HGL.out z hz; omega⟩)
    clear hy hyp
    subst hyg
    subst hyq
    clear HQS HQL HGL HGX
    go_upto_region 19 with (fail)
    refine upR_start Keeps.any [7, 10] [(0, 2), (1, 1), (2, 1), (3, 1), (4, 1), (5, 1), (6, 0), (7, 0), (8, 1), (9, 1), (10, 0)] (by kernel_rfl) rfl (by kernel_rfl) (by kernel_rfl) ?_
    replace HEN := hd (HEN.out.below (below_drew (Below.refl _ _)))
    replace HS1 := hd (HS1.out.below (below_drew (Below.refl _ _)))
    generalize w12.drew = w13 at HS1 HEN ⊢
    obtain ⟨hc3, hcp, hcm, hco, hfo⟩ := HS1.out.cells
    have t1 := Grow.cells hc3
    have t2 := Grow.cells hco
    clear hc3 hcp hcm hco hfo
    refine rseq_pure2 (i := 0) (N := some 147) (v := ?_) (a' := ?_) rfl rfl (by rfl) (fun _ _ _ h => h) ?_ ?_ ?_
    rotate_left 2
    · intro w' hg
      go_simp
      with_reducible rfl
    · simp only [Act.put, List.setIfInBounds_toArray, List.set_cons_zero, List.set_cons_succ, i64_w, i32_w]
      rfl
    refine rseq_pure (i := 1) (N := some 148) (v := ?_) (a' := ?_) rfl rfl (by rfl) (fun _ _ _ h => h) ?_ ?_ ?_
    rotate_left 2
    · intro w' hg
      go_simp
      with_reducible rfl
    · simp only [Act.put, List.setIfInBounds_toArray, List.set_cons_zero, List.set_cons_succ, i64_w, i32_w]
      rfl
    refine rseq_pure (i := 2) (N := some 149) (v := ?_) (a' := ?_) rfl rfl (by rfl) (fun _ _ _ h => h) ?_ ?_ ?_
    rotate_left 2
    · intro w' hg
      go_simp
      with_reducible rfl
    · simp only [Act.put, List.setIfInBounds_toArray, List.set_cons_zero, List.set_cons_succ, i64_w, i32_w]
      rfl
    refine rseq_pure (i := 3) (N := some 150) (v := ?_) (a' := ?_) rfl rfl (by rfl) (fun _ _ _ h => h) ?_ ?_ ?_
    rotate_left 2
    · intro w' hg
      go_simp
      with_reducible rfl
    · simp only [Act.put, List.setIfInBounds_toArray, List.set_cons_zero, List.set_cons_succ, i64_w, i32_w]
      rfl
    refine rseq_pure (i := 4) (N := some 151) (v := ?_) (a' := ?_) rfl rfl (by rfl) (fun _ _ _ h => h) ?_ ?_ ?_
    rotate_left 2
    · intro w' hg
      go_simp
      with_reducible rfl
    · simp only [Act.put, List.setIfInBounds_toArray, List.set_cons_zero, List.set_cons_succ, i64_w, i32_w]
      rfl
    refine rseq_pure (i := 5) (N := some 152) (v := ?_) (a' := ?_) rfl rfl (by rfl) (fun _ _ _ h => h) ?_ ?_ ?_
    rotate_left 2
    · intro w' hg
      go_simp
      with_reducible rfl
    · simp only [Act.put, List.setIfInBounds_toArray, List.set_cons_zero, List.set_cons_succ, i64_w, i32_w]
      rfl
    refine rseq_value (i := 6) (N := some 153) (v := .slice (some ⟨w13.heap.size, 0, none⟩) 1 1) (a' := ?_) (w1 := w13.alloc (.cells #[.pointer (some ⟨y.g, 0, none⟩)] 64)) rfl rfl (by rfl) ?_ ⟨fun _ => below_alloc (Below.refl _ _) _, trivial⟩ ?_ ?_
    rotate_left
    · go_simp
    · simp only [Act.put, List.setIfInBounds_toArray, List.set_cons_zero, List.set_cons_succ, i64_w, i32_w]
      rfl
    clear t1 t2
    refine rseq_step rfl (fun K hK => ?_)
    refine op_appendP_step (w0 := w13) 154 (by rfl) base _ _ (by rfl) (by rfl) v2 (xs2.map fun x => gp x.g) (gp y.g) (by rfl) (by rfl) HS1.out.buf.row (Below.refl _ _) (Nat.le_trans HBS.out HS1.out.size) (by rw [List.length_map]; have := HL2.out; omega) ?_
    intro v3 w14 hr3 hb3 hg3 hv3
    obtain ⟨A3, n3, c3, rfl⟩ : ∃ A3 n3 c3, v3 = .slice A3 n3 c3 := by
      obtain ⟨A3, c3, h3, _⟩ := PRow.slice hr3
      exact ⟨A3, _, c3, h3⟩
    refine hK _ _ ⟨fun h => absurd (by decide) h, trivial⟩ ?_
    clear hK K
    refine rseq_norm (a' := ?_) ?_ ?_
    rotate_left
    · show Act.put _ (some 154) _ = _
      simp only [Act.put, List.setIfInBounds_toArray, List.set_cons_zero, List.set_cons_succ, i64_w, i32_w]
      rfl
    have hb14 := HS1.out.buf.box_row (Mod.grown hg3 (fun k hk => hk))
    have hc14 : w14.cell? ⟨b, 3, none⟩ = some v2 := by rw [blk_cell hb14]; rfl
    have hf14 := blk_frozen hb14 3
    have HS2 := hd (HS1.out.snoc HEN.out HYG.out.1 HYQ.out.1 HYG.out.2 HYQ.out.2 (by rw [HYE.out]; intro l hl; exact List.eq_of_mem_replicate hl) hr3 hg3 hv3)
    clear HS1 hr3 hb3 hg3 hv3 hb14
    refine rseq_pure (i := 8) (N := some 155) (v := ?_) (a' := ?_) rfl rfl (by rfl) (fun _ _ _ h => h) ?_ ?_ ?_
    rotate_left 2
    · intro w' hg
      go_simp
      with_reducible rfl
    · simp only [Act.put, List.setIfInBounds_toArray, List.set_cons_zero, List.set_cons_succ, i64_w, i32_w]
      rfl
    refine rseq_pure (i := 9) (N := some 156) (v := ?_) (a' := ?_) rfl rfl (by rfl) (fun _ _ _ h => h) ?_ ?_ ?_
    rotate_left 2
    · intro w' hg
      go_simp
      with_reducible rfl
    · simp only [Act.put, List.setIfInBounds_toArray, List.set_cons_zero, List.set_cons_succ, i64_w, i32_w]
      rfl
    refine rseq_skip (i := 10) (w1 := ?_) rfl rfl (by rfl) ?_ ?_ ?_
    rotate_left
    · go_simp
      rfl
    · exact ⟨fun h => absurd (by decide) h, trivial⟩
    clear hc14 hf14
    refine rseq_done ?_
    generalize w14.setCell ⟨b, 3, none⟩ (.slice A3 n3 c3) = w8 at HS2 ⊢
    have HS1 := hd HS2.out
    clear HS2
    have HNY := hd (show m = y.e.parts.length by rw [HYE.out]; simp)
    have HOY := hd (show EntOk y.e by rw [HYE.out]; exact HEK.out)
    have HM2 := hd (show y ∈ xs2 ++ [y] by simp)
    have HFIT2 := hd (show (xs2 ++ [y]).length ≤ 1000000 by rw [List.length_append, List.length_singleton]; have := HL2.out; omega)
    replace HRE := hd (HRE.out y.g y.q)
    have hpm : (⟨peer, msg, now, (List.replicate m []).set p body⟩ : Ent) = ⟨y.e.peer, y.e.msg, y.e.born, y.e.parts.set p body⟩ := by rw [HYE.out]
    have hpp : (List.replicate m []).set p body = y.e.parts.set p body := by rw [HYE.out]
    rw [hpm, hpp, ← put_snoc HYG.out.2] at HRE
    clear hpm hpp HYE
    obtain ⟨xs2', hxs2'⟩ : ∃ xs2', Aside0 (xs2 ++ [y] = xs2') := ⟨_, ⟨rfl⟩⟩
    rw [hxs2'.out] at HRE HFIT2 HM2 HS1
    have hmy : Aside0 (m ≤ m) := ⟨Nat.le_refl _⟩
    go_upto_region 20 with (fail)
    refine upR_start Keeps.any [8] [(0, 1), (1, 1), (2, 1), (3, 1), (4, 1), (5, 1), (6, 0), (7, 1), (8, 0)] (by kernel_rfl) rfl (by kernel_rfl) (by kernel_rfl) ?_
    replace HS1 := hd (HS1.out.below (below_drew (Below.refl _ _)))
    generalize w8.drew = w9 at HS1 ⊢
    obtain ⟨hc3, hcp, hcm, hco, hfo⟩ := HS1.out.cells
    obtain ⟨cy9, s9, hp9, hcs9, hfs9, _⟩ := HS1.out.reads HM2.out HG.out HNY.out
    have t1 := Grow.cells hco
    have t2 := Grow.cells hp9
    have hpn : (p : Int) < m := by have := HG.out; omega
    clear hc3 hcp hcm hco hfo hp9 hcs9 hfs9
    refine rseq_pure (i := 0) (N := some 157) (v := ?_) (a' := ?_) rfl rfl (by rfl) (fun _ _ _ h => h) ?_ ?_ ?_
    rotate_left 2
    · intro w' hg
      go_simp
      with_reducible rfl
    · simp only [Act.put, List.setIfInBounds_toArray, List.set_cons_zero, List.set_cons_succ, i64_w, i32_w]
      rfl
    refine rseq_pure (i := 1) (N := some 158) (v := ?_) (a' := ?_) rfl rfl (by rfl) (fun _ _ _ h => h) ?_ ?_ ?_
    rotate_left 2
    · intro w' hg
      go_simp
      with_reducible rfl
    · simp only [Act.put, List.setIfInBounds_toArray, List.set_cons_zero, List.set_cons_succ, i64_w, i32_w]
      rfl
    refine rseq_pure (i := 2) (N := some 159) (v := ?_) (a' := ?_) rfl rfl (by rfl) (fun _ _ _ h => h) ?_ ?_ ?_
    rotate_left 2
    · intro w' hg
      go_simp
      with_reducible rfl
    · simp only [Act.put, List.setIfInBounds_toArray, List.set_cons_zero, List.set_cons_succ, i64_w, i32_w]
      rfl
    refine rseq_pure (i := 3) (N := some 160) (v := ?_) (a' := ?_) rfl rfl (by rfl) (fun _ _ _ h => h) ?_ ?_ ?_
    rotate_left 2
    · intro w' hg
      go_simp
      with_reducible rfl
    · simp only [Act.put, List.setIfInBounds_toArray, List.set_cons_zero, List.set_cons_succ, i64_w, i32_w]
      rfl
    refine rseq_pure (i := 4) (N := some 161) (v := ?_) (a' := ?_) rfl rfl (by rfl) (fun _ _ _ h => h) ?_ ?_ ?_
    rotate_left 2
    · intro w' hg
      go_simp
      with_reducible rfl
    · simp only [Act.put, List.setIfInBounds_toArray, List.set_cons_zero, List.set_cons_succ, i64_w, i32_w]
      rfl
    refine rseq_pure (i := 5) (N := some 162) (v := ?_) (a' := ?_) rfl rfl (by rfl) (fun _ _ _ h => h) ?_ ?_ ?_
    rotate_left 2
    · intro w' hg
      go_simp
      with_reducible rfl
    · simp only [Act.put, List.setIfInBounds_toArray, List.set_cons_zero, List.set_cons_succ, i64_w, i32_w]
      rfl
    refine rseq_call (i := 6) (N := some 163) rfl rfl Try.func24 (by kernel_rfl) rfl #[.slice Ab n c] (by rfl) rfl ?_ ?_
    · simp only [List.map_toArray, List.map_cons, List.map_nil]
      rfl
    refine (clone_calls (HB.out _ HS1.out.mod) HN.out.1 (Nat.le_trans HN.out.2 (by decide))).mono ?_
    rintro e w10 ⟨vc, rfl, hvo, hb10⟩
    refine ⟨_, rfl, ⟨fun _ => hb10, trivial⟩, ?_⟩
    obtain ⟨gc, cc, rfl, hgcb, _, _⟩ := hvo.form (by rw [HBL.out]; exact HN.out.1)
    have HGCB := hd (Nat.le_trans HS1.out.size hgcb)
    have HPN := hd (PartAt.new hvo (by rw [HBL.out]; exact HN.out.1) HBB.out (Nat.le_trans HBS.out HS1.out.size))
    rw [HBL.out] at HPN ⊢
    replace HS1 := hd (HS1.out.below hb10)
    clear hvo hb10 hgcb
    refine rseq_norm (a' := ?_) ?_ ?_
    rotate_left
    · show Act.put _ (some 163) _ = _
      simp only [Act.put, List.setIfInBounds_toArray, List.set_cons_zero, List.set_cons_succ, i64_w, i32_w]
      rfl
    refine rseq_pure (i := 7) (N := some 164) (v := ?_) (a' := ?_) rfl rfl (by rfl) (fun _ _ _ h => h) ?_ ?_ ?_
    rotate_left 2
    · intro w' hg
      go_simp
      with_reducible rfl
    · simp only [Act.put, List.setIfInBounds_toArray, List.set_cons_zero, List.set_cons_succ, i64_w, i32_w]
      rfl
    obtain ⟨cy9, s9, _, hcs9, hfs9, _⟩ := HS1.out.reads HM2.out HG.out HNY.out
    refine rseq_skip (i := 8) (w1 := ?_) rfl rfl (by rfl) ?_ ?_ ?_
    rotate_left
    · go_simp
      rfl
    · exact ⟨fun h => absurd (by decide) h, trivial⟩
    clear t1 t2 hcs9 hfs9
    refine rseq_done ?_
    have HS2 := hd (HS1.out.part HM2.out HPN.out (fun A hA => by injection hA with hA; rw [← hA]; exact HGCB.out) p)
    dsimp only at HS2
    clear HS1 HPN
    have HSF := hd (set_fit HOY.out (body := body) (by rw [HBL.out]; exact HN.out.2) p)
    generalize w10.setCell ⟨y.q, p, none⟩ (.slice (some ⟨gc, 0, none⟩) n cc) = w11 at HS2 ⊢
    obtain ⟨ps, hps⟩ : ∃ ps, Aside0 (y.e.parts.set p body = ps) := ⟨_, ⟨rfl⟩⟩
    have HZM0 := putPart_mem (ps := ps) HM2.out
    have HF3 := hd (show (xs2'.map (putPart y.g ps)).length ≤ 1000000 by rw [List.length_map]; exact HFIT2.out)
    obtain ⟨xs3, hxs3⟩ : ∃ xs3, Aside0 (xs2'.map (putPart y.g ps) = xs3) := ⟨_, ⟨rfl⟩⟩
    rw [hps.out] at HSF HS2 HRE
    rw [hxs3.out] at HZM0 HF3 HS2 HRE
    obtain ⟨z, hzg, hzp, hzm⟩ : ∃ z : Cel, Aside0 (z.g = y.g) ∧ Aside0 (z.e.parts = ps) ∧ Aside0 (z ∈ xs3) := ⟨⟨y.g, y.q, ⟨y.e.peer, y.e.msg, y.e.born, ps⟩⟩, ⟨rfl⟩, ⟨rfl⟩, ⟨HZM0⟩⟩
    clear HZM0
    obtain ⟨hc3, hcp, hcm, hco, hfo⟩ := HS2.out.cells
    obtain ⟨cz, _, _, _, hz3, ss, hsr, hpt⟩ := (HS2.out.buf.ents z hzm.out).cells
    rw [hzg.out, hzp.out] at hz3
    rw [hzp.out] at hsr hpt
    have HCN := hd (containsNil_calls hsr hpt HSF.out.2)
    clear hsr hpt
    go_wp2_with fail
    refine HCN.out.mono ?_
    rintro e w' ⟨rfl, rfl⟩
    obtain ⟨an, han⟩ : ∃ an, Aside0 (ps.any isNil = an) := ⟨_, ⟨rfl⟩⟩
    rw [han.out]
    cases an
    · have HWO := hd (without_calls HS2.out.buf (HS2.out.ends (HS2.out.buf.ents z hzm.out) (fun w' hm => HS2.out.buf.ent_row hm hzm.out) (by rw [hzg.out]; rfl)) HF3.out)
      unfold gp at HWO
      go_wp2_with fail
      refine HWO.out.mono ?_
      rintro e w12 ⟨rfl, v3, hv3, hb3, hm3⟩
      have HEZ := hd (HS2.out.ent_cut hzm.out hm3)
      replace HS2 := hd (HS2.out.cut hv3 hb3 hm3)
      clear hc3 hcp hcm hco hfo hz3 hv3 hb3 hm3 HCN HWO
      obtain ⟨hc3, hcp, hcm, hco, hfo⟩ := HS2.out.cells
      obtain ⟨cz, _, _, _, hz3, ss, hsr, hpt⟩ := HEZ.out.cells
      rw [hzg.out, hzp.out] at hz3
      rw [hzp.out] at hsr hpt
      have HJ := hd (join_calls (rows2_of_parts hsr hpt HSF.out.2) (n := ps.length) rfl hsr.len.2 HSF.out.1)
      clear hsr hpt
      go_wp2_with fail
      refine HJ.out.mono ?_
      rintro e w13 ⟨vo, rfl, ho, hb13⟩
      have HSZ := hd HS2.out.size
      replace HS2 := hd (HS2.out.below hb13)
      have HO := hd ho
      clear ho hb13 hc3 hcp hcm hco hfo hz3
      go_wp2
      go_ret2
      refine ⟨y.g, y.q, HYG.out.1, ?_⟩
      exact HS2.out.exit2 (by rw [HRE.out, endAdd, if_neg (by rw [han.out]; decide), hzg.out]) HO.out HSZ.out
    · go_wp2
      go_ret2
      refine ⟨y.g, y.q, HYG.out.1, ?_⟩
      exact HS2.out.exit (by rw [HRE.out, endAdd, if_pos han.out])
  all_goals skip
end Go.Proofs.Ytcmiajnndmaeiaa
