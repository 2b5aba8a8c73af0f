/- The walk through the reference's Add. -/
import Derived.Test.YtcmiajnndmaeiaaGRefB
import Derived.Deep.DeepCutAuto
set_option linter.unusedVariables false
set_option linter.unusedSimpArgs false
namespace Go.Proofs.Ytcmiajnndmaeiaa
open Go.RowKit Go.Proofs.YtcmiajnndmaeiaaW.PrintWords Go.Proofs.YtcmiajnndmaeiaaW.PrintLast Go.Proofs.YtcmiajnndmaeiaaW.PrintMore
open PFragPlays (S80 k80 at_T80 rd_T80 z80 k80_openF k80_mkF)
def rowLen : Option Value → Nat
  | some (.slice _ n _) => n
  | _ => 0
set_option maxHeartbeats 1000000 in
set_option maxRecDepth 100000 in
theorem refadd_calls {P A G : Nat} {ok : Nat → Prop} {Ab : Option Addr} {n c : Nat} {es : List Ent} {w : World} {peer : ByteArray} {msg part parts : Int} {Ad : Option Addr} {nb cb now : Nat} {body : List Nat} (h : RowR ok w Ab n c es) (hl : n ≤ 500000) (hok : ∀ e ∈ es, EntOk e) (hbd : Bytes w Ad nb cb body) (hnb : nb ≤ 1000000000) (hp1 : -9223372036854775808 ≤ parts) (hp2 : parts ≤ 9223372036854775807) (hnow : now < 2 ^ 64) (hP : P ≤ 9223372036854775807) (hA : A ≤ 9223372036854775807) :
    Calls Try.prog 15 #[.agg #[.int .i64 (P : Int), .int .i64 (A : Int), .int .u64 (G : Int), .slice Ab n c], .string peer, .int .i64 msg, .int .i64 part, .int .i64 parts, .slice Ad nb cb, .int .u64 (now : Int)] w (RAddPost P A G ok w (addR P A G es peer msg part parts body now)) := by
  have HS1 := hd (RSt.start (P := P) (A := A) (G := G) h)
  have HBL := hd hbd.2.1
  have HBD := hd hbd
  have HNB := hd hnb
  have HPS := hd (And.intro hp1 hp2)
  have HNW := hd hnow
  have HPP := hd hP
  have HAA := hd hA
  have HOK := hd hok
  have HLN := hd (show n ≤ 1000000 by omega)
  have HLX := hd (show es.length ≤ 500000 by rw [← h.len]; exact hl)
  have HRM := hd (fun w => refmay_calls (msg := msg) (part := part) (parts := parts) (n := nb) (w := w) hnb hp1 hp2)
  clear h hl hok hbd hnb hp1 hp2 hnow hP hA
  go_enter Try.func15, Try.ntmps15
  go_upto_region 1 with (fail)
  generalize ((w.alloc (.cells #[.int .i64 (P : Int), .int .i64 (A : Int), .int .u64 (G : Int), .slice Ab n c] 44)).alloc (.cells #[.int .i64 0, .int .i64 0, .int .u64 0, .slice none 0 0] 44)) = w1 at HS1 ⊢
  obtain ⟨pb, hpb⟩ : ∃ pb, Aside0 (w.heap.size = pb) := ⟨_, ⟨rfl⟩⟩
  rw [hpb.out] at HS1 ⊢
  replace HBD := hd (fun w' (hb : Below pb w w') => HBD.out.below (show Below w.heap.size w w' by rw [hpb.out]; exact hb))
  go_wp2_with fail
  refine (HRM.out _).mono ?_
  rintro e w' ⟨rfl, rfl⟩
  cases hm : mayB msg part parts nb
  · have HX := hd (show addR P A G es peer msg part parts body now = (es, [], 1) by unfold addR; rw [HBL.out, hm, if_pos rfl])
    obtain ⟨d0, d1, d2, d3, _⟩ := HS1.out.cells
    obtain ⟨r0, r1, r2, r3, f0, f1, f2, f3⟩ := HS1.out.rcells
    clear hm
    go_wp2
    (try simp only [Exit.inBlock, Exit.then])
    refine bodyPost_ret (results_cell2_row rfl _ _ (pb + 1) 44 #[.int .i64 P, .int .i64 A, .int .u64 (G : Int), .slice Ab n c] (0, 0) _ rfl (blk_set4 HS1.out.rx _ _ _ _) Try.underlying44 rfl (by kernel_rfl)) rfl ?_
    exact HS1.out.exit HS1.out.row (by rw [HX.out]) (by rw [HX.out]; rfl) (by rw [HX.out]; rfl)
  have hmm := hm
  unfold mayB at hmm
  simp only [Bool.and_eq_true, decide_eq_true_eq] at hmm
  obtain ⟨es1, hes1⟩ : ∃ es1, Aside0 (es.filter (fun e => !goneB G now e.born) = es1) := ⟨_, ⟨rfl⟩⟩
  obtain ⟨p, hp⟩ := Int.eq_ofNat_of_zero_le (show 0 ≤ part by omega)
  subst hp
  obtain ⟨ny, hny⟩ := Int.eq_ofNat_of_zero_le (show 0 ≤ parts by omega)
  subst hny
  have HMS := hd (show 0 ≤ msg ∧ msg ≤ 7 by omega)
  have HG := hd (show p < ny ∧ ny ≤ 64 by omega)
  have HBN := hd (show 0 < nb ∧ nb ≤ 1024 by omega)
  have HMAY := hd hm
  have HEX := hd (fun w => refexpire_calls (P := P) (A := A) (G := G) (now := now) (ok := fun k => (ok k ∧ k < pb) ∨ pb + 2 ≤ k) (Ab := Ab) (n := n) (c := c) (es := es) (w := w) HNW.out)
  clear hmm
  obtain ⟨d0, d1, d2, d3, g0, g1, g2, g3⟩ := HS1.out.cells
  go_wp2_with fail
  refine (HEX.out _ HS1.out.row HLN.out).mono ?_
  rintro e w2 ⟨A2, n2, c2, rfl, hr2, hb2⟩
  replace hr2 := HS1.out.back hr2
  have HS2 := hd (HS1.out.below hb2)
  have HR2 := hd hr2
  clear d0 d1 d2 d3 g0 g1 g2 g3 hr2 hb2
  obtain ⟨d0, d1, d2, d3, g0, g1, g2, g3⟩ := HS2.out.cells
  go_upto_region 5 with (fail)
  rw [hes1.out] at HR2
  have HS3 := hd (HS2.out.put HR2.out)
  clear d0 d1 d2 d3 g0 g1 g2 g3 HS2 HR2 HEX HRM HS1
  generalize ((((w2.setCell ⟨pb, 0, none⟩ (.int .i64 (P : Int))).setCell ⟨pb, 1, none⟩ (.int .i64 (A : Int))).setCell ⟨pb, 2, none⟩ (.int .u64 (G : Int))).setCell ⟨pb, 3, none⟩ (.slice A2 n2 c2)) = w3 at HS3 ⊢
  have HLEN := hd HS3.out.row.len
  have HOK1 := hd (show ∀ e ∈ es1, EntOk e from fun e he => HOK.out e (by rw [← hes1.out] at he; exact (List.mem_filter.1 he).1))
  have HL1 := hd (show es1.length ≤ 500000 from Nat.le_trans (by rw [← hes1.out]; exact List.length_filter_le _ _) HLX.out)
  have HL2 := hd (show n2 ≤ 1000000 by rw [HLEN.out]; have := HL1.out; omega)
  have HFI := hd (fun w => reffind_calls (P := (P : Int)) (A := (A : Int)) (G := (G : Int)) (msg := msg) (Ab := A2) (n := n2) (c := c2) (es := es1.map s80) (w := w) (peer := peer))
  obtain ⟨d0, d1, d2, d3, g0, g1, g2, g3⟩ := HS3.out.cells
  go_wp2_with fail
  refine (HFI.out _ HS3.out.row.C (by rw [List.length_map]; exact HLEN.out) HS3.out.row.cap HL2.out).mono ?_
  rw [idx_map]
  rintro e w4 ⟨rfl, hb4⟩
  clear d0 d1 d2 d3 g0 g1 g2 g3 HFI
  replace HS3 := hd (HS3.out.below hb4)
  have HW := hd (show addR P A G es peer msg p ny body now = (match es1.find? (ownE peer msg) with
    | some y => if (y.parts.length : Int) ≠ (ny : Int) then (es1, [], 41)
      else if isNil (y.parts.getD p []) = false then (if y.parts.getD p [] = body then (es1, [], 0) else (es1, [], 41))
      else tailR P A es1 peer msg p ny body now
    | none => tailR P A es1 peer msg p ny body now) by
    unfold addR
    rw [HBL.out, HMAY.out, if_neg (by decide), hes1.out]
    rfl)
  clear hb4 hm
  go_upto_if 43 with (fail)
  go_cut [15, 16, 18] (fun u15 u16 u18 w4 => RSt P A G ok w pb w4 A2 n2 c2 es1 ∧ addR P A G es peer msg p ny body now = tailR P A es1 peer msg p ny body now ∧ ∀ y, es1.find? (ownE peer msg) = some y → y.parts.length = ny)
  case first =>
    rcases find_idxE (p := ownE peer msg) (es := es1) with ⟨y, i, hf, hz, _, hi, hy⟩ | ⟨hf, hz, _⟩
    · rw [hf] at HW
      rw [hz]
      obtain ⟨ad, A3, c3, hA2, e0, e1, e2, e3, hc3, _, hF3⟩ := HS3.out.row.get hi
      rw [hy] at e0 e1 e2 e3 hc3 hF3
      subst hA2
      have HOY := hd (HOK1.out y (by rw [← hy]; exact List.getElem_mem hi))
      have HF3 := hd hF3
      have i1 : (i : Int) < n2 := by rw [HLEN.out]; omega
      have i2 : (n2 : Int) ≤ c2 := by have := HS3.out.row.cap; omega
      have q43 : decide ((0 : Int) ≤ (i : Int)) = true := by simp
      have HFF := hd hf
      clear hF3 hz hf
      obtain ⟨d0, d1, d2, d3, g0, g1, g2, g3⟩ := HS3.out.cells
      obtain ⟨m, hm⟩ : ∃ m, Aside0 (y.parts.length = m) := ⟨_, ⟨rfl⟩⟩
      rw [hm.out] at e3 hc3 HF3
      have hal := below_alloc (Below.refl w4.heap.size w4) (.cells #[.string y.peer, .int .i64 y.msg, .int .u64 (y.born : Int), .slice A3 m c3] 80)
      have heb := blk_new w4 (.cells #[.string y.peer, .int .i64 y.msg, .int .u64 (y.born : Int), .slice A3 m c3] 80)
      go_upto_region 8 with (fail)
      clear e0 e1 e2 e3 d0 d1 d2 d3 g0 g1 g2 g3
      generalize w4.alloc (.cells #[.string y.peer, .int .i64 y.msg, .int .u64 (y.born : Int), .slice A3 m c3] 80) = w5 at heb hal ⊢
      replace HS3 := hd (HS3.out.below hal)
      replace HF3 := hd (Kd.F_below HF3.out hal)
      clear hal
      generalize w4.heap.size = eb at heb ⊢
      have HEB := hd heb
      have HB5 := hd (HBD.out _ HS3.out.bel)
      have hcv : ∀ q, (convert 22 9 (.slice Ad nb cb)).run Try.prog (w5.drewN q) = .ok (.string (strOf body)) (w5.drewN q) := fun q => (HB5.out.below (pw_below_drewN (Below.refl _ _) q)).str (P := Try.prog) Try.underlying22 Try.underlying5 Try.underlying9
      obtain ⟨zb, hzb⟩ : ∃ zb, Aside0 (strOf body = zb) := ⟨_, ⟨rfl⟩⟩
      rw [hzb.out] at hcv
      have e3 : w5.cell? ⟨eb, 3, none⟩ = some (.slice A3 m c3) := by rw [blk_cell heb]; rfl
      have hmc : (m : Int) ≤ c3 := by omega
      clear heb
      by_cases hmn : m = ny
      · subst hmn
        have q53 : ((m : Int) != (m : Int)) = false := by simp
        have p1 : (p : Int) < m := by have := HG.out; omega
        obtain ⟨pl, hpl⟩ : ∃ pl, Aside0 (y.parts.getD p [] = pl) := ⟨_, ⟨rfl⟩⟩
        obtain ⟨a3, hA3, k3⟩ := TC.at_ (w := w5) (A := A3) (ts := y.parts.map strOf) (by
          have h1 := Kd.F_now HF3.out
          unfold TC
          rw [List.length_map, hm.out]
          exact h1) p (by rw [List.length_map, hm.out]; exact HG.out.1)
        have hgd : (y.parts.map strOf).getD p ⟨#[]⟩ = strOf pl := by
          rw [← hpl.out, List.getD_eq_getElem?_getD, List.getD_eq_getElem?_getD, List.getElem?_map, List.getElem?_eq_getElem (by rw [hm.out]; exact HG.out.1)]
          rfl
        rw [hgd] at k3
        subst hA3
        obtain ⟨zp, hzp⟩ : ∃ zp, Aside0 (strOf pl = zp) := ⟨_, ⟨rfl⟩⟩
        rw [hzp.out] at k3
        have hpb : BytesOK pl := by
          rw [← hpl.out, List.getD_eq_getElem?_getD, List.getElem?_eq_getElem (by rw [hm.out]; exact HG.out.1)]
          exact HOY.out.bytes _ (List.getElem_mem _)
        have hnl : (zp.toList == ([] : List UInt8)) = isNil pl := by rw [← hzp.out]; exact str_nil
        have heq : (zp.toList == zb.toList) = (pl == body) := by rw [← hzp.out, ← hzb.out]; exact str_eq hpb HB5.out.2.2.2
        cases hin : isNil pl
        · rw [hin] at hnl
          have q60 : (zp.toList != ([] : List UInt8)) = true := by unfold bne; rw [hnl]; rfl
          cases hib : (pl == body)
          · rw [hib] at heq
            have q69 : (zp.toList != zb.toList) = true := by unfold bne; rw [heq]; rfl
            have HX := hd (show addR P A G es peer msg p m body now = (es1, [], 41) by
              rw [HW.out]
              dsimp only
              rw [hpl.out, hm.out, if_neg (by simp), hin, if_pos rfl, if_neg (by simpa using hib)])
            go_wp2
            go_quiet (fail)
            have hbq := pw_below_drewN (Below.refl w5.heap.size w5) nq
            replace HS3 := hd (HS3.out.below hbq)
            replace HEB := hd (blk_below HEB.out hbq)
            clear hbq e3 hcv
            generalize w5.drewN nq = w6 at HS3 HEB ⊢
            obtain ⟨d0, d1, d2, d3, g0, g1, g2, g3⟩ := HS3.out.cells
            obtain ⟨r0, r1, r2, r3, f0, f1, f2, f3⟩ := HS3.out.rcells
            go_wp2
            (try simp only [Exit.inBlock, Exit.then])
            refine bodyPost_ret (results_cell2_row rfl _ _ (pb + 1) 44 #[.int .i64 P, .int .i64 A, .int .u64 (G : Int), .slice (some ad) n2 c2] (0, 0) _ rfl (blk_set4 HS3.out.rx _ _ _ _) Try.underlying44 rfl (by kernel_rfl)) rfl ?_
            exact HS3.out.exit HS3.out.row (by rw [HX.out]) (by rw [HX.out]; rfl) (by rw [HX.out]; rfl)
          · rw [hib] at heq
            have q69 : (zp.toList != zb.toList) = false := by unfold bne; rw [heq]; rfl
            have HX := hd (show addR P A G es peer msg p m body now = (es1, [], 0) by
              rw [HW.out]
              dsimp only
              rw [hpl.out, hm.out, if_neg (by simp), hin, if_pos rfl, if_pos (by simpa using hib)])
            go_wp2
            go_quiet (fail)
            have hbq := pw_below_drewN (Below.refl w5.heap.size w5) nq
            replace HS3 := hd (HS3.out.below hbq)
            replace HEB := hd (blk_below HEB.out hbq)
            have k3' := pw_cell_below hbq k3
            clear hbq e3 hcv
            generalize w5.drewN nq = w6 at HS3 HEB k3' ⊢
            obtain ⟨d0, d1, d2, d3, g0, g1, g2, g3⟩ := HS3.out.cells
            have e3 : w6.cell? ⟨eb, 3, none⟩ = some (.slice (some a3) m c3) := by rw [blk_cell HEB.out]; rfl
            clear k3
            obtain ⟨r0, r1, r2, r3, f0, f1, f2, f3⟩ := HS3.out.rcells
            go_wp2
            (try simp only [Exit.inBlock, Exit.then])
            refine bodyPost_ret (results_cell2_row rfl _ _ (pb + 1) 44 #[.int .i64 P, .int .i64 A, .int .u64 (G : Int), .slice (some ad) n2 c2] (0, 0) _ rfl (blk_set4 HS3.out.rx _ _ _ _) Try.underlying44 rfl (by kernel_rfl)) rfl ?_
            exact HS3.out.exit HS3.out.row (by rw [HX.out]) (by rw [HX.out]; rfl) (by rw [HX.out]; rfl)
        · rw [hin] at hnl
          have q60 : (zp.toList != ([] : List UInt8)) = false := by unfold bne; rw [hnl]; rfl
          have HX := hd (show addR P A G es peer msg p m body now = tailR P A es1 peer msg p m body now by
            rw [HW.out]
            dsimp only
            rw [hpl.out, hm.out, if_neg (by simp), hin, if_neg (by decide)])
          go_wp2
          go_quiet (fail)
          have hbq := pw_below_drewN (Below.refl w5.heap.size w5) nq
          replace HS3 := hd (HS3.out.below hbq)
          replace HEB := hd (blk_below HEB.out hbq)
          have k3' := pw_cell_below hbq k3
          clear hbq e3 hcv
          generalize w5.drewN nq = w6 at HS3 HEB k3' ⊢
          obtain ⟨d0, d1, d2, d3, g0, g1, g2, g3⟩ := HS3.out.cells
          have e3 : w6.cell? ⟨eb, 3, none⟩ = some (.slice (some a3) m c3) := by rw [blk_cell HEB.out]; rfl
          clear k3
          obtain ⟨r0, r1, r2, r3, f0, f1, f2, f3⟩ := HS3.out.rcells
          go_wp2
          go_meet
          case rel => exact ⟨HS3.out, HX.out, fun y' hy' => by rw [HFF.out] at hy'; injection hy' with hy'; rw [← hy']; exact hm.out⟩
      · have q53 : ((m : Int) != (ny : Int)) = true := by simp; omega
        have HX := hd (show addR P A G es peer msg p ny body now = (es1, [], 41) by
          rw [HW.out]
          dsimp only
          rw [hm.out, if_pos (by omega)])
        go_wp2
        go_quiet (fail)
        have hbq := pw_below_drewN (Below.refl w5.heap.size w5) nq
        replace HS3 := hd (HS3.out.below hbq)
        replace HEB := hd (blk_below HEB.out hbq)
        clear hbq e3 hcv
        generalize w5.drewN nq = w6 at HS3 HEB ⊢
        obtain ⟨d0, d1, d2, d3, g0, g1, g2, g3⟩ := HS3.out.cells
        obtain ⟨r0, r1, r2, r3, f0, f1, f2, f3⟩ := HS3.out.rcells
        go_wp2
        (try simp only [Exit.inBlock, Exit.then])
        refine bodyPost_ret (results_cell2_row rfl _ _ (pb + 1) 44 #[.int .i64 P, .int .i64 A, .int .u64 (G : Int), .slice (some ad) n2 c2] (0, 0) _ rfl (blk_set4 HS3.out.rx _ _ _ _) Try.underlying44 rfl (by kernel_rfl)) rfl ?_
        exact HS3.out.exit HS3.out.row (by rw [HX.out]) (by rw [HX.out]; rfl) (by rw [HX.out]; rfl)
    · rw [hf] at HW
      rw [hz]
      go_wp2
      go_meet
      case rel => exact ⟨HS3.out, HW.out, fun y' hy' => by rw [hf] at hy'; cases hy'⟩
  case rest =>
  obtain ⟨hs, hx, hyl⟩ := hcut
  have HYL := hd hyl
  clear hyl
  have HS4 := hd hs
  have HX := hd hx
  clear hs hx HW HS3
  obtain ⟨d0, d1, d2, d3, g0, g1, g2, g3⟩ := HS4.out.cells
  have hal := below_alloc (Below.refl wc.heap.size wc) (.cells #[.int .i64 (P : Int), .int .i64 (A : Int), .int .u64 (G : Int), .slice A2 n2 c2] 44)
  have HWB := hd (blk_new wc (.cells #[.int .i64 (P : Int), .int .i64 (A : Int), .int .u64 (G : Int), .slice A2 n2 c2] 44))
  have HOB := hd HS4.out.big
  go_upto_region 13 with (fail)
  clear d0 d1 d2 d3 g0 g1 g2 g3
  generalize wc.alloc (.cells #[.int .i64 (P : Int), .int .i64 (A : Int), .int .u64 (G : Int), .slice A2 n2 c2] 44) = w5 at hal HWB ⊢
  replace HS4 := hd (HS4.out.below hal)
  clear hal
  generalize wc.heap.size = ob at HWB HOB ⊢
  have HHE := hd (fun w A3 n3 c3 es3 => refheld_calls (P := (P : Int)) (A := (A : Int)) (G := (G : Int)) (Ab := A3) (n := n3) (c := c3) (es := es3) (w := w) (peer := peer))
  have HTO := hd (fun w A3 n3 c3 es3 => reftotal_calls (P := (P : Int)) (A := (A : Int)) (G := (G : Int)) (Ab := A3) (n := n3) (c := c3) (es := es3) (w := w))
  have HLD := hd (fun w A3 n3 c3 es3 => refoldest_calls (P := (P : Int)) (A := (A : Int)) (G := (G : Int)) (msg := msg) (Ab := A3) (n := n3) (c := c3) (es := es3) (w := w) (peer := peer))
  have HWO := hd (fun w A3 n3 c3 es3 i => refwithout_calls (P := (P : Int)) (A := (A : Int)) (G := G) (ok := fun k => (ok k ∧ k < pb) ∨ pb + 2 ≤ k) (Ab := A3) (n := n3) (c := c3) (es := es3) (w := w) (i := i))
  go_loopw [21] (fun u21 wr => ∃ (A3 : Option Addr) (n3 c3 : Nat) (es3 : List Ent), Aside0 (RSt P A G ok w pb wr A3 n3 c3 es3) ∧ Aside0 (wr.heap[ob]? = some (.cells #[.int .i64 (P : Int), .int .i64 (A : Int), .int .u64 (G : Int), .slice A2 n2 c2] 44 (0, 0))) ∧ Aside0 (RowR (fun k => (ok k ∧ k < pb) ∨ pb + 2 ≤ k) wr A2 n2 c2 es1) ∧
    Aside0 (rloop P nb peer msg (es3.length + 1) es3 = rloop P nb peer msg (es1.length + 1) es1) ∧ Aside0 (∀ e ∈ es3, EntOk e) ∧ Aside0 (es3.length ≤ 500000) ∧ Aside0 (es3.find? (ownE peer msg) = es1.find? (ownE peer msg))) (fun u21 wr => rowLen (wr.cell? ⟨pb, 3, none⟩))
  case atStart => exact ⟨A2, n2, c2, es1, ⟨HS4.out⟩, ⟨HWB.out⟩, ⟨HS4.out.row⟩, ⟨rfl⟩, ⟨HOK1.out⟩, ⟨HL1.out⟩, ⟨rfl⟩⟩
  case round =>
    obtain ⟨A3, n3, c3, es3, HS, HO, HR, HLP, HOK3, HL3, HFN⟩ := hrel
    have HN3 := hd HS.out.row.len
    have HD3 := hd HS.out.cells.2.2.2.1
    have HL4 := hd (show n3 ≤ 1000000 by rw [HN3.out]; have := HL3.out; omega)
    obtain ⟨hh, hhh⟩ : ∃ hh, Aside0 (heldE peer es3 = hh) := ⟨_, ⟨rfl⟩⟩
    obtain ⟨tt, htt⟩ : ∃ tt, Aside0 (totE es3 = tt) := ⟨_, ⟨rfl⟩⟩
    have hle : hh ≤ 65536 * 500000 ∧ tt ≤ 65536 * 500000 := by
      have h1 := totT_le (RefOk.of HOK3.out)
      have h2 := heldT_le peer (es3.map s80)
      rw [heldT_map, totT_map, hhh.out, htt.out] at h2
      rw [totT_map, htt.out, List.length_map] at h1
      have := HL3.out
      omega
    have hh9 : (hh : Int) ≤ 32768000000 := by omega
    have tt9 : (tt : Int) ≤ 32768000000 := by omega
    have nb9 : (nb : Int) ≤ 1024 := by have := HBN.out; omega
    have hw1 : wrap64 ((hh : Int) + (nb : Int)) = ((hh + nb : Nat) : Int) := by rw [IntWalk.wrap64_in _ ⟨by omega, by omega⟩]; omega
    have hw2 : wrap64 ((tt : Int) + (nb : Int)) = ((tt + nb : Nat) : Int) := by rw [IntWalk.wrap64_in _ ⟨by omega, by omega⟩]; omega
    clear hle
    go_upto_region 13 with (fail)
    refine up_start [] [(0, true), (1, true), (3, true), (4, true), (6, true), (7, true), (2, false), (5, true), (8, true)] (by kernel_rfl) rfl (by kernel_rfl) (by kernel_rfl) ?_
    replace HS := hd (HS.out.below (below_drew (Below.refl _ _)))
    replace HO := hd (blk_below HO.out (below_drew (Below.refl _ _)))
    replace HR := hd (HR.out.below (below_drew (Below.refl _ _)))
    generalize wr.drew = w5 at HS HO HR ⊢
    obtain ⟨d0, d1, d2, d3, _⟩ := HS.out.cells
    have t0 := Grow.cells d0
    have t1 := Grow.cells d1
    have t2 := Grow.cells d2
    have t3 := Grow.cells d3
    clear d0 d1 d2 d3
    refine seq_pure (i := 0) (N := some 81) (v := ?_) (a' := ?_) rfl rfl (by rfl) (fun _ _ _ h => h) ?_ ?_ ?_
    rotate_left 2
    · intro w' hg
      go_simp
      with_reducible rfl
    · simp only [Act.put, List.setIfInBounds_toArray, List.set_cons_zero, List.set_cons_succ, i64_w, i32_w]
      rfl
    refine seq_pure (i := 1) (N := some 82) (v := ?_) (a' := ?_) rfl rfl (by rfl) (fun _ _ _ h => h) ?_ ?_ ?_
    rotate_left 2
    · intro w' hg
      go_simp
      with_reducible rfl
    · simp only [Act.put, List.setIfInBounds_toArray, List.set_cons_zero, List.set_cons_succ, i64_w, i32_w]
      rfl
    refine seq_pure (i := 3) (N := some 84) (v := ?_) (a' := ?_) rfl rfl (by rfl) (fun _ _ _ h => h) ?_ ?_ ?_
    rotate_left 2
    · intro w' hg
      go_simp
      with_reducible rfl
    · simp only [Act.put, List.setIfInBounds_toArray, List.set_cons_zero, List.set_cons_succ, i64_w, i32_w]
      rfl
    refine seq_pure (i := 4) (N := some 85) (v := ?_) (a' := ?_) rfl rfl (by rfl) (fun _ _ _ h => h) ?_ ?_ ?_
    rotate_left 2
    · intro w' hg
      go_simp
      with_reducible rfl
    · simp only [Act.put, List.setIfInBounds_toArray, List.set_cons_zero, List.set_cons_succ, i64_w, i32_w]
      rfl
    refine seq_pure (i := 6) (N := some 87) (v := ?_) (a' := ?_) rfl rfl (by rfl) (fun _ _ _ h => h) ?_ ?_ ?_
    rotate_left 2
    · intro w' hg
      go_simp
      with_reducible rfl
    · simp only [Act.put, List.setIfInBounds_toArray, List.set_cons_zero, List.set_cons_succ, i64_w, i32_w]
      rfl
    refine seq_pure (i := 7) (N := some 88) (v := ?_) (a' := ?_) rfl rfl (by rfl) (fun _ _ _ h => h) ?_ ?_ ?_
    rotate_left 2
    · intro w' hg
      go_simp
      with_reducible rfl
    · simp only [Act.put, List.setIfInBounds_toArray, List.set_cons_zero, List.set_cons_succ, i64_w, i32_w]
      rfl
    refine seq_call (i := 2) (N := some 83) rfl rfl Try.func23 (by kernel_rfl) rfl #[.agg #[.int .i64 (P : Int), .int .i64 (A : Int), .int .u64 (G : Int), .slice A3 n3 c3], .string peer] (by rfl) rfl ?_ ?_
    · simp only [List.map_toArray, List.map_cons, List.map_nil]
      rfl
    refine (HHE.out _ _ _ _ _ HS.out.row.C (by rw [List.length_map]; exact HN3.out) HS.out.row.cap HL4.out (RefOk.of HOK3.out)).mono ?_
    rw [heldT_map, hhh.out]
    rintro e w6 ⟨rfl, hb6⟩
    replace HS := hd (HS.out.below hb6)
    replace HO := hd (blk_below HO.out hb6)
    replace HR := hd (HR.out.below hb6)
    refine ⟨_, rfl, fun _ => hb6, ?_⟩
    clear hb6
    refine seq_norm (a' := ?_) ?_ ?_
    rotate_left
    · show Act.put _ (some 83) _ = _
      simp only [Act.put, List.setIfInBounds_toArray, List.set_cons_zero, List.set_cons_succ, i64_w, i32_w]
      rfl
    refine seq_pure (i := 5) (N := some 86) (v := ?_) (a' := ?_) rfl rfl (by rfl) (fun _ _ _ h => h) ?_ ?_ ?_
    rotate_left 2
    · intro w' hg
      go_simp
      with_reducible rfl
    · simp only [Act.put, List.setIfInBounds_toArray, List.set_cons_zero, List.set_cons_succ, i64_w, i32_w]
      rfl
    refine seq_pure (i := 8) (N := some 89) (v := ?_) (a' := ?_) rfl rfl (by rfl) (fun _ _ _ h => h) ?_ ?_ ?_
    rotate_left 2
    · intro w' hg
      go_simp
      with_reducible rfl
    · simp only [Act.put, List.setIfInBounds_toArray, List.set_cons_zero, List.set_cons_succ, i64_w, i32_w]
      rfl
    refine seq_done ?_
    by_cases hfit : hh + nb ≤ P
    · have q89 : decide ((P : Int) < (hh : Int) + (nb : Int)) = false := by simp; omega
      have q89' : decide (P < hh + nb) = false := by simp; omega
      have HRL := hd (show rloop P nb peer msg (es1.length + 1) es1 = some es3 by
        rw [← HLP.out, rloop, hhh.out, if_pos hfit])
      have HX3 := hd (show addR P A G es peer msg p ny body now = if A < tt + nb then (es1, [], 42) else endR es3 peer msg p ny body now by
        rw [HX.out]
        unfold tailR
        rw [HBL.out, HRL.out]
        dsimp only
        rw [htt.out])
      go_upto_region 18 with (fail)
      clear q89 q89' hfit
      refine up_start [] [(0, true), (2, true), (3, true), (5, true), (6, true), (1, false), (4, true), (7, true)] (by kernel_rfl) rfl (by kernel_rfl) (by kernel_rfl) ?_
      replace HS := hd (HS.out.below (below_drew (Below.refl _ _)))
      replace HO := hd (blk_below HO.out (below_drew (Below.refl _ _)))
      replace HR := hd (HR.out.below (below_drew (Below.refl _ _)))
      generalize w6.drew = w7 at HS HO HR ⊢
      obtain ⟨d0, d1, d2, d3, _⟩ := HS.out.cells
      have t0 := Grow.cells d0
      have t1 := Grow.cells d1
      have t2 := Grow.cells d2
      have t3 := Grow.cells d3
      clear d0 d1 d2 d3
      refine seq_pure (i := 0) (N := some 100) (v := ?_) (a' := ?_) rfl rfl (by rfl) (fun _ _ _ h => h) ?_ ?_ ?_
      rotate_left 2
      · intro w' hg
        go_simp
        with_reducible rfl
      · simp only [Act.put, List.setIfInBounds_toArray, List.set_cons_zero, List.set_cons_succ, i64_w, i32_w]
        rfl
      refine seq_pure (i := 2) (N := some 102) (v := ?_) (a' := ?_) rfl rfl (by rfl) (fun _ _ _ h => h) ?_ ?_ ?_
      rotate_left 2
      · intro w' hg
        go_simp
        with_reducible rfl
      · simp only [Act.put, List.setIfInBounds_toArray, List.set_cons_zero, List.set_cons_succ, i64_w, i32_w]
        rfl
      refine seq_pure (i := 3) (N := some 103) (v := ?_) (a' := ?_) rfl rfl (by rfl) (fun _ _ _ h => h) ?_ ?_ ?_
      rotate_left 2
      · intro w' hg
        go_simp
        with_reducible rfl
      · simp only [Act.put, List.setIfInBounds_toArray, List.set_cons_zero, List.set_cons_succ, i64_w, i32_w]
        rfl
      refine seq_pure (i := 5) (N := some 105) (v := ?_) (a' := ?_) rfl rfl (by rfl) (fun _ _ _ h => h) ?_ ?_ ?_
      rotate_left 2
      · intro w' hg
        go_simp
        with_reducible rfl
      · simp only [Act.put, List.setIfInBounds_toArray, List.set_cons_zero, List.set_cons_succ, i64_w, i32_w]
        rfl
      refine seq_pure (i := 6) (N := some 106) (v := ?_) (a' := ?_) rfl rfl (by rfl) (fun _ _ _ h => h) ?_ ?_ ?_
      rotate_left 2
      · intro w' hg
        go_simp
        with_reducible rfl
      · simp only [Act.put, List.setIfInBounds_toArray, List.set_cons_zero, List.set_cons_succ, i64_w, i32_w]
        rfl
      refine seq_call (i := 1) (N := some 101) rfl rfl Try.func17 (by kernel_rfl) rfl #[.agg #[.int .i64 (P : Int), .int .i64 (A : Int), .int .u64 (G : Int), .slice A3 n3 c3]] (by rfl) rfl ?_ ?_
      · simp only [List.map_toArray, List.map_cons, List.map_nil]
        rfl
      refine (HTO.out _ _ _ _ _ HS.out.row.C (by rw [List.length_map]; exact HN3.out) HS.out.row.cap HL4.out (RefOk.of HOK3.out)).mono ?_
      rw [totT_map, htt.out]
      rintro e w8 ⟨rfl, hb6⟩
      replace HS := hd (HS.out.below hb6)
      replace HO := hd (blk_below HO.out hb6)
      replace HR := hd (HR.out.below hb6)
      refine ⟨_, rfl, fun _ => hb6, ?_⟩
      clear hb6
      refine seq_norm (a' := ?_) ?_ ?_
      rotate_left
      · show Act.put _ (some 101) _ = _
        simp only [Act.put, List.setIfInBounds_toArray, List.set_cons_zero, List.set_cons_succ, i64_w, i32_w]
        rfl
      refine seq_pure (i := 4) (N := some 104) (v := ?_) (a' := ?_) rfl rfl (by rfl) (fun _ _ _ h => h) ?_ ?_ ?_
      rotate_left 2
      · intro w' hg
        go_simp
        with_reducible rfl
      · simp only [Act.put, List.setIfInBounds_toArray, List.set_cons_zero, List.set_cons_succ, i64_w, i32_w]
        rfl
      refine seq_pure (i := 7) (N := some 107) (v := ?_) (a' := ?_) rfl rfl (by rfl) (fun _ _ _ h => h) ?_ ?_ ?_
      rotate_left 2
      · intro w' hg
        go_simp
        with_reducible rfl
      · simp only [Act.put, List.setIfInBounds_toArray, List.set_cons_zero, List.set_cons_succ, i64_w, i32_w]
        rfl
      refine seq_done ?_
      by_cases hall : A < tt + nb
      · have q107 : decide ((A : Int) < (tt : Int) + (nb : Int)) = true := by simp; omega
        have q107' : decide (A < tt + nb) = true := by simp; omega
        have HX2 := hd (show addR P A G es peer msg p ny body now = (es1, [], 42) by rw [HX3.out, if_pos hall])
        have o0 : w8.cell? ⟨ob, 0, none⟩ = some (.int .i64 (P : Int)) := by rw [blk_cell HO.out]; rfl
        have o1 : w8.cell? ⟨ob, 1, none⟩ = some (.int .i64 (A : Int)) := by rw [blk_cell HO.out]; rfl
        have o2 : w8.cell? ⟨ob, 2, none⟩ = some (.int .u64 (G : Int)) := by rw [blk_cell HO.out]; rfl
        have o3 : w8.cell? ⟨ob, 3, none⟩ = some (.slice A2 n2 c2) := by rw [blk_cell HO.out]; rfl
        obtain ⟨r0, r1, r2, r3, f0, f1, f2, f3⟩ := HS.out.rcells
        go_wp2
        (try simp only [Exit.inBlock, Exit.then])
        refine bodyPost_ret (results_cell2_row rfl _ _ (pb + 1) 44 #[.int .i64 P, .int .i64 A, .int .u64 (G : Int), .slice A2 n2 c2] (0, 0) _ rfl (blk_set4 HS.out.rx _ _ _ _) Try.underlying44 rfl (by kernel_rfl)) rfl ?_
        exact HS.out.exit HR.out (by rw [HX2.out]) (by rw [HX2.out]; rfl) (by rw [HX2.out]; rfl)
      · have q107 : decide ((A : Int) < (tt : Int) + (nb : Int)) = false := by simp; omega
        have q107' : decide (A < tt + nb) = false := by simp; omega
        have HX4 := hd (show addR P A G es peer msg p ny body now = endR es3 peer msg p ny body now by rw [HX3.out, if_neg hall])
        go_upto_region 20 with (fail)
        clear q107 q107' hall HX3
        have HFI := hd (fun w => reffind_calls (P := (P : Int)) (A := (A : Int)) (G := (G : Int)) (msg := msg) (Ab := A3) (n := n3) (c := c3) (es := es3.map s80) (w := w) (peer := peer))
        obtain ⟨d0, d1, d2, d3, g0, g1, g2, g3⟩ := HS.out.cells
        go_wp2_with fail
        refine (HFI.out _ HS.out.row.C (by rw [List.length_map]; exact HN3.out) HS.out.row.cap HL4.out).mono ?_
        rw [idx_map]
        rintro e w9 ⟨rfl, hb9⟩
        clear d0 d1 d2 d3 g0 g1 g2 g3 HFI
        replace HS := hd (HS.out.below hb9)
        clear hb9 HO HR HD3
        obtain ⟨d0, d1, d2, d3, g0, g1, g2, g3⟩ := HS.out.cells
        have HNIL := hd (Kd.N_nil k80 80 w9 w9.heap.size (fun k => (ok k ∧ k < pb) ∨ pb + 2 ≤ k))
        have HLN0 := hd (show ([] : List S80).length + n3 ≤ 1000000 by rw [List.length_nil]; have := HL4.out; omega)
        go_upto_if 118 with ((with_reducible refine gate_dst (N := 116) rfl ?_); at_builtin; refine op_appendEs (w0 := w9) 116 rfl w9.heap.size (.tmp 113) (.tmp 115) rfl rfl (.slice none 0 0) [] (es3.map s80) A3 n3 c3 (fun k => (ok k ∧ k < pb) ∨ pb + 2 ≤ k) (fun k => (ok k ∧ k < pb) ∨ pb + 2 ≤ k) rfl rfl HNIL.out HS.out.row.f (fun k hk => ⟨hk, by simp [Value.ownBlock]⟩) (fun k hk => Or.inr (Nat.le_trans HS.out.big hk)) (Below.refl _ _) (Nat.le_refl _) HLN0.out ?_; intro v10 w10 hr10 hb10 hg10; rw [List.nil_append] at hr10)
        have HN10 := hd hr10
        have HB10 := hd hb10
        have HBG := hd (show pb + 2 ≤ w9.heap.size from HS.out.big)
        have HS9 := hd HS.out
        replace HS := hd (HS.out.below hb10)
        have HOS10 := hd (Kd.N_lt hr10)
        clear hr10 hb10 hg10 d0 d1 d2 d3 g0 g1 g2 g3 HNIL
        obtain ⟨A5, c5, hv10⟩ := Kd.N_slice HN10.out
        subst hv10
        rw [List.length_map, ← HN3.out] at HN10 HOS10 ⊢
        go_cut [18, 22] (fun u18 u22 wz => ∃ (i : Nat) (es4 : List Ent) (e4 : Ent) (A5 : Option Addr) (n5 c5 : Nat), u18 = .int .i64 (i : Int) ∧ u22 = .slice A5 n5 c5 ∧ Aside0 (Kd.N k80 80 wz w9.heap.size (fun k => (ok k ∧ k < pb) ∨ pb + 2 ≤ k) (.slice A5 n5 c5) (es4.map s80)) ∧ Aside0 (RSt P A G ok w pb wz A3 n3 c3 es3) ∧ Aside0 (Below w9.heap.size w9 wz) ∧ Aside0 (es4[i]? = some e4) ∧ Aside0 (e4.parts.length = ny) ∧ Aside0 (∀ l ∈ e4.parts, l.length ≤ 1024) ∧ Aside0 (es4.length ≤ 600000) ∧ Aside0 (addR P A G es peer msg p ny body now = finR es4 i (e4.parts.set p body)))
        case first =>
          rcases find_idxE (p := ownE peer msg) (es := es3) with ⟨y, i, hf, hz, hfx, hi, hy⟩ | ⟨hf, hz, hfx⟩
          · rw [hz]
            have HX5 := hd (show addR P A G es peer msg p ny body now = finR es3 i (y.parts.set p body) by
              rw [HX4.out, endR_fin_own hfx hi, hy]
              rfl)
            have HY1 := hd (HYL.out y (by rw [← HFN.out]; exact hf))
            have HY2 := hd ((HOK3.out y (by rw [← hy]; exact List.getElem_mem hi)).small)
            have HY3 := hd (show es3[i]? = some y by rw [List.getElem?_eq_getElem hi, hy])
            have q118 : decide ((i : Int) < 0) = false := by simp
            clear hf hz hfx hy
            go_wp2
            go_meet
            case rel => exact ⟨i, es3, y, A5, n3, c5, rfl, rfl, ⟨HN10.out⟩, ⟨HS.out⟩, ⟨HB10.out⟩, ⟨HY3.out⟩, ⟨HY1.out⟩, ⟨HY2.out⟩, ⟨by have := HL3.out; omega⟩, ⟨HX5.out⟩⟩
          · rw [hz]
            have HX5 := hd (show addR P A G es peer msg p ny body now = finR (es3 ++ [⟨peer, msg, now, List.replicate ny []⟩]) es3.length ((List.replicate ny []).set p body) by
              rw [HX4.out, endR_fin_new hfx]
              rfl)
            clear hf hz hfx
            have HG2 := hd HG.out.2
            have HLE3 := hd (show (es3.map s80).length ≤ 1000000 by rw [List.length_map]; have := HL3.out; omega)
            go_wp2_with (first | ((with_reducible refine gate_dst (N := 126) rfl ?_); refine op_makeT 126 rfl _ _ rfl rfl ny rfl rfl HG2.out ?_; intro Aq cq w11 hq hb11; have HFK := hd (fk_new (okp := fun k => w10.heap.size ≤ k) (peer := peer) (msg := msg) (now := now) hq (fun k hk => hk)); have HN11 := hd (Kd.N_below HN10.out hb11); have HB11 := hd (HB10.out.trans (hb11.mono HB10.out.size)); have HS11 := hd (HS.out.below hb11)) | ((with_reducible refine gate_dst (N := 129) rfl ?_); at_builtin; refine op_appendE (w0 := w9) 129 rfl w9.heap.size (.tmp 121) (.tmp 128) rfl rfl (.slice A5 n3 c5) (es3.map s80) (s80 ⟨peer, msg, now, List.replicate ny []⟩) [.string peer, .int .i64 msg, .int .u64 (now : Int), .slice Aq ny cq] (fun k => (ok k ∧ k < pb) ∨ pb + 2 ≤ k) (fun k => w10.heap.size ≤ k) rfl rfl HFK.out (fun k hk => ⟨Or.inr (Nat.le_trans HBG.out (Nat.le_trans HB10.out.size hk)), fun he => Nat.lt_irrefl _ (Nat.lt_of_lt_of_le (HOS10.out k he.symm) hk)⟩) (fun k hk => Or.inr (Nat.le_trans HBG.out (Nat.le_trans HB11.out.size hk))) HN11.out HB11.out HB11.out.size HLE3.out ?_; intro v12 w12 hr12 hb12 hg12))
            go_meet
            case rel =>
              obtain ⟨A6, c6, hv12⟩ := Kd.N_slice hr12
              subst hv12
              rw [List.length_append, List.length_map, List.length_singleton, ← HN3.out] at hr12 ⊢
              refine ⟨es3.length, es3 ++ [⟨peer, msg, now, List.replicate ny []⟩], ⟨peer, msg, now, List.replicate ny []⟩, A6, n3 + 1, c6, by rw [HN3.out], rfl, ⟨by rw [List.map_append]; exact hr12⟩, ⟨?_⟩, ⟨hb12⟩, ⟨get_at⟩, ⟨by simp⟩, ⟨fun l hl => by rw [List.eq_of_mem_replicate hl]; simp⟩, ⟨by rw [List.length_append, List.length_singleton]; have := HL3.out; omega⟩, ⟨HX5.out⟩⟩
              exact HS9.out.below hb12
        case rest =>
          obtain ⟨i, es4, e4, A5, n5, c5, rfl, rfl, HN4, HS5, HBZ, HE4, HPL, HPS5, HL5, HX6⟩ := hcut
          have hi : i < es4.length := (List.getElem?_eq_some_iff.1 HE4.out).1
          have hie : es4[i] = e4 := by have := HE4.out; rw [List.getElem?_eq_getElem hi] at this; exact Option.some.inj this
          obtain ⟨g5, c5', he, hg5, hg5l, _⟩ := Kd.N_form HN4.out (by rw [List.length_map]; omega)
          injection he with h1 h2 h3
          subst h1
          subst h3
          rw [List.length_map] at h2
          subst h2
          obtain ⟨ad, A7, c7, had, e0, e1, e2, e3, hc7, hfk7, hF7⟩ := (RowR.ofN HN4.out).get hi
          injection had with had
          subst had
          rw [hie, HPL.out] at e3 hc7 hF7
          rw [hie] at e0 e1 e2
          rw [add_plain] at e0 e1 e2 e3
          dsimp only at e1 e2 e3
          have i1 : (i : Int) < es4.length := by omega
          have i2 : (es4.length : Int) ≤ c5 := by have := (RowR.ofN HN4.out).cap; omega
          have HF7 := hd hF7
          have HI := hd hi
          have HNY := hd (show ny ≤ 1000000 by have := HG.out; omega)
          clear hF7 hfk7 hie hi
          go_upto_region 28 with ((with_reducible refine gate_dst (N := 136) rfl ?_); at_builtin; refine op_appendTs 136 rfl (.tmp 130) (.tmp 135) rfl rfl (e4.parts.map strOf) A7 ny c7 rfl rfl (Kd.F_now HF7.out) HNY.out ?_; intro A8 c8 w13 hr13 hb13)
          have HPZ := hd (show 0 < ny by have := HG.out; omega)
          obtain ⟨q8, c8', he8, hq8, hq8l, _⟩ := Kd.R_form hr13 (by rw [List.length_map, HPL.out]; exact HPZ.out)
          injection he8 with h1 h2 h3
          subst h1
          clear h2 h3 hq8l
          have HCV := hd ((HBD.out _ (HS5.out.below hb13).bel).str (P := Try.prog) Try.underlying22 Try.underlying5 Try.underlying9)
          obtain ⟨zb, hzb⟩ : ∃ zb, Aside0 (strOf body = zb) := ⟨_, ⟨rfl⟩⟩
          rw [hzb.out] at HCV
          obtain ⟨k8, f8⟩ := hr13.cellx HPL.out.symm p HG.out.1
          have hcv := HCV.out
          have p1 : (p : Int) < ny := by have := HG.out; omega
          have hc8 : (ny : Int) ≤ c8 := by have := (Kd.R_reads' hr13).2.1; omega
          have HR13 := hd hr13
          have HB13 := hd hb13
          have HQ8 := hd hq8
          have HG5 := hd hg5
          have HG5L := hd hg5l
          clear hr13 hb13 hq8 hg5 hg5l e0 e1 e2 e3 hc7
          go_upto_region 29 with (fail)
          clear hcv k8 f8
          have HT14 := hd (HR13.out.put p zb)
          obtain ⟨ps, hps⟩ : ∃ ps, Aside0 (e4.parts.set p body = ps) := ⟨_, ⟨rfl⟩⟩
          have HPN := hd (show ps.length = ny by rw [← hps.out, List.length_set]; exact HPL.out)
          rw [← hzb.out, ← List.map_set, hps.out, hzb.out] at HT14
          rw [hps.out] at HX6
          have HB14 := hd (HB13.out.setCell (p := ⟨q8, p, none⟩) HQ8.out (.string zb))
          clear HR13 HCV
          generalize w13.setCell ⟨q8, p, none⟩ (.string zb) = w14 at HT14 HB14 ⊢
          obtain ⟨ad, A7, c7, had, e0, e1, e2, e3, hc7, hfk7, hF7⟩ := (RowR.ofN (Kd.N_below HN4.out HB14.out)).get HI.out
          injection had with had
          subst had
          have hie : es4[i]'HI.out = e4 := by have := HE4.out; rw [List.getElem?_eq_getElem HI.out] at this; exact Option.some.inj this
          rw [hie] at e0 e1 e2 e3
          rw [HPL.out] at e3
          rw [add_plain] at e0 e1 e2 e3
          dsimp only at e1 e2 e3
          have HCC := hd (show ∀ j u, [Value.string (s80 e4).f0, .int .i64 (s80 e4).f1, .int .u64 (s80 e4).f2, .slice A7 ny c7][j]? = some u → w14.cell? ⟨g5, i * 4 + j, none⟩ = some u from fun j u hu => by
            rcases j with _ | _ | _ | _ | j
            · injection hu with hu; rw [← hu]; exact e0
            · injection hu with hu; rw [← hu]; exact e1
            · injection hu with hu; rw [← hu]; exact e2
            · injection hu with hu; rw [← hu]; exact e3
            · simp at hu)
          clear e0 e1 e2 hfk7 hF7 hc7 hie
          have hf5 : w14.frozen? ⟨g5, i * 4 + 3, none⟩ = false := (Kd.N_elem (Kd.N_below HN4.out HB14.out) z80 (i : Int) (by omega) (by omega)).choose_spec.2.2.2 3
          have HSB := hd (HBZ.out.trans (HB14.out.mono HBZ.out.size))
          have HTF := hd (HT14.out.fF (okp := fun k => wc.heap.size ≤ k) (fun k hk => hk))
          have HMC := hd (show ny ≤ c8 by omega)
          go_upto_region 30 with ((with_reducible refine gate_ (.store 28 (.tmp 146) (.tmp 144)) rfl ?_); refine op_storeP (w0 := w9) w9.heap.size rfl rfl (.tmp 146) (.tmp 144) rfl i (es4.map s80) (s80 e4) (ps.map strOf) A7 (some ⟨q8, 0, none⟩) ny c7 ny c8 (fun k => (ok k ∧ k < pb) ∨ pb + 2 ≤ k) (fun k => wc.heap.size ≤ k) rfl rfl rfl (Kd.N_below HN4.out HB14.out) HI.out HCC.out (by rw [List.length_map, HPN.out]) HMC.out HTF.out (fun k hk => ⟨Or.inr (Nat.le_trans HBG.out (Nat.le_trans HBZ.out.size hk)), fun e => Nat.lt_irrefl _ (Nat.lt_of_lt_of_le HG5L.out (e ▸ hk))⟩) HSB.out ?_; intro w15 hn15 hb15 hg15)
          have HN15 := hd (show Kd.N k80 80 w15 w9.heap.size (fun k => (ok k ∧ k < pb) ∨ pb + 2 ≤ k) (.slice (some ⟨g5, 0, none⟩) es4.length c5) ((putE es4 i ps).map s80) by rw [putE_map HE4.out]; exact hn15)
          have HT15 := hd (HT14.out.grown hg15 (fun e => by have := HQ8.out; have := HG5L.out; omega))
          have HS15 := hd (HS9.out.below hb15)
          clear hn15 hg15 hb15 HT14 HTF HSB HCC hf5 e3 HB14 HB13
          obtain ⟨d0, d1, d2, d3, g0, g1, g2, g3⟩ := HS15.out.cells
          go_upto_region 31 with (fail)
          clear d0 d1 d2 d3 g0 g1 g2 g3
          have HS6 := hd (HS15.out.put1 (RowR.ofN HN15.out))
          have HT6 := hd (HT15.out.far (g := pb) (j := 3) (fun e => by have := HQ8.out; have := HBG.out; have := HBZ.out.size; omega) (.slice (some ⟨g5, 0, none⟩) es4.length c5))
          clear HS15 HN15 HT15
          generalize w15.setCell ⟨pb, 3, none⟩ (.slice (some ⟨g5, 0, none⟩) es4.length c5) = w16 at HS6 HT6 ⊢
          have hc8' : (ny : Int) ≤ c8 := by have := HMC.out; omega
          have ny9 : (ny : Int) ≤ 64 := by have := HG.out; omega
          go_upto_region 33 with (fail)
          go_loopw [24, 25] (fun u24 u25 wr => ∃ k : Nat, k ≤ ny ∧ u25 = .int .i64 k ∧ u24 = .string (strOf (ps.take k).flatten) ∧ Aside0 ((ps.take k).any isNil = false) ∧ wr = w16) (fun _ u25 _ => ny - (intOf u25).toNat)
          case atStart => exact ⟨0, Nat.zero_le _, rfl, rfl, ⟨rfl⟩, rfl⟩
          case round =>
            obtain ⟨k, hk, rfl, rfl, hno, rfl⟩ := hrel
            have HNO := hno
            clear hno
            by_cases hlt : k < ny
            · have k1 : (k : Int) < ny := by omega
              obtain ⟨kc, _⟩ := HT6.out.cellx HPN.out.symm k hlt
              have hkp : k < ps.length := by rw [HPN.out]; exact hlt
              have HFL := hd (take_flat hkp)
              have HAN := hd (take_any hkp)
              have HAY := hd (any_of hkp)
              obtain ⟨z, hz⟩ : ∃ z, Aside0 (strOf (ps.getD k []) = z) := ⟨_, ⟨rfl⟩⟩
              rw [hz.out] at kc
              have hnl : (z.toList == ([] : List UInt8)) = isNil (ps.getD k []) := by rw [← hz.out]; exact str_nil
              obtain ⟨o, ho⟩ : ∃ o, Aside0 (strOf (ps.take k).flatten = o) := ⟨_, ⟨rfl⟩⟩
              rw [ho.out]
              have HZO := hd (show strOf (ps.take (k + 1)).flatten = o ++ z by rw [HFL.out, strOf_append, ho.out, hz.out])
              have hsm : ∀ l ∈ ps, l.length ≤ 1024 := fun l hl => by
                rw [← hps.out] at hl
                rcases List.mem_or_eq_of_mem_set hl with h1 | rfl
                · exact HPS5.out l h1
                · rw [HBL.out]; exact HBN.out.2
              have hos : o.size ≤ 65536 := by
                rw [← ho.out, strOf_size, List.length_flatten]
                have h1 := sizeL_le (n := 1024) (ps := ps.take k) (fun l hl => hsm l (List.mem_of_mem_take hl))
                unfold sizeL at h1
                rw [List.length_take] at h1
                have := HG.out
                omega
              have hzs : z.size ≤ 1024 := by
                rw [← hz.out, strOf_size, List.getD_eq_getElem?_getD, List.getElem?_eq_getElem hkp]
                exact hsm _ (List.getElem_mem hkp)
              obtain ⟨os, hos2⟩ : ∃ os, Aside0 (o.size = os) := ⟨_, ⟨rfl⟩⟩
              have hoz : ¬ ((9223372036854775807 : Int) < (o.size : Int) + (z.size : Int)) := by omega
              have hoz2 : ¬ ((9223372036854775807 : Int) < ((o.size + z.size : Nat) : Int)) := by omega
              have hoz3 : (o.size : Int) + (z.size : Int) ≤ 9223372036854775807 := by omega
              have hoz4 : o.size + z.size ≤ 9223372036854775807 := by omega
              clear hsm hos hzs
              have HKL := hd hlt
              cases hin : isNil (ps.getD k [])
              · rw [hin] at hnl
                have HIN := hd hin
                clear hin hkp hlt
                go_wp2
                go_roundw
                case rel => exact ⟨k + 1, by have := HKL.out; omega, by go_num, by rw [HZO.out], ⟨by rw [HAN.out, HNO.out, HIN.out]; rfl⟩, by first | rfl | trivial⟩
                case measure => simp [intOf]; have := HKL.out; omega
              · rw [hin] at hnl
                have HFIN := hd (show addR P A G es peer msg p ny body now = (putE es4 i ps, [], 0) by
                  rw [HX6.out, finR, if_pos (HAY.out hin)])
                obtain ⟨d0, d1, d2, d3, g0, g1, g2, g3⟩ := HS6.out.cells
                obtain ⟨r0, r1, r2, r3, f0, f1, f2, f3⟩ := HS6.out.rcells
                clear hin hkp hlt
                go_wp2
                (try simp only [Exit.inBlock, Exit.then])
                refine bodyPost_ret (results_cell2_row rfl _ _ (pb + 1) 44 #[.int .i64 P, .int .i64 A, .int .u64 (G : Int), .slice (some ⟨g5, 0, none⟩) es4.length c5] (0, 0) _ rfl (blk_set4 HS6.out.rx _ _ _ _) Try.underlying44 rfl (by kernel_rfl)) rfl ?_
                exact HS6.out.exit HS6.out.row (by rw [HFIN.out]) (by rw [HFIN.out]; rfl) (by rw [HFIN.out]; rfl)
            · have k1 : (ny : Int) ≤ k := by omega
              obtain rfl : k = ny := by omega
              have hnn := HNO.out
              have htk : ps.take k = ps := List.take_of_length_le (by rw [HPN.out]; exact Nat.le_refl _)
              rw [htk] at hnn ⊢
              have HFIN := hd (show addR P A G es peer msg p k body now = ((putE es4 i ps).eraseIdx i, ps.flatten, 0) by
                rw [HX6.out, finR, if_neg (by rw [hnn]; decide)])
              have HWI := hd (fun w => refwithout_calls (P := (P : Int)) (A := (A : Int)) (G := G) (ok := (fun k => (ok k ∧ k < pb) ∨ pb + 2 ≤ k)) (Ab := some ⟨g5, 0, none⟩) (n := es4.length) (c := c5) (es := putE es4 i ps) (w := w) (i := i))
              obtain ⟨d0, d1, d2, d3, g0, g1, g2, g3⟩ := HS6.out.cells
              clear hnn htk
              go_wp2_with fail
              refine (HWI.out _ HS6.out.row (by have := HL5.out; omega) HI.out).mono ?_
              rintro e w17 ⟨A9, n9', c9, rfl, hr9, hb9⟩
              clear d0 d1 d2 d3 g0 g1 g2 g3
              have HR9 := hd (HS6.out.back hr9)
              have HS7 := hd (HS6.out.below hb9)
              clear hr9 hb9
              obtain ⟨r0, r1, r2, r3, f0, f1, f2, f3⟩ := HS7.out.rcells
              go_wp2
              (try simp only [Exit.inBlock, Exit.then])
              refine bodyPost_ret (results_cell2_row rfl _ _ (pb + 1) 44 #[.int .i64 P, .int .i64 A, .int .u64 (G : Int), .slice A9 n9' c9] (0, 0) _ rfl (blk_set4 HS7.out.rx _ _ _ _) Try.underlying44 rfl (by kernel_rfl)) rfl ?_
              exact HS7.out.exit HR9.out (by rw [HFIN.out]) (by rw [HFIN.out]) (by rw [HFIN.out]; rfl)
    · have q89 : decide ((P : Int) < (hh : Int) + (nb : Int)) = true := by simp; omega
      have q89' : decide (P < hh + nb) = true := by simp; omega
      have HNF := hd hfit
      obtain ⟨d0, d1, d2, d3, g0, g1, g2, g3⟩ := HS.out.cells
      go_wp2_with fail
      refine (HLD.out _ A3 n3 c3 es3 HS.out.row.C HN3.out HS.out.row.cap HL4.out).mono ?_
      rintro e w7 ⟨rfl, hb7⟩
      replace HS := hd (HS.out.below hb7)
      replace HO := hd (blk_below HO.out hb7)
      replace HR := hd (HR.out.below hb7)
      clear hb7 d0 d1 d2 d3 g0 g1 g2 g3
      have HST := hd (show rloop P nb peer msg (es3.length + 1) es3 = match oldK (otherE peer msg) es3 es3.length with
        | none => none
        | some i => rloop P nb peer msg es3.length (es3.eraseIdx i) by
        rw [rloop, hhh.out, if_neg HNF.out]
        rfl)
      have HOS2 := hd (fun i (h : oldK (otherE peer msg) es3 n3 = some i) => find_erase (msg := msg) (peer := peer) h)
      have HOS := hd (fun i (h : oldK (otherE peer msg) es3 n3 = some i) => (oldK_some h).1)
      rw [← HN3.out] at HST
      obtain ⟨ok, hok⟩ : ∃ ok, Aside0 (oldK (otherE peer msg) es3 n3 = ok) := ⟨_, ⟨rfl⟩⟩
      rw [hok.out] at HST ⊢
      cases ok with
      | none =>
        unfold oz
        have HX2 := hd (show addR P A G es peer msg p ny body now = (es1, [], 42) by
          have h1 := HLP.out
          rw [← HN3.out, HST.out] at h1
          rw [HX.out]
          unfold tailR
          rw [HBL.out, ← h1])
        have o0 : w7.cell? ⟨ob, 0, none⟩ = some (.int .i64 (P : Int)) := by rw [blk_cell HO.out]; rfl
        have o1 : w7.cell? ⟨ob, 1, none⟩ = some (.int .i64 (A : Int)) := by rw [blk_cell HO.out]; rfl
        have o2 : w7.cell? ⟨ob, 2, none⟩ = some (.int .u64 (G : Int)) := by rw [blk_cell HO.out]; rfl
        have o3 : w7.cell? ⟨ob, 3, none⟩ = some (.slice A2 n2 c2) := by rw [blk_cell HO.out]; rfl
        obtain ⟨r0, r1, r2, r3, f0, f1, f2, f3⟩ := HS.out.rcells
        go_wp2
        (try simp only [Exit.inBlock, Exit.then])
        refine bodyPost_ret (results_cell2_row rfl _ _ (pb + 1) 44 #[.int .i64 P, .int .i64 A, .int .u64 (G : Int), .slice A2 n2 c2] (0, 0) _ rfl (blk_set4 HS.out.rx _ _ _ _) Try.underlying44 rfl (by kernel_rfl)) rfl ?_
        exact HS.out.exit HR.out (by rw [HX2.out]) (by rw [HX2.out]; rfl) (by rw [HX2.out]; rfl)
      | some i =>
        unfold oz
        have hi := HOS.out i hok.out
        have q95 : decide ((i : Int) < 0) = false := by simp
        have HI := hd hi
        obtain ⟨d0, d1, d2, d3, g0, g1, g2, g3⟩ := HS.out.cells
        clear hi
        go_wp2_with fail
        refine (HWO.out _ A3 n3 c3 es3 i HS.out.row HL4.out HI.out).mono ?_
        rintro e w8 ⟨A4, n4, c4, rfl, hr8, hb8⟩
        replace hr8 := HS.out.back hr8
        clear d0 d1 d2 d3 g0 g1 g2 g3
        replace HS := hd (HS.out.below hb8)
        replace HO := hd (blk_below HO.out hb8)
        replace HR := hd (HR.out.below hb8)
        have HR8 := hd hr8
        clear hr8 hb8
        have HOM := hd (RSt.putM (wc := w8) (P := (P : Int)) (A := (A : Int)) (G := (G : Int)) (pb := pb) A4 n4 c4)
        obtain ⟨d0, d1, d2, d3, g0, g1, g2, g3⟩ := HS.out.cells
        go_wp2
        go_roundw
        case rel =>
          refine ⟨A4, n4, c4, es3.eraseIdx i, ⟨HS.out.put HR8.out⟩, ⟨HOM.out.block HO.out (fun e => by have := HOB.out; omega)⟩, ⟨HR.out.mod HOM.out (fun k hk e => by rcases hk with hk | hk <;> omega)⟩, ⟨?_⟩, ⟨fun e he => HOK3.out e (List.mem_of_mem_eraseIdx he)⟩, ⟨Nat.le_trans (List.length_eraseIdx_le _ _) HL3.out⟩, ⟨by rw [← HFN.out]; exact HOS2.out i hok.out⟩⟩
          rw [← HLP.out, ← HN3.out, HST.out, List.length_eraseIdx_of_lt (by rw [← HN3.out]; exact HI.out), ← HN3.out]
          have := HI.out
          rw [show n3 - 1 + 1 = n3 by omega]
        case measure =>
          have h1 := HR8.out.len
          have h2 := HI.out
          rw [List.length_eraseIdx_of_lt (by rw [← HN3.out]; exact h2), ← HN3.out] at h1
          rw [(HS.out.put HR8.out).cells.2.2.2.1, HD3.out]
          show n4 < n3
          omega
end Go.Proofs.Ytcmiajnndmaeiaa
