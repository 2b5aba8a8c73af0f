/- SymCiphers: the walk. -/
import Derived.Test.YtlgdplodglchaaaDoorM9
set_option linter.unusedVariables false
set_option linter.unusedSimpArgs false
namespace Go.Proofs.YtlgdplodglchaaaDoor
open Go.RowKit Go.Proofs.YtlgdplodglchaaaDoorW.PrintWords Go.Proofs.YtlgdplodglchaaaDoorW.PrintLast Go.Proofs.YtlgdplodglchaaaDoorW.PrintMore
set_option maxHeartbeats 40000000 in
set_option maxRecDepth 100000 in
theorem symCiphers_walk (W : World) (hpl : Vars W) {A : Option Addr} {n c : Nat} {key : List Nat} (hk : Bytes W A n c key) (hkf : n ≤ 140737488351232) (num : Int) (hnum : (Lit.int .u64 num).wf = true) {C : Option Addr} {ma da : Nat} {ad : List Nat} (ha : Bytes W C ma da ad) (haf : ma ≤ 140737488351232) {B : Option Addr} {m d : Nat} {b : List Nat} (hb : Bytes W B m d b) (hbf : m ≤ 140737488351232) (rekey : Bool) :
    Calls Tryd.prog 8 #[.slice A n c, .int .u64 num, .slice C ma da, .slice B m d, .bool rekey] W fun e w' => e = .returned (.bool true) ∧ Below W.heap.size W w' := by
  obtain ⟨nn, rfl, hnn⟩ : ∃ st : Nat, num = (st : Int) ∧ st < 2 ^ 64 := by
    have := bounds_u64 hnum
    exact ⟨num.toNat, by omega, by omega⟩
  have HNN := hd hnn
  have HV := hd hpl
  have HKY := hd hk
  have HA := hd ha
  have HB := hd hb
  clear hk hkf hnum hnn ha haf hb hbf hpl
  go_enter Tryd.func8, Tryd.ntmps8
  go_wp2_with fail
  refine (awake16_calls HV.out).mono ?_
  rintro e V ⟨rfl, hb⟩
  replace HKY := hd (HKY.out.below hb)
  replace HA := hd (HA.out.below hb)
  replace HB := hd (HB.out.below hb)
  replace HV := hd (HV.out.below hb)
  have HWV := hd hb
  clear hb
  by_cases h0 : 100 < n
  · have q0 : decide ((100 : Int) < (n : Int)) = true := by simp; omega
    go_wp2
    go_ret
    exact ⟨rfl, HWV.out⟩
  have q0 : decide ((100 : Int) < (n : Int)) = false := by simp; omega
  by_cases h1 : 500 < ma
  · have q1 : decide ((500 : Int) < (ma : Int)) = true := by simp; omega
    go_wp2
    go_ret
    exact ⟨rfl, HWV.out⟩
  have q1 : decide ((500 : Int) < (ma : Int)) = false := by simp; omega
  by_cases h2 : 500 < m
  · have q2 : decide ((500 : Int) < (m : Int)) = true := by simp; omega
    go_wp2
    go_ret
    exact ⟨rfl, HWV.out⟩
  have q2 : decide ((500 : Int) < (m : Int)) = false := by simp; omega
  have HN1 := hd (show n ≤ 100 by omega)
  have HNA := hd (show n ≤ 100000000 by omega)
  have HMA := hd (show ma ≤ 500 by omega)
  have HMB := hd (show m ≤ 500 by omega)
  clear h0 h1 h2
  go_upto_region 8 with ((with_reducible refine gate_dst (N := 49) rfl ?_); at_builtin; refine op_append_row (k := .u8) (w0 := V) 49 rfl V.heap.size 5 40 _ _ rfl rfl Tryd.underlying40 Tryd.infoU8 (by decide) _ [] key _ _ _ rfl rfl HKY.out.2.1.symm (OwnK.nil _ _ _ _) HKY.out.1 (Below.refl _ _) (Nat.le_refl _) (by have := HNA.out; rw [HKY.out.2.1]; simp; omega) ?_; intro v1 w1 ho1 hb1 hg1; rw [List.nil_append] at ho1)
  obtain ⟨o, rfl, hon, ho⟩ := ho1.sl (n := n) HKY.out.2.1
  have HO := hd ho
  have HON := hd hon
  have HBV := hd hb1
  clear ho1 ho hon hb1 hg1
  go_upto_region 9 with (fail)
  have hal := below_alloc (Below.refl w1.heap.size w1) (.cells #[.slice o.A o.n o.c, .int .u64 (nn : Int)] 46)
  have HC := hd (blk_new w1 (.cells #[.slice o.A o.n o.c, .int .u64 (nn : Int)] 46))
  replace HO := hd (HO.out.below hal)
  have HGC := hd HBV.out.size
  replace HBV := hd (below_seq HBV.out hal)
  generalize w1.alloc (.cells #[.slice o.A o.n o.c, .int .u64 (nn : Int)] 46) = w2 at HC HO HBV ⊢
  obtain ⟨gc, hgc⟩ : ∃ g, Aside0 (w1.heap.size = g) := ⟨_, ⟨rfl⟩⟩
  rw [hgc.out] at HC HGC ⊢
  clear hal hgc
  go_upto_region 10 with (fail)
  have hal := below_alloc (Below.refl w2.heap.size w2) (.cells #[.slice A n c, .int .u64 (nn : Int)] 48)
  have HW := hd (blk_new w2 (.cells #[.slice A n c, .int .u64 (nn : Int)] 48))
  replace HC := hd (blk_below HC.out hal)
  replace HO := hd (HO.out.below hal)
  have HGW := hd HBV.out.size
  replace HBV := hd (below_seq HBV.out hal)
  generalize w2.alloc (.cells #[.slice A n c, .int .u64 (nn : Int)] 48) = w3 at HC HO HBV HW ⊢
  obtain ⟨gw, hgw⟩ : ∃ g, Aside0 (w2.heap.size = g) := ⟨_, ⟨rfl⟩⟩
  rw [hgw.out] at HW HGW ⊢
  clear hal hgw
  go_upto_if 57 with (fail)
  go_cut [] (fun wy => ∃ (kc kw : Sl) (kl : List Nat), Aside0 (wy.heap[gc]? = some (.cells #[.slice kc.A kc.n kc.c, .int .u64 (nn : Int)] 46 (0, 0))) ∧ Aside0 (wy.heap[gw]? = some (.cells #[.slice kw.A kw.n kw.c, .int .u64 (nn : Int)] 48 (0, 0))) ∧ Aside0 (∀ w', Mod (fun k => k = gc) wy w' → Bytes w' kc.A kc.n kc.c kl) ∧ Aside0 (∀ w', Mod (fun k => k = gc) wy w' → Bytes w' kw.A kw.n kw.c kl) ∧ Aside0 (kl.length ≤ 100) ∧ Aside0 (Below V.heap.size V wy))
  case first =>
    cases rekey
    · go_wp2_with fail
      go_meet
      case rel =>
        exact ⟨o, ⟨A, n, c⟩, key, HC, HW, ⟨fun w' hm => own_bytes (HO.out.mod hm (Apart.one HC.out (by decide))) HKY.out.ok⟩, ⟨fun w' hm => HKY.out.below (HBV.out.trans (hm.toBelow (fun k hk => by rw [hk]; exact HGC.out) HBV.out.size))⟩, ⟨by rw [HKY.out.2.1]; exact HN1.out⟩, HBV⟩
    · have HRK := hd (crekey_calls (o := 0) (N := nn) HC.out rfl (own_bytes HO.out HKY.out.ok) (by rw [HON.out]; exact HNA.out) (HV.out.below HBV.out).p)
      go_wp2_with fail
      refine HRK.out.mono ?_
      rintro e w4 ⟨rfl, ⟨hne, hb⟩ | ⟨he, gk, w4', rfl, hb, hg1', hg2', hbk⟩⟩
      · replace HC := hd (blk_below HC.out hb)
        replace HW := hd (blk_below HW.out hb)
        replace HO := hd (HO.out.below hb)
        replace HBV := hd (below_seq HBV.out hb)
        have HNE := hd (show n ≠ 32 by rw [← HON.out]; exact hne)
        clear hb HRK hne
        have HRR := hd (rrekey_calls (w := w4) (N := nn) (HKY.out.below HBV.out) HNA.out)
        have c0 : w4.cell? ⟨gw, 0, none⟩ = some (.slice A n c) := by rw [blk_cell HW.out]; rfl
        have c1 : w4.cell? ⟨gw, 1, none⟩ = some (.int .u64 (nn : Int)) := by rw [blk_cell HW.out]; rfl
        go_wp2_with fail
        refine HRR.out.mono ?_
        rintro e w5 ⟨s, rfl, h1, _, hb⟩
        obtain rfl := h1 HNE.out
        replace HC := hd (blk_below HC.out hb)
        replace HW := hd (blk_below HW.out hb)
        replace HO := hd (HO.out.below hb)
        replace HBV := hd (below_seq HBV.out hb)
        clear hb HRR c0 c1 h1
        go_wp2_with ((with_reducible refine gate_store (t := 48) (p := 14) rfl ?_); go_loud (refine op_storeSt rfl rfl 48 _ _ rfl (gw) 0 #[.slice A n c, .int .u64 (nn : Int)] #[.slice A n c, .int .u64 (nn : Int)] _ rfl rfl _ HW.out (by kernel_rfl) (by simp) (by simp [Value.oneCell']) rfl ?_); intro wz hbz hmz)
        have hap := Apart.one HW.out (e := 5) (by decide)
        replace HO := hd (HO.out.mod hmz hap)
        replace HC := hd (hmz.block HC.out (ne_types HC.out HW.out (by decide)))
        replace HBV := hd (HBV.out.trans (hmz.toBelow (fun k hk => by rw [hk]; exact HGW.out) HBV.out.size))
        go_meet
        case rel =>
          exact ⟨o, ⟨A, n, c⟩, key, HC, ⟨hbz⟩, ⟨fun w' hm => own_bytes (HO.out.mod hm (Apart.one HC.out (by decide))) HKY.out.ok⟩, ⟨fun w' hm => HKY.out.below (HBV.out.trans (hm.toBelow (fun k hk => by rw [hk]; exact HGC.out) HBV.out.size))⟩, ⟨by rw [HKY.out.2.1]; exact HN1.out⟩, HBV⟩
      · have hmc := mod_cell w4' gc 0 (.slice (some ⟨gk, 0, none⟩) 32 32)
        have hlt := blk_lt HC.out
        have hlt2 := blk_lt HW.out
        have HGKW := hd (show gk ≠ gw from fun e => by omega)
        have HN32 := hd (show n = 32 by rw [← HON.out]; exact he)
        replace HW := hd (hmc.block (blk_below HW.out hb) (ne_types (blk_below HW.out hb) (blk_below HC.out hb) (by decide)))
        have HGK := hd (show gk < (w4'.setCell ⟨gc, 0, none⟩ (.slice (some ⟨gk, 0, none⟩) 32 32)).heap.size ∧ gk ≠ gc from ⟨Nat.lt_of_lt_of_le hg2' hmc.size, by omega⟩)
        replace HC := hd (show (w4'.setCell ⟨gc, 0, none⟩ (.slice (some ⟨gk, 0, none⟩) 32 32)).heap[gc]? = some (.cells #[.slice (some ⟨gk, 0, none⟩) 32 32, .int .u64 (nn : Int)] 46 (0, 0)) from blk_set (blk_below HC.out hb) 0 _)
        replace HBV := hd ((below_seq HBV.out hb).trans (hmc.toBelow (fun k hk => by rw [hk]; exact HGC.out) (below_seq HBV.out hb).size))
        have HBK := hd hbk
        clear hb HRK he hg1' hg2' hbk hmc hlt hlt2 HO
        generalize w4'.setCell ⟨gc, 0, none⟩ (.slice (some ⟨gk, 0, none⟩) 32 32) = w4 at HC HW HBV HBK HGK ⊢
        have HRR := hd (rrekey_calls (w := w4) (N := nn) (HKY.out.below HBV.out) HNA.out)
        have c0 : w4.cell? ⟨gw, 0, none⟩ = some (.slice A n c) := by rw [blk_cell HW.out]; rfl
        have c1 : w4.cell? ⟨gw, 1, none⟩ = some (.int .u64 (nn : Int)) := by rw [blk_cell HW.out]; rfl
        go_wp2_with fail
        refine HRR.out.mono ?_
        rintro e w5 ⟨s, rfl, _, h1, hb⟩
        obtain ⟨gl, hsA, hsn, hl1, hl2, hlb⟩ := h1 HN32.out
        have HGL := hd (show gl < w5.heap.size ∧ gl ≠ gc ∧ gl ≠ gw from ⟨hl2, fun e => by have := blk_lt HC.out; omega, fun e => by have := blk_lt HW.out; omega⟩)
        have HSA := hd hsA
        have HLB := hd (show Bytes w5 s.A s.n s.c (rekN key) by rw [hsn]; exact hlb)
        replace HC := hd (blk_below HC.out hb)
        replace HW := hd (blk_below HW.out hb)
        replace HBK := hd (Bytes.below HBK.out hb)
        replace HGK := hd (And.intro (Nat.lt_of_lt_of_le HGK.out.1 hb.size) HGK.out.2)
        replace HBV := hd (below_seq HBV.out hb)
        clear hb HRR c0 c1 h1 hsA hsn hl1 hl2 hlb
        go_wp2_with ((with_reducible refine gate_store (t := 48) (p := 14) rfl ?_); go_loud (refine op_storeSt rfl rfl 48 _ _ rfl (gw) 0 #[.slice s.A s.n s.c, .int .u64 (nn : Int)] #[.slice A n c, .int .u64 (nn : Int)] _ rfl rfl _ HW.out (by kernel_rfl) (by simp) (by simp [Value.oneCell']) rfl ?_); intro wz hbz hmz)
        replace HC := hd (hmz.block HC.out (ne_types HC.out HW.out (by decide)))
        replace HBV := hd (HBV.out.trans (hmz.toBelow (fun k hk => by rw [hk]; exact HGW.out) HBV.out.size))
        replace HBK := hd (Bytes.modB HBK.out hmz HGK.out.1 HGKW.out)
        have hlb : Bytes wz s.A s.n s.c (rekN key) := by
          have h := HLB.out
          rw [HSA.out] at h ⊢
          exact Bytes.modB h hmz HGL.out.1 HGL.out.2.2
        have hsz := hmz.size
        go_meet
        case rel =>
          exact ⟨⟨some ⟨gk, 0, none⟩, 32, 32⟩, s, rekN key, HC, ⟨hbz⟩, ⟨fun w' hm => Bytes.modB HBK.out hm (Nat.lt_of_lt_of_le HGK.out.1 hsz) HGK.out.2⟩, ⟨fun w' hm => by rw [HSA.out] at hlb ⊢; exact Bytes.modB hlb hm (Nat.lt_of_lt_of_le HGL.out.1 hsz) HGL.out.2.1⟩, ⟨by rw [rekN_len (by rw [HKY.out.2.1]; exact HN32.out)]; decide⟩, HBV⟩
  case rest =>
    obtain ⟨kc, kw, kl, HC, HW, HKC, HKW, HKL, HBV⟩ := hcut
    have HM0 := hd (Mod.refl (fun k => k = gc) wc)
    have HKO := hd (HKC.out wc HM0.out).ok
    have HKCN := hd (HKC.out wc HM0.out).2.1
    have HKWN := hd (HKW.out wc HM0.out).2.1
    have hgl1 := blk_lt HC.out
    have hgl2 := blk_lt HW.out
    have HGL := hd (And.intro hgl1 hgl2)
    clear hgl1 hgl2 HO HON
    obtain ⟨u, HU⟩ : ∃ u, Aside0 (useC kl nn b (sealA kl (nonceN nn) ad b) = u) := ⟨_, ⟨rfl⟩⟩
    have HUE := hd (show u.2.1 ≠ 0 → u.2.2 = nn from fun h => by rw [← HU.out] at h ⊢; exact useC_err' h)
    have HUN := hd (show u.2.2 < 2 ^ 64 by rw [← HU.out]; exact useC_lt _ _ HNN.out)
    have HUO := hd (show BytesOK u.1 by rw [← HU.out]; exact useC_ok HB.out.ok (sealA_ok _ _ _ HB.out.ok))
    have HUL := hd (show u.1.length ≤ 516 by rw [← HU.out]; exact useC_len (by rw [HB.out.2.1]; have := HMB.out; omega) (Nat.le_trans (sealA_len _ _ _ _) (by rw [HB.out.2.1]; have := HMB.out; omega)))
    have HSE := hd (cseal_calls (o := 0) HC.out rfl rfl (HKC.out _ HM0.out) HNN.out (HA.out.below HBV.out) (HB.out.below HBV.out) (HV.out.below HBV.out).p (by have := HMA.out; omega) (by have := HMB.out; omega))
    rw [HU.out] at HSE
    go_wp2_with fail
    refine HSE.out.mono ?_
    rintro e _ ⟨v, w13, rfl, rfl, hb, ho⟩
    rw [show (0 : Nat) + 1 = 1 from rfl] at ho ⊢
    obtain ⟨x, rfl, hxn, hx⟩ := ho.sl (n := u.1.length) rfl
    have HX := hd (hx.lower HBV.out.size)
    have HXN := hd hxn
    replace HC := hd (blk_below HC.out hb)
    replace HW := hd (blk_below HW.out hb)
    replace HM0 := hd (HM0.out.trans (Mod.below hb))
    replace HBV := hd (below_seq HBV.out hb)
    have hmc := mod_cell w13 gc 1 (.int .u64 (u.2.2 : Int))
    have hap := Apart.one HC.out (e := 5) (by decide)
    replace HW := hd (hmc.block HW.out (ne_types HW.out (HC.out) (by decide)))
    replace HM0 := hd (HM0.out.then_ hmc (fun i _ h => h))
    replace HBV := hd (HBV.out.trans (hmc.toBelow (fun k hk => by rw [hk]; exact HGC.out) HBV.out.size))
    clear hap
    replace HC := hd (show (w13.setCell ⟨gc, 1, none⟩ (.int .u64 (u.2.2 : Int))).heap[gc]? = some (.cells #[.slice kc.A kc.n kc.c, .int .u64 (u.2.2 : Int)] 46 (0, 0)) from blk_set HC.out 1 _)
    clear hb ho hx hxn hmc HSE
    generalize w13.setCell ⟨gc, 1, none⟩ (.int .u64 (u.2.2 : Int)) = w14 at HC HW HM0 HBV HX ⊢
    have HRS := hd (refseal16_calls (w := w14) (N := nn) (HKW.out _ HM0.out) HNN.out (HA.out.below HBV.out) (HB.out.below HBV.out) (by have := HMA.out; omega) (by have := HMB.out; omega))
    rw [HU.out] at HRS
    unfold R16Post at HRS
    have c0 : w14.cell? ⟨gw, 0, none⟩ = some (.slice kw.A kw.n kw.c) := by rw [blk_cell HW.out]; rfl
    have c1 : w14.cell? ⟨gw, 1, none⟩ = some (.int .u64 (nn : Int)) := by rw [blk_cell HW.out]; rfl
    go_wp2_with fail
    refine HRS.out.mono ?_
    rintro e w15 ⟨v, rfl, ho, hb⟩
    obtain ⟨By, ny, cy, rfl, hny, hby⟩ := out_box ho (Box.old (w := w15) HB.out (by rw [HB.out.2.1]; have := HMB.out; omega)) (below_seq HBV.out hb) HBV.out.size HUO.out (by have := HUL.out; omega)
    have HY := hd hby
    have HNY := hd hny
    clear ho hby hny HRS c0 c1
    replace HC := hd (blk_below HC.out hb)
    replace HW := hd (blk_below HW.out hb)
    replace HX := hd (HX.out.below hb)
    replace HM0 := hd (HM0.out.trans (Mod.below hb))
    replace HBV := hd (below_seq HBV.out hb)
    clear hb
    go_upto_region 15 with (fail)
    have hal := below_alloc (Below.refl w15.heap.size w15) (.cells #[.slice kw.A kw.n kw.c, .int .u64 (u.2.2 : Int)] 48)
    have HVB := hd (blk_new w15 (.cells #[.slice kw.A kw.n kw.c, .int .u64 (u.2.2 : Int)] 48))
    replace HC := hd (blk_below HC.out hal)
    replace HW := hd (blk_below HW.out hal)
    replace HX := hd (HX.out.below hal)
    replace HY := hd (HY.out.below hal)
    replace HM0 := hd (HM0.out.trans (Mod.below hal))
    replace HBV := hd (below_seq HBV.out hal)
    generalize w15.alloc (.cells #[.slice kw.A kw.n kw.c, .int .u64 (u.2.2 : Int)] 48) = w16 at HC HW HX HY HM0 HBV HVB ⊢
    obtain ⟨gv, hgv⟩ : ∃ g, Aside0 (w15.heap.size = g) := ⟨_, ⟨rfl⟩⟩
    rw [hgv.out] at HVB ⊢
    clear hal hgv
    have c0 : w16.cell? ⟨gc, 0, none⟩ = some (.slice kc.A kc.n kc.c) := by rw [blk_cell HC.out]; rfl
    have c1 : w16.cell? ⟨gc, 1, none⟩ = some (.int .u64 (u.2.2 : Int)) := by rw [blk_cell HC.out]; rfl
    have d0 : w16.cell? ⟨gv, 0, none⟩ = some (.slice kw.A kw.n kw.c) := by rw [blk_cell HVB.out]; rfl
    have d1 : w16.cell? ⟨gv, 1, none⟩ = some (.int .u64 (u.2.2 : Int)) := by rw [blk_cell HVB.out]; rfl
    have s1 := fun n => ((own_bytes HX.out HUO.out).below (pw_below_drewN (Below.refl _ _) n)).str (P := Tryd.prog) Tryd.underlying40 Tryd.underlying5 Tryd.underlying9
    have s2 := fun n => ((HY.out.bytes HBV.out).below (pw_below_drewN (Below.refl _ _) n)).str (P := Tryd.prog) Tryd.underlying40 Tryd.underlying5 Tryd.underlying9
    have s3 := fun n => ((HKC.out _ HM0.out).below (pw_below_drewN (Below.refl _ _) n)).str (P := Tryd.prog) Tryd.underlying40 Tryd.underlying5 Tryd.underlying9
    have s4 := fun n => ((HKW.out _ HM0.out).below (pw_below_drewN (Below.refl _ _) n)).str (P := Tryd.prog) Tryd.underlying40 Tryd.underlying5 Tryd.underlying9
    dsimp only at s2
    go_cut [122] (fun u122 wy => u122 = .bool false ∧ ∃ nq, wy = w16.drewN nq)
    case first =>
      by_cases hz : u.2.1 = 0
      · have z1 : (((u.2.1 : Nat) : Int) == 0) = true := by simpa using hz
        have z2 : (((u.2.1 : Nat) : Int) != 0) = false := by simpa using hz
        have z3 : decide (((u.2.1 : Nat) : Int) = 0) = true := by simpa using hz
        clear hz
        go_quiet (fail)
        go_wp2_with fail
        go_meet
        case rel => exact ⟨rfl, _, rfl⟩
      · have z1 : (((u.2.1 : Nat) : Int) == 0) = false := by simpa using hz
        have z2 : (((u.2.1 : Nat) : Int) != 0) = true := by simpa using hz
        have z3 : decide (((u.2.1 : Nat) : Int) = 0) = false := by simpa using hz
        have h22 := HUE.out hz
        clear hz
        rw [h22] at c1 d1
        go_quiet (fail)
        go_wp2_with fail
        go_meet
        case rel => exact ⟨rfl, _, rfl⟩
    case rest =>
      obtain ⟨rfl, nq, rfl⟩ := hcut
      have hb := pw_below_drewN (Below.refl w16.heap.size w16) nq
      clear s1 s2 s3 s4 c0 c1 d0 d1 HVB
      replace HW := hd (blk_below HW.out hb)
      replace HX := hd (HX.out.below hb)
      replace HY := hd (HY.out.below hb)
      replace HM0 := hd (HM0.out.trans (Mod.below hb))
      replace HBV := hd (below_seq HBV.out hb)
      generalize w16.drewN nq = w17 at HW HX HY HM0 HBV ⊢
      clear hb
      have c0 : w17.cell? ⟨gw, 0, none⟩ = some (.slice kw.A kw.n kw.c) := by rw [blk_cell HW.out]; rfl
      have c1 : w17.cell? ⟨gw, 1, none⟩ = some (.int .u64 (nn : Int)) := by rw [blk_cell HW.out]; rfl
      go_upto_region 18 with (fail)
      have hal := below_alloc (Below.refl w17.heap.size w17) (.cells #[.slice kw.A kw.n kw.c, .int .u64 (nn : Int)] 46)
      have HD := hd (blk_new w17 (.cells #[.slice kw.A kw.n kw.c, .int .u64 (nn : Int)] 46))
      have HGD := hd (And.intro HBV.out.size HM0.out.size)
      replace HW := hd (blk_below HW.out hal)
      replace HX := hd (HX.out.below hal)
      replace HY := hd (HY.out.below hal)
      replace HM0 := hd (HM0.out.trans (Mod.below hal))
      replace HBV := hd (below_seq HBV.out hal)
      generalize w17.alloc (.cells #[.slice kw.A kw.n kw.c, .int .u64 (nn : Int)] 46) = w18 at HD HW HX HY HM0 HBV ⊢
      obtain ⟨gd, hgd⟩ : ∃ g, Aside0 (w17.heap.size = g) := ⟨_, ⟨rfl⟩⟩
      rw [hgd.out] at HD HGD ⊢
      clear hal hgd c0 c1 HC
      obtain ⟨v2, HU2⟩ : ∃ v, Aside0 (useC kl nn u.1 (openA kl (nonceN nn) ad u.1) = v) := ⟨_, ⟨rfl⟩⟩
      have HV2N := hd (show v2.2.2 < 2 ^ 64 by rw [← HU2.out]; exact useC_lt _ _ HNN.out)
      have HV2O := hd (show BytesOK v2.1 by rw [← HU2.out]; exact useC_ok HUO.out (openA_ok _ _ _ HUO.out))
      have HV2L := hd (show v2.1.length ≤ 516 by rw [← HU2.out]; exact useC_len HUL.out (Nat.le_trans (openA_len _ _ _ _) HUL.out))
      obtain ⟨v3, HU3⟩ : ∃ v, Aside0 (useC kl v2.2.2 b (openA kl (nonceN v2.2.2) ad b) = v) := ⟨_, ⟨rfl⟩⟩
      have HV3O := hd (show BytesOK v3.1 by rw [← HU3.out]; exact useC_ok HB.out.ok (openA_ok _ _ _ HB.out.ok))
      have HV3L := hd (show v3.1.length ≤ 516 by rw [← HU3.out]; exact useC_len (by rw [HB.out.2.1]; have := HMB.out; omega) (Nat.le_trans (openA_len _ _ _ _) (by rw [HB.out.2.1]; have := HMB.out; omega)))
      have HOP := hd (copen_calls (w := w18) (o := 0) HD.out rfl rfl (HKW.out _ HM0.out) HNN.out (HA.out.below HBV.out) (own_bytes HX.out HUO.out) (HV.out.below HBV.out).p (by have := HMA.out; omega) (by rw [HXN.out]; have := HUL.out; omega))
      rw [HU2.out] at HOP
      go_wp2_with fail
      refine HOP.out.mono ?_
      rintro e _ ⟨v, w19, rfl, rfl, hb, ho⟩
      rw [show (0 : Nat) + 1 = 1 from rfl] at ho ⊢
      obtain ⟨z, rfl, hxn, hx⟩ := ho.sl (n := v2.1.length) rfl
      have HZ := hd (hx.lower HBV.out.size)
      replace HW := hd (blk_below HW.out hb)
      replace HX := hd (HX.out.below hb)
      replace HY := hd (HY.out.below hb)
      replace HM0 := hd (HM0.out.trans (Mod.below hb))
      replace HBV := hd (below_seq HBV.out hb)
      replace HD := hd (blk_below HD.out hb)
      have hmc := mod_cell w19 gd 1 (.int .u64 (v2.2.2 : Int))
      have hap := Apart.one HD.out (e := 5) (by decide)
      replace HW := hd (hmc.block HW.out (ne_types HW.out (HD.out) (by decide)))
      replace HX := hd (HX.out.mod hmc hap)
      replace HY := hd (HY.out.mod hmc hap)
      replace HM0 := hd (HM0.out.then_ hmc (fun i hi h => absurd HGD.out.2 (by omega)))
      replace HBV := hd (HBV.out.trans (hmc.toBelow (fun k hk => by rw [hk]; exact HGD.out.1) HBV.out.size))
      clear hap
      replace HD := hd (show (w19.setCell ⟨gd, 1, none⟩ (.int .u64 (v2.2.2 : Int))).heap[gd]? = some (.cells #[.slice kw.A kw.n kw.c, .int .u64 (v2.2.2 : Int)] 46 (0, 0)) from blk_set HD.out 1 _)
      clear hb ho hx hxn hmc HOP
      generalize w19.setCell ⟨gd, 1, none⟩ (.int .u64 (v2.2.2 : Int)) = w20 at HD HW HX HY HM0 HBV HZ ⊢
      have HOP := hd (copen_calls (w := w20) (o := 0) HD.out rfl rfl (HKW.out _ HM0.out) HV2N.out (HA.out.below HBV.out) (HB.out.below HBV.out) (HV.out.below HBV.out).p (by have := HMA.out; omega) (by have := HMB.out; omega))
      rw [HU3.out] at HOP
      go_wp2_with fail
      refine HOP.out.mono ?_
      rintro e _ ⟨v, w21, rfl, rfl, hb, ho⟩
      rw [show (0 : Nat) + 1 = 1 from rfl] at ho ⊢
      obtain ⟨r, rfl, hxn, hx⟩ := ho.sl (n := v3.1.length) rfl
      have HR := hd (hx.lower HBV.out.size)
      replace HW := hd (blk_below HW.out hb)
      replace HX := hd (HX.out.below hb)
      replace HY := hd (HY.out.below hb)
      replace HM0 := hd (HM0.out.trans (Mod.below hb))
      replace HBV := hd (below_seq HBV.out hb)
      replace HZ := hd (HZ.out.below hb)
      replace HD := hd (blk_below HD.out hb)
      have hmc := mod_cell w21 gd 1 (.int .u64 (v3.2.2 : Int))
      have hap := Apart.one HD.out (e := 5) (by decide)
      replace HW := hd (hmc.block HW.out (ne_types HW.out (HD.out) (by decide)))
      replace HX := hd (HX.out.mod hmc hap)
      replace HY := hd (HY.out.mod hmc hap)
      replace HZ := hd (HZ.out.mod hmc hap)
      replace HM0 := hd (HM0.out.then_ hmc (fun i hi h => absurd HGD.out.2 (by omega)))
      replace HBV := hd (HBV.out.trans (hmc.toBelow (fun k hk => by rw [hk]; exact HGD.out.1) HBV.out.size))
      clear hap
      replace HD := hd (show (w21.setCell ⟨gd, 1, none⟩ (.int .u64 (v3.2.2 : Int))).heap[gd]? = some (.cells #[.slice kw.A kw.n kw.c, .int .u64 (v3.2.2 : Int)] 46 (0, 0)) from blk_set HD.out 1 _)
      clear hb ho hx hxn hmc HOP
      generalize w21.setCell ⟨gd, 1, none⟩ (.int .u64 (v3.2.2 : Int)) = w22 at HD HW HX HY HM0 HBV HZ HR ⊢
      go_upto_region 20 with (fail)
      clear HD
      have HRO := hd (refopen16_calls (w := w22) (N := nn) (HKW.out _ HM0.out) HNN.out (HA.out.below HBV.out) (HY.out.bytes HBV.out) (by have := HMA.out; omega) (by have := HNY.out; have := HUL.out; dsimp only; omega))
      rw [HU2.out] at HRO
      unfold R16Post at HRO
      have c0 : w22.cell? ⟨gw, 0, none⟩ = some (.slice kw.A kw.n kw.c) := by rw [blk_cell HW.out]; rfl
      have c1 : w22.cell? ⟨gw, 1, none⟩ = some (.int .u64 (nn : Int)) := by rw [blk_cell HW.out]; rfl
      go_wp2_with fail
      refine HRO.out.mono ?_
      rintro e w23 ⟨v, rfl, ho, hb⟩
      obtain ⟨Bs, ns, cs, rfl, hny, hby⟩ := out_box ho (HY.out.below hb) (below_seq HBV.out hb) HBV.out.size HV2O.out (by have := HV2L.out; omega)
      have HS := hd hby
      clear ho hby hny HRO c0 c1
      replace HY := hd (HY.out.below hb)
      replace HZ := hd (HZ.out.below hb)
      replace HR := hd (HR.out.below hb)
      replace HM0 := hd (HM0.out.trans (Mod.below hb))
      replace HBV := hd (below_seq HBV.out hb)
      clear hb
      go_upto_region 21 with (fail)
      have hal := below_alloc (Below.refl w23.heap.size w23) (.cells #[.slice kw.A kw.n kw.c, .int .u64 (v2.2.2 : Int)] 48)
      have HUB := hd (blk_new w23 (.cells #[.slice kw.A kw.n kw.c, .int .u64 (v2.2.2 : Int)] 48))
      replace HY := hd (HY.out.below hal)
      replace HZ := hd (HZ.out.below hal)
      replace HR := hd (HR.out.below hal)
      replace HM0 := hd (HM0.out.trans (Mod.below hal))
      replace HBV := hd (below_seq HBV.out hal)
      replace HS := hd (HS.out.below hal)
      generalize w23.alloc (.cells #[.slice kw.A kw.n kw.c, .int .u64 (v2.2.2 : Int)] 48) = w24 at HUB HY HZ HR HM0 HBV HS ⊢
      obtain ⟨gu, hgv⟩ : ∃ g, Aside0 (w23.heap.size = g) := ⟨_, ⟨rfl⟩⟩
      rw [hgv.out] at HUB ⊢
      clear hal hgv
      have HRO := hd (refopen16_calls (w := w24) (N := v2.2.2) (HKW.out _ HM0.out) HV2N.out (HA.out.below HBV.out) (HB.out.below HBV.out) (by have := HMA.out; omega) (by have := HMB.out; omega))
      rw [HU3.out] at HRO
      unfold R16Post at HRO
      have c0 : w24.cell? ⟨gu, 0, none⟩ = some (.slice kw.A kw.n kw.c) := by rw [blk_cell HUB.out]; rfl
      have c1 : w24.cell? ⟨gu, 1, none⟩ = some (.int .u64 (v2.2.2 : Int)) := by rw [blk_cell HUB.out]; rfl
      go_wp2_with fail
      refine HRO.out.mono ?_
      rintro e w25 ⟨v, rfl, ho, hb⟩
      obtain ⟨Bt, nt, ct, rfl, hny, hby⟩ := out_box ho (Box.old (w := w25) HB.out (by rw [HB.out.2.1]; have := HMB.out; omega)) (below_seq HBV.out hb) HBV.out.size HV3O.out (by have := HV3L.out; omega)
      have HT := hd hby
      clear ho hby hny HRO c0 c1
      replace HZ := hd (HZ.out.below hb)
      replace HR := hd (HR.out.below hb)
      replace HS := hd (HS.out.below hb)
      replace HBV := hd (below_seq HBV.out hb)
      clear hb
      go_upto_region 22 with (fail)
      have hal := below_alloc (Below.refl w25.heap.size w25) (.cells #[.slice kw.A kw.n kw.c, .int .u64 (v3.2.2 : Int)] 48)
      have HTB := hd (blk_new w25 (.cells #[.slice kw.A kw.n kw.c, .int .u64 (v3.2.2 : Int)] 48))
      replace HZ := hd (HZ.out.below hal)
      replace HR := hd (HR.out.below hal)
      replace HS := hd (HS.out.below hal)
      replace HBV := hd (below_seq HBV.out hal)
      replace HT := hd (HT.out.below hal)
      generalize w25.alloc (.cells #[.slice kw.A kw.n kw.c, .int .u64 (v3.2.2 : Int)] 48) = w26 at HTB HZ HR HS HBV HT ⊢
      obtain ⟨gt, hgv⟩ : ∃ g, Aside0 (w25.heap.size = g) := ⟨_, ⟨rfl⟩⟩
      rw [hgv.out] at HTB ⊢
      clear hal hgv
      have s1 := (own_bytes HZ.out HV2O.out).str (P := Tryd.prog) Tryd.underlying40 Tryd.underlying5 Tryd.underlying9
      have s2 := (HS.out.bytes HBV.out).str (P := Tryd.prog) Tryd.underlying40 Tryd.underlying5 Tryd.underlying9
      have s3 := (own_bytes HR.out HV3O.out).str (P := Tryd.prog) Tryd.underlying40 Tryd.underlying5 Tryd.underlying9
      have s4 := (HT.out.bytes HBV.out).str (P := Tryd.prog) Tryd.underlying40 Tryd.underlying5 Tryd.underlying9
      dsimp only at s1 s2 s3 s4
      have hbw := below_seq HWV.out HBV.out
      go_wp2
      go_ret
      exact ⟨by first | rfl | (simp; done), hbw⟩
end Go.Proofs.YtlgdplodglchaaaDoor
