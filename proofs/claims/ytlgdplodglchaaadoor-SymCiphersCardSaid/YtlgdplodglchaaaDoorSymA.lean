/- The walk through redanlaw16.awake. -/
import Derived.Test.YtlgdplodglchaaaDoorM8
import Derived.Test.YtlgdplodglchaaaDoorM4
set_option linter.unusedVariables false
set_option linter.unusedSimpArgs false
namespace Go.Proofs.YtlgdplodglchaaaDoor
open Go.RowKit Go.Proofs.YtlgdplodglchaaaDoorW.PrintWords Go.Proofs.YtlgdplodglchaaaDoorW.PrintLast Go.Proofs.YtlgdplodglchaaaDoorW.PrintMore
theorem useS_ok {s : StP} (hk : s.key.length = 32) (hN : s.N ≠ 18446744073709551615) (b : List Nat) : s.useS b = (sealN s.key (nonceN s.N) s.h b, 0, s.N + 1) := by
  have e : sealA s.key (nonceN s.N) s.h b = (sealN s.key (nonceN s.N) s.h b, 0) := by rw [sealA, if_pos ⟨hk, nonceN_length s.N⟩]
  rw [StP.useS, useC, if_neg (by omega), if_neg (by omega), if_neg hN, e, if_neg (by simp)]
theorem useO_ok {s : StP} (hk : s.key.length = 32) (hN : s.N ≠ 18446744073709551615) {b x : List Nat} (hx : x = sealN s.key (nonceN s.N) s.h b) : s.useO x = (b, 0, s.N + 1) := by
  have e : openA s.key (nonceN s.N) s.h x = (b, 0) := by rw [openA, if_pos ⟨hk, nonceN_length s.N⟩, hx, openN_seal]
  rw [StP.useO, useC, if_neg (by omega), if_neg (by omega), if_neg hN, e, if_neg (by simp)]
/-- The three variables. -/
structure Vars (w : World) : Prop where
  p : PlacesAt w
  t : TurnsAt w
  c : ConstsAt w
theorem Vars.below {w w1 : World} (h : Vars w) (hb : Below w.heap.size w w1) : Vars w1 := ⟨h.p.below hb, h.t.below hb, h.c.below hb⟩
theorem sealed_ck (s : StP) (b : List Nat) : (s.sealed b).ck = s.ck := by
  unfold StP.sealed
  split <;> rfl
def awP1 : StP := (newP nmL).mixKey [1]
theorem awP1_key : awP1.key.length = 32 := threeB_length _ _
def awX : List Nat := sealN awP1.key (nonceN 0) awP1.h [116, 101, 120, 116]
theorem awP1_is : (newP nmL).mixKey [1] = awP1 := rfl
theorem awP1_N : awP1.N ≠ 18446744073709551615 := by show (0 : Nat) ≠ _; decide
theorem awP1_S : awP1.useS [116, 101, 120, 116] = (awX, 0, 1) := useS_ok awP1_key awP1_N _
theorem awP1_O : awP1.useO awX = ([116, 101, 120, 116], 0, 1) := useO_ok awP1_key awP1_N rfl
theorem newP_ck (l : List Nat) : (newP l).ck = nameN l := rfl
theorem mixKey_ck (s : StP) (b : List Nat) : (s.mixKey b).ck = threeA s.ck b := rfl
theorem mixBoth_ck (s : StP) (b : List Nat) : (s.mixBoth b).ck = threeA s.ck b := rfl
theorem awP1_k : awP1.ck = threeA (nameN nmL) [1] := by rw [awP1, mixKey_ck, newP_ck]
theorem awP1_ck : ((awP1.sealed [116, 101, 120, 116]).mixBoth []).ck = awC2 := by
  rw [mixBoth_ck, sealed_ck, awP1_k, awC2]
theorem awX_len : awX.length = 20 := by rw [awX, sealN_length]; rfl
theorem awX_ok : BytesOK awX := sealN_ok _ _ _ (lit_ok' _ rfl)
set_option maxHeartbeats 8000000 in
set_option maxRecDepth 100000 in
theorem awake16_calls {w : World} (hv : Vars w) : Calls Tryd.prog 31 #[] w fun e w' => e = .returned (.bool true) ∧ Below w.heap.size w w' := by
  have HV := hd hv
  have HBW := hd (Below.refl w.heap.size w)
  clear hv
  go_enter Tryd.func31, Tryd.ntmps31
  go_wp2_with fail
  refine (stnew_box (W := w) (l := nmL) (Nat.le_refl _) (lit_ok' _ rfl) (by decide) HV.out.t HV.out.c).mono ?_
  rintro e w1 ⟨g1, cka, ha, rfl, sa, hg1, hb⟩
  have SA := hd sa
  replace HBW := hd hb
  clear sa hb hg1
  go_wp2_with fail
  refine (stnew_box (W := w) (l := nmL) HBW.out.size (lit_ok' _ rfl) (by decide) (HV.out.below HBW.out).t (HV.out.below HBW.out).c).mono ?_
  rintro e w2 ⟨g2, ckb, hb2, rfl, sb, hg2, hb⟩
  have HNE := hd (show g1 ≠ g2 by have := blk_lt SA.out.at_; omega)
  replace SA := hd (SA.out.below hb)
  have SB := hd sb
  replace HBW := hd (below_seq HBW.out hb)
  have hnh := SA.out.nh
  have c1 := SA.out.at_.c1
  rw [hnh] at c1
  clear sb hb hg2
  go_upto_region 5 with (fail)
  clear c1 hnh
  go_wp2_with fail
  have hal := below_alloc (Below.refl w2.heap.size w2) (.cells #[.int .u8 1] 5)
  have HL := hd (Bytes.new (W := w2) (t := 5) (g := w2.heap.size) (n := 1) (cs := #[.int .u8 1]) [1] rfl rfl rfl (by decide) rfl)
  replace SA := hd (SA.out.below hal)
  replace SB := hd (SB.out.below hal)
  replace HBW := hd (below_seq HBW.out hal)
  clear hal
  generalize w2.alloc (.cells #[.int .u8 1] 5) = w3 at HL SA SB HBW ⊢
  refine (mixkey_box SA.out HBW.out.size HL.out (by decide) (HV.out.below HBW.out).t (HV.out.below HBW.out).c).mono ?_
  rintro e w4 ⟨cka2, ka, rfl, hs, hm⟩
  replace SB := hd (SB.out.mod hm SA.out.apart (fun e => HNE.out e.symm))
  replace HBW := hd (HBW.out.trans (hm.toBelow (fun k hk => by rw [hk]; exact SA.out.low) HBW.out.size))
  replace SA := hd hs
  clear hs hm HL
  go_wp2_with fail
  have hal := below_alloc (Below.refl w4.heap.size w4) (.cells #[.int .u8 1] 5)
  have HL := hd (Bytes.new (W := w4) (t := 5) (g := w4.heap.size) (n := 1) (cs := #[.int .u8 1]) [1] rfl rfl rfl (by decide) rfl)
  replace SA := hd (SA.out.below hal)
  replace SB := hd (SB.out.below hal)
  replace HBW := hd (below_seq HBW.out hal)
  clear hal
  generalize w4.alloc (.cells #[.int .u8 1] 5) = w5 at HL SA SB HBW ⊢
  refine (mixkey_box SB.out HBW.out.size HL.out (by decide) (HV.out.below HBW.out).t (HV.out.below HBW.out).c).mono ?_
  rintro e w6 ⟨ckb2, kb, rfl, hs, hm⟩
  replace SA := hd (SA.out.mod hm SB.out.apart HNE.out)
  replace HBW := hd (HBW.out.trans (hm.toBelow (fun k hk => by rw [hk]; exact SB.out.low) HBW.out.size))
  replace SB := hd hs
  clear hs hm HL
  rw [awP1_is] at SA SB
  have kc := fun (w : World) (o : Obj) (C : Array Value) (n c : Nat) => Joins.run_convert_bytes_const_at (P := Tryd.prog) (w.alloc o) 40 5 C n c (w.heap.size + 1) (by simp) Tryd.underlying40 Tryd.underlying5
  have kc2 := fun (w : World) (C : Array Value) (n c : Nat) => Lib.run_convert_bytes_const (P := Tryd.prog) w 40 5 C n c Tryd.underlying40 Tryd.underlying5
  go_wp2_with fail
  clear kc kc2
  have hbt := Bytes.newM (W := w6) (t := 5) (fr := (4, 5)) (g := w6.heap.size) (n := 4) (cs := #[.int .u8 116, .int .u8 101, .int .u8 120, .int .u8 116]) [116, 101, 120, 116] rfl rfl rfl (by decide) rfl
  have hal := below_alloc (Below.refl w6.heap.size w6) (.cells #[.int .u8 116, .int .u8 101, .int .u8 120, .int .u8 116] 5 (4, 5))
  have hlt := blk_lt SA.out.at_
  have hsa := World.size_alloc w6 (.cells #[.int .u8 116, .int .u8 101, .int .u8 120, .int .u8 116] 5 (4, 5))
  replace SA := hd (SA.out.below hal)
  replace SB := hd (SB.out.below hal)
  replace HBW := hd (below_seq HBW.out hal)
  have hgt : ∀ w', Mod (fun k => k = g1) (w6.alloc (.cells #[.int .u8 116, .int .u8 101, .int .u8 120, .int .u8 116] 5 (4, 5))) w' → Bytes w' (some ⟨w6.heap.size, 0, none⟩) 4 4 [116, 101, 120, 116] := fun w' hm => hbt.modB hm (by rw [hsa]; exact Nat.lt_succ_self _) (fun e => by omega)
  have HSE := hd (stseal_box SA.out HBW.out.size hbt (by decide) hgt (HV.out.below HBW.out).p (HV.out.below HBW.out).t (HV.out.below HBW.out).c)
  rw [awP1_S] at HSE
  dsimp only at HSE
  clear hbt hal hlt hsa hgt
  generalize w6.alloc (.cells #[.int .u8 116, .int .u8 101, .int .u8 120, .int .u8 116] 5 (4, 5)) = w7 at SA SB HBW HSE ⊢
  refine HSE.out.mono ?_
  rintro e w8 ⟨v, ha2, rfl, ho, hs, hm⟩
  have HX := hd (ho.lower HBW.out.size)
  replace SB := hd (SB.out.mod hm SA.out.apart (fun e => HNE.out e.symm))
  replace HBW := hd (HBW.out.trans (hm.toBelow (fun k hk => by rw [hk]; exact SA.out.low) HBW.out.size))
  replace SA := hd hs
  clear ho hs hm HSE
  obtain ⟨Ax, cx, rfl, _⟩ := HX.out.bytes 20 awX_len awX_ok
  have HOP := hd (stopen_box SB.out HBW.out.size (own_bytes HX.out awX_ok) (by decide) (fun w' hm => own_bytes (HX.out.mod hm SB.out.apart) awX_ok) (HV.out.below HBW.out).p (HV.out.below HBW.out).t (HV.out.below HBW.out).c)
  rw [awP1_O] at HOP
  dsimp only at HOP
  go_wp2_with fail
  refine HOP.out.mono ?_
  rintro e w9 ⟨v, hb3, rfl, ho, hs, hm⟩
  have HT := hd (ho.lower HBW.out.size)
  replace SA := hd (SA.out.mod hm SB.out.apart HNE.out)
  replace HX := hd (HX.out.mod hm SB.out.apart)
  replace HBW := hd (HBW.out.trans (hm.toBelow (fun k hk => by rw [hk]; exact SB.out.low) HBW.out.size))
  clear ho hs hm HOP SB
  obtain ⟨At, ct, rfl, _⟩ := HT.out.bytes 4 rfl (lit_ok' _ rfl)
  go_wp2_with fail
  refine (mixboth_box SA.out HBW.out.size (Bytes.nil w9 none 0) (by decide) (HV.out.below HBW.out).t (HV.out.below HBW.out).c).mono ?_
  rintro e w10 ⟨cka3, ha3, ka3, rfl, hs, hm⟩
  replace HT := hd (HT.out.mod hm SA.out.apart)
  replace HX := hd (HX.out.mod hm SA.out.apart)
  replace HBW := hd (HBW.out.trans (hm.toBelow (fun k hk => by rw [hk]; exact SA.out.low) HBW.out.size))
  replace SA := hd hs
  clear hs hm
  have HSP := hd (split_box SA.out HBW.out.size (HV.out.below HBW.out).t (HV.out.below HBW.out).c)
  rw [awP1_ck] at HSP
  go_wp2_with fail
  refine HSP.out.mono ?_
  rintro e w11 ⟨x, y, rfl, hox, hxn, hoy, hyn, hb⟩
  have HP := hd hox
  have HQ := hd hoy
  have HXN := hd hxn
  have HYN := hd hyn
  replace HT := hd (HT.out.below hb)
  replace HX := hd (HX.out.below hb)
  replace HBW := hd (below_seq HBW.out hb)
  clear hox hoy hxn hyn hb HSP SA
  go_upto_region 11 with (fail)
  have a1 := below_alloc (Below.refl w11.heap.size w11) (.cells #[.slice x.A x.n x.c, .int .u64 0] 46)
  have b1 := blk_new w11 (.cells #[.slice x.A x.n x.c, .int .u64 0] 46)
  have a2 := below_alloc (Below.refl _ (w11.alloc (.cells #[.slice x.A x.n x.c, .int .u64 0] 46))) (.cells #[.slice y.A y.n y.c, .int .u64 0] 46)
  have b2 := blk_new (w11.alloc (.cells #[.slice x.A x.n x.c, .int .u64 0] 46)) (.cells #[.slice y.A y.n y.c, .int .u64 0] 46)
  rw [World.size_alloc] at b2
  have HB1 := hd (blk_below b1 a2)
  have HB2 := hd b2
  have hba := below_seq a1 a2
  replace HT := hd (HT.out.below hba)
  replace HX := hd (HX.out.below hba)
  replace HP := hd (HP.out.below hba)
  replace HQ := hd (HQ.out.below hba)
  have HGZ := hd HBW.out.size
  replace HBW := hd (below_seq HBW.out hba)
  clear a1 a2 b1 b2 hba
  generalize (w11.alloc (.cells #[.slice x.A x.n x.c, .int .u64 0] 46)).alloc (.cells #[.slice y.A y.n y.c, .int .u64 0] 46) = w12 at HB1 HB2 HT HX HP HQ HBW ⊢
  obtain ⟨q, hq⟩ : ∃ q, Aside0 (w11.heap.size = q) := ⟨_, ⟨rfl⟩⟩
  rw [hq.out] at HB1 HB2 HGZ ⊢
  clear hq
  have hpo : BytesOK (threeA awC2 []) := threeA_ok _ _
  have hqo : BytesOK (threeB awC2 []) := threeB_ok _ _
  have HPL := hd (threeA_length awC2 [])
  have HQL := hd (threeB_length awC2 [])
  have HNQ := hd aw_ne
  obtain ⟨lp, hlp⟩ : ∃ l, threeA awC2 [] = l := ⟨_, rfl⟩
  obtain ⟨lq, hlq⟩ : ∃ l, threeB awC2 [] = l := ⟨_, rfl⟩
  rw [hlp] at HP hpo HPL HNQ
  rw [hlq] at HQ hqo HQL HNQ
  have HPO := hd hpo
  have HQO := hd hqo
  clear hlp hlq hpo hqo
  have hxlt := hd (HQ.out.below (Below.refl w12.heap.size w12))
  have HRK := hd (crekey_calls (o := 0) (N := 0) HB1.out rfl (own_bytes HP.out HPO.out) (by rw [HXN.out]; decide) (HV.out.below HBW.out).p)
  go_wp2_with fail
  refine HRK.out.mono ?_
  rintro e w13 ⟨rfl, ⟨hne, _⟩ | ⟨_, gk, w12', rfl, hb, hg1', hg2', hbk⟩⟩
  · exact absurd HXN.out hne
  have hmc := mod_cell w12' q 0 (.slice (some ⟨gk, 0, none⟩) 32 32)
  have hm := (Mod.below (S := fun k => k = q) hb).trans hmc
  have hap := Apart.one HB1.out (e := 5) (by decide)
  have HB1' := hd (show (w12'.setCell ⟨q, 0, none⟩ (.slice (some ⟨gk, 0, none⟩) 32 32)).heap[q]? = some (.cells #[.slice (some ⟨gk, 0, none⟩) 32 32, .int .u64 0] 46 (0, 0)) from blk_set (blk_below HB1.out hb) 0 _)
  replace HB2 := hd (hm.block HB2.out (Nat.succ_ne_self q))
  replace HT := hd (HT.out.mod hm hap)
  replace HX := hd (HX.out.mod hm hap)
  replace HQ := hd (HQ.out.mod hm hap)
  replace HBW := hd (HBW.out.trans (hm.toBelow (fun k hk => by rw [hk]; exact HGZ.out) HBW.out.size))
  have HBK := hd hbk
  clear hb hg1' hg2' hbk hmc hm hap HB1 HP HRK hxlt
  generalize w12'.setCell ⟨q, 0, none⟩ (.slice (some ⟨gk, 0, none⟩) 32 32) = w13 at HB1' HB2 HT HX HQ HBW HBK ⊢
  have hyn := HYN.out
  have d0 : w13.cell? ⟨q, 0, none⟩ = some (.slice (some ⟨gk, 0, none⟩) 32 32) := by rw [blk_cell HB1'.out]; rfl
  have d1 : w13.cell? ⟨q + 1, 0, none⟩ = some (.slice y.A y.n y.c) := by rw [blk_cell HB2.out]; rfl
  rw [hyn] at d1
  have s1' := (HT.out.bytesOf (lit_ok' _ rfl)).str (P := Tryd.prog) Tryd.underlying40 Tryd.underlying5 Tryd.underlying9
  have s2' := HBK.out.str (P := Tryd.prog) Tryd.underlying40 Tryd.underlying5 Tryd.underlying9
  have hq32 := own_bytes HQ.out HQO.out
  rw [hyn] at hq32
  have s3' := hq32.str (P := Tryd.prog) Tryd.underlying40 Tryd.underlying5 Tryd.underlying9
  have q4 := str_lit (l := [116, 101, 120, 116]) (m := [116, 101, 120, 116]) rfl
  have q5 : ((strOf (rekN lp)).toList == (strOf lq).toList) = false := by
    rw [str_eq HBK.out.ok HQO.out]
    exact beq_false_of_ne HNQ.out
  clear hq32 hyn
  go_wp2
  go_ret
  exact ⟨by first | rfl | (simp; done) | trace_state, HBW.out⟩
end Go.Proofs.YtlgdplodglchaaaDoor
