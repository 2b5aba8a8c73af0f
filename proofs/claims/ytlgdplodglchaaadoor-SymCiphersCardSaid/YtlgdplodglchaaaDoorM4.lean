/- Merged texts. -/
import Derived.Test.YtlgdplodglchaaaDoorGSesF
import Derived.Test.YtlgdplodglchaaaDoorGAead
import Derived.Lib.SmallJoins
import Derived.Lib.SlBytesConst
import Derived.OpenShut
import Derived.Deep.Slices
import Derived.Deep.Fields
import Derived.ChangeSame
import Derived.Test.YtlgdplodglchaaaDoorGPlain2
import Derived.Test.YtlgdplodglchaaaDoorGRefMac
import Derived.Test.YtlgdplodglchaaaDoorM3
import Derived.Test.YtlgdplodglchaaaDoorChaRst
import Derived.Test.YtlgdplodglchaaaDoorGWords
import Derived.Laws.Rows
/- Texts put together: SesM SesO SesX AeadAwP SesA OpenR. -/
/- The walks through session.New, Timer.Again. -/
set_option linter.unusedVariables false
set_option linter.unusedSimpArgs false
namespace Go.Proofs.YtlgdplodglchaaaDoor
open Go.RowKit Go.Proofs.YtlgdplodglchaaaDoorW.PrintWords Go.Proofs.YtlgdplodglchaaaDoorW.PrintLast Go.Proofs.YtlgdplodglchaaaDoorW.PrintMore
section
variable {w : World} {g now born sent N1 N2 last : Nat} {tries : Int} {r : Rul} {k1 k2 : Sl} {v : Win} {key1 key2 : List Nat}
end
end Go.Proofs.YtlgdplodglchaaaDoor
/- The walks through Session.Seal, Session.Open. -/
set_option linter.unusedVariables false
set_option linter.unusedSimpArgs false
namespace Go.Proofs.YtlgdplodglchaaaDoor
open Go.RowKit Go.Proofs.YtlgdplodglchaaaDoorW.PrintWords Go.Proofs.YtlgdplodglchaaaDoorW.PrintLast Go.Proofs.YtlgdplodglchaaaDoorW.PrintMore
theorem PlacesAt.mod {w w1 : World} {S : Nat → Prop} (h : PlacesAt w) (hm : Mod S w w1) (h0 : ¬ S 0) : PlacesAt w1 := by
  obtain ⟨t, fr, hb⟩ := h
  exact ⟨t, fr, hm.block hb h0⟩
section
variable {w : World} {g now born sent N1 N2 : Nat} {r : Rul} {k1 k2 : Sl} {v : Win} {key1 key2 text : List Nat}
/-- The cipher of a session, its key in a box: sealed. -/
theorem cseal_calls {A C D : Option Addr} {T o N n c nc cc nd cd : Nat} {cs : Array Value} {key ad b : List Nat} (hblk : w.heap[g]? = some (.cells cs T (0, 0))) (e0 : cs[o]? = some (.slice A n c)) (e1 : cs[o + 1]? = some (.int .u64 (N : Int)))
    (hk : Bytes w A n c key) (hN : N < 2 ^ 64) (ha : Bytes w C nc cc ad) (hb : Bytes w D nd cd b) (hpl : PlacesAt w) (hna : nc ≤ 100000000) (hnd : nd ≤ 100000000) :
    Calls Tryd.prog 49 #[.pointer (some ⟨g, o, none⟩), .slice C nc cc, .slice D nd cd] w (UsePost g o w (useC key N b (sealA key (nonceN N) ad b))) := by
  have HU := hd (use_calls (C := C) (nc := nc) (cc := cc) Tryd.func70 (by kernel_rfl) rfl hblk e0 e1 hk hN hb hnd (r := sealA key (nonceN N) ad b) (fun hn w1 B cb hb1 hB => by
    subst hn
    exact seal_any (hk.below hb1) hB (ha.below hb1) (hb.below hb1) (hpl.below hb1) hna hnd))
  obtain ⟨post, hpost⟩ : ∃ post, Aside0 (UsePost g o w (useC key N b (sealA key (nonceN N) ad b)) = post) := ⟨_, ⟨rfl⟩⟩
  rw [hpost.out]
  clear hblk e0 e1 hk hN ha hb hpl hna hnd
  go_enter Tryd.func49, Tryd.ntmps49
  go_wp2_with fail
  refine HU.out.mono ?_
  rintro e w1 ⟨v, w2, rfl, rfl, h3, h4⟩
  go_wp2
  rw [← hpost.out]
  exact ⟨v, w2, rfl, rfl, h3, h4⟩
theorem copen_calls {A C D : Option Addr} {T o N n c nc cc nd cd : Nat} {cs : Array Value} {key ad b : List Nat} (hblk : w.heap[g]? = some (.cells cs T (0, 0))) (e0 : cs[o]? = some (.slice A n c)) (e1 : cs[o + 1]? = some (.int .u64 (N : Int)))
    (hk : Bytes w A n c key) (hN : N < 2 ^ 64) (ha : Bytes w C nc cc ad) (hb : Bytes w D nd cd b) (hpl : PlacesAt w) (hna : nc ≤ 100000000) (hnd : nd ≤ 100000000) :
    Calls Tryd.prog 51 #[.pointer (some ⟨g, o, none⟩), .slice C nc cc, .slice D nd cd] w (UsePost g o w (useC key N b (openA key (nonceN N) ad b))) := by
  have HU := hd (use_calls (C := C) (nc := nc) (cc := cc) Tryd.func75 (by kernel_rfl) rfl hblk e0 e1 hk hN hb hnd (r := openA key (nonceN N) ad b) (fun hn w1 B cb hb1 hB => by
    subst hn
    exact open_any (hk.below hb1) hB (ha.below hb1) (hb.below hb1) (hpl.below hb1) hna hnd))
  obtain ⟨post, hpost⟩ : ∃ post, Aside0 (UsePost g o w (useC key N b (openA key (nonceN N) ad b)) = post) := ⟨_, ⟨rfl⟩⟩
  rw [hpost.out]
  clear hblk e0 e1 hk hN ha hb hpl hna hnd
  go_enter Tryd.func51, Tryd.ntmps51
  go_wp2_with fail
  refine HU.out.mono ?_
  rintro e w1 ⟨v, w2, rfl, rfl, h3, h4⟩
  go_wp2
  rw [← hpost.out]
  exact ⟨v, w2, rfl, rfl, h3, h4⟩
end
end Go.Proofs.YtlgdplodglchaaaDoor
/- The walk through Session.Open. -/
set_option linter.unusedVariables false
set_option linter.unusedSimpArgs false
namespace Go.Proofs.YtlgdplodglchaaaDoor
open Go.RowKit Go.Proofs.YtlgdplodglchaaaDoorW.PrintWords Go.Proofs.YtlgdplodglchaaaDoorW.PrintLast Go.Proofs.YtlgdplodglchaaaDoorW.PrintMore
section
variable {w : World} {g now born sent N1 N2 : Nat} {r : Rul} {k1 k2 : Sl} {v : Win} {key2 box : List Nat}
end
end Go.Proofs.YtlgdplodglchaaaDoor
/- What is sealed is opened; constants' bytes: helpers (cut out of AeadAwake). -/
set_option linter.unusedVariables false
set_option linter.unusedSimpArgs false
namespace Go.Proofs.YtlgdplodglchaaaDoor
open Go.RowKit Go.Proofs.YtlgdplodglchaaaDoorW.PrintWords Go.Proofs.YtlgdplodglchaaaDoorW.PrintLast Go.Proofs.YtlgdplodglchaaaDoorW.PrintMore
theorem openN_box {key nonce ad text t : List Nat} (ht : t.length = 16) : openN key nonce ad (boxN key nonce text ++ t) = if tagN key nonce ad (boxN key nonce text) = t then (text, 0) else ([], 10) := by
  have h1 : (boxN key nonce text ++ t).length = text.length + 16 := by rw [List.length_append, boxN_length, ht]
  have h2 : (boxN key nonce text ++ t).take text.length = boxN key nonce text := by
    rw [List.take_append_of_le_length (by rw [boxN_length]; exact Nat.le_refl _), List.take_of_length_le (by rw [boxN_length]; exact Nat.le_refl _)]
  have h3 : (boxN key nonce text ++ t).drop text.length = t := by
    rw [List.drop_append_of_le_length (by rw [boxN_length]; exact Nat.le_refl _), List.drop_of_length_le (by rw [boxN_length]; exact Nat.le_refl _), List.nil_append]
  rw [openN, if_neg (by omega), h1, Nat.add_sub_cancel, h2, h3, boxN_twice]
theorem openN_seal (key nonce ad text : List Nat) : openN key nonce ad (sealN key nonce ad text) = (text, 0) := by
  rw [sealN, openN_box (tagN_length _ _ _ _), if_pos rfl]
/-- A constant's bytes: the row is marked behind its last cell. -/
theorem Bytes.newM {W : World} {t : TypeId} {cs : Array Value} {fr : Nat × Nat} {g n : Nat} (l : List Nat) (hcs : cs = (l.map fun x : Nat => Value.int .u8 x).toArray) (hg : g = W.heap.size) (hn : n = l.length) (hl : l.length ≤ 9223372036854775807) (hb : (l.all fun x => decide (x < 256)) = true) :
    Bytes (W.alloc (.cells cs t fr)) (some ⟨g, 0, none⟩) n n l := by
  subst hg; subst hn
  refine ⟨RowK.of_at hl (fun i hi => ?_), rfl, Nat.le_refl _, fun x hx => by simpa using List.all_eq_true.1 hb x hx⟩
  rw [add_plain, World.cell?_alloc_mark, hcs]
  simp [hi]
theorem lit_ok' (l : List Nat) (h : (l.all fun x => decide (x < 256)) = true) : BytesOK l := fun x hx => by simpa using List.all_eq_true.1 h x hx
end Go.Proofs.YtlgdplodglchaaaDoor
/- The walk through redanlaw22.awake. -/
set_option linter.unusedVariables false
set_option linter.unusedSimpArgs false
namespace Go.Proofs.YtlgdplodglchaaaDoor
open Go.RowKit Go.Proofs.YtlgdplodglchaaaDoorW.PrintWords Go.Proofs.YtlgdplodglchaaaDoorW.PrintLast Go.Proofs.YtlgdplodglchaaaDoorW.PrintMore
theorem ne_types {w : World} {a b t1 t2 : Nat} {c1 c2 : Array Value} {f1 f2 : Nat × Nat} (h1 : w.heap[a]? = some (.cells c1 t1 f1)) (h2 : w.heap[b]? = some (.cells c2 t2 f2)) (hne : t1 ≠ t2) : a ≠ b := fun e => by
  subst e
  rw [h1] at h2
  injection h2 with h2
  injection h2 with _ h2 _
  exact hne h2
end Go.Proofs.YtlgdplodglchaaaDoor
/- Rules as an argument: a struct of seven whole numbers, by value. -/
set_option linter.unusedVariables false
namespace Go.Proofs.YtlgdplodglchaaaDoor
open Go.ChangeShapes Go.WideShapes Go.Deep Go.RowKit
def Rul.all (r : Rul) : Prop := r.r0 < 2 ^ 64 ∧ r.r1 < 2 ^ 64 ∧ (-9223372036854775808 ≤ r.r2 ∧ r.r2 ≤ 9223372036854775807) ∧ r.r3 < 2 ^ 64 ∧ r.r4 < 2 ^ 64 ∧ r.r5 < 2 ^ 64 ∧ r.r6 < 2 ^ 64
end Go.Proofs.YtlgdplodglchaaaDoor
/- The walks through redanref09.fill and Tag. -/
set_option linter.unusedVariables false
set_option linter.unusedSimpArgs false
namespace Go.Proofs.YtlgdplodglchaaaDoor
open Go.RowKit Go.Proofs.YtlgdplodglchaaaDoorW.PrintWords Go.Proofs.YtlgdplodglchaaaDoorW.PrintLast Go.Proofs.YtlgdplodglchaaaDoorW.PrintMore
/-- A slice's length. -/
def lenOf' : Value → Nat
  | .slice _ n _ => n
  | _ => 0
theorem pad_more (n m : Nat) (h1 : n ≤ m) (h2 : m < n + padN n) : m % 16 ≠ 0 := by
  unfold padN at h2
  omega
theorem pad_end (n : Nat) : (n + padN n) % 16 = 0 := by
  unfold padN
  omega
set_option maxHeartbeats 1000000 in
set_option maxRecDepth 100000 in
theorem fill_calls {A : Option Addr} {n c : Nat} {b : List Nat} {w : World} (hb : Bytes w A n c b) (hn : n ≤ 100000000) :
    Calls Tryd.prog 104 #[.slice A n c] w fun e w' => ∃ v, e = .returned v ∧ OwnK .u8 5 w.heap.size w' v (fillP b) ∧ Below w.heap.size w w' := by
  have HB := hd hb
  have HL := hd hb.2.1
  have hp := padN_lt n
  have hrow := hb.1
  clear hb
  go_enter Tryd.func104, Tryd.ntmps104
  go_wp2_with ((with_reducible refine gate_dst (N := 6) rfl ?_); at_builtin; refine op_append_row (k := .u8) (w0 := w) 6 rfl w.heap.size 5 40 _ _ rfl rfl Tryd.underlying40 Tryd.infoU8 (by decide) _ [] b _ _ _ rfl rfl HL.out.symm (OwnK.nil _ _ _ _) hrow (Below.refl _ _) (Nat.le_refl _) (by have := HL.out; simp; omega) ?_; intro v1 w1 ho1 hb1 hg1; rw [List.nil_append] at ho1)
  obtain ⟨A1, c1, rfl, _, _⟩ := ho1.slice
  rw [HL.out] at ho1 ⊢
  go_loopw [3] (fun v wr => ∃ (m : Nat) (A2 : Option Addr) (c2 : Nat), n ≤ m ∧ m ≤ n + padN n ∧ v = .slice A2 m c2 ∧ OwnK .u8 5 w.heap.size wr (.slice A2 m c2) (b ++ List.replicate (m - n) 0) ∧ Below w.heap.size w wr) (fun v _ => n + padN n - lenOf' v)
  case atStart => exact ⟨n, A1, c1, Nat.le_refl _, by omega, rfl, by rw [Nat.sub_self, List.replicate_zero, List.append_nil]; exact ho1, hb1⟩
  case round =>
    clear ho1 hb1 hg1
    obtain ⟨m, A2, c2, hm1, hm2, rfl, ho, hbw⟩ := hrel
    have i1 : (m : Int) ≤ 100000016 := by omega
    have hs := hbw.size
    have HO := hd ho
    have hll := hd (show ((b ++ List.replicate (m - n) 0).length + 1) * 1 ≤ 140737488355328 by rw [List.length_append, HL.out, List.length_replicate]; omega)
    clear ho
    by_cases hlt : m < n + padN n
    · have hne := pad_more n m hm1 hlt
      have q1 : ((m : Int) % 16 != 0) = true := by simp; omega
      clear hne
      go_upto_region 4 with (fail)
      obtain ⟨vo, hvo⟩ : ∃ vo, vo = Value.slice A2 m c2 := ⟨_, rfl⟩
      rw [← hvo] at HO ⊢
      have HV := hd hvo
      clear hvo
      go_wp2_with ((with_reducible refine gate_dst (N := 13) rfl ?_); at_builtin; refine op_append (k := .u8) (w0 := w) 13 rfl w.heap.size 5 40 (.tmp 11) (.tmp 12) rfl rfl Tryd.underlying40 Tryd.infoU8 (by decide) _ (b ++ List.replicate (m - n) 0) (0 : Int) 0 rfl rfl rfl HO.out hbw hs hll.out ?_; intro v1 w1 ho1 hb1 hg1)
      obtain ⟨A3, c3, rfl, _, _⟩ := ho1.slice
      have hm3 : ((b ++ List.replicate (m - n) 0) ++ [0]).length = m + 1 := by rw [List.length_append, List.length_append, HL.out, List.length_replicate]; simp; omega
      have hm4 : (b ++ List.replicate (m - n) 0) ++ [0] = b ++ List.replicate (m + 1 - n) 0 := by rw [List.append_assoc, ← List.replicate_succ', show m + 1 - n = m - n + 1 by omega]
      rw [hm3] at ho1 ⊢
      rw [hm4] at ho1
      clear hm3 hm4
      go_roundw
      case rel => exact ⟨m + 1, A3, c3, by omega, by omega, rfl, ho1, hb1⟩
      case measure => simp [lenOf']; omega
    · obtain rfl : m = n + padN n := by omega
      have hne := pad_end n
      have q1 : (((n + padN n : Nat) : Int) % 16 != 0) = false := by simp; omega
      generalize hM : n + padN n = M at *
      have HM := hd hM
      clear hM hne
      go_wp2
      go_ret
      refine ⟨_, rfl, ?_, hbw⟩
      have h1 := HO.out
      rw [← HM.out, Nat.add_sub_cancel_left] at h1
      rw [fillP, HL.out, ← HM.out]
      exact h1
set_option maxHeartbeats 1000000 in
set_option maxRecDepth 100000 in
theorem reftag_calls {A B C D : Option Addr} {ca cb nc cc nd cd : Nat} {key nonce ad box : List Nat} {w : World} (hk : Bytes w A 32 ca key) (hn : Bytes w B 12 cb nonce) (ha : Bytes w C nc cc ad) (hb : Bytes w D nd cd box) (hna : nc ≤ 10000) (hnd : nd ≤ 10000) :
    Calls Tryd.prog 90 #[.slice A 32 ca, .slice B 12 cb, .slice C nc cc, .slice D nd cd] w fun e w' => ∃ v, e = .returned v ∧ OwnK .u8 5 w.heap.size w' v (tagN key nonce ad box) ∧ Below w.heap.size w w' := by
  have HA := hd ha
  have HD := hd hb
  have i1 : (nc : Int) ≤ 10000 := by omega
  have i2 : (nd : Int) ≤ 10000 := by omega
  have u1 := wrap_u64_small nc (by omega)
  have u2 := wrap_u64_small nd (by omega)
  have p1 := padN_lt nc
  have p2 := padN_lt nd
  clear ha hb
  go_enter Tryd.func90, Tryd.ntmps90
  go_wp2_with fail
  refine (fill_calls HA.out (by omega)).mono ?_
  rintro e w1 ⟨v1, rfl, ho1, hb1⟩
  go_wp2_with fail
  refine (fill_calls (HD.out.below hb1) (by omega)).mono ?_
  rintro e w2 ⟨v2, rfl, ho2, hb2⟩
  obtain ⟨A2, c2, rfl, hc2, hr2⟩ := ho2.slice
  have ho1' := ho1.below hb2
  have hb3 := below_seq hb1 hb2
  have hs3 := hb3.size
  have HL2 := hd (show ((fillP ad).length + (fillP box).length) * 1 ≤ 140737488355328 by rw [fillP_length, fillP_length, HA.out.2.1, HD.out.2.1]; omega)
  clear ho1 ho2 hb1 hb2
  go_wp2_with ((with_reducible refine gate_dst (N := 14) rfl ?_); at_builtin; refine op_append_row (k := .u8) (w0 := w) 14 rfl w.heap.size 5 40 _ _ rfl rfl Tryd.underlying40 Tryd.infoU8 (by decide) v1 (fillP ad) (fillP box) _ _ _ rfl rfl rfl ho1' hr2 hb3 hs3 HL2.out ?_; intro v4 w4 ho4 hb4 hg4)
  clear ho1' hr2 hb3 hs3 hg4 hc2
  have hs4 := hb4.size
  refine (refstore_calls nc 8 _ rfl (by omega)).mono ?_
  rintro e w5 ⟨v5, rfl, ho5, hb5⟩
  replace ho5 : OwnK .u8 5 _ w5 v5 (storeN nc 8) := ho5
  obtain ⟨A5, c5, rfl, h5⟩ := ho5.bytes 8 (storeN_length _ _) (storeN_ok _ _)
  have hr5 := h5.1
  have ho4' := ho4.below hb5
  have hb5' := below_seq hb4 hb5
  have hs5 := hb5'.size
  have HL5 := hd (show ((fillP ad ++ fillP box).length + (storeN nc 8).length) * 1 ≤ 140737488355328 by rw [List.length_append, fillP_length, fillP_length, HA.out.2.1, HD.out.2.1, storeN_length]; omega)
  clear ho4 ho5 hb4 hb5 h5 hs4
  go_wp2_with ((with_reducible refine gate_dst (N := 20) rfl ?_); at_builtin; refine op_append_row (k := .u8) (w0 := w) 20 rfl w.heap.size 5 40 _ _ rfl rfl Tryd.underlying40 Tryd.infoU8 (by decide) v4 (fillP ad ++ fillP box) (storeN nc 8) _ _ _ rfl rfl (storeN_length _ _).symm ho4' hr5 hb5' hs5 HL5.out ?_; intro v6 w6 ho6 hb6 hg6)
  clear ho4' hr5 hb5' hs5 hg6
  refine (refstore_calls nd 8 _ rfl (by omega)).mono ?_
  rintro e w7 ⟨v7, rfl, ho7, hb7⟩
  replace ho7 : OwnK .u8 5 _ w7 v7 (storeN nd 8) := ho7
  obtain ⟨A7, c7, rfl, h7⟩ := ho7.bytes 8 (storeN_length _ _) (storeN_ok _ _)
  have hr7 := h7.1
  have ho6' := ho6.below hb7
  have hb7' := below_seq hb6 hb7
  have hs7 := hb7'.size
  have HL7 := hd (show ((fillP ad ++ fillP box ++ storeN nc 8).length + (storeN nd 8).length) * 1 ≤ 140737488355328 by rw [List.length_append, List.length_append, fillP_length, fillP_length, HA.out.2.1, HD.out.2.1, storeN_length, storeN_length]; omega)
  clear ho6 ho7 hb6 hb7 h7
  go_wp2_with ((with_reducible refine gate_dst (N := 26) rfl ?_); at_builtin; refine op_append_row (k := .u8) (w0 := w) 26 rfl w.heap.size 5 40 _ _ rfl rfl Tryd.underlying40 Tryd.infoU8 (by decide) v6 (fillP ad ++ fillP box ++ storeN nc 8) (storeN nd 8) _ _ _ rfl rfl (storeN_length _ _).symm ho6' hr7 hb7' hs7 HL7.out ?_; intro v8 w8 ho8 hb8 hg8)
  clear ho6' hr7 hb7' hs7 hg8
  have hin : fillP ad ++ fillP box ++ storeN nc 8 ++ storeN nd 8 = tagIn ad box := by rw [tagIn, HA.out.2.1, HD.out.2.1, List.append_assoc (fillP ad ++ fillP box)]
  rw [hin] at ho8
  have HLT := hd (show (tagIn ad box).length ≤ 50000 by have h1 := tagIn_length ad box; rw [HA.out.2.1, HD.out.2.1] at h1; omega)
  obtain ⟨nt, HNT⟩ : ∃ nt, Aside0 ((tagIn ad box).length = nt) := ⟨_, ⟨rfl⟩⟩
  have hnt : nt ≤ 50000 := by have := HLT.out; rw [HNT.out] at this; exact this
  obtain ⟨A8, c8, rfl, h8⟩ := ho8.bytes nt HNT.out (tagIn_ok HA.out.ok HD.out.ok)
  clear hin ho8
  refine (refblock_calls 0 (hk.below hb8) (hn.below hb8) rfl (by decide)).mono ?_
  rintro e w9 ⟨v9, rfl, ho9, hb9⟩
  rw [show 0 % 2 ^ 32 = 0 from rfl] at ho9
  obtain ⟨A9, c9, rfl, h9⟩ := ho9.bytes 64 (blockN_length _ _ _) (blockN_ok _ _ _)
  have h32 := h9.take 32 (by decide)
  have hc9 := h9.2.2.1
  have i32 : (32 : Int) ≤ c9 := by omega
  have hb10 := below_seq hb8 hb9
  replace h8 := h8.below hb9
  clear ho9 h9 hb8 hb9
  go_wp2_with fail
  refine (refmac_calls h32 h8 hnt).mono ?_
  rintro e w11 ⟨v11, rfl, ho11, hb11⟩
  go_wp2
  go_ret
  exact ⟨v11, rfl, ho11.lower hb10.size, below_seq hb10 hb11⟩
set_option maxHeartbeats 1000000 in
set_option maxRecDepth 100000 in
theorem refseal_calls {A B C D : Option Addr} {ca cb nc cc nd cd : Nat} {key nonce ad text : List Nat} {w : World} (hk : Bytes w A 32 ca key) (hn : Bytes w B 12 cb nonce) (ha : Bytes w C nc cc ad) (hb : Bytes w D nd cd text) (hna : nc ≤ 10000) (hnd : nd ≤ 10000) :
    Calls Tryd.prog 72 #[.slice A 32 ca, .slice B 12 cb, .slice C nc cc, .slice D nd cd] w fun e w' => ∃ v, e = .returned (.tuple #[v, .int .i64 0]) ∧ OwnK .u8 5 w.heap.size w' v (sealN key nonce ad text) ∧ Below w.heap.size w w' := by
  go_enter Tryd.func72, Tryd.ntmps72
  go_wp2_with fail
  refine (refstream_calls 1 hk hn hb rfl (by decide) (by omega)).mono ?_
  rintro e w1 ⟨v1, rfl, ho1, hb1⟩
  obtain ⟨A1, c1, rfl, h1⟩ := ho1.bytes nd (by rw [stream_length, hb.2.1]) (stream_ok _ _ _ hb.ok)
  clear ho1
  go_wp2_with fail
  refine (reftag_calls (hk.below hb1) (hn.below hb1) (ha.below hb1) h1 hna hnd).mono ?_
  rintro e w2 ⟨v2, rfl, ho2, hb2⟩
  obtain ⟨A2, c2, rfl, h2⟩ := ho2.bytes 16 (tagN_length _ _ _ _) (tagN_ok _ _ _ _)
  have HB3 := hd (below_seq hb1 hb2)
  replace h1 := h1.below hb2
  clear ho2 hb1 hb2
  go_wp2_with fail
  refine (refjoin_calls h1 h2 (by omega)).mono ?_
  rintro e w3 ⟨v3, rfl, ho3, hb4⟩
  go_wp2
  go_ret2
  exact ⟨v3, rfl, OwnK.lower ho3 HB3.out.size, below_seq HB3.out hb4⟩
theorem refseal_none {A B C D : Option Addr} {na nb ca cb nc cc nd cd : Nat} (w : World) (h : na ≠ 32 ∨ nb ≠ 12) :
    Calls Tryd.prog 72 #[.slice A na ca, .slice B nb cb, .slice C nc cc, .slice D nd cd] w fun e w' => e = .returned (.tuple #[.slice none 0 0, .int .i64 1]) ∧ w = w' := by
  by_cases h1 : na = 32
  · have q1 : ((na : Int) != 32) = false := by simp; omega
    have q2 : ((nb : Int) != 12) = true := by simp; omega
    clear h h1
    go_enter Tryd.func72, Tryd.ntmps72
    go_wp2
    go_ret2
    exact ⟨rfl, rfl⟩
  · have q1 : ((na : Int) != 32) = true := by simp; omega
    clear h h1
    go_enter Tryd.func72, Tryd.ntmps72
    go_wp2
    go_ret2
    exact ⟨rfl, rfl⟩
end Go.Proofs.YtlgdplodglchaaaDoor
/- The walks through redanref22.Wait, Since, Due, Again; redanlaw22.rules. -/
set_option linter.unusedVariables false
set_option linter.unusedSimpArgs false
namespace Go.Proofs.YtlgdplodglchaaaDoor
open Go.RowKit Go.Proofs.YtlgdplodglchaaaDoorW.PrintWords Go.Proofs.YtlgdplodglchaaaDoorW.PrintLast Go.Proofs.YtlgdplodglchaaaDoorW.PrintMore
theorem resc_2 {P : Program} {fn : Func} {p u v : Tmp} {ty : TypeId} (h : fn.results = #[.cell p ty, .tmp u, .tmp v]) (tmps : Array Value) (w : World) (g : Nat) (t : TypeId) (cs : Array Value) (fr : Nat × Nat) (d : TypeDesc)
    (hp : tmps.getD p undef = .pointer (some ⟨g, 0, none⟩)) (hg : w.heap[g]? = some (.cells cs t fr))
    (hu : P.underlying ty = some d) (hd : (match d with | .struct _ | .array _ _ => true | _ => false) = true) (hi : (P.info? ty).map (·.size) = some cs.size) :
    (results fn tmps).run P w = .ok (.tuple #[.agg cs, tmps.getD u undef, tmps.getD v undef]) w := by
  have hp' : tmps[p]?.getD undef = .pointer (some ⟨g, 0, none⟩) := by simpa using hp
  simp [results, h, hp', asAddr, run_loadVar_row w g t ty cs fr d hg hu hd hi]
def Rul.a (r : Rul) : Array Value := #[.int .u64 (r.r0 : Int), .int .u64 (r.r1 : Int), .int .i64 r.r2, .int .u64 (r.r3 : Int), .int .u64 (r.r4 : Int), .int .u64 (r.r5 : Int), .int .u64 (r.r6 : Int)]
section
variable {w : World} {g now born last a b : Nat} {tries : Int} {r : Rul}
end
end Go.Proofs.YtlgdplodglchaaaDoor
