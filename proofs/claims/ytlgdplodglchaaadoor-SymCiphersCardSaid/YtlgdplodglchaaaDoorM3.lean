/- Merged texts. -/
import Derived.Test.YtlgdplodglchaaaDoorChaBlk
import Derived.Test.YtlgdplodglchaaaDoorGPlain
import Derived.Test.YtlgdplodglchaaaDoorGWords
import Derived.Test.YtlgdplodglchaaaDoorGLib
import Derived.Test.YtlgdplodglchaaaDoorPolMac
import Derived.Test.YtlgdplodglchaaaDoorRows
import Derived.Lib.LaidTab
import Derived.ProofKit
import Derived.OpenShut
/- The walk through chacha.Stream. -/
set_option linter.unusedVariables false
set_option linter.unusedSimpArgs false
namespace Go.Proofs.YtlgdplodglchaaaDoor
open Go.RowKit Go.Proofs.YtlgdplodglchaaaDoorW.PrintWords Go.Proofs.YtlgdplodglchaaaDoorW.PrintLast Go.Proofs.YtlgdplodglchaaaDoorW.PrintMore

attribute [local go_sem] max2_int min2_int max_two min_two max_three min_three
theorem stream_none {A B D : Option Addr} {na nb nd ca cb cd : Nat} {c : Int} (w : World) (h : na ≠ 32 ∨ nb ≠ 12) :
    Calls Tryd.prog 86 #[.slice A na ca, .int .u32 c, .slice B nb cb, .slice D nd cd] w fun e w' => e = .returned (.slice none 0 0) ∧ w = w' := by
  by_cases h1 : na = 32
  · have q1 : ((na : Int) != 32) = false := by simp; omega
    have q2 : ((nb : Int) != 12) = true := by simp; omega
    clear h h1
    go_enter Tryd.func86, Tryd.ntmps86
    go_wp2
    go_ret
    exact ⟨rfl, rfl⟩
  · have q1 : ((na : Int) != 32) = true := by simp; omega
    clear h h1
    go_enter Tryd.func86, Tryd.ntmps86
    go_wp2
    go_ret
    exact ⟨rfl, rfl⟩

set_option maxHeartbeats 4000000 in
set_option maxRecDepth 100000 in
theorem stream_calls {A B D : Option Addr} {ca cb nd cd : Nat} {key nonce b : List Nat} {ci : Int} (c : Nat) {w : World} (hk : Bytes w A 32 ca key) (hn : Bytes w B 12 cb nonce) (hbb : Bytes w D nd cd b) (hci : ci = (c : Int)) (hc : c < 2 ^ 32) (hpl : PlacesAt w) (hfit : nd ≤ 1000000000) :
    Calls Tryd.prog 86 #[.slice A 32 ca, .int .u32 ci, .slice B 12 cb, .slice D nd cd] w fun e w' => ∃ v, e = .returned v ∧ OwnK .u8 5 w.heap.size w' v (stream key c nonce b) ∧ Below w.heap.size w w' := by
  subst hci
  have hbl := hbb.2.1
  go_enter Tryd.func86, Tryd.ntmps86
  go_wp2_with fail
  go_loopw [1, 3, 9] (fun x y v wr => ∃ (d : Nat) (A2 : Option Addr) (r c2 : Nat), d + r = nd ∧ (r = 0 ∨ d % 64 = 0) ∧ (0 < r → x = .int .u32 (((c + d / 64) % 2 ^ 32 : Nat) : Int)) ∧ (∃ xi : Int, x = .int .u32 xi) ∧ y = .slice A2 r c2 ∧ Bytes w A2 r c2 (b.drop d) ∧ OwnK .u8 5 w.heap.size wr v (stream key c nonce (b.take d)) ∧ Below w.heap.size w wr) (fun _ y _ _ => match y with | .slice _ r _ => r | _ => 0)
  case atStart => exact ⟨0, D, nd, cd, by omega, Or.inr rfl, fun _ => by rw [Nat.zero_div, Nat.add_zero, Nat.mod_eq_of_lt hc], ⟨_, rfl⟩, rfl, hbb, OwnK.nil _ _ _ _, Below.refl _ _⟩
  case round =>
    obtain ⟨d, A2, r, c2, hd, hr64, hx, ⟨xi, rfl⟩, rfl, hr, ho, hb⟩ := hrel
    have hk2 := hk.below hb
    have hn2 := hn.below hb
    by_cases hlt : 0 < r
    · injection hx hlt with _ hx2
      subst hx2
      have hd64 : d % 64 = 0 := by omega
      obtain ⟨n, hnn⟩ : ∃ n, n = min r 64 := ⟨_, rfl⟩
      have hnle : n ≤ r := by omega
      have hn0 : 0 < n := by omega
      have hn64 : n ≤ 64 := by omega
      have hrc := hr.2.2.1
      have hnc : n ≤ c2 := by omega
      have hm : (if (64 : Int) < (r : Int) then (64 : Int) else (r : Int)) = (n : Int) := by split <;> omega
      have HNN : n = r ∨ n = 64 := by omega
      have hnr : r - n = 0 ∨ n = 64 := by omega
      obtain ⟨ct, HCT⟩ : ∃ ct, Aside0 ((c + d / 64) % 2 ^ 32 = ct) := ⟨_, ⟨rfl⟩⟩
      have hct : ct < 2 ^ 32 := by rw [← HCT.out]; exact Nat.mod_lt _ (by decide)
      rw [HCT.out]
      clear hx hnn
      go_wp2
      refine up_start [9] [(0, true), (1, true), (2, true), (3, true), (4, true), (5, true), (6, true), (7, false), (8, false), (9, false), (10, true)] (by kernel_rfl) rfl (by kernel_rfl) (by kernel_rfl) ?_
      have hkd := hk2.drew
      have hnd := hn2.drew
      have hod := ho.below (below_drew (Below.refl _ _))
      have hbd := hb.drew
      have hrd := (hr.below hb).drew
      have htd := (hrd.take n hnle)
      generalize wr.drew = w5 at hkd hnd hod hbd hrd htd ⊢
      clear ho hb hk2 hn2
      refine seq_pure (i := 0) (N := some 27) (v := ?_) (a' := ?_) rfl rfl (by rfl) (fun _ _ _ h => h) ?_ ?_ ?_
      rotate_left 2
      · intro w' hg
        go_simp
        with_reducible rfl
      · simp only [Act.put, List.setIfInBounds_toArray, List.set_cons_zero, List.set_cons_succ, i64_w, i32_w]
        rfl
      refine seq_pure (i := 1) (N := some 28) (v := ?_) (a' := ?_) rfl rfl (by rfl) (fun _ _ _ h => h) ?_ ?_ ?_
      rotate_left 2
      · intro w' hg
        go_simp
        with_reducible rfl
      · simp only [Act.put, List.setIfInBounds_toArray, List.set_cons_zero, List.set_cons_succ, i64_w, i32_w]
        rfl
      refine seq_pure (i := 2) (N := some 29) (v := ?_) (a' := ?_) rfl rfl (by rfl) (fun _ _ _ h => h) ?_ ?_ ?_
      rotate_left 2
      · intro w' hg
        go_simp
        with_reducible rfl
      · simp only [Act.put, List.setIfInBounds_toArray, List.set_cons_zero, List.set_cons_succ, i64_w, i32_w]
        rfl
      refine seq_pure (i := 3) (N := some 30) (v := ?_) (a' := ?_) rfl rfl (by rfl) (fun _ _ _ h => h) ?_ ?_ ?_
      rotate_left 2
      · intro w' hg
        go_simp
        with_reducible rfl
      · simp only [Act.put, List.setIfInBounds_toArray, List.set_cons_zero, List.set_cons_succ, i64_w, i32_w]
        rfl
      refine seq_pure (i := 4) (N := some 31) (v := ?_) (a' := ?_) rfl rfl (by rfl) (fun _ _ _ h => h) ?_ ?_ ?_
      rotate_left 2
      · intro w' hg
        go_simp
        with_reducible rfl
      · simp only [Act.put, List.setIfInBounds_toArray, List.set_cons_zero, List.set_cons_succ, i64_w, i32_w]
        rfl
      refine seq_pure (i := 5) (N := some 32) (v := ?_) (a' := ?_) rfl rfl (by rfl) (fun _ _ _ h => h) ?_ ?_ ?_
      rotate_left 2
      · intro w' hg
        go_simp
        with_reducible rfl
      · simp only [Act.put, List.setIfInBounds_toArray, List.set_cons_zero, List.set_cons_succ, i64_w, i32_w]
        rfl
      refine seq_pure (i := 6) (N := some 33) (v := ?_) (a' := ?_) rfl rfl (by rfl) (fun _ _ _ h => h) ?_ ?_ ?_
      rotate_left 2
      · intro w' hg
        go_simp
        with_reducible rfl
      · simp only [Act.put, List.setIfInBounds_toArray, List.set_cons_zero, List.set_cons_succ, i64_w, i32_w]
        rfl
      refine seq_call (i := 7) (N := some 34) rfl rfl Tryd.func100 (by kernel_rfl) rfl #[.slice A 32 ca, .int .u32 (ct : Int), .slice B 12 cb] (by rfl) rfl ?_ ?_
      · simp only [List.map_toArray, List.map_cons, List.map_nil]
        rfl
      refine (block_calls ct hkd hnd rfl hct (hpl.below hbd)).mono ?_
      rintro e w6 ⟨v, rfl, hv, hg6⟩
      obtain ⟨A6, c6, rfl, h6⟩ := hv.bytes 64 (blockN_length _ _ _) (blockN_ok _ _ _)
      replace hod := hod.below hg6
      replace htd := htd.below hg6
      replace hrd := hrd.below hg6
      replace hbd := below_seq hbd hg6
      refine ⟨_, rfl, fun _ => hg6, ?_⟩
      clear hv hg6
      refine seq_norm (a' := ?_) ?_ ?_
      rotate_left
      · show Act.put _ (some 34) _ = _
        simp only [Act.put, List.setIfInBounds_toArray, List.set_cons_zero, List.set_cons_succ, i64_w, i32_w]
        rfl
      refine seq_call (i := 8) (N := some 35) rfl rfl Tryd.func99 (by kernel_rfl) rfl #[.slice A2 n c2, .slice A6 64 c6] (by rfl) rfl ?_ ?_
      · simp only [List.map_toArray, List.map_cons, List.map_nil]
        rfl
      refine (xor_calls htd h6 (by omega)).mono ?_
      rintro e w7 ⟨v, rfl, hv, hg7⟩
      obtain ⟨A7, c7, rfl, h7⟩ := hv.bytes n (by rw [xorL_length, blockN_length, List.length_take, List.length_drop]; omega) (xorL_ok htd.ok h6.ok)
      replace hod := hod.below hg7
      replace hrd := hrd.below hg7
      replace hbd := below_seq hbd hg7
      refine ⟨_, rfl, fun _ => hg7, ?_⟩
      clear hv hg7
      refine seq_norm (a' := ?_) ?_ ?_
      rotate_left
      · show Act.put _ (some 35) _ = _
        simp only [Act.put, List.setIfInBounds_toArray, List.set_cons_zero, List.set_cons_succ, i64_w, i32_w]
        rfl
      refine seq_step rfl (fun K hK => ?_)
      refine op_append_row_step (k := .u8) (w0 := w) 36 (by rfl) w.heap.size 5 40 _ _ (by rfl) (by rfl) Tryd.underlying40 Tryd.infoU8 (by decide) u9 _ (xorL ((b.drop d).take n) (blockN key ct nonce)) A7 n c7 (by rfl) (by rfl) h7.2.1.symm hod h7.1 hbd hbd.size (by rw [stream_length, h7.2.1, List.length_take]; omega) ?_
      intro v1 w8 ho8 hb8 hg8
      refine hK _ _ (fun h => absurd (by decide) h) ?_
      clear hK K
      refine seq_norm (a' := ?_) ?_ ?_
      rotate_left
      · show Act.put _ (some 36) _ = _
        simp only [Act.put, List.setIfInBounds_toArray, List.set_cons_zero, List.set_cons_succ, i64_w, i32_w]
        rfl
      refine seq_pure (i := 10) (N := some 9) (v := ?_) (a' := ?_) rfl rfl (by rfl) (fun _ _ _ h => h) ?_ ?_ ?_
      rotate_left 2
      · intro w' hg
        go_simp
        with_reducible rfl
      · simp only [Act.put, List.setIfInBounds_toArray, List.set_cons_zero, List.set_cons_succ, i64_w, i32_w]
        rfl
      refine seq_done ?_
      have i1 : (n : Int) ≤ r := by omega
      have i2 : (0 : Int) ≤ n := by omega
      go_wp2
      go_roundw
      case rel =>
        refine ⟨d + n, _, r - n, _, by omega, by omega, ?_, ⟨_, rfl⟩, ?_, by rw [← List.drop_drop]; exact hr.drop n hnle, ?_, hb8⟩
        · intro hpos
          obtain rfl : n = 64 := by omega
          rw [show (c + (d + 64) / 64) % 2 ^ 32 = (ct + 1) % 2 ^ 32 by rw [← HCT.out]; omega]
          have e : ((ct : Int) + 1) % 4294967296 = (((ct + 1) % 2 ^ 32 : Nat) : Int) := by omega
          rw [e]
        · rfl
        · have e := stream_chunk key c (d / 64) n nonce b (by omega) hn64
          rw [show 64 * (d / 64) = d by omega, HCT.out] at e
          rw [e]
          exact ho8
      case measure => simp; omega
    · go_wp2
      go_ret
      obtain rfl : d = nd := by omega
      rw [List.take_of_length_le (by omega)] at ho
      exact ⟨_, rfl, ho, hb⟩

end Go.Proofs.YtlgdplodglchaaaDoor
/- Texts put together: PolAny PolRefC. -/
/- The contracts of poly's Mac and Clamp for keys of any length; rows that are filled. -/
set_option linter.unusedVariables false
set_option linter.unusedSimpArgs false
namespace Go.Proofs.YtlgdplodglchaaaDoor
open Go.RowKit Go.Proofs.YtlgdplodglchaaaDoorW.PrintWords Go.Proofs.YtlgdplodglchaaaDoorW.PrintLast Go.Proofs.YtlgdplodglchaaaDoorW.PrintMore

theorem OwnK.bytesOf {e base : Nat} {w : World} {A : Option Addr} {n c : Nat} {l : List Nat} (h : OwnK .u8 e base w (.slice A n c) l) (hb : BytesOK l) : Bytes w A n c l := ⟨h.row.2.2, h.row.1.symm, by rw [h.row.1]; exact h.row.2.1, hb⟩
theorem BytesOK.zeros (n : Nat) : BytesOK (List.replicate n 0) := fun x hx => by rw [(List.mem_replicate.1 hx).2]; decide
/-- A row that is filled from its beginning on. -/
def fillL (L : List Nat) (m : Nat) : List Nat := L.take m ++ List.replicate (L.length - m) 0
theorem fillL_zero (L : List Nat) : fillL L 0 = List.replicate L.length 0 := rfl
theorem fillL_all (L : List Nat) : fillL L L.length = L := by simp [fillL]
theorem fillL_step (L : List Nat) (m : Nat) (hm : m < L.length) : (fillL L m).set m (L.getD m 0) = fillL L (m + 1) := by
  unfold fillL
  have h1 : (L.take m).length = m := by rw [List.length_take]; omega
  rw [List.set_append_right _ _ (by omega), h1, Nat.sub_self, take_snoc L m 0 hm, List.append_assoc, show L.length - m = (L.length - (m + 1)) + 1 by omega, List.replicate_succ]
  rfl

end Go.Proofs.YtlgdplodglchaaaDoor
/- The walk through redanref08.Clamp. -/
set_option linter.unusedVariables false
set_option linter.unusedSimpArgs false
namespace Go.Proofs.YtlgdplodglchaaaDoor
open Go.RowKit Go.Proofs.YtlgdplodglchaaaDoorW.PrintWords Go.Proofs.YtlgdplodglchaaaDoorW.PrintLast Go.Proofs.YtlgdplodglchaaaDoorW.PrintMore

def ref1 (l : List Nat) : Nat → List Nat
  | 0 => l
  | k + 1 => (ref1 l k).set (3 + 4 * k) ((ref1 l k).getD (3 + 4 * k) 0 % 16)
def ref2 (l : List Nat) : Nat → List Nat
  | 0 => l
  | k + 1 => (ref2 l k).set (4 + 4 * k) ((ref2 l k).getD (4 + 4 * k) 0 / 4 * 4)
theorem BytesOK.set1 {l : List Nat} (h : BytesOK l) (i : Nat) {x : Nat} (hx : x < 256) : BytesOK (l.set i x) := fun y hy => by
  rcases List.mem_or_eq_of_mem_set hy with h1 | rfl
  · exact h y h1
  · exact hx
theorem ref1_ok {l : List Nat} (h : BytesOK l) (k : Nat) : BytesOK (ref1 l k) := by
  induction k with
  | zero => exact h
  | succ k ih => exact ih.set1 _ (by have := ih.getD (3 + 4 * k); omega)
theorem ref2_ok {l : List Nat} (h : BytesOK l) (k : Nat) : BytesOK (ref2 l k) := by
  induction k with
  | zero => exact h
  | succ k ih => exact ih.set1 _ (by have := ih.getD (4 + 4 * k); omega)
theorem ref_clamp (key : List Nat) (h : key.length = 32) : ref2 (ref1 (key.take 16) 4) 3 = clampL key := by
  unfold clampL
  have hl : (key.take 16).length = 16 := by rw [List.length_take, h]; rfl
  match key.take 16, hl with
  | [x0, x1, x2, x3, x4, x5, x6, x7, x8, x9, x10, x11, x12, x13, x14, x15], _ => simp [ref1, ref2, clampB, List.mapIdx, List.mapIdx.go]
set_option maxHeartbeats 1000000 in
set_option maxRecDepth 100000 in
theorem refclamp_calls {A : Option Addr} {ca : Nat} {key : List Nat} {w : World} (hk : Bytes w A 32 ca key) :
    Calls Tryd.prog 120 #[.slice A 32 ca] w fun e w' => ∃ v, e = .returned v ∧ OwnK .u8 5 w.heap.size w' v (clampL key) ∧ Below w.heap.size w w' := by
  have hcc := hk.2.2.1
  have h16 := hk.take 16 (by decide)
  have i16 : (16 : Int) ≤ ca := by omega
  have HKL := hd hk.2.1
  have HKB := hd hk.ok
  have H16 := hd h16
  clear hk h16
  go_enter Tryd.func120, Tryd.ntmps120
  go_wp2_with ((with_reducible refine gate_dst (N := 12) rfl ?_); at_builtin; refine op_append_row (k := .u8) (w0 := w) 12 rfl w.heap.size 5 40 _ _ rfl rfl Tryd.underlying40 Tryd.infoU8 (by decide) (.slice none 0 0) [] (key.take 16) A 16 ca rfl rfl H16.out.2.1.symm (OwnK.nil _ _ _ _) H16.out.1 (Below.refl _ _) (Nat.le_refl _) (by rw [H16.out.2.1]; decide) ?_; intro v1 w1 ho1 hb1 hg1)
  rw [List.nil_append] at ho1
  obtain ⟨gv, cv, rfl, hgv, _, hcv⟩ := ho1.form (by rw [H16.out.2.1]; decide)
  rw [H16.out.2.1] at ho1 ⊢
  go_loopw [4] (fun i wr => ∃ k : Nat, k ≤ 4 ∧ i = .int .i64 (3 + 4 * k : Nat) ∧ OwnK .u8 5 w.heap.size wr (.slice (some ⟨gv, 0, none⟩) 16 cv) (ref1 (key.take 16) k) ∧ Below w.heap.size w wr) (fun i _ => 19 - (intOf i).toNat)
  case atStart => exact ⟨0, by omega, rfl, ho1, hb1⟩
  case round =>
    clear ho1 hb1 hg1
    obtain ⟨k, hk4, rfl, ho, hb⟩ := hrel
    by_cases hlt : k < 4
    · obtain ⟨p, HP⟩ : ∃ p, Aside0 (3 + 4 * k = p) := ⟨_, ⟨rfl⟩⟩
      have hp16 : p < 16 := by have := HP.out; omega
      rw [HP.out]
      have i0 : (0 : Int) ≤ p := by omega
      have i1 : (p : Int) < 16 := by omega
      obtain ⟨y, HY, hcell, hfr⟩ := ho.cellx p hp16
      have q1 : (y : Int).tmod 16 = ((y % 16 : Nat) : Int) := by rw [Int.tmod_eq_emod_of_nonneg (by omega)]; omega
      obtain ⟨z, HZ⟩ : ∃ z, Aside0 (y % 16 = z) := ⟨_, ⟨rfl⟩⟩
      rw [HZ.out] at q1
      have hput := hd (ho.put p z)
      clear ho
      go_wp2
      go_roundw
      case rel =>
        refine ⟨k + 1, by omega, by rw [show 3 + 4 * (k + 1) = p + 4 by have := HP.out; omega]; go_num, ?_, hb.setCell hgv _⟩
        rw [ref1, HP.out, HY.out, HZ.out]
        exact hput.out
      case measure => simp [intOf]; omega
    · obtain rfl : k = 4 := by omega
      go_wp2
      go_loopw [5] (fun i wr => ∃ k : Nat, k ≤ 3 ∧ i = .int .i64 (4 + 4 * k : Nat) ∧ OwnK .u8 5 w.heap.size wr (.slice (some ⟨gv, 0, none⟩) 16 cv) (ref2 (ref1 (key.take 16) 4) k) ∧ Below w.heap.size w wr) (fun i _ => 19 - (intOf i).toNat)
      case atStart => exact ⟨0, by omega, rfl, ho, hb⟩
      case round =>
        clear ho hb
        obtain ⟨k, hk4, rfl, ho, hb⟩ := hrel
        by_cases hlt : k < 3
        · obtain ⟨p, HP⟩ : ∃ p, Aside0 (4 + 4 * k = p) := ⟨_, ⟨rfl⟩⟩
          have hp16 : p < 16 := by have := HP.out; omega
          rw [HP.out]
          have i0 : (0 : Int) ≤ p := by omega
          have i1 : (p : Int) < 16 := by omega
          obtain ⟨y, HY, hcell, hfr⟩ := ho.cellx p hp16
          have hy : y < 256 := by
            rw [← HY.out]
            exact (ref2_ok (ref1_ok (HKB.out.take 16) 4) k).getD p
          obtain ⟨z, HZ⟩ : ∃ z, Aside0 (y / 4 = z) := ⟨_, ⟨rfl⟩⟩
          have q1 : (y : Int).tdiv 4 = (z : Int) := by rw [Int.tdiv_eq_ediv_of_nonneg (by omega)]; have := HZ.out; omega
          have q2 : (y : Int) / 4 = (z : Int) := by have := HZ.out; omega
          obtain ⟨u, HU⟩ : ∃ u, Aside0 (z * 4 = u) := ⟨_, ⟨rfl⟩⟩
          have q3 : IntKind.u8.wrap ((z : Int) * 4) = (u : Int) := by
            have h1 := wrapN_u (k := .u8) (n := u) rfl (by show u < 2 ^ 8; have := HU.out; have := HZ.out; omega)
            rw [show (z : Int) * 4 = (u : Int) by have := HU.out; omega]
            exact h1
          have hput := hd (ho.put p u)
          clear ho
          go_wp2
          go_roundw
          case rel =>
            refine ⟨k + 1, by omega, by rw [show 4 + 4 * (k + 1) = p + 4 by have := HP.out; omega]; go_num, ?_, hb.setCell hgv _⟩
            rw [ref2, HP.out, HY.out, HZ.out, HU.out]
            exact hput.out
          case measure => simp [intOf]; omega
        · obtain rfl : k = 3 := by omega
          go_wp2
          go_ret
          rw [ref_clamp key HKL.out] at ho
          exact ⟨_, rfl, ho, hb⟩

end Go.Proofs.YtlgdplodglchaaaDoor
/- What the condition 'laid' gives: the variable's cells. -/
set_option linter.unusedVariables false
namespace Go.Proofs.YtlgdplodglchaaaDoor
open Go.RowKit

theorem chunks_eq {α : Type} : ∀ (L : List (List α)) (l : List α), l.length = 4 * L.length → (∀ i c, L[i]? = some c → (l.drop (i * 4)).take 4 = c) → l = L.flatten
  | [], l, hl, _ => by
    have : l.length = 0 := by simpa using hl
    simpa using this
  | c :: L, l, hl, h => by
    have h0 := h 0 c rfl
    have h1 := chunks_eq L (l.drop 4) (by rw [List.length_drop, hl, List.length_cons]; omega) (fun i d hd => by
      have := h (i + 1) d (by simpa using hd)
      rw [List.drop_drop]
      rw [show 4 + i * 4 = (i + 1) * 4 by omega]
      exact this)
    rw [List.flatten_cons, ← h1, ← h0, Nat.zero_mul, List.drop_zero, List.take_append_drop]
theorem plGlobal : Tryd.prog.globalNamed "redan/chacha.places" = some 0 := by kernel_rfl
theorem plType : (Tryd.prog.globals[0]?).map (·.type) = some 166 := by kernel_rfl
theorem plUnder : Tryd.prog.underlying 166 = some (.array 8 165) := by kernel_rfl
theorem plUnder4 : Tryd.prog.underlying 165 = some (.array 4 3) := by kernel_rfl
theorem plUnderI : Tryd.prog.underlying 3 = some (.int .i64) := by kernel_rfl
theorem plCells : Tryd.prog.cellsOf 166 = 32 := by kernel_rfl
theorem plCells4 : Tryd.prog.cellsOf 165 = 4 := by kernel_rfl
theorem plCells1 : Tryd.prog.cellsOf 3 = 1 := by kernel_rfl
def placesZ : List (List Int) := [[0, 4, 8, 12], [1, 5, 9, 13], [2, 6, 10, 14], [3, 7, 11, 15], [0, 5, 10, 15], [1, 6, 11, 12], [2, 7, 8, 13], [3, 4, 9, 14]]
theorem places_of_laid {W : World} (h : laidMet Tryd.prog [("redan/chacha.places", Rows.laid_redan_chacha_places)] W) : W.var? Tryd.prog "redan/chacha.places" = some placesCells := by
  obtain ⟨ps, ⟨g, t, cs, fuel, p, q, hg, ht, hvar, hd, _, _⟩, _⟩ := h
  obtain rfl := Option.some.inj (plGlobal.symm.trans hg)
  obtain rfl := Option.some.inj (plType.symm.trans ht)
  rw [hvar]
  congr 1
  obtain ⟨xs, m, rfl, hx, hl, hxl, hall⟩ := DataW.trod_array plUnder hd
  rw [plCells] at hl
  rw [plCells4] at hall
  have hx1 : xs.map (·.1) = placesZ.map fun zs => Lib.tabData .i64 zs := by
    have h1 := congrArg Prod.fst hx
    unfold Rows.laid_redan_chacha_places at h1
    simp only [DataW.agg.injEq] at h1
    rw [← h1]
    rfl
  have hcs : cs.toList = (placesZ.map fun zs => zs.map fun z => Value.int .i64 z).flatten := by
    refine chunks_eq _ _ (by rw [hl]; rfl) (fun i c hc => ?_)
    rw [List.getElem?_map] at hc
    obtain ⟨zs, hz, rfl⟩ := Option.map_eq_some_iff.1 hc
    have hi : i < 8 := (List.getElem?_eq_some_iff.1 hz).1
    have h2 := hall i hi
    have h3 : (xs.map (·.1))[i]? = some (Lib.tabData .i64 zs) := by rw [hx1, List.getElem?_map, hz]; rfl
    rw [List.getElem?_map] at h3
    obtain ⟨b, hb, hb1⟩ := Option.map_eq_some_iff.1 h3
    obtain ⟨d, pp⟩ := b
    simp only at hb1
    subst hb1
    rw [hb] at h2
    exact Lib.cells_of_tab plUnder4 plUnderI plCells1 plCells4 h2
  have e : cs = cs.toList.toArray := by simp
  rw [e, hcs]
  rfl
theorem placesAt_of_laid {W : World} (h : laidMet Tryd.prog [("redan/chacha.places", Rows.laid_redan_chacha_places)] W) : PlacesAt W := by
  have h1 := places_of_laid h
  unfold World.var? at h1
  rw [plGlobal] at h1
  simp only [Option.bind_some] at h1
  split at h1
  · rename_i cs t fr hb
    injection h1 with h1
    subst h1
    exact ⟨t, fr, hb⟩
  · cases h1
end Go.Proofs.YtlgdplodglchaaaDoor
