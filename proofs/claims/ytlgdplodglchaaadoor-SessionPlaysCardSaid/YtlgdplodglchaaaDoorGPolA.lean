/- Texts put together: PolAny PolRefC. -/
import Derived.Test.YtlgdplodglchaaaDoorPolMac
/- The contracts of poly's Mac and Clamp for keys of any length; rows that are filled. -/
set_option linter.unusedVariables false
set_option linter.unusedSimpArgs false
namespace Go.Proofs.YtlgdplodglchaaaDoor
open Go.RowKit Go.Proofs.YtlgdplodglchaaaDoorW.PrintWords Go.Proofs.YtlgdplodglchaaaDoorW.PrintLast Go.Proofs.YtlgdplodglchaaaDoorW.PrintMore

theorem OwnK.bytesOf {e base : Nat} {w : World} {A : Option Addr} {n c : Nat} {l : List Nat} (h : OwnK .u8 e base w (.slice A n c) l) (hb : BytesOK l) : Bytes w A n c l := ⟨h.row.2.2, h.row.1.symm, by rw [h.row.1]; exact h.row.2.1, hb⟩
theorem BytesOK.zeros (n : Nat) : BytesOK (List.replicate n 0) := fun x hx => by rw [(List.mem_replicate.1 hx).2]; decide
def macF (key b : List Nat) : List Nat := if key.length = 32 then macL key b else []
def clampF (key : List Nat) : List Nat := if key.length = 32 then clampL key else []
/-- A row that is filled from its beginning on. -/
def fillL (L : List Nat) (m : Nat) : List Nat := L.take m ++ List.replicate (L.length - m) 0
theorem fillL_zero (L : List Nat) : fillL L 0 = List.replicate L.length 0 := rfl
theorem fillL_all (L : List Nat) : fillL L L.length = L := by simp [fillL]
theorem fillL_step (L : List Nat) (m : Nat) (hm : m < L.length) : (fillL L m).set m (L.getD m 0) = fillL L (m + 1) := by
  unfold fillL
  have h1 : (L.take m).length = m := by rw [List.length_take]; omega
  rw [List.set_append_right _ _ (by omega), h1, Nat.sub_self, take_snoc L m 0 hm, List.append_assoc, show L.length - m = (L.length - (m + 1)) + 1 by omega, List.replicate_succ]
  rfl

end Go.Proofs.YtlgdplodglchaaaDoor
/- The walk through redanref08.Clamp. -/
set_option linter.unusedVariables false
set_option linter.unusedSimpArgs false
namespace Go.Proofs.YtlgdplodglchaaaDoor
open Go.RowKit Go.Proofs.YtlgdplodglchaaaDoorW.PrintWords Go.Proofs.YtlgdplodglchaaaDoorW.PrintLast Go.Proofs.YtlgdplodglchaaaDoorW.PrintMore

def ref1 (l : List Nat) : Nat → List Nat
  | 0 => l
  | k + 1 => (ref1 l k).set (3 + 4 * k) ((ref1 l k).getD (3 + 4 * k) 0 % 16)
def ref2 (l : List Nat) : Nat → List Nat
  | 0 => l
  | k + 1 => (ref2 l k).set (4 + 4 * k) ((ref2 l k).getD (4 + 4 * k) 0 / 4 * 4)
theorem BytesOK.set1 {l : List Nat} (h : BytesOK l) (i : Nat) {x : Nat} (hx : x < 256) : BytesOK (l.set i x) := fun y hy => by
  rcases List.mem_or_eq_of_mem_set hy with h1 | rfl
  · exact h y h1
  · exact hx
theorem ref1_ok {l : List Nat} (h : BytesOK l) (k : Nat) : BytesOK (ref1 l k) := by
  induction k with
  | zero => exact h
  | succ k ih => exact ih.set1 _ (by have := ih.getD (3 + 4 * k); omega)
theorem ref2_ok {l : List Nat} (h : BytesOK l) (k : Nat) : BytesOK (ref2 l k) := by
  induction k with
  | zero => exact h
  | succ k ih => exact ih.set1 _ (by have := ih.getD (4 + 4 * k); omega)
theorem ref_clamp (key : List Nat) (h : key.length = 32) : ref2 (ref1 (key.take 16) 4) 3 = clampL key := by
  unfold clampL
  have hl : (key.take 16).length = 16 := by rw [List.length_take, h]; rfl
  match key.take 16, hl with
  | [x0, x1, x2, x3, x4, x5, x6, x7, x8, x9, x10, x11, x12, x13, x14, x15], _ => simp [ref1, ref2, clampB, List.mapIdx, List.mapIdx.go]
set_option maxHeartbeats 1000000 in
set_option maxRecDepth 100000 in
theorem refclamp_calls {A : Option Addr} {ca : Nat} {key : List Nat} {w : World} (hk : Bytes w A 32 ca key) :
    Calls Tryd.prog 120 #[.slice A 32 ca] w fun e w' => ∃ v, e = .returned v ∧ OwnK .u8 5 w.heap.size w' v (clampL key) ∧ Below w.heap.size w w' := by
  have hcc := hk.2.2.1
  have h16 := hk.take 16 (by decide)
  have i16 : (16 : Int) ≤ ca := by omega
  have HKL := hd hk.2.1
  have HKB := hd hk.ok
  have H16 := hd h16
  clear hk h16
  go_enter Tryd.func120, Tryd.ntmps120
  go_wp2_with ((with_reducible refine gate_dst (N := 12) rfl ?_); at_builtin; refine op_append_row (k := .u8) (w0 := w) 12 rfl w.heap.size 5 40 _ _ rfl rfl Tryd.underlying40 Tryd.infoU8 (by decide) (.slice none 0 0) [] (key.take 16) A 16 ca rfl rfl H16.out.2.1.symm (OwnK.nil _ _ _ _) H16.out.1 (Below.refl _ _) (Nat.le_refl _) (by rw [H16.out.2.1]; decide) ?_; intro v1 w1 ho1 hb1 hg1)
  rw [List.nil_append] at ho1
  obtain ⟨gv, cv, rfl, hgv, _, hcv⟩ := ho1.form (by rw [H16.out.2.1]; decide)
  rw [H16.out.2.1] at ho1 ⊢
  go_loopw [4] (fun i wr => ∃ k : Nat, k ≤ 4 ∧ i = .int .i64 (3 + 4 * k : Nat) ∧ OwnK .u8 5 w.heap.size wr (.slice (some ⟨gv, 0, none⟩) 16 cv) (ref1 (key.take 16) k) ∧ Below w.heap.size w wr) (fun i _ => 19 - (intOf i).toNat)
  case atStart => exact ⟨0, by omega, rfl, ho1, hb1⟩
  case round =>
    clear ho1 hb1 hg1
    obtain ⟨k, hk4, rfl, ho, hb⟩ := hrel
    by_cases hlt : k < 4
    · obtain ⟨p, HP⟩ : ∃ p, Aside0 (3 + 4 * k = p) := ⟨_, ⟨rfl⟩⟩
      have hp16 : p < 16 := by have := HP.out; omega
      rw [HP.out]
      have i0 : (0 : Int) ≤ p := by omega
      have i1 : (p : Int) < 16 := by omega
      obtain ⟨y, HY, hcell, hfr⟩ := ho.cellx p hp16
      have q1 : (y : Int).tmod 16 = ((y % 16 : Nat) : Int) := by rw [Int.tmod_eq_emod_of_nonneg (by omega)]; omega
      obtain ⟨z, HZ⟩ : ∃ z, Aside0 (y % 16 = z) := ⟨_, ⟨rfl⟩⟩
      rw [HZ.out] at q1
      have hput := hd (ho.put p z)
      clear ho
      go_wp2
      go_roundw
      case rel =>
        refine ⟨k + 1, by omega, by rw [show 3 + 4 * (k + 1) = p + 4 by have := HP.out; omega]; go_num, ?_, hb.setCell hgv _⟩
        rw [ref1, HP.out, HY.out, HZ.out]
        exact hput.out
      case measure => simp [intOf]; omega
    · obtain rfl : k = 4 := by omega
      go_wp2
      go_loopw [5] (fun i wr => ∃ k : Nat, k ≤ 3 ∧ i = .int .i64 (4 + 4 * k : Nat) ∧ OwnK .u8 5 w.heap.size wr (.slice (some ⟨gv, 0, none⟩) 16 cv) (ref2 (ref1 (key.take 16) 4) k) ∧ Below w.heap.size w wr) (fun i _ => 19 - (intOf i).toNat)
      case atStart => exact ⟨0, by omega, rfl, ho, hb⟩
      case round =>
        clear ho hb
        obtain ⟨k, hk4, rfl, ho, hb⟩ := hrel
        by_cases hlt : k < 3
        · obtain ⟨p, HP⟩ : ∃ p, Aside0 (4 + 4 * k = p) := ⟨_, ⟨rfl⟩⟩
          have hp16 : p < 16 := by have := HP.out; omega
          rw [HP.out]
          have i0 : (0 : Int) ≤ p := by omega
          have i1 : (p : Int) < 16 := by omega
          obtain ⟨y, HY, hcell, hfr⟩ := ho.cellx p hp16
          have hy : y < 256 := by
            rw [← HY.out]
            exact (ref2_ok (ref1_ok (HKB.out.take 16) 4) k).getD p
          obtain ⟨z, HZ⟩ : ∃ z, Aside0 (y / 4 = z) := ⟨_, ⟨rfl⟩⟩
          have q1 : (y : Int).tdiv 4 = (z : Int) := by rw [Int.tdiv_eq_ediv_of_nonneg (by omega)]; have := HZ.out; omega
          have q2 : (y : Int) / 4 = (z : Int) := by have := HZ.out; omega
          obtain ⟨u, HU⟩ : ∃ u, Aside0 (z * 4 = u) := ⟨_, ⟨rfl⟩⟩
          have q3 : IntKind.u8.wrap ((z : Int) * 4) = (u : Int) := by
            have h1 := wrapN_u (k := .u8) (n := u) rfl (by show u < 2 ^ 8; have := HU.out; have := HZ.out; omega)
            rw [show (z : Int) * 4 = (u : Int) by have := HU.out; omega]
            exact h1
          have hput := hd (ho.put p u)
          clear ho
          go_wp2
          go_roundw
          case rel =>
            refine ⟨k + 1, by omega, by rw [show 4 + 4 * (k + 1) = p + 4 by have := HP.out; omega]; go_num, ?_, hb.setCell hgv _⟩
            rw [ref2, HP.out, HY.out, HZ.out, HU.out]
            exact hput.out
          case measure => simp [intOf]; omega
        · obtain rfl : k = 3 := by omega
          go_wp2
          go_ret
          rw [ref_clamp key HKL.out] at ho
          exact ⟨_, rfl, ho, hb⟩

end Go.Proofs.YtlgdplodglchaaaDoor
