/- The walk through redanlaw08.awake. -/
import Derived.Test.YtkkhdjdoifnoaaaPolMac
set_option linter.unusedVariables false
set_option linter.unusedSimpArgs false
namespace Go.Proofs.Ytkkhdjdoifnoaaa
open Go.RowKit Go.Proofs.YtkkhdjdoifnoaaaW.PrintWords Go.Proofs.YtkkhdjdoifnoaaaW.PrintLast Go.Proofs.YtkkhdjdoifnoaaaW.PrintMore

theorem OwnK.bytesOf {e base : Nat} {w : World} {A : Option Addr} {n c : Nat} {l : List Nat} (h : OwnK .u8 e base w (.slice A n c) l) (hb : BytesOK l) : Bytes w A n c l := ⟨h.row.2.2, h.row.1.symm, by rw [h.row.1]; exact h.row.2.1, hb⟩
theorem BytesOK.zeros (n : Nat) : BytesOK (List.replicate n 0) := fun x hx => by rw [(List.mem_replicate.1 hx).2]; decide
def macF (key b : List Nat) : List Nat := if key.length = 32 then macL key b else []
def clampF (key : List Nat) : List Nat := if key.length = 32 then clampL key else []
theorem macF_ok (key b : List Nat) : BytesOK (macF key b) := by
  unfold macF
  split
  · exact macL_ok _ _
  · exact BytesOK.nil
theorem clampF_ok {key : List Nat} (h : BytesOK key) : BytesOK (clampF key) := by
  unfold clampF
  split
  · exact clampL_ok h
  · exact BytesOK.nil
theorem macF_le (key b : List Nat) : (macF key b).length ≤ 16 := by
  unfold macF
  split
  · rw [macL_length]; exact Nat.le_refl _
  · exact Nat.zero_le _
theorem clampF_le (key : List Nat) : (clampF key).length ≤ 16 := by
  unfold clampF
  split
  · rename_i h
    rw [clampL_length key h]; exact Nat.le_refl _
  · exact Nat.zero_le _
theorem mac_any {A B : Option Addr} {na ca nb cb : Nat} {key b : List Nat} {w : World} (hk : Bytes w A na ca key) (hb : Bytes w B nb cb b) (hfit : nb ≤ 1000000000) :
    Calls Try.prog 9 #[.slice A na ca, .slice B nb cb] w fun e w' => ∃ v, e = .returned v ∧ OwnK .u8 5 w.heap.size w' v (macF key b) ∧ Below w.heap.size w w' := by
  by_cases h : na = 32
  · subst h
    rw [macF, if_pos hk.2.1]
    exact mac_calls hk hb hfit
  · refine (mac_none w h).mono ?_
    rintro e w' ⟨rfl, rfl⟩
    rw [macF, if_neg (by rw [hk.2.1]; exact h)]
    exact ⟨_, rfl, OwnK.nil _ _ _ _, Below.refl _ _⟩
theorem clamp_any {A : Option Addr} {na ca : Nat} {key : List Nat} {w : World} (hk : Bytes w A na ca key) :
    Calls Try.prog 11 #[.slice A na ca] w fun e w' => ∃ v, e = .returned v ∧ OwnK .u8 5 w.heap.size w' v (clampF key) ∧ Below w.heap.size w w' := by
  by_cases h : na = 32
  · subst h
    rw [clampF, if_pos hk.2.1]
    exact clamp_calls hk
  · refine (clamp_none w h).mono ?_
    rintro e w' ⟨rfl, rfl⟩
    rw [clampF, if_neg (by rw [hk.2.1]; exact h)]
    exact ⟨_, rfl, OwnK.nil _ _ _ _, Below.refl _ _⟩
/-- A row that is filled from its beginning on. -/
def fillL (L : List Nat) (m : Nat) : List Nat := L.take m ++ List.replicate (L.length - m) 0
theorem fillL_length (L : List Nat) (m : Nat) (hm : m ≤ L.length) : (fillL L m).length = L.length := by
  unfold fillL
  rw [List.length_append, List.length_take, List.length_replicate]
  omega
theorem fillL_zero (L : List Nat) : fillL L 0 = List.replicate L.length 0 := rfl
theorem fillL_all (L : List Nat) : fillL L L.length = L := by simp [fillL]
theorem fillL_step (L : List Nat) (m : Nat) (hm : m < L.length) : (fillL L m).set m (L.getD m 0) = fillL L (m + 1) := by
  unfold fillL
  have h1 : (L.take m).length = m := by rw [List.length_take]; omega
  rw [List.set_append_right _ _ (by omega), h1, Nat.sub_self, take_snoc L m 0 hm, List.append_assoc, show L.length - m = (L.length - (m + 1)) + 1 by omega, List.replicate_succ]
  rfl
theorem aw_mac0 : macL (List.range 32) [] = (List.range 32).drop 16 := by kernel_rfl
theorem aw_clamp : (clampL (List.range 32)).getD 3 0 = 3 ∧ (clampL (List.range 32)).getD 4 0 = 4 := by
  constructor <;> kernel_rfl
theorem aw_mac1 : (macL ((List.replicate 32 0).set 0 1) [7]).getD 0 0 = 7 ∧ (macL ((List.replicate 32 0).set 0 1) [7]).getD 1 0 = 1 := by
  constructor <;> kernel_rfl
set_option maxHeartbeats 2000000 in
set_option maxRecDepth 100000 in
theorem awake_calls (w : World) : Calls Try.prog 8 #[] w fun e w' => e = .returned (.bool true) ∧ Below w.heap.size w w' := by
  go_enter Try.func8, Try.ntmps8
  go_wp2_with ((with_reducible refine gate_dst (N := 7) rfl ?_); refine op_make 7 rfl 5 22 _ _ rfl rfl 32 rfl rfl Try.underlying22 Try.infoU8 (by decide) 32 rfl (by decide) ?_; intro A1 c1 w1 hc1 ho1 hb1)
  obtain ⟨g1, rfl, hg1, _⟩ := ho1.at_ (by decide)
  go_loopw [2] (fun i wr => ∃ m : Nat, m ≤ 32 ∧ i = .int .i64 m ∧ OwnK .u8 5 w.heap.size wr (.slice (some ⟨g1, 0, none⟩) 32 c1) (fillL (List.range 32) m) ∧ Below w.heap.size w wr) (fun i _ => 32 - (intOf i).toNat)
  case atStart => exact ⟨0, by omega, rfl, ho1, hb1⟩
  case round =>
    clear ho1 hb1
    obtain ⟨m, hm, rfl, ho, hb⟩ := hrel
    by_cases hlt : m < 32
    · obtain ⟨y, HY, hcell, hfr⟩ := ho.cellx m hlt
      have i0 : (0 : Int) ≤ m := by omega
      have i1 : (m : Int) < 32 := by omega
      have hwr : IntKind.u8.wrap (m : Int) = (m : Int) := wrapN_u (k := .u8) rfl (show m < 2 ^ 8 by omega)
      have hput := hd (ho.put m m)
      clear ho
      go_wp2
      go_roundw
      case rel =>
        refine ⟨m + 1, by omega, by go_num, ?_, hb.setCell hg1 _⟩
        have e := fillL_step (List.range 32) m hlt
        rw [show (List.range 32).getD m 0 = m by simp [List.getD_eq_getElem?_getD, hlt]] at e
        rw [← e]
        exact hput.out
      case measure => simp [intOf]; omega
    · obtain rfl : m = 32 := by omega
      have hkb : BytesOK (List.range 32) := fun x hx => by have := List.mem_range.1 hx; omega
      have h1 := ho.bytesOf (by rw [show fillL (List.range 32) 32 = List.range 32 from fillL_all _]; exact hkb)
      rw [show fillL (List.range 32) 32 = List.range 32 from fillL_all _] at h1
      clear ho
      go_wp2_with fail
      refine (mac_calls h1 (Bytes.nil _ none 0) (by decide)).mono ?_
      rintro e w2 ⟨v2, rfl, ho2, hb2⟩
      rw [aw_mac0] at ho2
      obtain ⟨A2, c2, rfl, h2⟩ := ho2.bytes 16 rfl (hkb.drop 16)
      replace h1 := h1.below hb2
      replace hb := below_seq hb hb2
      clear ho2 hb2
      go_wp2_with fail
      refine (clamp_calls h1).mono ?_
      rintro e w3 ⟨v3, rfl, ho3, hb3⟩
      obtain ⟨A3, c3, rfl, h3⟩ := ho3.bytes 16 (clampL_length _ rfl) (clampL_ok hkb)
      obtain ⟨g3, rfl, _, _⟩ := ho3.at_ (by decide)
      replace h1 := h1.below hb3
      replace h2 := h2.below hb3
      replace hb := below_seq hb hb3
      clear ho3 hb3
      go_wp2_with ((with_reducible refine gate_dst (N := 21) rfl ?_); refine op_make 21 rfl 5 22 _ _ rfl rfl 32 rfl rfl Try.underlying22 Try.infoU8 (by decide) 32 rfl (by decide) ?_; intro A4 c4 w4 hc4 ho4 hb4; obtain ⟨g4, rfl, hg4, _⟩ := ho4.at_ (by decide); obtain ⟨y4, HY4, hcell4, hfr4⟩ := ho4.cellx 0 (by decide); have hput4 := hd (ho4.put 0 1); clear ho4)
      have hb5 := (hb4.setCell (p := ⟨g4, 0, none⟩) hg4 (.int .u8 1))
      have h5 := hput4.out.bytesOf (fun x hx => by rcases List.mem_or_eq_of_mem_set hx with h | rfl; exact BytesOK.zeros 32 x h; decide)
      have hal := below_alloc (Below.refl (w4.setCell ⟨g4, 0, none⟩ (.int .u8 1)).heap.size (w4.setCell ⟨g4, 0, none⟩ (.int .u8 1))) (.cells #[.int .u8 7] 5)
      have hone : Bytes ((w4.setCell ⟨g4, 0, none⟩ (.int .u8 1)).alloc (.cells #[.int .u8 7] 5)) (some ⟨w4.heap.size, 0, none⟩) 1 1 [7] := Bytes.new [7] rfl (World.size_setCell _ _ _).symm rfl (by decide) rfl
      replace h1 := (h1.below hb5).below hal
      replace h2 := (h2.below hb5).below hal
      replace h3 := (h3.below hb5).below hal
      replace h5 := h5.below hal
      replace hb := below_seq (below_seq hb hb5) hal
      clear hput4 hcell4 hfr4 HY4 hb4 hb5 hal
      generalize (w4.setCell ⟨g4, 0, none⟩ (.int .u8 1)).alloc (.cells #[.int .u8 7] 5) = w5 at h1 h2 h3 h5 hb hone ⊢
      refine (mac_calls h5 hone (by decide)).mono ?_
      rintro e w9 ⟨v6, rfl, ho6, hb6⟩
      obtain ⟨A6, c6, rfl, h6⟩ := ho6.bytes 16 (macL_length _ _) (macL_ok _ _)
      obtain ⟨g6, rfl, _, _⟩ := ho6.at_ (by decide)
      replace h1 := h1.below hb6
      replace h2 := h2.below hb6
      replace h3 := h3.below hb6
      replace hb := below_seq hb hb6
      clear ho6 hb6 h5 hone
      obtain ⟨a3, x3, e3, X3, d3⟩ := h3.1.at_ 3 (by rw [clampL_length _ rfl]; decide)
      obtain rfl := Option.some.inj e3
      obtain ⟨a3, x4, e3, X4, d4⟩ := h3.1.at_ 4 (by rw [clampL_length _ rfl]; decide)
      obtain rfl := Option.some.inj e3
      obtain ⟨a6, x5, e3, X5, d5⟩ := h6.1.at_ 0 (by rw [macL_length]; decide)
      obtain rfl := Option.some.inj e3
      obtain ⟨a6, x6, e3, X6, d6⟩ := h6.1.at_ 1 (by rw [macL_length]; decide)
      obtain rfl := Option.some.inj e3
      obtain rfl : x3 = 3 := X3.out.symm.trans aw_clamp.1
      obtain rfl : x4 = 4 := X4.out.symm.trans aw_clamp.2
      obtain rfl : x5 = 7 := X5.out.symm.trans aw_mac1.1
      obtain rfl : x6 = 1 := X6.out.symm.trans aw_mac1.2
      have hc1b := h1.2.2.1
      have n16 : (c1 = 16) = False := eq_false (by omega)
      replace h1 := h1.drop 16 (by decide)
      rw [if_neg (by omega)] at h1
      replace h1 : Bytes w9 (some ⟨g1, 16, none⟩) 16 (c1 - 16) ((List.range 32).drop 16) := h1
      generalize (List.range 32).drop 16 = L at h1 h2
      clear X3 X4 X5 X6 h3 h6
      go_wp2_with fail
      refine up_start [] [(0, true), (1, true), (2, true), (3, true), (4, true), (5, true), (6, true), (7, true), (8, true), (9, true), (10, true), (11, true), (12, true), (13, true), (14, true), (15, true), (16, true), (17, true), (18, true), (19, true), (20, true), (21, true), (22, true), (23, true), (24, true), (25, true), (26, true), (27, true), (28, true), (29, true), (30, true), (31, true), (32, true), (33, true), (34, true), (35, true), (36, true), (37, true), (38, true), (39, true), (40, true)] (by kernel_rfl) rfl (by kernel_rfl) (by kernel_rfl) ?_
      replace h1 := h1.drew
      replace h2 := h2.drew
      have s3 := h1.strs (P := Try.prog) Try.underlying22 Try.underlying5 Try.underlying9
      have s4 := h2.strs (P := Try.prog) Try.underlying22 Try.underlying5 Try.underlying9
      have e3 := Grow.cells (show w9.drew.cell? ⟨g3, 3, none⟩ = some (.int .u8 3) from d3)
      have e4 := Grow.cells (show w9.drew.cell? ⟨g3, 4, none⟩ = some (.int .u8 4) from d4)
      have e5 := Grow.cells (show w9.drew.cell? ⟨g6, 0, none⟩ = some (.int .u8 7) from d5)
      have e6 := Grow.cells (show w9.drew.cell? ⟨g6, 1, none⟩ = some (.int .u8 1) from d6)
      clear d3 d4 d5 d6 h1 h2
      replace hb := hb.drew
      generalize w9.drew = w10 at s3 s4 e3 e4 e5 e6 hb ⊢
      refine seq_pure (i := 0) (N := some 27) (v := ?_) (a' := ?_) rfl rfl (by rfl) (fun _ _ _ h => h) ?_ ?_ ?_
      rotate_left 2
      · intro w' hg
        go_simp
        with_reducible rfl
      · simp only [Act.put, List.setIfInBounds_toArray, List.set_cons_zero, List.set_cons_succ, i64_w, i32_w]
        rfl
      refine seq_pure (i := 1) (N := some 28) (v := ?_) (a' := ?_) rfl rfl (by rfl) (fun _ _ _ h => h) ?_ ?_ ?_
      rotate_left 2
      · intro w' hg
        go_simp
        with_reducible rfl
      · simp only [Act.put, List.setIfInBounds_toArray, List.set_cons_zero, List.set_cons_succ, i64_w, i32_w]
        rfl
      refine seq_pure (i := 2) (N := some 29) (v := ?_) (a' := ?_) rfl rfl (by rfl) (fun _ _ _ h => h) ?_ ?_ ?_
      rotate_left 2
      · intro w' hg
        go_simp
        with_reducible rfl
      · simp only [Act.put, List.setIfInBounds_toArray, List.set_cons_zero, List.set_cons_succ, i64_w, i32_w]
        rfl
      refine seq_pure (i := 3) (N := some 30) (v := ?_) (a' := ?_) rfl rfl (by rfl) (fun _ _ _ h => h) ?_ ?_ ?_
      rotate_left 2
      · intro w' hg
        go_simp
        with_reducible rfl
      · simp only [Act.put, List.setIfInBounds_toArray, List.set_cons_zero, List.set_cons_succ, i64_w, i32_w]
        rfl
      refine seq_pure (i := 4) (N := some 31) (v := ?_) (a' := ?_) rfl rfl (by rfl) (fun _ _ _ h => h) ?_ ?_ ?_
      rotate_left 2
      · intro w' hg
        go_simp
        with_reducible rfl
      · simp only [Act.put, List.setIfInBounds_toArray, List.set_cons_zero, List.set_cons_succ, i64_w, i32_w]
        rfl
      refine seq_pure (i := 5) (N := some 32) (v := ?_) (a' := ?_) rfl rfl (by rfl) (fun _ _ _ h => h) ?_ ?_ ?_
      rotate_left 2
      · intro w' hg
        go_simp
        with_reducible rfl
      · simp only [Act.put, List.setIfInBounds_toArray, List.set_cons_zero, List.set_cons_succ, i64_w, i32_w]
        rfl
      refine seq_pure (i := 6) (N := some 33) (v := ?_) (a' := ?_) rfl rfl (by rfl) (fun _ _ _ h => h) ?_ ?_ ?_
      rotate_left 2
      · intro w' hg
        go_simp
        with_reducible rfl
      · simp only [Act.put, List.setIfInBounds_toArray, List.set_cons_zero, List.set_cons_succ, i64_w, i32_w]
        rfl
      refine seq_pure (i := 7) (N := some 34) (v := ?_) (a' := ?_) rfl rfl (by rfl) (fun _ _ _ h => h) ?_ ?_ ?_
      rotate_left 2
      · intro w' hg
        go_simp
        with_reducible rfl
      · simp only [Act.put, List.setIfInBounds_toArray, List.set_cons_zero, List.set_cons_succ, i64_w, i32_w]
        rfl
      refine seq_pure (i := 8) (N := some 35) (v := ?_) (a' := ?_) rfl rfl (by rfl) (fun _ _ _ h => h) ?_ ?_ ?_
      rotate_left 2
      · intro w' hg
        go_simp
        with_reducible rfl
      · simp only [Act.put, List.setIfInBounds_toArray, List.set_cons_zero, List.set_cons_succ, i64_w, i32_w]
        rfl
      refine seq_pure (i := 9) (N := some 36) (v := ?_) (a' := ?_) rfl rfl (by rfl) (fun _ _ _ h => h) ?_ ?_ ?_
      rotate_left 2
      · intro w' hg
        go_simp
        with_reducible rfl
      · simp only [Act.put, List.setIfInBounds_toArray, List.set_cons_zero, List.set_cons_succ, i64_w, i32_w]
        rfl
      refine seq_pure (i := 10) (N := some 37) (v := ?_) (a' := ?_) rfl rfl (by rfl) (fun _ _ _ h => h) ?_ ?_ ?_
      rotate_left 2
      · intro w' hg
        go_simp
        with_reducible rfl
      · simp only [Act.put, List.setIfInBounds_toArray, List.set_cons_zero, List.set_cons_succ, i64_w, i32_w]
        rfl
      refine seq_pure (i := 11) (N := some 38) (v := ?_) (a' := ?_) rfl rfl (by rfl) (fun _ _ _ h => h) ?_ ?_ ?_
      rotate_left 2
      · intro w' hg
        go_simp
        with_reducible rfl
      · simp only [Act.put, List.setIfInBounds_toArray, List.set_cons_zero, List.set_cons_succ, i64_w, i32_w]
        rfl
      refine seq_pure (i := 12) (N := some 39) (v := ?_) (a' := ?_) rfl rfl (by rfl) (fun _ _ _ h => h) ?_ ?_ ?_
      rotate_left 2
      · intro w' hg
        go_simp
        with_reducible rfl
      · simp only [Act.put, List.setIfInBounds_toArray, List.set_cons_zero, List.set_cons_succ, i64_w, i32_w]
        rfl
      refine seq_pure (i := 13) (N := some 40) (v := ?_) (a' := ?_) rfl rfl (by rfl) (fun _ _ _ h => h) ?_ ?_ ?_
      rotate_left 2
      · intro w' hg
        go_simp
        with_reducible rfl
      · simp only [Act.put, List.setIfInBounds_toArray, List.set_cons_zero, List.set_cons_succ, i64_w, i32_w]
        rfl
      refine seq_pure (i := 14) (N := some 41) (v := ?_) (a' := ?_) rfl rfl (by rfl) (fun _ _ _ h => h) ?_ ?_ ?_
      rotate_left 2
      · intro w' hg
        go_simp
        with_reducible rfl
      · simp only [Act.put, List.setIfInBounds_toArray, List.set_cons_zero, List.set_cons_succ, i64_w, i32_w]
        rfl
      refine seq_pure (i := 15) (N := some 42) (v := ?_) (a' := ?_) rfl rfl (by rfl) (fun _ _ _ h => h) ?_ ?_ ?_
      rotate_left 2
      · intro w' hg
        go_simp
        with_reducible rfl
      · simp only [Act.put, List.setIfInBounds_toArray, List.set_cons_zero, List.set_cons_succ, i64_w, i32_w]
        rfl
      refine seq_pure (i := 16) (N := some 43) (v := ?_) (a' := ?_) rfl rfl (by rfl) (fun _ _ _ h => h) ?_ ?_ ?_
      rotate_left 2
      · intro w' hg
        go_simp
        with_reducible rfl
      · simp only [Act.put, List.setIfInBounds_toArray, List.set_cons_zero, List.set_cons_succ, i64_w, i32_w]
        rfl
      refine seq_pure (i := 17) (N := some 44) (v := ?_) (a' := ?_) rfl rfl (by rfl) (fun _ _ _ h => h) ?_ ?_ ?_
      rotate_left 2
      · intro w' hg
        go_simp
        with_reducible rfl
      · simp only [Act.put, List.setIfInBounds_toArray, List.set_cons_zero, List.set_cons_succ, i64_w, i32_w]
        rfl
      refine seq_pure (i := 18) (N := some 45) (v := ?_) (a' := ?_) rfl rfl (by rfl) (fun _ _ _ h => h) ?_ ?_ ?_
      rotate_left 2
      · intro w' hg
        go_simp
        with_reducible rfl
      · simp only [Act.put, List.setIfInBounds_toArray, List.set_cons_zero, List.set_cons_succ, i64_w, i32_w]
        rfl
      refine seq_pure (i := 19) (N := some 46) (v := ?_) (a' := ?_) rfl rfl (by rfl) (fun _ _ _ h => h) ?_ ?_ ?_
      rotate_left 2
      · intro w' hg
        go_simp
        with_reducible rfl
      · simp only [Act.put, List.setIfInBounds_toArray, List.set_cons_zero, List.set_cons_succ, i64_w, i32_w]
        rfl
      refine seq_pure (i := 20) (N := some 47) (v := ?_) (a' := ?_) rfl rfl (by rfl) (fun _ _ _ h => h) ?_ ?_ ?_
      rotate_left 2
      · intro w' hg
        go_simp
        with_reducible rfl
      · simp only [Act.put, List.setIfInBounds_toArray, List.set_cons_zero, List.set_cons_succ, i64_w, i32_w]
        rfl
      refine seq_pure (i := 21) (N := some 48) (v := ?_) (a' := ?_) rfl rfl (by rfl) (fun _ _ _ h => h) ?_ ?_ ?_
      rotate_left 2
      · intro w' hg
        go_simp
        with_reducible rfl
      · simp only [Act.put, List.setIfInBounds_toArray, List.set_cons_zero, List.set_cons_succ, i64_w, i32_w]
        rfl
      refine seq_pure (i := 22) (N := some 49) (v := ?_) (a' := ?_) rfl rfl (by rfl) (fun _ _ _ h => h) ?_ ?_ ?_
      rotate_left 2
      · intro w' hg
        go_simp
        with_reducible rfl
      · simp only [Act.put, List.setIfInBounds_toArray, List.set_cons_zero, List.set_cons_succ, i64_w, i32_w]
        rfl
      refine seq_pure (i := 23) (N := some 50) (v := ?_) (a' := ?_) rfl rfl (by rfl) (fun _ _ _ h => h) ?_ ?_ ?_
      rotate_left 2
      · intro w' hg
        go_simp
        with_reducible rfl
      · simp only [Act.put, List.setIfInBounds_toArray, List.set_cons_zero, List.set_cons_succ, i64_w, i32_w]
        rfl
      refine seq_pure (i := 24) (N := some 51) (v := ?_) (a' := ?_) rfl rfl (by rfl) (fun _ _ _ h => h) ?_ ?_ ?_
      rotate_left 2
      · intro w' hg
        go_simp
        with_reducible rfl
      · simp only [Act.put, List.setIfInBounds_toArray, List.set_cons_zero, List.set_cons_succ, i64_w, i32_w]
        rfl
      refine seq_pure (i := 25) (N := some 52) (v := ?_) (a' := ?_) rfl rfl (by rfl) (fun _ _ _ h => h) ?_ ?_ ?_
      rotate_left 2
      · intro w' hg
        go_simp
        with_reducible rfl
      · simp only [Act.put, List.setIfInBounds_toArray, List.set_cons_zero, List.set_cons_succ, i64_w, i32_w]
        rfl
      refine seq_pure (i := 26) (N := some 53) (v := ?_) (a' := ?_) rfl rfl (by rfl) (fun _ _ _ h => h) ?_ ?_ ?_
      rotate_left 2
      · intro w' hg
        go_simp
        with_reducible rfl
      · simp only [Act.put, List.setIfInBounds_toArray, List.set_cons_zero, List.set_cons_succ, i64_w, i32_w]
        rfl
      refine seq_pure (i := 27) (N := some 54) (v := ?_) (a' := ?_) rfl rfl (by rfl) (fun _ _ _ h => h) ?_ ?_ ?_
      rotate_left 2
      · intro w' hg
        go_simp
        with_reducible rfl
      · simp only [Act.put, List.setIfInBounds_toArray, List.set_cons_zero, List.set_cons_succ, i64_w, i32_w]
        rfl
      refine seq_pure (i := 28) (N := some 55) (v := ?_) (a' := ?_) rfl rfl (by rfl) (fun _ _ _ h => h) ?_ ?_ ?_
      rotate_left 2
      · intro w' hg
        go_simp
        with_reducible rfl
      · simp only [Act.put, List.setIfInBounds_toArray, List.set_cons_zero, List.set_cons_succ, i64_w, i32_w]
        rfl
      refine seq_pure (i := 29) (N := some 56) (v := ?_) (a' := ?_) rfl rfl (by rfl) (fun _ _ _ h => h) ?_ ?_ ?_
      rotate_left 2
      · intro w' hg
        go_simp
        with_reducible rfl
      · simp only [Act.put, List.setIfInBounds_toArray, List.set_cons_zero, List.set_cons_succ, i64_w, i32_w]
        rfl
      refine seq_pure (i := 30) (N := some 57) (v := ?_) (a' := ?_) rfl rfl (by rfl) (fun _ _ _ h => h) ?_ ?_ ?_
      rotate_left 2
      · intro w' hg
        go_simp
        with_reducible rfl
      · simp only [Act.put, List.setIfInBounds_toArray, List.set_cons_zero, List.set_cons_succ, i64_w, i32_w]
        rfl
      refine seq_pure (i := 31) (N := some 58) (v := ?_) (a' := ?_) rfl rfl (by rfl) (fun _ _ _ h => h) ?_ ?_ ?_
      rotate_left 2
      · intro w' hg
        go_simp
        with_reducible rfl
      · simp only [Act.put, List.setIfInBounds_toArray, List.set_cons_zero, List.set_cons_succ, i64_w, i32_w]
        rfl
      refine seq_pure (i := 32) (N := some 59) (v := ?_) (a' := ?_) rfl rfl (by rfl) (fun _ _ _ h => h) ?_ ?_ ?_
      rotate_left 2
      · intro w' hg
        go_simp
        with_reducible rfl
      · simp only [Act.put, List.setIfInBounds_toArray, List.set_cons_zero, List.set_cons_succ, i64_w, i32_w]
        rfl
      refine seq_pure (i := 33) (N := some 60) (v := ?_) (a' := ?_) rfl rfl (by rfl) (fun _ _ _ h => h) ?_ ?_ ?_
      rotate_left 2
      · intro w' hg
        go_simp
        with_reducible rfl
      · simp only [Act.put, List.setIfInBounds_toArray, List.set_cons_zero, List.set_cons_succ, i64_w, i32_w]
        rfl
      refine seq_pure (i := 34) (N := some 61) (v := ?_) (a' := ?_) rfl rfl (by rfl) (fun _ _ _ h => h) ?_ ?_ ?_
      rotate_left 2
      · intro w' hg
        go_simp
        with_reducible rfl
      · simp only [Act.put, List.setIfInBounds_toArray, List.set_cons_zero, List.set_cons_succ, i64_w, i32_w]
        rfl
      refine seq_pure (i := 35) (N := some 62) (v := ?_) (a' := ?_) rfl rfl (by rfl) (fun _ _ _ h => h) ?_ ?_ ?_
      rotate_left 2
      · intro w' hg
        go_simp
        with_reducible rfl
      · simp only [Act.put, List.setIfInBounds_toArray, List.set_cons_zero, List.set_cons_succ, i64_w, i32_w]
        rfl
      refine seq_pure (i := 36) (N := some 63) (v := ?_) (a' := ?_) rfl rfl (by rfl) (fun _ _ _ h => h) ?_ ?_ ?_
      rotate_left 2
      · intro w' hg
        go_simp
        with_reducible rfl
      · simp only [Act.put, List.setIfInBounds_toArray, List.set_cons_zero, List.set_cons_succ, i64_w, i32_w]
        rfl
      refine seq_pure (i := 37) (N := some 64) (v := ?_) (a' := ?_) rfl rfl (by rfl) (fun _ _ _ h => h) ?_ ?_ ?_
      rotate_left 2
      · intro w' hg
        go_simp
        with_reducible rfl
      · simp only [Act.put, List.setIfInBounds_toArray, List.set_cons_zero, List.set_cons_succ, i64_w, i32_w]
        rfl
      refine seq_pure (i := 38) (N := some 65) (v := ?_) (a' := ?_) rfl rfl (by rfl) (fun _ _ _ h => h) ?_ ?_ ?_
      rotate_left 2
      · intro w' hg
        go_simp
        with_reducible rfl
      · simp only [Act.put, List.setIfInBounds_toArray, List.set_cons_zero, List.set_cons_succ, i64_w, i32_w]
        rfl
      refine seq_pure (i := 39) (N := some 66) (v := ?_) (a' := ?_) rfl rfl (by rfl) (fun _ _ _ h => h) ?_ ?_ ?_
      rotate_left 2
      · intro w' hg
        go_simp
        with_reducible rfl
      · simp only [Act.put, List.setIfInBounds_toArray, List.set_cons_zero, List.set_cons_succ, i64_w, i32_w]
        rfl
      refine seq_pure (i := 40) (N := some 0) (v := ?_) (a' := ?_) rfl rfl (by rfl) (fun _ _ _ h => h) ?_ ?_ ?_
      rotate_left 2
      · intro w' hg
        go_simp
        with_reducible rfl
      · simp only [Act.put, List.setIfInBounds_toArray, List.set_cons_zero, List.set_cons_succ, i64_w, i32_w]
        rfl
      refine seq_done ?_
      go_wp2
      go_ret
      exact ⟨by simp, hb⟩

end Go.Proofs.Ytkkhdjdoifnoaaa
