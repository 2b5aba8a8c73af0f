/- The walk through redanlaw08.PolyOpen. -/
import Derived.Test.YtkkhdjdoifnoaaaPolAwake
import Derived.Test.YtkkhdjdoifnoaaaPolOpenP
set_option linter.unusedVariables false
set_option linter.unusedSimpArgs false
namespace Go.Proofs.Ytkkhdjdoifnoaaa
open Go.RowKit Go.Proofs.YtkkhdjdoifnoaaaW.PrintWords Go.Proofs.YtkkhdjdoifnoaaaW.PrintLast Go.Proofs.YtkkhdjdoifnoaaaW.PrintMore

set_option maxHeartbeats 2000000 in
set_option maxRecDepth 100000 in
theorem polyOpen_walk (W : World) (key : List Nat) (hkl : key.length = 32) (hkb : BytesOK key) {B : Option Addr} {nb cb : Nat} {b : List Nat} (hb : Bytes W B nb cb b) (hfb : nb ≤ 140737488351232) (bits : List Nat) (hbl : bits.length = 16) (hbb : BytesOK bits) :
    Calls Try.prog 5 #[.agg (key.map fun x : Nat => Value.int .u8 x).toArray, .slice B nb cb, .agg (bits.map fun x : Nat => Value.int .u8 x).toArray] W fun e w' => e = .returned (.bool true) ∧ Below W.heap.size W w' := by
  have hal := below_alloc (below_alloc (Below.refl W.heap.size W) (.cells (key.map fun x : Nat => Value.int .u8 x).toArray 28)) (.cells (bits.map fun x : Nat => Value.int .u8 x).toArray 29)
  have hka : Arr .u8 28 W.heap.size ((W.alloc (.cells (key.map fun x : Nat => Value.int .u8 x).toArray 28)).alloc (.cells (bits.map fun x : Nat => Value.int .u8 x).toArray 29)) key := (Arr.new W rfl).below (below_alloc (Below.refl _ _) _)
  have hna : Arr .u8 29 (W.heap.size + 1) ((W.alloc (.cells (key.map fun x : Nat => Value.int .u8 x).toArray 28)).alloc (.cells (bits.map fun x : Nat => Value.int .u8 x).toArray 29)) bits := by have := Arr.new (k := .u8) (T := 29) (l := bits) (W.alloc (.cells (key.map fun x : Nat => Value.int .u8 x).toArray 28)) rfl; rw [World.size_alloc] at this; exact this
  have hkv : (key.map fun x : Nat => Value.int .u8 x).length = 32 := by rw [List.length_map, hkl]
  have hnv : (bits.map fun x : Nat => Value.int .u8 x).length = 16 := by rw [List.length_map, hbl]
  generalize (key.map fun x : Nat => Value.int .u8 x) = kv at hkv hka hna hal ⊢
  generalize (bits.map fun x : Nat => Value.int .u8 x) = nv at hnv hka hna hal ⊢
  have HB := hd hb
  have HAL := hd hal
  have HK := hd hka
  have HN := hd hna
  have HKL := hd hkl
  have HBL := hd hbl
  have HKB := hd hkb
  have HBB := hd hbb
  clear hal hka hna hkb hkl hbl hbb hfb hb
  by_cases hbig : 2000 < nb
  · have q1 : decide ((2000 : Int) < (nb : Int)) = true := by simp; omega
    go_enter Try.func5, Try.ntmps5
    go_wp2_with (go_at_call 8; refine (awake_calls _).mono ?_; rintro e w1 ⟨rfl, hb1⟩)
    go_ret
    exact ⟨rfl, below_seq HAL.out hb1⟩
  · have q1 : decide ((2000 : Int) < (nb : Int)) = false := by simp; omega
    have hnb : nb ≤ 1000000000 := by omega
    go_enter Try.func5, Try.ntmps5
    go_wp2_with fail
    refine (awake_calls _).mono ?_
    rintro e w1 ⟨rfl, hb1⟩
    have ha := HK.out.below hb1
    have hbi := HN.out.below hb1
    have hw := below_seq HAL.out hb1
    have hsz : W.heap.size + 2 ≤ w1.heap.size := hbi.lt
    clear HAL HK HN hb1
    have hk := Bytes.ofArr ha HKL.out HKB.out (by decide)
    have hk16 : Bytes w1 (some ⟨W.heap.size, 16, none⟩) 16 16 (key.drop 16) := hk.drop 16 (by decide)
    have s8 := hk16.str (P := Try.prog) Try.underlying22 Try.underlying5 Try.underlying9
    have HK1 := hd hk
    clear hk hk16
    go_wp2_with fail
    refine (mac_calls HK1.out (Bytes.nil _ none 0) (by decide)).mono ?_
    rintro e w2 ⟨v9, rfl, ho9, hb2⟩
    rw [macL_nil HKL.out HKB.out] at ho9
    replace ho9 := ho9.lower hsz
    replace ha := ha.below hb2
    replace hbi := hbi.below hb2
    replace hw := below_seq hw hb2
    have hsz2 := Nat.le_trans hsz hb2.size
    clear s8 HK1 hb2
    have HK2 := hd (Bytes.ofArr ha HKL.out HKB.out (by decide))
    have HB2 := hd (HB.out.below hw)
    go_wp2_with fail
    refine (mac_calls HK2.out HB2.out hnb).mono ?_
    rintro e w3 ⟨v10, rfl, ho10, hb3⟩
    replace ho9 := ho9.below hb3
    replace ho10 := ho10.lower hsz2
    replace ha := ha.below hb3
    replace hbi := hbi.below hb3
    replace hw := below_seq hw hb3
    clear hb3 HK2 HB2 hsz hsz2
    go_wp2_with fail
    go_loopw [11] (fun i wr => ∃ k : Nat, k ≤ 16 ∧ i = .int .i64 k ∧ Arr .u8 28 W.heap.size wr (turnL key bits k) ∧ Arr .u8 29 (W.heap.size + 1) wr bits ∧ OwnK .u8 5 (W.heap.size + 2) wr v9 (key.drop 16) ∧ OwnK .u8 5 (W.heap.size + 2) wr v10 (macL key b) ∧ Below W.heap.size W wr) (fun i _ => 16 - (intOf i).toNat)
    case atStart => exact ⟨0, by omega, rfl, ha, hbi, ho9, ho10, hw⟩
    case round =>
      clear ha hbi ho9 ho10 hw
      obtain ⟨k, hk, rfl, ha, hbi, ho9, ho10, hw⟩ := hrel
      by_cases hlt : k < 16
      · have i0 : (0 : Int) ≤ k := by omega
        have i1 : (k : Int) < 16 := by omega
        have i2 : (k : Int) < 32 := by omega
        by_cases h3 : k % 4 = 3
        · have q2 : (k : Int).tmod 4 = 3 := by rw [Int.tmod_eq_emod_of_nonneg (by omega)]; omega
          go_wp2_with fail
          refine upR_start Keeps.any [10] [(0, 1), (1, 1), (2, 1), (3, 1), (4, 1), (5, 1), (6, 1), (7, 1), (8, 1), (9, 1), (10, 0)] (by kernel_rfl) rfl (by kernel_rfl) (by kernel_rfl) ?_
          have h0 := ha.drew
          have h1 := hbi.drew
          have hw5 := hw.drew
          have p9 := ho9.below (below_drew (Below.refl _ _))
          have p10 := ho10.below (below_drew (Below.refl _ _))
          generalize wr.drew = w5 at h0 h1 hw5 p9 p10 ⊢
          obtain ⟨c, C, hx, fx⟩ := h0.cell k (by rw [turnL_length, HKL.out]; omega)
          rw [turnL_get key bits k (by rw [HKL.out]; omega), if_neg (Nat.lt_irrefl k)] at C
          obtain ⟨y, Y, hy, fy⟩ := h1.cell k (by rw [HBL.out]; exact hlt)
          have gx := Grow.cells hx
          have gy := Grow.cells hy
          have hc : c < 256 := by rw [← C.out]; exact HKB.out.getD k
          have hyb : y < 256 := by rw [← Y.out]; exact HBB.out.getD k
          obtain ⟨a, HA⟩ : ∃ a, Aside0 (y &&& 240 = a) := ⟨_, ⟨rfl⟩⟩
          have q5 : Go.bits .and .u8 (y : Int) 240 = (a : Int) := by rw [← HA.out]; exact (bits_u (k := .u8) rfl y 240 hyb (by decide)).1
          have ha8 : a < 256 := by rw [← HA.out]; exact Nat.lt_of_le_of_lt Nat.and_le_right (by decide)
          obtain ⟨z, HZ⟩ : ∃ z, Aside0 (c ^^^ a = z) := ⟨_, ⟨rfl⟩⟩
          have q6 : Go.bits .xor .u8 (c : Int) (a : Int) = (z : Int) := by rw [← HZ.out]; exact xor_u8 hc ha8
          have hset := hd (h0.set k z)
          clear hx hy fy ha hbi hw ho9 ho10 hc hyb ha8 h0
          refine rseq_pure (i := 0) (N := some 35) (v := ?_) (a' := ?_) rfl rfl (by rfl) (fun _ _ _ h => h) ?_ ?_ ?_
          rotate_left 2
          · intro w' hg
            go_simp
            with_reducible rfl
          · simp only [Act.put, List.setIfInBounds_toArray, List.set_cons_zero, List.set_cons_succ, i64_w, i32_w]
            rfl
          refine rseq_pure (i := 1) (N := some 36) (v := ?_) (a' := ?_) rfl rfl (by rfl) (fun _ _ _ h => h) ?_ ?_ ?_
          rotate_left 2
          · intro w' hg
            go_simp
            with_reducible rfl
          · simp only [Act.put, List.setIfInBounds_toArray, List.set_cons_zero, List.set_cons_succ, i64_w, i32_w]
            rfl
          refine rseq_pure (i := 2) (N := some 37) (v := ?_) (a' := ?_) rfl rfl (by rfl) (fun _ _ _ h => h) ?_ ?_ ?_
          rotate_left 2
          · intro w' hg
            go_simp
            with_reducible rfl
          · simp only [Act.put, List.setIfInBounds_toArray, List.set_cons_zero, List.set_cons_succ, i64_w, i32_w]
            rfl
          refine rseq_pure (i := 3) (N := some 38) (v := ?_) (a' := ?_) rfl rfl (by rfl) (fun _ _ _ h => h) ?_ ?_ ?_
          rotate_left 2
          · intro w' hg
            go_simp
            with_reducible rfl
          · simp only [Act.put, List.setIfInBounds_toArray, List.set_cons_zero, List.set_cons_succ, i64_w, i32_w]
            rfl
          refine rseq_pure (i := 4) (N := some 39) (v := ?_) (a' := ?_) rfl rfl (by rfl) (fun _ _ _ h => h) ?_ ?_ ?_
          rotate_left 2
          · intro w' hg
            go_simp
            with_reducible rfl
          · simp only [Act.put, List.setIfInBounds_toArray, List.set_cons_zero, List.set_cons_succ, i64_w, i32_w]
            rfl
          refine rseq_pure (i := 5) (N := some 40) (v := ?_) (a' := ?_) rfl rfl (by rfl) (fun _ _ _ h => h) ?_ ?_ ?_
          rotate_left 2
          · intro w' hg
            go_simp
            with_reducible rfl
          · simp only [Act.put, List.setIfInBounds_toArray, List.set_cons_zero, List.set_cons_succ, i64_w, i32_w]
            rfl
          refine rseq_pure (i := 6) (N := some 41) (v := ?_) (a' := ?_) rfl rfl (by rfl) (fun _ _ _ h => h) ?_ ?_ ?_
          rotate_left 2
          · intro w' hg
            go_simp
            with_reducible rfl
          · simp only [Act.put, List.setIfInBounds_toArray, List.set_cons_zero, List.set_cons_succ, i64_w, i32_w]
            rfl
          refine rseq_pure (i := 7) (N := some 42) (v := ?_) (a' := ?_) rfl rfl (by rfl) (fun _ _ _ h => h) ?_ ?_ ?_
          rotate_left 2
          · intro w' hg
            go_simp
            with_reducible rfl
          · simp only [Act.put, List.setIfInBounds_toArray, List.set_cons_zero, List.set_cons_succ, i64_w, i32_w]
            rfl
          refine rseq_pure (i := 8) (N := some 43) (v := ?_) (a' := ?_) rfl rfl (by rfl) (fun _ _ _ h => h) ?_ ?_ ?_
          rotate_left 2
          · intro w' hg
            go_simp
            with_reducible rfl
          · simp only [Act.put, List.setIfInBounds_toArray, List.set_cons_zero, List.set_cons_succ, i64_w, i32_w]
            rfl
          refine rseq_pure (i := 9) (N := some 44) (v := ?_) (a' := ?_) rfl rfl (by rfl) (fun _ _ _ h => h) ?_ ?_ ?_
          rotate_left 2
          · intro w' hg
            go_simp
            with_reducible rfl
          · simp only [Act.put, List.setIfInBounds_toArray, List.set_cons_zero, List.set_cons_succ, i64_w, i32_w]
            rfl
          have hx5 := gx _ (Grow.refl _)
          refine rseq_skip (i := 10) (w1 := ?_) rfl rfl (by rfl) ?_ ?_ ?_
          rotate_left
          · go_simp
            rfl
          · exact ⟨fun h => absurd (by decide) h, trivial⟩
          refine rseq_done ?_
          go_wp2
          go_roundw
          case rel =>
            have o := OnlyOf.cell w5 W.heap.size k (.int .u8 (z : Int))
            refine ⟨k + 1, by omega, by go_num, ?_, h1.only o (by omega), p9.step (fun g hg _ => o.far g (by omega)), p10.step (fun g hg _ => o.far g (by omega)), below_only hw5 o (Nat.le_refl _)⟩
            have e : turnL key bits (k + 1) = (turnL key bits k).set k z := by
              rw [turnL, C.out, Y.out, tB, if_pos h3, HA.out, HZ.out]
            rw [e]
            exact hset.out
          case measure => simp [intOf]; omega
        · by_cases h0 : k % 4 = 0 ∧ 0 < k
          · have q2 : (k : Int).tmod 4 = 0 := by rw [Int.tmod_eq_emod_of_nonneg (by omega)]; omega
            have q3 : decide ((0 : Int) < (k : Int)) = true := by simp; omega
            go_wp2_with fail
            refine upR_start Keeps.any [10] [(0, 1), (1, 1), (2, 1), (3, 1), (4, 1), (5, 1), (6, 1), (7, 1), (8, 1), (9, 1), (10, 0)] (by kernel_rfl) rfl (by kernel_rfl) (by kernel_rfl) ?_
            have h0 := ha.drew
            have h1 := hbi.drew
            have hw5 := hw.drew
            have p9 := ho9.below (below_drew (Below.refl _ _))
            have p10 := ho10.below (below_drew (Below.refl _ _))
            generalize wr.drew = w5 at h0 h1 hw5 p9 p10 ⊢
            obtain ⟨c, C, hx, fx⟩ := h0.cell k (by rw [turnL_length, HKL.out]; omega)
            rw [turnL_get key bits k (by rw [HKL.out]; omega), if_neg (Nat.lt_irrefl k)] at C
            obtain ⟨y, Y, hy, fy⟩ := h1.cell k (by rw [HBL.out]; exact hlt)
            have gx := Grow.cells hx
            have gy := Grow.cells hy
            have hc : c < 256 := by rw [← C.out]; exact HKB.out.getD k
            have hyb : y < 256 := by rw [← Y.out]; exact HBB.out.getD k
            obtain ⟨a, HA⟩ : ∃ a, Aside0 (y &&& 3 = a) := ⟨_, ⟨rfl⟩⟩
            have q5 : Go.bits .and .u8 (y : Int) 3 = (a : Int) := by rw [← HA.out]; exact (bits_u (k := .u8) rfl y 3 hyb (by decide)).1
            have ha8 : a < 256 := by rw [← HA.out]; exact Nat.lt_of_le_of_lt Nat.and_le_right (by decide)
            obtain ⟨z, HZ⟩ : ∃ z, Aside0 (c ^^^ a = z) := ⟨_, ⟨rfl⟩⟩
            have q6 : Go.bits .xor .u8 (c : Int) (a : Int) = (z : Int) := by rw [← HZ.out]; exact xor_u8 hc ha8
            have hset := hd (h0.set k z)
            clear hx hy fy ha hbi hw ho9 ho10 hc hyb ha8 h0
            refine rseq_pure (i := 0) (N := some 52) (v := ?_) (a' := ?_) rfl rfl (by rfl) (fun _ _ _ h => h) ?_ ?_ ?_
            rotate_left 2
            · intro w' hg
              go_simp
              with_reducible rfl
            · simp only [Act.put, List.setIfInBounds_toArray, List.set_cons_zero, List.set_cons_succ, i64_w, i32_w]
              rfl
            refine rseq_pure (i := 1) (N := some 53) (v := ?_) (a' := ?_) rfl rfl (by rfl) (fun _ _ _ h => h) ?_ ?_ ?_
            rotate_left 2
            · intro w' hg
              go_simp
              with_reducible rfl
            · simp only [Act.put, List.setIfInBounds_toArray, List.set_cons_zero, List.set_cons_succ, i64_w, i32_w]
              rfl
            refine rseq_pure (i := 2) (N := some 54) (v := ?_) (a' := ?_) rfl rfl (by rfl) (fun _ _ _ h => h) ?_ ?_ ?_
            rotate_left 2
            · intro w' hg
              go_simp
              with_reducible rfl
            · simp only [Act.put, List.setIfInBounds_toArray, List.set_cons_zero, List.set_cons_succ, i64_w, i32_w]
              rfl
            refine rseq_pure (i := 3) (N := some 55) (v := ?_) (a' := ?_) rfl rfl (by rfl) (fun _ _ _ h => h) ?_ ?_ ?_
            rotate_left 2
            · intro w' hg
              go_simp
              with_reducible rfl
            · simp only [Act.put, List.setIfInBounds_toArray, List.set_cons_zero, List.set_cons_succ, i64_w, i32_w]
              rfl
            refine rseq_pure (i := 4) (N := some 56) (v := ?_) (a' := ?_) rfl rfl (by rfl) (fun _ _ _ h => h) ?_ ?_ ?_
            rotate_left 2
            · intro w' hg
              go_simp
              with_reducible rfl
            · simp only [Act.put, List.setIfInBounds_toArray, List.set_cons_zero, List.set_cons_succ, i64_w, i32_w]
              rfl
            refine rseq_pure (i := 5) (N := some 57) (v := ?_) (a' := ?_) rfl rfl (by rfl) (fun _ _ _ h => h) ?_ ?_ ?_
            rotate_left 2
            · intro w' hg
              go_simp
              with_reducible rfl
            · simp only [Act.put, List.setIfInBounds_toArray, List.set_cons_zero, List.set_cons_succ, i64_w, i32_w]
              rfl
            refine rseq_pure (i := 6) (N := some 58) (v := ?_) (a' := ?_) rfl rfl (by rfl) (fun _ _ _ h => h) ?_ ?_ ?_
            rotate_left 2
            · intro w' hg
              go_simp
              with_reducible rfl
            · simp only [Act.put, List.setIfInBounds_toArray, List.set_cons_zero, List.set_cons_succ, i64_w, i32_w]
              rfl
            refine rseq_pure (i := 7) (N := some 59) (v := ?_) (a' := ?_) rfl rfl (by rfl) (fun _ _ _ h => h) ?_ ?_ ?_
            rotate_left 2
            · intro w' hg
              go_simp
              with_reducible rfl
            · simp only [Act.put, List.setIfInBounds_toArray, List.set_cons_zero, List.set_cons_succ, i64_w, i32_w]
              rfl
            refine rseq_pure (i := 8) (N := some 60) (v := ?_) (a' := ?_) rfl rfl (by rfl) (fun _ _ _ h => h) ?_ ?_ ?_
            rotate_left 2
            · intro w' hg
              go_simp
              with_reducible rfl
            · simp only [Act.put, List.setIfInBounds_toArray, List.set_cons_zero, List.set_cons_succ, i64_w, i32_w]
              rfl
            refine rseq_pure (i := 9) (N := some 61) (v := ?_) (a' := ?_) rfl rfl (by rfl) (fun _ _ _ h => h) ?_ ?_ ?_
            rotate_left 2
            · intro w' hg
              go_simp
              with_reducible rfl
            · simp only [Act.put, List.setIfInBounds_toArray, List.set_cons_zero, List.set_cons_succ, i64_w, i32_w]
              rfl
            have hx5 := gx _ (Grow.refl _)
            refine rseq_skip (i := 10) (w1 := ?_) rfl rfl (by rfl) ?_ ?_ ?_
            rotate_left
            · go_simp
              rfl
            · exact ⟨fun h => absurd (by decide) h, trivial⟩
            refine rseq_done ?_
            go_wp2
            go_roundw
            case rel =>
              have o := OnlyOf.cell w5 W.heap.size k (.int .u8 (z : Int))
              refine ⟨k + 1, by omega, by go_num, ?_, h1.only o (by omega), p9.step (fun g hg _ => o.far g (by omega)), p10.step (fun g hg _ => o.far g (by omega)), below_only hw5 o (Nat.le_refl _)⟩
              have e : turnL key bits (k + 1) = (turnL key bits k).set k z := by
                rw [turnL, C.out, Y.out, tB, if_neg h3, if_pos h0, HA.out, HZ.out]
              rw [e]
              exact hset.out
            case measure => simp [intOf]; omega
          · have e : turnL key bits (k + 1) = turnL key bits k := by
              have e1 := turnL_get key bits k (by rw [HKL.out]; omega) k
              rw [if_neg (Nat.lt_irrefl k)] at e1
              have e2 : tB k (key.getD k 0) (bits.getD k 0) = key.getD k 0 := by rw [tB, if_neg h3, if_neg h0]
              rw [turnL, e2, ← e1]
              have hl : k < (turnL key bits k).length := by rw [turnL_length, HKL.out]; omega
              rw [List.getD_eq_getElem?_getD, List.getElem?_eq_getElem hl, Option.getD_some, List.set_getElem_self]
            obtain ⟨r, HR⟩ : ∃ r, Aside0 (k % 4 = r) := ⟨_, ⟨rfl⟩⟩
            have q2 : (k : Int).tmod 4 = (r : Int) := by rw [Int.tmod_eq_emod_of_nonneg (by omega)]; have := HR.out; omega
            have q3 : ((r : Int) == 3) = false := by have := HR.out; simp; omega
            have HE := hd e
            clear e
            by_cases hk0 : 0 < k
            · have q4 : ((r : Int) == 0) = false := by have := HR.out; simp; omega
              go_wp2
              go_roundw
              case rel => exact ⟨k + 1, by omega, by go_num, by rw [HE.out]; exact ha, hbi, ho9, ho10, hw⟩
              case measure => simp [intOf]; omega
            · have q4 : ((r : Int) == 0) = true := by have := HR.out; simp; omega
              have q5 : decide ((0 : Int) < (k : Int)) = false := by simp; omega
              go_wp2
              go_roundw
              case rel => exact ⟨k + 1, by omega, by go_num, by rw [HE.out]; exact ha, hbi, ho9, ho10, hw⟩
              case measure => simp [intOf]; omega
      · obtain rfl : k = 16 := by omega
        have HK3 := hd (Bytes.ofArr ha (by rw [turnL_length, HKL.out]) (turnL_ok HKB.out bits 16) (by decide))
        have HB3 := hd (HB.out.below hw)
        have hsz : W.heap.size + 2 ≤ wr.heap.size := hbi.lt
        go_wp2_with fail
        refine (mac_calls HK3.out HB3.out hnb).mono ?_
        rintro e w4 ⟨v12, rfl, ho12, hb4⟩
        rw [macL_same (turnL_clamp key bits HKL.out) (turnL_drop key bits 16 (Nat.le_refl _)) b] at ho12
        replace ho9 := ho9.below hb4
        replace ho10 := ho10.below hb4
        replace ho12 := ho12.lower hsz
        replace ha := ha.below hb4
        replace hw := below_seq hw hb4
        have hsz4 : W.heap.size + 2 ≤ w4.heap.size := Nat.le_trans hsz hb4.size
        clear hb4 HK3 HB3 hbi hsz
        go_wp2_with fail
        go_loopw [13] (fun i wr => ∃ k : Nat, k ≤ 16 ∧ i = .int .i64 k ∧ Arr .u8 28 W.heap.size wr (zeroL (turnL key bits 16) k) ∧ OwnK .u8 5 (W.heap.size + 2) wr v9 (key.drop 16) ∧ OwnK .u8 5 (W.heap.size + 2) wr v10 (macL key b) ∧ OwnK .u8 5 (W.heap.size + 2) wr v12 (macL key b) ∧ Below W.heap.size W wr ∧ W.heap.size + 2 ≤ wr.heap.size) (fun i _ => 16 - (intOf i).toNat)
        case atStart => exact ⟨0, by omega, rfl, ha, ho9, ho10, ho12, hw, hsz4⟩
        case round =>
          clear ha ho9 ho10 ho12 hw hsz4
          obtain ⟨k, hk, rfl, ha, ho9, ho10, ho12, hw, hsz⟩ := hrel
          by_cases hlt : k < 16
          · have i0 : (0 : Int) ≤ k := by omega
            have i1 : (k : Int) < 16 := by omega
            have i2 : (k : Int) < 32 := by omega
            obtain ⟨c, C, hcell, hfr⟩ := ha.cell k (by rw [zeroL_length, turnL_length, HKL.out]; omega)
            have hset := hd (ha.set k 0)
            have HO := hd (And.intro ho9 (And.intro ho10 (And.intro ho12 hw)))
            clear ha ho9 ho10 ho12 hw
            go_wp2
            go_roundw
            case rel =>
              have o := OnlyOf.cell wr W.heap.size k (.int .u8 0)
              obtain ⟨ho9, ho10, ho12, hw⟩ := HO.out
              refine ⟨k + 1, by omega, by go_num, hset.out, ho9.step (fun g hg _ => o.far g (by omega)), ho10.step (fun g hg _ => o.far g (by omega)), ho12.step (fun g hg _ => o.far g (by omega)), below_only hw o (Nat.le_refl _), by rw [o.size]; exact hsz⟩
            case measure => simp [intOf]; omega
          · obtain rfl : k = 16 := by omega
            have hl : (zeroL (turnL key bits 16) 16).length = 32 := by rw [zeroL_length, turnL_length, HKL.out]
            have hok := zeroL_ok (turnL_ok HKB.out bits 16) 16
            have HK3 := hd (Bytes.ofArr ha hl hok (by decide))
            have HB3 := hd (HB.out.below hw)
            have hz := macL_zero hl hok (zeroL_r (turnL key bits 16) (by rw [turnL_length, HKL.out])) b
            rw [zeroL_drop _ 16 (Nat.le_refl _), turnL_drop key bits 16 (Nat.le_refl _)] at hz
            have HZ := hd hz
            clear hl hok hz
            go_wp2_with fail
            refine (mac_calls HK3.out HB3.out hnb).mono ?_
            rintro e w5 ⟨v14, rfl, ho14, hb5⟩
            rw [HZ.out] at ho14
            have HD := hd (HKB.out.drop 16)
            have hdl : (key.drop 16).length = 16 := by rw [List.length_drop, HKL.out]
            obtain ⟨A9, c9, rfl, h9⟩ := (ho9.below hb5).bytes 16 hdl HD.out
            obtain ⟨A10, c10, rfl, h10⟩ := (ho10.below hb5).bytes 16 (macL_length _ _) (macL_ok _ _)
            obtain ⟨A12, c12, rfl, h12⟩ := (ho12.below hb5).bytes 16 (macL_length _ _) (macL_ok _ _)
            obtain ⟨A14, c14, rfl, h14⟩ := ho14.bytes 16 hdl HD.out
            have s1 := h9.str (P := Try.prog) Try.underlying22 Try.underlying5 Try.underlying9
            have s2 := h10.str (P := Try.prog) Try.underlying22 Try.underlying5 Try.underlying9
            have s3 := h12.str (P := Try.prog) Try.underlying22 Try.underlying5 Try.underlying9
            have s4 := h14.str (P := Try.prog) Try.underlying22 Try.underlying5 Try.underlying9
            replace hw := below_seq hw hb5
            clear h9 h10 h12 h14 ho9 ho10 ho12 ho14 hb5 ha HK3 HB3 hdl
            generalize key.drop 16 = L1 at s1 s4 ⊢
            generalize macL key b = L2 at s2 s3
            go_wp2
            go_ret
            exact ⟨by simp, hw⟩

end Go.Proofs.Ytkkhdjdoifnoaaa
