/- SessionBounds: the walk. -/
import Derived.Test.YtlgdplodglchaaaDoorGSesG
import Derived.Test.YtlgdplodglchaaaDoorSesNil
import Derived.Test.YtlgdplodglchaaaDoorNRow
import Derived.Test.YtlgdplodglchaaaDoorIRow
import Derived.Test.YtlgdplodglchaaaDoorBox
import Derived.Deep.Cut
import Derived.Deep.DeepCutAuto
set_option linter.unusedVariables false
set_option linter.unusedSimpArgs false
namespace Go.Proofs.YtlgdplodglchaaaDoor
open Go.RowKit Go.Proofs.YtlgdplodglchaaaDoorW.PrintWords Go.Proofs.YtlgdplodglchaaaDoorW.PrintLast Go.Proofs.YtlgdplodglchaaaDoorW.PrintMore
theorem use_seal {k : List Nat} {N : Nat} (ad text : List Nat) (hk : k.length = 32) (hN : N ≠ 18446744073709551615) : useC k N text (sealA k (nonceN N) ad text) = (sealN k (nonceN N) ad text, 0, N + 1) := by
  have e : sealA k (nonceN N) ad text = (sealN k (nonceN N) ad text, 0) := by rw [sealA, if_pos ⟨hk, nonceN_length N⟩]
  rw [useC, if_neg (by omega), if_neg (by omega), if_neg hN, e, if_neg (by simp)]
theorem use_open {k : List Nat} {N : Nat} (ad text b : List Nat) (hk : k.length = 32) (hN : N ≠ 18446744073709551615) (hb : b = sealN k (nonceN N) ad text) : useC k N b (openA k (nonceN N) ad b) = (text, 0, N + 1) := by
  have e : openA k (nonceN N) ad b = (text, 0) := by rw [openA, if_pos ⟨hk, nonceN_length N⟩, hb, openN_seal]
  rw [useC, if_neg (by omega), if_neg (by omega), if_neg hN, e, if_neg (by simp)]
/-- The boxes: each a byte, sealed with its number. -/
def SbOk (key : List Nat) (ls : List (List Nat)) : Prop := ∀ j, j < ls.length → ∃ t : Nat, t < 256 ∧ ls.getD j [] = sealN key (nonceN j) [] [t]
theorem SbOk.snoc {key : List Nat} {ls : List (List Nat)} (h : SbOk key ls) {t : Nat} (ht : t < 256) : SbOk key (ls ++ [sealN key (nonceN ls.length) [] [t]]) := fun j hj => by
  by_cases hlt : j < ls.length
  · obtain ⟨x, hx, e⟩ := h j hlt
    exact ⟨x, hx, by rw [List.getD_eq_getElem?_getD, List.getElem?_append_left hlt, ← List.getD_eq_getElem?_getD, e]⟩
  · obtain rfl : j = ls.length := by simp at hj; omega
    exact ⟨t, ht, by simp [List.getD_eq_getElem?_getD]⟩
theorem sb_exp {r : Rul} {k t : Nat} (h : expB r 0 k t = false) : t < r.r4 ∧ k < r.r6 := by
  unfold expB oldB sinceN at h
  simp at h
  omega
theorem sb_exp2 {r : Rul} {k t : Nat} (h : expB r 0 k t = true) : ¬ (t < r.r4) ∨ ¬ (k < r.r6) := by
  unfold expB oldB sinceN at h
  simp at h
  omega
theorem sb_seal {r : Rul} {k t : Nat} {key text : List Nat} (hk : key.length = 32) (hN : k ≠ 18446744073709551615) (h : expB r 0 k t = false) : sealS r 0 k k key text t = (k, sealN key (nonceN k) [] text, 0, k + 1, k + 1) := by
  rw [sealS, if_neg (by rw [h]; simp), use_seal [] text hk hN, if_neg (by simp)]
theorem sb_seal2 {r : Rul} {k t : Nat} {key text : List Nat} (h : expB r 0 k t = true) : sealS r 0 k k key text t = (0, [], 52, k, k) := by
  rw [sealS, if_pos h]
def boolsA (sl : List Bool) : Array Value := (sl.map Value.bool).toArray
theorem boolsA_set (sl : List Bool) (y : Nat) (b : Bool) : (boolsA sl).setIfInBounds y (.bool b) = boolsA (sl.set y b) := by simp [boolsA]
theorem boolsA_at (sl : List Bool) (y : Nat) (hy : y < sl.length) : (boolsA sl)[y]? = some (.bool (sl.getD y false)) := by
  simp [boolsA, List.getD_eq_getElem?_getD, hy]
/-- What came so far. -/
def SbSeen (sl : List Bool) (cl : List Nat) (v : Win) : Prop := sl.length = 30 ∧ WinOf v cl ∧ v.ok ∧ (∀ x ∈ cl, x < 30) ∧ ∀ x, x < 30 → (sl.getD x false = true ↔ x ∈ cl)
theorem sb_old {r : Rul} (h : 0 < r.r4) : oldB r 0 0 = false := by
  unfold oldB sinceN
  simp
  omega
theorem SbSeen.top {sl : List Bool} {cl : List Nat} {v : Win} (h : SbSeen sl cl v) : v.top < 30 := by
  by_cases e : cl = []
  · rw [h.2.1.2.1 e]; decide
  · exact h.2.2.2.1 _ (h.2.1.2.2.2.1 e)
theorem SbSeen.check {sl : List Bool} {cl : List Nat} {v : Win} (h : SbSeen sl cl v) {y : Nat} (hy : y < 30) : checkW v.some v.top v.c y = if sl.getD y false then 43 else 0 := by
  have ht := h.top
  have e1 := h.2.2.2.2 y hy
  rw [h.2.1.check, checkR, h.2.1.top_is]
  by_cases hm : y ∈ cl
  · rw [if_pos hm, if_pos (e1.2 hm)]
  · rw [if_neg hm, if_neg (fun h2 => hm (e1.1 h2)), if_neg (by omega)]
theorem SbSeen.mark {sl : List Bool} {cl : List Nat} {v : Win} (h : SbSeen sl cl v) {y : Nat} (hy : y < 30) (hs : sl.getD y false = false) : SbSeen (sl.set y true) (cl ++ [y]) (markW v y) := by
  have hc := h.check hy
  rw [hs] at hc
  have hc2 : checkR cl y = 0 := by rw [← h.2.1.check, hc]; rfl
  refine ⟨by rw [List.length_set]; exact h.1, h.2.1.mark h.2.2.1 y hc2, markW_ok h.2.2.1 (by omega), fun x hx => ?_, fun x hx => ?_⟩
  · rcases List.mem_append.1 hx with hx | hx
    · exact h.2.2.2.1 x hx
    · have : x = y := by simpa using hx
      omega
  · rw [List.mem_append, List.mem_singleton, ← h.2.2.2.2 x hx, List.getD_eq_getElem?_getD, List.getElem?_set]
    by_cases e : y = x
    · subst e
      rw [if_pos rfl, if_pos (by rw [h.1]; exact hy)]
      simp
    · rw [if_neg e, ← List.getD_eq_getElem?_getD]
      constructor
      · intro h2; exact Or.inl h2
      · rintro (h2 | h2)
        · exact h2
        · exact absurd h2.symm e
theorem SbSeen.again {sl : List Bool} {cl : List Nat} {v : Win} (h : SbSeen sl cl v) {y : Nat} (hy : y < 30) (hs : sl.getD y false = true) : SbSeen (sl.set y true) cl v := by
  have e : sl.set y true = sl := by
    refine List.ext_getElem? (fun i => ?_)
    rw [List.getElem?_set]
    by_cases e : y = i
    · subst e
      rw [if_pos rfl, if_pos (by rw [h.1]; exact hy)]
      rw [List.getD_eq_getElem?_getD, List.getElem?_eq_getElem (by rw [h.1]; exact hy)] at hs
      rw [List.getElem?_eq_getElem (by rw [h.1]; exact hy)]
      simpa using hs.symm
    · rw [if_neg e]
  rw [e]
  exact h
theorem sb_open1 {r : Rul} {v : Win} {y : Nat} {key b : List Nat} (h4 : 0 < r.r4) (hc : checkW v.some v.top v.c y = 43) : openS r 0 v key y b 0 = ([], 43, v) := by
  rw [openS, if_neg (by rw [sb_old h4]; simp), if_pos (by rw [hc]; simp), hc]
theorem sb_open2 {r : Rul} {v : Win} {y t : Nat} {key b : List Nat} (h4 : 0 < r.r4) (hc : checkW v.some v.top v.c y = 0) (hk : key.length = 32) (hy : y ≠ 18446744073709551615) (hb : b = sealN key (nonceN y) [] [t]) : openS r 0 v key y b 0 = ([t], 0, markW v y) := by
  rw [openS, if_neg (by rw [sb_old h4]; simp), if_neg (by rw [hc]; simp), use_open [] [t] b hk hy hb, if_neg (by simp)]
theorem SbSeen.init : SbSeen (List.replicate 30 false) [] ⟨false, 0, (0, 0)⟩ :=
  ⟨rfl, WinOf.nil, ⟨by decide, by decide, by decide⟩, fun x hx => by simp at hx, fun x hx => by rw [List.getD_eq_getElem?_getD, List.getElem?_replicate, if_pos hx]; simp⟩
set_option maxHeartbeats 40000000 in
set_option maxRecDepth 100000 in
theorem sessionBounds_walk (W : World) (hpl : PlacesAt W) (key : List Nat) (hkl : key.length = 32) (hkb : BytesOK key) (r : Rul) (hr : r.all) {A : Option Addr} {n c : Nat} {l : List Nat} (hz : NRow W A n c l) {B : Option Addr} {m d : Nat} {zs : List Int} (ho : IRow .i64 W B m d zs) :
    Calls Tryd.prog 5 #[.agg (key.map fun x : Nat => Value.int .u8 x).toArray, r.v, .slice A n c, .slice B m d] W fun e w' => e = .returned (.bool true) ∧ Below W.heap.size W w' := by
  have HZ := hd hz
  have HO := hd ho
  have HPL := hd hpl
  have HKL := hd hkl
  have HKB := hd hkb
  clear hz ho hpl hkb
  obtain ⟨r0, r1, r2, r3, r4, r5, r6⟩ := r
  unfold Rul.v
  dsimp only
  have HRA := hd hr
  clear hr
  have hka := (Arr.new (k := .u8) (T := 67) (l := key) W rfl)
  have hal := below_alloc (Below.refl W.heap.size W) (.cells (key.map fun x : Nat => Value.int .u8 x).toArray 67)
  have hrb := blk_new (W.alloc (.cells (key.map fun x : Nat => Value.int .u8 x).toArray 67)) (.cells #[.int .u64 (r0 : Int), .int .u64 (r1 : Int), .int .i64 r2, .int .u64 (r3 : Int), .int .u64 (r4 : Int), .int .u64 (r5 : Int), .int .u64 (r6 : Int)] 24)
  rw [World.size_alloc] at hrb
  have hal2 := below_alloc (Below.refl _ (W.alloc (.cells (key.map fun x : Nat => Value.int .u8 x).toArray 67))) (.cells #[.int .u64 (r0 : Int), .int .u64 (r1 : Int), .int .i64 r2, .int .u64 (r3 : Int), .int .u64 (r4 : Int), .int .u64 (r5 : Int), .int .u64 (r6 : Int)] 24)
  have HKA := hd (hka.below hal2)
  have HRB := hd hrb
  have HBW := hd (below_seq hal hal2)
  clear hka hal hrb hal2 hkl
  go_enter Tryd.func5, Tryd.ntmps5
  go_upto_region 1 with (fail)
  generalize (W.alloc (.cells (key.map fun x : Nat => Value.int .u8 x).toArray 67)).alloc (.cells #[.int .u64 (r0 : Int), .int .u64 (r1 : Int), .int .i64 r2, .int .u64 (r3 : Int), .int .u64 (r4 : Int), .int .u64 (r5 : Int), .int .u64 (r6 : Int)] 24) = w1 at HKA HRB HBW ⊢
  obtain ⟨q, hq⟩ : ∃ q, Aside0 (W.heap.size = q) := ⟨_, ⟨rfl⟩⟩
  rw [hq.out] at HKA HRB ⊢
  go_wp2_with fail
  refine (awake_calls (HPL.out.below HBW.out)).mono ?_
  rintro e w2 ⟨rfl, hb2⟩
  replace HKA := hd (HKA.out.below hb2)
  replace HRB := hd (blk_below HRB.out hb2)
  replace HBW := hd (below_seq HBW.out hb2)
  clear hb2
  go_wp2_with fail
  refine (nseal_calls (now := 0)).mono ?_
  rintro e _ ⟨rfl, rfl⟩
  go_wp2_with fail
  refine (nopen_calls (n := 0) (now := 0)).mono ?_
  rintro e _ ⟨rfl, rfl⟩
  go_wp2_with fail
  refine (nsent_calls).mono ?_
  rintro e _ ⟨rfl, rfl⟩
  go_wp2_with fail
  refine (nrekey_calls (now := 0)).mono ?_
  rintro e w3 ⟨rfl, hb⟩
  replace HKA := hd (HKA.out.below hb)
  replace HRB := hd (blk_below HRB.out hb)
  replace HBW := hd (below_seq HBW.out hb)
  clear hb
  go_wp2_with fail
  refine (nexpired_calls (now := 0)).mono ?_
  rintro e w4 ⟨rfl, hb⟩
  replace HKA := hd (HKA.out.below hb)
  replace HRB := hd (blk_below HRB.out hb)
  replace HBW := hd (below_seq HBW.out hb)
  clear hb
  go_wp2_with fail
  refine (ndue_calls (now := 0)).mono ?_
  rintro e w5 ⟨rfl, hb⟩
  replace HKA := hd (HKA.out.below hb)
  replace HRB := hd (blk_below HRB.out hb)
  replace HBW := hd (below_seq HBW.out hb)
  clear hb
  go_wp2_with fail
  refine (nagain_calls (now := 0)).mono ?_
  rintro e w6 ⟨rfl, hb⟩
  replace HKA := hd (HKA.out.below hb)
  replace HRB := hd (blk_below HRB.out hb)
  replace HBW := hd (below_seq HBW.out hb)
  clear hb
  go_upto_region 10 with (fail)
  refine up_start [] [(0, true), (1, true), (2, true), (3, true), (4, true), (5, false), (6, true)] (by kernel_rfl) rfl (by kernel_rfl) (by kernel_rfl) ?_
  have hdr := below_drew (Below.refl w6.heap.size w6)
  replace HRB := hd (blk_below HRB.out hdr)
  replace HKA := hd (HKA.out.below hdr)
  replace HBW := hd (below_seq HBW.out hdr)
  generalize w6.drew = w7 at hdr HRB HKA HBW  ⊢
  clear hdr
  have t0 := Grow.cells (show w7.cell? ⟨q + 1, 0, none⟩ = some (.int .u64 (r0 : Int)) by rw [blk_cell HRB.out]; rfl)
  have t1 := Grow.cells (show w7.cell? ⟨q + 1, 1, none⟩ = some (.int .u64 (r1 : Int)) by rw [blk_cell HRB.out]; rfl)
  have t2 := Grow.cells (show w7.cell? ⟨q + 1, 2, none⟩ = some (.int .i64 r2) by rw [blk_cell HRB.out]; rfl)
  have t3 := Grow.cells (show w7.cell? ⟨q + 1, 3, none⟩ = some (.int .u64 (r3 : Int)) by rw [blk_cell HRB.out]; rfl)
  have t4 := Grow.cells (show w7.cell? ⟨q + 1, 4, none⟩ = some (.int .u64 (r4 : Int)) by rw [blk_cell HRB.out]; rfl)
  have t5 := Grow.cells (show w7.cell? ⟨q + 1, 5, none⟩ = some (.int .u64 (r5 : Int)) by rw [blk_cell HRB.out]; rfl)
  have t6 := Grow.cells (show w7.cell? ⟨q + 1, 6, none⟩ = some (.int .u64 (r6 : Int)) by rw [blk_cell HRB.out]; rfl)
  refine seq_pure (i := 0) (N := some 73) (v := ?_) (a' := ?_) rfl rfl (by rfl) (fun _ _ _ h => h) ?_ ?_ ?_
  rotate_left 2
  · intro w' hg
    go_simp
    with_reducible rfl
  · simp only [Act.put, List.setIfInBounds_toArray, List.set_cons_zero, List.set_cons_succ, i64_w, i32_w]
    rfl
  refine seq_pure (i := 1) (N := some 74) (v := ?_) (a' := ?_) rfl rfl (by rfl) (fun _ _ _ h => h) ?_ ?_ ?_
  rotate_left 2
  · intro w' hg
    go_simp
    with_reducible rfl
  · simp only [Act.put, List.setIfInBounds_toArray, List.set_cons_zero, List.set_cons_succ, i64_w, i32_w]
    rfl
  refine seq_pure (i := 2) (N := some 75) (v := ?_) (a' := ?_) rfl rfl (by rfl) (fun _ _ _ h => h) ?_ ?_ ?_
  rotate_left 2
  · intro w' hg
    go_simp
    with_reducible rfl
  · simp only [Act.put, List.setIfInBounds_toArray, List.set_cons_zero, List.set_cons_succ, i64_w, i32_w]
    rfl
  refine seq_pure (i := 3) (N := some 76) (v := ?_) (a' := ?_) rfl rfl (by rfl) (fun _ _ _ h => h) ?_ ?_ ?_
  rotate_left 2
  · intro w' hg
    go_simp
    with_reducible rfl
  · simp only [Act.put, List.setIfInBounds_toArray, List.set_cons_zero, List.set_cons_succ, i64_w, i32_w]
    rfl
  refine seq_pure (i := 4) (N := some 77) (v := ?_) (a' := ?_) rfl rfl (by rfl) (fun _ _ _ h => h) ?_ ?_ ?_
  rotate_left 2
  · intro w' hg
    go_simp
    with_reducible rfl
  · simp only [Act.put, List.setIfInBounds_toArray, List.set_cons_zero, List.set_cons_succ, i64_w, i32_w]
    rfl
  refine seq_call (i := 5) (N := some 78) rfl rfl Tryd.func21 (by kernel_rfl) rfl #[.agg #[.slice (some ⟨q, 0, none⟩) 32 32, .int .u64 0], .agg #[.slice (some ⟨q, 0, none⟩) 32 32, .int .u64 0], .agg #[.int .u64 (r0 : Int), .int .u64 (r1 : Int), .int .i64 r2, .int .u64 (r3 : Int), .int .u64 (r4 : Int), .int .u64 (r5 : Int), .int .u64 (r6 : Int)], .int .u64 0] (by rfl) rfl ?_ ?_
  · simp only [List.map_toArray, List.map_cons, List.map_nil]
    rfl
  refine (new_calls (r := ⟨r0, r1, r2, r3, r4, r5, r6⟩) (N1 := 0) (N2 := 0) (now := 0) (Bytes.ofArr HKA.out HKL.out HKB.out (by decide)) (Bytes.ofArr HKA.out HKL.out HKB.out (by decide)) (by decide) (by decide)).mono ?_
  rintro e w7x ⟨ga, ga1, ga2, rfl, hs, ho1, ho2, hg, hb⟩
  have HSA := hd hs
  have HA1 := hd (ho1.lower HBW.out.size)
  have HA2 := hd (ho2.lower HBW.out.size)
  have HGA := hd (Nat.le_trans HBW.out.size hg)
  replace HRB := hd (blk_below HRB.out hb)
  replace HKA := hd (HKA.out.below hb)
  replace HBW := hd (below_seq HBW.out hb)
  refine ⟨_, rfl, fun _ => hb, ?_⟩
  clear hs ho1 ho2 hg hb
  refine seq_norm (a' := ?_) ?_ ?_
  rotate_left
  · show Act.put _ (some 78) _ = _
    simp only [Act.put, List.setIfInBounds_toArray, List.set_cons_zero, List.set_cons_succ, i64_w, i32_w]
    rfl
  refine seq_pure (i := 6) (N := some 17) (v := ?_) (a' := ?_) rfl rfl (by rfl) (fun _ _ _ h => h) ?_ ?_ ?_
  rotate_left 2
  · intro w' hg
    go_simp
    with_reducible rfl
  · simp only [Act.put, List.setIfInBounds_toArray, List.set_cons_zero, List.set_cons_succ, i64_w, i32_w]
    rfl
  refine seq_done ?_
  go_upto_region 11 with (fail)
  clear t0 t1 t2 t3 t4 t5 t6
  refine up_start [] [(0, true), (1, true), (2, true), (3, true), (4, true), (5, false), (6, true)] (by kernel_rfl) rfl (by kernel_rfl) (by kernel_rfl) ?_
  have hdr := below_drew (Below.refl w7x.heap.size w7x)
  replace HRB := hd (blk_below HRB.out hdr)
  replace HKA := hd (HKA.out.below hdr)
  replace HBW := hd (below_seq HBW.out hdr)
  replace HSA := hd (HSA.out.below hdr)
  replace HA1 := hd (HA1.out.below hdr)
  replace HA2 := hd (HA2.out.below hdr)
  generalize w7x.drew = w8 at hdr HRB HKA HBW HSA HA1 HA2 ⊢
  clear hdr
  have t0 := Grow.cells (show w8.cell? ⟨q + 1, 0, none⟩ = some (.int .u64 (r0 : Int)) by rw [blk_cell HRB.out]; rfl)
  have t1 := Grow.cells (show w8.cell? ⟨q + 1, 1, none⟩ = some (.int .u64 (r1 : Int)) by rw [blk_cell HRB.out]; rfl)
  have t2 := Grow.cells (show w8.cell? ⟨q + 1, 2, none⟩ = some (.int .i64 r2) by rw [blk_cell HRB.out]; rfl)
  have t3 := Grow.cells (show w8.cell? ⟨q + 1, 3, none⟩ = some (.int .u64 (r3 : Int)) by rw [blk_cell HRB.out]; rfl)
  have t4 := Grow.cells (show w8.cell? ⟨q + 1, 4, none⟩ = some (.int .u64 (r4 : Int)) by rw [blk_cell HRB.out]; rfl)
  have t5 := Grow.cells (show w8.cell? ⟨q + 1, 5, none⟩ = some (.int .u64 (r5 : Int)) by rw [blk_cell HRB.out]; rfl)
  have t6 := Grow.cells (show w8.cell? ⟨q + 1, 6, none⟩ = some (.int .u64 (r6 : Int)) by rw [blk_cell HRB.out]; rfl)
  refine seq_pure (i := 0) (N := some 79) (v := ?_) (a' := ?_) rfl rfl (by rfl) (fun _ _ _ h => h) ?_ ?_ ?_
  rotate_left 2
  · intro w' hg
    go_simp
    with_reducible rfl
  · simp only [Act.put, List.setIfInBounds_toArray, List.set_cons_zero, List.set_cons_succ, i64_w, i32_w]
    rfl
  refine seq_pure (i := 1) (N := some 80) (v := ?_) (a' := ?_) rfl rfl (by rfl) (fun _ _ _ h => h) ?_ ?_ ?_
  rotate_left 2
  · intro w' hg
    go_simp
    with_reducible rfl
  · simp only [Act.put, List.setIfInBounds_toArray, List.set_cons_zero, List.set_cons_succ, i64_w, i32_w]
    rfl
  refine seq_pure (i := 2) (N := some 81) (v := ?_) (a' := ?_) rfl rfl (by rfl) (fun _ _ _ h => h) ?_ ?_ ?_
  rotate_left 2
  · intro w' hg
    go_simp
    with_reducible rfl
  · simp only [Act.put, List.setIfInBounds_toArray, List.set_cons_zero, List.set_cons_succ, i64_w, i32_w]
    rfl
  refine seq_pure (i := 3) (N := some 82) (v := ?_) (a' := ?_) rfl rfl (by rfl) (fun _ _ _ h => h) ?_ ?_ ?_
  rotate_left 2
  · intro w' hg
    go_simp
    with_reducible rfl
  · simp only [Act.put, List.setIfInBounds_toArray, List.set_cons_zero, List.set_cons_succ, i64_w, i32_w]
    rfl
  refine seq_pure (i := 4) (N := some 83) (v := ?_) (a' := ?_) rfl rfl (by rfl) (fun _ _ _ h => h) ?_ ?_ ?_
  rotate_left 2
  · intro w' hg
    go_simp
    with_reducible rfl
  · simp only [Act.put, List.setIfInBounds_toArray, List.set_cons_zero, List.set_cons_succ, i64_w, i32_w]
    rfl
  refine seq_call (i := 5) (N := some 84) rfl rfl Tryd.func21 (by kernel_rfl) rfl #[.agg #[.slice (some ⟨q, 0, none⟩) 32 32, .int .u64 0], .agg #[.slice (some ⟨q, 0, none⟩) 32 32, .int .u64 0], .agg #[.int .u64 (r0 : Int), .int .u64 (r1 : Int), .int .i64 r2, .int .u64 (r3 : Int), .int .u64 (r4 : Int), .int .u64 (r5 : Int), .int .u64 (r6 : Int)], .int .u64 0] (by rfl) rfl ?_ ?_
  · simp only [List.map_toArray, List.map_cons, List.map_nil]
    rfl
  refine (new_calls (r := ⟨r0, r1, r2, r3, r4, r5, r6⟩) (N1 := 0) (N2 := 0) (now := 0) (Bytes.ofArr HKA.out HKL.out HKB.out (by decide)) (Bytes.ofArr HKA.out HKL.out HKB.out (by decide)) (by decide) (by decide)).mono ?_
  rintro e w8x ⟨gb, gb1, gb2, rfl, hs, ho1, ho2, hg, hb⟩
  have HNE := hd (show ga ≠ gb by have := blk_lt HSA.out; omega)
  have HSB := hd hs
  have HB1 := hd (ho1.lower HBW.out.size)
  have HB2 := hd (ho2.lower HBW.out.size)
  have HGB := hd (Nat.le_trans HBW.out.size hg)
  replace HRB := hd (blk_below HRB.out hb)
  replace HKA := hd (HKA.out.below hb)
  replace HBW := hd (below_seq HBW.out hb)
  replace HSA := hd (HSA.out.below hb)
  replace HA1 := hd (HA1.out.below hb)
  replace HA2 := hd (HA2.out.below hb)
  refine ⟨_, rfl, fun _ => hb, ?_⟩
  clear hs ho1 ho2 hg hb
  refine seq_norm (a' := ?_) ?_ ?_
  rotate_left
  · show Act.put _ (some 84) _ = _
    simp only [Act.put, List.setIfInBounds_toArray, List.set_cons_zero, List.set_cons_succ, i64_w, i32_w]
    rfl
  refine seq_pure (i := 6) (N := some 18) (v := ?_) (a' := ?_) rfl rfl (by rfl) (fun _ _ _ h => h) ?_ ?_ ?_
  rotate_left 2
  · intro w' hg
    go_simp
    with_reducible rfl
  · simp only [Act.put, List.setIfInBounds_toArray, List.set_cons_zero, List.set_cons_succ, i64_w, i32_w]
    rfl
  refine seq_done ?_
  go_upto_region 15 with (fail)
  clear t0 t1 t2 t3 t4 t5 t6
  go_loopw [19, 20, 21] (fun u19 u20 u21 wr => ∃ (i k : Nat) (ls : List (List Nat)), i ≤ 30 ∧ u21 = .int .i64 i ∧ Aside0 (k ≤ i ∧ ls.length = k ∧ (0 < k → 0 < r4) ∧ SbOk key ls) ∧ Aside0 (OwnK .u64 22 W.heap.size wr u19 (List.range k)) ∧ Aside0 (BoxIn W wr u20 ls) ∧ Aside0 (SesAt wr ga ⟨r0, r1, r2, r3, r4, r5, r6⟩ 0 k ga1 k ga2 0 ⟨false, 0, (0, 0)⟩) ∧ Aside0 (SesAt wr gb ⟨r0, r1, r2, r3, r4, r5, r6⟩ 0 0 gb1 0 gb2 0 ⟨false, 0, (0, 0)⟩) ∧ Aside0 (OwnK .u8 5 W.heap.size wr ga1.v key) ∧ Aside0 (OwnK .u8 5 W.heap.size wr gb2.v key) ∧ Aside0 (wr.heap[q + 1]? = some (.cells #[.int .u64 (r0 : Int), .int .u64 (r1 : Int), .int .i64 r2, .int .u64 (r3 : Int), .int .u64 (r4 : Int), .int .u64 (r5 : Int), .int .u64 (r6 : Int)] 24 (0, 0))) ∧ Aside0 (Below W.heap.size W wr)) (fun _ _ u21 _ => 30 - (intOf u21).toNat)
  case atStart => exact ⟨0, 0, [], by decide, rfl, ⟨by decide, rfl, by simp, fun j hj => absurd hj (by simp)⟩, ⟨Kd.R_nil _ _ _ _ _⟩, ⟨BoxIn.nil _ _⟩, HSA, HSB, HA1, HB2, HRB, HBW⟩
  case round =>
    obtain ⟨i, k, ls, hi, rfl, HI, HN, HX, HSA, HSB, HA1, HB2, HRB, HBW⟩ := hrel
    obtain ⟨Ab, cb, rfl, hcb⟩ := HX.out.form
    rw [HI.out.2.1] at hcb HX ⊢
    by_cases hlt : i < n ∧ i < 30
    · obtain ⟨h1, h2⟩ := hlt
      have i1 : (i : Int) < n := by omega
      have i2 : (i : Int) < 30 := by omega
      obtain ⟨ad, tm, rfl, htW, htm⟩ := HZ.out.at_ i h1
      have HTW := hd htW
      have ht := pw_cell_below HBW.out htW
      have hnc : (n : Int) ≤ c := by have := HZ.out.2.2.1; omega
      have HTMB := hd htm
      have HI2 := hd h2
      have hcv : IntKind.u8.wrap (i : Int) = (i : Int) := wrapN_u (k := .u8) rfl (show i < 2 ^ 8 by omega)
      clear htW htm hi h1 h2
      have hal := below_alloc (Below.refl wr.heap.size wr) (.cells #[.int .u8 (i : Int)] 5)
      have ht2 : (wr.alloc (.cells #[.int .u8 (i : Int)] 5)).cell? (ad.add i) = some (.int .u64 (tm : Int)) := pw_cell_below hal ht
      go_upto_region 17 with (fail)
      go_wp2_with fail
      have hbt := Bytes.newM (W := wr) (t := 5) (fr := (0, 0)) (g := wr.heap.size) (n := 1) (cs := #[.int .u8 (i : Int)]) [i] rfl rfl rfl (by simp) (by have := HI2.out; simp; omega)
      have HSE := hd (sseal_calls (r := ⟨r0, r1, r2, r3, r4, r5, r6⟩) (now := tm) (HSA.out.below hal) (own_bytes (HA1.out.below hal) HKB.out) (by have := HI.out.1; have := HI2.out; omega) (by have := HI.out.1; have := HI2.out; omega) hbt (HPL.out.below (below_seq HBW.out hal)) (by decide) HTMB.out)
      have HSAA := hd (HSA.out.below hal)
      have HRBA := hd (blk_below HRB.out hal)
      have HSBA := hd (HSB.out.below hal)
      have HA1A := hd (HA1.out.below hal)
      have HB2A := hd (HB2.out.below hal)
      have HNA := hd (HN.out.below hal)
      have HXA := hd (HX.out.below hal)
      have HBWA := hd (below_seq HBW.out hal)
      clear hal hbt ht ht2
      by_cases hex : expB ⟨r0, r1, r2, r3, r4, r5, r6⟩ 0 k tm = false
      · have hq1 := sb_exp hex
        rw [sb_seal HKL.out (by have := HI.out.1; have := HI2.out; omega) hex] at HSE
        refine HSE.out.mono ?_
        rintro e w2 ⟨vb, rfl, hob, hs2, hm2⟩
        dsimp only at hob hs2 hq1
        have HXL := hd (show (sealN key (nonceN k) [] [i]).length = 17 by rw [sealN_length]; rfl)
        have HXO := hd (sealN_ok key (nonceN k) [] (text := [i]) (fun x hx => by have := HI2.out; simp at hx; omega))
        obtain ⟨Ax, cx, rfl, _⟩ := hob.bytes 17 HXL.out HXO.out
        have hszA := hd HBWA.out.size
        have hap := Apart.one HSAA.out (e := 5) (by decide)
        have hapN := Apart.one HSAA.out (e := 22) (by decide)
        have hapS := Apart.one HSAA.out (e := 40) (by decide)
        have HRB2 := hd (hm2.block HRBA.out (ne_types HRBA.out HSAA.out (by decide)))
        have HSB2 := hd (show SesAt w2 gb ⟨r0, r1, r2, r3, r4, r5, r6⟩ 0 0 gb1 0 gb2 0 ⟨false, 0, (0, 0)⟩ from hm2.block HSBA.out (fun e => HNE.out e.symm))
        have HA12 := hd (HA1A.out.mod hm2 hap)
        have HB22 := hd (HB2A.out.mod hm2 hap)
        have HN2 := hd (HNA.out.mod hm2 hapN)
        have HX2 := hd (HXA.out.mod hm2 hap hapS)
        have HBW2 := hd (HBWA.out.trans (hm2.toBelow (fun k hk => by rw [hk]; exact HGA.out) HBWA.out.size))
        have HSA2 := hd hs2
        have ht3 := pw_cell_below HBW2.out HTW.out
        have c4 : w2.cell? ⟨q + 1, 4, none⟩ = some (.int .u64 (r4 : Int)) := by rw [blk_cell HRB2.out]; rfl
        have c6 : w2.cell? ⟨q + 1, 6, none⟩ = some (.int .u64 (r6 : Int)) := by rw [blk_cell HRB2.out]; rfl
        have hwk : IntKind.u64.wrap (k : Int) = (k : Int) := wrapN_u (k := .u64) rfl (show k < 2 ^ 64 by have := HI.out.1; have := HI2.out; omega)
        have HBX := hd (Box.own (hob.lower hszA.out) HXO.out (by rw [HXL.out]; decide))
        clear hob
        clear hap hapN hapS hs2 hm2 HSE HRBA HSBA HA1A HB2A HNA HXA HBWA HSAA
        have q1 : decide (tm < r4) = true := by simp; exact hq1.1
        have q1' : decide ((tm : Int) < (r4 : Int)) = true := by simp; exact hq1.1
        have q2 : decide (k < r6) = true := by simp; exact hq1.2
        have q2' : decide ((k : Int) < (r6 : Int)) = true := by simp; exact hq1.2
        have HQ1 := hd hq1
        clear hq1
        go_upto_region 18 with (fail)
        go_quiet (fail)
        generalize hwd : w2.drewN _ = w3
        have hdr : Below w2.heap.size w2 w3 := by rw [← hwd]; exact pw_below_drewN (Below.refl _ _) _
        have HRBz := hd (blk_below HRB2.out hdr)
        have HSAz := hd (HSA2.out.below hdr)
        have HSBz := hd (HSB2.out.below hdr)
        have HA1z := hd (HA12.out.below hdr)
        have HB2z := hd (HB22.out.below hdr)
        have HNz := hd (HN2.out.below hdr)
        have HXz := hd (HX2.out.below hdr)
        have HBWz := hd (below_seq HBW2.out hdr)
        replace HBX := hd (HBX.out.mod (S := fun _ => False) (Mod.below hdr) (fun _ _ _ h => h))
        clear hwd hdr ht3 c4 c6 hwk HRB2 HSA2 HSB2 HA12 HB22 HN2 HX2 HBW2
        have hsz := HBWz.out.size
        have hkk : ((List.range k).length + 1) * 8 ≤ 140737488355328 := by have := HI.out.1; have := HI2.out; simp; omega
        go_upto_region 22 with ((with_reducible refine gate_dst (N := 139) rfl ?_); at_builtin; refine op_append (k := .u64) (w0 := W) 139 rfl W.heap.size 22 25 (.tmp 136) (.tmp 138) rfl rfl Tryd.underlying25 Tryd.infoU64 (by decide) u19 (List.range k) _ k rfl rfl rfl HNz.out HBWz.out hsz hkk ?_; intro v4 w4 ho4 hb4 hg4)
        have hm4 : Mod (fun j => u19.ownBlock = some j) w3 w4 := Mod.grown hg4 (fun k hk => hk)
        replace HRBz := hd (hm4.block HRBz.out (R_not HNz.out HRBz.out (by decide)))
        replace HSAz := hd (show SesAt w4 ga ⟨r0, r1, r2, r3, r4, r5, r6⟩ 0 (k + 1) ga1 (k + 1) ga2 0 ⟨false, 0, (0, 0)⟩ from hm4.block HSAz.out (R_not HNz.out HSAz.out (by decide)))
        replace HSBz := hd (show SesAt w4 gb ⟨r0, r1, r2, r3, r4, r5, r6⟩ 0 0 gb1 0 gb2 0 ⟨false, 0, (0, 0)⟩ from hm4.block HSBz.out (R_not HNz.out HSBz.out (by decide)))
        replace HA1z := hd (HA1z.out.mod hm4 (R_apart HNz.out (by decide)))
        replace HB2z := hd (HB2z.out.mod hm4 (R_apart HNz.out (by decide)))
        replace HXz := hd (HXz.out.mod hm4 (R_apart HNz.out (by decide)) (R_apart HNz.out (by decide)))
        replace HBX := hd (HBX.out.mod hm4 (R_apart HNz.out (by decide)))
        replace HNz := hd ho4
        replace HBWz := hd hb4
        clear hm4 hg4 ho4 hb4 hsz hkk
        have hsz := HBWz.out.size
        obtain ⟨ss, hss, hsl, hsb⟩ := HXz.out
        have HSS := hd hss
        have HSL := hd (And.intro hsl hsb)
        have hsn : ss.length ≤ 2000000 := by have := HI.out.1; have := HI.out.2.1; have := HI2.out; omega
        clear hss hsl hsb
        go_wp2_with ((with_reducible refine gate_dst (N := 143) rfl ?_); at_builtin; refine op_appendS (w0 := W) 143 rfl W.heap.size (.tmp 140) (.tmp 142) rfl rfl (.slice Ab k cb) ss (Ax, 17, cx) rfl rfl HSS.out HBWz.out hsz hsn ?_; intro v5 w5 hr5 hb5 hg5)
        have hm5 : Mod (fun j => (Value.slice Ab k cb).ownBlock = some j) w4 w5 := Mod.grown hg5 (fun k hk => hk)
        replace HRBz := hd (hm5.block HRBz.out (R_not HSS.out HRBz.out (by decide)))
        replace HSAz := hd (show SesAt w5 ga ⟨r0, r1, r2, r3, r4, r5, r6⟩ 0 (k + 1) ga1 (k + 1) ga2 0 ⟨false, 0, (0, 0)⟩ from hm5.block HSAz.out (R_not HSS.out HSAz.out (by decide)))
        replace HSBz := hd (show SesAt w5 gb ⟨r0, r1, r2, r3, r4, r5, r6⟩ 0 0 gb1 0 gb2 0 ⟨false, 0, (0, 0)⟩ from hm5.block HSBz.out (R_not HSS.out HSBz.out (by decide)))
        replace HA1z := hd (HA1z.out.mod hm5 (R_apart HSS.out (by decide)))
        replace HB2z := hd (HB2z.out.mod hm5 (R_apart HSS.out (by decide)))
        replace HNz := hd (HNz.out.mod hm5 (R_apart HSS.out (by decide)))
        have HX6 := hd (BoxIn.snoc HSS.out HSL.out.1 HSL.out.2 HBX.out hr5 hg5)
        have HBW6 := hd hb5
        clear hm5 hg5 hr5 hb5
        go_roundw
        case rel =>
          refine ⟨i + 1, k + 1, ls ++ [sealN key (nonceN k) [] [i]], by have := HI2.out; omega, by go_num, ⟨by have := HI.out.1; omega, by rw [List.length_append, HI.out.2.1]; rfl, fun _ => by have := HQ1.out.1; omega, ?_⟩, ⟨by rw [List.range_succ]; exact HNz.out⟩, HX6, HSAz, HSBz, HA1z, HB2z, HRBz, HBW6⟩
          have h := HI.out.2.2.2.snoc (t := i) (by have := HI2.out; omega)
          rw [HI.out.2.1] at h
          exact h
        case measure => simp [intOf]; have := HI2.out; omega
      · have hex' : expB ⟨r0, r1, r2, r3, r4, r5, r6⟩ 0 k tm = true := by simpa using hex
        have hq1 := sb_exp2 hex'
        rw [sb_seal2 hex'] at HSE
        refine HSE.out.mono ?_
        rintro e w2 ⟨vb, rfl, hob, hs2, hm2⟩
        dsimp only at hob hs2 hq1
        have hap := Apart.one HSAA.out (e := 5) (by decide)
        have hapN := Apart.one HSAA.out (e := 22) (by decide)
        have hapS := Apart.one HSAA.out (e := 40) (by decide)
        have HRB2 := hd (hm2.block HRBA.out (ne_types HRBA.out HSAA.out (by decide)))
        have HSB2 := hd (show SesAt w2 gb ⟨r0, r1, r2, r3, r4, r5, r6⟩ 0 0 gb1 0 gb2 0 ⟨false, 0, (0, 0)⟩ from hm2.block HSBA.out (fun e => HNE.out e.symm))
        have HA12 := hd (HA1A.out.mod hm2 hap)
        have HB22 := hd (HB2A.out.mod hm2 hap)
        have HN2 := hd (HNA.out.mod hm2 hapN)
        have HX2 := hd (HXA.out.mod hm2 hap hapS)
        have HBW2 := hd (HBWA.out.trans (hm2.toBelow (fun k hk => by rw [hk]; exact HGA.out) HBWA.out.size))
        have HSA2 := hd hs2
        have ht3 := pw_cell_below HBW2.out HTW.out
        have c4 : w2.cell? ⟨q + 1, 4, none⟩ = some (.int .u64 (r4 : Int)) := by rw [blk_cell HRB2.out]; rfl
        have c6 : w2.cell? ⟨q + 1, 6, none⟩ = some (.int .u64 (r6 : Int)) := by rw [blk_cell HRB2.out]; rfl
        have hwk : IntKind.u64.wrap (k : Int) = (k : Int) := wrapN_u (k := .u64) rfl (show k < 2 ^ 64 by have := HI.out.1; have := HI2.out; omega)
        clear hap hapN hapS hs2 hm2 HSE HRBA HSBA HA1A HB2A HNA HXA HBWA HSAA
        clear hob
        have HQ1 := hd hq1
        clear hq1
        go_upto_region 18 with (fail)
        rcases HQ1.out with hq1 | hq1
        · have q1 : decide (tm < r4) = false := by simp; omega
          have q1' : decide ((tm : Int) < (r4 : Int)) = false := by simp; omega
          clear hq1
          go_quiet (fail)
          generalize hwd : w2.drewN _ = w3
          have hdr : Below w2.heap.size w2 w3 := by rw [← hwd]; exact pw_below_drewN (Below.refl _ _) _
          have HRBz := hd (blk_below HRB2.out hdr)
          have HSAz := hd (HSA2.out.below hdr)
          have HSBz := hd (HSB2.out.below hdr)
          have HA1z := hd (HA12.out.below hdr)
          have HB2z := hd (HB22.out.below hdr)
          have HNz := hd (HN2.out.below hdr)
          have HXz := hd (HX2.out.below hdr)
          have HBWz := hd (below_seq HBW2.out hdr)
          clear hwd hdr ht3 c4 c6 hwk HRB2 HSA2 HSB2 HA12 HB22 HN2 HX2 HBW2
          go_wp2
          go_roundw
          case rel => exact ⟨i + 1, k, ls, by have := HI2.out; omega, by go_num, ⟨by have := HI.out.1; omega, HI.out.2⟩, HNz, HXz, HSAz, HSBz, HA1z, HB2z, HRBz, HBWz⟩
          case measure => simp [intOf]; have := HI2.out; omega
        · by_cases h1 : tm < r4
          · have q1 : decide (tm < r4) = true := by simp; exact h1
            have q1' : decide ((tm : Int) < (r4 : Int)) = true := by simp; exact h1
            have q2 : decide (k < r6) = false := by simp; omega
            have q2' : decide ((k : Int) < (r6 : Int)) = false := by simp; omega
            clear hq1 h1
            go_quiet (fail)
            generalize hwd : w2.drewN _ = w3
            have hdr : Below w2.heap.size w2 w3 := by rw [← hwd]; exact pw_below_drewN (Below.refl _ _) _
            have HRBz := hd (blk_below HRB2.out hdr)
            have HSAz := hd (HSA2.out.below hdr)
            have HSBz := hd (HSB2.out.below hdr)
            have HA1z := hd (HA12.out.below hdr)
            have HB2z := hd (HB22.out.below hdr)
            have HNz := hd (HN2.out.below hdr)
            have HXz := hd (HX2.out.below hdr)
            have HBWz := hd (below_seq HBW2.out hdr)
            clear hwd hdr ht3 c4 c6 hwk HRB2 HSA2 HSB2 HA12 HB22 HN2 HX2 HBW2
            go_wp2
            go_roundw
            case rel => exact ⟨i + 1, k, ls, by have := HI2.out; omega, by go_num, ⟨by have := HI.out.1; omega, HI.out.2⟩, HNz, HXz, HSAz, HSBz, HA1z, HB2z, HRBz, HBWz⟩
            case measure => simp [intOf]; have := HI2.out; omega
          · have q1 : decide (tm < r4) = false := by simp; omega
            have q1' : decide ((tm : Int) < (r4 : Int)) = false := by simp; omega
            clear hq1 h1
            go_quiet (fail)
            generalize hwd : w2.drewN _ = w3
            have hdr : Below w2.heap.size w2 w3 := by rw [← hwd]; exact pw_below_drewN (Below.refl _ _) _
            have HRBz := hd (blk_below HRB2.out hdr)
            have HSAz := hd (HSA2.out.below hdr)
            have HSBz := hd (HSB2.out.below hdr)
            have HA1z := hd (HA12.out.below hdr)
            have HB2z := hd (HB22.out.below hdr)
            have HNz := hd (HN2.out.below hdr)
            have HXz := hd (HX2.out.below hdr)
            have HBWz := hd (below_seq HBW2.out hdr)
            clear hwd hdr ht3 c4 c6 hwk HRB2 HSA2 HSB2 HA12 HB22 HN2 HX2 HBW2
            go_wp2
            go_roundw
            case rel => exact ⟨i + 1, k, ls, by have := HI2.out; omega, by go_num, ⟨by have := HI.out.1; omega, HI.out.2⟩, HNz, HXz, HSAz, HSBz, HA1z, HB2z, HRBz, HBWz⟩
            case measure => simp [intOf]; have := HI2.out; omega
    · go_upto_region 15 with (fail)
      go_cut [92] (fun u92 wx => u92 = .bool false ∧ wx = wr)
      case first =>
        by_cases h1 : i < n
        · have i1 : (i : Int) < n := by omega
          have i2 : ¬ ((i : Int) < 30) := by omega
          clear hlt h1 hi
          go_wp2
          go_meet
          case rel => exact ⟨by first | rfl | (simp; done) | (simp; omega), rfl⟩
        · have i1 : ¬ ((i : Int) < n) := by omega
          clear hlt h1 hi
          go_wp2
          go_meet
          case rel => exact ⟨by first | rfl | (simp; done) | (simp; omega), rfl⟩
      case rest =>
        obtain ⟨rfl, rfl⟩ := hcut
        clear hlt
        obtain ⟨An, cn, rfl, hcn, _⟩ := HN.out.slice
        rw [List.length_range] at hcn HN ⊢
        go_upto_region 25 with (fail)
        have hbk := blk_new wc (.cells (boolsA (List.replicate 30 false)) 69)
        have hal := below_alloc (Below.refl wc.heap.size wc) (.cells (boolsA (List.replicate 30 false)) 69)
        have e9 : wc.alloc (.cells #[.bool false, .bool false, .bool false, .bool false, .bool false, .bool false, .bool false, .bool false, .bool false, .bool false, .bool false, .bool false, .bool false, .bool false, .bool false, .bool false, .bool false, .bool false, .bool false, .bool false, .bool false, .bool false, .bool false, .bool false, .bool false, .bool false, .bool false, .bool false, .bool false, .bool false] 69) = wc.alloc (.cells (boolsA (List.replicate 30 false)) 69) := rfl
        rw [e9]
        replace HN := hd (HN.out.below hal)
        replace HX := hd (HX.out.below hal)
        replace HSA := hd (HSA.out.below hal)
        replace HSB := hd (HSB.out.below hal)
        replace HB2 := hd (HB2.out.below hal)
        replace HRB := hd (blk_below HRB.out hal)
        have HGS0 := hd HBW.out.size
        replace HBW := hd (below_seq HBW.out hal)
        clear e9
        generalize wc.alloc (.cells (boolsA (List.replicate 30 false)) 69) = w9 at hbk hal HN HX HSA HSB HB2 HRB HBW ⊢
        clear hal
        obtain ⟨gs, hgs⟩ : ∃ gs, gs = wc.heap.size := ⟨_, rfl⟩
        have HGS := hd (show W.heap.size ≤ gs by rw [hgs]; exact HGS0.out)
        rw [← hgs] at hbk ⊢
        have HSL := hd hbk
        clear hbk hgs HGS0
        go_loopw [26] (fun u26 wy => ∃ (j : Nat) (sl : List Bool) (cl : List Nat) (v : Win), j ≤ 60 ∧ u26 = .int .i64 j ∧ Aside0 (SbSeen sl cl v) ∧ Aside0 (wy.heap[gs]? = some (.cells (boolsA sl) 69 (0, 0))) ∧ Aside0 (OwnK .u64 22 W.heap.size wy (.slice An k cn) (List.range k)) ∧ Aside0 (BoxIn W wy (.slice Ab k cb) ls) ∧ Aside0 (SesAt wy ga ⟨r0, r1, r2, r3, r4, r5, r6⟩ 0 k ga1 k ga2 0 ⟨false, 0, (0, 0)⟩) ∧ Aside0 (SesAt wy gb ⟨r0, r1, r2, r3, r4, r5, r6⟩ 0 0 gb1 0 gb2 0 v) ∧ Aside0 (OwnK .u8 5 W.heap.size wy gb2.v key) ∧ Aside0 (wy.heap[q + 1]? = some (.cells #[.int .u64 (r0 : Int), .int .u64 (r1 : Int), .int .i64 r2, .int .u64 (r3 : Int), .int .u64 (r4 : Int), .int .u64 (r5 : Int), .int .u64 (r6 : Int)] 24 (0, 0))) ∧ Aside0 (Below W.heap.size W wy)) (fun u26 _ => 60 - (intOf u26).toNat)
        case atStart => exact ⟨0, List.replicate 30 false, [], ⟨false, 0, (0, 0)⟩, by decide, rfl, ⟨SbSeen.init⟩, HSL, HN, HX, HSA, HSB, HB2, HRB, HBW⟩
        case round =>
          obtain ⟨j, sl, cl, v, hj, rfl, HSEEN, HSL, HN, HX, HSA, HSB, HB2, HRB, HBW⟩ := hrel
          by_cases hlt : (j < m ∧ j < 60) ∧ 0 < k
          · obtain ⟨⟨h1, h2⟩, h3⟩ := hlt
            have j1 : (j : Int) < m := by omega
            have j2 : (j : Int) < 60 := by omega
            have k1 : (0 : Int) < k := by omega
            have hmd : (m : Int) ≤ d := by have := HO.out.2.1; omega
            obtain ⟨ado, rfl, hcz⟩ := HO.out.2.2.2 (by omega)
            have hc5 := pw_cell_below HBW.out (hcz j h1)
            obtain ⟨z, hzz⟩ : ∃ z, Aside0 (zs.getD j 0 = z) := ⟨_, ⟨rfl⟩⟩
            rw [hzz.out] at hc5
            obtain ⟨p, hp, hp2⟩ := and_mask_i64 z 16 (by decide)
            have hp1 : bits .and .i64 z 65535 = (p : Int) := hp
            have p9 : (p : Int) ≤ 65536 := by omega
            have HJ := hd (And.intro h2 h3)
            have HK := hd (show k ≤ 30 ∧ 0 < r4 by have := HI.out.1; exact ⟨by omega, HI.out.2.2.1 h3⟩)
            have k9 : (k : Int) ≤ 30 := by have := HK.out.1; omega
            clear hp hp2 hcz h1 h2 hj
            go_upto_region 28 with (fail)
            rw [show ((p : Int) % (k : Int)) = ((p % k : Nat) : Int) from rfl]
            obtain ⟨y, hy⟩ : ∃ y, y = p % k := ⟨_, rfl⟩
            rw [← hy]
            have hy2 : y < k := by rw [hy]; exact Nat.mod_lt _ h3
            have y1 : (y : Int) < k := by omega
            have y2 : (y : Int) < 30 := by omega
            have HY := hd hy2
            clear hy hy2 hp1 hc5 hzz h3
            obtain ⟨adn, x, rfl, hx, hnc⟩ := (HN.out.row.2.2).at_ y (by rw [List.length_range]; exact HY.out)
            have hxy : x = y := by rw [← hx.out]; simp [List.getD_eq_getElem?_getD, HY.out]
            rw [hxy] at hnc
            clear hx hxy
            obtain ⟨g5, c5, A5, m5, d5, e5, hbc, hk5, hby⟩ := HX.out.at_ HBW.out y (by rw [HI.out.2.1]; exact HY.out)
            injection e5 with e51 e52 e53
            subst e51
            subst e53
            obtain ⟨t5, ht5, hbe⟩ := HI.out.2.2.2 y (by rw [HI.out.2.1]; exact HY.out)
            rw [hbe] at hby
            have hm5 : m5 ≤ 100000000 := by have := hby.2.1; rw [sealN_length] at this; simp at this; omega
            have n1 : (k : Int) ≤ cn := by omega
            have n2 : (k : Int) ≤ cb := by omega
            have y30 : y < 30 := by have := HK.out.1; have := HY.out; omega
            obtain ⟨tx, er, v2, cl2, HOS, HCS, HS2⟩ : ∃ (tx : List Nat) (er : Nat) (v2 : Win) (cl2 : List Nat), Aside0 (openS ⟨r0, r1, r2, r3, r4, r5, r6⟩ 0 v key y (sealN key (nonceN y) [] [t5]) 0 = (tx, er, v2)) ∧ Aside0 ((sl.getD y false = true ∧ er = 43) ∨ (sl.getD y false = false ∧ er = 0 ∧ tx.length = 1)) ∧ Aside0 (SbSeen (sl.set y true) cl2 v2) := by
              have hc := HSEEN.out.check y30
              cases hse : sl.getD y false
              · rw [hse, if_neg (by simp)] at hc
                exact ⟨[t5], 0, markW v y, cl ++ [y], ⟨sb_open2 HK.out.2 hc HKL.out (by omega) rfl⟩, ⟨Or.inr ⟨rfl, rfl, rfl⟩⟩, ⟨HSEEN.out.mark y30 hse⟩⟩
              · rw [hse, if_pos rfl] at hc
                exact ⟨[], 43, v, cl, ⟨sb_open1 HK.out.2 hc⟩, ⟨Or.inl ⟨rfl, rfl⟩⟩, ⟨HSEEN.out.again y30 hse⟩⟩
            have HSLL := hd HSEEN.out.1
            have HBY := hd hby
            have HM5 := hd hm5
            have HY30 := hd y30
            have HVOK := hd HSEEN.out.2.2.1
            clear hbe hby ht5 e52 hm5 y30 hcb hcn hk5 HSEEN
            obtain ⟨b5, hb5⟩ : ∃ b5, Aside0 (sl.getD y false = b5) := ⟨_, ⟨rfl⟩⟩
            rw [hb5.out] at HCS
            refine upR_start Keeps.any [9] [(0, 1), (1, 1), (2, 1), (3, 1), (4, 1), (5, 1), (6, 1), (7, 1), (8, 1), (9, 0), (10, 1), (11, 1), (12, 1), (13, 1), (14, 1)] (by kernel_rfl) rfl (by kernel_rfl) (by kernel_rfl) ?_
            have hdr := below_drew (Below.refl wr.heap.size wr)
            replace HBY := hd (HBY.out.below hdr)
            replace HSL := hd (blk_below HSL.out hdr)
            replace HN := hd (HN.out.below hdr)
            replace HX := hd (HX.out.below hdr)
            replace HSA := hd (HSA.out.below hdr)
            replace HSB := hd (HSB.out.below hdr)
            replace HB2 := hd (HB2.out.below hdr)
            replace HRB := hd (blk_below HRB.out hdr)
            replace HBW := hd (below_seq HBW.out hdr)
            have t8 := Grow.cells (pw_cell_below hdr hnc)
            have t9 := Grow.cells (pw_cell_below hdr hbc)
            generalize wr.drew = w10 at hdr HBY HSL HN HX HSA HSB HB2 HRB HBW t8 t9 ⊢
            clear hdr hnc hbc
            have HOP := hd (sopen_calls (r := ⟨r0, r1, r2, r3, r4, r5, r6⟩) (now := 0) (n := y) HSB.out HVOK.out (own_bytes HB2.out HKB.out) (by have := HY30.out; omega) HBY.out (HPL.out.below HBW.out) HM5.out (by decide))
            rw [HOS.out] at HOP
            refine rseq_pure (i := 0) (N := some 168) (v := ?_) (a' := ?_) rfl rfl (by rfl) (fun _ _ _ h => h) ?_ ?_ ?_
            rotate_left 2
            · intro w' hg
              go_simp
              with_reducible rfl
            · simp only [Act.put, List.setIfInBounds_toArray, List.set_cons_zero, List.set_cons_succ, i64_w, i32_w]
              rfl
            refine rseq_pure (i := 1) (N := some 169) (v := ?_) (a' := ?_) rfl rfl (by rfl) (fun _ _ _ h => h) ?_ ?_ ?_
            rotate_left 2
            · intro w' hg
              go_simp
              with_reducible rfl
            · simp only [Act.put, List.setIfInBounds_toArray, List.set_cons_zero, List.set_cons_succ, i64_w, i32_w]
              rfl
            refine rseq_pure (i := 2) (N := some 170) (v := ?_) (a' := ?_) rfl rfl (by rfl) (fun _ _ _ h => h) ?_ ?_ ?_
            rotate_left 2
            · intro w' hg
              go_simp
              with_reducible rfl
            · simp only [Act.put, List.setIfInBounds_toArray, List.set_cons_zero, List.set_cons_succ, i64_w, i32_w]
              rfl
            refine rseq_pure (i := 3) (N := some 171) (v := ?_) (a' := ?_) rfl rfl (by rfl) (fun _ _ _ h => h) ?_ ?_ ?_
            rotate_left 2
            · intro w' hg
              go_simp
              with_reducible rfl
            · simp only [Act.put, List.setIfInBounds_toArray, List.set_cons_zero, List.set_cons_succ, i64_w, i32_w]
              rfl
            refine rseq_pure (i := 4) (N := some 172) (v := ?_) (a' := ?_) rfl rfl (by rfl) (fun _ _ _ h => h) ?_ ?_ ?_
            rotate_left 2
            · intro w' hg
              go_simp
              with_reducible rfl
            · simp only [Act.put, List.setIfInBounds_toArray, List.set_cons_zero, List.set_cons_succ, i64_w, i32_w]
              rfl
            refine rseq_pure (i := 5) (N := some 173) (v := ?_) (a' := ?_) rfl rfl (by rfl) (fun _ _ _ h => h) ?_ ?_ ?_
            rotate_left 2
            · intro w' hg
              go_simp
              with_reducible rfl
            · simp only [Act.put, List.setIfInBounds_toArray, List.set_cons_zero, List.set_cons_succ, i64_w, i32_w]
              rfl
            refine rseq_pure (i := 6) (N := some 174) (v := ?_) (a' := ?_) rfl rfl (by rfl) (fun _ _ _ h => h) ?_ ?_ ?_
            rotate_left 2
            · intro w' hg
              go_simp
              with_reducible rfl
            · simp only [Act.put, List.setIfInBounds_toArray, List.set_cons_zero, List.set_cons_succ, i64_w, i32_w]
              rfl
            refine rseq_pure (i := 7) (N := some 175) (v := ?_) (a' := ?_) rfl rfl (by rfl) (fun _ _ _ h => h) ?_ ?_ ?_
            rotate_left 2
            · intro w' hg
              go_simp
              with_reducible rfl
            · simp only [Act.put, List.setIfInBounds_toArray, List.set_cons_zero, List.set_cons_succ, i64_w, i32_w]
              rfl
            refine rseq_pure (i := 8) (N := some 176) (v := ?_) (a' := ?_) rfl rfl (by rfl) (fun _ _ _ h => h) ?_ ?_ ?_
            rotate_left 2
            · intro w' hg
              go_simp
              with_reducible rfl
            · simp only [Act.put, List.setIfInBounds_toArray, List.set_cons_zero, List.set_cons_succ, i64_w, i32_w]
              rfl
            refine rseq_call (i := 9) (N := some 177) rfl rfl Tryd.func24 (by kernel_rfl) rfl #[.pointer (some ⟨gb, 0, none⟩), .int .u64 (y : Int), .slice A5 m5 d5, .int .u64 0] (by rfl) rfl ?_ ?_
            · simp only [List.map_toArray, List.map_cons, List.map_nil]
              rfl
            refine HOP.out.mono ?_
            rintro e w11 ⟨vb, rfl, hob, hs2, hm2⟩
            dsimp only at hob hs2
            obtain ⟨At, ct, rfl, _, _⟩ := OwnK.slice hob
            obtain ⟨nt, HNT⟩ : ∃ nt, Aside0 (tx.length = nt) := ⟨_, ⟨rfl⟩⟩
            rw [HNT.out] at hob ⊢
            have hap := Apart.one HSB.out (e := 5) (by decide)
            have HNEB := hd (ne_types HSL.out HSB.out (by decide))
            replace HSL := hd (hm2.block HSL.out HNEB.out)
            replace HN := hd (HN.out.mod hm2 (Apart.one HSB.out (by decide)))
            replace HX := hd (HX.out.mod hm2 hap (Apart.one HSB.out (by decide)))
            replace HSA := hd (show SesAt w11 ga ⟨r0, r1, r2, r3, r4, r5, r6⟩ 0 k ga1 k ga2 0 ⟨false, 0, (0, 0)⟩ from hm2.block HSA.out HNE.out)
            replace HB2 := hd (HB2.out.mod hm2 hap)
            replace HRB := hd (hm2.block HRB.out (ne_types HRB.out HSB.out (by decide)))
            replace HBW := hd (HBW.out.trans (hm2.toBelow (fun k hk => by rw [hk]; exact HGB.out) HBW.out.size))
            replace HSB := hd hs2
            refine ⟨_, rfl, ⟨fun h => absurd (by decide) h, trivial⟩, ?_⟩
            clear hob hs2 hm2 hap HOP HNEB HBY
            refine rseq_norm (a' := ?_) ?_ ?_
            rotate_left
            · show Act.put _ (some 177) _ = _
              simp only [Act.put, List.setIfInBounds_toArray, List.set_cons_zero, List.set_cons_succ, i64_w, i32_w]
              rfl
            refine rseq_pure (i := 10) (N := some 167) (v := ?_) (a' := ?_) rfl rfl (by rfl) (fun _ _ _ h => h) ?_ ?_ ?_
            rotate_left 2
            · intro w' hg
              go_simp
              with_reducible rfl
            · simp only [Act.put, List.setIfInBounds_toArray, List.set_cons_zero, List.set_cons_succ, i64_w, i32_w]
              rfl
            refine rseq_pure (i := 11) (N := some 178) (v := ?_) (a' := ?_) rfl rfl (by rfl) (fun _ _ _ h => h) ?_ ?_ ?_
            rotate_left 2
            · intro w' hg
              go_simp
              with_reducible rfl
            · simp only [Act.put, List.setIfInBounds_toArray, List.set_cons_zero, List.set_cons_succ, i64_w, i32_w]
              rfl
            refine rseq_pure (i := 12) (N := some 179) (v := ?_) (a' := ?_) rfl rfl (by rfl) (fun _ _ _ h => h) ?_ ?_ ?_
            rotate_left 2
            · intro w' hg
              go_simp
              with_reducible rfl
            · simp only [Act.put, List.setIfInBounds_toArray, List.set_cons_zero, List.set_cons_succ, i64_w, i32_w]
              rfl
            refine rseq_pure (i := 13) (N := some 28) (v := ?_) (a' := ?_) rfl rfl (by rfl) (fun _ _ _ h => h) ?_ ?_ ?_
            rotate_left 2
            · intro w' hg
              go_simp
              with_reducible rfl
            · simp only [Act.put, List.setIfInBounds_toArray, List.set_cons_zero, List.set_cons_succ, i64_w, i32_w]
              rfl
            refine rseq_pure (i := 14) (N := some 29) (v := ?_) (a' := ?_) rfl rfl (by rfl) (fun _ _ _ h => h) ?_ ?_ ?_
            rotate_left 2
            · intro w' hg
              go_simp
              with_reducible rfl
            · simp only [Act.put, List.setIfInBounds_toArray, List.set_cons_zero, List.set_cons_succ, i64_w, i32_w]
              rfl
            refine rseq_done ?_
            go_upto_region 29 with (fail)
            have c4 : w11.cell? ⟨q + 1, 4, none⟩ = some (.int .u64 (r4 : Int)) := by rw [blk_cell HRB.out]; rfl
            have q4 : ((r4 : Int) == 0) = false := by have := HK.out.2; simp; omega
            have s5 : w11.cell? ⟨gs, y, none⟩ = some (.bool b5) := by rw [blk_cell HSL.out, boolsA_at _ _ (by rw [HSLL.out]; exact HY30.out), hb5.out]
            have f5 := blk_frozen HSL.out y
            have hfin := blk_set HSL.out y (.bool true)
            rw [boolsA_set] at hfin
            have HFIN := hd hfin
            have HMS := hd (Mod.set (S := fun g => g = gs) (g := gs) (i := y) w11 rfl (.bool true))
            have HWW := hd (show Below W.heap.size W (w11.setCell ⟨gs, y, none⟩ (.bool true)) from HBW.out.trans (HMS.out.toBelow (fun k hk => by rw [hk]; exact HGS.out) HBW.out.size))
            have HSA9 := hd (show SesAt (w11.setCell ⟨gs, y, none⟩ (.bool true)) ga ⟨r0, r1, r2, r3, r4, r5, r6⟩ 0 k ga1 k ga2 0 ⟨false, 0, (0, 0)⟩ from HMS.out.block HSA.out (ne_types HSA.out HSL.out (by decide)))
            have HSB9 := hd (show SesAt (w11.setCell ⟨gs, y, none⟩ (.bool true)) gb ⟨r0, r1, r2, r3, r4, r5, r6⟩ 0 0 gb1 0 gb2 0 v2 from HMS.out.block HSB.out (ne_types HSB.out HSL.out (by decide)))
            have HRB9 := hd (HMS.out.block HRB.out (ne_types HRB.out HSL.out (by decide)))
            have HB29 := hd (HB2.out.mod HMS.out (Apart.one HSL.out (by decide)))
            have HN9 := hd (HN.out.mod HMS.out (Apart.one HSL.out (by decide)))
            have HX9 := hd (HX.out.mod HMS.out (Apart.one HSL.out (by decide)) (Apart.one HSL.out (by decide)))
            clear hfin
            rcases HCS.out with ⟨rfl, rfl⟩ | ⟨rfl, rfl, hlen⟩
            · go_wp2
              go_roundw
              case rel => exact ⟨j + 1, sl.set y true, cl2, v2, by have := HJ.out.1; omega, by go_num, HS2, HFIN, HN9, HX9, HSA9, HSB9, HB29, HRB9, HWW⟩
              case measure => simp [intOf]; have := HJ.out.1; omega
            · rw [HNT.out] at hlen
              subst hlen
              go_wp2
              go_roundw
              case rel => exact ⟨j + 1, sl.set y true, cl2, v2, by have := HJ.out.1; omega, by go_num, HS2, HFIN, HN9, HX9, HSA9, HSB9, HB29, HRB9, HWW⟩
              case measure => simp [intOf]; have := HJ.out.1; omega
          · go_upto_region 25 with (fail)
            go_cut [156] (fun u156 wx => u156 = .bool false ∧ wx = wr)
            case first =>
              by_cases h1 : j < m
              · have j1 : (j : Int) < m := by omega
                by_cases h2 : j < 60
                · have j2 : (j : Int) < 60 := by omega
                  have k1 : ¬ ((0 : Int) < k) := by omega
                  clear hlt h1 h2 hj
                  go_wp2
                  go_meet
                  case rel => exact ⟨by first | rfl | (simp; done) | (simp; omega), rfl⟩
                · have j2 : ¬ ((j : Int) < 60) := by omega
                  clear hlt h1 h2 hj
                  go_wp2
                  go_meet
                  case rel => exact ⟨by first | rfl | (simp; done) | (simp; omega), rfl⟩
              · have j1 : ¬ ((j : Int) < m) := by omega
                clear hlt h1 hj
                go_wp2
                go_meet
                case rel => exact ⟨by first | rfl | (simp; done) | (simp; omega), rfl⟩
            case rest =>
              obtain ⟨rfl, rfl⟩ := hcut
              clear hlt
              have hwk : IntKind.u64.wrap (k : Int) = (k : Int) := wrapN_u (k := .u64) rfl (show k < 2 ^ 64 by have := HI.out.1; omega)
              clear hi hj hcn hcb
              go_wp2_with fail
              refine (sent_calls HSA.out).mono ?_
              rintro e _ ⟨rfl, rfl⟩
              go_wp2
              go_ret
              exact ⟨by first | rfl | simp, HBW.out⟩
end Go.Proofs.YtlgdplodglchaaaDoor
