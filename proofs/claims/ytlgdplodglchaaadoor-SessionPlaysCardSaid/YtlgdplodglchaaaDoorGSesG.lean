/- Texts put together: SesM SesO SesX AeadAwP SesA OpenR. -/
import Derived.Test.YtlgdplodglchaaaDoorGSesF
import Derived.Test.YtlgdplodglchaaaDoorGAead
import Derived.Lib.SmallJoins
import Derived.Lib.SlBytesConst
import Derived.OpenShut
import Derived.Deep.Slices
import Derived.Deep.Fields
import Derived.ChangeSame
/- The walks through session.New, Timer.Again. -/
set_option linter.unusedVariables false
set_option linter.unusedSimpArgs false
namespace Go.Proofs.YtlgdplodglchaaaDoor
open Go.RowKit Go.Proofs.YtlgdplodglchaaaDoorW.PrintWords Go.Proofs.YtlgdplodglchaaaDoorW.PrintLast Go.Proofs.YtlgdplodglchaaaDoorW.PrintMore
theorem blk_set_ne {w : World} {g i k : Nat} {o : Obj} (h : w.heap[k]? = some o) (hne : k ≠ g) (x : Value) : (w.setCell ⟨g, i, none⟩ x).heap[k]? = some o :=
  (Mod.set (S := fun k => k = g) w rfl x).block h hne
section
variable {w : World} {g now born sent N1 N2 last : Nat} {tries : Int} {r : Rul} {k1 k2 : Sl} {v : Win} {key1 key2 : List Nat}
def NewPost (w : World) (r : Rul) (now N1 N2 : Nat) (key1 key2 : List Nat) (e : Ending) (w' : World) : Prop :=
  ∃ g k1 k2, e = .returned (.pointer (some ⟨g, 0, none⟩)) ∧ SesAt w' g r now 0 k1 N1 k2 N2 ⟨false, 0, (0, 0)⟩ ∧ OwnK .u8 5 w.heap.size w' k1.v key1 ∧ OwnK .u8 5 w.heap.size w' k2.v key2 ∧ w.heap.size ≤ g ∧ Below w.heap.size w w'
set_option maxHeartbeats 1000000 in
set_option maxRecDepth 100000 in
theorem new_calls {A1 A2 : Option Addr} {n1 c1 n2 c2 : Nat} (h1 : Bytes w A1 n1 c1 key1) (h2 : Bytes w A2 n2 c2 key2) (hn1 : n1 ≤ 100000000) (hn2 : n2 ≤ 100000000) :
    Calls Tryd.prog 21 #[.agg #[.slice A1 n1 c1, .int .u64 (N1 : Int)], .agg #[.slice A2 n2 c2, .int .u64 (N2 : Int)], r.v, .int .u64 (now : Int)] w (NewPost w r now N1 N2 key1 key2) := by
  obtain ⟨r0, r1, r2, r3, r4, r5, r6⟩ := r
  have HP := hd (show ∀ e w', NewPost w ⟨r0, r1, r2, r3, r4, r5, r6⟩ now N1 N2 key1 key2 e w' → NewPost w ⟨r0, r1, r2, r3, r4, r5, r6⟩ now N1 N2 key1 key2 e w' from fun _ _ h => h)
  obtain ⟨post, hpost⟩ : ∃ post, Aside0 (NewPost w ⟨r0, r1, r2, r3, r4, r5, r6⟩ now N1 N2 key1 key2 = post) := ⟨_, ⟨rfl⟩⟩
  rw [hpost.out]
  unfold Rul.v
  dsimp only
  obtain ⟨o1, ho1⟩ : ∃ o1 : Obj, o1 = .cells #[.slice A1 n1 c1, .int .u64 (N1 : Int)] 46 := ⟨_, rfl⟩
  obtain ⟨o2, ho2⟩ : ∃ o2 : Obj, o2 = .cells #[.slice A2 n2 c2, .int .u64 (N2 : Int)] 46 := ⟨_, rfl⟩
  obtain ⟨o3, ho3⟩ : ∃ o3 : Obj, o3 = .cells #[.int .u64 (r0 : Int), .int .u64 (r1 : Int), .int .i64 r2, .int .u64 (r3 : Int), .int .u64 (r4 : Int), .int .u64 (r5 : Int), .int .u64 (r6 : Int)] 24 := ⟨_, rfl⟩
  have a1 := below_alloc (Below.refl w.heap.size w) o1
  have a2 := below_alloc (Below.refl (w.alloc o1).heap.size (w.alloc o1)) o2
  have a3 := below_alloc (Below.refl ((w.alloc o1).alloc o2).heap.size ((w.alloc o1).alloc o2)) o3
  have b4 := blk_below (blk_below (blk_new w o1) a2) a3
  have b5 := blk_below (blk_new (w.alloc o1) o2) a3
  have b6 := blk_new ((w.alloc o1).alloc o2) o3
  simp only [World.size_alloc] at b5 b6
  have HA := hd (below_seq a1 (below_seq a2 a3))
  have HB1 := hd h1
  have HB2 := hd h2
  clear a1 a2 a3 HP h1 h2
  subst ho1 ho2 ho3
  have HB4 := hd b4
  have HB5 := hd b5
  have HB6 := hd b6
  clear b4 b5 b6
  go_enter Tryd.func21, Tryd.ntmps21
  go_upto_region 1 with (fail)
  generalize (((w.alloc (.cells #[.slice A1 n1 c1, .int .u64 (N1 : Int)] 46)).alloc (.cells #[.slice A2 n2 c2, .int .u64 (N2 : Int)] 46)).alloc (.cells #[.int .u64 (r0 : Int), .int .u64 (r1 : Int), .int .i64 r2, .int .u64 (r3 : Int), .int .u64 (r4 : Int), .int .u64 (r5 : Int), .int .u64 (r6 : Int)] 24)) = w3 at HA HB4 HB5 HB6 ⊢
  have HSZ := hd HA.out.size
  obtain ⟨q, hq⟩ : ∃ q, Aside0 (w.heap.size = q) := ⟨_, ⟨rfl⟩⟩
  rw [hq.out] at HB4 HB5 HB6 ⊢
  refine upR_start Keeps.any [7, 9] [(0, 1), (1, 1), (3, 1), (4, 1), (2, 0), (6, 1), (5, 0), (7, 0), (8, 1), (9, 0)] (by kernel_rfl) rfl (by kernel_rfl) (by kernel_rfl) ?_
  have HBW := hd (below_seq HA.out (below_drew (Below.refl w3.heap.size w3)))
  replace HB4 := hd (blk_below HB4.out (below_drew (Below.refl w3.heap.size w3)))
  replace HB5 := hd (blk_below HB5.out (below_drew (Below.refl w3.heap.size w3)))
  replace HB6 := hd (blk_below HB6.out (below_drew (Below.refl w3.heap.size w3)))
  generalize w3.drew = w5 at HBW HB4 HB5 HB6 ⊢
  have t4 := Grow.cells (show w5.cell? ⟨q, 0, none⟩ = some (.slice A1 n1 c1) by rw [blk_cell HB4.out]; rfl)
  have t5 := Grow.cells (show w5.cell? ⟨q + 1, 0, none⟩ = some (.slice A2 n2 c2) by rw [blk_cell HB5.out]; rfl)
  have HY1 := hd (HB1.out.below HBW.out)
  have HY2 := hd (HB2.out.below HBW.out)
  clear HB1 HB2
  refine rseq_pure (i := 0) (N := some 9) (v := ?_) (a' := ?_) rfl rfl (by rfl) (fun _ _ _ h => h) ?_ ?_ ?_
  rotate_left 2
  · intro w' hg
    go_simp
    with_reducible rfl
  · simp only [Act.put, List.setIfInBounds_toArray, List.set_cons_zero, List.set_cons_succ, i64_w, i32_w]
    rfl
  refine rseq_pure (i := 1) (N := some 10) (v := ?_) (a' := ?_) rfl rfl (by rfl) (fun _ _ _ h => h) ?_ ?_ ?_
  rotate_left 2
  · intro w' hg
    go_simp
    with_reducible rfl
  · simp only [Act.put, List.setIfInBounds_toArray, List.set_cons_zero, List.set_cons_succ, i64_w, i32_w]
    rfl
  refine rseq_pure (i := 3) (N := some 12) (v := ?_) (a' := ?_) rfl rfl (by rfl) (fun _ _ _ h => h) ?_ ?_ ?_
  rotate_left 2
  · intro w' hg
    go_simp
    with_reducible rfl
  · simp only [Act.put, List.setIfInBounds_toArray, List.set_cons_zero, List.set_cons_succ, i64_w, i32_w]
    rfl
  refine rseq_pure (i := 4) (N := some 13) (v := ?_) (a' := ?_) rfl rfl (by rfl) (fun _ _ _ h => h) ?_ ?_ ?_
  rotate_left 2
  · intro w' hg
    go_simp
    with_reducible rfl
  · simp only [Act.put, List.setIfInBounds_toArray, List.set_cons_zero, List.set_cons_succ, i64_w, i32_w]
    rfl
  refine rseq_call (i := 2) (N := some 11) rfl rfl Tryd.func56 (by kernel_rfl) rfl #[.slice A1 n1 c1] (by rfl) rfl ?_ ?_
  · simp only [List.map_toArray, List.map_cons, List.map_nil]
    rfl
  refine (clone_any HY1.out hn1).mono ?_
  rintro e w6 ⟨vk1, rfl, ho1, hb6⟩
  obtain ⟨Ak1, ck1, rfl, _, _⟩ := OwnK.slice ho1
  obtain ⟨nk1, hnk1⟩ : ∃ nk1, nk1 = key1.length := ⟨_, rfl⟩
  rw [← hnk1] at ho1 ⊢
  refine ⟨_, rfl, ⟨fun _ => hb6, trivial⟩, ?_⟩
  have HO1 := hd (ho1.lower HBW.out.size)
  replace HY2 := hd (HY2.out.below hb6)
  replace HBW := hd (below_seq HBW.out hb6)
  replace HB4 := hd (blk_below HB4.out hb6)
  replace HB5 := hd (blk_below HB5.out hb6)
  replace HB6 := hd (blk_below HB6.out hb6)
  clear ho1 hb6 hnk1
  refine rseq_norm (a' := ?_) ?_ ?_
  rotate_left
  · show Act.put _ (some 11) _ = _
    simp only [Act.put, List.setIfInBounds_toArray, List.set_cons_zero, List.set_cons_succ, i64_w, i32_w]
    rfl
  refine rseq_pure (i := 6) (N := some 15) (v := ?_) (a' := ?_) rfl rfl (by rfl) (fun _ _ _ h => h) ?_ ?_ ?_
  rotate_left 2
  · intro w' hg
    go_simp
    with_reducible rfl
  · simp only [Act.put, List.setIfInBounds_toArray, List.set_cons_zero, List.set_cons_succ, i64_w, i32_w]
    rfl
  refine rseq_call (i := 5) (N := some 14) rfl rfl Tryd.func56 (by kernel_rfl) rfl #[.slice A2 n2 c2] (by rfl) rfl ?_ ?_
  · simp only [List.map_toArray, List.map_cons, List.map_nil]
    rfl
  refine (clone_any HY2.out hn2).mono ?_
  rintro e w7 ⟨vk2, rfl, ho2, hb7⟩
  obtain ⟨Ak2, ck2, rfl, _, _⟩ := OwnK.slice ho2
  obtain ⟨nk2, hnk2⟩ : ∃ nk2, nk2 = key2.length := ⟨_, rfl⟩
  rw [← hnk2] at ho2 ⊢
  refine ⟨_, rfl, ⟨fun _ => hb7, trivial⟩, ?_⟩
  have HO2 := hd (ho2.lower HBW.out.size)
  replace HO1 := hd (HO1.out.below hb7)
  replace HBW := hd (below_seq HBW.out hb7)
  replace HB4 := hd (blk_below HB4.out hb7)
  replace HB5 := hd (blk_below HB5.out hb7)
  replace HB6 := hd (blk_below HB6.out hb7)
  clear ho2 hb7 hnk2 HY1 HY2 t4 t5
  have y4 : w7.cell? ⟨q, 0, none⟩ = some (.slice A1 n1 c1) := by rw [blk_cell HB4.out]; rfl
  have y5 : (w7.setCell ⟨q, 0, none⟩ (.slice Ak1 nk1 ck1)).cell? ⟨q + 1, 0, none⟩ = some (.slice A2 n2 c2) := by rw [blk_cell (blk_set_ne HB5.out (by omega) _)]; rfl
  have g4 := blk_frozen HB4.out 0
  have g5 := blk_frozen (blk_set_ne (g := q) (i := 0) HB5.out (by omega) (.slice Ak1 nk1 ck1)) 0
  refine rseq_norm (a' := ?_) ?_ ?_
  rotate_left
  · show Act.put _ (some 14) _ = _
    simp only [Act.put, List.setIfInBounds_toArray, List.set_cons_zero, List.set_cons_succ, i64_w, i32_w]
    rfl
  
  refine rseq_skip (i := 7) (w1 := ?_) rfl rfl (by rfl) ?_ ?_ ?_
  rotate_left
  · go_simp
    rfl
  · exact ⟨fun h => absurd (by decide) h, trivial⟩
  
  refine rseq_pure (i := 8) (N := some 16) (v := ?_) (a' := ?_) rfl rfl (by rfl) (fun _ _ _ h => h) ?_ ?_ ?_
  rotate_left 2
  · intro w' hg
    go_simp
    with_reducible rfl
  · simp only [Act.put, List.setIfInBounds_toArray, List.set_cons_zero, List.set_cons_succ, i64_w, i32_w]
    rfl
  
  refine rseq_skip (i := 9) (w1 := ?_) rfl rfl (by rfl) ?_ ?_ ?_
  rotate_left
  · go_simp
    rfl
  · exact ⟨fun h => absurd (by decide) h, trivial⟩
  clear y4 y5 g4 g5
  refine rseq_done ?_
  have HB4Z := hd (blk_set_ne (g := q + 1) (i := 0) (blk_set HB4.out 0 (.slice Ak1 nk1 ck1)) (by omega) (.slice Ak2 nk2 ck2))
  have HB5Z := hd (blk_set (blk_set_ne (g := q) (i := 0) HB5.out (by omega) (.slice Ak1 nk1 ck1)) 0 (.slice Ak2 nk2 ck2))
  have HB6Z := hd (blk_set_ne (g := q + 1) (i := 0) (blk_set_ne (g := q) (i := 0) HB6.out (by omega) (.slice Ak1 nk1 ck1)) (by omega) (.slice Ak2 nk2 ck2))
  have m1 := Mod.set (S := fun k => k = q ∨ k = q + 1) (g := q) (i := 0) w7 (Or.inl rfl) (.slice Ak1 nk1 ck1)
  have m2 := Mod.set (S := fun k => k = q ∨ k = q + 1) (g := q + 1) (i := 0) (w7.setCell ⟨q, 0, none⟩ (.slice Ak1 nk1 ck1)) (Or.inr rfl) (.slice Ak2 nk2 ck2)
  have HM := hd (m1.trans m2)
  have hap : Apart 5 w7 (fun k => k = q ∨ k = q + 1) := fun k cells hc hk => by
    rcases hk with rfl | rfl
    · rw [HB4.out] at hc; injection hc with hc; injection hc with _ hc _; exact absurd hc (by decide)
    · rw [HB5.out] at hc; injection hc with hc; injection hc with _ hc _; exact absurd hc (by decide)
  replace HO1 := hd (HO1.out.mod HM.out hap)
  replace HO2 := hd (HO2.out.mod HM.out hap)
  have HBL := hd (HBW.out.trans (HM.out.toBelow (B := w.heap.size) (fun k hk => by have := hq.out; rcases hk with hk | hk <;> omega) HBW.out.size))
  clear m1 m2 HM hap HB4 HB5 HB6
  generalize ((w7.setCell ⟨q, 0, none⟩ (.slice Ak1 nk1 ck1)).setCell ⟨q + 1, 0, none⟩ (.slice Ak2 nk2 ck2)) = w8 at HB4Z HB5Z HB6Z HO1 HO2 HBL ⊢
  have x40 : w8.cell? ⟨q, 0, none⟩ = some (.slice Ak1 nk1 ck1) := by rw [blk_cell HB4Z.out]; rfl
  have x41 : w8.cell? ⟨q, 1, none⟩ = some (.int .u64 (N1 : Int)) := by rw [blk_cell HB4Z.out]; rfl
  have x50 : w8.cell? ⟨q + 1, 0, none⟩ = some (.slice Ak2 nk2 ck2) := by rw [blk_cell HB5Z.out]; rfl
  have x51 : w8.cell? ⟨q + 1, 1, none⟩ = some (.int .u64 (N2 : Int)) := by rw [blk_cell HB5Z.out]; rfl
  have x60 := blk_cell HB6Z.out 0
  have x61 := blk_cell HB6Z.out 1
  have x62 := blk_cell HB6Z.out 2
  have x63 := blk_cell HB6Z.out 3
  have x64 := blk_cell HB6Z.out 4
  have x65 := blk_cell HB6Z.out 5
  have x66 := blk_cell HB6Z.out 6
  go_wp2
  rw [← hpost.out]
  have hal := below_alloc (Below.refl w8.heap.size w8) (.cells (sesC ⟨r0, r1, r2, r3, r4, r5, r6⟩ now 0 ⟨Ak1, nk1, ck1⟩ N1 ⟨Ak2, nk2, ck2⟩ N2 ⟨false, 0, (0, 0)⟩) 112)
  exact ⟨w8.heap.size, ⟨Ak1, nk1, ck1⟩, ⟨Ak2, nk2, ck2⟩, rfl, blk_new w8 _, HO1.out.below hal, HO2.out.below hal, HBL.out.size, HBL.out.trans (hal.mono HBL.out.size)⟩
set_option maxRecDepth 100000 in
theorem again_calls (h : TimAt w g r last tries) (ht : tries ≤ 9000000000000000000) (ht0 : -9223372036854775808 ≤ tries) :
    Calls Tryd.prog 20 #[.pointer (some ⟨g, 0, none⟩), .int .u64 (now : Int)] w fun e w' => e = .returned (.bool (decide (tries < r.r2))) ∧ (if tries < r.r2 then TimAt w' g r now (tries + 1) else TimAt w' g r last tries) ∧ Mod (fun k => k = g) w w' := by
  have HT := hd h
  obtain ⟨r0, r1, r2, r3, r4, r5, r6⟩ := r
  dsimp only
  have c2 : w.cell? ⟨g, 2, none⟩ = some (.int .i64 r2) := by rw [blk_cell h]; rfl
  have c8 : w.cell? ⟨g, 8, none⟩ = some (.int .i64 tries) := by rw [blk_cell h]; rfl
  have c7 : w.cell? ⟨g, 7, none⟩ = some (.int .u64 (last : Int)) := by rw [blk_cell h]; rfl
  have f7 := blk_frozen h 7
  have f8 := blk_frozen h 8
  clear h
  by_cases hlt : tries < r2
  · simp only [if_pos hlt]
    have q1 : decide (tries < r2) = true := decide_eq_true hlt
    have q2 : decide (r2 ≤ tries) = false := by simp; exact hlt
    have hw : wrap64 (tries + 1) = tries + 1 := Go.IntWalk.wrap64_in _ ⟨by omega, by omega⟩
    have hd1 := below_drew (Below.refl w.heap.size w)
    rw [q1]
    clear hlt ht ht0
    go_enter Tryd.func20, Tryd.ntmps20
    go_wp2_with fail
    go_quiet (fail)
    generalize hwd : w.drewN _ = w1 at *
    have hb1 : Below w.heap.size w w1 := by rw [← hwd]; exact pw_below_drewN (Below.refl _ _) _
    have ht1 := HT.out.below hb1
    clear hwd c2 c7 c8 f7 f8 hd1
    have c8 : w1.cell? ⟨g, 8, none⟩ = some (.int .i64 tries) := by rw [blk_cell ht1]; rfl
    have c7 : w1.cell? ⟨g, 7, none⟩ = some (.int .u64 (last : Int)) := by rw [blk_cell ht1]; rfl
    have f7 := blk_frozen ht1 7
    have f8 := blk_frozen ht1 8
    have HT1 := hd ht1
    have HB1 := hd hb1
    clear ht1 hb1
    go_wp2
    go_ret
    refine ⟨rfl, ?_, ((Mod.below HB1.out).trans (Mod.set (S := fun k => k = g) (g := g) (i := 8) w1 rfl (.int .i64 (tries + 1)))).trans (Mod.set (S := fun k => k = g) (g := g) (i := 7) _ rfl (.int .u64 (now : Int)))⟩
    unfold TimAt
    rw [blk_set (blk_set HT1.out 8 (.int .i64 (tries + 1))) 7 (.int .u64 (now : Int))]
    rfl
  · simp only [if_neg hlt]
    have q1 : decide (tries < r2) = false := decide_eq_false hlt
    have q2 : decide (r2 ≤ tries) = true := by simp; omega
    rw [q1]
    clear hlt ht ht0
    go_enter Tryd.func20, Tryd.ntmps20
    go_wp2_with fail
    go_quiet (fail)
    go_wp2
    go_ret
    exact ⟨rfl, HT.out.below (pw_below_drewN (Below.refl _ _) _), Mod.below (pw_below_drewN (Below.refl _ _) _)⟩
end
end Go.Proofs.YtlgdplodglchaaaDoor
/- The walks through Session.Seal, Session.Open. -/
set_option linter.unusedVariables false
set_option linter.unusedSimpArgs false
namespace Go.Proofs.YtlgdplodglchaaaDoor
open Go.RowKit Go.Proofs.YtlgdplodglchaaaDoorW.PrintWords Go.Proofs.YtlgdplodglchaaaDoorW.PrintLast Go.Proofs.YtlgdplodglchaaaDoorW.PrintMore
theorem PlacesAt.mod {w w1 : World} {S : Nat → Prop} (h : PlacesAt w) (hm : Mod S w w1) (h0 : ¬ S 0) : PlacesAt w1 := by
  obtain ⟨t, fr, hb⟩ := h
  exact ⟨t, fr, hm.block hb h0⟩
section
variable {w : World} {g now born sent N1 N2 : Nat} {r : Rul} {k1 k2 : Sl} {v : Win} {key1 key2 text : List Nat}
/-- The cipher of a session, its key in a box: sealed. -/
theorem cseal_calls {A C D : Option Addr} {T o N n c nc cc nd cd : Nat} {cs : Array Value} {key ad b : List Nat} (hblk : w.heap[g]? = some (.cells cs T (0, 0))) (e0 : cs[o]? = some (.slice A n c)) (e1 : cs[o + 1]? = some (.int .u64 (N : Int)))
    (hk : Bytes w A n c key) (hN : N < 2 ^ 64) (ha : Bytes w C nc cc ad) (hb : Bytes w D nd cd b) (hpl : PlacesAt w) (hna : nc ≤ 100000000) (hnd : nd ≤ 100000000) :
    Calls Tryd.prog 49 #[.pointer (some ⟨g, o, none⟩), .slice C nc cc, .slice D nd cd] w (UsePost g o w (useC key N b (sealA key (nonceN N) ad b))) := by
  have HU := hd (use_calls (C := C) (nc := nc) (cc := cc) Tryd.func70 (by kernel_rfl) rfl hblk e0 e1 hk hN hb hnd (r := sealA key (nonceN N) ad b) (fun hn w1 B cb hb1 hB => by
    subst hn
    exact seal_any (hk.below hb1) hB (ha.below hb1) (hb.below hb1) (hpl.below hb1) hna hnd))
  obtain ⟨post, hpost⟩ : ∃ post, Aside0 (UsePost g o w (useC key N b (sealA key (nonceN N) ad b)) = post) := ⟨_, ⟨rfl⟩⟩
  rw [hpost.out]
  clear hblk e0 e1 hk hN ha hb hpl hna hnd
  go_enter Tryd.func49, Tryd.ntmps49
  go_wp2_with fail
  refine HU.out.mono ?_
  rintro e w1 ⟨v, w2, rfl, rfl, h3, h4⟩
  go_wp2
  rw [← hpost.out]
  exact ⟨v, w2, rfl, rfl, h3, h4⟩
theorem copen_calls {A C D : Option Addr} {T o N n c nc cc nd cd : Nat} {cs : Array Value} {key ad b : List Nat} (hblk : w.heap[g]? = some (.cells cs T (0, 0))) (e0 : cs[o]? = some (.slice A n c)) (e1 : cs[o + 1]? = some (.int .u64 (N : Int)))
    (hk : Bytes w A n c key) (hN : N < 2 ^ 64) (ha : Bytes w C nc cc ad) (hb : Bytes w D nd cd b) (hpl : PlacesAt w) (hna : nc ≤ 100000000) (hnd : nd ≤ 100000000) :
    Calls Tryd.prog 51 #[.pointer (some ⟨g, o, none⟩), .slice C nc cc, .slice D nd cd] w (UsePost g o w (useC key N b (openA key (nonceN N) ad b))) := by
  have HU := hd (use_calls (C := C) (nc := nc) (cc := cc) Tryd.func75 (by kernel_rfl) rfl hblk e0 e1 hk hN hb hnd (r := openA key (nonceN N) ad b) (fun hn w1 B cb hb1 hB => by
    subst hn
    exact open_any (hk.below hb1) hB (ha.below hb1) (hb.below hb1) (hpl.below hb1) hna hnd))
  obtain ⟨post, hpost⟩ : ∃ post, Aside0 (UsePost g o w (useC key N b (openA key (nonceN N) ad b)) = post) := ⟨_, ⟨rfl⟩⟩
  rw [hpost.out]
  clear hblk e0 e1 hk hN ha hb hpl hna hnd
  go_enter Tryd.func51, Tryd.ntmps51
  go_wp2_with fail
  refine HU.out.mono ?_
  rintro e w1 ⟨v, w2, rfl, rfl, h3, h4⟩
  go_wp2
  rw [← hpost.out]
  exact ⟨v, w2, rfl, rfl, h3, h4⟩
/-- What Session.Seal makes: the number, what came out, the error; the cipher's number and how many then. -/
def sealS (r : Rul) (born sent N1 : Nat) (key text : List Nat) (now : Nat) : Nat × List Nat × Nat × Nat × Nat :=
  if expB r born sent now then (0, [], 52, N1, sent) else
  if (useC key N1 text (sealA key (nonceN N1) [] text)).2.1 ≠ 0 then (0, [], (useC key N1 text (sealA key (nonceN N1) [] text)).2.1, (useC key N1 text (sealA key (nonceN N1) [] text)).2.2, sent)
  else (N1, (useC key N1 text (sealA key (nonceN N1) [] text)).1, 0, (useC key N1 text (sealA key (nonceN N1) [] text)).2.2, sent + 1)
def SealPost (w : World) (g : Nat) (r : Rul) (born : Nat) (k1 k2 : Sl) (N2 : Nat) (v : Win) (x : Nat × List Nat × Nat × Nat × Nat) (e : Ending) (w' : World) : Prop :=
  ∃ vb, e = .returned (.tuple #[.int .u64 (x.1 : Int), vb, .int .i64 (x.2.2.1 : Int)]) ∧ OwnK .u8 5 w.heap.size w' vb x.2.1 ∧ SesAt w' g r born x.2.2.2.2 k1 x.2.2.2.1 k2 N2 v ∧ Mod (fun k => k = g) w w'
theorem wrap_sent {n : Nat} (h : n ≤ 1000000) : IntKind.u64.wrap ((n : Int) + 1) = ((n + 1 : Nat) : Int) := wrapN_u (k := .u64) rfl (show n + 1 < 2 ^ 64 by omega)
set_option maxHeartbeats 1000000 in
set_option maxRecDepth 100000 in
theorem sseal_calls {D : Option Addr} {nd cd : Nat} (h : SesAt w g r born sent k1 N1 k2 N2 v) (hk : Bytes w k1.A k1.n k1.c key1) (hN : N1 < 2 ^ 64) (hs : sent ≤ 1000000) (hb : Bytes w D nd cd text) (hpl : PlacesAt w) (hnd : nd ≤ 100000000) (hnow : now < 2 ^ 64) :
    Calls Tryd.prog 22 #[.pointer (some ⟨g, 0, none⟩), .slice D nd cd, .int .u64 (now : Int)] w (SealPost w g r born k1 k2 N2 v (sealS r born sent N1 key1 text now)) := by
  obtain ⟨post, hpost⟩ : ∃ post, Aside0 (SealPost w g r born k1 k2 N2 v (sealS r born sent N1 key1 text now) = post) := ⟨_, ⟨rfl⟩⟩
  rw [hpost.out]
  have HEX := hd (expired_calls h hnow)
  cases hex : expB r born sent now
  · have HS := hd (show sealS r born sent N1 key1 text now = if (useC key1 N1 text (sealA key1 (nonceN N1) [] text)).2.1 ≠ 0 then (0, [], (useC key1 N1 text (sealA key1 (nonceN N1) [] text)).2.1, (useC key1 N1 text (sealA key1 (nonceN N1) [] text)).2.2, sent)
      else (N1, (useC key1 N1 text (sealA key1 (nonceN N1) [] text)).1, 0, (useC key1 N1 text (sealA key1 (nonceN N1) [] text)).2.2, sent + 1) by rw [sealS, if_neg (by rw [hex]; simp)])
    rw [hex] at HEX
    have HU := fun (w1 : World) (hb1 : Below w.heap.size w w1) => hd (cseal_calls (o := 9) (h.below hb1) rfl rfl (hk.below hb1) hN (Bytes.nil w1 none 0) (hb.below hb1) (hpl.below hb1) (by decide) hnd)
    obtain ⟨u, hu⟩ : ∃ u, Aside0 (useC key1 N1 text (sealA key1 (nonceN N1) [] text) = u) := ⟨_, ⟨rfl⟩⟩
    rw [hu.out] at HS HU
    have HW := hd h
    have HWR := hd (wrap_sent hs)
    clear h hk hN hs hb hpl hnd hnow hex
    go_enter Tryd.func22, Tryd.ntmps22
    go_wp2_with fail
    refine HEX.out.mono ?_
    rintro e w1 ⟨rfl, hb1⟩
    have h1 := HW.out.below hb1
    have c10 : w1.cell? ⟨g, 10, none⟩ = some (.int .u64 (N1 : Int)) := by rw [blk_cell h1]; rfl
    have HU1 := HU w1 hb1
    have HB1 := hd hb1
    have HW1 := hd h1
    clear h1 hb1 HU HW HEX
    go_wp2_with fail
    refine HU1.out.mono ?_
    rintro e w2 ⟨vb, w3, rfl, rfl, hb3, ho3⟩
    have h2 : SesAt (w3.setCell ⟨g, 10, none⟩ (.int .u64 (u.2.2 : Int))) g r born sent k1 u.2.2 k2 N2 v := blk_set (HW1.out.below hb3) 10 _
    have hm : Mod (fun k => k = g) w (w3.setCell ⟨g, 10, none⟩ (.int .u64 (u.2.2 : Int))) := ((Mod.below HB1.out).trans (Mod.below hb3)).trans (Mod.set (S := fun k => k = g) w3 rfl _)
    have HO2 := hd (show OwnK .u8 5 w.heap.size (w3.setCell ⟨g, 10, none⟩ (.int .u64 (u.2.2 : Int))) vb u.1 from ho3.lower HB1.out.size)
    clear hb3 ho3 c10
    generalize w3.setCell ⟨g, 10, none⟩ (.int .u64 (u.2.2 : Int)) = w4 at h2 hm HO2 ⊢
    have HW2 := hd h2
    have HM2 := hd hm
    have c8 : w4.cell? ⟨g, 8, none⟩ = some (.int .u64 (sent : Int)) := by rw [blk_cell h2]; rfl
    have f8 := blk_frozen h2 8
    clear h2 hm HU1 HW1 HB1
    by_cases hr : u.2.1 = 0
    · rw [hr, show ((0 : Nat) : Int) = 0 from rfl]
      have HS' := hd (HS.out.trans (if_neg (by simp [hr])))
      have hw := HWR.out
      clear hr HS
      go_wp2
      go_ret3
      rw [← hpost.out, HS'.out]
      refine ⟨vb, rfl, ?_, ?_, HM2.out.trans (Mod.set (S := fun k => k = g) w4 rfl _)⟩
      · exact HO2.out.mod (Mod.set (S := fun k => k = g) w4 rfl _) (Apart.one HW2.out (by decide))
      · exact blk_set HW2.out 8 _
    · have q : decide ((u.2.1 : Int) = 0) = false := by simp; exact hr
      have q' : (((u.2.1 : Nat) : Int) != 0) = true := by simp; exact hr
      have HS' := hd (HS.out.trans (if_pos hr))
      clear hr HS
      go_wp2
      go_ret3
      rw [← hpost.out, HS'.out]
      exact ⟨_, rfl, OwnK.nil _ _ _ _, HW2.out, HM2.out⟩
  · have HS := hd (show sealS r born sent N1 key1 text now = (0, [], 52, N1, sent) by rw [sealS, if_pos hex])
    rw [hex] at HEX
    have HW := hd h
    clear h hk hN hs hb hpl hnd hnow hex
    go_enter Tryd.func22, Tryd.ntmps22
    go_wp2_with fail
    refine HEX.out.mono ?_
    rintro e w1 ⟨rfl, hb1⟩
    go_wp2
    go_ret3
    rw [← hpost.out, HS.out]
    exact ⟨_, rfl, OwnK.nil _ _ _ _, HW.out.below hb1, Mod.below hb1⟩
end
end Go.Proofs.YtlgdplodglchaaaDoor
/- The walk through Session.Open. -/
set_option linter.unusedVariables false
set_option linter.unusedSimpArgs false
namespace Go.Proofs.YtlgdplodglchaaaDoor
open Go.RowKit Go.Proofs.YtlgdplodglchaaaDoorW.PrintWords Go.Proofs.YtlgdplodglchaaaDoorW.PrintLast Go.Proofs.YtlgdplodglchaaaDoorW.PrintMore
/-- What Session.Open makes: the text, the error, the window then. -/
def openS (r : Rul) (born : Nat) (v : Win) (key : List Nat) (n : Nat) (box : List Nat) (now : Nat) : List Nat × Nat × Win :=
  if oldB r born now then ([], 52, v) else
  if checkW v.some v.top v.c n ≠ 0 then ([], checkW v.some v.top v.c n, v) else
  if (useC key n box (openA key (nonceN n) [] box)).2.1 ≠ 0 then ([], (useC key n box (openA key (nonceN n) [] box)).2.1, v)
  else ((useC key n box (openA key (nonceN n) [] box)).1, 0, markW v n)
def OpenPost (w : World) (g : Nat) (r : Rul) (born sent : Nat) (k1 : Sl) (N1 : Nat) (k2 : Sl) (N2 : Nat) (x : List Nat × Nat × Win) (e : Ending) (w' : World) : Prop :=
  ∃ vb, e = .returned (.tuple #[vb, .int .i64 (x.2.1 : Int)]) ∧ OwnK .u8 5 w.heap.size w' vb x.1 ∧ SesAt w' g r born sent k1 N1 k2 N2 x.2.2 ∧ Mod (fun k => k = g) w w'
section
variable {w : World} {g now born sent N1 N2 : Nat} {r : Rul} {k1 k2 : Sl} {v : Win} {key2 box : List Nat}
set_option maxHeartbeats 1000000 in
set_option maxRecDepth 100000 in
theorem sopen_calls {D : Option Addr} {n nd cd : Nat} (h : SesAt w g r born sent k1 N1 k2 N2 v) (hok : v.ok) (hk : Bytes w k2.A k2.n k2.c key2) (hn : n < 2 ^ 64) (hb : Bytes w D nd cd box) (hpl : PlacesAt w) (hnd : nd ≤ 100000000) (hnow : now < 2 ^ 64) :
    Calls Tryd.prog 24 #[.pointer (some ⟨g, 0, none⟩), .int .u64 (n : Int), .slice D nd cd, .int .u64 (now : Int)] w (OpenPost w g r born sent k1 N1 k2 N2 (openS r born v key2 n box now)) := by
  obtain ⟨post, hpost⟩ : ∃ post, Aside0 (OpenPost w g r born sent k1 N1 k2 N2 (openS r born v key2 n box now) = post) := ⟨_, ⟨rfl⟩⟩
  rw [hpost.out]
  have HOL := hd (old_calls h hnow)
  cases hex : oldB r born now
  · rw [hex] at HOL
    have HCH := fun (w1 : World) (hb1 : Below w.heap.size w w1) => hd (check_calls (h.below hb1).win hok hn)
    have HMK := fun (w1 : World) (hb1 : Below w.heap.size w w1) => hd (mark_calls (h.below hb1).win hok hn)
    by_cases hc : checkW v.some v.top v.c n = 0
    · rw [hc] at HCH HMK
      have HS := hd (show openS r born v key2 n box now = if (useC key2 n box (openA key2 (nonceN n) [] box)).2.1 ≠ 0 then ([], (useC key2 n box (openA key2 (nonceN n) [] box)).2.1, v)
        else ((useC key2 n box (openA key2 (nonceN n) [] box)).1, 0, markW v n) by rw [openS, if_neg (by rw [hex]; simp), if_neg (by rw [hc]; simp)])
      have HU := fun (w1 : World) (gq : Nat) (hb1 : Below w.heap.size w w1) (hbx : w1.heap[gq]? = some (.cells #[.slice k2.A k2.n k2.c, .int .u64 (n : Int)] 46 (0, 0))) => hd (copen_calls (o := 0) hbx rfl rfl (hk.below hb1) hn (Bytes.nil w1 none 0) (hb.below hb1) (hpl.below hb1) (by decide) hnd)
      obtain ⟨u, hu⟩ : ∃ u, Aside0 (useC key2 n box (openA key2 (nonceN n) [] box) = u) := ⟨_, ⟨rfl⟩⟩
      rw [hu.out] at HS HU
      have HW := hd h
      clear h hok hk hn hb hpl hnd hnow hex hc
      obtain ⟨A2, n2, c2⟩ := k2
      dsimp only at HU HW HS HCH HMK
      go_enter Tryd.func24, Tryd.ntmps24
      go_wp2_with fail
      refine HOL.out.mono ?_
      rintro e w1 ⟨rfl, hb1⟩
      have HCH1 := HCH w1 hb1
      have HB1 := hd hb1
      clear hb1 HCH HOL
      go_wp2_with fail
      refine HCH1.out.mono ?_
      rintro e w1' ⟨rfl, rfl⟩
      have h1 := HW.out.below HB1.out
      have c11 : w1.cell? ⟨g, 11, none⟩ = some (.slice A2 n2 c2) := by rw [blk_cell h1]; rfl
      clear h1 HCH1
      go_upto_region 9 with (fail)
      have hbx := blk_new w1 (.cells #[.slice A2 n2 c2, .int .u64 (n : Int)] 46)
      have hal := below_alloc (Below.refl w1.heap.size w1) (.cells #[.slice A2 n2 c2, .int .u64 (n : Int)] 46)
      have HB2 := hd (below_seq HB1.out hal)
      have HGQ := hd HB1.out.size
      generalize w1.alloc (.cells #[.slice A2 n2 c2, .int .u64 (n : Int)] 46) = w2 at hbx hal HB2 ⊢
      generalize w1.heap.size = gq at hbx HGQ ⊢
      have HU2 := HU w2 gq HB2.out hbx
      clear HU hbx hal c11
      go_wp2_with fail
      refine HU2.out.mono ?_
      rintro e w3' ⟨vb, w3, rfl, rfl, hb3, ho3⟩
      have HB4 := hd ((below_seq HB2.out hb3).trans ((Mod.set (S := fun k => k = gq) (g := gq) (i := 0 + 1) w3 rfl (.int .u64 (u.2.2 : Int))).toBelow (B := w.heap.size) (fun k hk => by rw [hk]; exact HGQ.out) (below_seq HB2.out hb3).size))
      have HO := hd (ho3.lower HB2.out.size)
      clear hb3 ho3 HU2
      generalize w3.setCell ⟨gq, 0 + 1, none⟩ (.int .u64 (u.2.2 : Int)) = w4 at HB4 HO ⊢
      have HMK4 := HMK w4 HB4.out
      clear HMK
      by_cases hr : u.2.1 = 0
      · rw [hr, show ((0 : Nat) : Int) = 0 from rfl]
        have HS' := hd (HS.out.trans (if_neg (by simp [hr])))
        clear hr HS
        go_wp2_with fail
        refine HMK4.out.mono ?_
        rintro e w5 ⟨rfl, hw5, hm5⟩
        go_wp2
        rw [← hpost.out, HS'.out]
        exact ⟨vb, rfl, HO.out.mod hm5 (Apart.one (HW.out.below HB4.out) (by decide)), SesAt.ofWin hw5, (Mod.below HB4.out).trans hm5⟩
      · have q : decide ((u.2.1 : Int) = 0) = false := by simp; exact hr
        have q' : (((u.2.1 : Nat) : Int) != 0) = true := by simp; exact hr
        have HS' := hd (HS.out.trans (if_pos hr))
        clear hr HS HMK4
        go_wp2
        rw [← hpost.out, HS'.out]
        exact ⟨_, rfl, OwnK.nil _ _ _ _, HW.out.below HB4.out, Mod.below HB4.out⟩
    · have hne : checkW v.some v.top v.c n = 43 := by
        unfold checkW at hc ⊢
        split
        · rename_i h1; rw [if_pos h1] at hc; exact absurd rfl hc
        · rename_i h1
          rw [if_neg h1] at hc
          split
          · rfl
          · rename_i h2
            rw [if_neg h2] at hc
            split
            · rfl
            · rename_i h3; rw [if_neg h3] at hc; exact absurd rfl hc
      have HS := hd (show openS r born v key2 n box now = ([], 43, v) by rw [openS, if_neg (by rw [hex]; simp), if_pos hc, hne])
      rw [hne] at HCH
      have HW := hd h
      clear h hok hk hn hb hpl hnd hnow hex hc hne HMK
      go_enter Tryd.func24, Tryd.ntmps24
      go_wp2_with fail
      refine HOL.out.mono ?_
      rintro e w1 ⟨rfl, hb1⟩
      have HCH1 := HCH w1 hb1
      have HB1 := hd hb1
      clear hb1 HCH HOL
      go_wp2_with fail
      refine HCH1.out.mono ?_
      rintro e w1' ⟨rfl, rfl⟩
      go_wp2
      rw [← hpost.out, HS.out]
      exact ⟨_, rfl, OwnK.nil _ _ _ _, HW.out.below HB1.out, Mod.below HB1.out⟩
  · have HS := hd (show openS r born v key2 n box now = ([], 52, v) by rw [openS, if_pos hex])
    rw [hex] at HOL
    have HW := hd h
    clear h hok hk hn hb hpl hnd hnow hex
    go_enter Tryd.func24, Tryd.ntmps24
    go_wp2_with fail
    refine HOL.out.mono ?_
    rintro e w1 ⟨rfl, hb1⟩
    go_wp2
    rw [← hpost.out, HS.out]
    exact ⟨_, rfl, OwnK.nil _ _ _ _, HW.out.below hb1, Mod.below hb1⟩
end
end Go.Proofs.YtlgdplodglchaaaDoor
/- What is sealed is opened; constants' bytes: helpers (cut out of AeadAwake). -/
set_option linter.unusedVariables false
set_option linter.unusedSimpArgs false
namespace Go.Proofs.YtlgdplodglchaaaDoor
open Go.RowKit Go.Proofs.YtlgdplodglchaaaDoorW.PrintWords Go.Proofs.YtlgdplodglchaaaDoorW.PrintLast Go.Proofs.YtlgdplodglchaaaDoorW.PrintMore
theorem openN_box {key nonce ad text t : List Nat} (ht : t.length = 16) : openN key nonce ad (boxN key nonce text ++ t) = if tagN key nonce ad (boxN key nonce text) = t then (text, 0) else ([], 10) := by
  have h1 : (boxN key nonce text ++ t).length = text.length + 16 := by rw [List.length_append, boxN_length, ht]
  have h2 : (boxN key nonce text ++ t).take text.length = boxN key nonce text := by
    rw [List.take_append_of_le_length (by rw [boxN_length]; exact Nat.le_refl _), List.take_of_length_le (by rw [boxN_length]; exact Nat.le_refl _)]
  have h3 : (boxN key nonce text ++ t).drop text.length = t := by
    rw [List.drop_append_of_le_length (by rw [boxN_length]; exact Nat.le_refl _), List.drop_of_length_le (by rw [boxN_length]; exact Nat.le_refl _), List.nil_append]
  rw [openN, if_neg (by omega), h1, Nat.add_sub_cancel, h2, h3, boxN_twice]
theorem openN_seal (key nonce ad text : List Nat) : openN key nonce ad (sealN key nonce ad text) = (text, 0) := by
  rw [sealN, openN_box (tagN_length _ _ _ _), if_pos rfl]
/-- A constant's bytes: the row is marked behind its last cell. -/
theorem Bytes.newM {W : World} {t : TypeId} {cs : Array Value} {fr : Nat × Nat} {g n : Nat} (l : List Nat) (hcs : cs = (l.map fun x : Nat => Value.int .u8 x).toArray) (hg : g = W.heap.size) (hn : n = l.length) (hl : l.length ≤ 9223372036854775807) (hb : (l.all fun x => decide (x < 256)) = true) :
    Bytes (W.alloc (.cells cs t fr)) (some ⟨g, 0, none⟩) n n l := by
  subst hg; subst hn
  refine ⟨RowK.of_at hl (fun i hi => ?_), rfl, Nat.le_refl _, fun x hx => by simpa using List.all_eq_true.1 hb x hx⟩
  rw [add_plain, World.cell?_alloc_mark, hcs]
  simp [hi]
theorem lit_ok' (l : List Nat) (h : (l.all fun x => decide (x < 256)) = true) : BytesOK l := fun x hx => by simpa using List.all_eq_true.1 h x hx
end Go.Proofs.YtlgdplodglchaaaDoor
/- The walk through redanlaw22.awake. -/
set_option linter.unusedVariables false
set_option linter.unusedSimpArgs false
namespace Go.Proofs.YtlgdplodglchaaaDoor
open Go.RowKit Go.Proofs.YtlgdplodglchaaaDoorW.PrintWords Go.Proofs.YtlgdplodglchaaaDoorW.PrintLast Go.Proofs.YtlgdplodglchaaaDoorW.PrintMore
def rulA : Rul := ⟨5, 30, 2, 50, 100, 5, 9⟩
abbrev textA : List Nat := [116, 101, 120, 116]
theorem useA_seal (k ad : List Nat) (hk : k.length = 32) : useC k 0 textA (sealA k (nonceN 0) ad textA) = (sealN k (nonceN 0) ad textA, 0, 1) := by
  have e : sealA k (nonceN 0) ad textA = (sealN k (nonceN 0) ad textA, 0) := by rw [sealA, if_pos ⟨hk, nonceN_length 0⟩]
  rw [useC, if_neg (by omega), if_neg (by omega), if_neg (by decide), e, if_neg (by simp)]
theorem useA_open (k ad b : List Nat) (hk : k.length = 32) (hb : b = sealN k (nonceN 0) ad textA) : useC k 0 b (openA k (nonceN 0) ad b) = (textA, 0, 1) := by
  have e : openA k (nonceN 0) ad b = (textA, 0) := by rw [openA, if_pos ⟨hk, nonceN_length 0⟩, hb, openN_seal]
  rw [useC, if_neg (by omega), if_neg (by omega), if_neg (by decide), e, if_neg (by simp)]
theorem exp_0 : expB rulA 0 0 3 = false := by decide
theorem old_4 : oldB rulA 0 4 = false := by decide
theorem old_5 : oldB rulA 0 5 = false := by decide
theorem chk_0 : checkW false 0 (0, 0) 0 = 0 := by decide
theorem mark_0 : markW ⟨false, 0, (0, 0)⟩ 0 = ⟨true, 0, (1, 0)⟩ := by rfl
theorem chk_1 : checkW true 0 (1, 0) 0 = 43 := by decide
theorem rek_50 : rekB rulA 0 1 50 = true := by decide
theorem exp_99 : expB rulA 0 1 99 = false := by decide
theorem wait_0 : waitF 5 30 0 = 5 := by decide
theorem wait_2 : waitF 5 30 2 = 20 := by decide
theorem wait_3 : waitF 5 30 3 = 30 := by decide
theorem due_4 : dueB rulA 0 0 4 = false := by decide
theorem due_5 : dueB rulA 0 0 5 = true := by decide
theorem sealA_0 (k : List Nat) (hk : k.length = 32) : sealS rulA 0 0 0 k textA 3 = (0, sealN k (nonceN 0) [] textA, 0, 1, 1) := by
  rw [sealS, if_neg (by rw [exp_0]; simp), useA_seal k [] hk, if_neg (by simp)]
theorem openA_4 (k b : List Nat) (hk : k.length = 32) (hb : b = sealN k (nonceN 0) [] textA) : openS rulA 0 ⟨false, 0, (0, 0)⟩ k 0 b 4 = (textA, 0, ⟨true, 0, (1, 0)⟩) := by
  rw [openS, if_neg (by rw [old_4]; simp), if_neg (by rw [chk_0]; simp), useA_open k [] b hk hb, if_neg (by simp), mark_0]
theorem openA_5 (k b : List Nat) : openS rulA 0 ⟨true, 0, (1, 0)⟩ k 0 b 5 = ([], 43, ⟨true, 0, (1, 0)⟩) := by
  rw [openS, if_neg (by rw [old_5]; simp), if_pos (by rw [chk_1]; simp), chk_1]
theorem ne_types {w : World} {a b t1 t2 : Nat} {c1 c2 : Array Value} {f1 f2 : Nat × Nat} (h1 : w.heap[a]? = some (.cells c1 t1 f1)) (h2 : w.heap[b]? = some (.cells c2 t2 f2)) (hne : t1 ≠ t2) : a ≠ b := fun e => by
  subst e
  rw [h1] at h2
  injection h2 with h2
  injection h2 with _ h2 _
  exact hne h2
set_option maxHeartbeats 4000000 in
set_option maxRecDepth 100000 in
theorem awake_calls {w : World} (hpl : PlacesAt w) : Calls Tryd.prog 12 #[] w fun e w' => e = .returned (.bool true) ∧ Below w.heap.size w w' := by
  have kc := fun (w : World) (C : Array Value) (n c : Nat) => Lib.run_convert_bytes_const (P := Tryd.prog) w 40 5 C n c Tryd.underlying40 Tryd.underlying5
  have kc2 := fun (w : World) (o : Obj) (C : Array Value) (n c : Nat) => Joins.run_convert_bytes_const_at (P := Tryd.prog) (w.alloc o) 40 5 C n c (w.heap.size + 1) (by simp) Tryd.underlying40 Tryd.underlying5
  go_enter Tryd.func12, Tryd.ntmps12
  go_upto_region 2 with (fail)
  have hrb := blk_new w (.cells #[.int .u64 5, .int .u64 30, .int .i64 2, .int .u64 50, .int .u64 100, .int .u64 5, .int .u64 9] 24)
  have hal := below_alloc (Below.refl w.heap.size w) (.cells #[.int .u64 5, .int .u64 30, .int .i64 2, .int .u64 50, .int .u64 100, .int .u64 5, .int .u64 9] 24)
  have HS0 := hd (Nat.le_refl w.heap.size)
  generalize w.alloc (.cells #[.int .u64 5, .int .u64 30, .int .i64 2, .int .u64 50, .int .u64 100, .int .u64 5, .int .u64 9] 24) = w1 at hrb hal ⊢
  obtain ⟨q, hq⟩ : ∃ q, Aside0 (w.heap.size = q) := ⟨_, ⟨rfl⟩⟩
  rw [hq.out] at hrb ⊢
  have HRB := hd hrb
  have HBW := hd hal
  clear hrb hal HS0
  go_upto_region 3 with ((with_reducible refine gate_dst (N := 13) rfl ?_); refine op_make 13 rfl 5 40 _ _ rfl rfl 32 rfl rfl Tryd.underlying40 Tryd.infoU8 (by decide) 32 rfl (by decide) ?_; intro Ak ck w2 hck hok hbk)
  replace HRB := hd (blk_below HRB.out hbk)
  replace HBW := hd (below_seq HBW.out hbk)
  have HK := hd (hok.bytesOf (BytesOK.zeros 32))
  have HKL := hd (List.length_replicate (n := 32) (a := 0))
  have HKO := hd (BytesOK.zeros 32)
  generalize List.replicate 32 0 = key at HK HKL HKO
  have HNW := hd (new_calls (N1 := 0) (N2 := 0) (r := rulA) (now := 0) HK.out HK.out (by decide) (by decide))
  have x0 := blk_cell HRB.out 0
  have x1 := blk_cell HRB.out 1
  have x2 := blk_cell HRB.out 2
  have x3 := blk_cell HRB.out 3
  have x4 := blk_cell HRB.out 4
  have x5 := blk_cell HRB.out 5
  have x6 := blk_cell HRB.out 6
  clear hok hbk
  go_wp2_with fail
  refine HNW.out.mono ?_
  rintro e w3 ⟨g, k1, k2, rfl, hs3, ho1, ho2, hg3, hb3⟩
  have HS := hd hs3
  have HO1 := hd ho1
  have HO2 := hd ho2
  have HG := hd (Nat.le_trans HBW.out.size hg3)
  replace HRB := hd (blk_below HRB.out hb3)
  replace HBW := hd (below_seq HBW.out hb3)
  clear x0 x1 x2 x3 x4 x5 x6 hs3 ho1 ho2 hg3 hb3 HNW HK
  have x0 := blk_cell HRB.out 0
  have x1 := blk_cell HRB.out 1
  have x2 := blk_cell HRB.out 2
  have x3 := blk_cell HRB.out 3
  have x4 := blk_cell HRB.out 4
  have x5 := blk_cell HRB.out 5
  have x6 := blk_cell HRB.out 6
  go_wp2_with fail
  refine (start_calls (r := rulA) (now := 0)).mono ?_
  rintro e w4 ⟨rfl, ht4, hb4⟩
  have HTG := hd (show w.heap.size ≤ w3.heap.size + 1 by have := HBW.out.size; omega)
  generalize w3.heap.size + 1 = gt at ht4 HTG ⊢
  have HT := hd ht4
  replace HS := hd (HS.out.below hb4)
  replace HO1 := hd (HO1.out.below hb4)
  replace HO2 := hd (HO2.out.below hb4)
  replace HRB := hd (blk_below HRB.out hb4)
  replace HBW := hd (below_seq HBW.out hb4)
  clear x0 x1 x2 x3 x4 x5 x6 ht4 hb4
  go_wp2_with fail
  have hbt := Bytes.newM (W := w4) (t := 5) (fr := (4, 5)) (g := w4.heap.size) (n := 4) (cs := #[.int .u8 116, .int .u8 101, .int .u8 120, .int .u8 116]) textA rfl rfl rfl (by decide) rfl
  have hal := below_alloc (Below.refl w4.heap.size w4) (.cells #[.int .u8 116, .int .u8 101, .int .u8 120, .int .u8 116] 5 (4, 5))
  have HSE := hd (sseal_calls (r := rulA) (now := 3) (HS.out.below hal) (own_bytes (HO1.out.below hal) HKO.out) (by decide) (by decide) hbt (hpl.below (below_seq HBW.out hal)) (by decide) (by decide))
  rw [sealA_0 key HKL.out] at HSE
  replace HT := hd (HT.out.below hal)
  replace HS := hd (HS.out.below hal)
  replace HO1 := hd (HO1.out.below hal)
  replace HO2 := hd (HO2.out.below hal)
  replace HRB := hd (blk_below HRB.out hal)
  replace HBW := hd (below_seq HBW.out hal)
  clear hal hbt
  refine HSE.out.mono ?_
  rintro e w5 ⟨vb, rfl, hob, hs5, hm5⟩
  dsimp only at hob hs5
  have HXL := hd (sealN_length key (nonceN 0) [] textA)
  have HXO := hd (sealN_ok key (nonceN 0) [] (text := textA) (lit_ok' _ rfl))
  obtain ⟨x, hx⟩ : ∃ x, x = sealN key (nonceN 0) [] textA := ⟨_, rfl⟩
  rw [← hx] at hob HXL HXO
  have HX := hd hx
  obtain ⟨Ab, cb, rfl, _⟩ := hob.bytes 20 HXL.out HXO.out
  have hap := Apart.one HS.out (e := 5) (by decide)
  replace HT := hd (show TimAt w5 gt rulA 0 0 from hm5.block HT.out (ne_types HT.out HS.out (by decide)))
  replace HRB := hd (hm5.block HRB.out (ne_types HRB.out HS.out (by decide)))
  replace HO1 := hd (HO1.out.mod hm5 hap)
  replace HO2 := hd (HO2.out.mod hm5 hap)
  replace HBW := hd (HBW.out.trans (hm5.toBelow (fun k hk => by rw [hk]; exact HG.out) HBW.out.size))
  have HBX := hd hob
  replace HS := hd hs5
  clear hx hob hs5 hm5 hap HSE
  have HOP := hd (sopen_calls (r := rulA) (now := 4) (n := 0) HS.out (by exact ⟨by decide, by decide, by decide⟩) (own_bytes HO2.out HKO.out) (by decide) (own_bytes HBX.out HXO.out) (hpl.below HBW.out) (by decide) (by decide))
  rw [openA_4 key x HKL.out HX.out] at HOP
  go_wp2_with fail
  refine HOP.out.mono ?_
  rintro e w6 ⟨vt, rfl, hot, hs6, hm6⟩
  dsimp only at hot hs6
  obtain ⟨At, ct, rfl, _⟩ := hot.bytes 4 rfl (lit_ok' _ rfl)
  have hap := Apart.one HS.out (e := 5) (by decide)
  replace HT := hd (show TimAt w6 gt rulA 0 0 from hm6.block HT.out (ne_types HT.out HS.out (by decide)))
  replace HRB := hd (hm6.block HRB.out (ne_types HRB.out HS.out (by decide)))
  replace HO2 := hd (HO2.out.mod hm6 hap)
  replace HBX := hd (HBX.out.mod hm6 hap)
  replace HBW := hd (HBW.out.trans (hm6.toBelow (fun k hk => by rw [hk]; exact HG.out) HBW.out.size))
  have HOT := hd hot
  replace HS := hd hs6
  clear hot hs6 hm6 hap HOP HX
  have HOP := hd (sopen_calls (r := rulA) (now := 5) (n := 0) HS.out (by exact ⟨by decide, by decide, by decide⟩) (own_bytes HO2.out HKO.out) (by decide) (own_bytes HBX.out HXO.out) (hpl.below HBW.out) (by decide) (by decide))
  rw [openA_5 key x] at HOP
  go_wp2_with fail
  refine HOP.out.mono ?_
  rintro e w7 ⟨vz, rfl, hoz, hs7, hm7⟩
  dsimp only at hoz hs7
  have hap := Apart.one HS.out (e := 5) (by decide)
  replace HT := hd (show TimAt w7 gt rulA 0 0 from hm7.block HT.out (ne_types HT.out HS.out (by decide)))
  replace HRB := hd (hm7.block HRB.out (ne_types HRB.out HS.out (by decide)))
  replace HOT := hd (HOT.out.mod hm7 hap)
  replace HBW := hd (HBW.out.trans (hm7.toBelow (fun k hk => by rw [hk]; exact HG.out) HBW.out.size))
  replace HS := hd hs7
  clear hoz hs7 hm7 hap HOP HBX HO1 HO2 HKL HKO HXL HXO
  have hg : Grow w7 w7 := Grow.refl w7
  have t0 := Grow.cells (show w7.cell? ⟨q, 0, none⟩ = some (.int .u64 5) by rw [blk_cell HRB.out]; rfl)
  have t1 := Grow.cells (show w7.cell? ⟨q, 1, none⟩ = some (.int .u64 30) by rw [blk_cell HRB.out]; rfl)
  have t2 := Grow.cells (show w7.cell? ⟨q, 2, none⟩ = some (.int .i64 2) by rw [blk_cell HRB.out]; rfl)
  have t3 := Grow.cells (show w7.cell? ⟨q, 3, none⟩ = some (.int .u64 50) by rw [blk_cell HRB.out]; rfl)
  have t4 := Grow.cells (show w7.cell? ⟨q, 4, none⟩ = some (.int .u64 100) by rw [blk_cell HRB.out]; rfl)
  have t5 := Grow.cells (show w7.cell? ⟨q, 5, none⟩ = some (.int .u64 5) by rw [blk_cell HRB.out]; rfl)
  have t6 := Grow.cells (show w7.cell? ⟨q, 6, none⟩ = some (.int .u64 9) by rw [blk_cell HRB.out]; rfl)
  have HW0 := fun w => hd (wait_calls (r0 := 5) (r1 := 30) (r2 := 2) (r3 := 50) (r4 := 100) (r5 := 5) (r6 := 9) (tries := 0) (w := w) (by decide) (by decide) (by decide))
  rw [wait_0] at HW0
  have HW2 := fun w => hd (wait_calls (r0 := 5) (r1 := 30) (r2 := 2) (r3 := 50) (r4 := 100) (r5 := 5) (r6 := 9) (tries := 2) (w := w) (by decide) (by decide) (by decide))
  rw [wait_2] at HW2
  have HW3 := fun w => hd (wait_calls (r0 := 5) (r1 := 30) (r2 := 2) (r3 := 50) (r4 := 100) (r5 := 5) (r6 := 9) (tries := 3) (w := w) (by decide) (by decide) (by decide))
  rw [wait_3] at HW3
  have HST := fun w => fun (hg : Grow w7 w) => ((HOT.out.below hg).bytesOf (lit_ok' _ rfl)).str (P := Tryd.prog) Tryd.underlying40 Tryd.underlying5 Tryd.underlying9
  have q4 := str_lit (l := [116, 101, 120, 116]) (m := [116, 101, 120, 116]) rfl
  go_wp2_with fail
  refine ((HW0 _).out).mono ?_
  rintro e v8 ⟨rfl, hb⟩
  replace hg : Grow w7 v8 := below_seq hg hb
  clear hb
  go_wp2_with fail
  refine ((HW2 _).out).mono ?_
  rintro e v9 ⟨rfl, hb⟩
  replace hg : Grow w7 v9 := below_seq hg hb
  clear hb
  go_wp2_with fail
  refine ((HW3 _).out).mono ?_
  rintro e v10 ⟨rfl, hb⟩
  replace hg : Grow w7 v10 := below_seq hg hb
  clear hb
  have s4 := HST _ hg
  have HSN := hd (fun w (hg : Grow w7 w) => sent_calls (HS.out.below hg))
  have HRK := hd (fun w (hg : Grow w7 w) => (show Calls _ _ _ w (fun e w' => e = .returned (.bool true) ∧ Below w.heap.size w w') from by
    have h := rekey_calls (now := 50) (HS.out.below hg) (by decide)
    rw [rek_50] at h
    exact h))
  have HEX := hd (fun w (hg : Grow w7 w) => (show Calls _ _ _ w (fun e w' => e = .returned (.bool false) ∧ Below w.heap.size w w') from by
    have h := expired_calls (now := 99) (HS.out.below hg) (by decide)
    rw [exp_99] at h
    exact h))
  have HD4 := hd (fun w (hg : Grow w7 w) => (show Calls _ _ _ w (fun e w' => e = .returned (.bool false) ∧ Below w.heap.size w w') from by
    have h := due_calls (now := 4) (HT.out.below hg) (by exact ⟨by decide, by decide⟩) (by decide) (by decide)
    rw [due_4] at h
    exact h))
  have HD5 := hd (fun w (hg : Grow w7 w) => (show Calls _ _ _ w (fun e w' => e = .returned (.bool true) ∧ Below w.heap.size w w') from by
    have h := due_calls (now := 5) (HT.out.below hg) (by exact ⟨by decide, by decide⟩) (by decide) (by decide)
    rw [due_5] at h
    exact h))
  have HAG := hd (fun w (hg : Grow w7 w) => again_calls (now := 5) (HT.out.below hg) (by decide) (by decide))
  clear t0 t1 t2 t3 t4 t5 t6 HW0 HW2 HW3 HST
  go_wp2_with fail
  refine (HSN.out _ hg).mono ?_
  rintro e v11 ⟨rfl, rfl⟩
  go_wp2_with fail
  refine (HRK.out _ hg).mono ?_
  rintro e v12 ⟨rfl, hb⟩
  replace hg : Grow w7 v12 := below_seq hg hb
  clear hb
  go_wp2_with fail
  refine (HEX.out _ hg).mono ?_
  rintro e v13 ⟨rfl, hb⟩
  replace hg : Grow w7 v13 := below_seq hg hb
  clear hb
  go_wp2_with fail
  refine (HD4.out _ hg).mono ?_
  rintro e v14 ⟨rfl, hb⟩
  replace hg : Grow w7 v14 := below_seq hg hb
  clear hb
  go_wp2_with fail
  refine (HD5.out _ hg).mono ?_
  rintro e v15 ⟨rfl, hb⟩
  replace hg : Grow w7 v15 := below_seq hg hb
  clear hb
  go_wp2_with fail
  refine (HAG.out _ hg).mono ?_
  rintro e v16 ⟨rfl, _, hm⟩
  have hbz := (below_seq HBW.out hg).trans (hm.toBelow (fun k hk => by rw [hk]; exact HTG.out) (below_seq HBW.out hg).size)
  clear hm hg s4 q4
  go_wp2
  go_ret
  exact ⟨by first | rfl | simp [rulA], hbz⟩
end Go.Proofs.YtlgdplodglchaaaDoor
/- Rules as an argument: a struct of seven whole numbers, by value. -/
set_option linter.unusedVariables false
namespace Go.Proofs.YtlgdplodglchaaaDoor
open Go.ChangeShapes Go.WideShapes Go.Deep Go.RowKit
theorem array7 {α : Type} {cs : Array α} {c0 c1 c2 c3 c4 c5 c6 : α} (h : cs.size = 7) (h0 : cs.toList[0]? = some c0) (h1 : cs.toList[1]? = some c1) (h2 : cs.toList[2]? = some c2) (h3 : cs.toList[3]? = some c3) (h4 : cs.toList[4]? = some c4) (h5 : cs.toList[5]? = some c5) (h6 : cs.toList[6]? = some c6) : cs = #[c0, c1, c2, c3, c4, c5, c6] := by
  obtain ⟨l⟩ := cs
  match l, h with
  | [a0, a1, a2, a3, a4, a5, a6], _ => simp_all
def Rul.all (r : Rul) : Prop := r.r0 < 2 ^ 64 ∧ r.r1 < 2 ^ 64 ∧ (-9223372036854775808 ≤ r.r2 ∧ r.r2 ≤ 9223372036854775807) ∧ r.r3 < 2 ^ 64 ∧ r.r4 < 2 ^ 64 ∧ r.r5 < 2 ^ 64 ∧ r.r6 < 2 ^ 64
theorem open_rules {H : Type} {enc : TypeId × Value → H} {P : Program} {w : World} {base b0 : Nat} {rc : Reach} {spare : Nat → Bool} {held : Bool} {t : TypeId} {f0 f1 f2 f3 f4 f5 f6 : Field} {v : Value} {d : DataW H} {ps : List MemPlace}
    (ht : P.underlying t = some (.struct #[f0, f1, f2, f3, f4, f5, f6])) (hone : oneCellFields P #[f0, f1, f2, f3, f4, f5, f6] = true) (hC : P.cellsOf t = 7)
    (k0 : P.underlying f0.type = some (.int .u64)) (k1 : P.underlying f1.type = some (.int .u64)) (k2 : P.underlying f2.type = some (.int .i64)) (k3 : P.underlying f3.type = some (.int .u64)) (k4 : P.underlying f4.type = some (.int .u64)) (k5 : P.underlying f5.type = some (.int .u64)) (k6 : P.underlying f6.type = some (.int .u64))
    (hval : Value.okWide P w rc b0 t v) (h : DataW.Trod enc P w base spare held t v d ps) : ∃ r : Rul, v = r.v ∧ r.all := by
  obtain ⟨cs, rfl, hsz⟩ := okWide_struct ht hval
  rw [hC] at hsz
  obtain ⟨fuel, hf⟩ := h
  obtain ⟨ys, n', hn', hy, hlen, hyl, hf⟩ := DataW.trod_struct ht hf
  have hcl : (Value.agg cs).cells.toList = cs.toList := by simp [Value.cells]
  rw [hcl] at hf
  have hl7 : cs.toList.length = 7 := by simpa using hsz
  have key : ∀ (j : Nat) (f : Field) (k : IntKind), (#[f0, f1, f2, f3, f4, f5, f6] : Array Field)[j]? = some f → P.underlying f.type = some (.int k) → ∃ z, cs.toList[j]? = some (.int k z) ∧ (Lit.int k z).wf = true := fun j f k hj hk => by
    obtain ⟨ho, hkk⟩ := hone_of hone j f hj
    have hjl : j < 7 := (Array.getElem?_eq_some_iff.1 hj).1
    have h1 := hf j f hj
    rw [ho, hkk, show (cs.toList.drop j).take 1 = [cs.toList[j]'(by omega)] by rw [List.drop_eq_getElem_cons (by omega)]; rfl] at h1
    rw [List.getElem?_eq_getElem (show j < ys.length by rw [hyl]; exact hjl)] at h1
    obtain ⟨z, e1, _, hw⟩ := DataW.trod_int hk h1
    injection e1 with e1
    refine ⟨z, ?_, hw⟩
    rw [List.getElem?_eq_getElem (by omega), e1]
  obtain ⟨z0, c0, w0⟩ := key 0 f0 .u64 rfl k0
  obtain ⟨z1, c1, w1⟩ := key 1 f1 .u64 rfl k1
  obtain ⟨z2, c2, w2⟩ := key 2 f2 .i64 rfl k2
  obtain ⟨z3, c3, w3⟩ := key 3 f3 .u64 rfl k3
  obtain ⟨z4, c4, w4⟩ := key 4 f4 .u64 rfl k4
  obtain ⟨z5, c5, w5⟩ := key 5 f5 .u64 rfl k5
  obtain ⟨z6, c6, w6⟩ := key 6 f6 .u64 rfl k6
  have b0 := bounds_u64 w0
  have b1 := bounds_u64 w1
  have b2 := bounds_i64 w2
  have b3 := bounds_u64 w3
  have b4 := bounds_u64 w4
  have b5 := bounds_u64 w5
  have b6 := bounds_u64 w6
  refine ⟨⟨z0.toNat, z1.toNat, z2, z3.toNat, z4.toNat, z5.toNat, z6.toNat⟩, ?_, ?_⟩
  · rw [array7 hsz c0 c1 c2 c3 c4 c5 c6]
    unfold Rul.v
    dsimp only
    rw [Int.toNat_of_nonneg b0.1, Int.toNat_of_nonneg b1.1, Int.toNat_of_nonneg b3.1, Int.toNat_of_nonneg b4.1, Int.toNat_of_nonneg b5.1, Int.toNat_of_nonneg b6.1]
  · unfold Rul.all
    dsimp only
    omega
end Go.Proofs.YtlgdplodglchaaaDoor
