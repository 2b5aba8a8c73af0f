/- The walks through sym.State's methods. -/
import Derived.Test.YtlgdplodglchaaaDoorM6
import Derived.Test.YtlgdplodglchaaaDoorM4
import Derived.Test.YtlgdplodglchaaaDoorM5
set_option linter.unusedVariables false
set_option linter.unusedSimpArgs false
namespace Go.Proofs.YtlgdplodglchaaaDoor
open Go.RowKit Go.Proofs.YtlgdplodglchaaaDoorW.PrintWords Go.Proofs.YtlgdplodglchaaaDoorW.PrintLast Go.Proofs.YtlgdplodglchaaaDoorW.PrintMore
/-- A state's cells: the chaining key, the sum, the cipher's key and number. -/
def stC (ck h k : Sl) (N : Nat) : Array Value := #[.slice ck.A ck.n ck.c, .slice h.A h.n h.c, .slice k.A k.n k.c, .int .u64 (N : Int)]
def StAt (w : World) (g : Nat) (ck h k : Sl) (N : Nat) : Prop := w.heap[g]? = some (.cells (stC ck h k N) 86 (0, 0))
section
variable {w : World} {g N : Nat} {ck h k : Sl}
theorem StAt.below {w1 : World} (hs : StAt w g ck h k N) (hb : Below w.heap.size w w1) : StAt w1 g ck h k N := blk_below hs hb
theorem StAt.c0 (hs : StAt w g ck h k N) : w.cell? ⟨g, 0, none⟩ = some (.slice ck.A ck.n ck.c) := by rw [blk_cell hs]; rfl
theorem StAt.c1 (hs : StAt w g ck h k N) : w.cell? ⟨g, 1, none⟩ = some (.slice h.A h.n h.c) := by rw [blk_cell hs]; rfl
theorem StAt.c2 (hs : StAt w g ck h k N) : w.cell? ⟨g, 2, none⟩ = some (.slice k.A k.n k.c) := by rw [blk_cell hs]; rfl
theorem StAt.c3 (hs : StAt w g ck h k N) : w.cell? ⟨g, 3, none⟩ = some (.int .u64 (N : Int)) := by rw [blk_cell hs]; rfl
theorem StAt.set0 (hs : StAt w g ck h k N) (x : Sl) : StAt (w.setCell ⟨g, 0, none⟩ (.slice x.A x.n x.c)) g x h k N := blk_set hs 0 _
theorem StAt.set1 (hs : StAt w g ck h k N) (x : Sl) : StAt (w.setCell ⟨g, 1, none⟩ (.slice x.A x.n x.c)) g ck x k N := blk_set hs 1 _
theorem StAt.set2 (hs : StAt w g ck h k N) (x : Sl) : StAt (w.setCell ⟨g, 2, none⟩ (.slice x.A x.n x.c)) g ck h x N := blk_set hs 2 _
theorem StAt.set3 (hs : StAt w g ck h k N) (x : Nat) : StAt (w.setCell ⟨g, 3, none⟩ (.int .u64 (x : Int))) g ck h k x := blk_set hs 3 _
theorem mod_cell (w : World) (g i : Nat) (u : Value) : Mod (fun k => k = g) w (w.setCell ⟨g, i, none⟩ u) := Mod.set (S := fun k => k = g) (g := g) (i := i) w rfl u
theorem OwnK.modS {k : IntKind} {e base : Nat} {w w1 : World} {v : Value} {l : List Nat} {ck h s : Sl} {N : Nat} (ho : OwnK k e base w v l) (hs : StAt w g ck h s N) (hm : Mod (fun k => k = g) w w1) (hne : 86 ≠ e) : OwnK k e base w1 v l := ho.mod hm (Apart.one hs hne)
/-- A value that is a slice, as its three parts. -/
theorem OwnK.sl {e base n : Nat} {w : World} {v : Value} {l : List Nat} (h : OwnK .u8 e base w v l) (hn : l.length = n) : ∃ s : Sl, v = .slice s.A s.n s.c ∧ s.n = n ∧ OwnK .u8 e base w s.v l := by
  obtain ⟨A, c, rfl, _, _⟩ := h.slice
  exact ⟨⟨A, l.length, c⟩, rfl, hn, h⟩
set_option maxHeartbeats 4000000 in
set_option maxRecDepth 100000 in
theorem step_calls {F : Nat} {fn : Func} {D : Option Addr} {nd cd : Nat} {Q : World → Value → Nat → World → Prop} (hf : Tryd.prog.funcs[F]? = some fn) (hname : (fn.name == "runtime.NumGoroutine") = false) (hbd : fn.body.isSome = true) (hs : StAt w g ck h k N)
    (hF : ∀ w1, Below w.heap.size w w1 → Calls Tryd.prog F #[.pointer (some ⟨g, 2, none⟩), .slice h.A h.n h.c, .slice D nd cd] w1 fun e w' => ∃ v z, e = .returned (.tuple #[v, .int .i64 ((z : Nat) : Int)]) ∧ Q w1 v z w') :
    Calls Tryd.prog 69 #[.pointer (some ⟨g, 0, none⟩), .func (.func F) #[] #[], .slice D nd cd] w fun e w' => ∃ w1 v z, Below w.heap.size w w1 ∧ e = .returned (.tuple #[v, .int .i64 ((z : Nat) : Int)]) ∧ Q w1 v z w' := by
  have HF := hd hF
  have c1 := hs.c1
  clear hs hF
  obtain ⟨A, n, c⟩ := h
  dsimp only at c1 HF
  go_enter Tryd.func69, Tryd.ntmps69
  go_upto_region 3 with (fail)
  refine up_start [9] [(0, true), (1, true), (2, true), (3, true), (4, true), (5, true), (6, true), (7, true), (8, true), (9, false), (10, true), (11, true), (12, true), (13, true)] (by kernel_rfl) rfl (by kernel_rfl) (by kernel_rfl) ?_
  have HBD := hd (below_drew (Below.refl w.heap.size w))
  have t1 := Grow.cells (show w.drew.cell? ⟨g, 1, none⟩ = _ from c1)
  generalize w.drew = w5 at t1 HBD ⊢
  clear c1
  refine seq_pure (i := 0) (N := some 10) (v := ?_) (a' := ?_) rfl rfl (by rfl) (fun _ _ _ h => h) ?_ ?_ ?_
  rotate_left 2
  · intro w' hg
    go_simp
    with_reducible rfl
  · simp only [Act.put, List.setIfInBounds_toArray, List.set_cons_zero, List.set_cons_succ, i64_w, i32_w]
    rfl
  refine seq_pure (i := 1) (N := some 11) (v := ?_) (a' := ?_) rfl rfl (by rfl) (fun _ _ _ h => h) ?_ ?_ ?_
  rotate_left 2
  · intro w' hg
    go_simp
    with_reducible rfl
  · simp only [Act.put, List.setIfInBounds_toArray, List.set_cons_zero, List.set_cons_succ, i64_w, i32_w]
    rfl
  refine seq_pure (i := 2) (N := some 12) (v := ?_) (a' := ?_) rfl rfl (by rfl) (fun _ _ _ h => h) ?_ ?_ ?_
  rotate_left 2
  · intro w' hg
    go_simp
    with_reducible rfl
  · simp only [Act.put, List.setIfInBounds_toArray, List.set_cons_zero, List.set_cons_succ, i64_w, i32_w]
    rfl
  refine seq_pure (i := 3) (N := some 13) (v := ?_) (a' := ?_) rfl rfl (by rfl) (fun _ _ _ h => h) ?_ ?_ ?_
  rotate_left 2
  · intro w' hg
    go_simp
    with_reducible rfl
  · simp only [Act.put, List.setIfInBounds_toArray, List.set_cons_zero, List.set_cons_succ, i64_w, i32_w]
    rfl
  refine seq_pure (i := 4) (N := some 14) (v := ?_) (a' := ?_) rfl rfl (by rfl) (fun _ _ _ h => h) ?_ ?_ ?_
  rotate_left 2
  · intro w' hg
    go_simp
    with_reducible rfl
  · simp only [Act.put, List.setIfInBounds_toArray, List.set_cons_zero, List.set_cons_succ, i64_w, i32_w]
    rfl
  refine seq_pure (i := 5) (N := some 15) (v := ?_) (a' := ?_) rfl rfl (by rfl) (fun _ _ _ h => h) ?_ ?_ ?_
  rotate_left 2
  · intro w' hg
    go_simp
    with_reducible rfl
  · simp only [Act.put, List.setIfInBounds_toArray, List.set_cons_zero, List.set_cons_succ, i64_w, i32_w]
    rfl
  refine seq_pure (i := 6) (N := some 16) (v := ?_) (a' := ?_) rfl rfl (by rfl) (fun _ _ _ h => h) ?_ ?_ ?_
  rotate_left 2
  · intro w' hg
    go_simp
    with_reducible rfl
  · simp only [Act.put, List.setIfInBounds_toArray, List.set_cons_zero, List.set_cons_succ, i64_w, i32_w]
    rfl
  refine seq_pure (i := 7) (N := some 17) (v := ?_) (a' := ?_) rfl rfl (by rfl) (fun _ _ _ h => h) ?_ ?_ ?_
  rotate_left 2
  · intro w' hg
    go_simp
    with_reducible rfl
  · simp only [Act.put, List.setIfInBounds_toArray, List.set_cons_zero, List.set_cons_succ, i64_w, i32_w]
    rfl
  refine seq_pure (i := 8) (N := some 18) (v := ?_) (a' := ?_) rfl rfl (by rfl) (fun _ _ _ h => h) ?_ ?_ ?_
  rotate_left 2
  · intro w' hg
    go_simp
    with_reducible rfl
  · simp only [Act.put, List.setIfInBounds_toArray, List.set_cons_zero, List.set_cons_succ, i64_w, i32_w]
    rfl
  refine seq_callV (i := 9) (N := some 19) rfl rfl hf hname hbd #[.pointer (some ⟨g, 2, none⟩), .slice A n c, .slice D nd cd] (by rfl) rfl rfl ?_ ?_
  · simp only [List.map_toArray, List.map_cons, List.map_nil]
    rfl
  refine (HF.out w5 HBD.out).mono ?_
  rintro e w7 ⟨v, z, rfl, hq⟩
  refine ⟨_, rfl, fun h => absurd (by decide) h, ?_⟩
  refine seq_norm (a' := ?_) ?_ ?_
  rotate_left
  · show Act.put _ (some 19) _ = _
    simp only [Act.put, List.setIfInBounds_toArray, List.set_cons_zero, List.set_cons_succ, i64_w, i32_w]
    rfl
  have HQ := hd hq
  clear hq
  refine seq_pure (i := 10) (N := some 20) (v := ?_) (a' := ?_) rfl rfl (by rfl) (fun _ _ _ h => h) ?_ ?_ ?_
  rotate_left 2
  · intro w' hg
    go_simp
    with_reducible rfl
  · simp only [Act.put, List.setIfInBounds_toArray, List.set_cons_zero, List.set_cons_succ, i64_w, i32_w]
    rfl
  refine seq_pure (i := 11) (N := some 21) (v := ?_) (a' := ?_) rfl rfl (by rfl) (fun _ _ _ h => h) ?_ ?_ ?_
  rotate_left 2
  · intro w' hg
    go_simp
    with_reducible rfl
  · simp only [Act.put, List.setIfInBounds_toArray, List.set_cons_zero, List.set_cons_succ, i64_w, i32_w]
    rfl
  refine seq_pure (i := 12) (N := some 6) (v := ?_) (a' := ?_) rfl rfl (by rfl) (fun _ _ _ h => h) ?_ ?_ ?_
  rotate_left 2
  · intro w' hg
    go_simp
    with_reducible rfl
  · simp only [Act.put, List.setIfInBounds_toArray, List.set_cons_zero, List.set_cons_succ, i64_w, i32_w]
    rfl
  refine seq_pure (i := 13) (N := some 7) (v := ?_) (a' := ?_) rfl rfl (by rfl) (fun _ _ _ h => h) ?_ ?_ ?_
  rotate_left 2
  · intro w' hg
    go_simp
    with_reducible rfl
  · simp only [Act.put, List.setIfInBounds_toArray, List.set_cons_zero, List.set_cons_succ, i64_w, i32_w]
    rfl
  refine seq_done ?_
  go_wp2
  exact bodyPost_ret (v := .tuple #[v, .int .i64 ((z : Nat) : Int)]) (by simp [results, Tryd.results69, go_sem]) rfl ⟨w5, v, z, HBD.out, rfl, HQ.out⟩
set_option maxHeartbeats 4000000 in
set_option maxRecDepth 100000 in
theorem mixhash_calls {B : Option Addr} {nb cb : Nat} {lh b : List Nat} (hs : StAt w g ck h k N) (hh : Bytes w h.A h.n h.c lh) (hb : Bytes w B nb cb b) (hn1 : h.n ≤ 100000000) (hn2 : nb ≤ 100000000) (ht : TurnsAt w) (hc : ConstsAt w) :
    Calls Tryd.prog 36 #[.pointer (some ⟨g, 0, none⟩), .slice B nb cb] w fun e w' => ∃ x : Sl, e = .returned (.tuple #[]) ∧ StAt w' g ck x k N ∧ OwnK .u8 5 w.heap.size w' x.v (sumN (lh ++ b)) ∧ x.n = 32 ∧ Mod (fun k => k = g) w w' := by
  have HS := hd hs
  have c1 := hs.c1
  obtain ⟨Ah, nh, ch⟩ := h
  dsimp only at c1 hh hn1
  have hal := below_alloc (Below.refl w.heap.size w) (.cells #[.slice Ah nh ch, .slice B nb cb] 40)
  have HR2 := hd (Rows2.new (t := 40) (g := w.heap.size) (vs := [.slice Ah nh ch, .slice B nb cb]) (L := [lh, b]) ⟨⟨_, _, _, rfl, hh⟩, ⟨_, _, _, rfl, hb⟩, trivial⟩ rfl rfl (by simp))
  have HLB := hd (show lh.length = nh ∧ b.length = nb from ⟨hh.2.1, hb.2.1⟩)
  have HOK := hd (hh.ok.append hb.ok)
  have HT := hd ht
  have HCO := hd hc
  have HBW := hd hal
  have hfit : ([lh, b] : List (List Nat)).flatten.length ≤ 140737488355328 := by simp [HLB.out.1, HLB.out.2]; omega
  have HFIT := hd hfit
  have HN := hd (And.intro hn1 hn2)
  clear hs hh hb ht hc hal hfit hn1 hn2
  go_enter Tryd.func36, Tryd.ntmps36
  go_wp2_with fail
  generalize w.alloc (.cells #[.slice Ah nh ch, .slice B nb cb] 40) = w1 at HR2 HBW ⊢
  refine (join_calls HR2.out rfl (Nat.le_refl 2) HFIT.out).mono ?_
  rintro e w2 ⟨vj, rfl, hj, hb⟩
  rw [show ([lh, b] : List (List Nat)).flatten = lh ++ b by simp] at hj
  obtain ⟨Aj, cj, rfl, hjb⟩ := OwnK.bytes hj (nh + nb) (by rw [List.length_append, HLB.out.1, HLB.out.2]) HOK.out
  have HJ := hd hjb
  replace HBW := hd (below_seq HBW.out hb)
  clear hj hb hjb HR2 HFIT c1
  go_wp2_with fail
  refine (sum_calls HJ.out (by have := HN.out; omega) (HT.out.below HBW.out) (HCO.out.below HBW.out)).mono ?_
  rintro e w3 ⟨v, rfl, ho, hb⟩
  obtain ⟨x, rfl, hxn, hx⟩ := ho.sl (n := 32) (sumN_length _)
  have HX := hd (hx.lower HBW.out.size)
  replace HBW := hd (below_seq HBW.out hb)
  replace HS := hd (HS.out.below HBW.out)
  have HXN := hd hxn
  have d1 := HS.out.c1
  have f1 := blk_frozen HS.out 1
  clear ho hx hb HJ hxn
  go_wp2
  have hmc := mod_cell w3 g 1 (.slice x.A x.n x.c)
  have h1 := HX.out.modS HS.out hmc (by decide)
  have h2 := HS.out.set1 x
  have h3 := (Mod.below HBW.out).trans hmc
  go_end0
  exact ⟨x, rfl, h2, h1, HXN.out, h3⟩
/-- Behind the store of a new key, its number 0. -/
theorem StAt.setC {w : World} (hs : StAt w g ck h k N) (y : Sl) : StAt ((w.setCell ⟨g, 2, none⟩ (.slice y.A y.n y.c)).setCell ⟨g, 3, none⟩ (.int .u64 0)) g ck h y 0 := (hs.set2 y).set3 0
theorem mod_cell2 (w : World) (g i j : Nat) (u v : Value) : Mod (fun k => k = g) w ((w.setCell ⟨g, i, none⟩ u).setCell ⟨g, j, none⟩ v) := (mod_cell w g i u).trans (mod_cell _ g j v)
set_option maxHeartbeats 4000000 in
set_option maxRecDepth 100000 in
theorem mixkey_calls {B : Option Addr} {nb cb : Nat} {lck b : List Nat} (hs : StAt w g ck h k N) (hck : Bytes w ck.A ck.n ck.c lck) (hn : ck.n = 32) (hb : Bytes w B nb cb b) (hnb : nb ≤ 100000000) (ht : TurnsAt w) (hc : ConstsAt w) :
    Calls Tryd.prog 34 #[.pointer (some ⟨g, 0, none⟩), .slice B nb cb] w fun e w' => ∃ x y : Sl, e = .returned (.tuple #[]) ∧ StAt w' g x h y 0 ∧ OwnK .u8 5 w.heap.size w' x.v (threeA lck b) ∧ x.n = 32 ∧ OwnK .u8 5 w.heap.size w' y.v (threeB lck b) ∧ y.n = 32 ∧ Mod (fun k => k = g) w w' := by
  have HS := hd hs
  have c0 := hs.c0
  obtain ⟨Ac, nc, cc⟩ := ck
  dsimp only at c0 hck hn
  subst hn
  have HTW := hd (two_calls hck hb hnb ht hc)
  clear hs hck hb hnb ht hc
  go_enter Tryd.func34, Tryd.ntmps34
  go_wp2_with fail
  refine HTW.out.mono ?_
  rintro e w1 ⟨va, vb, rfl, hoa, hob, hb⟩
  obtain ⟨x, rfl, hxn, hx⟩ := hoa.sl (n := 32) (threeA_length _ _)
  obtain ⟨y, rfl, hyn, hy⟩ := hob.sl (n := 32) (threeB_length _ _)
  have HX := hd hx
  have HY := hd hy
  have HXN := hd hxn
  have HYN := hd hyn
  have HBW := hd hb
  replace HS := hd (HS.out.below hb)
  have d0 := HS.out.c0
  have f0 := blk_frozen HS.out 0
  clear hoa hob hx hy hxn hyn hb HTW c0
  go_upto_region 3 with (fail)
  have hmc := mod_cell w1 g 0 (.slice x.A x.n x.c)
  have HM := hd ((Mod.below HBW.out).trans hmc)
  replace HX := hd (HX.out.modS HS.out hmc (by decide))
  replace HY := hd (HY.out.modS HS.out hmc (by decide))
  replace HS := hd (HS.out.set0 x)
  clear d0 f0 hmc
  generalize w1.setCell ⟨g, 0, none⟩ (.slice x.A x.n x.c) = w2 at HM HX HY HS ⊢
  have d2 := HS.out.c2
  have f2 := blk_frozen HS.out 2
  have d3 := (HS.out.set2 y).c3
  have f3 := blk_frozen (HS.out.set2 y) 3
  have d3' := HS.out.c3
  have f3' := blk_frozen HS.out 3
  go_wp2
  have hm2 := mod_cell2 w2 g 2 3 (.slice y.A y.n y.c) (.int .u64 0)
  have h1 := HX.out.modS HS.out hm2 (by decide)
  have h2 := HY.out.modS HS.out hm2 (by decide)
  have h3 := HS.out.setC y
  have h4 := HM.out.trans hm2
  go_end0
  exact ⟨x, y, rfl, h3, h1, HXN.out, h2, HYN.out, h4⟩
theorem TurnsAt.mod {w w1 : World} {S : Nat → Prop} (h : TurnsAt w) (hm : Mod S w w1) (h0 : ¬ S 2) : TurnsAt w1 := by
  obtain ⟨t, fr, hb⟩ := h
  exact ⟨t, fr, hm.block hb h0⟩
theorem ConstsAt.mod {w w1 : World} {S : Nat → Prop} (h : ConstsAt w) (hm : Mod S w w1) (h0 : ¬ S 1) : ConstsAt w1 := by
  obtain ⟨t, fr, hb⟩ := h
  exact ⟨t, fr, hm.block hb h0⟩
/-- The two variables' blocks are no state's. -/
theorem StAt.vars (hs : StAt w g ck h k N) (ht : TurnsAt w) (hc : ConstsAt w) : g ≠ 2 ∧ g ≠ 1 := by
  obtain ⟨t, fr, h1⟩ := ht
  obtain ⟨t2, fr2, h2⟩ := hc
  refine ⟨fun e => ?_, fun e => ?_⟩
  · subst e
    have h3 := hs.symm.trans h1
    injection h3 with h3
    injection h3 with h3 _ _
    have := congrArg (fun a : Array Value => a.size) h3
    exact absurd this (by simp [stC, cellsOf, kecT])
  · subst e
    have h3 := hs.symm.trans h2
    injection h3 with h3
    injection h3 with h3 _ _
    have := congrArg (fun a : Array Value => a.size) h3
    exact absurd this (by simp [stC, cellsOf, kecC])
theorem StAt.places (hs : StAt w g ck h k N) (hp : PlacesAt w) : g ≠ 0 := by
  obtain ⟨t, fr, h1⟩ := hp
  intro e
  subst e
  have h3 := hs.symm.trans h1
  injection h3 with h3
  injection h3 with h3 _ _
  have := congrArg (fun a : Array Value => a.size) h3
  exact absurd this (by simp [stC, placesCells])
set_option maxHeartbeats 4000000 in
set_option maxRecDepth 100000 in
theorem mixboth_calls {B : Option Addr} {nb cb : Nat} {lck lh b : List Nat} (hs : StAt w g ck h k N) (hck : Bytes w ck.A ck.n ck.c lck) (hn : ck.n = 32) (hh : Bytes w h.A h.n h.c lh) (hhn : h.n ≤ 100000000) (hhg : ∀ w', Mod (fun k => k = g) w w' → Bytes w' h.A h.n h.c lh) (hb : Bytes w B nb cb b) (hnb : nb ≤ 100000000) (ht : TurnsAt w) (hc : ConstsAt w) :
    Calls Tryd.prog 38 #[.pointer (some ⟨g, 0, none⟩), .slice B nb cb] w fun e w' => ∃ x z y : Sl, e = .returned (.tuple #[]) ∧ StAt w' g x z y 0 ∧ OwnK .u8 5 w.heap.size w' x.v (threeA lck b) ∧ x.n = 32 ∧ OwnK .u8 5 w.heap.size w' z.v (sumN (lh ++ threeB lck b)) ∧ z.n = 32 ∧ OwnK .u8 5 w.heap.size w' y.v (threeC lck b) ∧ y.n = 32 ∧ Mod (fun k => k = g) w w' := by
  have HS := hd hs
  have HV := hd (hs.vars ht hc)
  have HT := hd ht
  have HCO := hd hc
  have HHG := hd hhg
  have HHN := hd hhn
  have c0 := hs.c0
  obtain ⟨Ac, nc, cc⟩ := ck
  dsimp only at c0 hck hn
  subst hn
  have HTW := hd (three_calls hck hb hnb ht hc)
  clear hs hck hb hnb ht hc hh hhg hhn
  go_enter Tryd.func38, Tryd.ntmps38
  go_wp2_with fail
  refine HTW.out.mono ?_
  rintro e w1 ⟨va, vb, vc, rfl, hoa, hob, hoc, hb⟩
  obtain ⟨x, rfl, hxn, hx⟩ := hoa.sl (n := 32) (threeA_length _ _)
  obtain ⟨Az, cz, rfl, hz⟩ := hob.bytes 32 (threeB_length _ _) (threeB_ok _ _)
  obtain ⟨y, rfl, hyn, hy⟩ := hoc.sl (n := 32) (threeC_length _ _)
  have HX := hd hx
  have HY := hd hy
  have HZ := hd hob
  have HXN := hd hxn
  have HYN := hd hyn
  have HBW := hd hb
  replace HS := hd (HS.out.below hb)
  have d0 := HS.out.c0
  have f0 := blk_frozen HS.out 0
  clear hoa hob hoc hx hy hz hxn hyn hb HTW c0
  go_upto_region 3 with (fail)
  have hmc := mod_cell w1 g 0 (.slice x.A x.n x.c)
  have HM := hd ((Mod.below HBW.out).trans hmc)
  replace HX := hd (HX.out.modS HS.out hmc (by decide))
  replace HY := hd (HY.out.modS HS.out hmc (by decide))
  replace HZ := hd (HZ.out.modS HS.out hmc (by decide))
  replace HS := hd (HS.out.set0 x)
  clear d0 f0 hmc
  generalize w1.setCell ⟨g, 0, none⟩ (.slice x.A x.n x.c) = w2 at HM HX HY HZ HS ⊢
  go_wp2_with fail
  refine (mixhash_calls HS.out (HHG.out _ HM.out) (own_bytes HZ.out (threeB_ok _ _)) HHN.out (by decide) (HT.out.mod HM.out (fun e => HV.out.1 e.symm)) (HCO.out.mod HM.out (fun e => HV.out.2 e.symm))).mono ?_
  rintro e w3 ⟨z, rfl, hs3, hz3, hzn, hm3⟩
  have HSZ := hd HM.out.size
  have HZ3 := hd (hz3.lower HSZ.out)
  have HZN := hd hzn
  replace HX := hd (HX.out.modS HS.out hm3 (by decide))
  replace HY := hd (HY.out.modS HS.out hm3 (by decide))
  replace HM := hd (HM.out.trans hm3)
  replace HS := hd hs3
  have d2 := HS.out.c2
  have f2 := blk_frozen HS.out 2
  have d3 := (HS.out.set2 y).c3
  have f3 := blk_frozen (HS.out.set2 y) 3
  have d3' := HS.out.c3
  have f3' := blk_frozen HS.out 3
  clear hs3 hz3 hzn hm3 HZ
  go_wp2
  have hm2 := mod_cell2 w3 g 2 3 (.slice y.A y.n y.c) (.int .u64 0)
  have h1 := HX.out.modS HS.out hm2 (by decide)
  have h2 := HY.out.modS HS.out hm2 (by decide)
  have h5 := HZ3.out.modS HS.out hm2 (by decide)
  have h3 := HS.out.setC y
  have h4 := HM.out.trans hm2
  go_end0
  exact ⟨x, z, y, rfl, h3, h1, HXN.out, h5, HZN.out, h2, HYN.out, h4⟩
theorem openA_len (k nonce ad b : List Nat) : (openA k nonce ad b).1.length ≤ b.length := by
  unfold openA openN boxN
  repeat' split
  all_goals first | exact Nat.zero_le _ | (simp only [stream_length, List.length_take]; omega)
/-- What a state's Seal and Open leave: what came out, the error, the cipher's number, the sum. -/
def StPost (w : World) (g : Nat) (ck h k : Sl) (lh b : List Nat) (u : List Nat × Nat × Nat) (f : (List Nat × Nat × Nat) → List Nat) (e : Ending) (w' : World) : Prop :=
  ∃ (v : Value) (x : Sl), e = .returned (.tuple #[v, .int .i64 ((u.2.1 : Nat) : Int)]) ∧ OwnK .u8 5 w.heap.size w' v u.1 ∧ StAt w' g ck x k u.2.2 ∧ (u.2.1 = 0 → OwnK .u8 5 w.heap.size w' x.v (sumN (lh ++ f u)) ∧ x.n = 32) ∧ (u.2.1 ≠ 0 → x = h) ∧ Mod (fun k => k = g) w w'
set_option maxHeartbeats 4000000 in
set_option maxRecDepth 100000 in
theorem stseal_calls {B : Option Addr} {nb cb : Nat} {lh key b : List Nat} (hs : StAt w g ck h k N) (hk : Bytes w k.A k.n k.c key) (hN : N < 2 ^ 64) (hh : Bytes w h.A h.n h.c lh) (hhn : h.n ≤ 1000) (hhg : ∀ w', Mod (fun k => k = g) w w' → Bytes w' h.A h.n h.c lh) (hb : Bytes w B nb cb b) (hnb : nb ≤ 10000) (hbg : ∀ w', Mod (fun k => k = g) w w' → Bytes w' B nb cb b) (hp : PlacesAt w) (ht : TurnsAt w) (hc : ConstsAt w) :
    Calls Tryd.prog 40 #[.pointer (some ⟨g, 0, none⟩), .slice B nb cb] w (StPost w g ck h k lh b (useC key N b (sealA key (nonceN N) lh b)) (fun u => u.1)) := by
  obtain ⟨u, hu⟩ : ∃ u, Aside0 (useC key N b (sealA key (nonceN N) lh b) = u) := ⟨_, ⟨rfl⟩⟩
  have HUO := hd (show BytesOK u.1 by rw [← hu.out]; exact useC_ok hb.ok (sealA_ok _ _ _ hb.ok))
  have HUL := hd (show u.1.length ≤ 100000000 by rw [← hu.out]; exact useC_len (by rw [hb.2.1]; omega) (Nat.le_trans (sealA_len _ _ _ _) (by rw [hb.2.1]; omega)))
  have HST := hd (step_calls (Q := fun w1 v z w' => z = u.2.1 ∧ ∃ w2, w' = w2.setCell ⟨g, 3, none⟩ (.int .u64 (u.2.2 : Int)) ∧ Below w1.heap.size w1 w2 ∧ OwnK .u8 5 w1.heap.size w' v u.1) (D := B) (nd := nb) (cd := cb) Tryd.func49 (by kernel_rfl) rfl hs (fun w1 hb1 => by
    have h1 := cseal_calls (o := 2) (hs.below hb1) rfl rfl (hk.below hb1) hN (hh.below hb1) (hb.below hb1) (hp.below hb1) (by omega) (by omega)
    rw [hu.out] at h1
    exact h1.mono fun e w' ⟨v, w2, h2, h3, h4, h5⟩ => ⟨v, u.2.1, h2, rfl, w2, h3, h4, h5⟩))
  have HS := hd hs
  have HV := hd (hs.vars ht hc)
  have HT := hd ht
  have HCO := hd hc
  have HHG := hd hhg
  have HBG := hd hbg
  have HHN := hd (show h.n ≤ 100000000 by omega)
  have HND := hd (show nb ≤ 100000000 by omega)
  rw [hu.out]
  clear hs hk hN hh hhn hhg hb hnb hbg hp ht hc hu
  go_enter Tryd.func40, Tryd.ntmps40
  go_wp2_with fail
  refine HST.out.mono ?_
  rintro e w2 ⟨w1, v, z, hb1, rfl, rfl, w1', rfl, hb2, ho⟩
  have hbw := below_seq hb1 hb2
  have hs1 := HS.out.below hbw
  have HM := hd ((Mod.below hbw).trans (mod_cell w1' g 3 (.int .u64 (u.2.2 : Int))))
  obtain ⟨x, rfl, hxn, hx⟩ := ho.sl (n := u.1.length) rfl
  have HX := hd (hx.lower hb1.size)
  have HXN := hd hxn
  replace HS := hd (hs1.set3 u.2.2)
  clear hb1 hb2 hbw hs1 ho hx hxn HST
  generalize w1'.setCell ⟨g, 3, none⟩ (.int .u64 (u.2.2 : Int)) = w3 at HM HX HS ⊢
  by_cases he : u.2.1 = 0
  · have HE := hd he
    rw [he, show ((0 : Nat) : Int) = 0 from rfl]
    clear he
    go_wp2_with fail
    refine (mixhash_calls HS.out (HHG.out _ HM.out) (own_bytes HX.out HUO.out) HHN.out (by rw [HXN.out]; exact HUL.out) (HT.out.mod HM.out (fun e => HV.out.1 e.symm)) (HCO.out.mod HM.out (fun e => HV.out.2 e.symm))).mono ?_
    rintro e w4 ⟨y, rfl, hs4, hy4, hyn, hm4⟩
    have h1 := HX.out.modS HS.out hm4 (by decide)
    have h2 := hy4.lower HM.out.size
    have h3 := HM.out.trans hm4
    clear hy4
    go_wp2
    exact bodyPost_ret (v := .tuple #[.slice x.A x.n x.c, .int .i64 0]) (by simp [results, Tryd.results40, go_sem]) rfl ⟨_, y, by rw [HE.out]; rfl, h1, hs4, fun _ => ⟨h2, hyn⟩, fun h => absurd HE.out h, h3⟩
  · have HE := hd he
    have q1 : (((u.2.1 : Nat) : Int) == 0) = false := by simpa using he
    clear he
    go_wp2
    exact bodyPost_ret (v := .tuple #[.slice x.A x.n x.c, .int .i64 ((u.2.1 : Nat) : Int)]) (by simp [results, Tryd.results40, go_sem]) rfl ⟨_, h, rfl, HX.out, HS.out, fun h => absurd h HE.out, fun _ => rfl, HM.out⟩
set_option maxHeartbeats 4000000 in
set_option maxRecDepth 100000 in
theorem stopen_calls {B : Option Addr} {nb cb : Nat} {lh key b : List Nat} (hs : StAt w g ck h k N) (hk : Bytes w k.A k.n k.c key) (hN : N < 2 ^ 64) (hh : Bytes w h.A h.n h.c lh) (hhn : h.n ≤ 1000) (hhg : ∀ w', Mod (fun k => k = g) w w' → Bytes w' h.A h.n h.c lh) (hb : Bytes w B nb cb b) (hnb : nb ≤ 10000) (hbg : ∀ w', Mod (fun k => k = g) w w' → Bytes w' B nb cb b) (hp : PlacesAt w) (ht : TurnsAt w) (hc : ConstsAt w) :
    Calls Tryd.prog 42 #[.pointer (some ⟨g, 0, none⟩), .slice B nb cb] w (StPost w g ck h k lh b (useC key N b (openA key (nonceN N) lh b)) (fun u => b)) := by
  obtain ⟨u, hu⟩ : ∃ u, Aside0 (useC key N b (openA key (nonceN N) lh b) = u) := ⟨_, ⟨rfl⟩⟩
  have HUO := hd (show BytesOK u.1 by rw [← hu.out]; exact useC_ok hb.ok (openA_ok _ _ _ hb.ok))
  have HUL := hd (show u.1.length ≤ 100000000 by rw [← hu.out]; exact useC_len (by rw [hb.2.1]; omega) (Nat.le_trans (openA_len _ _ _ _) (by rw [hb.2.1]; omega)))
  have HST := hd (step_calls (Q := fun w1 v z w' => z = u.2.1 ∧ ∃ w2, w' = w2.setCell ⟨g, 3, none⟩ (.int .u64 (u.2.2 : Int)) ∧ Below w1.heap.size w1 w2 ∧ OwnK .u8 5 w1.heap.size w' v u.1) (D := B) (nd := nb) (cd := cb) Tryd.func51 (by kernel_rfl) rfl hs (fun w1 hb1 => by
    have h1 := copen_calls (o := 2) (hs.below hb1) rfl rfl (hk.below hb1) hN (hh.below hb1) (hb.below hb1) (hp.below hb1) (by omega) (by omega)
    rw [hu.out] at h1
    exact h1.mono fun e w' ⟨v, w2, h2, h3, h4, h5⟩ => ⟨v, u.2.1, h2, rfl, w2, h3, h4, h5⟩))
  have HS := hd hs
  have HV := hd (hs.vars ht hc)
  have HT := hd ht
  have HCO := hd hc
  have HHG := hd hhg
  have HBG := hd hbg
  have HHN := hd (show h.n ≤ 100000000 by omega)
  have HND := hd (show nb ≤ 100000000 by omega)
  rw [hu.out]
  clear hs hk hN hh hhn hhg hb hnb hbg hp ht hc hu
  go_enter Tryd.func42, Tryd.ntmps42
  go_wp2_with fail
  refine HST.out.mono ?_
  rintro e w2 ⟨w1, v, z, hb1, rfl, rfl, w1', rfl, hb2, ho⟩
  have hbw := below_seq hb1 hb2
  have hs1 := HS.out.below hbw
  have HM := hd ((Mod.below hbw).trans (mod_cell w1' g 3 (.int .u64 (u.2.2 : Int))))
  obtain ⟨x, rfl, hxn, hx⟩ := ho.sl (n := u.1.length) rfl
  have HX := hd (hx.lower hb1.size)
  have HXN := hd hxn
  replace HS := hd (hs1.set3 u.2.2)
  clear hb1 hb2 hbw hs1 ho hx hxn HST
  generalize w1'.setCell ⟨g, 3, none⟩ (.int .u64 (u.2.2 : Int)) = w3 at HM HX HS ⊢
  by_cases he : u.2.1 = 0
  · have HE := hd he
    rw [he, show ((0 : Nat) : Int) = 0 from rfl]
    clear he
    go_wp2_with fail
    refine (mixhash_calls HS.out (HHG.out _ HM.out) (HBG.out _ HM.out) HHN.out HND.out (HT.out.mod HM.out (fun e => HV.out.1 e.symm)) (HCO.out.mod HM.out (fun e => HV.out.2 e.symm))).mono ?_
    rintro e w4 ⟨y, rfl, hs4, hy4, hyn, hm4⟩
    have h1 := HX.out.modS HS.out hm4 (by decide)
    have h2 := hy4.lower HM.out.size
    have h3 := HM.out.trans hm4
    clear hy4
    go_wp2
    exact bodyPost_ret (v := .tuple #[.slice x.A x.n x.c, .int .i64 0]) (by simp [results, Tryd.results42, go_sem]) rfl ⟨_, y, by rw [HE.out]; rfl, h1, hs4, fun _ => ⟨h2, hyn⟩, fun h => absurd HE.out h, h3⟩
  · have HE := hd he
    have q1 : (((u.2.1 : Nat) : Int) == 0) = false := by simpa using he
    clear he
    go_wp2
    exact bodyPost_ret (v := .tuple #[.slice x.A x.n x.c, .int .i64 ((u.2.1 : Nat) : Int)]) (by simp [results, Tryd.results42, go_sem]) rfl ⟨_, h, rfl, HX.out, HS.out, fun h => absurd h HE.out, fun _ => rfl, HM.out⟩
theorem resc_cc {P : Program} {fn : Func} {p q : Tmp} {ty ty2 : TypeId} (h : fn.results = #[.cell p ty, .cell q ty2]) (tmps : Array Value) (w : World) (g g2 : Nat) (t t2 : TypeId) (cs cs2 : Array Value) (fr fr2 : Nat × Nat) (d d2 : TypeDesc)
    (hp : tmps.getD p undef = .pointer (some ⟨g, 0, none⟩)) (hg : w.heap[g]? = some (.cells cs t fr))
    (hu : P.underlying ty = some d) (hd : (match d with | .struct _ | .array _ _ => true | _ => false) = true) (hi : (P.info? ty).map (·.size) = some cs.size)
    (hp2 : tmps.getD q undef = .pointer (some ⟨g2, 0, none⟩)) (hg2 : w.heap[g2]? = some (.cells cs2 t2 fr2))
    (hu2 : P.underlying ty2 = some d2) (hd2 : (match d2 with | .struct _ | .array _ _ => true | _ => false) = true) (hi2 : (P.info? ty2).map (·.size) = some cs2.size) :
    (results fn tmps).run P w = .ok (.tuple #[.agg cs, .agg cs2]) w := by
  have hp' : tmps[p]?.getD undef = .pointer (some ⟨g, 0, none⟩) := by simpa using hp
  have hp2' : tmps[q]?.getD undef = .pointer (some ⟨g2, 0, none⟩) := by simpa using hp2
  simp [results, h, hp', hp2', asAddr, run_loadVar_row w g t ty cs fr d hg hu hd hi, run_loadVar_row w g2 t2 ty2 cs2 fr2 d2 hg2 hu2 hd2 hi2]
set_option maxHeartbeats 4000000 in
set_option maxRecDepth 100000 in
theorem split_calls {lck : List Nat} (hs : StAt w g ck h k N) (hck : Bytes w ck.A ck.n ck.c lck) (hn : ck.n = 32) (ht : TurnsAt w) (hc : ConstsAt w) :
    Calls Tryd.prog 45 #[.pointer (some ⟨g, 0, none⟩)] w fun e w' => ∃ x y : Sl, e = .returned (.tuple #[.agg #[.slice x.A x.n x.c, .int .u64 0], .agg #[.slice y.A y.n y.c, .int .u64 0]]) ∧ OwnK .u8 5 w.heap.size w' x.v (threeA lck []) ∧ x.n = 32 ∧ OwnK .u8 5 w.heap.size w' y.v (threeB lck []) ∧ y.n = 32 ∧ Below w.heap.size w w' := by
  have a1 := below_alloc (Below.refl w.heap.size w) (.cells #[.slice none 0 0, .int .u64 0] 46)
  have b1 := blk_new w (.cells #[.slice none 0 0, .int .u64 0] 46)
  have a2 := below_alloc (Below.refl _ (w.alloc (.cells #[.slice none 0 0, .int .u64 0] 46))) (.cells #[.slice none 0 0, .int .u64 0] 46)
  have b2 := blk_new (w.alloc (.cells #[.slice none 0 0, .int .u64 0] 46)) (.cells #[.slice none 0 0, .int .u64 0] 46)
  rw [World.size_alloc] at b2
  have HB1 := hd (blk_below b1 a2)
  have HB2 := hd b2
  have HBW := hd (below_seq a1 a2)
  clear a1 a2 b1 b2
  go_enter Tryd.func45, Tryd.ntmps45
  go_upto_region 1 with (fail)
  generalize (w.alloc (.cells #[.slice none 0 0, .int .u64 0] 46)).alloc (.cells #[.slice none 0 0, .int .u64 0] 46) = w1 at HB1 HB2 HBW ⊢
  obtain ⟨q, hq⟩ : ∃ q, Aside0 (w.heap.size = q) := ⟨_, ⟨rfl⟩⟩
  have HQ := hd (show w.heap.size ≤ q by rw [hq.out]; exact Nat.le_refl _)
  rw [hq.out] at HB1 HB2 ⊢
  clear hq
  have HS := hd (hs.below HBW.out)
  have c0 := HS.out.c0
  obtain ⟨Ac, nc, cc⟩ := ck
  dsimp only at c0 hck hn
  subst hn
  have HTW := hd (two_calls (hck.below HBW.out) (Bytes.nil w1 none 0) (by decide) (ht.below HBW.out) (hc.below HBW.out))
  clear hs hck ht hc
  go_wp2_with fail
  refine HTW.out.mono ?_
  rintro e w2 ⟨va, vb, rfl, hoa, hob, hb⟩
  obtain ⟨x, rfl, hxn, hx⟩ := hoa.sl (n := 32) (threeA_length _ _)
  obtain ⟨y, rfl, hyn, hy⟩ := hob.sl (n := 32) (threeB_length _ _)
  have HX := hd (hx.lower HBW.out.size)
  have HY := hd (hy.lower HBW.out.size)
  have HXN := hd hxn
  have HYN := hd hyn
  replace HB1 := hd (blk_below HB1.out hb)
  replace HB2 := hd (blk_below HB2.out hb)
  replace HBW := hd (below_seq HBW.out hb)
  clear hoa hob hx hy hxn hyn hb HTW c0 HS
  go_wp2_with (first
    | ((with_reducible refine gate_store (t := 46) (p := 2) rfl ?_); go_loud (refine op_storeSt rfl rfl 46 _ _ rfl q 0 #[.slice x.A x.n x.c, .int .u64 0] #[.slice none 0 0, .int .u64 0] #[.slice x.A x.n x.c, .int .u64 0] rfl rfl _ HB1.out (by kernel_rfl) (by simp) (by simp [Value.oneCell']) rfl ?_); intro wy hby hmy)
    | ((with_reducible refine gate_store (t := 46) (p := 3) rfl ?_); go_loud (refine op_storeSt rfl rfl 46 _ _ rfl (q + 1) 0 #[.slice y.A y.n y.c, .int .u64 0] #[.slice none 0 0, .int .u64 0] #[.slice y.A y.n y.c, .int .u64 0] rfl rfl _ (hmy.block HB2.out (Nat.succ_ne_self q)) (by kernel_rfl) (by simp) (by simp [Value.oneCell']) rfl ?_); intro wz hbz hmz))
  have h2 := hmy.block HB2.out (Nat.succ_ne_self q)
  have hx1 := (HX.out.mod hmy (Apart.one HB1.out (by decide))).mod hmz (Apart.one h2 (by decide))
  have hy1 := (HY.out.mod hmy (Apart.one HB1.out (by decide))).mod hmz (Apart.one h2 (by decide))
  have hb1 := hmz.block hby (fun e => Nat.succ_ne_self q e.symm)
  have hbw := (HBW.out.trans (hmy.toBelow (fun k hk => by rw [hk]; exact HQ.out) HBW.out.size))
  have hbw2 := hbw.trans (hmz.toBelow (fun k hk => by rw [hk]; have := HQ.out; omega) hbw.size)
  exact bodyPost_ret (resc_cc rfl _ _ q (q + 1) 46 46 _ _ (0, 0) (0, 0) _ _ rfl hb1 Tryd.underlying46 rfl (by kernel_rfl) rfl hbz Tryd.underlying46 rfl (by kernel_rfl)) rfl ⟨x, y, rfl, hx1, HXN.out, hy1, HYN.out, hbw2⟩
end
end Go.Proofs.YtlgdplodglchaaaDoor
