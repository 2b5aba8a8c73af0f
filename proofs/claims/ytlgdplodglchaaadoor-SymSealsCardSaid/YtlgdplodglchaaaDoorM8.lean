/- Merged texts. -/
import Derived.Test.YtlgdplodglchaaaDoorRefS
import Derived.Test.YtlgdplodglchaaaDoorM2
import Derived.Test.YtlgdplodglchaaaDoorM3
import Derived.Test.YtlgdplodglchaaaDoorSymA
import Derived.LaidSub
/- The reference's states with what they hold, and its functions over them; redanlaw16's own and like. -/
set_option linter.unusedVariables false
set_option linter.unusedSimpArgs false
namespace Go.Proofs.YtlgdplodglchaaaDoor
open Go.RowKit Go.Proofs.YtlgdplodglchaaaDoorW.PrintWords Go.Proofs.YtlgdplodglchaaaDoorW.PrintLast Go.Proofs.YtlgdplodglchaaaDoorW.PrintMore
abbrev Sl.t (s : Sl) : Option Addr × Nat × Nat := (s.A, s.n, s.c)
structure RBox (W w : World) (ck h k : Sl) (p : StP) : Prop where
  rck : Box W w ck.t p.ck
  rh : Box W w h.t p.h
  rk : Box W w k.t p.key
  ok : p.ok
theorem OwnK.box {W w : World} {s : Sl} {l : List Nat} (h : OwnK .u8 5 W.heap.size w s.v l) (hb : BytesOK l) (hl : l.length ≤ 100000000) : Box W w s.t l := Box.own h hb hl
section
variable {W w : World} {ck h k : Sl} {p : StP} {B : Option Addr} {nb cb : Nat} {b : List Nat}
theorem RBox.mod {w1 : World} {S : Nat → Prop} (s : RBox W w ck h k p) (hm : Mod S w w1) (ha : Apart 5 w S) : RBox W w1 ck h k p := ⟨s.rck.mod hm ha, s.rh.mod hm ha, s.rk.mod hm ha, s.ok⟩
theorem RBox.below {w1 : World} (s : RBox W w ck h k p) (hb : Below w.heap.size w w1) : RBox W w1 ck h k p := s.mod (S := fun _ => False) (Mod.below hb) (fun _ _ _ h => h)
theorem Box.below {w1 : World} {s : Option Addr × Nat × Nat} {l : List Nat} (h : Box W w s l) (hb : Below w.heap.size w w1) : Box W w1 s l := h.mod (S := fun _ => False) (Mod.below hb) (fun _ _ _ h => h)
theorem RBox.nck (s : RBox W w ck h k p) (hbe : Below W.heap.size W w) : ck.n = 32 := (s.rck.len hbe).trans s.ok.1
theorem RBox.nh (s : RBox W w ck h k p) (hbe : Below W.heap.size W w) : h.n = 32 := (s.rh.len hbe).trans s.ok.2.1
theorem sealed_N (p : StP) (b : List Nat) : (p.useS b).2.2 = (p.sealed b).N := by
  unfold StP.sealed
  split
  · rfl
  · next h => exact useC_err' h
theorem opened_N (p : StP) (b : List Nat) : (p.useO b).2.2 = (p.opened b).N := by
  unfold StP.opened
  split
  · rfl
  · next h => exact useC_err' h
theorem rsealin_box (s : RBox W w ck h k p) (hbe : Below W.heap.size W w) (hb : Bytes w B nb cb b) (hnb : nb ≤ 10000) :
    Calls Tryd.prog 41 #[.agg (stC ck h k p.N), .slice B nb cb] w fun e w' => ∃ v x, e = .returned (.tuple #[.agg (stC ck x k (p.sealed b).N), v, .int .i64 (((p.useS b).2.1 : Nat) : Int)]) ∧ (OwnK .u8 5 w.heap.size w' v (p.useS b).1 ∨ (v = .slice B nb cb ∧ (p.useS b).1 = b)) ∧ RBox W w' ck x k (p.sealed b) ∧ Below w.heap.size w w' := by
  have h0 := rsealin_calls (ck := ck) (s.rk.bytes hbe) s.ok.2.2.2.2.2 (s.rh.bytes hbe) (by rw [s.nh hbe]; decide) hb hnb
  refine h0.mono fun e w' ⟨v, x, he, hv, h1, h2, h3⟩ => ?_
  change e = .returned (.tuple #[.agg (stC ck x k (p.useS b).2.2), v, .int .i64 (((p.useS b).2.1 : Nat) : Int)]) at he
  change OwnK .u8 5 w.heap.size w' v (p.useS b).1 ∨ (v = .slice B nb cb ∧ (p.useS b).1 = b) at hv
  change (p.useS b).2.1 = 0 → OwnK .u8 5 w.heap.size w' x.v (sumN (p.h ++ (p.useS b).1)) ∧ x.n = 32 at h1
  change (p.useS b).2.1 ≠ 0 → _ at h2
  rw [sealed_N] at he
  refine ⟨v, x, he, hv, ?_, h3⟩
  by_cases hz : (p.useS b).2.1 = 0
  · have hok := s.ok.sealed b
    have e1 : p.sealed b = ⟨p.ck, sumN (p.h ++ (p.useS b).1), p.key, (p.useS b).2.2⟩ := by rw [StP.sealed, if_pos hz]
    rw [e1] at hok ⊢
    exact ⟨s.rck.below h3, ((h1 hz).1.lower hbe.size).box (sumN_ok _) (by rw [sumN_length]; decide), s.rk.below h3, hok⟩
  · obtain rfl := h2 hz
    have e1 : p.sealed b = p := by rw [StP.sealed, if_neg hz]
    rw [e1]
    exact s.below h3
theorem ropenin_box (s : RBox W w ck h k p) (hbe : Below W.heap.size W w) (hb : Bytes w B nb cb b) (hnb : nb ≤ 10000) :
    Calls Tryd.prog 43 #[.agg (stC ck h k p.N), .slice B nb cb] w fun e w' => ∃ v x, e = .returned (.tuple #[.agg (stC ck x k (p.opened b).N), v, .int .i64 (((p.useO b).2.1 : Nat) : Int)]) ∧ (OwnK .u8 5 w.heap.size w' v (p.useO b).1 ∨ (v = .slice B nb cb ∧ (p.useO b).1 = b)) ∧ RBox W w' ck x k (p.opened b) ∧ Below w.heap.size w w' := by
  have h0 := ropenin_calls (ck := ck) (s.rk.bytes hbe) s.ok.2.2.2.2.2 (s.rh.bytes hbe) (by rw [s.nh hbe]; decide) hb hnb
  refine h0.mono fun e w' ⟨v, x, he, hv, h1, h2, h3⟩ => ?_
  change e = .returned (.tuple #[.agg (stC ck x k (p.useO b).2.2), v, .int .i64 (((p.useO b).2.1 : Nat) : Int)]) at he
  change OwnK .u8 5 w.heap.size w' v (p.useO b).1 ∨ (v = .slice B nb cb ∧ (p.useO b).1 = b) at hv
  change (p.useO b).2.1 = 0 → OwnK .u8 5 w.heap.size w' x.v (sumN (p.h ++ b)) ∧ x.n = 32 at h1
  change (p.useO b).2.1 ≠ 0 → _ at h2
  rw [opened_N] at he
  refine ⟨v, x, he, hv, ?_, h3⟩
  by_cases hz : (p.useO b).2.1 = 0
  · have hok := s.ok.opened b
    have e1 : p.opened b = ⟨p.ck, sumN (p.h ++ b), p.key, (p.useO b).2.2⟩ := by rw [StP.opened, if_pos hz]
    rw [e1] at hok ⊢
    exact ⟨s.rck.below h3, ((h1 hz).1.lower hbe.size).box (sumN_ok _) (by rw [sumN_length]; decide), s.rk.below h3, hok⟩
  · obtain rfl := h2 hz
    have e1 : p.opened b = p := by rw [StP.opened, if_neg hz]
    rw [e1]
    exact s.below h3
/-- own: the same bytes in memory of their own. -/
theorem own16_calls {n c : Nat} {l : List Nat} {A : Option Addr} (hb : Bytes w A n c l) (hn : n ≤ 100000000) :
    Calls Tryd.prog 53 #[.slice A n c] w fun e w' => ∃ v, e = .returned v ∧ OwnK .u8 5 w.heap.size w' v l ∧ Below w.heap.size w w' := by
  obtain ⟨hr, rfl, hc, hbo⟩ := hb
  have HC := hd hc
  have HN := hd hn
  have HR := hd hr
  clear hc hn hr
  go_enter Tryd.func53, Tryd.ntmps53
  go_wp2_with ((with_reducible refine gate_dst (N := 6) rfl ?_); at_builtin; refine op_append_row (k := .u8) (w0 := w) 6 rfl w.heap.size 5 40 _ _ rfl rfl Tryd.underlying40 Tryd.infoU8 (by decide) _ [] l _ _ _ rfl rfl rfl (OwnK.nil _ _ _ _) HR.out (Below.refl _ _) (Nat.le_refl _) (by have := HN.out; simp; omega) ?_; intro v1 w1 ho1 hb1 hg1; rw [List.nil_append] at ho1)
  go_ret
  exact ⟨v1, rfl, ho1, hb1⟩
variable {g : Nat} {ck' h' k' : Sl}
set_option maxHeartbeats 4000000 in
set_option maxRecDepth 100000 in
theorem like_box (s : StBox W w g ck h k p) (r : RBox W w ck' h' k' p) (hbe : Below W.heap.size W w) :
    Calls Tryd.prog 44 #[.pointer (some ⟨g, 0, none⟩), .agg (stC ck' h' k' p.N)] w fun e w' => e = .returned (.bool true) ∧ Below w.heap.size w w' := by
  have b1 := s.bck
  have b2 := s.bh
  have b3 := s.bk
  have d1 := r.rck.bytes hbe
  have d2 := r.rh.bytes hbe
  have d3 := r.rk.bytes hbe
  have hat := s.at_
  clear s r hbe
  obtain ⟨A1, n1, c1⟩ := ck
  obtain ⟨A2, n2, c2⟩ := h
  obtain ⟨A3, n3, c3⟩ := k
  obtain ⟨B1, m1, e1⟩ := ck'
  obtain ⟨B2, m2, e2⟩ := h'
  obtain ⟨B3, m3, e3⟩ := k'
  unfold StAt stC at *
  dsimp only at *
  have hal := below_alloc (Below.refl w.heap.size w) (.cells #[.slice B1 m1 e1, .slice B2 m2 e2, .slice B3 m3 e3, .int .u64 (p.N : Int)] 76)
  have hx := blk_new w (.cells #[.slice B1 m1 e1, .slice B2 m2 e2, .slice B3 m3 e3, .int .u64 (p.N : Int)] 76)
  replace hat := blk_below hat hal
  have s1 := fun n => ((b1.below hal).below (pw_below_drewN (Below.refl _ _) n)).str (P := Tryd.prog) Tryd.underlying40 Tryd.underlying5 Tryd.underlying9
  have s2 := fun n => ((b2.below hal).below (pw_below_drewN (Below.refl _ _) n)).str (P := Tryd.prog) Tryd.underlying40 Tryd.underlying5 Tryd.underlying9
  have s3 := fun n => ((b3.below hal).below (pw_below_drewN (Below.refl _ _) n)).str (P := Tryd.prog) Tryd.underlying40 Tryd.underlying5 Tryd.underlying9
  have t1 := fun n => ((d1.below hal).below (pw_below_drewN (Below.refl _ _) n)).str (P := Tryd.prog) Tryd.underlying40 Tryd.underlying5 Tryd.underlying9
  have t2 := fun n => ((d2.below hal).below (pw_below_drewN (Below.refl _ _) n)).str (P := Tryd.prog) Tryd.underlying40 Tryd.underlying5 Tryd.underlying9
  have t3 := fun n => ((d3.below hal).below (pw_below_drewN (Below.refl _ _) n)).str (P := Tryd.prog) Tryd.underlying40 Tryd.underlying5 Tryd.underlying9
  have HBW := hd hal
  clear b1 b2 b3 d1 d2 d3
  go_enter Tryd.func44, Tryd.ntmps44
  go_upto_region 1 with (fail)
  generalize w.alloc (.cells #[.slice B1 m1 e1, .slice B2 m2 e2, .slice B3 m3 e3, .int .u64 (p.N : Int)] 76) = w1 at hal hx hat HBW s1 s2 s3 t1 t2 t3 ⊢
  obtain ⟨q, hq⟩ : ∃ q, Aside0 (w.heap.size = q) := ⟨_, ⟨rfl⟩⟩
  rw [hq.out] at hx ⊢
  clear hal hq
  have f0 : w1.cell? ⟨g, 0, none⟩ = some (.slice A1 n1 c1) := by rw [blk_cell hat]; rfl
  have f1 : w1.cell? ⟨g, 1, none⟩ = some (.slice A2 n2 c2) := by rw [blk_cell hat]; rfl
  have f2 : w1.cell? ⟨g, 2, none⟩ = some (.slice A3 n3 c3) := by rw [blk_cell hat]; rfl
  have f3 : w1.cell? ⟨g, 3, none⟩ = some (.int .u64 (p.N : Int)) := by rw [blk_cell hat]; rfl
  have x0 : w1.cell? ⟨q, 0, none⟩ = some (.slice B1 m1 e1) := by rw [blk_cell hx]; rfl
  have x1 : w1.cell? ⟨q, 1, none⟩ = some (.slice B2 m2 e2) := by rw [blk_cell hx]; rfl
  have x2 : w1.cell? ⟨q, 2, none⟩ = some (.slice B3 m3 e3) := by rw [blk_cell hx]; rfl
  have x3 : w1.cell? ⟨q, 3, none⟩ = some (.int .u64 (p.N : Int)) := by rw [blk_cell hx]; rfl
  clear hat hx
  go_quiet (fail)
  go_wp2
  go_ret
  refine ⟨?_, pw_below_drewN HBW.out _⟩
  simp
end
end Go.Proofs.YtlgdplodglchaaaDoor
/- What the condition 'laid' gives of the three variables. -/
set_option linter.unusedVariables false
namespace Go.Proofs.YtlgdplodglchaaaDoor
open Go.RowKit
theorem cells_of_var {W : World} {nm : String} {g : Nat} {cs : Array Value} (hg : Tryd.prog.globalNamed nm = some g) (h1 : W.var? Tryd.prog nm = some cs) : ∃ t fr, W.heap[g]? = some (.cells cs t fr) := by
  unfold World.var? at h1
  rw [hg] at h1
  simp only [Option.bind_some] at h1
  split at h1
  · rename_i cs' t fr hb
    injection h1 with h1
    subst h1
    exact ⟨t, fr, hb⟩
  · cases h1
theorem tab_cells (k : IntKind) (l : List Nat) : ((ints l).map fun z => Value.int k z).toArray = cellsOf k l := by
  unfold ints cellsOf
  rw [List.map_map]
  rfl
theorem vars_of_laid {W : World} (h : laidMet Tryd.prog [("redan/keccak.turns", Rows.laid_redan_keccak_turns), ("redan/keccak.constants", Rows.laid_redan_keccak_constants), ("redan/chacha.places", Rows.laid_redan_chacha_places)] W) : Vars W := by
  have h1 : laidMet Tryd.prog [("redan/chacha.places", Rows.laid_redan_chacha_places)] W := h.filter (fun x => x.1 == "redan/chacha.places")
  have h2 : laidMet Tryd.prog [("redan/keccak.constants", Rows.laid_redan_keccak_constants)] W := h.filter (fun x => x.1 == "redan/keccak.constants")
  have h3 : laidMet Tryd.prog [("redan/keccak.turns", Rows.laid_redan_keccak_turns)] W := h.filter (fun x => x.1 == "redan/keccak.turns")
  have g2 : Tryd.prog.globalNamed "redan/keccak.constants" = some 1 := by kernel_rfl
  have g3 : Tryd.prog.globalNamed "redan/keccak.turns" = some 2 := by kernel_rfl
  have t2 := Lib.tabIs_of_head (k := .u64) (zs := ints kecC) (t := 157) (e := 22) (n := 24) g2 (by kernel_rfl) (by kernel_rfl) (by kernel_rfl) (by kernel_rfl) (by kernel_rfl) (show laidMet Tryd.prog (("redan/keccak.constants", Lib.tabData .u64 (ints kecC)) :: []) W from h2)
  have t3 := Lib.tabIs_of_head (k := .i64) (zs := ints kecT) (t := 184) (e := 3) (n := 25) g3 (by kernel_rfl) (by kernel_rfl) (by kernel_rfl) (by kernel_rfl) (by kernel_rfl) (show laidMet Tryd.prog (("redan/keccak.turns", Lib.tabData .i64 (ints kecT)) :: []) W from h3)
  unfold Lib.TabIs at t2 t3
  rw [tab_cells] at t2 t3
  exact ⟨placesAt_of_laid h1, cells_of_var g3 t3, cells_of_var g2 t2⟩
end Go.Proofs.YtlgdplodglchaaaDoor
