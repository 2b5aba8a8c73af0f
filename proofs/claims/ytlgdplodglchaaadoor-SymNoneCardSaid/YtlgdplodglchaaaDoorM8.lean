/- Merged texts. -/
import Derived.Test.YtlgdplodglchaaaDoorSymA
import Derived.Test.YtlgdplodglchaaaDoorM3
import Derived.LaidSub
/- SymNone: the walk. -/
set_option linter.unusedVariables false
set_option linter.unusedSimpArgs false
namespace Go.Proofs.YtlgdplodglchaaaDoor
open Go.RowKit Go.Proofs.YtlgdplodglchaaaDoorW.PrintWords Go.Proofs.YtlgdplodglchaaaDoorW.PrintLast Go.Proofs.YtlgdplodglchaaaDoorW.PrintMore
section
variable {w : World} {B : Option Addr} {n c : Nat}
theorem nmixkey_calls : Calls Tryd.prog 34 #[.pointer none, .slice B n c] w fun e w' => e = .returned (.tuple #[]) ∧ w = w' := by
  go_enter Tryd.func34, Tryd.ntmps34
  go_wp2
  go_end0
  exact ⟨rfl, rfl⟩
theorem nmixhash_calls : Calls Tryd.prog 36 #[.pointer none, .slice B n c] w fun e w' => e = .returned (.tuple #[]) ∧ w = w' := by
  go_enter Tryd.func36, Tryd.ntmps36
  go_wp2
  go_end0
  exact ⟨rfl, rfl⟩
theorem nmixboth_calls : Calls Tryd.prog 38 #[.pointer none, .slice B n c] w fun e w' => e = .returned (.tuple #[]) ∧ w = w' := by
  go_enter Tryd.func38, Tryd.ntmps38
  go_wp2
  go_end0
  exact ⟨rfl, rfl⟩
theorem nrekey16_calls : Calls Tryd.prog 47 #[.pointer none] w fun e w' => e = .returned (.tuple #[]) ∧ w = w' := by
  go_enter Tryd.func47, Tryd.ntmps47
  go_wp2
  exact bodyPost_ret (v := .tuple #[]) (by simp [results, Tryd.results47, go_sem]) rfl ⟨rfl, rfl⟩
theorem nstep_calls {f : Value} : Calls Tryd.prog 69 #[.pointer none, f, .slice B n c] w fun e w' => e = .returned (.tuple #[.slice none 0 0, .int .i64 1]) ∧ w = w' := by
  go_enter Tryd.func69, Tryd.ntmps69
  go_wp2
  exact bodyPost_ret (v := .tuple #[.slice none 0 0, .int .i64 1]) (by simp [results, Tryd.results69, go_sem]) rfl ⟨rfl, rfl⟩
theorem nstseal_calls : Calls Tryd.prog 40 #[.pointer none, .slice B n c] w fun e w' => e = .returned (.tuple #[.slice none 0 0, .int .i64 1]) ∧ w = w' := by
  go_enter Tryd.func40, Tryd.ntmps40
  go_wp2_with fail
  refine nstep_calls.mono ?_
  rintro e _ ⟨rfl, rfl⟩
  go_wp2
  exact bodyPost_ret (v := .tuple #[.slice none 0 0, .int .i64 1]) (by simp [results, Tryd.results40, go_sem]) rfl ⟨rfl, rfl⟩
theorem nstopen_calls : Calls Tryd.prog 42 #[.pointer none, .slice B n c] w fun e w' => e = .returned (.tuple #[.slice none 0 0, .int .i64 1]) ∧ w = w' := by
  go_enter Tryd.func42, Tryd.ntmps42
  go_wp2_with fail
  refine nstep_calls.mono ?_
  rintro e _ ⟨rfl, rfl⟩
  go_wp2
  exact bodyPost_ret (v := .tuple #[.slice none 0 0, .int .i64 1]) (by simp [results, Tryd.results42, go_sem]) rfl ⟨rfl, rfl⟩
theorem nuse_calls {f x y : Value} : Calls Tryd.prog 74 #[.pointer none, f, x, y] w fun e w' => e = .returned (.tuple #[.slice none 0 0, .int .i64 1]) ∧ w = w' := by
  go_enter Tryd.func74, Tryd.ntmps74
  go_wp2
  exact bodyPost_ret (v := .tuple #[.slice none 0 0, .int .i64 1]) (by simp [results, Tryd.results74, go_sem]) rfl ⟨rfl, rfl⟩
theorem ncseal_calls {x y : Value} : Calls Tryd.prog 49 #[.pointer none, x, y] w fun e w' => e = .returned (.tuple #[.slice none 0 0, .int .i64 1]) ∧ w = w' := by
  go_enter Tryd.func49, Tryd.ntmps49
  go_wp2_with fail
  refine nuse_calls.mono ?_
  rintro e _ ⟨rfl, rfl⟩
  go_wp2
  exact bodyPost_ret (v := .tuple #[.slice none 0 0, .int .i64 1]) (by simp [results, Tryd.results49, go_sem]) rfl ⟨rfl, rfl⟩
theorem ncopen_calls {x y : Value} : Calls Tryd.prog 51 #[.pointer none, x, y] w fun e w' => e = .returned (.tuple #[.slice none 0 0, .int .i64 1]) ∧ w = w' := by
  go_enter Tryd.func51, Tryd.ntmps51
  go_wp2_with fail
  refine nuse_calls.mono ?_
  rintro e _ ⟨rfl, rfl⟩
  go_wp2
  exact bodyPost_ret (v := .tuple #[.slice none 0 0, .int .i64 1]) (by simp [results, Tryd.results51, go_sem]) rfl ⟨rfl, rfl⟩
theorem nsplit_calls : Calls Tryd.prog 45 #[.pointer none] w fun e w' => e = .returned (.tuple #[.agg #[.slice none 0 0, .int .u64 0], .agg #[.slice none 0 0, .int .u64 0]]) ∧ Below w.heap.size w w' := by
  have a1 := below_alloc (Below.refl w.heap.size w) (.cells #[.slice none 0 0, .int .u64 0] 46)
  have b1 := blk_new w (.cells #[.slice none 0 0, .int .u64 0] 46)
  have a2 := below_alloc (Below.refl _ (w.alloc (.cells #[.slice none 0 0, .int .u64 0] 46))) (.cells #[.slice none 0 0, .int .u64 0] 46)
  have b2 := blk_new (w.alloc (.cells #[.slice none 0 0, .int .u64 0] 46)) (.cells #[.slice none 0 0, .int .u64 0] 46)
  rw [World.size_alloc] at b2
  have HB1 := hd (blk_below b1 a2)
  have HB2 := hd b2
  have HBW := hd (below_seq a1 a2)
  clear a1 a2 b1 b2
  go_enter Tryd.func45, Tryd.ntmps45
  go_upto_region 1 with (fail)
  generalize (w.alloc (.cells #[.slice none 0 0, .int .u64 0] 46)).alloc (.cells #[.slice none 0 0, .int .u64 0] 46) = w1 at HB1 HB2 HBW ⊢
  obtain ⟨q, hq⟩ : ∃ q, Aside0 (w.heap.size = q) := ⟨_, ⟨rfl⟩⟩
  have HQ := hd (show w.heap.size ≤ q by rw [hq.out]; exact Nat.le_refl _)
  rw [hq.out] at HB1 HB2 ⊢
  clear hq
  go_wp2_with (first
    | ((with_reducible refine gate_store (t := 46) (p := 2) rfl ?_); go_loud (refine op_storeSt rfl rfl 46 _ _ rfl q 0 #[.slice none 0 0, .int .u64 0] #[.slice none 0 0, .int .u64 0] #[.slice none 0 0, .int .u64 0] rfl rfl _ HB1.out (by kernel_rfl) (by simp) (by simp [Value.oneCell']) rfl ?_); intro wy hby hmy)
    | ((with_reducible refine gate_store (t := 46) (p := 3) rfl ?_); go_loud (refine op_storeSt rfl rfl 46 _ _ rfl (q + 1) 0 #[.slice none 0 0, .int .u64 0] #[.slice none 0 0, .int .u64 0] #[.slice none 0 0, .int .u64 0] rfl rfl _ (hmy.block HB2.out (Nat.succ_ne_self q)) (by kernel_rfl) (by simp) (by simp [Value.oneCell']) rfl ?_); intro wz hbz hmz))
  have hb1 := hmz.block hby (fun e => Nat.succ_ne_self q e.symm)
  have hbw := (HBW.out.trans (hmy.toBelow (fun k hk => by rw [hk]; exact HQ.out) HBW.out.size))
  have hbw2 := hbw.trans (hmz.toBelow (fun k hk => by rw [hk]; have := HQ.out; omega) hbw.size)
  exact bodyPost_ret (resc_cc rfl _ _ q (q + 1) 46 46 _ _ (0, 0) (0, 0) _ _ rfl hb1 Tryd.underlying46 rfl (by kernel_rfl) rfl hbz Tryd.underlying46 rfl (by kernel_rfl)) rfl ⟨rfl, hbw2⟩
end
set_option maxHeartbeats 8000000 in
set_option maxRecDepth 100000 in
theorem symNone_walk (W : World) (hpl : Vars W) {B : Option Addr} {n c : Nat} {b : List Nat} (hb : Bytes W B n c b) (hf : n ≤ 140737488351232) :
    Calls Tryd.prog 9 #[.slice B n c] W fun e w' => e = .returned (.bool true) ∧ Below W.heap.size W w' := by
  have HV := hd hpl
  clear hpl hb hf
  go_enter Tryd.func9, Tryd.ntmps9
  go_wp2_with fail
  refine (awake16_calls HV.out).mono ?_
  rintro e w1 ⟨rfl, hb⟩
  have HBW := hd hb
  clear hb
  go_wp2_with fail
  refine nmixkey_calls.mono ?_
  rintro e _ ⟨rfl, rfl⟩
  go_wp2_with fail
  refine nmixhash_calls.mono ?_
  rintro e _ ⟨rfl, rfl⟩
  go_wp2_with fail
  refine nmixboth_calls.mono ?_
  rintro e _ ⟨rfl, rfl⟩
  go_wp2_with fail
  refine nrekey16_calls.mono ?_
  rintro e _ ⟨rfl, rfl⟩
  go_wp2_with fail
  refine nstseal_calls.mono ?_
  rintro e _ ⟨rfl, rfl⟩
  go_wp2_with fail
  refine nstopen_calls.mono ?_
  rintro e _ ⟨rfl, rfl⟩
  go_wp2_with fail
  refine ncseal_calls.mono ?_
  rintro e _ ⟨rfl, rfl⟩
  go_wp2_with fail
  refine ncopen_calls.mono ?_
  rintro e _ ⟨rfl, rfl⟩
  go_wp2_with fail
  refine nsplit_calls.mono ?_
  rintro e w2 ⟨rfl, hb⟩
  replace HBW := hd (below_seq HBW.out hb)
  clear hb
  go_wp2
  have a1 := below_alloc (Below.refl w2.heap.size w2) (.cells #[.slice none 0 0, .int .u64 0] 46)
  have a2 := below_alloc (Below.refl _ (w2.alloc (.cells #[.slice none 0 0, .int .u64 0] 46))) (.cells #[.slice none 0 0, .int .u64 0] 46)
  have h9 := below_seq HBW.out (below_seq a1 a2)
  go_ret
  exact ⟨rfl, h9⟩
end Go.Proofs.YtlgdplodglchaaaDoor
/- What the condition 'laid' gives of the three variables. -/
set_option linter.unusedVariables false
namespace Go.Proofs.YtlgdplodglchaaaDoor
open Go.RowKit
theorem cells_of_var {W : World} {nm : String} {g : Nat} {cs : Array Value} (hg : Tryd.prog.globalNamed nm = some g) (h1 : W.var? Tryd.prog nm = some cs) : ∃ t fr, W.heap[g]? = some (.cells cs t fr) := by
  unfold World.var? at h1
  rw [hg] at h1
  simp only [Option.bind_some] at h1
  split at h1
  · rename_i cs' t fr hb
    injection h1 with h1
    subst h1
    exact ⟨t, fr, hb⟩
  · cases h1
theorem tab_cells (k : IntKind) (l : List Nat) : ((ints l).map fun z => Value.int k z).toArray = cellsOf k l := by
  unfold ints cellsOf
  rw [List.map_map]
  rfl
theorem vars_of_laid {W : World} (h : laidMet Tryd.prog [("redan/keccak.turns", Rows.laid_redan_keccak_turns), ("redan/keccak.constants", Rows.laid_redan_keccak_constants), ("redan/chacha.places", Rows.laid_redan_chacha_places)] W) : Vars W := by
  have h1 : laidMet Tryd.prog [("redan/chacha.places", Rows.laid_redan_chacha_places)] W := h.filter (fun x => x.1 == "redan/chacha.places")
  have h2 : laidMet Tryd.prog [("redan/keccak.constants", Rows.laid_redan_keccak_constants)] W := h.filter (fun x => x.1 == "redan/keccak.constants")
  have h3 : laidMet Tryd.prog [("redan/keccak.turns", Rows.laid_redan_keccak_turns)] W := h.filter (fun x => x.1 == "redan/keccak.turns")
  have g2 : Tryd.prog.globalNamed "redan/keccak.constants" = some 1 := by kernel_rfl
  have g3 : Tryd.prog.globalNamed "redan/keccak.turns" = some 2 := by kernel_rfl
  have t2 := Lib.tabIs_of_head (k := .u64) (zs := ints kecC) (t := 157) (e := 22) (n := 24) g2 (by kernel_rfl) (by kernel_rfl) (by kernel_rfl) (by kernel_rfl) (by kernel_rfl) (show laidMet Tryd.prog (("redan/keccak.constants", Lib.tabData .u64 (ints kecC)) :: []) W from h2)
  have t3 := Lib.tabIs_of_head (k := .i64) (zs := ints kecT) (t := 184) (e := 3) (n := 25) g3 (by kernel_rfl) (by kernel_rfl) (by kernel_rfl) (by kernel_rfl) (by kernel_rfl) (show laidMet Tryd.prog (("redan/keccak.turns", Lib.tabData .i64 (ints kecT)) :: []) W from h3)
  unfold Lib.TabIs at t2 t3
  rw [tab_cells] at t2 t3
  exact ⟨placesAt_of_laid h1, cells_of_var g3 t3, cells_of_var g2 t2⟩
end Go.Proofs.YtlgdplodglchaaaDoor
