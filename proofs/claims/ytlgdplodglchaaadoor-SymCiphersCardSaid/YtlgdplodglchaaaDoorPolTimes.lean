/- The walk through poly.number.times. -/
import Derived.Test.YtlgdplodglchaaaDoorGPol
import Derived.Test.YtlgdplodglchaaaDoorGLib
import Derived.Shelf.Bits.Mul64
set_option linter.unusedVariables false
set_option linter.unusedSimpArgs false
namespace Go.Proofs.YtlgdplodglchaaaDoor
open Go.RowKit Go.Proofs.YtlgdplodglchaaaDoorW.PrintWords Go.Proofs.YtlgdplodglchaaaDoorW.PrintLast Go.Proofs.YtlgdplodglchaaaDoorW.PrintMore

theorem add64_run0 (x y : Nat) (w : World) : (callFunc 129 #[.int .u64 (x : Int), .int .u64 (y : Int), .int .u64 0]).run Tryd.prog w =
    .ok (.value (.tuple #[.int .u64 (((x + y) % 18446744073709551616 : Nat) : Int), .int .u64 (((x + y) / 18446744073709551616 : Nat) : Int)])) w := add64_run x y 0 (by decide) w
set_option maxHeartbeats 1000000 in
theorem mul64_calls (x y : Nat) (hx : x < 18446744073709551616) (hy : y < 18446744073709551616) (w : World) :
    Calls Tryd.prog 130 #[.int .u64 (x : Int), .int .u64 (y : Int)] w fun e w' => e = .returned (.tuple #[.int .u64 ((x * y / 18446744073709551616 : Nat) : Int), .int .u64 ((x * y % 18446744073709551616 : Nat) : Int)]) ∧ w' = w := by
  obtain ⟨bd, bt, bw, hhi⟩ := Lib.mul64_hi x y hx hy
  have ba := Lib.half_mul_le (a := x / 4294967296) (b := y / 4294967296) (by omega) (by omega)
  have bb := Lib.half_mul_le (a := x / 4294967296) (b := y % 4294967296) (by omega) (by omega)
  have bc := Lib.half_mul_le (a := x % 4294967296) (b := y / 4294967296) (by omega) (by omega)
  have ba' : x / 4294967296 * (y / 4294967296) < 18446744073709551616 := by omega
  have bb' : x / 4294967296 * (y % 4294967296) < 18446744073709551616 := by omega
  have bc' : x % 4294967296 * (y / 4294967296) < 18446744073709551616 := by omega
  have bh1 : x / 4294967296 * (y / 4294967296) + (x / 4294967296 * (y % 4294967296) + x % 4294967296 * (y % 4294967296) / 4294967296) / 4294967296 < 18446744073709551616 := by omega
  have bh : x / 4294967296 * (y / 4294967296) + (x / 4294967296 * (y % 4294967296) + x % 4294967296 * (y % 4294967296) / 4294967296) / 4294967296 + ((x / 4294967296 * (y % 4294967296) + x % 4294967296 * (y % 4294967296) / 4294967296) % 4294967296 + x % 4294967296 * (y / 4294967296)) / 4294967296 < 18446744073709551616 := by omega
  go_enter Tryd.func130, Tryd.ntmps130
  go_wp2
  simp only [Mul64.maskN x hx, Mul64.maskN y hy, Mul64.divN, Mul64.mulN, Mul64.addN, Mul64.wrapN _ bd, Mul64.wrapN _ bb', Mul64.wrapN _ bt, Mul64.maskN _ bt, Mul64.wrapN _ bc', Mul64.wrapN _ bw, Mul64.wrapN _ ba', Mul64.wrapN _ bh1, Mul64.wrapN _ bh, Mul64.wrapM (x * y)]
  rw [hhi]
  go_ret2
  exact ⟨rfl, rfl⟩
def Words64 (l : List Nat) : Prop := ∀ x ∈ l, x < 18446744073709551616
theorem Words64.set {l : List Nat} (h : Words64 l) (i : Nat) {x : Nat} (hx : x < 18446744073709551616) : Words64 (l.set i x) := fun y hy => by
  rcases List.mem_or_eq_of_mem_set hy with h1 | rfl
  · exact h y h1
  · exact hx
theorem Words64.getD {l : List Nat} (h : Words64 l) (i : Nat) : l.getD i 0 < 18446744073709551616 := by
  rw [List.getD_eq_getElem?_getD]
  by_cases hi : i < l.length
  · rw [List.getElem?_eq_getElem hi]
    exact h _ (List.getElem_mem hi)
  · rw [List.getElem?_eq_none (by omega)]
    decide
theorem mulI_ok {x : Nat} {r : List Nat} {i : Nat} {w : List Nat} (hx : x < 18446744073709551616) (hr : Words64 r) (hw : Words64 w) : ∀ j, Words64 (mulI x r i w j).1 ∧ (mulI x r i w j).2 < 18446744073709551616 ∧ (mulI x r i w j).1.length = w.length
  | 0 => ⟨hw, Nat.zero_lt_succ _, rfl⟩
  | j + 1 => by
    obtain ⟨h1, h2, h3⟩ := mulI_ok hx hr hw j
    refine ⟨h1.set _ (Nat.mod_lt _ (by decide)), mul_step _ _ _ _ (h1.getD _) hx (hr.getD _) h2, by simp only [mulI, List.length_set, h3]⟩
theorem mulO_ok {a r : List Nat} (ha : Words64 a) (hr : Words64 r) : ∀ i, Words64 (mulO a r i) ∧ (mulO a r i).length = 5
  | 0 => ⟨fun x hx => by simp [mulO] at hx; omega, rfl⟩
  | i + 1 => by
    obtain ⟨h1, h2⟩ := mulO_ok ha hr i
    obtain ⟨h3, _, h5⟩ := mulI_ok (ha.getD i) hr h1 (i := i) 2
    refine ⟨h3.set _ (Nat.mod_lt _ (by decide)), ?_⟩
    show ((mulI (a.getD i 0) r i (mulO a r i) 2).1.set _ _).length = 5
    rw [List.length_set, h5, h2]
theorem num5_lt {n p0 p1 p2 p3 p4 : Nat} (h : num5 n = [p0, p1, p2, p3, p4]) : p0 < 18446744073709551616 ∧ p1 < 18446744073709551616 ∧ p2 < 18446744073709551616 ∧ p3 < 18446744073709551616 ∧ p4 < 18446744073709551616 := by
  simp only [num5, List.cons.injEq, and_true] at h
  obtain ⟨rfl, rfl, rfl, rfl, rfl⟩ := h
  exact ⟨Nat.mod_lt _ (by decide), Nat.mod_lt _ (by decide), Nat.mod_lt _ (by decide), Nat.mod_lt _ (by decide), Nat.mod_lt _ (by decide)⟩
theorem num5_low {n p0 p1 p2 p3 p4 m : Nat} (h : num5 n = [p0, p1, p2, p3, p4]) (hm : p2 % 4 = m) : num (n % 2 ^ 130) = [p0, p1, m] := by
  simp only [num5, List.cons.injEq, and_true] at h
  obtain ⟨rfl, rfl, rfl, rfl, rfl⟩ := h
  subst hm
  simp only [num, List.cons.injEq, and_true]
  refine ⟨by omega, by omega, by omega⟩
theorem num5_high {n p0 p1 p2 p3 p4 : Nat} (h : num5 n = [p0, p1, p2, p3, p4]) (hlt : n < 2 ^ 256) : num (n / 2 ^ 130) = [p2 / 4 + p3 % 4 * 4611686018427387904, p3 / 4 + p4 % 4 * 4611686018427387904, p4 / 4] := by
  simp only [num5, List.cons.injEq, and_true] at h
  obtain ⟨rfl, rfl, rfl, rfl, rfl⟩ := h
  simp only [num, List.cons.injEq, and_true]
  refine ⟨by omega, by omega, by omega⟩
theorem or_u64 (x y : Nat) (hx : x < 18446744073709551616) : bits .or .u64 ((x : Int) / 4) (IntKind.u64.wrap ((y : Int) * 4611686018427387904)) = ((x / 4 + y % 4 * 4611686018427387904 : Nat) : Int) := by
  have h1 : IntKind.u64.wrap ((y : Int) * 4611686018427387904) = ((y % 4 * 4611686018427387904 : Nat) : Int) := by
    have := wrapM_u (k := .u64) rfl (y * 4611686018427387904)
    rw [show ((y * 4611686018427387904 : Nat) : Int) = (y : Int) * 4611686018427387904 by omega] at this
    rw [this]
    show ((_ % 2 ^ 64 : Nat) : Int) = _
    congr 1
    omega
  rw [h1, show (x : Int) / 4 = ((x / 4 : Nat) : Int) by omega]
  have h2 := (bits_u (k := .u64) rfl (x / 4) (y % 4 * 4611686018427387904) (by show _ < 2 ^ 64; omega) (by show _ < 2 ^ 64; omega)).2.1
  rw [h2]
  congr 1
  rw [Nat.or_comm, show y % 4 * 4611686018427387904 = 2 ^ 62 * (y % 4) by omega]
  rw [← Nat.two_pow_add_eq_or_of_lt (i := 62) (by omega)]
  omega
theorem arr_at {k : IntKind} {T g : Nat} {w : World} {l : List Nat} (h : Arr k T g w l) (i x : Nat) (hi : l[i]? = some x) : w.cell? ⟨g, i, none⟩ = some (.int k (x : Int)) := by
  rw [blk_cell h i]
  simp [hi]
set_option maxHeartbeats 2000000 in
set_option maxRecDepth 100000 in
theorem times_calls {a0 a1 a2 r0 r1 : Nat} (a : Nat) (ha : num a = [a0, a1, a2]) (hlt : a < 2 ^ 192) (hr0 : r0 < 18446744073709551616) (hr1 : r1 < 18446744073709551616) (hp : a * (r0 + 18446744073709551616 * r1) < 2 ^ 256) (W : World) :
    Calls Tryd.prog 117 #[.agg #[.int .u64 (a0 : Int), .int .u64 (a1 : Int), .int .u64 (a2 : Int)], .agg #[.int .u64 (r0 : Int), .int .u64 (r1 : Int)]] W fun e w' => ∃ s0 s1 s2, num (lessN (lessN (a * (r0 + 18446744073709551616 * r1)))) = [s0, s1, s2] ∧ e = .returned (.agg #[.int .u64 (s0 : Int), .int .u64 (s1 : Int), .int .u64 (s2 : Int)]) ∧ Below W.heap.size W w' := by
  obtain ⟨y0, y1, y2⟩ := num_inj2 ha
  have A3 := hd (show Words64 [a0, a1, a2] from fun x hx => by simp at hx; omega)
  have R2 := hd (show Words64 [r0, r1] from fun x hx => by simp at hx; omega)
  have h5 := mulO_eq (show a0 < _ by omega) (show a1 < _ by omega) (show a2 < _ by omega) hr0 hr1
  have ev : a0 + 18446744073709551616 * a1 + 340282366920938463463374607431768211456 * a2 = a := by omega
  rw [ev] at h5
  have H5 := hd h5
  have HP := hd hp
  clear h5 y0 y1 y2 ev ha hlt hr0 hr1 hp
  generalize a * (r0 + 18446744073709551616 * r1) = pr at H5 HP ⊢
  go_enter Tryd.func117, Tryd.ntmps117
  go_wp2_with fail
  have ha := Arr.new (k := .u64) (T := 170) (l := [a0, a1, a2]) W (cs := #[.int .u64 (a0 : Int), .int .u64 (a1 : Int), .int .u64 (a2 : Int)]) rfl
  have hb := Arr.new (k := .u64) (T := 108) (l := [r0, r1]) (W.alloc (.cells #[.int .u64 (a0 : Int), .int .u64 (a1 : Int), .int .u64 (a2 : Int)] 170)) (cs := #[.int .u64 (r0 : Int), .int .u64 (r1 : Int)]) rfl
  have hr := Arr.new (k := .u64) (T := 170) (l := [0, 0, 0]) ((W.alloc (.cells #[.int .u64 (a0 : Int), .int .u64 (a1 : Int), .int .u64 (a2 : Int)] 170)).alloc (.cells #[.int .u64 (r0 : Int), .int .u64 (r1 : Int)] 108)) (cs := #[.int .u64 0, .int .u64 0, .int .u64 0]) rfl
  have hv := Arr.new (k := .u64) (T := 182) (l := [0, 0, 0, 0, 0]) (((W.alloc (.cells #[.int .u64 (a0 : Int), .int .u64 (a1 : Int), .int .u64 (a2 : Int)] 170)).alloc (.cells #[.int .u64 (r0 : Int), .int .u64 (r1 : Int)] 108)).alloc (.cells #[.int .u64 0, .int .u64 0, .int .u64 0] 170)) (cs := #[.int .u64 0, .int .u64 0, .int .u64 0, .int .u64 0, .int .u64 0]) rfl
  have hw := below_alloc (below_alloc (below_alloc (below_alloc (Below.refl W.heap.size W) (.cells #[.int .u64 (a0 : Int), .int .u64 (a1 : Int), .int .u64 (a2 : Int)] 170)) (.cells #[.int .u64 (r0 : Int), .int .u64 (r1 : Int)] 108)) (.cells #[.int .u64 0, .int .u64 0, .int .u64 0] 170)) (.cells #[.int .u64 0, .int .u64 0, .int .u64 0, .int .u64 0, .int .u64 0] 182)
  rw [World.size_alloc] at hb
  rw [World.size_alloc, World.size_alloc] at hr
  rw [World.size_alloc, World.size_alloc, World.size_alloc] at hv
  replace ha := ((ha.below (below_alloc (Below.refl _ _) (.cells #[.int .u64 (r0 : Int), .int .u64 (r1 : Int)] 108))).below (below_alloc (Below.refl _ _) (.cells #[.int .u64 0, .int .u64 0, .int .u64 0] 170))).below (below_alloc (Below.refl _ _) (.cells #[.int .u64 0, .int .u64 0, .int .u64 0, .int .u64 0, .int .u64 0] 182))
  replace hb := (hb.below (below_alloc (Below.refl _ _) (.cells #[.int .u64 0, .int .u64 0, .int .u64 0] 170))).below (below_alloc (Below.refl _ _) (.cells #[.int .u64 0, .int .u64 0, .int .u64 0, .int .u64 0, .int .u64 0] 182))
  replace hr := hr.below (below_alloc (Below.refl _ _) (.cells #[.int .u64 0, .int .u64 0, .int .u64 0, .int .u64 0, .int .u64 0] 182))
  generalize ((((W.alloc (.cells #[.int .u64 (a0 : Int), .int .u64 (a1 : Int), .int .u64 (a2 : Int)] 170)).alloc (.cells #[.int .u64 (r0 : Int), .int .u64 (r1 : Int)] 108)).alloc (.cells #[.int .u64 0, .int .u64 0, .int .u64 0] 170)).alloc (.cells #[.int .u64 0, .int .u64 0, .int .u64 0, .int .u64 0, .int .u64 0] 182)) = w1 at ha hb hr hv hw ⊢
  go_loopw [14] (fun i wr => ∃ k : Nat, k ≤ 3 ∧ i = .int .i64 k ∧ Arr .u64 170 W.heap.size wr [a0, a1, a2] ∧ Arr .u64 108 (W.heap.size + 1) wr [r0, r1] ∧ Arr .u64 170 (W.heap.size + 1 + 1) wr [0, 0, 0] ∧ Arr .u64 182 (W.heap.size + 1 + 1 + 1) wr (mulO [a0, a1, a2] [r0, r1] k) ∧ Below W.heap.size W wr) (fun i _ => 3 - (intOf i).toNat)
  case atStart => exact ⟨0, by omega, rfl, ha, hb, hr, hv, hw⟩
  case round =>
    clear ha hb hr hv hw
    obtain ⟨k, hk, rfl, ha, hb, hr, hv, hw⟩ := hrel
    by_cases hk3 : k < 3
    · have i0 : (k : Int) < 3 := by omega
      go_wp2
      obtain ⟨x, X⟩ : ∃ x, Aside0 (([a0, a1, a2] : List Nat).getD k 0 = x) := ⟨_, ⟨rfl⟩⟩
      have XB := hd (show x < 18446744073709551616 by rw [← X.out]; exact A3.out.getD k)
      obtain ⟨v0, V0⟩ : ∃ v, Aside0 (mulO [a0, a1, a2] [r0, r1] k = v) := ⟨_, ⟨rfl⟩⟩
      rw [V0.out] at hv
      have VB := hd (show Words64 v0 by rw [← V0.out]; exact (mulO_ok A3.out R2.out k).1)
      have VL := hd (show v0.length = 5 by rw [← V0.out]; exact (mulO_ok A3.out R2.out k).2)
      go_loopw [7, 17] (fun c j wi => ∃ m c' : Nat, m ≤ 2 ∧ j = .int .i64 m ∧ c = .int .u64 (c' : Int) ∧ (mulI x [r0, r1] k v0 m).2 = c' ∧ Arr .u64 170 W.heap.size wi [a0, a1, a2] ∧ Arr .u64 108 (W.heap.size + 1) wi [r0, r1] ∧ Arr .u64 170 (W.heap.size + 1 + 1) wi [0, 0, 0] ∧ Arr .u64 182 (W.heap.size + 1 + 1 + 1) wi (mulI x [r0, r1] k v0 m).1 ∧ Below W.heap.size W wi) (fun _ j _ => 2 - (intOf j).toNat)
      case atStart => exact ⟨0, 0, by omega, rfl, rfl, rfl, ha, hb, hr, hv, hw⟩
      case round =>
        clear ha hb hr hv hw
        obtain ⟨m, c, hm, rfl, rfl, hc, ha, hb, hr, hv, hw⟩ := hrel
        obtain ⟨s0, S0⟩ : ∃ s, Aside0 ((mulI x [r0, r1] k v0 m).1 = s) := ⟨_, ⟨rfl⟩⟩
        rw [S0.out] at hv
        obtain ⟨m1, m2, m3⟩ := mulI_ok (i := k) XB.out R2.out VB.out m
        rw [S0.out] at m1 m3
        rw [hc] at m2
        have SB := hd m1
        have CB := hd m2
        have SL := hd (m3.trans VL.out)
        have HC := hd hc
        clear m1 m2 m3 hc
        by_cases hm2 : m < 2
        · have j0 : (m : Int) < 2 := by omega
          obtain ⟨y, Y⟩ : ∃ y, Aside0 (([r0, r1] : List Nat).getD m 0 = y) := ⟨_, ⟨rfl⟩⟩
          have YB := hd (show y < 18446744073709551616 by rw [← Y.out]; exact R2.out.getD m)
          obtain ⟨q, HQ⟩ : ∃ q, Aside0 (k + m = q) := ⟨_, ⟨rfl⟩⟩
          have hq : (k : Int) + (m : Int) = (q : Int) := by have := HQ.out; omega
          have hq5 : q < 5 := by have := HQ.out; omega
          obtain ⟨v, V⟩ : ∃ v, Aside0 (s0.getD q 0 = v) := ⟨_, ⟨rfl⟩⟩
          obtain ⟨f1, f2, f3⟩ := mul_words v x y c (by rw [← V.out]; exact SB.out.getD q) XB.out YB.out CB.out
          obtain ⟨hi, HHI⟩ : ∃ h, Aside0 (x * y / 18446744073709551616 = h) := ⟨_, ⟨rfl⟩⟩
          obtain ⟨lo, HLO⟩ : ∃ h, Aside0 (x * y % 18446744073709551616 = h) := ⟨_, ⟨rfl⟩⟩
          rw [HHI.out, HLO.out] at f2 f3
          rw [HLO.out] at f1
          have hadd1 := fun w => add64_run0 lo c w
          obtain ⟨l2, HL2⟩ : ∃ h, Aside0 ((lo + c) % 18446744073709551616 = h) := ⟨_, ⟨rfl⟩⟩
          obtain ⟨k1, HK1⟩ : ∃ h, Aside0 ((lo + c) / 18446744073709551616 = h) := ⟨_, ⟨rfl⟩⟩
          rw [HL2.out] at f1 f3
          rw [HK1.out] at f2 f3
          rw [HL2.out, HK1.out] at hadd1
          have hadd2 := fun w => add64_run0 v l2 w
          obtain ⟨k2, HK2⟩ : ∃ h, Aside0 ((v + l2) / 18446744073709551616 = h) := ⟨_, ⟨rfl⟩⟩
          rw [f1, HK2.out] at hadd2
          rw [HK2.out] at f3
          have hwr1 := wrap_u64_sum hi k1 f2
          obtain ⟨h2, HH2⟩ : ∃ h, Aside0 (hi + k1 = h) := ⟨_, ⟨rfl⟩⟩
          rw [HH2.out] at hwr1 f3
          have hwr2 := wrap_u64_sum h2 k2 (by rw [f3]; exact mul_step v x y c (by rw [← V.out]; exact SB.out.getD q) XB.out YB.out CB.out)
          obtain ⟨c2, HC2⟩ : ∃ h, Aside0 (h2 + k2 = h) := ⟨_, ⟨rfl⟩⟩
          rw [HC2.out] at hwr2 f3
          have F3 := hd f3
          obtain ⟨n2, HN2⟩ : ∃ h, Aside0 ((v + x * y + c) % 18446744073709551616 = h) := ⟨_, ⟨rfl⟩⟩
          rw [HN2.out] at hadd2
          clear f1 f2 f3
          go_wp2
          refine up_start [] [(0, true), (1, true), (2, true), (3, true), (4, true), (5, true), (6, false), (7, true), (8, true), (9, true), (10, true), (11, true)] (by kernel_rfl) rfl (by kernel_rfl) (by kernel_rfl) ?_
          have ha1 := ha.drew
          have hb1 := hb.drew
          have hr1 := hr.drew
          have hv1 := hv.drew
          have hw1 := hw.drew
          generalize wr.drew = w5 at ha1 hb1 hr1 hv1 hw1 ⊢
          obtain ⟨x', X', hx, fx⟩ := ha1.cell k hk3
          obtain ⟨y', Y', hy, fy⟩ := hb1.cell m hm2
          obtain rfl : x = x' := X.out.symm.trans X'.out
          obtain rfl : y = y' := Y.out.symm.trans Y'.out
          have gx := Grow.cells hx
          have gy := Grow.cells hy
          clear hx hy fx fy X' Y' ha hb hr hv hw
          refine seq_pure (i := 0) (N := some 21) (v := ?_) (a' := ?_) rfl rfl (by rfl) (fun _ _ _ h => h) ?_ ?_ ?_
          rotate_left 2
          · intro w' hg
            go_simp
            with_reducible rfl
          · simp only [Act.put, List.setIfInBounds_toArray, List.set_cons_zero, List.set_cons_succ, i64_w, i32_w]
            rfl
          refine seq_pure (i := 1) (N := some 22) (v := ?_) (a' := ?_) rfl rfl (by rfl) (fun _ _ _ h => h) ?_ ?_ ?_
          rotate_left 2
          · intro w' hg
            go_simp
            with_reducible rfl
          · simp only [Act.put, List.setIfInBounds_toArray, List.set_cons_zero, List.set_cons_succ, i64_w, i32_w]
            rfl
          refine seq_pure (i := 2) (N := some 23) (v := ?_) (a' := ?_) rfl rfl (by rfl) (fun _ _ _ h => h) ?_ ?_ ?_
          rotate_left 2
          · intro w' hg
            go_simp
            with_reducible rfl
          · simp only [Act.put, List.setIfInBounds_toArray, List.set_cons_zero, List.set_cons_succ, i64_w, i32_w]
            rfl
          refine seq_pure (i := 3) (N := some 24) (v := ?_) (a' := ?_) rfl rfl (by rfl) (fun _ _ _ h => h) ?_ ?_ ?_
          rotate_left 2
          · intro w' hg
            go_simp
            with_reducible rfl
          · simp only [Act.put, List.setIfInBounds_toArray, List.set_cons_zero, List.set_cons_succ, i64_w, i32_w]
            rfl
          refine seq_pure (i := 4) (N := some 25) (v := ?_) (a' := ?_) rfl rfl (by rfl) (fun _ _ _ h => h) ?_ ?_ ?_
          rotate_left 2
          · intro w' hg
            go_simp
            with_reducible rfl
          · simp only [Act.put, List.setIfInBounds_toArray, List.set_cons_zero, List.set_cons_succ, i64_w, i32_w]
            rfl
          refine seq_pure (i := 5) (N := some 26) (v := ?_) (a' := ?_) rfl rfl (by rfl) (fun _ _ _ h => h) ?_ ?_ ?_
          rotate_left 2
          · intro w' hg
            go_simp
            with_reducible rfl
          · simp only [Act.put, List.setIfInBounds_toArray, List.set_cons_zero, List.set_cons_succ, i64_w, i32_w]
            rfl
          refine seq_call (i := 6) (N := some 27) rfl rfl Tryd.func130 (by kernel_rfl) rfl #[.int .u64 (x : Int), .int .u64 (y : Int)] (by rfl) rfl ?_ ?_
          · simp only [List.map_toArray, List.map_cons, List.map_nil]
            rfl
          refine (mul64_calls x y XB.out YB.out _).mono ?_
          rintro e w6 ⟨rfl, rfl⟩
          rw [HHI.out, HLO.out]
          refine ⟨_, rfl, fun _ => Grow.refl _, ?_⟩
          clear gx gy
          refine seq_norm (a' := ?_) ?_ ?_
          rotate_left
          · show Act.put _ (some 27) _ = _
            simp only [Act.put, List.setIfInBounds_toArray, List.set_cons_zero, List.set_cons_succ, i64_w, i32_w]
            rfl
          refine seq_pure (i := 7) (N := some 20) (v := ?_) (a' := ?_) rfl rfl (by rfl) (fun _ _ _ h => h) ?_ ?_ ?_
          rotate_left 2
          · intro w' hg
            go_simp
            with_reducible rfl
          · simp only [Act.put, List.setIfInBounds_toArray, List.set_cons_zero, List.set_cons_succ, i64_w, i32_w]
            rfl
          refine seq_pure (i := 8) (N := some 28) (v := ?_) (a' := ?_) rfl rfl (by rfl) (fun _ _ _ h => h) ?_ ?_ ?_
          rotate_left 2
          · intro w' hg
            go_simp
            with_reducible rfl
          · simp only [Act.put, List.setIfInBounds_toArray, List.set_cons_zero, List.set_cons_succ, i64_w, i32_w]
            rfl
          refine seq_pure (i := 9) (N := some 29) (v := ?_) (a' := ?_) rfl rfl (by rfl) (fun _ _ _ h => h) ?_ ?_ ?_
          rotate_left 2
          · intro w' hg
            go_simp
            with_reducible rfl
          · simp only [Act.put, List.setIfInBounds_toArray, List.set_cons_zero, List.set_cons_succ, i64_w, i32_w]
            rfl
          refine seq_pure (i := 10) (N := some 9) (v := ?_) (a' := ?_) rfl rfl (by rfl) (fun _ _ _ h => h) ?_ ?_ ?_
          rotate_left 2
          · intro w' hg
            go_simp
            with_reducible rfl
          · simp only [Act.put, List.setIfInBounds_toArray, List.set_cons_zero, List.set_cons_succ, i64_w, i32_w]
            rfl
          refine seq_pure (i := 11) (N := some 10) (v := ?_) (a' := ?_) rfl rfl (by rfl) (fun _ _ _ h => h) ?_ ?_ ?_
          rotate_left 2
          · intro w' hg
            go_simp
            with_reducible rfl
          · simp only [Act.put, List.setIfInBounds_toArray, List.set_cons_zero, List.set_cons_succ, i64_w, i32_w]
            rfl
          refine seq_done ?_
          obtain ⟨v', V', hcell, hfr⟩ := hv1.cell q (by rw [SL.out]; exact hq5)
          obtain rfl : v = v' := V.out.symm.trans V'.out
          have hset := hd (hv1.set q n2)
          clear V' hv1
          go_wp2
          go_roundw
          case rel =>
            refine ⟨m + 1, c2, by omega, by go_num, rfl, ?_, ha1.far (by show _ ≠ W.heap.size + 1 + 1 + 1; omega) _, hb1.far (by show _ ≠ W.heap.size + 1 + 1 + 1; omega) _, hr1.far (by show _ ≠ W.heap.size + 1 + 1 + 1; omega) _, ?_, hw1.setCell (by show W.heap.size ≤ W.heap.size + 1 + 1 + 1; omega) _⟩
            · simp only [mulI]
              rw [HC.out, S0.out, Y.out, HQ.out, V.out, F3.out]
            · simp only [mulI]
              rw [HC.out, S0.out, Y.out, HQ.out, V.out, HN2.out]
              exact hset.out
          case measure => simp [intOf]; omega
        · obtain rfl : m = 2 := by omega
          obtain ⟨q, HQ⟩ : ∃ q, Aside0 (k + 2 = q) := ⟨_, ⟨rfl⟩⟩
          have hq : (k : Int) + 2 = (q : Int) := by have := HQ.out; omega
          have hq5 : q < 5 := by have := HQ.out; omega
          obtain ⟨v, V, hcell, hfr⟩ := hv.cell q (by rw [SL.out]; exact hq5)
          obtain ⟨n2, HN2⟩ : ∃ h, Aside0 ((v + c) % 18446744073709551616 = h) := ⟨_, ⟨rfl⟩⟩
          have hwr := (wrap_u64_add v c).trans (congrArg Nat.cast HN2.out)
          have hset := hd (hv.set q n2)
          clear hv
          go_wp2
          go_roundw
          case rel =>
            refine ⟨k + 1, by omega, by go_num, ha.far (by show _ ≠ W.heap.size + 1 + 1 + 1; omega) _, hb.far (by show _ ≠ W.heap.size + 1 + 1 + 1; omega) _, hr.far (by show _ ≠ W.heap.size + 1 + 1 + 1; omega) _, ?_, hw.setCell (by show W.heap.size ≤ W.heap.size + 1 + 1 + 1; omega) _⟩
            have e : mulO [a0, a1, a2] [r0, r1] (k + 1) = s0.set q n2 := by
              show (mulI _ _ k (mulO [a0, a1, a2] [r0, r1] k) 2).1.set _ _ = _
              rw [X.out, V0.out, S0.out, HC.out, HQ.out, V.out, HN2.out]
            rw [e]
            exact hset.out
          case measure => simp [intOf]; omega
    · obtain rfl : k = 3 := by omega
      obtain ⟨p0, p1, p2, p3, p4, hp5⟩ : ∃ p0 p1 p2 p3 p4, num5 pr = [p0, p1, p2, p3, p4] := ⟨_, _, _, _, _, rfl⟩
      rw [H5.out, hp5] at hv
      obtain ⟨m, hm⟩ : ∃ m, p2 % 4 = m := ⟨_, rfl⟩
      obtain ⟨l0, l1, l2, l3, l4⟩ := num5_lt hp5
      have e1 : bits .and .u64 (p2 : Int) 3 = (m : Int) := by rw [and3_u64 p2 l2, hm]
      have LO := hd (num5_low hp5 hm)
      have HI := hd (num5_high hp5 HP.out)
      have o1 := or_u64 p2 p3 l2
      have o2 := or_u64 p3 p4 l3
      have o3 : (p4 : Int) / 4 = ((p4 / 4 : Nat) : Int) := by omega
      generalize p2 / 4 + p3 % 4 * 4611686018427387904 = h0 at HI o1
      generalize p3 / 4 + p4 % 4 * 4611686018427387904 = h1 at HI o2
      generalize p4 / 4 = h2 at HI o3
      have c0 := arr_at hv 0 p0 rfl
      have c1 := arr_at hv 1 p1 rfl
      have c2 := arr_at hv 2 p2 rfl
      have b0 := Arr.new (k := .u64) (T := 170) (l := [p0, p1, m]) wr (cs := #[.int .u64 (p0 : Int), .int .u64 (p1 : Int), .int .u64 (m : Int)]) rfl
      have hal := below_alloc (Below.refl wr.heap.size wr) (.cells #[.int .u64 (p0 : Int), .int .u64 (p1 : Int), .int .u64 (m : Int)] 170)
      have hv1 := hv.below hal
      have hr1 := hr.below hal
      have hw1 := below_seq hw hal
      have hs1 := World.size_alloc wr (.cells #[.int .u64 (p0 : Int), .int .u64 (p1 : Int), .int .u64 (m : Int)] 170)
      have hrl := hr.lt
      clear hm l0 l1 l2 l3 l4 hp5 hal ha hb hr hv hw H5
      have c2' := arr_at hv1 2 p2 rfl
      have c3 := arr_at hv1 3 p3 rfl
      have c4 := arr_at hv1 4 p4 rfl
      go_wp2_with fail
      clear c0 c1 c2 c2' c3 c4 hv1 o1 o2 o3 e1
      have b1 := Arr.new (k := .u64) (T := 170) (l := [h0, h1, h2]) (wr.alloc (.cells #[.int .u64 (p0 : Int), .int .u64 (p1 : Int), .int .u64 (m : Int)] 170)) (cs := #[.int .u64 (h0 : Int), .int .u64 (h1 : Int), .int .u64 (h2 : Int)]) rfl
      have hal2 := below_alloc (Below.refl (wr.alloc (.cells #[.int .u64 (p0 : Int), .int .u64 (p1 : Int), .int .u64 (m : Int)] 170)).heap.size (wr.alloc (.cells #[.int .u64 (p0 : Int), .int .u64 (p1 : Int), .int .u64 (m : Int)] 170))) (.cells #[.int .u64 (h0 : Int), .int .u64 (h1 : Int), .int .u64 (h2 : Int)] 170)
      replace b0 := b0.below hal2
      replace hr1 := hr1.below hal2
      replace hw1 := below_seq hw1 hal2
      rw [hs1] at b1
      clear hal2 hs1
      generalize ((wr.alloc (.cells #[.int .u64 (p0 : Int), .int .u64 (p1 : Int), .int .u64 (m : Int)] 170)).alloc (.cells #[.int .u64 (h0 : Int), .int .u64 (h1 : Int), .int .u64 (h2 : Int)] 170)) = w2 at b0 b1 hr1 hw1 ⊢
      generalize wr.heap.size = gl at b0 b1 hrl ⊢
      have hsz : W.heap.size + 1 + 1 < gl := hrl
      clear hrl
      rw [show ((3 : Nat) : Int) = 3 from rfl]
      go_loopw [91] (fun i wr => ∃ k s0 s1 s2 : Nat, k ≤ 5 ∧ i = .int .i64 k ∧ num (pr % 2 ^ 130 + k * (pr / 2 ^ 130)) = [s0, s1, s2] ∧ Arr .u64 170 gl wr [s0, s1, s2] ∧ Arr .u64 170 (W.heap.size + 1 + 1) wr [0, 0, 0] ∧ Arr .u64 170 (gl + 1) wr [h0, h1, h2] ∧ Below W.heap.size W wr) (fun i _ => 5 - (intOf i).toNat)
      case atStart => exact ⟨0, p0, p1, m, by omega, rfl, by rw [Nat.zero_mul]; exact LO.out, b0, hr1, b1, hw1⟩
      case round =>
        clear b0 b1 hr1 hw1
        obtain ⟨k, s0, s1, s2, hk, rfl, hn, b0, b1, b2, hw⟩ := hrel
        have HN := hd hn
        clear hn
        by_cases hlt : k < 5
        · go_wp2_with (first
            | ((with_reducible refine gate_dst (N := 93) rfl ?_); refine op_loadA 93 rfl rfl 170 22 3 _ rfl rfl b0 #[.int .u64 (s0 : Int), .int .u64 (s1 : Int), .int .u64 (s2 : Int)] rfl Tryd.underlying170 (by kernel_rfl) rfl ?_)
            | ((with_reducible refine gate_dst (N := 94) rfl ?_); refine op_loadA 94 rfl rfl 170 22 3 _ rfl rfl b2 #[.int .u64 (h0 : Int), .int .u64 (h1 : Int), .int .u64 (h2 : Int)] rfl Tryd.underlying170 (by kernel_rfl) rfl ?_)
            | (go_at_call 116; refine (plus_calls (pr % 2 ^ 130 + k * (pr / 2 ^ 130)) (pr / 2 ^ 130) HN.out HI.out _).mono ?_; rintro e w2 ⟨t0, t1, t2, hn2, rfl, hb2⟩; replace b0 := b0.below hb2; replace b1 := b1.below hb2; replace b2 := b2.below hb2; replace hw := below_seq hw hb2; have HN2 := hd hn2; clear hn2)
            | ((with_reducible refine gate_store (t := 170) (p := 12) rfl ?_); refine op_storeA rfl rfl 170 3 _ _ rfl rfl [t0, t1, t2] rfl b0 (by kernel_rfl) rfl rfl ?_; intro w3 c0 o0; replace b1 := b1.only o0 (by omega); replace b2 := b2.only o0 (by omega); replace hw := below_only hw o0 (by omega); clear b0 o0))
          go_roundw
          case rel => exact ⟨k + 1, t0, t1, t2, by omega, by go_num, by rw [Nat.succ_mul, ← Nat.add_assoc]; exact HN2.out, c0, b1, b2, hw⟩
          case measure => simp [intOf]; omega
        · obtain rfl : k = 5 := by omega
          have hlow : pr % 2 ^ 130 + 5 * (pr / 2 ^ 130) < 2 ^ 192 := by have := HP.out; omega
          have HLOW := hd hlow
          clear hlow
          go_wp2_with (first
            | ((with_reducible refine gate_dst (N := 97) rfl ?_); refine op_loadA 97 rfl rfl 170 22 3 _ rfl rfl b0 #[.int .u64 (s0 : Int), .int .u64 (s1 : Int), .int .u64 (s2 : Int)] rfl Tryd.underlying170 (by kernel_rfl) rfl ?_)
            | (go_at_call 131; refine (less_calls (pr % 2 ^ 130 + 5 * (pr / 2 ^ 130)) HN.out HLOW.out _).mono ?_; rintro e w4 ⟨t0, t1, t2, hn2, rfl, hb2⟩; replace b1 := b1.below hb2; replace hw := below_seq hw hb2; have HN2 := hd hn2; clear hn2)
            | ((with_reducible refine gate_store (t := 170) (p := 4) rfl ?_); refine op_storeA rfl rfl 170 3 _ _ rfl rfl [t0, t1, t2] rfl b1 (by kernel_rfl) rfl rfl ?_; intro w5 c1 o1))
          exact ret_cellA Tryd.results117 rfl c1 rfl Tryd.underlying170 (by kernel_rfl) rfl ⟨t0, t1, t2, HN2.out, rfl, below_only hw o1 (by omega)⟩

end Go.Proofs.YtlgdplodglchaaaDoor
