/- Texts put together: Wls Wx Rls Weq Wj Rj. -/
import Derived.Test.YtlgdplodglchaaaDoorProg
import Derived.Test.YtlgdplodglchaaaDoorGLib
import Derived.Deep.RegionHeld3
/- The walks through words.Load and words.Store. -/
set_option linter.unusedVariables false
set_option linter.unusedSimpArgs false
namespace Go.Proofs.YtlgdplodglchaaaDoor
open Go.RowKit Go.Proofs.YtlgdplodglchaaaDoorW.PrintWords Go.Proofs.YtlgdplodglchaaaDoorW.PrintLast Go.Proofs.YtlgdplodglchaaaDoorW.PrintMore
attribute [local go_sem] max2_int min2_int max_two min_two max_three min_three

theorem Tryd.infoU8 : (Tryd.prog.info? 5).map (fun i => (i.zero, i.size, i.bytes)) = some (some (.int .u8 0), 1, 1) := by kernel_rfl
/-- Bytes that the call made, over the world in which it began. -/
abbrev Own (w0 w : World) (v : Value) (l : List Nat) : Prop := OwnK .u8 5 w0.heap.size w v l
set_option maxHeartbeats 1000000 in
set_option maxRecDepth 100000 in
theorem load_calls {A : Option Addr} {n c : Nat} {l : List Nat} {w : World} (h : Bytes w A n c l) :
    Calls Tryd.prog 108 #[.slice A n c] w fun e w' => e = .returned (.int .u64 (loadN (l.take 8) : Nat)) ∧ w = w' := by
  obtain ⟨hr, rfl, hc, hb⟩ := h
  have HC := hd hc
  have hm := hr.max
  clear hc
  obtain ⟨m, hm2⟩ : ∃ m : Nat, m = min l.length 8 := ⟨_, rfl⟩
  have hm3 : (if 8 < (l.length : Int) then 8 else (l.length : Int)) = (m : Int) := by split <;> omega
  have hm4 : m ≤ l.length := by omega
  have hm5 : m ≤ 8 := by omega
  have hm6 : l.take m = l.take 8 := by
    rcases Nat.le_total l.length 8 with h | h
    · rw [List.take_of_length_le (by omega), List.take_of_length_le h]
    · rw [show m = 8 by omega]
  have HM := hd hm6
  clear hm2 hm6
  go_enter Tryd.func108, Tryd.ntmps108
  go_wp2
  clear hm3
  go_loop [3, 8] (fun x i => ∃ k : Nat, k ≤ m ∧ i = .int .i64 k ∧ x = .int .u64 (loadN (l.take k) : Nat)) (fun _ i => m - (intOf i).toNat)
  case atStart => exact ⟨0, Nat.zero_le _, rfl, rfl⟩
  case round =>
    obtain ⟨k, hk, rfl, rfl⟩ := hrel
    by_cases hlt : k < m
    · obtain ⟨ad, x, rfl, HX, hcell⟩ := hr.at_ k (by omega)
      go_wp2
      go_round
      case rel =>
        refine ⟨k + 1, by omega, by go_num, ?_⟩
        have h1 := or_byte (k := k) (a := loadN (l.take k)) (b := x) (by omega) (by have := loadN_lt (hb.take k); rwa [List.length_take, Nat.min_eq_left (by omega)] at this) (by have := hb.getD k; rwa [HX.out] at this)
        rw [take_snoc l k 0 (by omega), loadN_snoc, HX.out, List.length_take, Nat.min_eq_left (by omega), ← h1]
      case measure => simp [intOf]; omega
    · go_wp2
      go_ret
      obtain rfl : k = m := by omega
      exact ⟨by rw [← HM.out]; rfl, rfl⟩
/-- The row that Store fills. -/
theorem store_step (x m k : Nat) (hk : k < m) : (storeN x k ++ List.replicate (m - k) 0).set k (x / 256 ^ k % 256) = storeN x (k + 1) ++ List.replicate (m - (k + 1)) 0 := by
  rw [List.set_append_right _ _ (by rw [storeN_length]; omega), storeN_length, Nat.sub_self, show m - k = (m - (k + 1)) + 1 by omega, List.replicate_succ, List.set_cons_zero, storeN_snoc, List.append_assoc]
  rfl

theorem shr_byte {x k : Nat} (hk : k < 8) : ((x : Int) / 2 ^ (8 * k) % 256) = ((x / 256 ^ k % 256 : Nat) : Int) := by
  have hp : (256 : Nat) ^ k = 2 ^ (8 * k) := by rw [Nat.pow_mul]
  rw [hp]; simp
set_option maxHeartbeats 1000000 in
set_option maxRecDepth 100000 in
theorem store_calls {xi : Int} (x : Nat) (n : Int) (w : World) (hxi : xi = (x : Int)) (hx : x < 2 ^ 64) :
    Calls Tryd.prog 88 #[.int .u64 xi, .int .i64 n] w fun e w' => ∃ v, e = .returned v ∧ Own w w' v (storeN x (min n.toNat 8)) ∧ Below w.heap.size w w' := by
  subst hxi
  obtain ⟨n2, hn2⟩ : ∃ n2 : Nat, n2 = n.toNat := ⟨_, rfl⟩
  rw [← hn2]
  obtain ⟨m, hm2⟩ : ∃ m : Nat, m = min n2 8 := ⟨_, rfl⟩
  rw [← hm2]
  have hn3 : (if n < 0 then 0 else n) = (n2 : Int) := by split <;> omega
  have hm3 : (if 8 < (n2 : Int) then 8 else (n2 : Int)) = (m : Int) := by split <;> omega
  have hm5 : m ≤ 8 := by omega
  have HX := hd hx
  clear hm2 hn2 hx
  go_enter Tryd.func88, Tryd.ntmps88
  go_wp2_with (((with_reducible refine gate_dst (N := 10) rfl ?_); refine op_make 10 rfl 5 40 _ _ rfl rfl (m : Int) rfl rfl Tryd.underlying40 Tryd.infoU8 (by decide) m rfl (by omega) ?_; intro A1 c1 w1 hc1 ho hb))
  clear hm3 hn3
  have HO := hd ho
  have HB := hd hb
  clear ho hb
  go_loopw [13] (fun i wr => ∃ k : Nat, k ≤ m ∧ i = .int .i64 k ∧ Own w wr (.slice A1 m c1) (storeN x k ++ List.replicate (m - k) 0) ∧ Below w.heap.size w wr) (fun i _ => m - (intOf i).toNat)
  case atStart => exact ⟨0, Nat.zero_le _, rfl, HO.out, HB.out⟩
  case round =>
    obtain ⟨k, hk, rfl, ho, hb⟩ := hrel
    have HO := hd ho
    have HB := hd hb
    clear ho hb
    by_cases hlt : k < m
    · obtain ⟨g, rfl, hg, hg2⟩ := HO.out.at_ (by omega)
      obtain ⟨hcell, hfr⟩ := HO.out.cell k hlt
      have HP := hd (HO.out.put k (x / 256 ^ k % 256))
      go_wp2
      go_roundw
      case rel =>
        refine ⟨k + 1, by omega, by go_num, ?_, HB.out.setCell hg _⟩
        rw [← store_step x m k hlt, shr_byte (by omega)]
        exact HP.out
      case measure => simp [intOf]; omega
    · go_wp2
      go_ret
      obtain rfl : k = m := by omega
      have h1 := HO.out
      rw [Nat.sub_self, List.replicate_zero, List.append_nil] at h1
      exact ⟨_, rfl, h1, HB.out⟩
/-- A slice of the call's own, in a block from base on, whatever its bytes. -/
def MineB (base : Nat) (wr : World) (A : Option Addr) (n c : Nat) : Prop := ∃ l, l.length = n ∧ OwnK .u8 5 base wr (.slice A n c) l ∧ BytesOK l
theorem MineB.at_ {base : Nat} {wr : World} {A : Option Addr} {n c k : Nat} (h : MineB base wr A n c) (hk : k < n) :
    ∃ g y, A = some ⟨g, 0, none⟩ ∧ base ≤ g ∧ wr.cell? ⟨g, k, none⟩ = some (.int .u8 ((y : Nat) : Int)) ∧ wr.frozen? ⟨g, k, none⟩ = false ∧ y < 256 ∧ ∀ z : Nat, z < 256 → MineB base (wr.setCell ⟨g, k, none⟩ (.int .u8 (z : Int))) A n c := by
  obtain ⟨l, hl, ho, hb⟩ := h
  obtain ⟨g, rfl, hg, _⟩ := ho.at_ (by omega)
  obtain ⟨y, HY, h1, h2⟩ := ho.cellx k hk
  exact ⟨g, y, rfl, hg, h1, h2, by rw [← HY.out]; exact hb.getD k, fun z hz => ⟨l.set k z, by simpa using hl, ho.put k z, hb.set hz k⟩⟩
theorem MineB.below {base : Nat} {w w1 : World} {A : Option Addr} {n c : Nat} (h : MineB base w A n c) (hb : Below w.heap.size w w1) : MineB base w1 A n c := by
  obtain ⟨l, h1, h2, h3⟩ := h
  exact ⟨l, h1, h2.below hb, h3⟩
theorem MineB.drew {base : Nat} {w : World} {A : Option Addr} {n c : Nat} (h : MineB base w A n c) : MineB base w.drew A n c := h.below (below_drew (Below.refl _ _))
theorem MineB.far {base : Nat} {w : World} {A : Option Addr} {n c : Nat} (h : MineB base w A n c) {p : Addr} (hp : p.block < base) (u : Value) : MineB base (w.setCell p u) A n c := by
  obtain ⟨l, h1, h2, h3⟩ := h
  exact ⟨l, h1, h2.step (fun g hg _ => Below.heap_setCell w p u g (by omega)), h3⟩
theorem MineB.of {base : Nat} {w : World} {A : Option Addr} {n c : Nat} {l : List Nat} (ho : OwnK .u8 5 base w (.slice A n c) l) (hb : BytesOK l) : MineB base w A n c := ⟨l, ho.row.1.symm, ho, hb⟩
end Go.Proofs.YtlgdplodglchaaaDoor
/- The walk through words.Xor. -/
set_option linter.unusedVariables false
set_option linter.unusedSimpArgs false
namespace Go.Proofs.YtlgdplodglchaaaDoor
open Go.RowKit Go.Proofs.YtlgdplodglchaaaDoorW.PrintWords Go.Proofs.YtlgdplodglchaaaDoorW.PrintLast Go.Proofs.YtlgdplodglchaaaDoorW.PrintMore
attribute [local go_sem] max2_int min2_int max_two min_two max_three min_three
/-- The row that Xor fills. -/
theorem xor_step (a b : List Nat) (m k : Nat) (hk : k < m) (ha : m ≤ a.length) (hb : m ≤ b.length) :
    (xorL (a.take k) (b.take k) ++ List.replicate (m - k) 0).set k (a.getD k 0 ^^^ b.getD k 0) = xorL (a.take (k + 1)) (b.take (k + 1)) ++ List.replicate (m - (k + 1)) 0 := by
  have hl : (xorL (a.take k) (b.take k)).length = k := by rw [xorL_length, List.length_take, List.length_take]; omega
  rw [List.set_append_right _ _ (by omega), hl, Nat.sub_self, show m - k = (m - (k + 1)) + 1 by omega, List.replicate_succ, List.set_cons_zero, take_snoc a k 0 (by omega), take_snoc b k 0 (by omega)]
  unfold xorL
  rw [List.zipWith_append (by rw [List.length_take, List.length_take]; omega), List.append_assoc]
  rfl
set_option maxHeartbeats 1000000 in
set_option maxRecDepth 100000 in
theorem xor_calls {A B : Option Addr} {na nb ca cb : Nat} {a b : List Nat} {w : World} (ha : Bytes w A na ca a) (hb : Bytes w B nb cb b) (hfit : na ≤ 140737488355328) :
    Calls Tryd.prog 99 #[.slice A na ca, .slice B nb cb] w fun e w' => ∃ v, e = .returned v ∧ Own w w' v (xorL a b) ∧ Below w.heap.size w w' := by
  obtain ⟨hra, rfl, hca, hba⟩ := ha
  obtain ⟨hrb, rfl, hcb, hbb⟩ := hb
  obtain ⟨m, hm2⟩ : ∃ m : Nat, m = min a.length b.length := ⟨_, rfl⟩
  have hm3 : (if b.length < a.length then (b.length : Int) else (a.length : Int)) = (m : Int) := by split <;> omega
  have hma : m ≤ a.length := by omega
  have hmb : m ≤ b.length := by omega
  have hmf : m ≤ 140737488355328 := by omega
  have hlast : xorL (a.take m) (b.take m) = xorL a b := by
    unfold xorL
    rw [← List.take_zipWith, List.take_of_length_le (by rw [List.length_zipWith]; omega)]
  have HL := hd hlast
  have HCA := hd hca
  have HCB := hd hcb
  clear hm2 hlast hca hcb
  go_enter Tryd.func99, Tryd.ntmps99
  go_wp2_with (((with_reducible refine gate_dst (N := 12) rfl ?_); refine op_make 12 rfl 5 40 _ _ rfl rfl (m : Int) rfl rfl Tryd.underlying40 Tryd.infoU8 (by decide) m rfl (by omega) ?_; intro A1 c1 w1 hc1 ho hb))
  clear hm3
  have HO := hd ho
  have HB := hd hb
  clear ho hb
  go_loopw [15] (fun i wr => ∃ k : Nat, k ≤ m ∧ i = .int .i64 k ∧ Own w wr (.slice A1 m c1) (xorL (a.take k) (b.take k) ++ List.replicate (m - k) 0) ∧ Below w.heap.size w wr) (fun i _ => m - (intOf i).toNat)
  case atStart => exact ⟨0, Nat.zero_le _, rfl, HO.out, HB.out⟩
  case round =>
    obtain ⟨k, hk, rfl, ho, hb⟩ := hrel
    have HO := hd ho
    have HB := hd hb
    clear ho hb
    by_cases hlt : k < m
    · obtain ⟨g, rfl, hg, hg2⟩ := HO.out.at_ (by omega)
      obtain ⟨hcell, hfr⟩ := HO.out.cell k hlt
      obtain ⟨ad, x, rfl, HX, hca⟩ := (hra.below HB.out).at_ k (by omega)
      obtain ⟨bd, y, rfl, HY, hcb⟩ := (hrb.below HB.out).at_ k (by omega)
      have HP := hd (HO.out.put k (a.getD k 0 ^^^ b.getD k 0))
      have i0 : (0 : Int) ≤ k := by omega
      have i1 : (k : Int) < a.length := by omega
      have i2 : (k : Int) < b.length := by omega
      have i3 : (k : Int) < m := by omega
      go_wp2
      go_region
      go_wp2
      go_roundw
      case rel =>
        refine ⟨k + 1, by omega, by go_num, ?_, (HB.out.setCell hg _).drew⟩
        have h1 := HP.out
        rw [xor_step a b m k hlt hma hmb, ← xor_u8 (hba.getD k) (hbb.getD k)] at h1
        rw [HX.out, HY.out] at h1
        exact h1.below (Below.refl _ _).drew
      case measure => simp [intOf]; omega
    · go_wp2
      go_ret
      obtain rfl : k = m := by omega
      have h1 := HO.out
      rw [Nat.sub_self, List.replicate_zero, List.append_nil, HL.out] at h1
      exact ⟨_, rfl, h1, HB.out⟩

end Go.Proofs.YtlgdplodglchaaaDoor
/- The walks through redanref01.Load and Store. -/
set_option linter.unusedVariables false
set_option linter.unusedSimpArgs false
namespace Go.Proofs.YtlgdplodglchaaaDoor
open Go.RowKit Go.Proofs.YtlgdplodglchaaaDoorW.PrintWords Go.Proofs.YtlgdplodglchaaaDoorW.PrintLast Go.Proofs.YtlgdplodglchaaaDoorW.PrintMore
attribute [local go_sem] max2_int min2_int max_two min_two max_three min_three

theorem load_div (l : List Nat) (k : Nat) (hk : k < 8) (hl : k < l.length) : loadN ((l.take 8).drop k) = l.getD k 0 + 256 * loadN ((l.take 8).drop (k + 1)) := by
  have hlt : k < (l.take 8).length := by rw [List.length_take]; omega
  rw [List.drop_eq_getElem_cons hlt, loadN]
  congr 1
  rw [List.getElem_take, List.getD_eq_getElem?_getD, List.getElem?_eq_getElem hl]
  rfl
theorem load_top (l : List Nat) (k : Nat) (hb : BytesOK l) : loadN ((l.take 8).drop k) < 2 ^ 64 := by
  have h1 := loadN_lt ((hb.take 8).drop k)
  have h2 : ((l.take 8).drop k).length ≤ 8 := by rw [List.length_drop, List.length_take]; omega
  have h3 : (256 : Nat) ^ ((l.take 8).drop k).length ≤ 256 ^ 8 := Nat.pow_le_pow_right (by decide) h2
  have h4 : (256 : Nat) ^ 8 = 2 ^ 64 := by decide
  omega
theorem u64_of {n : Nat} (h : n < 2 ^ 64) : IntKind.u64.wrap (n : Int) = n := wrapN_u rfl h
set_option maxHeartbeats 1000000 in
set_option maxRecDepth 100000 in
theorem refload_calls {A : Option Addr} {n c : Nat} {l : List Nat} {w : World} (h : Bytes w A n c l) :
    Calls Tryd.prog 112 #[.slice A n c] w fun e w' => e = .returned (.int .u64 (loadN (l.take 8) : Nat)) ∧ w = w' := by
  obtain ⟨hr, rfl, hc, hb⟩ := h
  have HC := hd hc
  have hm := hr.max
  clear hc
  rcases Nat.lt_or_ge 8 l.length with h | h
  all_goals
    go_enter Tryd.func112, Tryd.ntmps112
    go_wp2
    go_loop [3, 5] (fun x i => ∃ k : Nat, k ≤ l.length ∧ k ≤ 8 ∧ i = .int .i64 ((k : Int) - 1) ∧ x = .int .u64 (loadN ((l.take 8).drop k) : Nat)) (fun _ i => (intOf i + 1).toNat)
    case atStart => first
      | exact ⟨l.length, Nat.le_refl _, h, rfl, by rw [List.drop_eq_nil_of_le (by rw [List.length_take]; omega)]; rfl⟩
      | exact ⟨8, by omega, Nat.le_refl _, rfl, by rw [List.drop_eq_nil_of_le (by rw [List.length_take]; omega)]; rfl⟩
    case round =>
      obtain ⟨k, hk, hk8, rfl, rfl⟩ := hrel
      rcases Nat.eq_zero_or_pos k with rfl | hpos
      · go_wp2
        go_ret
        exact ⟨rfl, rfl⟩
      · obtain ⟨j, rfl⟩ : ∃ j, k = j + 1 := ⟨k - 1, by omega⟩
        obtain ⟨ad, x, rfl, HX, hcell⟩ := hr.at_ j (by omega)
        have hj : ((j + 1 : Nat) : Int) - 1 = (j : Int) := by omega
        rw [hj]
        clear hj
        go_wp2
        go_round
        case rel =>
          refine ⟨j, by omega, by omega, rfl, ?_⟩
          have h1 := load_div l j (by omega) (by omega)
          have h2 := load_top l j hb
          have h3 := load_top l (j + 1) hb
          have h4 := hb.getD j
          rw [HX.out] at h1 h4
          rw [h1] at h2 ⊢
          have h5 : IntKind.u64.wrap ((loadN ((l.take 8).drop (j + 1)) : Nat) * 256 : Int) = ((loadN ((l.take 8).drop (j + 1)) * 256 : Nat) : Int) := by
            have := u64_of (n := loadN ((l.take 8).drop (j + 1)) * 256) (by omega)
            rwa [Int.natCast_mul] at this
          have h6 : IntKind.u64.wrap (x : Int) = (x : Int) := u64_of (by omega)
          have h7 := u64_of h2
          rw [h5, h6]
          rw [show ((loadN ((l.take 8).drop (j + 1)) * 256 : Nat) : Int) + (x : Int) = ((x + 256 * loadN ((l.take 8).drop (j + 1)) : Nat) : Int) by omega, h7]
        case measure => first | (simp [intOf]; done) | (simp [intOf]; omega)
set_option maxHeartbeats 1000000 in
set_option maxRecDepth 100000 in
theorem refstore_calls {xi : Int} (x : Nat) (n : Int) (w : World) (hxi : xi = (x : Int)) (hx : x < 2 ^ 64) :
    Calls Tryd.prog 91 #[.int .u64 xi, .int .i64 n] w fun e w' => ∃ v, e = .returned v ∧ Own w w' v (storeN x (min n.toNat 8)) ∧ Below w.heap.size w w' := by
  subst hxi
  obtain ⟨m, hm2⟩ : ∃ m : Nat, m = min n.toNat 8 := ⟨_, rfl⟩
  rw [← hm2]
  have hm5 : m ≤ 8 := by omega
  have hm6 : (m : Int) ≤ n ∨ m = 0 := by omega
  have hm7 : n ≤ m ∨ m = 8 := by omega
  have HX := hd hx
  have H6 := hd hm6
  have H7 := hd hm7
  clear hm2 hx hm6 hm7
  go_enter Tryd.func91, Tryd.ntmps91
  go_wp2
  go_loopw [0, 5, 6] (fun q v i wr => ∃ k : Nat, k ≤ m ∧ i = .int .i64 k ∧ q = .int .u64 ((x / 256 ^ k : Nat) : Int) ∧ Own w wr v (storeN x k) ∧ Below w.heap.size w wr) (fun _ _ i _ => m - (intOf i).toNat)
  case atStart => exact ⟨0, Nat.zero_le _, rfl, by simp, OwnK.nil _ _ _ _, Below.refl _ _⟩
  case round =>
    obtain ⟨k, hk, rfl, hq, ho, hb⟩ := hrel
    obtain ⟨q, hq2⟩ : ∃ q : Nat, x / 256 ^ k = q := ⟨_, rfl⟩
    rw [hq2] at hq
    subst hq
    have HQ := hd hq2
    have HO := hd ho
    have HB := hd hb
    clear ho hb hq2
    have hs := HB.out.size
    have hql : q < 2 ^ 64 := by
      rw [← HQ.out]
      exact Nat.lt_of_le_of_lt (Nat.div_le_self _ _) HX.out
    have HQL := hd hql
    clear hql
    by_cases hlt : k < m
    · have h1 : (k : Int) < n := by have := H6.out; omega
      have h2 : (k : Int) < 8 := by omega
      have hby : ((q : Int) % 256) % 256 = ((q % 256 : Nat) : Int) := by omega
      have hdv : IntKind.u64.wrap ((q : Int) / 256) = ((q / 256 : Nat) : Int) := by
        have := HQL.out
        exact u64_of (n := q / 256) (by omega)
      have HBY := hd hby
      have HDV := hd hdv
      clear hby hdv
      go_wp2_with (((with_reducible refine gate_dst (N := 21) rfl ?_); at_builtin; refine op_append (k := .u8) (w0 := w) 21 rfl w.heap.size 5 40 _ _ rfl rfl Tryd.underlying40 Tryd.infoU8 (by decide) _ (storeN x k) _ (q % 256) (by omega) rfl rfl HO.out HB.out hs (by rw [storeN_length]; omega) ?_; intro v1 w1 ho1 hb1 hg1))
      refine ⟨⟨k + 1, by omega, by go_num, ?_, ?_, hb1⟩, by simp [intOf]; omega⟩
      · rw [HDV.out, ← HQ.out, Nat.div_div_eq_div_mul, ← Nat.pow_succ]
      · rw [storeN_snoc, HQ.out]
        exact ho1
    · obtain rfl : k = m := by omega
      have hend : decide ((k : Int) < n) = false ∨ decide ((k : Int) < n) = true ∧ k = 8 := by
        rcases H7.out with h | h
        · left; rw [decide_eq_false_iff_not]; omega
        · by_cases hn : (k : Int) < n
          · right; exact ⟨by simpa using hn, h⟩
          · left; simpa using hn
      rcases hend with h1 | ⟨h1, rfl⟩
      all_goals
        go_wp2
        all_goals
          go_ret
          exact ⟨_, rfl, HO.out, HB.out⟩

end Go.Proofs.YtlgdplodglchaaaDoor
/- The walks through words.gather, Equal. -/
set_option linter.unusedVariables false
set_option linter.unusedSimpArgs false
namespace Go.Proofs.YtlgdplodglchaaaDoor
open Go.RowKit Go.Proofs.YtlgdplodglchaaaDoorW.PrintWords Go.Proofs.YtlgdplodglchaaaDoorW.PrintLast Go.Proofs.YtlgdplodglchaaaDoorW.PrintMore
attribute [local go_sem] max2_int min2_int max_two min_two max_three min_three
set_option maxHeartbeats 1000000 in
set_option maxRecDepth 100000 in
theorem gather_calls {A : Option Addr} {n c : Nat} {l : List Nat} {w : World} (h : Bytes w A n c l) :
    Calls Tryd.prog 106 #[.slice A n c] w fun e w' => e = .returned (.int .u8 (gatherL l : Nat)) ∧ w = w' := by
  obtain ⟨hr, rfl, hc, hb⟩ := h
  have HC := hd hc
  have hm := hr.max
  clear hc
  go_enter Tryd.func106, Tryd.ntmps106
  go_wp2
  go_loop [3, 8] (fun x i => ∃ k : Nat, k ≤ l.length ∧ i = .int .i64 k ∧ x = .int .u8 (gatherL (l.take k) : Nat)) (fun _ i => l.length - (intOf i).toNat)
  case atStart => exact ⟨0, Nat.zero_le _, rfl, rfl⟩
  case round =>
    obtain ⟨k, hk, rfl, rfl⟩ := hrel
    by_cases hlt : k < l.length
    · obtain ⟨ad, x, rfl, HX, hcell⟩ := hr.at_ k (by omega)
      go_wp2
      go_round
      case rel =>
        refine ⟨k + 1, by omega, by go_num, ?_⟩
        rw [take_snoc l k 0 (by omega), gatherL_snoc, ← or_u8 (gatherL_lt (hb.take k)) (hb.getD k), HX.out]
      case measure => simp [intOf]; omega
    · go_wp2
      go_ret
      have hk2 : l.take k = l := List.take_of_length_le (by omega)
      exact ⟨by rw [hk2]; rfl, rfl⟩

theorem beq_nat (a b : Nat) : ((a : Int) == (b : Int)) = (a == b) := by
  rw [Bool.eq_iff_iff]; simp only [beq_iff_eq]; omega

theorem equal_post {a b : List Nat} (h : a.length = b.length) : ((gatherL (xorL a b) : Int) == 0) = (a == b) := by
  rw [show (0 : Int) = ((0 : Nat) : Int) from rfl, beq_nat, Bool.eq_iff_iff]
  simp only [beq_iff_eq]
  rw [gatherL_zero, xorL_self_zero h]

theorem equal_calls {A B : Option Addr} {na nb ca cb : Nat} {a b : List Nat} {w : World} (ha : Bytes w A na ca a) (hb : Bytes w B nb cb b) (hfit : na ≤ 140737488355328) :
    Calls Tryd.prog 92 #[.slice A na ca, .slice B nb cb] w fun e w' => e = .returned (.bool (a == b)) ∧ Below w.heap.size w w' := by
  have hla := hd ha.2.1
  have hlb := hd hb.2.1
  by_cases h : na = nb
  · have hq : ((na : Int) == (nb : Int)) = true := by simp [h]
    have H := hd h
    clear h
    go_enter Tryd.func92, Tryd.ntmps92
    go_wp2_with (first
      | (go_at_call 99; (with_reducible refine (xor_calls ha hb hfit).mono ?_); rintro e w1 ⟨v, rfl, ho, hb1⟩; obtain ⟨A1, c1, rfl, hr1⟩ := ho.bytes _ rfl (xorL_ok ha.ok hb.ok))
      | (go_at_call 106; (with_reducible refine (gather_calls hr1).mono ?_); rintro e w' ⟨rfl, rfl⟩))
    go_ret
    exact ⟨congrArg (fun b => Ending.returned (.bool b)) (equal_post (by rw [hla.out, hlb.out, H.out])), hb1⟩
  · have hq : ((na : Int) == (nb : Int)) = false := by simp; omega
    have H := hd h
    clear h
    go_enter Tryd.func92, Tryd.ntmps92
    go_wp2
    go_ret
    refine ⟨congrArg (fun b => Ending.returned (.bool b)) ?_, Below.refl _ _⟩
    symm
    rw [beq_eq_false_iff_ne]
    rintro rfl
    exact H.out (by rw [← hla.out, hlb.out])

end Go.Proofs.YtlgdplodglchaaaDoor
/- The walk through words.Join. -/
set_option linter.unusedVariables false
set_option linter.unusedSimpArgs false
namespace Go.Proofs.YtlgdplodglchaaaDoor
open Go.RowKit Go.Proofs.YtlgdplodglchaaaDoorW.PrintWords Go.Proofs.YtlgdplodglchaaaDoorW.PrintLast Go.Proofs.YtlgdplodglchaaaDoorW.PrintMore
attribute [local go_sem] max2_int min2_int max_two min_two max_three min_three
set_option maxHeartbeats 1000000 in
set_option maxRecDepth 100000 in
theorem join_calls {A : Option Addr} {n c : Nat} {L : List (List Nat)} {w : World} (hr : Rows2 w A L) (hn : L.length = n) (hc : n ≤ c) (hfit : L.flatten.length ≤ 140737488355328) :
    Calls Tryd.prog 66 #[.slice A n c] w fun e w' => ∃ v, e = .returned v ∧ Own w w' v L.flatten ∧ Below w.heap.size w w' := by
  subst hn
  have HC := hd hc
  have HF := hd hfit
  have hm := hr.1
  clear hc hfit
  go_enter Tryd.func66, Tryd.ntmps66
  go_wp2
  go_loopw [3, 8] (fun v i wr => ∃ k : Nat, k ≤ L.length ∧ i = .int .i64 k ∧ Own w wr v (L.take k).flatten ∧ Below w.heap.size w wr) (fun _ i _ => L.length - (intOf i).toNat)
  case atStart => exact ⟨0, Nat.zero_le _, rfl, OwnK.nil _ _ _ _, Below.refl _ _⟩
  case round =>
    obtain ⟨k, hk, rfl, ho, hb⟩ := hrel
    have HO := hd ho
    have HB := hd hb
    clear ho hb
    by_cases hlt : k < L.length
    · obtain ⟨ad, A', c', lk, rfl, HK, hcell, hc', hr'⟩ := (hr.below HB.out).at_ k hlt
      have hfl : (L.take (k + 1)).flatten = (L.take k).flatten ++ lk := by rw [take_snoc L k [] hlt, List.flatten_append, HK.out]; simp
      have hle : (L.take k).flatten.length + lk.length ≤ 140737488355328 := by
        rw [← List.length_append, ← hfl]
        refine Nat.le_trans ?_ HF.out
        conv => rhs; rw [← List.take_append_drop (k + 1) L, List.flatten_append, List.length_append]
        omega
      have HFL := hd hfl
      have HLE := hd hle
      have hs := HB.out.size
      clear hfl hle
      go_wp2_with (((with_reducible refine gate_dst (N := 14) rfl ?_); at_builtin; refine op_append_row (w0 := w) 14 rfl w.heap.size 5 40 _ _ rfl rfl Tryd.underlying40 Tryd.infoU8 (by decide) _ _ _ _ _ _ rfl rfl rfl HO.out hr' HB.out hs (by have := HLE.out; omega) ?_; intro v1 w1 ho1 hb1 hg1))
      go_roundw
      case rel =>
        refine ⟨k + 1, by omega, by go_num, ?_, by assumption⟩
        rw [HFL.out]
        assumption
      case measure => simp [intOf]; omega
    · go_wp2
      go_ret
      have h1 := HO.out
      rw [List.take_of_length_le (by omega)] at h1
      exact ⟨_, rfl, h1, HB.out⟩

end Go.Proofs.YtlgdplodglchaaaDoor
/- The walk through redanref01.Join. -/
set_option linter.unusedVariables false
set_option linter.unusedSimpArgs false
namespace Go.Proofs.YtlgdplodglchaaaDoor
open Go.RowKit Go.Proofs.YtlgdplodglchaaaDoorW.PrintWords Go.Proofs.YtlgdplodglchaaaDoorW.PrintLast Go.Proofs.YtlgdplodglchaaaDoorW.PrintMore
attribute [local go_sem] max2_int min2_int max_two min_two max_three min_three
set_option maxHeartbeats 400000 in
set_option maxRecDepth 100000 in
theorem refjoin_calls {A B : Option Addr} {na nb ca cb : Nat} {a b : List Nat} {w : World} (ha : Bytes w A na ca a) (hb : Bytes w B nb cb b) (hfit : na + nb ≤ 140737488355328) :
    Calls Tryd.prog 67 #[.slice A na ca, .slice B nb cb] w fun e w' => ∃ v, e = .returned v ∧ Own w w' v (a ++ b) ∧ Below w.heap.size w w' := by
  obtain ⟨hra, rfl, hca, hba⟩ := ha
  obtain ⟨hrb, rfl, hcb, hbb⟩ := hb
  have HCA := hd hca
  have HCB := hd hcb
  have HF := hd hfit
  clear hca hcb hfit
  go_enter Tryd.func67, Tryd.ntmps67
  go_wp2_with (first
    | ((with_reducible refine gate_dst (N := 8) rfl ?_); at_builtin; refine op_append_row (k := .u8) (w0 := w) 8 rfl w.heap.size 5 40 _ _ rfl rfl Tryd.underlying40 Tryd.infoU8 (by decide) _ [] a _ _ _ rfl rfl rfl (OwnK.nil _ _ _ _) hra (Below.refl _ _) (Nat.le_refl _) (by have := HF.out; simp; omega) ?_; intro v1 w1 ho1 hb1 hg1; rw [List.nil_append] at ho1)
    | ((with_reducible refine gate_dst (N := 11) rfl ?_); at_builtin; refine op_append_row (k := .u8) (w0 := w) 11 rfl w.heap.size 5 40 _ _ rfl rfl Tryd.underlying40 Tryd.infoU8 (by decide) _ a b _ _ _ rfl rfl rfl ho1 (hrb.below hb1) hb1 hb1.size (by have := HF.out; omega) ?_; intro v2 w2 ho2 hb2 hg2))
  go_ret
  exact ⟨_, rfl, ho2, hb2⟩
end Go.Proofs.YtlgdplodglchaaaDoor
