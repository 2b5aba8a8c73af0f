/- The walks through words.Load and words.Store. -/
import Derived.Test.YtkkhdjdoifnoaaaProg
import Derived.Test.YtkkhdjdoifnoaaaLib
set_option linter.unusedVariables false
set_option linter.unusedSimpArgs false
namespace Go.Proofs.Ytkkhdjdoifnoaaa
open Go.RowKit Go.Proofs.YtkkhdjdoifnoaaaW.PrintWords Go.Proofs.YtkkhdjdoifnoaaaW.PrintLast Go.Proofs.YtkkhdjdoifnoaaaW.PrintMore
attribute [local go_sem] max2_int min2_int max_two min_two max_three min_three

theorem Try.infoU8 : (Try.prog.info? 5).map (fun i => (i.zero, i.size, i.bytes)) = some (some (.int .u8 0), 1, 1) := by kernel_rfl
/-- Bytes that the call made, over the world in which it began. -/
abbrev Own (w0 w : World) (v : Value) (l : List Nat) : Prop := OwnK .u8 5 w0.heap.size w v l

set_option maxHeartbeats 1000000 in
set_option maxRecDepth 100000 in
theorem load_calls {A : Option Addr} {n c : Nat} {l : List Nat} {w : World} (h : Bytes w A n c l) :
    Calls Try.prog 13 #[.slice A n c] w fun e w' => e = .returned (.int .u64 (loadN (l.take 8) : Nat)) ∧ w = w' := by
  obtain ⟨hr, rfl, hc, hb⟩ := h
  have HC := hd hc
  have hm := hr.max
  clear hc
  obtain ⟨m, hm2⟩ : ∃ m : Nat, m = min l.length 8 := ⟨_, rfl⟩
  have hm3 : (if 8 < (l.length : Int) then 8 else (l.length : Int)) = (m : Int) := by split <;> omega
  have hm4 : m ≤ l.length := by omega
  have hm5 : m ≤ 8 := by omega
  have hm6 : l.take m = l.take 8 := by
    rcases Nat.le_total l.length 8 with h | h
    · rw [List.take_of_length_le (by omega), List.take_of_length_le h]
    · rw [show m = 8 by omega]
  have HM := hd hm6
  clear hm2 hm6
  go_enter Try.func13, Try.ntmps13
  go_wp2
  clear hm3
  go_loop [3, 8] (fun x i => ∃ k : Nat, k ≤ m ∧ i = .int .i64 k ∧ x = .int .u64 (loadN (l.take k) : Nat)) (fun _ i => m - (intOf i).toNat)
  case atStart => exact ⟨0, Nat.zero_le _, rfl, rfl⟩
  case round =>
    obtain ⟨k, hk, rfl, rfl⟩ := hrel
    by_cases hlt : k < m
    · obtain ⟨ad, x, rfl, HX, hcell⟩ := hr.at_ k (by omega)
      go_wp2
      go_round
      case rel =>
        refine ⟨k + 1, by omega, by go_num, ?_⟩
        have h1 := or_byte (k := k) (a := loadN (l.take k)) (b := x) (by omega) (by have := loadN_lt (hb.take k); rwa [List.length_take, Nat.min_eq_left (by omega)] at this) (by have := hb.getD k; rwa [HX.out] at this)
        rw [take_snoc l k 0 (by omega), loadN_snoc, HX.out, List.length_take, Nat.min_eq_left (by omega), ← h1]
      case measure => simp [intOf]; omega
    · go_wp2
      go_ret
      obtain rfl : k = m := by omega
      exact ⟨by rw [← HM.out]; rfl, rfl⟩

/-- The row that Store fills. -/
theorem store_step (x m k : Nat) (hk : k < m) : (storeN x k ++ List.replicate (m - k) 0).set k (x / 256 ^ k % 256) = storeN x (k + 1) ++ List.replicate (m - (k + 1)) 0 := by
  rw [List.set_append_right _ _ (by rw [storeN_length]; omega), storeN_length, Nat.sub_self, show m - k = (m - (k + 1)) + 1 by omega, List.replicate_succ, List.set_cons_zero, storeN_snoc, List.append_assoc]
  rfl

theorem shr_byte {x k : Nat} (hk : k < 8) : ((x : Int) / 2 ^ (8 * k) % 256) = ((x / 256 ^ k % 256 : Nat) : Int) := by
  have hp : (256 : Nat) ^ k = 2 ^ (8 * k) := by rw [Nat.pow_mul]
  rw [hp]; simp

set_option maxHeartbeats 1000000 in
set_option maxRecDepth 100000 in
theorem store_calls {xi : Int} (x : Nat) (n : Int) (w : World) (hxi : xi = (x : Int)) (hx : x < 2 ^ 64) :
    Calls Try.prog 17 #[.int .u64 xi, .int .i64 n] w fun e w' => ∃ v, e = .returned v ∧ Own w w' v (storeN x (min n.toNat 8)) ∧ Below w.heap.size w w' := by
  subst hxi
  obtain ⟨n2, hn2⟩ : ∃ n2 : Nat, n2 = n.toNat := ⟨_, rfl⟩
  rw [← hn2]
  obtain ⟨m, hm2⟩ : ∃ m : Nat, m = min n2 8 := ⟨_, rfl⟩
  rw [← hm2]
  have hn3 : (if n < 0 then 0 else n) = (n2 : Int) := by split <;> omega
  have hm3 : (if 8 < (n2 : Int) then 8 else (n2 : Int)) = (m : Int) := by split <;> omega
  have hm5 : m ≤ 8 := by omega
  have HX := hd hx
  clear hm2 hn2 hx
  go_enter Try.func17, Try.ntmps17
  go_wp2_with (((with_reducible refine gate_dst (N := 10) rfl ?_); refine op_make 10 rfl 5 22 _ _ rfl rfl (m : Int) rfl rfl Try.underlying22 Try.infoU8 (by decide) m rfl (by omega) ?_; intro A1 c1 w1 hc1 ho hb))
  clear hm3 hn3
  have HO := hd ho
  have HB := hd hb
  clear ho hb
  go_loopw [13] (fun i wr => ∃ k : Nat, k ≤ m ∧ i = .int .i64 k ∧ Own w wr (.slice A1 m c1) (storeN x k ++ List.replicate (m - k) 0) ∧ Below w.heap.size w wr) (fun i _ => m - (intOf i).toNat)
  case atStart => exact ⟨0, Nat.zero_le _, rfl, HO.out, HB.out⟩
  case round =>
    obtain ⟨k, hk, rfl, ho, hb⟩ := hrel
    have HO := hd ho
    have HB := hd hb
    clear ho hb
    by_cases hlt : k < m
    · obtain ⟨g, rfl, hg, hg2⟩ := HO.out.at_ (by omega)
      obtain ⟨hcell, hfr⟩ := HO.out.cell k hlt
      have HP := hd (HO.out.put k (x / 256 ^ k % 256))
      go_wp2
      go_roundw
      case rel =>
        refine ⟨k + 1, by omega, by go_num, ?_, HB.out.setCell hg _⟩
        rw [← store_step x m k hlt, shr_byte (by omega)]
        exact HP.out
      case measure => simp [intOf]; omega
    · go_wp2
      go_ret
      obtain rfl : k = m := by omega
      have h1 := HO.out
      rw [Nat.sub_self, List.replicate_zero, List.append_nil] at h1
      exact ⟨_, rfl, h1, HB.out⟩

/-- A slice of the call's own, in a block from base on, whatever its bytes. -/
def MineB (base : Nat) (wr : World) (A : Option Addr) (n c : Nat) : Prop := ∃ l, l.length = n ∧ OwnK .u8 5 base wr (.slice A n c) l ∧ BytesOK l
abbrev Mine (W : World) := MineB W.heap.size
theorem MineB.at_ {base : Nat} {wr : World} {A : Option Addr} {n c k : Nat} (h : MineB base wr A n c) (hk : k < n) :
    ∃ g y, A = some ⟨g, 0, none⟩ ∧ base ≤ g ∧ wr.cell? ⟨g, k, none⟩ = some (.int .u8 ((y : Nat) : Int)) ∧ wr.frozen? ⟨g, k, none⟩ = false ∧ y < 256 ∧ ∀ z : Nat, z < 256 → MineB base (wr.setCell ⟨g, k, none⟩ (.int .u8 (z : Int))) A n c := by
  obtain ⟨l, hl, ho, hb⟩ := h
  obtain ⟨g, rfl, hg, _⟩ := ho.at_ (by omega)
  obtain ⟨y, HY, h1, h2⟩ := ho.cellx k hk
  exact ⟨g, y, rfl, hg, h1, h2, by rw [← HY.out]; exact hb.getD k, fun z hz => ⟨l.set k z, by simpa using hl, ho.put k z, hb.set hz k⟩⟩
theorem MineB.below {base : Nat} {w w1 : World} {A : Option Addr} {n c : Nat} (h : MineB base w A n c) (hb : Below w.heap.size w w1) : MineB base w1 A n c := by
  obtain ⟨l, h1, h2, h3⟩ := h
  exact ⟨l, h1, h2.below hb, h3⟩
theorem MineB.drew {base : Nat} {w : World} {A : Option Addr} {n c : Nat} (h : MineB base w A n c) : MineB base w.drew A n c := h.below (below_drew (Below.refl _ _))
theorem MineB.far {base : Nat} {w : World} {A : Option Addr} {n c : Nat} (h : MineB base w A n c) {p : Addr} (hp : p.block < base) (u : Value) : MineB base (w.setCell p u) A n c := by
  obtain ⟨l, h1, h2, h3⟩ := h
  exact ⟨l, h1, h2.step (fun g hg _ => Below.heap_setCell w p u g (by omega)), h3⟩
theorem MineB.of {base : Nat} {w : World} {A : Option Addr} {n c : Nat} {l : List Nat} (ho : OwnK .u8 5 base w (.slice A n c) l) (hb : BytesOK l) : MineB base w A n c := ⟨l, ho.row.1.symm, ho, hb⟩
end Go.Proofs.Ytkkhdjdoifnoaaa
