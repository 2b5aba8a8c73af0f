/- The walks where the buffer is none. -/
import Derived.Test.YtcmiajnndmaeiaaFragInv
set_option linter.unusedVariables false
set_option linter.unusedSimpArgs false
namespace Go.Proofs.Ytcmiajnndmaeiaa
open Go.RowKit Go.Proofs.YtcmiajnndmaeiaaW.PrintWords Go.Proofs.YtcmiajnndmaeiaaW.PrintLast Go.Proofs.YtcmiajnndmaeiaaW.PrintMore
set_option maxRecDepth 100000 in
theorem expire_none (now : Int) (w : World) : Calls Try.prog 18 #[.pointer none, .int .u64 now] w fun e w' => e = .returned (.tuple #[]) ∧ Below w.heap.size w w' := by
  have hal := below_alloc (below_alloc (Below.refl w.heap.size w) (.cells #[.pointer none] 33)) (.cells #[.int .u64 now] 35)
  go_enter Try.func18, Try.ntmps18
  go_wp2
  go_end0
  exact ⟨rfl, hal⟩
set_option maxRecDepth 100000 in
theorem drop_none (peer : ByteArray) (w : World) : Calls Try.prog 20 #[.pointer none, .string peer] w fun e w' => e = .returned (.tuple #[]) ∧ Below w.heap.size w w' := by
  have hal := below_alloc (Below.refl w.heap.size w) (.cells #[.string peer] 9)
  go_enter Try.func20, Try.ntmps20
  go_wp2
  go_end0
  exact ⟨rfl, hal⟩
set_option maxRecDepth 100000 in
theorem sum_none (f : Value) (w : World) : Calls Try.prog 41 #[.pointer none, f] w fun e w' => e = .returned (.int .i64 0) ∧ w = w' := by
  go_enter Try.func41, Try.ntmps41
  go_wp2
  go_ret
  exact ⟨rfl, rfl⟩
set_option maxRecDepth 100000 in
theorem total_none (w : World) : Calls Try.prog 16 #[.pointer none] w fun e w' => e = .returned (.int .i64 0) ∧ w = w' := by
  go_enter Try.func16, Try.ntmps16
  go_wp2_with fail
  refine (sum_none _ _).mono ?_
  rintro e w1 ⟨rfl, rfl⟩
  go_wp2
  go_ret
  exact ⟨rfl, rfl⟩
set_option maxRecDepth 100000 in
theorem held_none (peer : ByteArray) (w : World) : Calls Try.prog 22 #[.pointer none, .string peer] w fun e w' => e = .returned (.int .i64 0) ∧ Below w.heap.size w w' := by
  have hal := below_alloc (Below.refl w.heap.size w) (.cells #[.string peer] 9)
  go_enter Try.func22, Try.ntmps22
  go_wp2_with fail
  refine (sum_none _ _).mono ?_
  rintro e w1 ⟨rfl, rfl⟩
  go_wp2
  go_ret
  exact ⟨rfl, hal⟩
set_option maxRecDepth 100000 in
theorem count_none (w : World) : Calls Try.prog 13 #[.pointer none] w fun e w' => e = .returned (.int .i64 0) ∧ w = w' := by
  go_enter Try.func13, Try.ntmps13
  go_wp2
  go_ret
  exact ⟨rfl, rfl⟩
set_option maxHeartbeats 1000000 in
set_option maxRecDepth 100000 in
theorem add_none (peer : ByteArray) (msg part parts now : Int) (A : Option Addr) (n c : Nat) (w : World) : Calls Try.prog 12 #[.pointer none, .string peer, .int .i64 msg, .int .i64 part, .int .i64 parts, .slice A n c, .int .u64 now] w fun e w' => e = .returned (.tuple #[.slice none 0 0, .int .i64 1]) ∧ Below w.heap.size w w' := by
  have hal := below_alloc (below_alloc (Below.refl w.heap.size w) (.cells #[.string peer] 9)) (.cells #[.int .i64 msg] 3)
  go_enter Try.func12, Try.ntmps12
  go_wp2
  go_ret2
  exact ⟨rfl, hal⟩
section
variable {ops : Array Oper} {rest : List Oper} {o : Oper} {a : Act} {Q : Exit → Act → World → Prop} {Kc : Act → World → Prop}
theorem op_makeB_step {W : World} (N : Tmp) (hd : o.dst = some N) (x y : Operand) (ho : o.op = .makeSlice 22 x y) (hw : Region.wanted o (yielded ops a.tmps) = true) (m : Nat) (hx : a.eval x = .int .i64 (m : Int)) (hy : a.eval y = .int .i64 (m : Int)) (h64 : m ≤ 2000)
    (h : ∀ A c w1, OwnK .u8 5 W.heap.size w1 (.slice A m c) (List.replicate m 0) → Below W.heap.size W w1 → Kc (a.put o.dst (.slice A m c)) w1) :
    if Region.wanted o (yielded ops a.tmps) = true then Oper.wp Try.prog o a W Kc Q else Kc (a.put o.dst undef) W :=
  Kd.R_make_step (Kd.int .u8) (w0 := W) W.heap.size 5 hw hd 22 x y ho (m : Int) hx hy Try.underlying22 (.int .u8 0) 1 Try.infoU8 rfl (Nat.zero_lt_one) (by decide) 0 (okp := fun _ => True) (ok := fun _ => True) rfl (fun _ _ => trivial) trivial (by omega) (by rw [Int.toNat_natCast]; omega) (Below.refl _ _) (Nat.le_refl _) (fun v1 w1 hr hb _ _ => by
    rw [Int.toNat_natCast] at hr
    have h2 : OwnK .u8 5 W.heap.size w1 v1 (List.replicate m 0) := by
      unfold OwnK
      rw [show ints (List.replicate m 0) = List.replicate m (0 : Int) by simp [ints]]
      exact hr
    obtain ⟨A, c, rfl, _, _⟩ := h2.slice
    rw [List.length_replicate] at *
    exact h A c w1 h2 hb)
end
def names4 : Array Value := #[.string ⟨#[97]⟩, .string ⟨#[98]⟩, .string ⟨#[]⟩, .string ⟨#[97, 32, 98]⟩]
theorem names4_at {j : Nat} (h : j < 4) : ∃ nm : ByteArray, names4[j]? = some (.string nm) := by
  match j, h with
  | 0, _ => exact ⟨_, rfl⟩
  | 1, _ => exact ⟨_, rfl⟩
  | 2, _ => exact ⟨_, rfl⟩
  | 3, _ => exact ⟨_, rfl⟩
theorem and_mask_i64 (x : Int) (j : Nat) (hj : j < 63) : ∃ q : Nat, bits .and .i64 x (2 ^ j - 1 : Int) = q ∧ q < 2 ^ j := by
  have hp : (2 : Nat) ^ j < 2 ^ 63 := Nat.pow_lt_pow_right (by decide) hj
  have h0 := Nat.two_pow_pos j
  have hm : ((2 : Int) ^ j - 1) = ((2 ^ j - 1 : Nat) : Int) := by rw [Int.natCast_sub h0]; simp
  have hb : (IntKind.i64.bits) = 64 := rfl
  rw [hm]
  simp only [bits, BitVec.ofInt_natCast, BitVec.toNat_and, BitVec.toNat_ofNat, hb]
  have h1 : (2 ^ j - 1) % 2 ^ 64 = 2 ^ j - 1 := Nat.mod_eq_of_lt (by omega)
  rw [h1]
  have h2 : (BitVec.ofInt 64 x).toNat &&& (2 ^ j - 1) ≤ 2 ^ j - 1 := Nat.and_le_right
  refine ⟨(BitVec.ofInt 64 x).toNat &&& (2 ^ j - 1), ?_, by omega⟩
  exact IntWalk.i64_in _ (by have h3 : (BitVec.ofInt IntKind.i64.bits x).toNat &&& (2 ^ j - 1) ≤ 2 ^ j - 1 := Nat.and_le_right; omega)
/-- A slice of calls that came in. -/
def ActRow (w : World) (A : Option Addr) (n c : Nat) : Prop :=
  n ≤ c ∧ n ≤ 9223372036854775807 ∧ (0 < n → ∃ ad, A = some ad ∧ ∀ i, i < n → ∃ (bb oo : Nat) (k p m pa ps sz fl nw : Int), ad.add (i * 8) = ⟨bb, oo, none⟩ ∧
    w.cell? ⟨bb, oo, none⟩ = some (.int .i64 k) ∧ w.cell? ⟨bb, oo + 1, none⟩ = some (.int .i64 p) ∧ w.cell? ⟨bb, oo + 2, none⟩ = some (.int .i64 m) ∧ w.cell? ⟨bb, oo + 3, none⟩ = some (.int .i64 pa) ∧
    w.cell? ⟨bb, oo + 4, none⟩ = some (.int .i64 ps) ∧ w.cell? ⟨bb, oo + 5, none⟩ = some (.int .i64 sz) ∧ w.cell? ⟨bb, oo + 6, none⟩ = some (.int .u8 fl) ∧ w.cell? ⟨bb, oo + 7, none⟩ = some (.int .u64 nw) ∧
    -9223372036854775808 ≤ ps ∧ ps ≤ 9223372036854775807 ∧ 0 ≤ nw ∧ nw < 18446744073709551616 ∧ 0 ≤ fl ∧ fl < 256)
theorem ActRow.below {w w1 : World} {A : Option Addr} {n c : Nat} (h : ActRow w A n c) (hb : Below w.heap.size w w1) : ActRow w1 A n c :=
  ⟨h.1, h.2.1, fun hp => by
    obtain ⟨ad, e, hc⟩ := h.2.2 hp
    refine ⟨ad, e, fun i hi => ?_⟩
    obtain ⟨bb, oo, k, p, m, pa, ps, sz, fl, nw, hq, h0, h1, h2, h3, h4, h5, h6, h7, h8⟩ := hc i hi
    exact ⟨bb, oo, k, p, m, pa, ps, sz, fl, nw, hq, pw_cell_below hb h0, pw_cell_below hb h1, pw_cell_below hb h2, pw_cell_below hb h3, pw_cell_below hb h4, pw_cell_below hb h5, pw_cell_below hb h6, pw_cell_below hb h7, h8⟩⟩
theorem ActRow.nil (w : World) (A : Option Addr) (c : Nat) : ActRow w A 0 c := ⟨Nat.zero_le _, by decide, fun h => absurd h (by decide)⟩
end Go.Proofs.Ytcmiajnndmaeiaa
