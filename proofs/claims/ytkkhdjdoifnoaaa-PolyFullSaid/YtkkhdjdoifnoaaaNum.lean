/- Plain laws on numbers: masks and counters. Nothing of the program. -/
import Derived.Test.YtkkhdjdoifnoaaaPlain
import Derived.Test.YtkkhdjdoifnoaaaArr
import Derived.IntWalk
set_option linter.unusedVariables false
namespace Go.Proofs.Ytkkhdjdoifnoaaa

theorem and_mask (x : Int) (m : Nat) (hm : m < 2 ^ 63) : ∃ n : Nat, bits .and .i64 x (m : Int) = (n : Int) ∧ n ≤ m := by
  have e : bits .and .i64 x (m : Int) = IntKind.i64.wrap (((BitVec.ofInt 64 x &&& BitVec.ofInt 64 (m : Int)).toNat : Nat) : Int) := rfl
  have h2 : (BitVec.ofInt 64 (m : Int)).toNat = m := by
    rw [BitVec.toNat_ofInt]
    omega
  have h1 : (BitVec.ofInt 64 x &&& BitVec.ofInt 64 (m : Int)).toNat ≤ m := by
    rw [BitVec.toNat_and, h2]
    exact Nat.and_le_right
  generalize (BitVec.ofInt 64 x &&& BitVec.ofInt 64 (m : Int)).toNat = n at e h1
  refine ⟨n, ?_, h1⟩
  rw [e, IntKind.wrap_i64]
  omega
theorem wrap_u32_nat (z : Int) : ∃ c : Nat, IntKind.u32.wrap z = (c : Int) ∧ c < 2 ^ 32 := by
  rw [IntKind.wrap_u32]
  exact ⟨(z % 4294967296).toNat, by omega, by omega⟩
theorem mod32_nat (z : Int) : ∃ c : Nat, z % 4294967296 = (c : Int) ∧ c < 2 ^ 32 := ⟨(z % 4294967296).toNat, by omega, by omega⟩
theorem wrap_u32_small (n : Nat) (h : n < 2 ^ 32) : IntKind.u32.wrap (n : Int) = (n : Int) := wrapN_u (k := .u32) rfl h
theorem wrap_u64_small (n : Nat) (h : n < 2 ^ 64) : IntKind.u64.wrap (n : Int) = (n : Int) := wrapN_u (k := .u64) rfl h
theorem wrap64_small (p : Nat) (h : p ≤ 1000000000) : Go.RowKit.wrap64 (p : Int) = (p : Int) := Go.IntWalk.wrap64_in _ ⟨by omega, by omega⟩
theorem wrap_u32_add (x y : Nat) : IntKind.u32.wrap ((x : Int) + (y : Int)) = (((x + y) % 2 ^ 32 : Nat) : Int) := by
  rw [← Int.natCast_add]
  exact wrapM_u (k := .u32) rfl (x + y)
theorem wrap_u64_sum (x y : Nat) (h : x + y < 18446744073709551616) : IntKind.u64.wrap ((x : Int) + (y : Int)) = ((x + y : Nat) : Int) := by
  rw [← Int.natCast_add]
  exact wrapN_u (k := .u64) rfl h
theorem wrap_u64_add (x y : Nat) : IntKind.u64.wrap ((x : Int) + (y : Int)) = (((x + y) % 18446744073709551616 : Nat) : Int) := by
  rw [← Int.natCast_add]
  exact wrapM_u (k := .u64) rfl (x + y)
theorem Bytes.ofArr {T g n : Nat} {w : World} {l : List Nat} (h : Arr .u8 T g w l) (hl : l.length = n) (hb : BytesOK l) (hm : n ≤ 1000) : Bytes w (some ⟨g, 0, none⟩) n n l := ⟨h.row (by omega), hl, Nat.le_refl _, hb⟩
end Go.Proofs.Ytkkhdjdoifnoaaa
