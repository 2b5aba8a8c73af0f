/- A byte alone, with the factor 1: plain. -/
import Derived.Test.YtkkhdjdoifnoaaaPolOpenP
set_option linter.unusedVariables false
namespace Go.Proofs.Ytkkhdjdoifnoaaa
def shortL (s : Nat) : Nat → List Nat
  | 0 => (List.replicate 32 0).set 0 1
  | k + 1 => (shortL s k).set (16 + k) (s / 256 ^ k % 256)
theorem shortL_length (s k : Nat) : (shortL s k).length = 32 := by
  induction k with
  | zero => rfl
  | succ k ih => rw [shortL, List.length_set, ih]
theorem shortL_ok (s k : Nat) : BytesOK (shortL s k) := by
  induction k with
  | zero =>
    intro x hx
    rcases List.mem_or_eq_of_mem_set hx with h | rfl
    · rw [(List.mem_replicate.1 h).2]; decide
    · decide
  | succ k ih =>
    intro x hx
    rcases List.mem_or_eq_of_mem_set hx with h | rfl
    · exact ih x h
    · exact Nat.mod_lt _ (by decide)
theorem shortL_take (s k : Nat) : (shortL s k).take 16 = (shortL s 0).take 16 := by
  induction k with
  | zero => rfl
  | succ k ih =>
    show ((shortL s k).set (16 + k) (s / 256 ^ k % 256)).take 16 = _
    rw [List.take_set_of_le (by omega), ih]
theorem shortL_drop (s : Nat) : ∀ k, k ≤ 16 → (shortL s k).drop 16 = storeN s k ++ List.replicate (16 - k) 0
  | 0, _ => rfl
  | k + 1, h => by
    have ih := shortL_drop s k (by omega)
    rw [shortL, List.drop_set, if_neg (by omega), ih, show 16 + k - 16 = k by omega]
    rw [List.set_append_right _ _ (by rw [storeN_length]; exact Nat.le_refl _), storeN_length, Nat.sub_self, storeN_snoc, List.append_assoc, show 16 - k = (16 - (k + 1)) + 1 by omega, List.replicate_succ]
    rfl
theorem short_one : loadN ((((List.replicate 32 0).set 0 1).take 16).mapIdx clampB) = 1 := by kernel_rfl
theorem lessN_small {x : Nat} (h : x < 2 ^ 130) : lessN x = x := by
  unfold lessN
  omega
theorem short_mac (s c : Nat) (hc : c < 256) : macL (shortL s 7) [c] = storeN (s % 72057594037927936 + c + 256) 16 := by
  have h1 : rN (shortL s 7) = 1 := by
    unfold rN clampL
    rw [shortL_take]
    exact short_one
  have h2 : sN (shortL s 7) = s % 72057594037927936 := by
    unfold sN
    rw [shortL_drop s 7 (by decide), List.take_of_length_le (by rw [List.length_append, storeN_length, List.length_replicate]; decide), loadN_append, loadN_zeros, Nat.mul_zero, Nat.add_zero, loadN_storeN]
  have h3 : chunkN [c] 0 = c + 256 := by
    unfold chunkN
    simp [loadN]
  unfold macL
  rw [h1, h2, show (([c] : List Nat).length + 15) / 16 = 1 by simp, accC, accC, h3, Nat.zero_add, Nat.mul_one, lessN_small (x := c + 256) (by omega), lessN_small (x := c + 256) (by omega)]
  unfold polyP
  congr 1
  omega
theorem short_load (s c k : Nat) (hk : k < 16) : loadN ((macL (shortL s 7) [c]).take (k + 1)) = loadN ((macL (shortL s 7) [c]).take k) + (macL (shortL s 7) [c]).getD k 0 * 256 ^ k := by
  rw [take_snoc _ k 0 (by rw [macL_length]; exact hk), loadN_snoc, List.length_take, macL_length, Nat.min_eq_left (by omega)]
theorem short_lt (s c k : Nat) : loadN ((macL (shortL s 7) [c]).take k) < 256 ^ k := loadN_take_lt (macL_ok _ _) k
theorem short_end (s c : Nat) (hc : c < 256) : loadN ((macL (shortL s 7) [c]).take 8) = s % 72057594037927936 + c + 256 := by
  rw [short_mac s c hc, show (16 : Nat) = 8 + 8 from rfl, storeN_add, List.take_append_of_le_length (by rw [storeN_length]; exact Nat.le_refl _), List.take_of_length_le (by rw [storeN_length]; exact Nat.le_refl _), loadN_storeN]
  omega
end Go.Proofs.Ytkkhdjdoifnoaaa
