/- Plain laws of the stream: nothing of the program. -/
import Derived.Test.YtgmaahpnpjfghaaDoorChaPlain
set_option linter.unusedVariables false
namespace Go.Proofs.YtgmaahpnpjfghaaDoor

/-- Bytes with the blocks' bytes laid over them. -/
def stream (key : List Nat) (c : Nat) (nonce : List Nat) (b : List Nat) : List Nat := b.mapIdx fun i x => x ^^^ (blockN key ((c + i / 64) % 2 ^ 32) nonce).getD (i % 64) 0
theorem stream_length (key : List Nat) (c : Nat) (nonce : List Nat) (b : List Nat) : (stream key c nonce b).length = b.length := by simp [stream]
theorem stream_nil (key : List Nat) (c : Nat) (nonce : List Nat) : stream key c nonce [] = [] := rfl
theorem stream_append (key : List Nat) (c k : Nat) (nonce : List Nat) (b d : List Nat) (hk : b.length = 64 * k) : stream key c nonce (b ++ d) = stream key c nonce b ++ stream key ((c + k) % 2 ^ 32) nonce d := by
  unfold stream
  rw [List.mapIdx_append, hk]
  have e : (fun (i : Nat) (x : Nat) => x ^^^ (blockN key ((c + (i + 64 * k) / 64) % 2 ^ 32) nonce).getD ((i + 64 * k) % 64) 0) = fun i x => x ^^^ (blockN key (((c + k) % 2 ^ 32 + i / 64) % 2 ^ 32) nonce).getD (i % 64) 0 := by
    funext i x
    rw [show (i + 64 * k) / 64 = k + i / 64 by omega, show (i + 64 * k) % 64 = i % 64 by omega, show (c + (k + i / 64)) % 2 ^ 32 = ((c + k) % 2 ^ 32 + i / 64) % 2 ^ 32 by omega]
  rw [e]
theorem stream_short (key : List Nat) (c : Nat) (nonce : List Nat) (d : List Nat) (hd : d.length ≤ 64) (hc : c < 2 ^ 32) : stream key c nonce d = xorL d (blockN key c nonce) := by
  have hl := blockN_length key c nonce
  apply List.ext_getElem
  · rw [stream_length, xorL_length, hl]; omega
  · intro i h1 h2
    rw [stream_length] at h1
    simp only [stream, xorL, List.getElem_mapIdx, List.getElem_zipWith]
    rw [show i / 64 = 0 by omega, show i % 64 = i by omega, Nat.add_zero, Nat.mod_eq_of_lt hc, List.getD_eq_getElem?_getD, List.getElem?_eq_getElem (by omega), Option.getD_some]
theorem stream_chunk (key : List Nat) (c k n : Nat) (nonce : List Nat) (b : List Nat) (hk : 64 * k ≤ b.length) (hn : n ≤ 64) : stream key c nonce (b.take (64 * k + n)) = stream key c nonce (b.take (64 * k)) ++ xorL ((b.drop (64 * k)).take n) (blockN key ((c + k) % 2 ^ 32) nonce) := by
  rw [List.take_add, stream_append key c k nonce _ _ (by rw [List.length_take]; omega), stream_short _ _ _ _ (by rw [List.length_take]; omega) (Nat.mod_lt _ (by decide))]
theorem stream_ok (key : List Nat) (c : Nat) (nonce : List Nat) {b : List Nat} (hb : BytesOK b) : BytesOK (stream key c nonce b) := by
  intro x hx
  obtain ⟨i, hi, rfl⟩ := List.mem_mapIdx.1 hx
  have h1 := hb _ (List.getElem_mem hi)
  have h2 := (blockN_ok key ((c + i / 64) % 2 ^ 32) nonce).getD (i % 64)
  exact Nat.xor_lt_two_pow (n := 8) h1 h2
/-- Laid over twice they are what they were. -/
theorem stream_twice (key : List Nat) (c : Nat) (nonce : List Nat) (b : List Nat) : stream key c nonce (stream key c nonce b) = b := by
  apply List.ext_getElem
  · rw [stream_length, stream_length]
  · intro i h1 h2
    simp only [stream, List.getElem_mapIdx]
    rw [Nat.xor_assoc, Nat.xor_self, Nat.xor_zero]
end Go.Proofs.YtgmaahpnpjfghaaDoor
