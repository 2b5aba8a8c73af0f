/- The contracts of Block and Stream for keys and nonces of any length. -/
import Derived.Test.YtlgdplodglchaaaDoorChaStm
import Derived.Test.YtlgdplodglchaaaDoorChaRst
set_option linter.unusedVariables false
namespace Go.Proofs.YtlgdplodglchaaaDoor
open Go.RowKit Go.Proofs.YtlgdplodglchaaaDoorW.PrintWords Go.Proofs.YtlgdplodglchaaaDoorW.PrintLast Go.Proofs.YtlgdplodglchaaaDoorW.PrintMore

def blockL (key : List Nat) (c : Nat) (nonce : List Nat) : List Nat := if key.length = 32 ∧ nonce.length = 12 then blockN key c nonce else []
def streamL (key : List Nat) (c : Nat) (nonce b : List Nat) : List Nat := if key.length = 32 ∧ nonce.length = 12 then stream key c nonce b else []
theorem blockL_ok (key : List Nat) (c : Nat) (nonce : List Nat) : BytesOK (blockL key c nonce) := by
  unfold blockL
  split
  · exact blockN_ok _ _ _
  · exact BytesOK.nil
theorem streamL_ok (key : List Nat) (c : Nat) (nonce : List Nat) {b : List Nat} (hb : BytesOK b) : BytesOK (streamL key c nonce b) := by
  unfold streamL
  split
  · exact stream_ok _ _ _ hb
  · exact BytesOK.nil
theorem block_any {A B : Option Addr} {na nb ca cb : Nat} {key nonce : List Nat} {ci : Int} (c : Nat) {w : World} (hk : Bytes w A na ca key) (hn : Bytes w B nb cb nonce) (hci : ci = (c : Int)) (hc : c < 2 ^ 32) (hpl : PlacesAt w) :
    Calls Tryd.prog 100 #[.slice A na ca, .int .u32 ci, .slice B nb cb] w fun e w' => ∃ v, e = .returned v ∧ OwnK .u8 5 w.heap.size w' v (blockL key c nonce) ∧ Below w.heap.size w w' := by
  by_cases h : na = 32 ∧ nb = 12
  · obtain ⟨rfl, rfl⟩ := h
    rw [blockL, if_pos ⟨hk.2.1, hn.2.1⟩]
    exact block_calls c hk hn hci hc hpl
  · refine (block_none w (by omega)).mono ?_
    rintro e w' ⟨rfl, rfl⟩
    rw [blockL, if_neg (by rw [hk.2.1, hn.2.1]; exact h)]
    exact ⟨_, rfl, OwnK.nil _ _ _ _, Below.refl _ _⟩
theorem refblock_any {A B : Option Addr} {na nb ca cb : Nat} {key nonce : List Nat} {ci : Int} (c : Nat) {w : World} (hk : Bytes w A na ca key) (hn : Bytes w B nb cb nonce) (hci : ci = (c : Int)) (hc : c < 2 ^ 32) :
    Calls Tryd.prog 103 #[.slice A na ca, .int .u64 ci, .slice B nb cb] w fun e w' => ∃ v, e = .returned v ∧ OwnK .u8 5 w.heap.size w' v (blockL key c nonce) ∧ Below w.heap.size w w' := by
  by_cases h : na = 32 ∧ nb = 12
  · obtain ⟨rfl, rfl⟩ := h
    rw [blockL, if_pos ⟨hk.2.1, hn.2.1⟩]
    have h1 := refblock_calls c hk hn hci (Nat.lt_trans hc (by decide))
    rw [Nat.mod_eq_of_lt hc] at h1
    exact h1
  · refine (refblock_none w (by omega)).mono ?_
    rintro e w' ⟨rfl, rfl⟩
    rw [blockL, if_neg (by rw [hk.2.1, hn.2.1]; exact h)]
    exact ⟨_, rfl, OwnK.nil _ _ _ _, Below.refl _ _⟩
theorem stream_any {A B D : Option Addr} {na nb nd ca cb cd : Nat} {key nonce b : List Nat} {ci : Int} (c : Nat) {w : World} (hk : Bytes w A na ca key) (hn : Bytes w B nb cb nonce) (hb : Bytes w D nd cd b) (hci : ci = (c : Int)) (hc : c < 2 ^ 32) (hpl : PlacesAt w) (hfit : nd ≤ 1000000000) :
    Calls Tryd.prog 86 #[.slice A na ca, .int .u32 ci, .slice B nb cb, .slice D nd cd] w fun e w' => ∃ v, e = .returned v ∧ OwnK .u8 5 w.heap.size w' v (streamL key c nonce b) ∧ Below w.heap.size w w' := by
  by_cases h : na = 32 ∧ nb = 12
  · obtain ⟨rfl, rfl⟩ := h
    rw [streamL, if_pos ⟨hk.2.1, hn.2.1⟩]
    exact stream_calls c hk hn hb hci hc hpl hfit
  · refine (stream_none w (by omega)).mono ?_
    rintro e w' ⟨rfl, rfl⟩
    rw [streamL, if_neg (by rw [hk.2.1, hn.2.1]; exact h)]
    exact ⟨_, rfl, OwnK.nil _ _ _ _, Below.refl _ _⟩
theorem refstream_any {A B D : Option Addr} {na nb nd ca cb cd : Nat} {key nonce b : List Nat} {ci : Int} (c : Nat) {w : World} (hk : Bytes w A na ca key) (hn : Bytes w B nb cb nonce) (hb : Bytes w D nd cd b) (hci : ci = (c : Int)) (hc : c < 2 ^ 32) (hfit : nd ≤ 1000000000) :
    Calls Tryd.prog 89 #[.slice A na ca, .int .u64 ci, .slice B nb cb, .slice D nd cd] w fun e w' => ∃ v, e = .returned v ∧ OwnK .u8 5 w.heap.size w' v (streamL key c nonce b) ∧ Below w.heap.size w w' := by
  by_cases h : na = 32 ∧ nb = 12
  · obtain ⟨rfl, rfl⟩ := h
    rw [streamL, if_pos ⟨hk.2.1, hn.2.1⟩]
    exact refstream_calls c hk hn hb hci hc hfit
  · refine (refstream_none w (by omega)).mono ?_
    rintro e w' ⟨rfl, rfl⟩
    rw [streamL, if_neg (by rw [hk.2.1, hn.2.1]; exact h)]
    exact ⟨_, rfl, OwnK.nil _ _ _ _, Below.refl _ _⟩
end Go.Proofs.YtlgdplodglchaaaDoor
