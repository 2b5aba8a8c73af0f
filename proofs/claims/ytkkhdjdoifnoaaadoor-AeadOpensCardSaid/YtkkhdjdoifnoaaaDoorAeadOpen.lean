/- The walk through aead.Open; Seal and Open for keys and nonces of any length. -/
import Derived.Test.YtkkhdjdoifnoaaaDoorAeadSeal
import Derived.Test.YtkkhdjdoifnoaaaDoorGWords
set_option linter.unusedVariables false
set_option linter.unusedSimpArgs false
namespace Go.Proofs.YtkkhdjdoifnoaaaDoor
open Go.RowKit Go.Proofs.YtkkhdjdoifnoaaaDoorW.PrintWords Go.Proofs.YtkkhdjdoifnoaaaDoorW.PrintLast Go.Proofs.YtkkhdjdoifnoaaaDoorW.PrintMore
attribute [local go_sem] max2_int min2_int max_two min_two max_three min_three
/-- What is opened, and the error's number. -/
def openN (key nonce ad box : List Nat) : List Nat × Nat :=
  if box.length < 16 then ([], 13) else if tagN key nonce ad (box.take (box.length - 16)) = box.drop (box.length - 16) then (boxN key nonce (box.take (box.length - 16)), 0) else ([], 10)
theorem boxN_ok (key nonce : List Nat) {text : List Nat} (h : BytesOK text) : BytesOK (boxN key nonce text) := stream_ok _ _ _ h
theorem openN_ok (key nonce ad : List Nat) {box : List Nat} (h : BytesOK box) : BytesOK (openN key nonce ad box).1 := by
  unfold openN
  split
  · exact BytesOK.nil
  · split
    · exact boxN_ok _ _ (h.take _)
    · exact BytesOK.nil
theorem openN_le (key nonce ad box : List Nat) : (openN key nonce ad box).1.length ≤ box.length := by
  unfold openN
  split
  · exact Nat.zero_le _
  · split
    · rw [boxN_length, List.length_take]; omega
    · exact Nat.zero_le _
set_option maxRecDepth 100000 in
theorem open_none {A B C D : Option Addr} {na nb ca cb nc cc nd cd : Nat} {box : List Nat} (w : World) (hb : Bytes w D nd cd box) (hnd : nd ≤ 100000000) (h : na ≠ 32 ∨ nb ≠ 12) :
    Calls Tryd.prog 13 #[.slice A na ca, .slice B nb cb, .slice C nc cc, .slice D nd cd] w fun e w' => e = .returned (.tuple #[.slice none 0 0, .int .i64 1]) ∧ w = w' := by
  have H := hd h
  have hc := hb.2.2.1
  have i1 : (nd : Int) ≤ 100000000 := by omega
  have i2 : (nd : Int) ≤ cd := by omega
  clear h hb
  rcases Nat.lt_or_ge nd 16 with h16 | h16
  · have i0 : (nd : Int) < 16 := by omega
    go_enter Tryd.func13, Tryd.ntmps13
    go_wp2_with fail
    refine (tag_none w H.out).mono ?_
    rintro e w' ⟨rfl, rfl⟩
    go_wp2
    go_ret2
    exact ⟨rfl, rfl⟩
  · obtain ⟨m, rfl⟩ : ∃ m, nd = m + 16 := ⟨nd - 16, by omega⟩
    go_enter Tryd.func13, Tryd.ntmps13
    go_wp2_with fail
    refine (tag_none w H.out).mono ?_
    rintro e w' ⟨rfl, rfl⟩
    go_wp2
    go_ret2
    exact ⟨rfl, rfl⟩
set_option maxHeartbeats 1000000 in
set_option maxRecDepth 100000 in
theorem open_calls {A B C D : Option Addr} {ca cb nc cc nd cd : Nat} {key nonce ad box : List Nat} {w : World} (hk : Bytes w A 32 ca key) (hn : Bytes w B 12 cb nonce) (ha : Bytes w C nc cc ad) (hb : Bytes w D nd cd box) (hpl : PlacesAt w) (hna : nc ≤ 100000000) (hnd : nd ≤ 100000000) :
    Calls Tryd.prog 13 #[.slice A 32 ca, .slice B 12 cb, .slice C nc cc, .slice D nd cd] w fun e w' => ∃ v, e = .returned (.tuple #[v, .int .i64 ((openN key nonce ad box).2 : Nat)]) ∧ OwnK .u8 5 w.heap.size w' v (openN key nonce ad box).1 ∧ Below w.heap.size w w' := by
  have hc := hb.2.2.1
  have i1 : (nd : Int) ≤ 100000000 := by omega
  have i2 : (nd : Int) ≤ cd := by omega
  rcases Nat.lt_or_ge nd 16 with h16 | h16
  · rw [openN, if_pos (by rw [hb.2.1]; exact h16)]
    have i0 : (nd : Int) < 16 := by omega
    have hb0 := hb.take 0 (Nat.zero_le _)
    rw [List.take_zero] at hb0
    clear hb
    go_enter Tryd.func13, Tryd.ntmps13
    go_wp2_with fail
    refine (tag_calls hk hn ha hb0 hpl hna (by decide)).mono ?_
    rintro e w1 ⟨v1, rfl, ho1, hb1⟩
    go_wp2
    go_ret2
    exact ⟨_, rfl, OwnK.nil _ _ _ _, hb1⟩
  · obtain ⟨m, hm⟩ : ∃ m, nd = m + 16 := ⟨nd - 16, by omega⟩
    have hlen := hb.2.1
    have hsub : box.length - 16 = m := by omega
    have e1 : (nd : Int) - 16 = (m : Int) := by omega
    have e2 : nd - m = 16 := by omega
    have j0 : (m : Int) ≤ nd := by omega
    have j1 : (m : Int) ≤ cd := by omega
    rw [openN, if_neg (by omega), hsub]
    obtain ⟨ad0, x0, rfl, _, hcell0⟩ := hb.1.at_ 0 (by omega)
    have ht := hb.take m (by omega)
    have hdr := hb.drop m (by omega)
    rw [if_neg (by omega), e2] at hdr
    have hdr' : Bytes w (some (ad0.add m)) 16 (cd - m) (box.drop m) := hdr
    have HL := hd hlen
    have HDR := hd hdr'
    have hne : (cd = m) = False := by simp; omega
    have hmn : m ≤ 100000000 := by omega
    clear hb hdr hdr' hlen hsub hcell0 hm
    by_cases hq : tagN key nonce ad (box.take m) = box.drop m
    · rw [if_pos hq]
      have HQ := hd (beq_iff_eq.2 hq)
      clear hq
      go_enter Tryd.func13, Tryd.ntmps13
      go_wp2_with fail
      refine (tag_calls hk hn ha ht hpl hna hmn).mono ?_
      rintro e w1 ⟨v1, rfl, ho1, hb1⟩
      obtain ⟨A1, c1, rfl, h1⟩ := ho1.bytes 16 (tagN_length _ _ _ _) (tagN_ok _ _ _ _)
      clear ho1
      go_wp2_with fail
      refine (equal_calls h1 (HDR.out.below hb1) (by decide)).mono ?_
      rintro e w2 ⟨rfl, hb2⟩
      rw [HQ.out]
      have hb3 := below_seq hb1 hb2
      go_wp2_with fail
      refine (stream_calls 1 (hk.below hb3) (hn.below hb3) (ht.below hb3) rfl (by decide) (hpl.below hb3) (by omega)).mono ?_
      rintro e w3 ⟨v3, rfl, ho3, hb4⟩
      go_wp2
      go_ret2
      exact ⟨v3, rfl, ho3.lower hb3.size, below_seq hb3 hb4⟩
    · rw [if_neg hq]
      have HQ := hd (beq_eq_false_iff_ne.2 hq)
      clear hq
      go_enter Tryd.func13, Tryd.ntmps13
      go_wp2_with fail
      refine (tag_calls hk hn ha ht hpl hna hmn).mono ?_
      rintro e w1 ⟨v1, rfl, ho1, hb1⟩
      obtain ⟨A1, c1, rfl, h1⟩ := ho1.bytes 16 (tagN_length _ _ _ _) (tagN_ok _ _ _ _)
      clear ho1
      go_wp2_with fail
      refine (equal_calls h1 (HDR.out.below hb1) (by decide)).mono ?_
      rintro e w2 ⟨rfl, hb2⟩
      rw [HQ.out]
      go_wp2
      go_ret2
      exact ⟨_, rfl, OwnK.nil _ _ _ _, below_seq hb1 hb2⟩
/-! ### keys and nonces of any length -/
def sealA (key nonce ad text : List Nat) : List Nat × Nat := if key.length = 32 ∧ nonce.length = 12 then (sealN key nonce ad text, 0) else ([], 1)
def openA (key nonce ad box : List Nat) : List Nat × Nat := if key.length = 32 ∧ nonce.length = 12 then openN key nonce ad box else ([], 1)
def tagA (key nonce ad box : List Nat) : List Nat × Nat := if key.length = 32 ∧ nonce.length = 12 then (tagN key nonce ad box, 0) else ([], 1)
theorem sealN_ok (key nonce ad : List Nat) {text : List Nat} (h : BytesOK text) : BytesOK (sealN key nonce ad text) := (boxN_ok _ _ h).append (tagN_ok _ _ _ _)
theorem sealA_ok (key nonce ad : List Nat) {text : List Nat} (h : BytesOK text) : BytesOK (sealA key nonce ad text).1 := by
  unfold sealA
  split
  · exact sealN_ok _ _ _ h
  · exact BytesOK.nil
theorem openA_ok (key nonce ad : List Nat) {box : List Nat} (h : BytesOK box) : BytesOK (openA key nonce ad box).1 := by
  unfold openA
  split
  · exact openN_ok _ _ _ h
  · exact BytesOK.nil
theorem tagA_ok (key nonce ad box : List Nat) : BytesOK (tagA key nonce ad box).1 := by
  unfold tagA
  split
  · exact tagN_ok _ _ _ _
  · exact BytesOK.nil
theorem tag_any {A B C D : Option Addr} {na nb ca cb nc cc nd cd : Nat} {key nonce ad box : List Nat} {w : World} (hk : Bytes w A na ca key) (hn : Bytes w B nb cb nonce) (ha : Bytes w C nc cc ad) (hb : Bytes w D nd cd box) (hpl : PlacesAt w) (hna : nc ≤ 100000000) (hnd : nd ≤ 100000000) :
    Calls Tryd.prog 11 #[.slice A na ca, .slice B nb cb, .slice C nc cc, .slice D nd cd] w fun e w' => ∃ v, e = .returned (.tuple #[v, .int .i64 ((tagA key nonce ad box).2 : Nat)]) ∧ OwnK .u8 5 w.heap.size w' v (tagA key nonce ad box).1 ∧ Below w.heap.size w w' := by
  by_cases h : na = 32 ∧ nb = 12
  · obtain ⟨rfl, rfl⟩ := h
    rw [tagA, if_pos ⟨hk.2.1, hn.2.1⟩]
    exact tag_calls hk hn ha hb hpl hna hnd
  · refine (tag_none w (by omega)).mono ?_
    rintro e w' ⟨rfl, rfl⟩
    rw [tagA, if_neg (by rw [hk.2.1, hn.2.1]; exact h)]
    exact ⟨_, rfl, OwnK.nil _ _ _ _, Below.refl _ _⟩
theorem seal_any {A B C D : Option Addr} {na nb ca cb nc cc nd cd : Nat} {key nonce ad text : List Nat} {w : World} (hk : Bytes w A na ca key) (hn : Bytes w B nb cb nonce) (ha : Bytes w C nc cc ad) (hb : Bytes w D nd cd text) (hpl : PlacesAt w) (hna : nc ≤ 100000000) (hnd : nd ≤ 100000000) :
    Calls Tryd.prog 9 #[.slice A na ca, .slice B nb cb, .slice C nc cc, .slice D nd cd] w fun e w' => ∃ v, e = .returned (.tuple #[v, .int .i64 ((sealA key nonce ad text).2 : Nat)]) ∧ OwnK .u8 5 w.heap.size w' v (sealA key nonce ad text).1 ∧ Below w.heap.size w w' := by
  by_cases h : na = 32 ∧ nb = 12
  · obtain ⟨rfl, rfl⟩ := h
    rw [sealA, if_pos ⟨hk.2.1, hn.2.1⟩]
    exact seal_calls hk hn ha hb hpl hna hnd
  · refine (seal_none w (by omega)).mono ?_
    rintro e w' ⟨rfl, rfl⟩
    rw [sealA, if_neg (by rw [hk.2.1, hn.2.1]; exact h)]
    exact ⟨_, rfl, OwnK.nil _ _ _ _, Below.refl _ _⟩
theorem open_any {A B C D : Option Addr} {na nb ca cb nc cc nd cd : Nat} {key nonce ad box : List Nat} {w : World} (hk : Bytes w A na ca key) (hn : Bytes w B nb cb nonce) (ha : Bytes w C nc cc ad) (hb : Bytes w D nd cd box) (hpl : PlacesAt w) (hna : nc ≤ 100000000) (hnd : nd ≤ 100000000) :
    Calls Tryd.prog 13 #[.slice A na ca, .slice B nb cb, .slice C nc cc, .slice D nd cd] w fun e w' => ∃ v, e = .returned (.tuple #[v, .int .i64 ((openA key nonce ad box).2 : Nat)]) ∧ OwnK .u8 5 w.heap.size w' v (openA key nonce ad box).1 ∧ Below w.heap.size w w' := by
  by_cases h : na = 32 ∧ nb = 12
  · obtain ⟨rfl, rfl⟩ := h
    rw [openA, if_pos ⟨hk.2.1, hn.2.1⟩]
    exact open_calls hk hn ha hb hpl hna hnd
  · refine (open_none w hb hnd (by omega)).mono ?_
    rintro e w' ⟨rfl, rfl⟩
    rw [openA, if_neg (by rw [hk.2.1, hn.2.1]; exact h)]
    exact ⟨_, rfl, OwnK.nil _ _ _ _, Below.refl _ _⟩
end Go.Proofs.YtkkhdjdoifnoaaaDoor
