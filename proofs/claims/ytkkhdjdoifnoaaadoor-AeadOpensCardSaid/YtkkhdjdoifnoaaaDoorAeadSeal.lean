/- The walk through aead.Seal. -/
import Derived.Test.YtkkhdjdoifnoaaaDoorAeadTag
set_option linter.unusedVariables false
set_option linter.unusedSimpArgs false
namespace Go.Proofs.YtkkhdjdoifnoaaaDoor
open Go.RowKit Go.Proofs.YtkkhdjdoifnoaaaDoorW.PrintWords Go.Proofs.YtkkhdjdoifnoaaaDoorW.PrintLast Go.Proofs.YtkkhdjdoifnoaaaDoorW.PrintMore
theorem seal_none {A B C D : Option Addr} {na nb ca cb nc cc nd cd : Nat} (w : World) (h : na ≠ 32 ∨ nb ≠ 12) :
    Calls Tryd.prog 9 #[.slice A na ca, .slice B nb cb, .slice C nc cc, .slice D nd cd] w fun e w' => e = .returned (.tuple #[.slice none 0 0, .int .i64 1]) ∧ w = w' := by
  have H := hd h
  clear h
  go_enter Tryd.func9, Tryd.ntmps9
  go_wp2_with fail
  refine (stream_none w H.out).mono ?_
  rintro e w' ⟨rfl, rfl⟩
  go_wp2_with fail
  refine (tag_none w H.out).mono ?_
  rintro e w' ⟨rfl, rfl⟩
  go_wp2
  go_ret2
  exact ⟨rfl, rfl⟩
set_option maxHeartbeats 1000000 in
set_option maxRecDepth 100000 in
theorem seal_calls {A B C D : Option Addr} {ca cb nc cc nd cd : Nat} {key nonce ad text : List Nat} {w : World} (hk : Bytes w A 32 ca key) (hn : Bytes w B 12 cb nonce) (ha : Bytes w C nc cc ad) (hb : Bytes w D nd cd text) (hpl : PlacesAt w) (hna : nc ≤ 100000000) (hnd : nd ≤ 100000000) :
    Calls Tryd.prog 9 #[.slice A 32 ca, .slice B 12 cb, .slice C nc cc, .slice D nd cd] w fun e w' => ∃ v, e = .returned (.tuple #[v, .int .i64 0]) ∧ OwnK .u8 5 w.heap.size w' v (sealN key nonce ad text) ∧ Below w.heap.size w w' := by
  go_enter Tryd.func9, Tryd.ntmps9
  go_wp2_with fail
  refine (stream_calls 1 hk hn hb rfl (by decide) hpl (by omega)).mono ?_
  rintro e w1 ⟨v1, rfl, ho1, hb1⟩
  obtain ⟨A1, c1, rfl, h1⟩ := ho1.bytes nd (by rw [stream_length, hb.2.1]) (stream_ok _ _ _ hb.ok)
  clear ho1
  go_wp2_with fail
  refine (tag_calls (hk.below hb1) (hn.below hb1) (ha.below hb1) h1 (hpl.below hb1) hna hnd).mono ?_
  rintro e w2 ⟨v2, rfl, ho2, hb2⟩
  obtain ⟨A2, c2, rfl, h2⟩ := ho2.bytes 16 (tagN_length _ _ _ _) (tagN_ok _ _ _ _)
  replace h1 := h1.below hb2
  have hb3 := below_seq hb1 hb2
  have hr2 := Rows2.new (t := 22) (g := w2.heap.size) (vs := [.slice A1 nd c1, .slice A2 16 c2]) (L := [stream key 1 nonce text, tagN key nonce ad (stream key 1 nonce text)]) ⟨⟨_, _, _, rfl, h1⟩, ⟨_, _, _, rfl, h2⟩, trivial⟩ rfl rfl (by simp)
  have hal := below_alloc (Below.refl w2.heap.size w2) (.cells #[.slice A1 nd c1, .slice A2 16 c2] 22)
  have HR2 := hd hr2
  have HFL := hd (show ([stream key 1 nonce text, tagN key nonce ad (stream key 1 nonce text)] : List (List Nat)).flatten = sealN key nonce ad text by simp [sealN, boxN])
  have HFN := hd (show (sealN key nonce ad text).length ≤ 140737488355328 by rw [sealN_length, hb.2.1]; omega)
  have HB3 := hd (below_seq hb3 hal)
  clear hr2 h1 h2 ho2 hb1 hb2 hb3 hal
  go_wp2_with fail
  refine (join_calls HR2.out rfl (Nat.le_refl 2) (by rw [HFL.out]; exact HFN.out)).mono ?_
  rintro e w3 ⟨v3, rfl, ho3, hb4⟩
  rw [HFL.out] at ho3
  go_wp2
  go_ret2
  exact ⟨v3, rfl, ho3.lower HB3.out.size, below_seq HB3.out hb4⟩
end Go.Proofs.YtkkhdjdoifnoaaaDoor
