/- The walk through redanlaw07.awake. -/
import Derived.Test.YtgmaahpnpjfghaaDoorChaStm
set_option linter.unusedVariables false
set_option linter.unusedSimpArgs false
namespace Go.Proofs.YtgmaahpnpjfghaaDoor
open Go.RowKit Go.Proofs.YtgmaahpnpjfghaaDoorW.PrintWords Go.Proofs.YtgmaahpnpjfghaaDoorW.PrintLast Go.Proofs.YtgmaahpnpjfghaaDoorW.PrintMore

theorem OwnK.bytesOf {e base : Nat} {w : World} {A : Option Addr} {n c : Nat} {l : List Nat} (h : OwnK .u8 e base w (.slice A n c) l) (hb : BytesOK l) : Bytes w A n c l := ⟨h.row.2.2, h.row.1.symm, by rw [h.row.1]; exact h.row.2.1, hb⟩
theorem BytesOK.zeros (n : Nat) : BytesOK (List.replicate n 0) := fun x hx => by rw [(List.mem_replicate.1 hx).2]; decide
theorem aw_quarter : qr 286331153 16909060 2609737539 19088743 = (3928658676, 3407673550, 1166100270, 1484899515) := by kernel_rfl
theorem aw_block : (blockN (List.replicate 32 0) 0 (List.replicate 12 0)).getD 0 0 = 118 := by kernel_rfl
theorem aw_stream : stream (List.replicate 32 0) 0 (List.replicate 12 0) [0] = [118] := by kernel_rfl

set_option maxHeartbeats 2000000 in
set_option maxRecDepth 100000 in
theorem awake_calls {w : World} (hpl : PlacesAt w) : Calls Tryd.prog 8 #[] w fun e w' => e = .returned (.bool true) ∧ Below w.heap.size w w' := by
  go_enter Tryd.func8, Tryd.ntmps8
  go_wp2_with fail
  refine (quarter_calls 286331153 16909060 2609737539 19088743 _ rfl rfl rfl rfl (by decide) (by decide) (by decide) (by decide)).mono ?_
  rintro e w' ⟨rfl, rfl⟩
  rw [aw_quarter]
  simp only
  go_wp2_with (first
    | ((with_reducible refine gate_dst (N := 15) rfl ?_); refine op_make 15 rfl 5 30 _ _ rfl rfl 32 rfl rfl Tryd.underlying30 Tryd.infoU8 (by decide) 32 rfl (by decide) ?_; intro A1 c1 w1 hc1 ho1 hb1)
    | ((with_reducible refine gate_dst (N := 16) rfl ?_); refine op_make 16 rfl 5 30 _ _ rfl rfl 12 rfl rfl Tryd.underlying30 Tryd.infoU8 (by decide) 12 rfl (by decide) ?_; intro A2 c2 w2 hc2 ho2 hb2))
  have hk := (ho1.bytesOf (BytesOK.zeros 32)).below hb2
  have hn := ho2.bytesOf (BytesOK.zeros 12)
  have hb := below_seq hb1 hb2
  clear ho1 ho2 hb1 hb2
  refine (block_calls 0 hk hn rfl (by decide) (hpl.below hb)).mono ?_
  rintro e w3 ⟨v3, rfl, ho3, hb3⟩
  obtain ⟨A3, c3, rfl, h3⟩ := ho3.bytes 64 (blockN_length _ _ _) (blockN_ok _ _ _)
  replace hk := hk.below hb3
  replace hn := hn.below hb3
  replace hb := below_seq hb hb3
  clear ho3 hb3
  go_wp2_with fail
  have hone : Bytes (w3.alloc (.cells #[.int .u8 0] 5)) (some ⟨w3.heap.size, 0, none⟩) 1 1 [0] := Bytes.new [0] rfl rfl rfl (by decide) rfl
  have hal := below_alloc (Below.refl w3.heap.size w3) (.cells #[.int .u8 0] 5)
  replace hk := hk.below hal
  replace hn := hn.below hal
  replace h3 := h3.below hal
  replace hb := below_seq hb hal
  clear hal
  refine (stream_calls 0 hk hn hone rfl (by decide) (hpl.below hb) (by decide)).mono ?_
  rintro e w4 ⟨v4, rfl, ho4, hb4⟩
  rw [aw_stream] at ho4
  obtain ⟨A4, c4, rfl, h4⟩ := ho4.bytes 1 rfl (fun x hx => by simp at hx; omega)
  replace h3 := h3.below hb4
  replace hb := below_seq hb hb4
  obtain ⟨a3, x3, rfl, hx3, hc3⟩ := h3.1.at_ 0 (by rw [blockN_length]; decide)
  obtain ⟨a4, x4, rfl, hx4, hc4⟩ := h4.1.at_ 0 (by decide)
  obtain rfl : x3 = 118 := hx3.out.symm.trans aw_block
  obtain rfl : x4 = 118 := hx4.out.symm
  have d3 : w4.cell? a3 = some (.int .u8 118) := hc3
  have d4 : w4.cell? a4 = some (.int .u8 118) := hc4
  clear ho4 hb4 h3 h4 hk hn hone hx3 hx4 hc3 hc4
  go_wp2_with fail
  refine (block_none w4 (Or.inl (by decide))).mono ?_
  rintro e w' ⟨rfl, rfl⟩
  go_wp2
  go_ret
  exact ⟨rfl, hb⟩
end Go.Proofs.YtgmaahpnpjfghaaDoor
