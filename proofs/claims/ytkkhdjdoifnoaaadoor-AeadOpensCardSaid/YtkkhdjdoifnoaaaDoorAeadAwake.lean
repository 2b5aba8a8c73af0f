/- The walk through redanlaw09.awake. -/
import Derived.Test.YtkkhdjdoifnoaaaDoorAeadOpen
import Derived.Lib.SmallJoins
import Derived.Lib.SlBytesConst
set_option linter.unusedVariables false
set_option linter.unusedSimpArgs false
namespace Go.Proofs.YtkkhdjdoifnoaaaDoor
open Go.RowKit Go.Proofs.YtkkhdjdoifnoaaaDoorW.PrintWords Go.Proofs.YtkkhdjdoifnoaaaDoorW.PrintLast Go.Proofs.YtkkhdjdoifnoaaaDoorW.PrintMore
theorem openN_box {key nonce ad text t : List Nat} (ht : t.length = 16) : openN key nonce ad (boxN key nonce text ++ t) = if tagN key nonce ad (boxN key nonce text) = t then (text, 0) else ([], 10) := by
  have h1 : (boxN key nonce text ++ t).length = text.length + 16 := by rw [List.length_append, boxN_length, ht]
  have h2 : (boxN key nonce text ++ t).take text.length = boxN key nonce text := by
    rw [List.take_append_of_le_length (by rw [boxN_length]; exact Nat.le_refl _), List.take_of_length_le (by rw [boxN_length]; exact Nat.le_refl _)]
  have h3 : (boxN key nonce text ++ t).drop text.length = t := by
    rw [List.drop_append_of_le_length (by rw [boxN_length]; exact Nat.le_refl _), List.drop_of_length_le (by rw [boxN_length]; exact Nat.le_refl _), List.nil_append]
  rw [openN, if_neg (by omega), h1, Nat.add_sub_cancel, h2, h3, boxN_twice]
theorem openN_seal (key nonce ad text : List Nat) : openN key nonce ad (sealN key nonce ad text) = (text, 0) := by
  rw [sealN, openN_box (tagN_length _ _ _ _), if_pos rfl]
/-- The tag with a byte turned. -/
theorem openN_set {key nonce ad text : List Nat} (k y : Nat) (hk : k < 16) (hy : (tagN key nonce ad (boxN key nonce text)).getD k 0 ≠ y) : openN key nonce ad ((sealN key nonce ad text).set (text.length + k) y) = ([], 10) := by
  have h1 : (sealN key nonce ad text).set (text.length + k) y = boxN key nonce text ++ (tagN key nonce ad (boxN key nonce text)).set k y := by
    rw [sealN, List.set_append_right _ _ (by rw [boxN_length]; omega), boxN_length, Nat.add_sub_cancel_left]
  rw [h1, openN_box (by rw [List.length_set, tagN_length]), if_neg]
  intro h
  have h2 := congrArg (fun l => l.getD k 0) h
  simp only [List.getD_eq_getElem?_getD, List.getElem?_set, tagN_length, hk, if_true] at h2 hy
  simp at h2
  exact hy h2
theorem sealN_getD (key nonce ad text : List Nat) (k : Nat) : (sealN key nonce ad text).getD (text.length + k) 0 = (tagN key nonce ad (boxN key nonce text)).getD k 0 := by
  rw [sealN, List.getD_eq_getElem?_getD, List.getElem?_append_right (by rw [boxN_length]; omega), boxN_length, Nat.add_sub_cancel_left, ← List.getD_eq_getElem?_getD]
theorem openN_short (key nonce ad box : List Nat) (h : box.length < 16) : openN key nonce ad box = ([], 13) := by rw [openN, if_pos h]
theorem OwnK.bytesSet {base : Nat} {w : World} {g n c : Nat} {l : List Nat} (h : OwnK .u8 5 base w (.slice (some ⟨g, 0, none⟩) n c) l) (i x : Nat) (hb : BytesOK l) (hx : x < 256) : Bytes (w.setCell ⟨g, i, none⟩ (.int .u8 (x : Int))) (some ⟨g, 0, none⟩) n c (l.set i x) :=
  (h.put i x).bytesOf (hb.set hx i)
/-- What lies in another block than what was written. -/
theorem Bytes.set_far {w : World} {A : Option Addr} {n c g : Nat} {l : List Nat} (h : Bytes w A n c l) (hA : ∀ a, A = some a → a.block ≠ g) (i : Nat) (v : Value) : Bytes (w.setCell ⟨g, i, none⟩ v) A n c l := by
  obtain ⟨hr, h2⟩ := h
  refine ⟨?_, h2⟩
  rcases A with _ | a
  · rcases Nat.eq_zero_or_pos l.length with h0 | h0
    · rw [List.length_eq_zero_iff.1 h0]
      exact RowK.nil _ _ _
    · obtain ⟨ad, x, he, _⟩ := hr.at_ 0 h0
      cases he
  · refine RowK.of_at hr.max (fun j hj => ?_)
    obtain ⟨ad, x, he, hx, hc⟩ := hr.at_ j hj
    cases he
    have hne := hA _ rfl
    rw [hx.out, ← hc]
    have h1 : (World.setCell w ⟨g, i, none⟩ v).heap[(a.add j).block]? = w.heap[(a.add j).block]? := Below.heap_setCell w ⟨g, i, none⟩ v _ (by rw [add_block]; exact hne)
    unfold World.cell?
    rw [h1]
/-- A constant's bytes: the row is marked behind its last cell. -/
theorem Bytes.newM {W : World} {t : TypeId} {cs : Array Value} {fr : Nat × Nat} {g n : Nat} (l : List Nat) (hcs : cs = (l.map fun x : Nat => Value.int .u8 x).toArray) (hg : g = W.heap.size) (hn : n = l.length) (hl : l.length ≤ 9223372036854775807) (hb : (l.all fun x => decide (x < 256)) = true) :
    Bytes (W.alloc (.cells cs t fr)) (some ⟨g, 0, none⟩) n n l := by
  subst hg; subst hn
  refine ⟨RowK.of_at hl (fun i hi => ?_), rfl, Nat.le_refl _, fun x hx => by simpa using List.all_eq_true.1 hb x hx⟩
  rw [add_plain, World.cell?_alloc_mark, hcs]
  simp [hi]
theorem lit_ok' (l : List Nat) (h : (l.all fun x => decide (x < 256)) = true) : BytesOK l := fun x hx => by simpa using List.all_eq_true.1 h x hx
set_option maxHeartbeats 4000000 in
set_option maxRecDepth 100000 in
theorem awake_calls {w : World} (hpl : PlacesAt w) : Calls Tryd.prog 8 #[] w fun e w' => e = .returned (.bool true) ∧ Below w.heap.size w w' := by
  have kc := fun (w : World) (C : Array Value) (n c : Nat) => Lib.run_convert_bytes_const (P := Tryd.prog) w 22 5 C n c Tryd.underlying22 Tryd.underlying5
  have kc2 := fun (w : World) (o : Obj) (C : Array Value) (n c : Nat) => Joins.run_convert_bytes_const_at (P := Tryd.prog) (w.alloc o) 22 5 C n c (w.heap.size + 1) (by simp) Tryd.underlying22 Tryd.underlying5
  go_enter Tryd.func8, Tryd.ntmps8
  go_wp2_with (first
    | ((with_reducible refine gate_dst (N := 13) rfl ?_); refine op_make 13 rfl 5 22 _ _ rfl rfl 32 rfl rfl Tryd.underlying22 Tryd.infoU8 (by decide) 32 rfl (by decide) ?_; intro A1 c1 w1 hc1 ho1 hb1)
    | ((with_reducible refine gate_dst (N := 14) rfl ?_); refine op_make 14 rfl 5 22 _ _ rfl rfl 12 rfl rfl Tryd.underlying22 Tryd.infoU8 (by decide) 12 rfl (by decide) ?_; intro A2 c2 w2 hc2 ho2 hb2))
  have hk := (ho1.bytesOf (BytesOK.zeros 32)).below hb2
  have hn := ho2.bytesOf (BytesOK.zeros 12)
  have hb := below_seq hb1 hb2
  have hbw0 := hb
  clear ho1 ho2 hb1 hb2
  generalize List.replicate 32 0 = key at hk ⊢
  generalize List.replicate 12 0 = nonce at hn ⊢
  have b31 := (Bytes.newM (W := w2) (t := 5) (fr := (2, 3)) (g := w2.heap.size) (n := 2) (cs := #[.int .u8 97, .int .u8 100]) [97, 100] rfl rfl rfl (by decide) rfl).alloc (.cells #[.int .u8 116, .int .u8 101, .int .u8 120, .int .u8 116] 5 (4, 5))
  have b32 := Bytes.newM (W := w2.alloc (.cells #[.int .u8 97, .int .u8 100] 5 (2, 3))) (t := 5) (fr := (4, 5)) (g := w2.heap.size + 1) (n := 4) (cs := #[.int .u8 116, .int .u8 101, .int .u8 120, .int .u8 116]) [116, 101, 120, 116] rfl (by simp) rfl (by decide) rfl
  have hal := below_alloc (below_alloc (Below.refl w2.heap.size w2) (.cells #[.int .u8 97, .int .u8 100] 5 (2, 3))) (.cells #[.int .u8 116, .int .u8 101, .int .u8 120, .int .u8 116] 5 (4, 5))
  replace hb := below_seq hb hal
  refine (seal_calls (hk.below hal) (hn.below hal) b31 b32 (hpl.below hb) (by decide) (by decide)).mono ?_
  rintro e w3 ⟨v3, rfl, ho3, hb3⟩
  obtain ⟨A3, c3, rfl, h3x⟩ := ho3.bytes 20 (sealN_length _ _ _ _) (sealN_ok _ _ _ b32.ok)
  have hc3 := h3x.2.2.1
  have i4 : (4 : Int) ≤ c3 := by omega
  have i15 : (15 : Int) ≤ c3 := by omega
  clear h3x hc3
  have hxok : BytesOK (sealN key nonce [97, 100] [116, 101, 120, 116]) := sealN_ok _ _ _ b32.ok
  generalize hx0 : sealN key nonce [97, 100] [116, 101, 120, 116] = x0 at ho3 hxok
  have HX0 := hd hx0
  obtain ⟨g3, rfl, hg3, hg3'⟩ := ho3.at_ (by decide)
  have hbw := below_seq hal hb3
  have HK := hd hk
  have HN := hd hn
  replace hb := below_seq hb hb3
  have hg2 : w2.heap.size ≤ g3 := by simp at hg3; omega
  clear b31 b32 hal hb3 hk hn hx0 hg3
  go_wp2_with fail
  have l4 := Bytes.newM (W := w3) (t := 5) (fr := (2, 3)) (g := w3.heap.size) (n := 2) (cs := #[.int .u8 97, .int .u8 100]) [97, 100] rfl rfl rfl (by decide) rfl
  have hal := below_alloc (Below.refl w3.heap.size w3) (.cells #[.int .u8 97, .int .u8 100] 5 (2, 3))
  have hbw4 := below_seq hbw hal
  have hb4 := below_seq hb hal
  refine (open_calls (HK.out.below hbw4) (HN.out.below hbw4) l4 ((ho3.below hal).bytesOf hxok) (hpl.below hb4) (by decide) (by decide)).mono ?_
  rw [show openN key nonce [97, 100] x0 = ([116, 101, 120, 116], 0) by rw [← HX0.out, openN_seal]]
  rintro e w4 ⟨v4, rfl, ho4, hb5⟩
  have ho3' := ho3.below (below_seq hal hb5)
  have hbw5 := below_seq hbw4 hb5
  have hb6 := below_seq hb4 hb5
  have hg4 : g3 < w4.heap.size := by have := hb5.size; simp at this; omega
  obtain ⟨b4, hb4'⟩ : ∃ b4, (w3.alloc (.cells #[.int .u8 97, .int .u8 100] 5 (2, 3))).heap.size = b4 := ⟨_, rfl⟩
  have hg34 : g3 < b4 := by rw [← hb4']; simp; omega
  rw [hb4'] at ho4
  obtain ⟨A4, c4, rfl, _⟩ := ho4.bytes 4 rfl (lit_ok' _ rfl)
  clear l4 hal hbw4 hb4 hb5 hb hbw ho3 hb4' hg3'
  go_wp2_with fail
  have l5 := Bytes.newM (W := w4) (t := 5) (fr := (2, 3)) (g := w4.heap.size) (n := 2) (cs := #[.int .u8 97, .int .u8 100]) [97, 100] rfl rfl rfl (by decide) rfl
  have hal := below_alloc (Below.refl w4.heap.size w4) (.cells #[.int .u8 97, .int .u8 100] 5 (2, 3))
  have hbw6 := below_seq hbw5 hal
  have hb7 := below_seq hb6 hal
  refine (tag_calls (HK.out.below hbw6) (HN.out.below hbw6) l5 (((ho3'.below hal).bytesOf hxok).take 4 (by decide)) (hpl.below hb7) (by decide) (by decide)).mono ?_
  rintro e w5 ⟨v5, rfl, ho5, hb8⟩
  obtain ⟨A5, c5, rfl, _⟩ := ho5.bytes 16 (tagN_length _ _ _ _) (tagN_ok _ _ _ _)
  have ho3 := ho3'.below (below_seq hal hb8)
  replace ho4 := ho4.below (below_seq hal hb8)
  have hbw := below_seq hbw6 hb8
  have hb := below_seq hb7 hb8
  clear l5 hal hbw6 hb7 hb8 hb6 hbw5 ho3' ho5
  obtain ⟨y, HY, hy1, hy2⟩ := ho3.cellx 19 (by decide)
  have hyb : y < 256 := by rw [← HY.out]; exact hxok.getD _
  obtain ⟨z, HZ⟩ : ∃ z, Aside0 (y ^^^ 1 = z) := ⟨_, ⟨rfl⟩⟩
  have fxor : bits .xor .u8 (y : Int) 1 = (z : Int) := by rw [← HZ.out]; exact xor_u8 hyb (by decide)
  have hzb : z < 256 := by rw [← HZ.out]; exact xor_lt hyb (by decide)
  have hzy : y ≠ z := by
    rw [← HZ.out]
    intro h
    have h2 := congrArg (fun t => y ^^^ t) h
    simp only [Nat.xor_self, ← Nat.xor_assoc, Nat.zero_xor] at h2
    cases h2
  have HX1 := hd (ho3.put 19 z)
  have HX1b := hd (hxok.set hzb 19)
  have HO := hd (show openN key nonce [97, 100] (x0.set 19 z) = ([], 10) by
    have h1 := openN_set (key := key) (nonce := nonce) (ad := [97, 100]) (text := [116, 101, 120, 116]) 15 z (by decide) (by
      rw [← sealN_getD, HX0.out]
      show x0.getD 19 0 ≠ z
      rw [HY.out]
      exact hzy)
    rw [HX0.out] at h1
    exact h1)
  have ho4s := ho4.step (w1 := w5.setCell ⟨g3, 19, none⟩ (.int .u8 (z : Int))) (fun g h1 _ => Below.heap_setCell w5 ⟨g3, 19, none⟩ _ g (by show g ≠ g3; omega))
  have hbw2 := hbw.setCell (p := ⟨g3, 19, none⟩) hg2 (.int .u8 (z : Int))
  have hb2 := hb.setCell (p := ⟨g3, 19, none⟩) (Nat.le_trans (by have := hbw0.size; omega) hg2) (.int .u8 (z : Int))
  clear hbw hb ho3 ho4 hzy
  go_upto_region 9 with (fail)
  have hx1 := HX1.out
  clear HX1
  generalize w5.setCell ⟨g3, 19, none⟩ (.int .u8 (z : Int)) = w6 at hx1 ho4s hbw2 hb2 ⊢
  clear hy1 hy2 fxor
  go_wp2_with fail
  have l7 := Bytes.newM (W := w6) (t := 5) (fr := (2, 3)) (g := w6.heap.size) (n := 2) (cs := #[.int .u8 97, .int .u8 100]) [97, 100] rfl rfl rfl (by decide) rfl
  have hal := below_alloc (Below.refl w6.heap.size w6) (.cells #[.int .u8 97, .int .u8 100] 5 (2, 3))
  have hbw7 := below_seq hbw2 hal
  have hb7 := below_seq hb2 hal
  refine (open_calls (HK.out.below hbw7) (HN.out.below hbw7) l7 ((hx1.below hal).bytesOf HX1b.out) (hpl.below hb7) (by decide) (by decide)).mono ?_
  rw [HO.out]
  rintro e w8 ⟨v8, rfl, _, hb8⟩
  have hbs := below_seq hal hb8
  have hx2 := hx1.below hbs
  have ho4 := ho4s.below hbs
  have hbw := below_seq hbw2 hbs
  have hb := below_seq hb2 hbs
  clear l7 hal hbw7 hb7 hb8 hx1 ho4s hbw2 hb2 hbs
  go_wp2_with fail
  refine (open_calls (HK.out.below hbw) (HN.out.below hbw) (Bytes.nil w8 none 0) ((hx2.bytesOf HX1b.out).take 15 (by decide)) (hpl.below hb) (by decide) (by decide)).mono ?_
  rw [openN_short _ _ _ _ (by rw [List.length_take]; omega)]
  rintro e w9 ⟨v9, rfl, _, hb9⟩
  have h4 := (ho4.below hb9).bytesOf (lit_ok' _ rfl)
  have s4 := h4.str (P := Tryd.prog) Tryd.underlying22 Tryd.underlying5 Tryd.underlying9
  have q4 := str_lit (l := [116, 101, 120, 116]) (m := [116, 101, 120, 116]) rfl
  have hbz := below_seq hb hb9
  clear h4 ho4 hx2 hbw hb hb9
  go_wp2
  go_ret
  exact ⟨by simp, hbz⟩
end Go.Proofs.YtkkhdjdoifnoaaaDoor
