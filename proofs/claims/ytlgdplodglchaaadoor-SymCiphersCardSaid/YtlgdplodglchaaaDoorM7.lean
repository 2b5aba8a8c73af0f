/- Merged texts. -/
import Derived.Test.YtlgdplodglchaaaDoorSymS
import Derived.Lib.AppendStr
import Derived.Lib.BufferWrite
import Derived.Laws.IdiomStrings
/- Strings: copied, appended, turned to bytes. Over any program. -/
set_option linter.unusedVariables false
set_option linter.unusedSimpArgs false
namespace Go.Proofs.YtlgdplodglchaaaDoor
open Go.RowKit Go.Proofs.YtlgdplodglchaaaDoorW.PrintWords Go.Proofs.YtlgdplodglchaaaDoorW.PrintLast Go.Proofs.YtlgdplodglchaaaDoorW.PrintMore
theorem strOf_size (l : List Nat) : (strOf l).size = l.length := by simp [strOf, ByteArray.size]
theorem strOf_cells {l : List Nat} (h : BytesOK l) : (strOf l).data.toList.map (fun b : UInt8 => Value.int .u8 (b.toNat : Int)) = (ints l).map (Value.int .u8) := by
  rw [strOf_data, List.map_map, ints, List.map_map]
  refine List.map_congr_left fun b hb => ?_
  have := h b hb
  simp [UInt8.toNat_ofNat', Nat.mod_eq_of_lt this]
section
variable {P : Program} {ops : Array Oper} {rest : List Oper} {o : Oper} {a : Act} {Q : Exit → Act → World → Prop} {W : World}
/-- copy(v, s), s a string that fits. -/
theorem op_copyS {w0 : World} (N : Tmp) (hd : o.dst = some N) (hgd : o.guard = none) (s x : Operand) (t u e : TypeId) (ho : o.op = .call { callee := .builtin .copy, args := #[s, x], argTypes := #[t, u] }) (ht : P.underlying t = some (.slice e)) (hinfo : (P.info? e).map (·.size) = some 1)
    (base g n c : Nat) (l ys : List Nat) (hy : BytesOK ys) (hs : a.eval s = .slice (some ⟨g, 0, none⟩) n c) (hx : a.eval x = .string (strOf ys)) (HO : OwnK .u8 e base W (.slice (some ⟨g, 0, none⟩) n c) l) (HB : Below base w0 W) (hle : ys.length ≤ n)
    (h : ∀ w1, OwnK .u8 e base w1 (.slice (some ⟨g, 0, none⟩) n c) (ys ++ l.drop ys.length) → Below base w0 w1 → W.grownBy w1 (some g) → wpList P ops Q rest (a.put (some N) (.int .i64 (ys.length : Int))) w1) : wpList P ops Q (o :: rest) a W := by
  have hn := HO.row.1
  have hown := Kd.own_of_R HO
  rw [ints_length, ← hn] at hown
  obtain ⟨hlen, hform⟩ := hown
  have hgb : base ≤ g := (HO.lt g rfl).1
  rcases hform with ⟨h0, _⟩ | ⟨g', cap, cur, hv, hb, hheap, hnc, hcm, hcs, htake⟩
  · cases h0
  injection hv with hv1 hv2 hv3
  injection hv1 with hv1
  injection hv1 with hv1
  subst hv1
  subst hv3
  have hr := Lib.run_copy_row_string (P := P) W t u o.type e g 0 n c (strOf ys) cur e ht hinfo hheap (by rw [strOf_size]; exact hle) (by rw [strOf_size, hcs]; omega)
  rw [strOf_size, Nat.zero_add, List.take_zero, List.nil_append] at hr
  have hbc : Lib.byteCells (strOf ys).data.toList = (ints ys).map (Value.int .u8) := strOf_cells hy
  rw [hbc] at hr
  refine wpList_plain hgd fun K hK => ?_
  unfold Oper.wp execOp
  simp only [ho, resolve, invoke, builtin, Sem.run_bind, Sem.run_pure, Result.andThen_ok, List.map_toArray, List.map_cons, List.map_nil, hs, hx, hr]
  show K (a.put o.dst (.int .i64 (ys.length : Int))) _
  rw [hd]
  refine hK _ _ (h _ (Kd.R_of_own ?_ (fun _ _ => trivial)) (below_only HB (Only.setRow _) hgb) ⟨rfl, rfl, rfl, by rw [setRow_size]; exact Nat.le_refl _, fun k hk hne => setRow_other W g k _ (fun e => hne (by rw [e]))⟩)
  have hin : (ints (ys ++ l.drop ys.length)).length = n := by rw [ints_length, List.length_append, List.length_drop]; omega
  refine ⟨by rw [hin]; simp [encs, hin], Or.inr ⟨g, c, _, by rw [hin], hb, setRow_heap W g cur _ e (0, 0) hheap, by rw [hin]; exact hnc, hcm, ?_, ?_⟩⟩
  · have hyl : (ints ys).length = ys.length := ints_length ys
    simp [hyl]
    omega
  · rw [hin, Nat.mul_one]
    have htk : cur.toList.take n = encs (Value.int .u8) (ints l) := by rw [← htake, Nat.mul_one]
    have e1 : (ints ys).map (Value.int .u8) ++ cur.toList.drop ys.length = ((ints ys).map (Value.int .u8) ++ cur.toList.drop ys.length).toArray.toList := by simp
    rw [← e1, List.take_append, List.take_of_length_le (by rw [List.length_map, ints_length]; exact hle), List.length_map, ints_length, ← List.drop_take, htk]
    unfold encs
    rw [ints_append, List.map_append, ← ints_drop, List.map_drop]
/-- []byte(s). -/
theorem conv_str (w : World) {src dst e : TypeId} {l : List Nat} (hl : BytesOK l) (hln : l.length ≤ 9223372036854775807) (hs : P.underlying src = some .string) (hd : P.underlying dst = some (.slice e)) (he : P.underlying e = some (.int .u8)) :
    ∃ cap w1, (convert src dst (.string (strOf l))).run P w = .ok (.slice (some ⟨w.heap.size, 0, none⟩) l.length cap) w1 ∧ Below w.heap.size w w1 ∧ Bytes w1 (some ⟨w.heap.size, 0, none⟩) l.length cap l := by
  have h := run_bytes_of_string (P := P) w src dst e (strOf l) hs hd he
  rw [strOf_size] at h
  obtain ⟨cap, hcap⟩ : ∃ cap, cap = grownCap w l.length 0 e := ⟨_, rfl⟩
  rw [← hcap] at h
  have hle : l.length ≤ cap := by rw [hcap]; exact grownCap_ge w l.length 0 e
  refine ⟨cap, _, h, below_alloc (below_drew (Below.refl _ _)) _, RowK.of_at hln (fun i hi => ?_), rfl, hle, hl⟩
  have h2 : (w.drew.alloc (.cells (bytesRow (strOf l) cap) e ((bytesRow (strOf l) cap).size, (bytesRow (strOf l) cap).size + 1))).heap[w.heap.size]? = some (.cells (bytesRow (strOf l) cap) e ((bytesRow (strOf l) cap).size, (bytesRow (strOf l) cap).size + 1)) := heap_alloc_new w.drew _
  rw [add_plain]
  simp only [World.cell?, h2]
  have h3 : (bytesRow (strOf l) cap)[i]? = some (.int .u8 ((l.getD i 0 : Nat) : Int)) := by
    have hlt : i < (strOf l).data.size := by rw [show (strOf l).data.size = (strOf l).size from rfl, strOf_size]; exact hi
    unfold bytesRow
    rw [Array.getElem?_append_left (by rw [Array.size_map]; exact hlt)]
    have h4 := congrArg (fun z : List Value => z[i]?) (strOf_cells hl)
    simp only [List.getElem?_map, ints] at h4
    rw [Array.getElem?_map, ← Array.getElem?_toList, h4]
    simp [hi, List.getD_eq_getElem?_getD]
  rw [h3]
  rfl
end
end Go.Proofs.YtlgdplodglchaaaDoor
/- The walk through sym.New. -/
set_option linter.unusedVariables false
set_option linter.unusedSimpArgs false
namespace Go.Proofs.YtlgdplodglchaaaDoor
open Go.RowKit Go.Proofs.YtlgdplodglchaaaDoorW.PrintWords Go.Proofs.YtlgdplodglchaaaDoorW.PrintLast Go.Proofs.YtlgdplodglchaaaDoorW.PrintMore
/-- What a name gives: its sum, or itself and zeros. -/
def nameN (l : List Nat) : List Nat := if 32 < l.length then sumN l else l ++ List.replicate (32 - l.length) 0
theorem nameN_length (l : List Nat) : (nameN l).length = 32 := by
  unfold nameN
  split
  · exact sumN_length l
  · rw [List.length_append, List.length_replicate]; omega
theorem nameN_ok {l : List Nat} (h : BytesOK l) : BytesOK (nameN l) := by
  unfold nameN
  split
  · exact sumN_ok l
  · exact h.append (BytesOK.replicate (by decide))
def NewStPost (w : World) (l : List Nat) (e : Ending) (w' : World) : Prop :=
  ∃ (g : Nat) (ck h : Sl), e = .returned (.pointer (some ⟨g, 0, none⟩)) ∧ StAt w' g ck h ⟨none, 0, 0⟩ 0 ∧ OwnK .u8 5 w.heap.size w' ck.v (nameN l) ∧ ck.n = 32 ∧ OwnK .u8 5 w.heap.size w' h.v (nameN l) ∧ h.n = 32 ∧ w.heap.size ≤ g ∧ Below w.heap.size w w'
set_option maxHeartbeats 4000000 in
set_option maxRecDepth 100000 in
theorem stnew_calls {l : List Nat} {w : World} (hl_ : BytesOK l) (hn_ : l.length ≤ 100000) (ht_ : TurnsAt w) (hc_ : ConstsAt w) :
    Calls Tryd.prog 32 #[.string (strOf l)] w (NewStPost w l) := by
  have HL := hd hl_
  have HN := hd hn_
  have HT := hd ht_
  have HCO := hd hc_
  have hsz := strOf_size l
  clear hl_ hn_ ht_ hc_
  go_enter Tryd.func32, Tryd.ntmps32
  go_upto_region 2 with ((with_reducible refine gate_dst (N := 4) rfl ?_); refine op_make 4 rfl 5 40 _ _ rfl rfl 32 rfl rfl Tryd.underlying40 Tryd.infoU8 (by decide) 32 rfl (by decide) ?_; intro Ah ch w1 hck hok hbk)
  have HO := hd hok
  have HCK := hd hck
  have HBW := hd hbk
  clear hok hck hbk
  by_cases h32 : 32 < l.length
  · have q1 : decide ((32 : Int) < (l.length : Int)) = true := decide_eq_true (by omega)
    have HE := hd (show nameN l = sumN l by rw [nameN, if_pos h32])
    obtain ⟨cap, w2, hcv, hb2, hB2⟩ := conv_str (P := Tryd.prog) w1 HL.out (by have := HN.out; omega) Tryd.underlying9 Tryd.underlying40 Tryd.underlying5
    have HB2 := hd hB2
    replace HBW := hd (below_seq HBW.out hb2)
    clear h32 hB2 hb2
    go_wp2_with fail
    refine (sum_calls HB2.out (by have := HN.out; omega) (HT.out.below HBW.out) (HCO.out.below HBW.out)).mono ?_
    rintro e w3 ⟨v, rfl, ho, hb⟩
    obtain ⟨x, rfl, hxn, hx⟩ := ho.sl (n := 32) (sumN_length _)
    have HX := hd (show OwnK .u8 5 w.heap.size w3 x.v (nameN l) by rw [HE.out]; exact hx.lower HBW.out.size)
    have HXN := hd hxn
    replace HBW := hd (below_seq HBW.out hb)
    clear ho hx hxn hb hcv HB2 HO q1
    go_wp2_with fail
    refine (clone_any (own_bytes HX.out (nameN_ok HL.out)) (by have := HXN.out; omega)).mono ?_
    rintro e w4 ⟨v, rfl, ho, hb⟩
    obtain ⟨y, rfl, hyn, hy⟩ := ho.sl (n := 32) (nameN_length _)
    have HY := hd (hy.lower HBW.out.size)
    have HYN := hd hyn
    replace HX := hd (HX.out.below hb)
    replace HBW := hd (below_seq HBW.out hb)
    clear ho hy hyn hb
    go_wp2
    have hal := below_alloc (Below.refl w4.heap.size w4) (.cells (stC y x ⟨none, 0, 0⟩ 0) 86)
    have h1 := blk_new w4 (.cells (stC y x ⟨none, 0, 0⟩ 0) 86)
    have h2 := HX.out.below hal
    have h3 := HY.out.below hal
    have h4 := below_seq HBW.out hal
    have h5 := HBW.out.size
    go_ret
    exact ⟨w4.heap.size, y, x, rfl, h1, h3, HYN.out, h2, HXN.out, h5, h4⟩
  · have q1 : decide ((32 : Int) < (l.length : Int)) = false := decide_eq_false (by omega)
    have HLE := hd (show l.length ≤ 32 by omega)
    have HE := hd (show nameN l = l ++ (List.replicate 32 0).drop l.length by rw [nameN, if_neg h32, List.drop_replicate])
    obtain ⟨gh, rfl, hgh, _⟩ := HO.out.at_ (by decide)
    clear h32 hgh
    go_upto_region 5 with ((with_reducible refine gate_dst (N := 15) rfl ?_); go_loud (refine op_copyS (w0 := w) 15 rfl rfl (.tmp 13) (.tmp 14) 40 9 5 rfl Tryd.underlying40 (by kernel_rfl) w.heap.size gh 32 ch (List.replicate 32 0) l HL.out rfl rfl HO.out HBW.out HLE.out ?_); intro w3 ho3 hb3 hg3)
    have HX := hd (show OwnK .u8 5 w.heap.size w3 (.slice (some ⟨gh, 0, none⟩) 32 ch) (nameN l) by rw [HE.out]; exact ho3)
    replace HBW := hd hb3
    clear ho3 hb3 hg3 HO q1
    go_wp2_with fail
    refine (clone_any (own_bytes HX.out (nameN_ok HL.out)) (by decide)).mono ?_
    rintro e w4 ⟨v, rfl, ho, hb⟩
    obtain ⟨y, rfl, hyn, hy⟩ := ho.sl (n := 32) (nameN_length _)
    have HY := hd (hy.lower HBW.out.size)
    have HYN := hd hyn
    replace HX := hd (HX.out.below hb)
    replace HBW := hd (below_seq HBW.out hb)
    clear ho hy hyn hb
    go_wp2
    have hal := below_alloc (Below.refl w4.heap.size w4) (.cells (stC y ⟨some ⟨gh, 0, none⟩, 32, ch⟩ ⟨none, 0, 0⟩ 0) 86)
    have h1 := blk_new w4 (.cells (stC y ⟨some ⟨gh, 0, none⟩, 32, ch⟩ ⟨none, 0, 0⟩ 0) 86)
    have h2 := HX.out.below hal
    have h3 := HY.out.below hal
    have h4 := below_seq HBW.out hal
    have h5 := HBW.out.size
    go_ret
    exact ⟨w4.heap.size, y, ⟨some ⟨gh, 0, none⟩, 32, ch⟩, rfl, h1, h3, HYN.out, h2, rfl, h5, h4⟩
end Go.Proofs.YtlgdplodglchaaaDoor
