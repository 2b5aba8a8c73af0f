/- Texts put together: FragRD FragRE FragRF FragRG FragRS. -/
import Derived.Test.YtcmiajnndmaeiaaGRefA
import Derived.Test.YtcmiajnndmaeiaaGRefP
import Derived.Test.YtcmiajnndmaeiaaPFragPlaysx3
/- Entries as the reference's rows hold them; the walk through the reference's oldest. -/
set_option linter.unusedVariables false
set_option linter.unusedSimpArgs false
namespace Go.Proofs.Ytcmiajnndmaeiaa
open Go.RowKit Go.Proofs.YtcmiajnndmaeiaaW.PrintWords Go.Proofs.YtcmiajnndmaeiaaW.PrintLast Go.Proofs.YtcmiajnndmaeiaaW.PrintMore
open PFragPlays (S80 k80 at_T80 rd_T80 z80)
def s80 (e : Ent) : S80 := ⟨e.peer, e.msg, (e.born : Int), e.parts.map strOf⟩
def oz : Option Nat → Int
  | none => -1
  | some a => (a : Int)
theorem rd_at {es : List Ent} {k : Nat} (h : k < es.length) : rd_T80 (es.map s80) (k : Int) = s80 es[k] := by
  unfold rd_T80
  rw [Int.toNat_natCast, List.getD_eq_getElem?_getD, List.getElem?_map, List.getElem?_eq_getElem h]
  rfl
theorem strOf_size (l : List Nat) : (strOf l).size = l.length := by
  rw [← data_length, strOf_data, List.length_map]
theorem sizeT_map (ps : List (List Nat)) : sizeT (ps.map strOf) = sizeL ps := by
  unfold sizeT sizeL
  rw [List.map_map]
  congr 1
  exact List.map_congr_left (fun l _ => strOf_size l)
theorem totT_map (es : List Ent) : totT (es.map s80) = totE es := by
  unfold totT totE
  rw [List.map_map]
  congr 1
  exact List.map_congr_left (fun e _ => sizeT_map e.parts)
theorem heldT_map (peer : ByteArray) (es : List Ent) : heldT peer (es.map s80) = heldE peer es := by
  unfold heldT heldE mineE
  rw [List.map_map]
  congr 1
  exact List.map_congr_left (fun e _ => by
    show (if (e.peer.toList == peer.toList) = true then sizeT (e.parts.map strOf) else 0) = _
    rw [sizeT_map])
theorem idx_map (peer : ByteArray) (msg : Int) (es : List Ent) : idxZ (ownT peer msg) (es.map s80) = idxZ (ownE peer msg) es := by
  unfold idxZ
  rw [List.findIdx_map, List.length_map]
  rfl
theorem RefOk.of {es : List Ent} (h : ∀ e ∈ es, EntOk e) : ∀ x ∈ es.map s80, RefOk x := by
  intro x hx
  obtain ⟨e, he, rfl⟩ := List.mem_map.1 hx
  have h1 := h e he
  refine ⟨?_, fun t ht => ?_⟩
  · show (e.parts.map strOf).length ≤ 64
    rw [List.length_map]
    exact h1.few
  · obtain ⟨l, hl, rfl⟩ := List.mem_map.1 (show t ∈ e.parts.map strOf from ht)
    rw [strOf_size]
    exact h1.small l hl
theorem oldK_step {p : Ent → Bool} {es : List Ent} {k : Nat} (h : k < es.length) : oldK p es (k + 1) = match oldK p es k with
      | none => if p es[k] then some k else none
      | some a => if p es[k] && decide (es[k].born < (es[a]?.map Ent.born).getD 0) then some k else some a := by
  rw [oldK, List.getElem?_eq_getElem h]
  rfl
theorem oldK_skip {p : Ent → Bool} {es : List Ent} {k : Nat} (h : k < es.length) (hp : p es[k] = false) : oldK p es (k + 1) = oldK p es k := by
  rw [oldK_step h, hp]
  cases oldK p es k <;> rfl
set_option maxHeartbeats 1000000 in
set_option maxRecDepth 100000 in
theorem refoldest_calls {P A G msg : Int} {Ab : Option Addr} {n c : Nat} {es : List Ent} {w : World} {peer : ByteArray} (h : Kd.C k80 w Ab n (es.map s80)) (hn : n = es.length) (hc : n ≤ c) (hl : n ≤ 1000000) :
    Calls Try.prog 39 #[.agg #[.int .i64 P, .int .i64 A, .int .u64 G, .slice Ab n c], .string peer, .int .i64 msg] w fun e w' => e = .returned (.int .i64 (oz (oldK (otherE peer msg) es n))) ∧ Below w.heap.size w w' := by
  have hal := below_alloc (Below.refl w.heap.size w) (.cells #[.int .i64 P, .int .i64 A, .int .u64 G, .slice Ab n c] 44)
  have hbk := blk_new w (.cells #[.int .i64 P, .int .i64 A, .int .u64 G, .slice Ab n c] 44)
  have HT := hd (Kd.C_below h hal)
  have HAL := hd hal
  have HBK := hd hbk
  have HN := hd hn
  have n9 : (n : Int) ≤ 1000000 := by omega
  have hnc : (n : Int) ≤ c := by omega
  clear h hal hbk hn
  go_enter Try.func39, Try.ntmps39
  go_upto_region 3 with (fail)
  generalize (w.alloc (.cells #[.int .i64 P, .int .i64 A, .int .u64 G, .slice Ab n c] 44)) = w1 at HT HAL HBK ⊢
  generalize w.heap.size = pb at HBK ⊢
  go_loopw [7, 8] (fun u7 u8 wr => ∃ k : Nat, k ≤ n ∧ u8 = .int .i64 k ∧ u7 = .int .i64 (oz (oldK (otherE peer msg) es k)) ∧ Below w1.heap.size w1 wr) (fun _ u8 _ => n - (intOf u8).toNat)
  case atStart => exact ⟨0, Nat.zero_le _, rfl, rfl, Below.refl _ _⟩
  case round =>
    obtain ⟨k, hk, rfl, rfl, hb⟩ := hrel
    have d3 : wr.cell? ⟨pb, 3, none⟩ = some (.slice Ab n c) := by rw [blk_cell (blk_below HBK.out hb)]; rfl
    by_cases hlt : k < n
    · obtain ⟨ad, A3, c3, rfl, e0, e1, e2, e3, hc3, hts⟩ := at_T80 (Kd.C_below HT.out hb) (k : Int) (by omega) (by omega)
      rw [Int.toNat_natCast] at e0 e1 e2 e3
      have hkx : k < es.length := by rw [← HN.out]; exact hlt
      rw [rd_at hkx] at e0 e1 e2 e3 hc3 hts
      dsimp only [s80] at e0 e1 e2 e3
      have HSK := hd (fun hp => oldK_skip (p := otherE peer msg) hkx hp)
      have HST := hd (oldK_step (p := otherE peer msg) hkx)
      have HOS := hd (fun a => oldK_some (p := otherE peer msg) (es := es) (k := k) (a := a))
      generalize es[k] = x at *
      have i1 : (k : Int) < n := by omega
      clear hts hc3 e3
      cases hq : (x.peer.toList == peer.toList)
      · have HQ := hd (HSK.out (show otherE peer msg x = false by unfold otherE; rw [hq]; rfl))
        go_wp2
        go_quiet (fail)
        go_wp2
        go_roundw
        case rel => exact ⟨k + 1, by omega, by go_num, by rw [HQ.out], below_seq hb (pw_below_drewN (Below.refl _ _) _)⟩
        case measure => simp [intOf]; omega
      · cases hm : (x.msg != msg)
        · have HQ := hd (HSK.out (show otherE peer msg x = false by unfold otherE; rw [hq, hm]; rfl))
          go_wp2
          go_quiet (fail)
          go_wp2
          go_roundw
          case rel => exact ⟨k + 1, by omega, by go_num, by rw [HQ.out], below_seq hb (pw_below_drewN (Below.refl _ _) _)⟩
          case measure => simp [intOf]; omega
        · have HP := hd (show otherE peer msg x = true by unfold otherE; rw [hq, hm]; rfl)
          obtain ⟨ok, hok⟩ : ∃ ok, Aside0 (oldK (otherE peer msg) es k = ok) := ⟨_, ⟨rfl⟩⟩
          have HS2 := hd (HST.out)
          rw [hok.out, HP.out] at HS2
          rw [hok.out]
          cases ok with
          | none =>
            unfold oz
            go_wp2
            go_quiet (fail)
            go_wp2
            go_roundw
            case rel => exact ⟨k + 1, by omega, by go_num, by rw [HS2.out]; rfl, below_seq hb (pw_below_drewN (Below.refl _ _) _)⟩
            case measure => simp [intOf]; omega
          | some a =>
            obtain ⟨hak, y, hy, _⟩ := HOS.out a hok.out
            have hax : a < es.length := by omega
            obtain ⟨ad', A3', c3', had, _, _, e2', _, _, _⟩ := at_T80 (Kd.C_below HT.out hb) (a : Int) (by omega) (by omega)
            injection had with had
            subst had
            rw [Int.toNat_natCast] at e2'
            rw [rd_at hax] at e2'
            dsimp only [s80] at e2'
            have hay : es[a] = y := by rw [List.getElem?_eq_getElem hax] at hy; exact Option.some.inj hy
            rw [hay] at e2'
            have HS3 := hd (show oldK (otherE peer msg) es (k + 1) = if decide (x.born < y.born) = true then some k else some a by
              rw [HS2.out]
              dsimp only
              rw [hy, Bool.true_and]
              rfl)
            have q9 : decide ((a : Int) < 0) = false := by simp
            have a1 : (a : Int) < n := by omega
            clear hay hy hax HS2 hak
            unfold oz
            obtain ⟨xb, hxb⟩ : ∃ xb, Aside0 (x.born = xb) := ⟨_, ⟨rfl⟩⟩
            obtain ⟨yb, hyb⟩ : ∃ yb, Aside0 (y.born = yb) := ⟨_, ⟨rfl⟩⟩
            rw [hxb.out] at e2 HS3
            rw [hyb.out] at e2' HS3
            cases hbb : decide (xb < yb)
            · have HBB := hd hbb
              go_wp2
              go_quiet (fail)
              go_wp2
              go_roundw
              case rel => exact ⟨k + 1, by omega, by go_num, by rw [HS3.out, HBB.out]; rfl, below_seq hb (pw_below_drewN (Below.refl _ _) _)⟩
              case measure => simp [intOf]; omega
            · have HBB := hd hbb
              go_wp2
              go_quiet (fail)
              go_wp2
              go_roundw
              case rel => exact ⟨k + 1, by omega, by go_num, by rw [HS3.out, HBB.out]; rfl, below_seq hb (pw_below_drewN (Below.refl _ _) _)⟩
              case measure => simp [intOf]; omega
    · have i1 : (n : Int) ≤ k := by omega
      go_wp2
      go_ret
      obtain rfl : k = n := by omega
      exact ⟨rfl, below_seq HAL.out hb⟩
end Go.Proofs.Ytcmiajnndmaeiaa
/- The walks through the reference's Expire, Drop, without. -/
set_option linter.unusedVariables false
set_option linter.unusedSimpArgs false
namespace Go.Proofs.Ytcmiajnndmaeiaa
open Go.RowKit Go.Proofs.YtcmiajnndmaeiaaW.PrintWords Go.Proofs.YtcmiajnndmaeiaaW.PrintLast Go.Proofs.YtcmiajnndmaeiaaW.PrintMore
open PFragPlays (S80 k80 at_T80 rd_T80 z80 k80_openF k80_mkF)
theorem Try.infoE : (Try.prog.info? 80).map (fun i => (i.zero, i.size, i.bytes)) = some (some (.agg #[.string ⟨#[]⟩, .int .i64 0, .int .u64 0, .slice none 0 0]), 4, 56) := by kernel_rfl
/-- A row of the reference's entries; what it leads to lies in ok. -/
structure RowR (ok : Nat → Prop) (w : World) (A : Option Addr) (n c : Nat) (es : List Ent) : Prop where
  f : Kd.F k80 w ok A n (es.map s80)
  cap : n ≤ c
section
variable {ok ok' : Nat → Prop} {w w1 : World} {A : Option Addr} {n c : Nat} {es : List Ent}
theorem RowR.len (h : RowR ok w A n c es) : n = es.length := by have := Kd.F_len h.f; rw [List.length_map] at this; exact this.symm
theorem RowR.C (h : RowR ok w A n c es) : Kd.C k80 w A n (es.map s80) := Kd.F_now h.f
theorem RowR.below (h : RowR ok w A n c es) (hb : Below w.heap.size w w1) : RowR ok w1 A n c es := ⟨Kd.F_below h.f hb, h.cap⟩
theorem RowR.mono (h : RowR ok w A n c es) (hk : ∀ k, ok k → ok' k) : RowR ok' w A n c es := ⟨Kd.F_mono h.f hk, h.cap⟩
theorem RowR.bound (h : RowR ok w A n c es) : RowR (fun k => ok k ∧ k < w.heap.size) w A n c es := ⟨Kd.F_bound h.f, h.cap⟩
theorem RowR.mod {S : Nat → Prop} (h : RowR ok w A n c es) (hm : Mod S w w1) (hs : ∀ k, ok k → ¬ S k) : RowR ok w1 A n c es := ⟨Kd.F_step h.f (fun k hk hlt => hm.same k hlt (hs k hk)), h.cap⟩
theorem RowR.nil (ok : Nat → Prop) (w : World) : RowR ok w none 0 0 [] := ⟨Kd.F_nil _ _ _, Nat.le_refl _⟩
/-- An entry's cells. -/
theorem RowR.get {k : Nat} (h : RowR ok w A n c es) (hk : k < es.length) : ∃ ad A3 c3, A = some ad ∧ w.cell? (ad.add (k * 4)) = some (.string es[k].peer) ∧ w.cell? ⟨(ad.add (k * 4)).block, (ad.add (k * 4)).off + 1, none⟩ = some (.int .i64 es[k].msg) ∧ w.cell? ⟨(ad.add (k * 4)).block, (ad.add (k * 4)).off + 2, none⟩ = some (.int .u64 (es[k].born : Int)) ∧ w.cell? ⟨(ad.add (k * 4)).block, (ad.add (k * 4)).off + 3, none⟩ = some (.slice A3 es[k].parts.length c3) ∧ es[k].parts.length ≤ c3 ∧
    Kd.FK k80 w ok (s80 es[k]) [.string es[k].peer, .int .i64 es[k].msg, .int .u64 (es[k].born : Int), .slice A3 es[k].parts.length c3] ∧ Kd.F Kd.string w ok A3 es[k].parts.length (es[k].parts.map strOf) := by
  have hl := h.len
  obtain ⟨ad, cs, hA, _, hF, hc, _⟩ := Kd.F_get h.f z80 (k : Int) (by omega) (by omega)
  rw [Int.toNat_natCast] at hF hc
  have he : (es.map s80).getD k z80 = s80 es[k] := by rw [List.getD_eq_getElem?_getD, List.getElem?_map, List.getElem?_eq_getElem hk]; rfl
  rw [he] at hF
  obtain ⟨A3, c3, rfl, l3, g3⟩ := k80_openF hF
  have hz : k80.sz = 4 := rfl
  rw [hz] at hc
  dsimp only [s80] at hF hc l3 g3
  rw [List.length_map] at hF hc l3 g3
  exact ⟨ad, A3, c3, hA, hc 0 _ rfl, by rw [← add_field _ _ 1 (by omega)]; exact hc 1 _ rfl, by rw [← add_field _ _ 2 (by omega)]; exact hc 2 _ rfl, by rw [← add_field _ _ 3 (by omega)]; exact hc 3 _ rfl, l3, hF, g3⟩
end
section
variable {ops : Array Oper} {rest : List Oper} {o : Oper} {a : Act} {Q : Exit → Act → World → Prop} {Kc : Act → World → Prop}
/-- append(v, e): behind the variadic's box. -/
theorem op_appendE {w0 W : World} (N : Tmp) (hd : o.dst = some N) (base : Nat) (s x : Operand) (ho : o.op = .call { callee := .builtin .append, args := #[s, x], argTypes := #[42, 42] }) (hgd : o.guard = none)
    (v : Value) (l : List S80) (y : S80) (cs : List Value) (ok okp : Nat → Prop) (hs : a.eval s = v) (hx : a.eval x = .slice (some ⟨W.heap.size, 0, none⟩) 1 1) (hp : Kd.FK k80 W okp y cs) (hokp : ∀ k, okp k → ok k ∧ some k ≠ v.ownBlock) (hfresh : ∀ k, W.heap.size ≤ k → ok k)
    (HO : Kd.N k80 80 W base ok v l) (HB : Below base w0 W) (hbase : base ≤ W.heap.size) (hl : l.length ≤ 1000000)
    (h : ∀ v1 w1, Kd.N k80 80 w1 base ok v1 (l ++ [y]) → Below base w0 w1 → W.grownBy w1 v.ownBlock → wpList Try.prog ops Q rest (a.put o.dst v1) w1) :
    wpList Try.prog ops Q (o :: rest) a (W.alloc (.cells cs.toArray 80)) :=
  Kd.N_append k80 (w0 := w0) (W := W) base hgd s x 42 80 _ 56 ho Try.underlying42 Try.infoE rfl (by decide) (by decide) v l y cs ok okp hs hx hp hokp hfresh HO HB hbase (by omega) (fun v1 w1 h1 hb hg _ => h v1 w1 h1 hb hg)
/-- append(v, ys...). -/
theorem op_appendEs {w0 W : World} (N : Tmp) (hd : o.dst = some N) (base : Nat) (s x : Operand) (ho : o.op = .call { callee := .builtin .append, args := #[s, x], argTypes := #[42, 42] }) (hgd : o.guard = none)
    (v : Value) (l ys : List S80) (A : Option Addr) (m c : Nat) (ok okp : Nat → Prop) (hs : a.eval s = v) (hx : a.eval x = .slice A m c) (HO : Kd.N k80 80 W base ok v l) (HR : Kd.F k80 W okp A m ys) (hokp : ∀ k, okp k → ok k ∧ some k ≠ v.ownBlock) (hfresh : ∀ k, W.heap.size ≤ k → ok k)
    (HB : Below base w0 W) (hbase : base ≤ W.heap.size) (hl : l.length + m ≤ 1000000)
    (h : ∀ v1 w1, Kd.N k80 80 w1 base ok v1 (l ++ ys) → Below base w0 w1 → W.grownBy w1 v.ownBlock → wpList Try.prog ops Q rest (a.put o.dst v1) w1) :
    wpList Try.prog ops Q (o :: rest) a W :=
  Kd.N_append_rows k80 (w0 := w0) (W := W) base hgd s x 42 80 _ 56 ho Try.underlying42 Try.infoE rfl (by decide) (by decide) v l ys A m c ok okp hs hx HO HR hokp hfresh HB hbase (by omega) (fun v1 w1 h1 hb hg _ => h v1 w1 h1 hb hg)
end
theorem blk_set4 {w : World} {g t : Nat} {x0 x1 x2 x3 : Value} (h : w.heap[g]? = some (.cells #[x0, x1, x2, x3] t (0, 0))) (a b c d : Value) :
    ((((w.setCell ⟨g, 0, none⟩ a).setCell ⟨g, 1, none⟩ b).setCell ⟨g, 2, none⟩ c).setCell ⟨g, 3, none⟩ d).heap[g]? = some (.cells #[a, b, c, d] t (0, 0)) := by
  rw [blk_set (blk_set (blk_set (blk_set h 0 a) 1 b) 2 c) 3 d]
  rfl
theorem mod_set4 {w : World} {g : Nat} (a b c d : Value) : Mod (fun k => k = g) w ((((w.setCell ⟨g, 0, none⟩ a).setCell ⟨g, 1, none⟩ b).setCell ⟨g, 2, none⟩ c).setCell ⟨g, 3, none⟩ d) :=
  (((Mod.set (S := fun k => k = g) w rfl a).trans (Mod.set (S := fun k => k = g) _ rfl b)).trans (Mod.set (S := fun k => k = g) _ rfl c)).trans (Mod.set (S := fun k => k = g) _ rfl d)
/-- A buffer by value that is given back. -/
def BRet (P A G : Int) (ok : Nat → Prop) (w : World) (es : List Ent) (e : Ending) (w' : World) : Prop :=
  ∃ A' n' c', e = .returned (.agg #[.int .i64 P, .int .i64 A, .int .u64 G, .slice A' n' c']) ∧ RowR (fun k => ok k ∨ w.heap.size ≤ k) w' A' n' c' es ∧ Below w.heap.size w w'
theorem RowR.ofN {ok : Nat → Prop} {base : Nat} {w : World} {A : Option Addr} {n c : Nat} {es : List Ent} (h : Kd.N k80 80 w base ok (.slice A n c) (es.map s80)) : RowR ok w A n c es := ⟨Kd.N_F h, (Kd.N_reads' h).2.1⟩
theorem Mod.belowB {S : Nat → Prop} {B : Nat} {w w1 w2 : World} (h : Below B w w1) (k : Mod S w1 w2) (hs : ∀ k, S k → B ≤ k) (hB : B ≤ w1.heap.size) : Below B w w2 := h.trans (k.toBelow hs hB)
end Go.Proofs.Ytcmiajnndmaeiaa
/- The walks through the reference's Expire, Drop, without. -/
set_option linter.unusedVariables false
set_option linter.unusedSimpArgs false
namespace Go.Proofs.Ytcmiajnndmaeiaa
open Go.RowKit Go.Proofs.YtcmiajnndmaeiaaW.PrintWords Go.Proofs.YtcmiajnndmaeiaaW.PrintLast Go.Proofs.YtcmiajnndmaeiaaW.PrintMore
open PFragPlays (S80 k80 at_T80 rd_T80 z80 k80_openF k80_mkF)
theorem filter_snoc {α : Type} {q : α → Bool} {es : List α} {k : Nat} (h : k < es.length) : (es.take (k + 1)).filter q = (es.take k).filter q ++ if q es[k] = true then [es[k]] else [] := by
  rw [List.take_succ_eq_append_getElem h, List.filter_append]
  congr 1
  by_cases hq : q es[k] = true
  · rw [if_pos hq, List.filter_cons_of_pos hq, List.filter_nil]
  · rw [if_neg hq, List.filter_cons_of_neg hq, List.filter_nil]
set_option maxHeartbeats 4000000 in
set_option maxRecDepth 100000 in
theorem refexpire_calls {P A : Int} {G : Nat} {ok : Nat → Prop} {Ab : Option Addr} {n c : Nat} {es : List Ent} {w : World} {now : Nat} (hnow : now < 2 ^ 64) (h : RowR ok w Ab n c es) (hl : n ≤ 1000000) :
    Calls Try.prog 19 #[.agg #[.int .i64 P, .int .i64 A, .int .u64 (G : Int), .slice Ab n c], .int .u64 (now : Int)] w (BRet P A G ok w (es.filter fun e => !goneB G now e.born)) := by
  have hal := below_alloc (below_alloc (Below.refl w.heap.size w) (.cells #[.int .i64 P, .int .i64 A, .int .u64 (G : Int), .slice Ab n c] 44)) (.cells #[.int .i64 0, .int .i64 0, .int .u64 0, .slice none 0 0] 44)
  have hbx : ((w.alloc (.cells #[.int .i64 P, .int .i64 A, .int .u64 (G : Int), .slice Ab n c] 44)).alloc (.cells #[.int .i64 0, .int .i64 0, .int .u64 0, .slice none 0 0] 44)).heap[w.heap.size]? = _ := blk_below (blk_new w (.cells #[.int .i64 P, .int .i64 A, .int .u64 (G : Int), .slice Ab n c] 44)) (below_alloc (Below.refl _ _) _)
  have hrx : ((w.alloc (.cells #[.int .i64 P, .int .i64 A, .int .u64 (G : Int), .slice Ab n c] 44)).alloc (.cells #[.int .i64 0, .int .i64 0, .int .u64 0, .slice none 0 0] 44)).heap[w.heap.size + 1]? = some (.cells #[.int .i64 0, .int .i64 0, .int .u64 0, .slice none 0 0] 44 (0, 0)) := by
    have := blk_new (w.alloc (.cells #[.int .i64 P, .int .i64 A, .int .u64 (G : Int), .slice Ab n c] 44)) (.cells #[.int .i64 0, .int .i64 0, .int .u64 0, .slice none 0 0] 44)
    simpa using this
  have HT := hd (h.bound.below hal)
  have HN := hd h.len
  have n9 : (n : Int) ≤ 1000000 := by omega
  have hnc : (n : Int) ≤ c := by have := h.cap; omega
  have hsz : ((w.alloc (.cells #[.int .i64 P, .int .i64 A, .int .u64 (G : Int), .slice Ab n c] 44)).alloc (.cells #[.int .i64 0, .int .i64 0, .int .u64 0, .slice none 0 0] 44)).heap.size = w.heap.size + 2 := by simp
  have HAL := hd hal
  have HBX := hd hbx
  have HRX := hd hrx
  clear h hal hbx hrx
  have HNW := hd hnow
  clear hnow
  go_enter Try.func19, Try.ntmps19
  go_upto_region 3 with (fail)
  generalize ((w.alloc (.cells #[.int .i64 P, .int .i64 A, .int .u64 (G : Int), .slice Ab n c] 44)).alloc (.cells #[.int .i64 0, .int .i64 0, .int .u64 0, .slice none 0 0] 44)) = w2 at HT HAL HBX HRX hsz ⊢
  obtain ⟨pb, hpb⟩ : ∃ pb, Aside0 (w.heap.size = pb) := ⟨_, ⟨rfl⟩⟩
  have HPZ := hd (show pb ≤ w2.heap.size ∧ w2.heap.size = pb + 2 by rw [← hpb.out, hsz]; omega)
  have HAL2 := HAL
  rw [hpb.out] at HT HBX HRX HAL2 ⊢
  clear hsz
  go_loopw [5, 6] (fun u5 u6 wr => ∃ k : Nat, k ≤ n ∧ u6 = .int .i64 k ∧ Kd.N k80 80 wr w2.heap.size (fun k => (ok k ∧ k < pb) ∨ w2.heap.size ≤ k) u5 (((es.take k).filter fun e => !goneB G now e.born).map s80) ∧ Below w2.heap.size w2 wr) (fun _ u6 _ => n - (intOf u6).toNat)
  case atStart => exact ⟨0, Nat.zero_le _, rfl, Kd.N_nil _ _ _ _ _, Below.refl _ _⟩
  case round =>
    obtain ⟨k, hk, rfl, hnr, hb⟩ := hrel
    have hbxr := blk_below HBX.out hb
    have d3 : wr.cell? ⟨pb, 3, none⟩ = some (.slice Ab n c) := by rw [blk_cell hbxr]; rfl
    have d2 : wr.cell? ⟨pb, 2, none⟩ = some (.int .u64 (G : Int)) := by rw [blk_cell hbxr]; rfl
    by_cases hlt : k < n
    · have hkx : k < es.length := by rw [← HN.out]; exact hlt
      obtain ⟨ad, A3, c3, rfl, e0, e1, e2, e3, hc3, hfk, _⟩ := (HT.out.below hb).get hkx
      have HKF := hd (filter_snoc (q := fun e => !goneB G now e.born) hkx)
      have HOK := hd (fun k (hk : ok k ∧ k < pb) => (show ((ok k ∧ k < pb) ∨ w2.heap.size ≤ k) ∧ some k ≠ u5.ownBlock from ⟨Or.inl hk, fun he => by have := Kd.N_base hnr k he.symm; have := HPZ.out.1; have := hk.2; omega⟩))
      have HLN := hd (show (((es.take k).filter fun e => !goneB G now e.born).map s80).length ≤ 1000000 by
        rw [List.length_map]
        refine Nat.le_trans (List.length_filter_le _ _) ?_
        rw [List.length_take]
        omega)
      generalize es[k] = x at *
      have HNR := hd hnr
      have HBR := hd hb
      have HF0 := hd hfk
      clear hnr hb hfk hbxr hc3 hkx
      have i1 : (k : Int) < n := by omega
      obtain ⟨bo, HB0⟩ : ∃ bo, Aside0 (x.born = bo) := ⟨_, ⟨rfl⟩⟩
      by_cases hold : bo < now
      · obtain ⟨d, hd1⟩ : ∃ d, d = now - bo := ⟨_, rfl⟩
        have q1 : decide (now ≤ bo) = false := by simp; omega
        have hw : IntKind.u64.wrap ((now : Int) - (bo : Int)) = (d : Int) := by rw [show (now : Int) - (bo : Int) = ((d : Nat) : Int) by omega]; exact wrapN_u rfl (show d < 2 ^ 64 by have := HNW.out; omega)
        by_cases hdg : d ≤ G
        · have q2 : decide (d ≤ G) = true := by simp; exact hdg
          have HKP := hd (show (es.take (k + 1)).filter (fun e => !goneB G now e.born) = (es.take k).filter (fun e => !goneB G now e.born) ++ [x] by
            rw [HKF.out, if_pos]
            show (!goneB G now x.born) = true
            rw [HB0.out]
            unfold goneB
            rw [decide_eq_false (show ¬ G < now - bo by omega)]
            simp)
          rw [HB0.out] at e2 HF0
          clear hold hd1 hdg
          go_wp2
          go_quiet (fail)
          have hbq := pw_below_drewN (Below.refl wr.heap.size wr) nq
          have HN4 := hd (Kd.N_below HNR.out hbq)
          have HB4 := hd (below_seq HBR.out hbq)
          have HFK := hd (Kd.FK_below HF0.out hbq)
          have e0 := pw_cell_below hbq e0
          have e1 := pw_cell_below hbq e1
          have e2 := pw_cell_below hbq e2
          have e3 := pw_cell_below hbq e3
          have d3 := pw_cell_below hbq d3
          clear hbq
          generalize wr.drewN nq = w4 at HN4 HB4 HFK e0 e1 e2 e3 d3 ⊢
          go_wp2_with ((with_reducible refine gate_dst (N := 42) rfl ?_); at_builtin; refine op_appendE (w0 := w2) 42 rfl w2.heap.size (.tmp 35) (.tmp 41) rfl rfl u5 _ (s80 x) [.string x.peer, .int .i64 x.msg, .int .u64 (bo : Int), .slice A3 x.parts.length c3] (fun k => (ok k ∧ k < pb) ∨ w2.heap.size ≤ k) (fun k => ok k ∧ k < pb) rfl rfl HFK.out HOK.out (fun k hk => Or.inr (Nat.le_trans HB4.out.size hk)) HN4.out HB4.out HB4.out.size HLN.out ?_; intro v1 w5 hr1 hb5 hg5)
          go_roundw
          case rel => exact ⟨k + 1, by omega, by go_num, by rw [HKP.out, List.map_append]; exact hr1, hb5⟩
          case measure => simp [intOf]; omega
        · have q2 : decide (d ≤ G) = false := by simp; omega
          have HKP := hd (show (es.take (k + 1)).filter (fun e => !goneB G now e.born) = (es.take k).filter (fun e => !goneB G now e.born) by
            rw [HKF.out, if_neg, List.append_nil]
            show ¬ (!goneB G now x.born) = true
            rw [HB0.out]
            unfold goneB
            rw [decide_eq_true (show G < now - bo by omega), decide_eq_true hold]
            decide)
          rw [HB0.out] at e2 HF0
          clear hold hd1 hdg
          go_wp2
          go_quiet (fail)
          have hbq := pw_below_drewN (Below.refl wr.heap.size wr) nq
          have HN4 := hd (Kd.N_below HNR.out hbq)
          have HB4 := hd (below_seq HBR.out hbq)
          have HFK := hd (Kd.FK_below HF0.out hbq)
          have e0 := pw_cell_below hbq e0
          have e1 := pw_cell_below hbq e1
          have e2 := pw_cell_below hbq e2
          have e3 := pw_cell_below hbq e3
          have d3 := pw_cell_below hbq d3
          clear hbq
          generalize wr.drewN nq = w4 at HN4 HB4 HFK e0 e1 e2 e3 d3 ⊢
          go_wp2
          go_roundw
          case rel => exact ⟨k + 1, by omega, by go_num, by rw [HKP.out]; exact HN4.out, HB4.out⟩
          case measure => simp [intOf]; omega
      · have q1 : decide (now ≤ bo) = true := by simp; omega
        have HKP := hd (show (es.take (k + 1)).filter (fun e => !goneB G now e.born) = (es.take k).filter (fun e => !goneB G now e.born) ++ [x] by
          rw [HKF.out, if_pos]
          show (!goneB G now x.born) = true
          rw [HB0.out]
          unfold goneB
          rw [decide_eq_false hold]
          rfl)
        rw [HB0.out] at e2 HF0
        clear hold
        go_wp2
        go_quiet (fail)
        have hbq := pw_below_drewN (Below.refl wr.heap.size wr) nq
        have HN4 := hd (Kd.N_below HNR.out hbq)
        have HB4 := hd (below_seq HBR.out hbq)
        have HFK := hd (Kd.FK_below HF0.out hbq)
        have e0 := pw_cell_below hbq e0
        have e1 := pw_cell_below hbq e1
        have e2 := pw_cell_below hbq e2
        have e3 := pw_cell_below hbq e3
        have d3 := pw_cell_below hbq d3
        clear hbq
        generalize wr.drewN nq = w4 at HN4 HB4 HFK e0 e1 e2 e3 d3 ⊢
        go_wp2_with ((with_reducible refine gate_dst (N := 42) rfl ?_); at_builtin; refine op_appendE (w0 := w2) 42 rfl w2.heap.size (.tmp 35) (.tmp 41) rfl rfl u5 _ (s80 x) [.string x.peer, .int .i64 x.msg, .int .u64 (bo : Int), .slice A3 x.parts.length c3] (fun k => (ok k ∧ k < pb) ∨ w2.heap.size ≤ k) (fun k => ok k ∧ k < pb) rfl rfl HFK.out HOK.out (fun k hk => Or.inr (Nat.le_trans HB4.out.size hk)) HN4.out HB4.out HB4.out.size HLN.out ?_; intro v1 w5 hr1 hb5 hg5)
        go_roundw
        case rel => exact ⟨k + 1, by omega, by go_num, by rw [HKP.out, List.map_append]; exact hr1, hb5⟩
        case measure => simp [intOf]; omega
    · have i1 : (n : Int) ≤ k := by omega
      have hrb := blk_below HRX.out hb
      obtain rfl : k = n := by omega
      have htk : es.take k = es := List.take_of_length_le (by rw [← HN.out]; exact Nat.le_refl _)
      rw [htk] at hnr
      have HNR := hd hnr
      obtain ⟨A5, c5, hu5⟩ := Kd.N_slice hnr
      subst hu5
      generalize (((es.filter fun e => !goneB G now e.born).map s80)).length = n5 at *
      have hf3 := blk_frozen hbxr 3
      go_upto_region 8 with (fail)
      clear hf3
      have hm5 := Mod.set (S := fun k => k = pb) wr (g := pb) (i := 3) rfl (.slice A5 n5 c5)
      have hbx5 : (wr.setCell ⟨pb, 3, none⟩ (.slice A5 n5 c5)).heap[pb]? = some (.cells #[.int .i64 P, .int .i64 A, .int .u64 (G : Int), .slice A5 n5 c5] 44 (0, 0)) := by rw [blk_set hbxr 3 _]; rfl
      have hrx5 := hm5.block hrb (fun e => by omega)
      have HB5 := hd (Mod.belowB (HAL2.out.trans (hb.mono HPZ.out.1)) hm5 (fun k hk => Nat.le_of_eq hk.symm) (Nat.le_trans HPZ.out.1 hb.size))
      have HR5 := hd (RowR.ofN (Kd.N_step HNR.out (fun k hk hlt => hm5.same k hlt (fun e => by have := HPZ.out.2; rcases hk with h | h <;> omega))))
      clear hm5 hnr HNR hbxr hrb d2 d3 hb
      generalize wr.setCell ⟨pb, 3, none⟩ (.slice A5 n5 c5) = w5 at hbx5 hrx5 HB5 HR5 ⊢
      have d0 : w5.cell? ⟨pb, 0, none⟩ = some (.int .i64 P) := by rw [blk_cell hbx5]; rfl
      have d1 : w5.cell? ⟨pb, 1, none⟩ = some (.int .i64 A) := by rw [blk_cell hbx5]; rfl
      have d2 : w5.cell? ⟨pb, 2, none⟩ = some (.int .u64 (G : Int)) := by rw [blk_cell hbx5]; rfl
      have d3 : w5.cell? ⟨pb, 3, none⟩ = some (.slice A5 n5 c5) := by rw [blk_cell hbx5]; rfl
      have r0 : w5.cell? ⟨pb + 1, 0, none⟩ = some (.int .i64 0) := by rw [blk_cell hrx5]; rfl
      have r1 : w5.cell? ⟨pb + 1, 1, none⟩ = some (.int .i64 0) := by rw [blk_cell hrx5]; rfl
      have r2 : w5.cell? ⟨pb + 1, 2, none⟩ = some (.int .u64 0) := by rw [blk_cell hrx5]; rfl
      have r3 : w5.cell? ⟨pb + 1, 3, none⟩ = some (.slice none 0 0) := by rw [blk_cell hrx5]; rfl
      have f0 := blk_frozen hrx5 0
      have f1 := blk_frozen hrx5 1
      have f2 := blk_frozen hrx5 2
      have f3 := blk_frozen hrx5 3
      have HRX5 := hd hrx5
      clear hbx5 hrx5
      go_wp2
      have hm6 := mod_set4 (w := w5) (g := pb + 1) (.int .i64 P) (.int .i64 A) (.int .u64 (G : Int)) (.slice A5 n5 c5)
      refine bodyPost_ret (results_cell_row rfl _ _ (pb + 1) 44 #[.int .i64 P, .int .i64 A, .int .u64 (G : Int), .slice A5 n5 c5] (0, 0) _ rfl (blk_set4 HRX5.out _ _ _ _) Try.underlying44 rfl (by kernel_rfl)) rfl ?_
      refine ⟨A5, n5, c5, rfl, (HR5.out.mod hm6 (fun k hk e => by have := HPZ.out.2; rcases hk with h | h <;> omega)).mono (fun k hk => hk.elim (fun h => Or.inl h.1) (fun h => Or.inr (by rw [hpb.out]; have := HPZ.out.1; omega))), ?_⟩
      rw [hpb.out]
      exact Mod.belowB HB5.out hm6 (fun k hk => by omega) (by have := blk_lt HRX5.out; omega)
set_option maxHeartbeats 4000000 in
set_option maxRecDepth 100000 in
theorem refdrop_calls {P A : Int} {G : Nat} {ok : Nat → Prop} {Ab : Option Addr} {n c : Nat} {es : List Ent} {w : World} {peer : ByteArray} (h : RowR ok w Ab n c es) (hl : n ≤ 1000000) :
    Calls Try.prog 21 #[.agg #[.int .i64 P, .int .i64 A, .int .u64 (G : Int), .slice Ab n c], .string peer] w (BRet P A G ok w (es.filter fun e => !mineE peer e)) := by
  have hal := below_alloc (below_alloc (Below.refl w.heap.size w) (.cells #[.int .i64 P, .int .i64 A, .int .u64 (G : Int), .slice Ab n c] 44)) (.cells #[.int .i64 0, .int .i64 0, .int .u64 0, .slice none 0 0] 44)
  have hbx : ((w.alloc (.cells #[.int .i64 P, .int .i64 A, .int .u64 (G : Int), .slice Ab n c] 44)).alloc (.cells #[.int .i64 0, .int .i64 0, .int .u64 0, .slice none 0 0] 44)).heap[w.heap.size]? = _ := blk_below (blk_new w (.cells #[.int .i64 P, .int .i64 A, .int .u64 (G : Int), .slice Ab n c] 44)) (below_alloc (Below.refl _ _) _)
  have hrx : ((w.alloc (.cells #[.int .i64 P, .int .i64 A, .int .u64 (G : Int), .slice Ab n c] 44)).alloc (.cells #[.int .i64 0, .int .i64 0, .int .u64 0, .slice none 0 0] 44)).heap[w.heap.size + 1]? = some (.cells #[.int .i64 0, .int .i64 0, .int .u64 0, .slice none 0 0] 44 (0, 0)) := by
    have := blk_new (w.alloc (.cells #[.int .i64 P, .int .i64 A, .int .u64 (G : Int), .slice Ab n c] 44)) (.cells #[.int .i64 0, .int .i64 0, .int .u64 0, .slice none 0 0] 44)
    simpa using this
  have HT := hd (h.bound.below hal)
  have HN := hd h.len
  have n9 : (n : Int) ≤ 1000000 := by omega
  have hnc : (n : Int) ≤ c := by have := h.cap; omega
  have hsz : ((w.alloc (.cells #[.int .i64 P, .int .i64 A, .int .u64 (G : Int), .slice Ab n c] 44)).alloc (.cells #[.int .i64 0, .int .i64 0, .int .u64 0, .slice none 0 0] 44)).heap.size = w.heap.size + 2 := by simp
  have HAL := hd hal
  have HBX := hd hbx
  have HRX := hd hrx
  clear h hal hbx hrx
  go_enter Try.func21, Try.ntmps21
  go_upto_region 3 with (fail)
  generalize ((w.alloc (.cells #[.int .i64 P, .int .i64 A, .int .u64 (G : Int), .slice Ab n c] 44)).alloc (.cells #[.int .i64 0, .int .i64 0, .int .u64 0, .slice none 0 0] 44)) = w2 at HT HAL HBX HRX hsz ⊢
  obtain ⟨pb, hpb⟩ : ∃ pb, Aside0 (w.heap.size = pb) := ⟨_, ⟨rfl⟩⟩
  have HPZ := hd (show pb ≤ w2.heap.size ∧ w2.heap.size = pb + 2 by rw [← hpb.out, hsz]; omega)
  have HAL2 := HAL
  rw [hpb.out] at HT HBX HRX HAL2 ⊢
  clear hsz
  go_loopw [5, 6] (fun u5 u6 wr => ∃ k : Nat, k ≤ n ∧ u6 = .int .i64 k ∧ Kd.N k80 80 wr w2.heap.size (fun k => (ok k ∧ k < pb) ∨ w2.heap.size ≤ k) u5 (((es.take k).filter fun e => !mineE peer e).map s80) ∧ Below w2.heap.size w2 wr) (fun _ u6 _ => n - (intOf u6).toNat)
  case atStart => exact ⟨0, Nat.zero_le _, rfl, Kd.N_nil _ _ _ _ _, Below.refl _ _⟩
  case round =>
    obtain ⟨k, hk, rfl, hnr, hb⟩ := hrel
    have hbxr := blk_below HBX.out hb
    have d3 : wr.cell? ⟨pb, 3, none⟩ = some (.slice Ab n c) := by rw [blk_cell hbxr]; rfl
    have d2 : wr.cell? ⟨pb, 2, none⟩ = some (.int .u64 (G : Int)) := by rw [blk_cell hbxr]; rfl
    by_cases hlt : k < n
    · have hkx : k < es.length := by rw [← HN.out]; exact hlt
      obtain ⟨ad, A3, c3, rfl, e0, e1, e2, e3, hc3, hfk, _⟩ := (HT.out.below hb).get hkx
      have HKF := hd (filter_snoc (q := fun e => !mineE peer e) hkx)
      have HOK := hd (fun k (hk : ok k ∧ k < pb) => (show ((ok k ∧ k < pb) ∨ w2.heap.size ≤ k) ∧ some k ≠ u5.ownBlock from ⟨Or.inl hk, fun he => by have := Kd.N_base hnr k he.symm; have := HPZ.out.1; have := hk.2; omega⟩))
      have HLN := hd (show (((es.take k).filter fun e => !mineE peer e).map s80).length ≤ 1000000 by
        rw [List.length_map]
        refine Nat.le_trans (List.length_filter_le _ _) ?_
        rw [List.length_take]
        omega)
      generalize es[k] = x at *
      have HNR := hd hnr
      have HBR := hd hb
      have HF0 := hd hfk
      clear hnr hb hfk hbxr hc3 hkx
      have i1 : (k : Int) < n := by omega
      cases hq : (x.peer.toList == peer.toList)
      · have hq2 : (x.peer.toList != peer.toList) = true := by unfold bne; rw [hq]; rfl
        have HKP := hd (show (es.take (k + 1)).filter (fun e => !mineE peer e) = (es.take k).filter (fun e => !mineE peer e) ++ [x] by
          rw [HKF.out, if_pos]
          show (!mineE peer x) = true
          unfold mineE
          rw [hq]
          rfl)
        go_wp2_with ((with_reducible refine gate_dst (N := 29) rfl ?_); at_builtin; refine op_appendE (w0 := w2) 29 rfl w2.heap.size (.tmp 22) (.tmp 28) rfl rfl u5 _ (s80 x) [.string x.peer, .int .i64 x.msg, .int .u64 (x.born : Int), .slice A3 x.parts.length c3] (fun k => (ok k ∧ k < pb) ∨ w2.heap.size ≤ k) (fun k => ok k ∧ k < pb) rfl rfl HF0.out HOK.out (fun k hk => Or.inr (Nat.le_trans HBR.out.size hk)) HNR.out HBR.out HBR.out.size HLN.out ?_; intro v1 w5 hr1 hb5 hg5)
        go_roundw
        case rel => exact ⟨k + 1, by omega, by go_num, by rw [HKP.out, List.map_append]; exact hr1, hb5⟩
        case measure => simp [intOf]; omega
      · have hq2 : (x.peer.toList != peer.toList) = false := by unfold bne; rw [hq]; rfl
        have HKP := hd (show (es.take (k + 1)).filter (fun e => !mineE peer e) = (es.take k).filter (fun e => !mineE peer e) by
          rw [HKF.out, if_neg, List.append_nil]
          show ¬ (!mineE peer x) = true
          unfold mineE
          rw [hq]
          decide)
        go_wp2
        go_roundw
        case rel => exact ⟨k + 1, by omega, by go_num, by rw [HKP.out]; exact HNR.out, HBR.out⟩
        case measure => simp [intOf]; omega
    · have i1 : (n : Int) ≤ k := by omega
      have hrb := blk_below HRX.out hb
      obtain rfl : k = n := by omega
      have htk : es.take k = es := List.take_of_length_le (by rw [← HN.out]; exact Nat.le_refl _)
      rw [htk] at hnr
      have HNR := hd hnr
      obtain ⟨A5, c5, hu5⟩ := Kd.N_slice hnr
      subst hu5
      generalize (((es.filter fun e => !mineE peer e).map s80)).length = n5 at *
      have hf3 := blk_frozen hbxr 3
      go_upto_region 8 with (fail)
      clear hf3
      have hm5 := Mod.set (S := fun k => k = pb) wr (g := pb) (i := 3) rfl (.slice A5 n5 c5)
      have hbx5 : (wr.setCell ⟨pb, 3, none⟩ (.slice A5 n5 c5)).heap[pb]? = some (.cells #[.int .i64 P, .int .i64 A, .int .u64 (G : Int), .slice A5 n5 c5] 44 (0, 0)) := by rw [blk_set hbxr 3 _]; rfl
      have hrx5 := hm5.block hrb (fun e => by omega)
      have HB5 := hd (Mod.belowB (HAL2.out.trans (hb.mono HPZ.out.1)) hm5 (fun k hk => Nat.le_of_eq hk.symm) (Nat.le_trans HPZ.out.1 hb.size))
      have HR5 := hd (RowR.ofN (Kd.N_step HNR.out (fun k hk hlt => hm5.same k hlt (fun e => by have := HPZ.out.2; rcases hk with h | h <;> omega))))
      clear hm5 hnr HNR hbxr hrb d2 d3 hb
      generalize wr.setCell ⟨pb, 3, none⟩ (.slice A5 n5 c5) = w5 at hbx5 hrx5 HB5 HR5 ⊢
      have d0 : w5.cell? ⟨pb, 0, none⟩ = some (.int .i64 P) := by rw [blk_cell hbx5]; rfl
      have d1 : w5.cell? ⟨pb, 1, none⟩ = some (.int .i64 A) := by rw [blk_cell hbx5]; rfl
      have d2 : w5.cell? ⟨pb, 2, none⟩ = some (.int .u64 (G : Int)) := by rw [blk_cell hbx5]; rfl
      have d3 : w5.cell? ⟨pb, 3, none⟩ = some (.slice A5 n5 c5) := by rw [blk_cell hbx5]; rfl
      have r0 : w5.cell? ⟨pb + 1, 0, none⟩ = some (.int .i64 0) := by rw [blk_cell hrx5]; rfl
      have r1 : w5.cell? ⟨pb + 1, 1, none⟩ = some (.int .i64 0) := by rw [blk_cell hrx5]; rfl
      have r2 : w5.cell? ⟨pb + 1, 2, none⟩ = some (.int .u64 0) := by rw [blk_cell hrx5]; rfl
      have r3 : w5.cell? ⟨pb + 1, 3, none⟩ = some (.slice none 0 0) := by rw [blk_cell hrx5]; rfl
      have f0 := blk_frozen hrx5 0
      have f1 := blk_frozen hrx5 1
      have f2 := blk_frozen hrx5 2
      have f3 := blk_frozen hrx5 3
      have HRX5 := hd hrx5
      clear hbx5 hrx5
      go_wp2
      have hm6 := mod_set4 (w := w5) (g := pb + 1) (.int .i64 P) (.int .i64 A) (.int .u64 (G : Int)) (.slice A5 n5 c5)
      refine bodyPost_ret (results_cell_row rfl _ _ (pb + 1) 44 #[.int .i64 P, .int .i64 A, .int .u64 (G : Int), .slice A5 n5 c5] (0, 0) _ rfl (blk_set4 HRX5.out _ _ _ _) Try.underlying44 rfl (by kernel_rfl)) rfl ?_
      refine ⟨A5, n5, c5, rfl, (HR5.out.mod hm6 (fun k hk e => by have := HPZ.out.2; rcases hk with h | h <;> omega)).mono (fun k hk => hk.elim (fun h => Or.inl h.1) (fun h => Or.inr (by rw [hpb.out]; have := HPZ.out.1; omega))), ?_⟩
      rw [hpb.out]
      exact Mod.belowB HB5.out hm6 (fun k hk => by omega) (by have := blk_lt HRX5.out; omega)
end Go.Proofs.Ytcmiajnndmaeiaa
/- The reference's without: out of its printed contract. -/
set_option linter.unusedVariables false
set_option linter.unusedSimpArgs false
namespace Go.Proofs.Ytcmiajnndmaeiaa
open Go.RowKit Go.Proofs.YtcmiajnndmaeiaaW.PrintWords Go.Proofs.YtcmiajnndmaeiaaW.PrintLast Go.Proofs.YtcmiajnndmaeiaaW.PrintMore
open PFragPlays (S80 k80 at_T80 rd_T80 z80 k80_openF k80_mkF redanref19_without.f redanref19_without.calls)
theorem without_is {P A G : Int} {l : List S80} {i : Nat} (hi : i < l.length) (hl : l.length ≤ 1000000) : redanref19_without.f P A G l (i : Int) = some (P, A, G, l.eraseIdx i) := by
  have hw : wrap64 ((i : Int) + 1) = ((i + 1 : Nat) : Int) := by rw [IntWalk.wrap64_in _ ⟨by omega, by omega⟩]; omega
  unfold redanref19_without.f
  rw [hw, if_pos (by omega), if_pos (by omega), Option.bind_some, if_pos (by simp only [List.length_nil, List.length_take]; omega), Option.bind_some, if_pos (by omega), if_pos (by omega), Option.bind_some, if_pos (by simp only [List.length_append, List.length_nil, List.length_take, List.length_drop]; omega)]
  rw [List.nil_append, Int.toNat_natCast, Int.toNat_natCast, List.eraseIdx_eq_take_drop_succ]
theorem refwithout_calls {P A : Int} {G : Nat} {ok : Nat → Prop} {Ab : Option Addr} {n c i : Nat} {es : List Ent} {w : World} (h : RowR ok w Ab n c es) (hl : n ≤ 1000000) (hi : i < n) :
    Calls Try.prog 40 #[.agg #[.int .i64 P, .int .i64 A, .int .u64 (G : Int), .slice Ab n c], .int .i64 (i : Int)] w (BRet P A G ok w (es.eraseIdx i)) := by
  have hlen := h.len
  have hlm : (es.map s80).length = n := by rw [List.length_map]; exact hlen.symm
  have h1 := redanref19_without.calls P A G ok Ab c (es.map s80) (i : Int) P A G ((es.map s80).eraseIdx i) w ⟨Ab, c, rfl, by rw [hlm]; exact h.cap, by rw [hlm]; exact h.f⟩ (without_is (by rw [hlm]; exact hi) (by rw [hlm]; exact hl))
  rw [hlm] at h1
  refine h1.mono ?_
  rintro e w' ⟨v, rfl, hN, hb⟩
  rw [show (es.map s80).eraseIdx i = (es.eraseIdx i).map s80 by rw [List.eraseIdx_eq_take_drop_succ, List.eraseIdx_eq_take_drop_succ, List.map_append, List.map_take, List.map_drop]] at hN
  obtain ⟨A', c', rfl⟩ := Kd.N_slice hN
  exact ⟨A', _, c', rfl, RowR.ofN hN, hb⟩
end Go.Proofs.Ytcmiajnndmaeiaa
/- What stands while the reference's Add runs. -/
set_option linter.unusedVariables false
set_option linter.unusedSimpArgs false
namespace Go.Proofs.Ytcmiajnndmaeiaa
open Go.RowKit Go.Proofs.YtcmiajnndmaeiaaW.PrintWords Go.Proofs.YtcmiajnndmaeiaaW.PrintLast Go.Proofs.YtcmiajnndmaeiaaW.PrintMore
open PFragPlays (S80 k80 at_T80 rd_T80 z80 k80_openF k80_mkF)
theorem results_cell2_row {P : Program} {fn : Func} {p u v : Tmp} {ty : TypeId} (h : fn.results = #[.cell p ty, .tmp u, .tmp v]) (tmps : Array Value) (w : World) (g : Nat) (t : TypeId) (cs : Array Value) (fr : Nat × Nat) (d : TypeDesc)
    (hp : tmps.getD p undef = .pointer (some ⟨g, 0, none⟩)) (hg : w.heap[g]? = some (.cells cs t fr))
    (hu : P.underlying ty = some d) (hd : (match d with | .struct _ | .array _ _ => true | _ => false) = true) (hi : (P.info? ty).map (·.size) = some cs.size) :
    (results fn tmps).run P w = .ok (.tuple #[.agg cs, tmps.getD u undef, tmps.getD v undef]) w := by
  have hp' : tmps[p]?.getD undef = .pointer (some ⟨g, 0, none⟩) := by simpa using hp
  simp [results, h, hp', asAddr, run_loadVar_row w g t ty cs fr d hg hu hd hi]
/-- What the reference's Add gives back. -/
def RAddPost (P A G : Int) (ok : Nat → Prop) (w : World) (R : List Ent × List Nat × Nat) (e : Ending) (w' : World) : Prop :=
  ∃ A' n' c', e = .returned (.tuple #[.agg #[.int .i64 P, .int .i64 A, .int .u64 G, .slice A' n' c'], .string (strOf R.2.1), .int .i64 (R.2.2 : Int)]) ∧ RowR (fun k => ok k ∨ w.heap.size ≤ k) w' A' n' c' R.1 ∧ Below w.heap.size w w'
/-- The buffer's box at pb, the result's behind it. -/
structure RSt (P A G : Int) (ok : Nat → Prop) (w : World) (pb : Nat) (wc : World) (A1 : Option Addr) (n1 c1 : Nat) (es : List Ent) : Prop where
  sz : w.heap.size = pb
  bx : wc.heap[pb]? = some (.cells #[.int .i64 P, .int .i64 A, .int .u64 G, .slice A1 n1 c1] 44 (0, 0))
  rx : wc.heap[pb + 1]? = some (.cells #[.int .i64 0, .int .i64 0, .int .u64 0, .slice none 0 0] 44 (0, 0))
  row : RowR (fun k => (ok k ∧ k < pb) ∨ pb + 2 ≤ k) wc A1 n1 c1 es
  bel : Below pb w wc
section
variable {P A G : Int} {ok : Nat → Prop} {w wc wd : World} {pb : Nat} {A1 A2 : Option Addr} {n1 c1 n2 c2 : Nat} {es es2 : List Ent}
theorem RSt.big (h : RSt P A G ok w pb wc A1 n1 c1 es) : pb + 2 ≤ wc.heap.size := blk_lt h.rx
theorem RSt.start (h : RowR ok w A1 n1 c1 es) : RSt P A G ok w w.heap.size ((w.alloc (.cells #[.int .i64 P, .int .i64 A, .int .u64 G, .slice A1 n1 c1] 44)).alloc (.cells #[.int .i64 0, .int .i64 0, .int .u64 0, .slice none 0 0] 44)) A1 n1 c1 es := by
  have hal := below_alloc (below_alloc (Below.refl w.heap.size w) (.cells #[.int .i64 P, .int .i64 A, .int .u64 G, .slice A1 n1 c1] 44)) (.cells #[.int .i64 0, .int .i64 0, .int .u64 0, .slice none 0 0] 44)
  refine ⟨rfl, blk_below (blk_new w (.cells #[.int .i64 P, .int .i64 A, .int .u64 G, .slice A1 n1 c1] 44)) (below_alloc (Below.refl _ _) _), ?_, (h.bound.below hal).mono (fun k hk => Or.inl hk), hal⟩
  have := blk_new (w.alloc (.cells #[.int .i64 P, .int .i64 A, .int .u64 G, .slice A1 n1 c1] 44)) (.cells #[.int .i64 0, .int .i64 0, .int .u64 0, .slice none 0 0] 44)
  simpa using this
theorem RSt.below (h : RSt P A G ok w pb wc A1 n1 c1 es) (hb : Below wc.heap.size wc wd) : RSt P A G ok w pb wd A1 n1 c1 es :=
  ⟨h.sz, blk_below h.bx hb, blk_below h.rx hb, h.row.below hb, h.bel.trans (hb.mono (by have := h.big; omega))⟩
theorem RSt.cells (h : RSt P A G ok w pb wc A1 n1 c1 es) : wc.cell? ⟨pb, 0, none⟩ = some (.int .i64 P) ∧ wc.cell? ⟨pb, 1, none⟩ = some (.int .i64 A) ∧ wc.cell? ⟨pb, 2, none⟩ = some (.int .u64 G) ∧ wc.cell? ⟨pb, 3, none⟩ = some (.slice A1 n1 c1) ∧
    wc.frozen? ⟨pb, 0, none⟩ = false ∧ wc.frozen? ⟨pb, 1, none⟩ = false ∧ wc.frozen? ⟨pb, 2, none⟩ = false ∧ wc.frozen? ⟨pb, 3, none⟩ = false :=
  ⟨by rw [blk_cell h.bx]; rfl, by rw [blk_cell h.bx]; rfl, by rw [blk_cell h.bx]; rfl, by rw [blk_cell h.bx]; rfl, blk_frozen h.bx 0, blk_frozen h.bx 1, blk_frozen h.bx 2, blk_frozen h.bx 3⟩
theorem RSt.rcells (h : RSt P A G ok w pb wc A1 n1 c1 es) : wc.cell? ⟨pb + 1, 0, none⟩ = some (.int .i64 0) ∧ wc.cell? ⟨pb + 1, 1, none⟩ = some (.int .i64 0) ∧ wc.cell? ⟨pb + 1, 2, none⟩ = some (.int .u64 0) ∧ wc.cell? ⟨pb + 1, 3, none⟩ = some (.slice none 0 0) ∧
    wc.frozen? ⟨pb + 1, 0, none⟩ = false ∧ wc.frozen? ⟨pb + 1, 1, none⟩ = false ∧ wc.frozen? ⟨pb + 1, 2, none⟩ = false ∧ wc.frozen? ⟨pb + 1, 3, none⟩ = false :=
  ⟨by rw [blk_cell h.rx]; rfl, by rw [blk_cell h.rx]; rfl, by rw [blk_cell h.rx]; rfl, by rw [blk_cell h.rx]; rfl, blk_frozen h.rx 0, blk_frozen h.rx 1, blk_frozen h.rx 2, blk_frozen h.rx 3⟩
/-- A row that has been given back. -/
theorem RSt.back (h : RSt P A G ok w pb wc A1 n1 c1 es) (hr : RowR (fun k => ((ok k ∧ k < pb) ∨ pb + 2 ≤ k) ∨ wc.heap.size ≤ k) wd A2 n2 c2 es2) : RowR (fun k => (ok k ∧ k < pb) ∨ pb + 2 ≤ k) wd A2 n2 c2 es2 :=
  hr.mono (fun k hk => hk.elim id (fun h2 => Or.inr (Nat.le_trans h.big h2)))
/-- The buffer is stored. -/
theorem RSt.put (h : RSt P A G ok w pb wc A1 n1 c1 es) (hr : RowR (fun k => (ok k ∧ k < pb) ∨ pb + 2 ≤ k) wc A2 n2 c2 es2) :
    RSt P A G ok w pb ((((wc.setCell ⟨pb, 0, none⟩ (.int .i64 P)).setCell ⟨pb, 1, none⟩ (.int .i64 A)).setCell ⟨pb, 2, none⟩ (.int .u64 G)).setCell ⟨pb, 3, none⟩ (.slice A2 n2 c2)) A2 n2 c2 es2 := by
  have hm := mod_set4 (w := wc) (g := pb) (.int .i64 P) (.int .i64 A) (.int .u64 G) (.slice A2 n2 c2)
  exact ⟨h.sz, blk_set4 h.bx _ _ _ _, hm.block h.rx (fun e => by omega), hr.mod hm (fun k hk e => by rcases hk with hk | hk <;> omega), Mod.belowB h.bel hm (fun k hk => by omega) (by have := h.big; omega)⟩
theorem RSt.put1 (h : RSt P A G ok w pb wc A1 n1 c1 es) (hr : RowR (fun k => (ok k ∧ k < pb) ∨ pb + 2 ≤ k) wc A2 n2 c2 es2) :
    RSt P A G ok w pb (wc.setCell ⟨pb, 3, none⟩ (.slice A2 n2 c2)) A2 n2 c2 es2 := by
  have hm := Mod.set (S := fun k => k = pb) (i := 3) wc rfl (.slice A2 n2 c2)
  exact ⟨h.sz, by rw [blk_set h.bx 3 _]; rfl, hm.block h.rx (fun e => by omega), hr.mod hm (fun k hk e => by rcases hk with hk | hk <;> omega), Mod.belowB h.bel hm (fun k hk => by omega) (by have := h.big; omega)⟩
theorem RSt.putM (A2 : Option Addr) (n2 c2 : Nat) : Mod (fun k => k = pb) wc ((((wc.setCell ⟨pb, 0, none⟩ (.int .i64 P)).setCell ⟨pb, 1, none⟩ (.int .i64 A)).setCell ⟨pb, 2, none⟩ (.int .u64 G)).setCell ⟨pb, 3, none⟩ (.slice A2 n2 c2)) := mod_set4 _ _ _ _
/-- The result is stored, and given back. -/
theorem RSt.exit (h : RSt P A G ok w pb wc A1 n1 c1 es) (hr : RowR (fun k => (ok k ∧ k < pb) ∨ pb + 2 ≤ k) wc A2 n2 c2 es2) {R : List Ent × List Nat × Nat} {s : ByteArray} {ec : Int} (h1 : R.1 = es2) (h2 : s = strOf R.2.1) (h3 : ec = (R.2.2 : Int)) :
    RAddPost P A G ok w R (.returned (.tuple #[.agg #[.int .i64 P, .int .i64 A, .int .u64 G, .slice A2 n2 c2], .string s, .int .i64 ec])) ((((wc.setCell ⟨pb + 1, 0, none⟩ (.int .i64 P)).setCell ⟨pb + 1, 1, none⟩ (.int .i64 A)).setCell ⟨pb + 1, 2, none⟩ (.int .u64 G)).setCell ⟨pb + 1, 3, none⟩ (.slice A2 n2 c2)) := by
  have hm := mod_set4 (w := wc) (g := pb + 1) (.int .i64 P) (.int .i64 A) (.int .u64 G) (.slice A2 n2 c2)
  refine ⟨A2, n2, c2, by rw [h2, h3], ?_, ?_⟩
  · rw [h1]
    exact (hr.mod hm (fun k hk e => by rcases hk with hk | hk <;> omega)).mono (fun k hk => hk.elim (fun h => Or.inl h.1) (fun h2 => Or.inr (by rw [h.sz]; omega)))
  · rw [h.sz]
    exact Mod.belowB h.bel hm (fun k hk => by omega) (by have := h.big; omega)
end
/-! ### plain -/
theorem find_idxE {p : Ent → Bool} : ∀ {es : List Ent}, (∃ y i, es.find? p = some y ∧ idxZ p es = ((i : Nat) : Int) ∧ es.findIdx p = i ∧ ∃ h : i < es.length, es[i] = y) ∨ (es.find? p = none ∧ idxZ p es = -1 ∧ es.findIdx p = es.length)
  | es => by
    cases hf : es.find? p with
    | none =>
      right
      have h1 : ∀ x ∈ es, p x = false := fun x hx => by simpa using List.find?_eq_none.1 hf x hx
      exact ⟨rfl, idxZ_miss h1, findIdx_miss p es h1⟩
    | some y =>
      left
      have hy := List.mem_of_find?_eq_some hf
      have hp := List.find?_some hf
      have hlt : es.findIdx p < es.length := List.findIdx_lt_length_of_exists ⟨y, hy, hp⟩
      refine ⟨y, es.findIdx p, rfl, ?_, rfl, hlt, ?_⟩
      · unfold idxZ
        rw [if_pos hlt]
      · have h2 : es.find? p = es[es.findIdx p]? := List.find?_eq_getElem?_findIdx ..
        rw [hf, List.getElem?_eq_getElem hlt] at h2
        exact (Option.some.inj h2).symm
theorem find_erase {peer : ByteArray} {msg : Int} {es : List Ent} {n i : Nat} (h : oldK (otherE peer msg) es n = some i) : (es.eraseIdx i).find? (ownE peer msg) = es.find? (ownE peer msg) := by
  obtain ⟨_, x, hx, hp, _, _⟩ := oldK_some h
  obtain ⟨hi, hx⟩ := List.getElem?_eq_some_iff.1 hx
  have ho : ownE peer msg x = false := by
    unfold otherE at hp
    simp only [Bool.and_eq_true, bne_iff_ne] at hp
    unfold ownE
    simp [hp.2]
  have h1 : es = es.take i ++ x :: es.drop (i + 1) := by rw [← hx, List.getElem_cons_drop, List.take_append_drop]
  rw [List.eraseIdx_eq_take_drop_succ]
  conv => rhs; rw [h1]
  rw [List.find?_append, List.find?_append, List.find?_cons_of_neg (by rw [ho]; decide)]
/-- What is left once the piece is in. -/
def finR (es : List Ent) (i : Nat) (ps : List (List Nat)) : List Ent × List Nat × Nat := if ps.any isNil then (putE es i ps, [], 0) else ((putE es i ps).eraseIdx i, ps.flatten, 0)
theorem endR_fin_own {es : List Ent} {peer : ByteArray} {msg part parts : Int} {body : List Nat} {now i : Nat} (hi : es.findIdx (ownE peer msg) = i) (h : i < es.length) : endR es peer msg part parts body now = finR es i (es[i].parts.set part.toNat body) := by
  unfold endR finR
  rw [hi]
  dsimp only
  rw [if_pos h, List.getElem?_eq_getElem h]
  rfl
theorem endR_fin_new {es : List Ent} {peer : ByteArray} {msg part parts : Int} {body : List Nat} {now : Nat} (hi : es.findIdx (ownE peer msg) = es.length) : endR es peer msg part parts body now = finR (es ++ [⟨peer, msg, now, List.replicate parts.toNat []⟩]) es.length ((List.replicate parts.toNat []).set part.toNat body) := by
  unfold endR finR
  rw [hi]
  dsimp only
  rw [if_neg (Nat.lt_irrefl es.length), get_at]
  rfl
/-! ### rows of strings, of entries: made, appended -/
section
variable {ops : Array Oper} {rest : List Oper} {o : Oper} {a : Act} {Q : Exit → Act → World → Prop} {Kc : Act → World → Prop}
/-- make([]string, m). -/
theorem op_makeT {W : World} (N : Tmp) (hd : o.dst = some N) (x y : Operand) (ho : o.op = .makeSlice 28 x y) (hgd : o.guard = none) (m : Nat) (hx : a.eval x = .int .i64 (m : Int)) (hy : a.eval y = .int .i64 (m : Int)) (h64 : m ≤ 64)
    (h : ∀ A c w1, TRow W.heap.size w1 (.slice A m c) (List.replicate m ⟨#[]⟩) → Below W.heap.size W w1 → wpList Try.prog ops Q rest (a.put o.dst (.slice A m c)) w1) : wpList Try.prog ops Q (o :: rest) a W :=
  Kd.R_make Kd.string (w0 := W) W.heap.size 9 hgd hd 28 x y ho (m : Int) hx hy Try.underlying28 (.string ⟨#[]⟩) 16 Try.infoT rfl (by decide) (by decide) (⟨#[]⟩ : ByteArray) (okp := fun _ => True) (ok := fun _ => True) rfl (fun _ _ => trivial) trivial (by omega) (by rw [Int.toNat_natCast]; omega) (Below.refl _ _) (Nat.le_refl _) (fun v1 w1 hr hb _ _ => by
    rw [Int.toNat_natCast] at hr
    obtain ⟨A, c, rfl⟩ := Kd.R_slice hr
    rw [List.length_replicate] at hr ⊢
    exact h A c w1 hr hb)
/-- append(nil, ts...). -/
theorem op_appendTs {W : World} (N : Tmp) (hd : o.dst = some N) (s x : Operand) (ho : o.op = .call { callee := .builtin .append, args := #[s, x], argTypes := #[28, 28] }) (hgd : o.guard = none)
    (ts : List ByteArray) (A : Option Addr) (m c : Nat) (hs : a.eval s = .slice none 0 0) (hx : a.eval x = .slice A m c) (HR : Kd.string.C W A m ts) (hl : m ≤ 1000000)
    (h : ∀ A1 c1 w1, TRow W.heap.size w1 (.slice A1 m c1) ts → Below W.heap.size W w1 → wpList Try.prog ops Q rest (a.put o.dst (.slice A1 m c1)) w1) : wpList Try.prog ops Q (o :: rest) a W :=
  Kd.R_append_rows Kd.string (w0 := W) W.heap.size hgd s x 28 9 (.string ⟨#[]⟩) 16 ho Try.underlying28 Try.infoT rfl (by decide) (by decide) (.slice none 0 0) [] ts A m c (fun _ => True) (fun _ => False) hs hx (Kd.R_nil _ _ _ _ _) HR (fun _ _ hk => hk) (fun _ h => h.elim) (fun _ _ => trivial) (Below.refl _ _) (Nat.le_refl _) (by simp; omega) (fun v1 w1 hr hb _ _ => by
    rw [List.nil_append] at hr
    obtain ⟨A1, c1, rfl⟩ := Kd.R_slice hr
    rw [HR.1] at hr ⊢
    exact h A1 c1 w1 hr hb)
/-- l[i].Parts = p. -/
theorem op_storeP {w0 W : World} (base : Nat) (hN : o.dst = none) (hgd : o.guard = none) (p x : Operand) (ho : o.op = .store 28 p x) {g n cap o' : Nat} (i : Nat) (xs : List S80) (e : S80) (ts : List ByteArray) (A3 B3 : Option Addr) (n3 c3 m c : Nat) (ok okp : Nat → Prop)
    (haddr : a.eval p = .pointer (some ⟨g, o', none⟩)) (hoff : o' = i * 4 + 3) (hx : a.eval x = .slice B3 m c)
    (HO : Kd.N k80 80 W base ok (.slice (some ⟨g, 0, none⟩) n cap) xs) (hi : i < n) (hcc : ∀ j u, [Value.string e.f0, .int .i64 e.f1, .int .u64 e.f2, .slice A3 n3 c3][j]? = some u → W.cell? ⟨g, i * 4 + j, none⟩ = some u)
    (hm : m = ts.length) (hmc : m ≤ c) (hM : Kd.F Kd.string W okp B3 m ts) (hokp : ∀ k, okp k → ok k ∧ k ≠ g) (HB : Below base w0 W)
    (h : ∀ w1, Kd.N k80 80 w1 base ok (.slice (some ⟨g, 0, none⟩) n cap) (xs.set i ⟨e.f0, e.f1, e.f2, ts⟩) → Below base w0 w1 → W.grownBy w1 (some g) → wpList Try.prog ops Q rest a w1) : wpList Try.prog ops Q (o :: rest) a W := by
  refine Kd.N_store k80 (w0 := w0) base hN hgd 28 p x ho 80 (i : Int) 3 xs ⟨e.f0, e.f1, e.f2, ts⟩ (.slice B3 m c) [.slice B3 m c] [.string e.f0, .int .i64 e.f1, .int .u64 e.f2, .slice A3 n3 c3] ok okp haddr (by rw [Int.toNat_natCast]; exact hoff) hx rfl (by kernel_rfl) (by simp [Value.oneCell']) HO (by omega) (by omega) rfl (by rw [Int.toNat_natCast]; exact hcc) (show 3 + 1 ≤ 4 by decide) ?_ hokp HB (fun w1 h1 h2 h3 => h w1 (by rw [Int.toNat_natCast] at h1; exact h1) h2 h3)
  subst hm
  exact k80_mkF W okp ⟨e.f0, e.f1, e.f2, ts⟩ hmc hM
end
theorem fk_of {W : World} {B : Nat} {okp : Nat → Prop} {e : Ent} {Aq : Option Addr} {m cq : Nat} (hm : m = e.parts.length) (h : TRow B W (.slice Aq m cq) (e.parts.map strOf)) (hB : ∀ k, B ≤ k → okp k) :
    Kd.FK k80 W okp (s80 e) [.string e.peer, .int .i64 e.msg, .int .u64 (e.born : Int), .slice Aq m cq] := by
  subst hm
  have h1 := Kd.F_mono (Kd.R_F (Kd.R_bound h)) (fun k hk => hB k hk.2.1)
  have h2 := k80_mkF W okp (s80 e) (A3 := Aq) (c3 := cq) (by
    show (e.parts.map strOf).length ≤ cq
    rw [List.length_map]
    exact (Kd.R_reads' h).2.1) (by
    show Kd.F Kd.string W okp Aq (e.parts.map strOf).length (e.parts.map strOf)
    rw [List.length_map]
    exact h1)
  have h3 : (s80 e).f3.length = e.parts.length := List.length_map _
  rw [h3] at h2
  exact h2
theorem fk_new {W : World} {B : Nat} {okp : Nat → Prop} {peer : ByteArray} {msg : Int} {now m cq : Nat} {Aq : Option Addr} (h : TRow B W (.slice Aq m cq) (List.replicate m ⟨#[]⟩)) (hB : ∀ k, B ≤ k → okp k) :
    Kd.FK k80 W okp (s80 ⟨peer, msg, now, List.replicate m []⟩) [.string peer, .int .i64 msg, .int .u64 (now : Int), .slice Aq m cq] :=
  fk_of (e := ⟨peer, msg, now, List.replicate m []⟩) (by simp) (by rw [List.map_replicate]; exact h) hB
theorem putE_map {es : List Ent} {i : Nat} {e : Ent} {ps : List (List Nat)} (h : es[i]? = some e) : (putE es i ps).map s80 = (es.map s80).set i ⟨e.peer, e.msg, (e.born : Int), ps.map strOf⟩ := by
  obtain ⟨hi, he⟩ := List.getElem?_eq_some_iff.1 h
  have h1 : es = es.take i ++ e :: es.drop (i + 1) := by rw [← he, List.getElem_cons_drop, List.take_append_drop]
  have hl : (es.take i).length = i := by rw [List.length_take]; omega
  have h2 : putE es i ps = es.take i ++ ⟨e.peer, e.msg, e.born, ps⟩ :: es.drop (i + 1) := by
    conv => lhs; rw [h1]
    have := putE_at (x := e) (b := es.drop (i + 1)) (ps := ps) (a := es.take i)
    rw [hl] at this
    exact this
  rw [h2]
  conv => rhs; rw [h1]
  rw [List.map_append, List.map_append, List.map_cons, List.map_cons, List.set_append_right _ _ (by rw [List.length_map, hl]; exact Nat.le_refl _), List.length_map, hl, Nat.sub_self, List.set_cons_zero]
  rfl
theorem putE_length {es : List Ent} {i : Nat} {ps : List (List Nat)} : (putE es i ps).length = es.length := List.length_modify _ _ _
theorem TRow.grown {B q m c g : Nat} {w w1 : World} {ts : List ByteArray} (h : TRow B w (.slice (some ⟨q, 0, none⟩) m c) ts) (hg : w.grownBy w1 (some g)) (hne : q ≠ g) : TRow B w1 (.slice (some ⟨q, 0, none⟩) m c) ts := by
  have h1 : Kd.string.R 9 w B (fun k => k = q) (.slice (some ⟨q, 0, none⟩) m c) ts := ⟨fun j hj => by simpa [Value.ownBlock] using hj.symm, h.2⟩
  exact Kd.R_mono (Kd.R_grown h1 hg (fun k hk he => hne (by rw [← hk]; exact Option.some.inj he))) (fun _ _ => trivial)
theorem TRow.far {B q m c g j : Nat} {w : World} {ts : List ByteArray} (h : TRow B w (.slice (some ⟨q, 0, none⟩) m c) ts) (hne : q ≠ g) (u : Value) : TRow B (w.setCell ⟨g, j, none⟩ u) (.slice (some ⟨q, 0, none⟩) m c) ts := by
  have h1 : Kd.string.R 9 w B (fun k => k = q) (.slice (some ⟨q, 0, none⟩) m c) ts := ⟨fun j hj => by simpa [Value.ownBlock] using hj.symm, h.2⟩
  exact Kd.R_mono (Kd.R_far h1 (p := ⟨g, j, none⟩) (fun k hk => by rw [hk]; exact hne) u) (fun _ _ => trivial)
theorem TRow.put {B q m c : Nat} {w : World} {ts : List ByteArray} (h : TRow B w (.slice (some ⟨q, 0, none⟩) m c) ts) (i : Nat) (z : ByteArray) : TRow B (w.setCell ⟨q, i, none⟩ (.string z)) (.slice (some ⟨q, 0, none⟩) m c) (ts.set i z) := by
  have h1 := (Kd.R_putg h (i : Int) z).1
  rw [Int.toNat_natCast] at h1
  exact h1
theorem TRow.cellx {B q m c : Nat} {w : World} {ps : List (List Nat)} (h : TRow B w (.slice (some ⟨q, 0, none⟩) m c) (ps.map strOf)) (hm : m = ps.length) (i : Nat) (hi : i < m) : w.cell? ⟨q, i, none⟩ = some (.string (strOf (ps.getD i []))) ∧ w.frozen? ⟨q, i, none⟩ = false := by
  have h1 := Kd.R_celln (⟨#[]⟩ : ByteArray) h (i : Int) (by omega) (by omega)
  rw [Int.toNat_natCast] at h1
  refine ⟨?_, h1.2⟩
  rw [h1.1, rdOf, Int.toNat_natCast, List.getD_eq_getElem?_getD, List.getElem?_map, List.getD_eq_getElem?_getD, List.getElem?_eq_getElem (by omega)]
  rfl
theorem TRow.fF {B q m c : Nat} {w : World} {ts : List ByteArray} {okp : Nat → Prop} (h : TRow B w (.slice (some ⟨q, 0, none⟩) m c) ts) (hB : ∀ k, B ≤ k → okp k) : Kd.F Kd.string w okp (some ⟨q, 0, none⟩) m ts := Kd.F_mono (Kd.R_F (Kd.R_bound h)) (fun k hk => hB k hk.2.1)
theorem take_flat {ps : List (List Nat)} {k : Nat} (h : k < ps.length) : (ps.take (k + 1)).flatten = (ps.take k).flatten ++ ps.getD k [] := by
  rw [List.take_succ_eq_append_getElem h, List.flatten_append, List.getD_eq_getElem?_getD, List.getElem?_eq_getElem h]
  simp
theorem take_any {ps : List (List Nat)} {k : Nat} (h : k < ps.length) : (ps.take (k + 1)).any isNil = ((ps.take k).any isNil || isNil (ps.getD k [])) := by
  rw [List.take_succ_eq_append_getElem h, List.any_append, List.getD_eq_getElem?_getD, List.getElem?_eq_getElem h]
  simp
theorem any_of {ps : List (List Nat)} {k : Nat} (h : k < ps.length) (hk : isNil (ps.getD k []) = true) : ps.any isNil = true := by
  rw [List.any_eq_true]
  rw [List.getD_eq_getElem?_getD, List.getElem?_eq_getElem h] at hk
  exact ⟨_, List.getElem_mem h, hk⟩
theorem strOf_nil : strOf [] = ⟨#[]⟩ := rfl
theorem strOf_append (a b : List Nat) : strOf (a ++ b) = strOf a ++ strOf b := by
  apply ByteArray.ext
  rw [ByteArray.data_append]
  unfold strOf
  simp
theorem str_nil {l : List Nat} : ((strOf l).toList == ([] : List UInt8)) = isNil l := by
  rw [strOf_toList]
  cases l <;> rfl
end Go.Proofs.Ytcmiajnndmaeiaa
