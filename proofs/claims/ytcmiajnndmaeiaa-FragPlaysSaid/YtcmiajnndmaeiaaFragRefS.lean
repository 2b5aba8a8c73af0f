/- The walk through the reference's Split. -/
import Derived.Test.YtcmiajnndmaeiaaFragAwake
set_option linter.unusedVariables false
set_option linter.unusedSimpArgs false
namespace Go.Proofs.Ytcmiajnndmaeiaa
open Go.RowKit Go.Proofs.YtcmiajnndmaeiaaW.PrintWords Go.Proofs.YtcmiajnndmaeiaaW.PrintLast Go.Proofs.YtcmiajnndmaeiaaW.PrintMore
def TRow (base : Nat) (w : World) (v : Value) (ts : List ByteArray) : Prop := Kd.string.R 9 w base (fun _ => True) v ts
theorem Try.infoT : (Try.prog.info? 9).map (fun i => (i.zero, i.size, i.bytes)) = some (some (.string ⟨#[]⟩), 1, 16) := by kernel_rfl
section
variable {ops : Array Oper} {rest : List Oper} {o : Oper} {a : Act} {Q : Exit → Act → World → Prop} {Kc : Act → World → Prop}
theorem op_appendT {w0 W : World} (N : Tmp) (hd : o.dst = some N) (base : Nat) (s x : Operand) (ho : o.op = .call { callee := .builtin .append, args := #[s, x], argTypes := #[28, 28] }) (hgd : o.guard = none)
    (v : Value) (l : List ByteArray) (y : ByteArray) (hs : a.eval s = v) (hx : a.eval x = .slice (some ⟨W.heap.size, 0, none⟩) 1 1) (HO : TRow base W v l) (HB : Below base w0 W) (hbase : base ≤ W.heap.size) (hl : l.length ≤ 2000000)
    (h : ∀ v1 w1, TRow base w1 v1 (l ++ [y]) → Below base w0 w1 → W.grownBy w1 v.ownBlock → wpList Try.prog ops Q rest (a.put o.dst v1) w1) :
    wpList Try.prog ops Q (o :: rest) a (W.alloc (.cells #[.string y] 9)) :=
  Kd.R_append Kd.string (w0 := w0) (W := W) base hgd s x 28 9 (.string ⟨#[]⟩) 16 ho Try.underlying28 Try.infoT rfl (Nat.zero_lt_one) (by decide) v l y [.string y] (fun _ => True) (fun g => some g ≠ v.ownBlock) hs hx rfl (fun g hg => ⟨trivial, hg⟩) (fun _ _ => trivial) HO HB hbase (by omega) (fun v1 w1 h1 hb hg _ => h v1 w1 h1 hb hg)
end
theorem TRow.at_ {base : Nat} {w : World} {v : Value} {ts : List ByteArray} (h : TRow base w v ts) (i : Nat) (hi : i < ts.length) : ∃ r c, v = .slice (some ⟨r, 0, none⟩) ts.length c ∧ ts.length ≤ c ∧ base ≤ r ∧ w.cell? ⟨r, i, none⟩ = some (.string (ts.getD i ⟨#[]⟩)) := by
  obtain ⟨r, c, rfl, hb, hlt, _⟩ := Kd.R_form h (by omega)
  have h1 := (Kd.R_celln (⟨#[]⟩ : ByteArray) h (i : Int) (by omega) (by omega)).1
  rw [Int.toNat_natCast] at h1
  exact ⟨r, c, rfl, (Kd.R_reads' h).2.1, hb, by rw [h1, rdOf, Int.toNat_natCast]⟩
set_option maxHeartbeats 2000000 in
set_option maxRecDepth 100000 in
theorem refsplit_calls {A : Option Addr} {n c : Nat} {l : List Nat} {w : World} (hb : Bytes w A n c l) (hn : n ≤ 1000000000) :
    Calls Try.prog 10 #[.slice A n c] w fun e w' => ∃ v, e = .returned (.tuple #[v, .int .i64 ((splitF l).2 : Int)]) ∧ TRow w.heap.size w' v ((splitF l).1.map strOf) ∧ Below w.heap.size w w' := by
  have hl := hb.2.1
  have HL := hd hl
  have n9 : (n : Int) ≤ 1000000000 := by omega
  clear hl
  by_cases h0 : n = 0
  · subst h0
    clear hb
    go_enter Try.func10, Try.ntmps10
    go_wp2
    go_ret2
    refine ⟨.slice none 0 0, ?_, ?_, Below.refl _ _⟩
    · rw [splitF, if_pos HL.out]; rfl
    · rw [splitF, if_pos HL.out]; exact Kd.R_nil _ _ _ _ _
  have q1 : ((n : Int) == 0) = false := by simp; exact h0
  have q1' : (n == 0) = false := by simp; exact h0
  by_cases h1 : 65536 < n
  · have q2 : decide ((65536 : Int) < n) = true := by simp; omega
    have H1 := hd h1
    clear hb h1 h0
    go_enter Try.func10, Try.ntmps10
    go_wp2
    go_ret2
    refine ⟨.slice none 0 0, ?_, ?_, Below.refl _ _⟩
    · rw [splitF, if_neg (by rw [HL.out]; have := H1.out; omega), if_pos (by rw [HL.out]; exact H1.out)]; rfl
    · rw [splitF, if_neg (by rw [HL.out]; have := H1.out; omega), if_pos (by rw [HL.out]; exact H1.out)]; exact Kd.R_nil _ _ _ _ _
  have q2 : decide ((65536 : Int) < n) = false := by simp; omega
  have HS := hd (show splitF l = (pieces l ((n + 1023) / 1024), 0) by rw [splitF, if_neg (by rw [HL.out]; exact h0), if_neg (by rw [HL.out]; omega), HL.out])
  have H1 := hd (show 0 < n ∧ n ≤ 65536 by omega)
  rw [HS.out]
  obtain ⟨ad, x, rfl, _, _⟩ := hb.1.at_ 0 (by rw [hb.2.1]; omega)
  have HB := hd hb
  have hnc : (n : Int) ≤ c := by have := hb.2.2.1; omega
  clear hb h1 h0 n9
  go_enter Try.func10, Try.ntmps10
  go_wp2
  go_loopw [5, 4] (fun u5 u4 wr => ∃ k : Nat, u5 = .int .i64 ((1024 * k : Nat) : Int) ∧ Aside0 (1024 * k < n + 1024) ∧ TRow w.heap.size wr u4 ((pieces l k).map strOf) ∧ Below w.heap.size w wr) (fun u5 _ _ => n + 1024 - (intOf u5).toNat)
  case atStart => exact ⟨0, rfl, ⟨by have := H1.out; omega⟩, Kd.R_nil _ _ _ _ _, Below.refl _ _⟩
  case round =>
    obtain ⟨k, rfl, hk, hpi, hb⟩ := hrel
    obtain ⟨i, hi⟩ : ∃ i, i = 1024 * k := ⟨_, rfl⟩
    rw [← hi] at hk ⊢
    have i9 : (i : Int) ≤ 70000 := by have := hk.out; have := H1.out; omega
    have HI := hd hi
    have HPI := hd hpi
    have HBR := hd (HB.out.below hb)
    have hsz := hb.size
    have HLN := hd (show ((pieces l k).map strOf).length ≤ 2000000 by simp only [List.length_map, pieces, List.length_range]; have := hk.out; have := H1.out; omega)
    clear hi hpi
    by_cases hlt : i < n
    · have i1 : (i : Int) < n := by omega
      by_cases h4 : i + 1024 ≤ n
      · have i2 : (i : Int) + 1024 ≤ n := by omega
        have hcv := (HBR.out.mid i 1024 (by omega) (by have := HBR.out.2.2.1; omega)).str (P := Try.prog) Try.underlying22 Try.underlying5 Try.underlying9
        have HTK := hd (show strOf ((l.drop i).take 1024) = strOf ((l.drop (1024 * k)).take 1024) by rw [HI.out])
        obtain ⟨z, hz⟩ : ∃ z, Aside0 (strOf ((l.drop i).take 1024) = z) := ⟨_, ⟨rfl⟩⟩
        rw [hz.out] at hcv
        go_wp2_with ((with_reducible refine gate_dst (N := 34) rfl ?_); at_builtin; refine op_appendT (w0 := w) 34 rfl w.heap.size (.tmp 27) (.tmp 33) rfl rfl u4 ((pieces l k).map strOf) z rfl rfl HPI.out hb hsz HLN.out ?_; intro v1 w2 hr1 hb2 hg2)
        go_roundw
        case rel =>
          refine ⟨k + 1, ?_, ⟨by have := HI.out; omega⟩, ?_, hb2⟩
          · have h7 := HI.out
            rw [show ((1024 * (k + 1) : Nat) : Int) = (i : Int) + 1024 by omega]
          · rw [pieces_succ, List.map_append, List.map_cons, List.map_nil, ← HTK.out, hz.out]
            exact hr1
        case measure => simp [intOf]; omega
      · have i2 : (n : Int) < (i : Int) + 1024 := by omega
        have hcv := (HBR.out.mid i (n - i) (by omega) (by have := HBR.out.2.2.1; omega)).str (P := Try.prog) Try.underlying22 Try.underlying5 Try.underlying9
        have HTK := hd (show strOf ((l.drop i).take (n - i)) = strOf ((l.drop (1024 * k)).take 1024) by rw [← HI.out, List.take_of_length_le (by rw [List.length_drop, HL.out]; exact Nat.le_refl _), List.take_of_length_le (by rw [List.length_drop, HL.out]; omega)])
        obtain ⟨z, hz⟩ : ∃ z, Aside0 (strOf ((l.drop i).take (n - i)) = z) := ⟨_, ⟨rfl⟩⟩
        rw [hz.out] at hcv
        go_wp2_with ((with_reducible refine gate_dst (N := 34) rfl ?_); at_builtin; refine op_appendT (w0 := w) 34 rfl w.heap.size (.tmp 27) (.tmp 33) rfl rfl u4 ((pieces l k).map strOf) z rfl rfl HPI.out hb hsz HLN.out ?_; intro v1 w2 hr1 hb2 hg2)
        go_roundw
        case rel =>
          refine ⟨k + 1, ?_, ⟨by have := HI.out; omega⟩, ?_, hb2⟩
          · have h7 := HI.out
            rw [show ((1024 * (k + 1) : Nat) : Int) = (i : Int) + 1024 by omega]
          · rw [pieces_succ, List.map_append, List.map_cons, List.map_nil, ← HTK.out, hz.out]
            exact hr1
        case measure => simp [intOf]; omega
    · have HK := hd (show k = (n + 1023) / 1024 by have := HI.out; have := hk.out; omega)
      have i1 : (n : Int) ≤ i := by omega
      go_wp2
      go_ret2
      rw [← HK.out]
      exact ⟨u4, rfl, HPI.out, hb⟩
end Go.Proofs.Ytcmiajnndmaeiaa
