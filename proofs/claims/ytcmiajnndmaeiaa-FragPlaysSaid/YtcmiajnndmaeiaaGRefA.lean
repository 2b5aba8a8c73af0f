/- Texts put together: FragRA FragRB FragRC. -/
import Derived.Test.YtcmiajnndmaeiaaFragInv
import Derived.Test.YtcmiajnndmaeiaaPFragPlaysx0
/- The walks through the reference's size, May. -/
set_option linter.unusedVariables false
set_option linter.unusedSimpArgs false
namespace Go.Proofs.Ytcmiajnndmaeiaa
open Go.RowKit Go.Proofs.YtcmiajnndmaeiaaW.PrintWords Go.Proofs.YtcmiajnndmaeiaaW.PrintLast Go.Proofs.YtcmiajnndmaeiaaW.PrintMore
/-- A row of strings that is read. -/
def TC (w : World) (A : Option Addr) (ts : List ByteArray) : Prop := Kd.string.C w A ts.length ts
theorem TC.below {w w1 : World} {A : Option Addr} {ts : List ByteArray} (h : TC w A ts) (hb : Below w.heap.size w w1) : TC w1 A ts := Kd.C_below h hb
theorem TC.at_ {w : World} {A : Option Addr} {ts : List ByteArray} (h : TC w A ts) (i : Nat) (hi : i < ts.length) : ∃ ad, A = some ad ∧ w.cell? (ad.add i) = some (.string (ts.getD i ⟨#[]⟩)) := by
  have h1 := Kd.reads_of_C (enc := Value.string) (d := (⟨#[]⟩ : ByteArray)) (h1 := fun _ => rfl) h
  obtain ⟨_, _, h2⟩ := h1
  obtain ⟨ad, e, hc⟩ := h2 (by omega)
  exact ⟨ad, e, hc i hi⟩
def sizeT (ts : List ByteArray) : Nat := (ts.map fun t => t.size).sum
theorem sizeT_snoc (ts : List ByteArray) (t : ByteArray) : sizeT (ts ++ [t]) = sizeT ts + t.size := by simp [sizeT]
set_option maxHeartbeats 1000000 in
set_option maxRecDepth 100000 in
theorem refsize_calls {peer : ByteArray} {msg born : Int} {A : Option Addr} {c : Nat} {ts : List ByteArray} {w : World} {n : Nat} (h : TC w A ts) (hn : n = ts.length) (hc : n ≤ c) (hl : n ≤ 64) (hs : ∀ t ∈ ts, t.size ≤ 1024) :
    Calls Try.prog 43 #[.agg #[.string peer, .int .i64 msg, .int .u64 born, .slice A n c]] w fun e w' => e = .returned (.int .i64 (sizeT ts : Nat)) ∧ Below w.heap.size w w' := by
  have hal := below_alloc (Below.refl w.heap.size w) (.cells #[.string peer, .int .i64 msg, .int .u64 born, .slice A n c] 80)
  have hbk := blk_new w (.cells #[.string peer, .int .i64 msg, .int .u64 born, .slice A n c] 80)
  have d3 : (w.alloc (.cells #[.string peer, .int .i64 msg, .int .u64 born, .slice A n c] 80)).cell? ⟨w.heap.size, 3, none⟩ = some (.slice A n c) := by rw [blk_cell hbk]; rfl
  have HT := hd (h.below hal)
  have HAL := hd hal
  have HN := hd hn
  have HS := hd hs
  have n9 : (n : Int) ≤ 64 := by omega
  have hnc : (n : Int) ≤ c := by omega
  clear h hal hbk hs hn
  go_enter Try.func43, Try.ntmps43
  go_upto_region 3 with (fail)
  generalize (w.alloc (.cells #[.string peer, .int .i64 msg, .int .u64 born, .slice A n c] 80)) = w1 at d3 HT HAL ⊢
  go_loopw [3, 4] (fun u3 u4 wr => ∃ k : Nat, k ≤ n ∧ u4 = .int .i64 k ∧ u3 = .int .i64 (sizeT (ts.take k) : Nat) ∧ wr = w1) (fun _ u4 _ => n - (intOf u4).toNat)
  case atStart => exact ⟨0, Nat.zero_le _, rfl, rfl, rfl⟩
  case round =>
    obtain ⟨k, hk, rfl, rfl, rfl⟩ := hrel
    by_cases hlt : k < n
    · obtain ⟨ad, rfl, hcell⟩ := HT.out.at_ k (by rw [← HN.out]; exact hlt)
      have hkx : k < ts.length := by rw [← HN.out]; exact hlt
      have HTK := hd (show ts.take (k + 1) = ts.take k ++ [ts[k]] from List.take_succ_eq_append_getElem hkx)
      have hel : ts.getD k ⟨#[]⟩ = ts[k] := by rw [List.getD_eq_getElem?_getD, List.getElem?_eq_getElem hkx]; rfl
      rw [hel] at hcell
      have hsz := HS.out _ (List.getElem_mem hkx)
      have hle : sizeT (ts.take k) ≤ 65536 := by
        have h1 : ∀ l : List ByteArray, (∀ t ∈ l, t.size ≤ 1024) → sizeT l ≤ 1024 * l.length := fun l => by
          induction l with
          | nil => intro _; simp [sizeT]
          | cons t l ih =>
            intro h
            have h2 := ih (fun x hx => h x (by simp [hx]))
            have h3 := h t (by simp)
            simp only [sizeT, List.map_cons, List.sum_cons, List.length_cons] at h2 ⊢
            omega
        have h2 := h1 (ts.take k) (fun t ht => HS.out t (List.mem_of_mem_take ht))
        rw [List.length_take] at h2
        omega
      generalize ts[k] = x at *
      obtain ⟨z, HZ⟩ : ∃ z, Aside0 (sizeT (ts.take k) = z) := ⟨_, ⟨rfl⟩⟩
      rw [HZ.out] at hle ⊢
      obtain ⟨y, HY⟩ : ∃ y, Aside0 (x.size = y) := ⟨_, ⟨rfl⟩⟩
      have hy : (y : Int) ≤ 1024 := by rw [HY.out] at hsz; omega
      have hz : (z : Int) ≤ 65536 := by omega
      have i1 : (k : Int) < n := by omega
      clear hel hsz
      have hw : wrap64 ((z : Int) + (x.size : Int)) = ((z + y : Nat) : Int) := by
        rw [HY.out, IntWalk.wrap64_in _ ⟨by omega, by omega⟩]
        omega
      go_wp2
      go_roundw
      case rel => exact ⟨k + 1, by omega, by go_num, by rw [HTK.out, sizeT_snoc, HZ.out, hw, HY.out], by first | rfl | trivial⟩
      case measure => simp [intOf]; omega
    · have i1 : (n : Int) ≤ k := by omega
      go_wp2
      go_ret
      obtain rfl : k = n := by omega
      rw [List.take_of_length_le (by rw [← HN.out]; exact Nat.le_refl _)]
      exact ⟨rfl, HAL.out⟩
set_option maxHeartbeats 4000000 in
set_option maxRecDepth 100000 in
theorem refmay_calls {msg part parts : Int} {n : Nat} {w : World} (hn : n ≤ 1000000000) (hp1 : -9223372036854775808 ≤ parts) (hp2 : parts ≤ 9223372036854775807) :
    Calls Try.prog 37 #[.int .i64 msg, .int .i64 part, .int .i64 parts, .int .i64 (n : Int)] w fun e w' => e = .returned (.bool (mayB msg part parts n)) ∧ w = w' := by
  by_cases h0 : msg < 0
  · have q0 : decide ((0 : Int) ≤ msg) = false := by simp; omega
    have HM := hd (show mayB msg part parts n = false by unfold mayB; rw [q0]; simp)
    go_enter Try.func37, Try.ntmps37
    go_wp2
    go_ret
    exact ⟨by rw [HM.out]; first | rfl | simp_all | (simp; omega), rfl⟩
  have q0 : decide ((0 : Int) ≤ msg) = true := by simp; omega
  by_cases h1 : 7 < msg
  · have q1 : decide (msg ≤ 7) = false := by simp; omega
    have HM := hd (show mayB msg part parts n = false by unfold mayB; rw [q1]; simp)
    go_enter Try.func37, Try.ntmps37
    go_wp2
    go_ret
    exact ⟨by rw [HM.out]; first | rfl | simp_all | (simp; omega), rfl⟩
  have q1 : decide (msg ≤ 7) = true := by simp; omega
  by_cases h2 : parts < 1
  · have q2 : decide ((1 : Int) ≤ parts) = false := by simp; omega
    have HM := hd (show mayB msg part parts n = false by unfold mayB; rw [q2]; simp)
    go_enter Try.func37, Try.ntmps37
    go_wp2
    go_ret
    exact ⟨by rw [HM.out]; first | rfl | simp_all | (simp; omega), rfl⟩
  have q2 : decide ((1 : Int) ≤ parts) = true := by simp; omega
  by_cases h3 : 64 < parts
  · have q3 : decide (parts ≤ 64) = false := by simp; omega
    have HM := hd (show mayB msg part parts n = false by unfold mayB; rw [q3]; simp)
    go_enter Try.func37, Try.ntmps37
    go_wp2
    go_ret
    exact ⟨by rw [HM.out]; first | rfl | simp_all | (simp; omega), rfl⟩
  have q3 : decide (parts ≤ 64) = true := by simp; omega
  by_cases h4 : part < 0
  · have q4 : decide ((0 : Int) ≤ part) = false := by simp; omega
    have HM := hd (show mayB msg part parts n = false by unfold mayB; rw [q4]; simp)
    go_enter Try.func37, Try.ntmps37
    go_wp2
    go_ret
    exact ⟨by rw [HM.out]; first | rfl | simp_all | (simp; omega), rfl⟩
  have q4 : decide ((0 : Int) ≤ part) = true := by simp; omega
  by_cases h5 : parts ≤ part
  · have q5 : decide (part < parts) = false := by simp; omega
    have HM := hd (show mayB msg part parts n = false by unfold mayB; rw [q5]; simp)
    go_enter Try.func37, Try.ntmps37
    go_wp2
    go_ret
    exact ⟨by rw [HM.out]; first | rfl | simp_all | (simp; omega), rfl⟩
  have q5 : decide (part < parts) = true := by simp; omega
  by_cases h6 : n = 0
  · subst h6
    have HM := hd (show mayB msg part parts 0 = false by unfold mayB; simp)
    go_enter Try.func37, Try.ntmps37
    go_wp2
    go_ret
    exact ⟨by rw [HM.out]; first | rfl | simp_all | (simp; omega), rfl⟩
  have q6 : decide ((1 : Int) ≤ (n : Int)) = true := by simp; omega
  have q6' : decide (1 ≤ n) = true := by simp; omega
  have q6'' : decide (0 < n) = true := by simp; omega
  by_cases h7 : 1024 < n
  · have q7 : decide ((n : Int) ≤ 1024) = false := by simp; omega
    have q7' : decide (n ≤ 1024) = false := by simp; omega
    have HM := hd (show mayB msg part parts n = false by unfold mayB; rw [q7']; simp)
    go_enter Try.func37, Try.ntmps37
    go_wp2
    go_ret
    exact ⟨by rw [HM.out]; first | rfl | simp_all | (simp; omega), rfl⟩
  have q7 : decide ((n : Int) ≤ 1024) = true := by simp; omega
  have q7' : decide (n ≤ 1024) = true := by simp; omega
  by_cases h8 : n = 1024
  · subst h8
    have HM := hd (show mayB msg part parts 1024 = true by unfold mayB; rw [q0, q1, q2, q3, q4, q5]; rfl)
    go_enter Try.func37, Try.ntmps37
    go_wp2
    go_ret
    exact ⟨by rw [HM.out]; first | rfl | simp_all | (simp; omega), rfl⟩
  have q8 : ((n : Int) == 1024) = false := by simp; omega
  have q8' : (n == 1024) = false := by simp; omega
  have q8'' : decide (n = 1024) = false := by simp; omega
  have hw : wrap64 (part + 1) = part + 1 := IntWalk.wrap64_in _ ⟨by omega, by omega⟩
  by_cases h9 : part + 1 = parts
  · have q9 : (part + 1 == parts) = true := by simp; exact h9
    have HM := hd (show mayB msg part parts n = true by unfold mayB; rw [q0, q1, q2, q3, q4, q5, q6', q7', q8'', decide_eq_true h9]; rfl)
    go_enter Try.func37, Try.ntmps37
    go_wp2
    go_ret
    exact ⟨by rw [HM.out]; first | rfl | simp_all | (simp; omega), rfl⟩
  · have q9 : (part + 1 == parts) = false := by simp; exact h9
    have HM := hd (show mayB msg part parts n = false by unfold mayB; rw [q8'', decide_eq_false h9]; simp)
    go_enter Try.func37, Try.ntmps37
    go_wp2
    go_ret
    exact ⟨by rw [HM.out]; first | rfl | simp_all | (simp; omega), rfl⟩
theorem refleast_calls {a : Int} {w : World} : Calls Try.prog 36 #[.int .i64 a] w fun e w' => e = .returned (.int .i64 (maxz a : Nat)) ∧ w = w' := by
  by_cases h : a < 0
  · have q : decide (a < 0) = true := by simp; exact h
    have HM := hd (show ((maxz a : Nat) : Int) = 0 by unfold maxz; omega)
    go_enter Try.func36, Try.ntmps36
    go_wp2
    go_ret
    exact ⟨by rw [HM.out]; rfl, rfl⟩
  · have q : decide (a < 0) = false := by simp; omega
    have HM := hd (show ((maxz a : Nat) : Int) = a by unfold maxz; omega)
    go_enter Try.func36, Try.ntmps36
    go_wp2
    go_ret
    exact ⟨by rw [HM.out]; rfl, rfl⟩
set_option maxRecDepth 100000 in
theorem refnew_calls {P A G : Int} {w : World} : Calls Try.prog 14 #[.int .i64 P, .int .i64 A, .int .u64 G] w fun e w' => e = .returned (.agg #[.int .i64 (maxz P : Nat), .int .i64 (maxz A : Nat), .int .u64 G, .slice none 0 0]) ∧ Below w.heap.size w w' := by
  go_enter Try.func14, Try.ntmps14
  go_wp2_with fail
  refine refleast_calls.mono ?_
  rintro e w' ⟨rfl, rfl⟩
  go_wp2_with fail
  refine refleast_calls.mono ?_
  rintro e w' ⟨rfl, rfl⟩
  go_wp2
  refine bodyPost_ret (results_cell_row rfl _ _ w.heap.size 44 #[.int .i64 (maxz P : Nat), .int .i64 (maxz A : Nat), .int .u64 G, .slice none 0 0] (0, 0) _ rfl (blk_new w _) Try.underlying44 rfl (by kernel_rfl)) rfl ?_
  exact ⟨rfl, below_alloc (Below.refl _ _) _⟩
end Go.Proofs.Ytcmiajnndmaeiaa
/- The walks through the reference's Total. -/
set_option linter.unusedVariables false
set_option linter.unusedSimpArgs false
namespace Go.Proofs.Ytcmiajnndmaeiaa
open Go.RowKit Go.Proofs.YtcmiajnndmaeiaaW.PrintWords Go.Proofs.YtcmiajnndmaeiaaW.PrintLast Go.Proofs.YtcmiajnndmaeiaaW.PrintMore
open PFragPlays (S80 k80 at_T80 rd_T80 z80)
structure RefOk (x : S80) : Prop where
  few : x.f3.length ≤ 64
  small : ∀ t ∈ x.f3, t.size ≤ 1024
theorem sizeT_le : ∀ {l : List ByteArray}, (∀ t ∈ l, t.size ≤ 1024) → sizeT l ≤ 1024 * l.length
  | [], _ => by simp [sizeT]
  | t :: l, h => by
    have h2 := sizeT_le (l := l) (fun x hx => h x (by simp [hx]))
    have h3 := h t (by simp)
    simp only [sizeT, List.map_cons, List.sum_cons, List.length_cons] at h2 ⊢
    omega
def totT (es : List S80) : Nat := (es.map fun x => sizeT x.f3).sum
theorem totT_snoc (es : List S80) (x : S80) : totT (es ++ [x]) = totT es + sizeT x.f3 := by simp [totT]
theorem totT_le : ∀ {l : List S80}, (∀ x ∈ l, RefOk x) → totT l ≤ 65536 * l.length
  | [], _ => by simp [totT]
  | t :: l, h => by
    have h2 := totT_le (l := l) (fun x hx => h x (by simp [hx]))
    have h3 := h t (by simp)
    have h4 := sizeT_le h3.small
    have h5 := h3.few
    simp only [totT, List.map_cons, List.sum_cons, List.length_cons] at h2 ⊢
    omega
set_option maxHeartbeats 1000000 in
set_option maxRecDepth 100000 in
theorem reftotal_calls {P A G : Int} {Ab : Option Addr} {n c : Nat} {es : List S80} {w : World} (h : Kd.C k80 w Ab n es) (hn : n = es.length) (hc : n ≤ c) (hl : n ≤ 1000000) (hs : ∀ x ∈ es, RefOk x) :
    Calls Try.prog 17 #[.agg #[.int .i64 P, .int .i64 A, .int .u64 G, .slice Ab n c]] w fun e w' => e = .returned (.int .i64 (totT es : Nat)) ∧ Below w.heap.size w w' := by
  have hal := below_alloc (Below.refl w.heap.size w) (.cells #[.int .i64 P, .int .i64 A, .int .u64 G, .slice Ab n c] 44)
  have hbk := blk_new w (.cells #[.int .i64 P, .int .i64 A, .int .u64 G, .slice Ab n c] 44)
  have d3 : (w.alloc (.cells #[.int .i64 P, .int .i64 A, .int .u64 G, .slice Ab n c] 44)).cell? ⟨w.heap.size, 3, none⟩ = some (.slice Ab n c) := by rw [blk_cell hbk]; rfl
  have HT := hd (Kd.C_below h hal)
  have HAL := hd hal
  have HBK := hd hbk
  have HN := hd hn
  have HS := hd hs
  have n9 : (n : Int) ≤ 1000000 := by omega
  have hnc : (n : Int) ≤ c := by omega
  clear h hal hbk hs hn d3
  go_enter Try.func17, Try.ntmps17
  go_upto_region 3 with (fail)
  generalize (w.alloc (.cells #[.int .i64 P, .int .i64 A, .int .u64 G, .slice Ab n c] 44)) = w1 at HT HAL HBK ⊢
  generalize w.heap.size = pb at HBK ⊢
  go_loopw [3, 4] (fun u3 u4 wr => ∃ k : Nat, k ≤ n ∧ u4 = .int .i64 k ∧ u3 = .int .i64 (totT (es.take k) : Nat) ∧ Below w1.heap.size w1 wr) (fun _ u4 _ => n - (intOf u4).toNat)
  case atStart => exact ⟨0, Nat.zero_le _, rfl, rfl, Below.refl _ _⟩
  case round =>
    obtain ⟨k, hk, rfl, rfl, hb⟩ := hrel
    have d3 : wr.cell? ⟨pb, 3, none⟩ = some (.slice Ab n c) := by rw [blk_cell (blk_below HBK.out hb)]; rfl
    by_cases hlt : k < n
    · obtain ⟨ad, A3, c3, rfl, e0, e1, e2, e3, hc3, hts⟩ := at_T80 (Kd.C_below HT.out hb) (k : Int) (by omega) (by omega)
      rw [Int.toNat_natCast] at e0 e1 e2 e3
      have hkx : k < es.length := by rw [← HN.out]; exact hlt
      have HTK := hd (show es.take (k + 1) = es.take k ++ [es[k]] from List.take_succ_eq_append_getElem hkx)
      have hel : rd_T80 es (k : Int) = es[k] := by unfold rd_T80; rw [Int.toNat_natCast, List.getD_eq_getElem?_getD, List.getElem?_eq_getElem hkx]; rfl
      rw [hel] at e0 e1 e2 e3 hc3 hts
      have hok := HS.out _ (List.getElem_mem hkx)
      have hle := totT_le (l := es.take k) (fun t ht => HS.out t (List.mem_of_mem_take ht))
      rw [List.length_take] at hle
      generalize es[k] = x at *
      obtain ⟨m, hm⟩ : ∃ m, m = x.f3.length := ⟨_, rfl⟩
      rw [← hm] at e3 hc3 hts
      have HRS := hd (refsize_calls (peer := x.f0) (msg := x.f1) (born := x.f2) (show TC wr A3 x.f3 from by rw [hm] at hts; exact hts) hm hc3 (by rw [hm]; exact hok.few) hok.small)
      have hsz := sizeT_le hok.small
      have hfw := hok.few
      obtain ⟨z, HZ⟩ : ∃ z, Aside0 (totT (es.take k) = z) := ⟨_, ⟨rfl⟩⟩
      rw [HZ.out] at hle ⊢
      obtain ⟨y, HY⟩ : ∃ y, Aside0 (sizeT x.f3 = y) := ⟨_, ⟨rfl⟩⟩
      rw [HY.out] at hsz HRS
      have hy : (y : Int) ≤ 65536 := by omega
      have hz : (z : Int) ≤ 65536000000 := by omega
      have hw : wrap64 ((z : Int) + (y : Int)) = ((z + y : Nat) : Int) := by
        rw [IntWalk.wrap64_in _ ⟨by omega, by omega⟩]
        omega
      have i1 : (k : Int) < n := by omega
      clear hel hts hok hm hsz hfw hle
      go_wp2_with fail
      refine HRS.out.mono ?_
      rintro e w2 ⟨rfl, hb2⟩
      go_wp2
      go_roundw
      case rel => exact ⟨k + 1, by omega, by go_num, by rw [HTK.out, totT_snoc, HZ.out, HY.out]; exact congrArg (Value.int .i64) (by first | omega | (rw [hw])), below_seq hb hb2⟩
      case measure => simp [intOf]; omega
    · have i1 : (n : Int) ≤ k := by omega
      go_wp2
      go_ret
      obtain rfl : k = n := by omega
      rw [List.take_of_length_le (by rw [← HN.out]; exact Nat.le_refl _)]
      exact ⟨rfl, below_seq HAL.out hb⟩
def heldT (peer : ByteArray) (es : List S80) : Nat := (es.map fun x => if (x.f0.toList == peer.toList) = true then sizeT x.f3 else 0).sum
theorem heldT_snoc (peer : ByteArray) (es : List S80) (x : S80) : heldT peer (es ++ [x]) = heldT peer es + if (x.f0.toList == peer.toList) = true then sizeT x.f3 else 0 := by simp [heldT]
theorem heldT_le (peer : ByteArray) : ∀ (l : List S80), heldT peer l ≤ totT l
  | [] => Nat.le_refl _
  | x :: l => by
    have h := heldT_le peer l
    simp only [heldT, totT, List.map_cons, List.sum_cons] at h ⊢
    split <;> omega
set_option maxHeartbeats 1000000 in
set_option maxRecDepth 100000 in
theorem refheld_calls {P A G : Int} {Ab : Option Addr} {n c : Nat} {es : List S80} {w : World} {peer : ByteArray} (h : Kd.C k80 w Ab n es) (hn : n = es.length) (hc : n ≤ c) (hl : n ≤ 1000000) (hs : ∀ x ∈ es, RefOk x) :
    Calls Try.prog 23 #[.agg #[.int .i64 P, .int .i64 A, .int .u64 G, .slice Ab n c], .string peer] w fun e w' => e = .returned (.int .i64 (heldT peer es : Nat)) ∧ Below w.heap.size w w' := by
  have hal := below_alloc (Below.refl w.heap.size w) (.cells #[.int .i64 P, .int .i64 A, .int .u64 G, .slice Ab n c] 44)
  have hbk := blk_new w (.cells #[.int .i64 P, .int .i64 A, .int .u64 G, .slice Ab n c] 44)
  have d3 : (w.alloc (.cells #[.int .i64 P, .int .i64 A, .int .u64 G, .slice Ab n c] 44)).cell? ⟨w.heap.size, 3, none⟩ = some (.slice Ab n c) := by rw [blk_cell hbk]; rfl
  have HT := hd (Kd.C_below h hal)
  have HAL := hd hal
  have HBK := hd hbk
  have HN := hd hn
  have HS := hd hs
  have n9 : (n : Int) ≤ 1000000 := by omega
  have hnc : (n : Int) ≤ c := by omega
  clear h hal hbk hs hn d3
  go_enter Try.func23, Try.ntmps23
  go_upto_region 3 with (fail)
  generalize (w.alloc (.cells #[.int .i64 P, .int .i64 A, .int .u64 G, .slice Ab n c] 44)) = w1 at HT HAL HBK ⊢
  generalize w.heap.size = pb at HBK ⊢
  go_loopw [5, 6] (fun u3 u4 wr => ∃ k : Nat, k ≤ n ∧ u4 = .int .i64 k ∧ u3 = .int .i64 (heldT peer (es.take k) : Nat) ∧ Below w1.heap.size w1 wr) (fun _ u4 _ => n - (intOf u4).toNat)
  case atStart => exact ⟨0, Nat.zero_le _, rfl, rfl, Below.refl _ _⟩
  case round =>
    obtain ⟨k, hk, rfl, rfl, hb⟩ := hrel
    have d3 : wr.cell? ⟨pb, 3, none⟩ = some (.slice Ab n c) := by rw [blk_cell (blk_below HBK.out hb)]; rfl
    by_cases hlt : k < n
    · obtain ⟨ad, A3, c3, rfl, e0, e1, e2, e3, hc3, hts⟩ := at_T80 (Kd.C_below HT.out hb) (k : Int) (by omega) (by omega)
      rw [Int.toNat_natCast] at e0 e1 e2 e3
      have hkx : k < es.length := by rw [← HN.out]; exact hlt
      have HTK := hd (show es.take (k + 1) = es.take k ++ [es[k]] from List.take_succ_eq_append_getElem hkx)
      have hel : rd_T80 es (k : Int) = es[k] := by unfold rd_T80; rw [Int.toNat_natCast, List.getD_eq_getElem?_getD, List.getElem?_eq_getElem hkx]; rfl
      rw [hel] at e0 e1 e2 e3 hc3 hts
      have hok := HS.out _ (List.getElem_mem hkx)
      have hle := Nat.le_trans (heldT_le peer (es.take k)) (totT_le (l := es.take k) (fun t ht => HS.out t (List.mem_of_mem_take ht)))
      rw [List.length_take] at hle
      generalize es[k] = x at *
      obtain ⟨m, hm⟩ : ∃ m, m = x.f3.length := ⟨_, rfl⟩
      rw [← hm] at e3 hc3 hts
      have HRS := hd (refsize_calls (peer := x.f0) (msg := x.f1) (born := x.f2) (show TC wr A3 x.f3 from by rw [hm] at hts; exact hts) hm hc3 (by rw [hm]; exact hok.few) hok.small)
      have hsz := sizeT_le hok.small
      have hfw := hok.few
      obtain ⟨z, HZ⟩ : ∃ z, Aside0 (heldT peer (es.take k) = z) := ⟨_, ⟨rfl⟩⟩
      rw [HZ.out] at hle ⊢
      obtain ⟨y, HY⟩ : ∃ y, Aside0 (sizeT x.f3 = y) := ⟨_, ⟨rfl⟩⟩
      rw [HY.out] at hsz HRS
      have hy : (y : Int) ≤ 65536 := by omega
      have hz : (z : Int) ≤ 65536000000 := by omega
      have hw : wrap64 ((z : Int) + (y : Int)) = ((z + y : Nat) : Int) := by
        rw [IntWalk.wrap64_in _ ⟨by omega, by omega⟩]
        omega
      have i1 : (k : Int) < n := by omega
      clear hel hts hok hm hsz hfw hle
      cases hq : (x.f0.toList == peer.toList)
      · have HQ := hd hq
        go_wp2
        go_roundw
        case rel => exact ⟨k + 1, by omega, by go_num, by rw [HTK.out, heldT_snoc, HZ.out, HQ.out]; rfl, hb⟩
        case measure => simp [intOf]; omega
      · have HQ := hd hq
        go_wp2_with fail
        refine HRS.out.mono ?_
        rintro e w2 ⟨rfl, hb2⟩
        go_wp2
        go_roundw
        case rel => exact ⟨k + 1, by omega, by go_num, by rw [HTK.out, heldT_snoc, HZ.out, HQ.out, HY.out]; exact congrArg (Value.int .i64) (by first | (simp; done) | omega | (rw [hw]; rfl)), below_seq hb hb2⟩
        case measure => simp [intOf]; omega
    · have i1 : (n : Int) ≤ k := by omega
      go_wp2
      go_ret
      obtain rfl : k = n := by omega
      rw [List.take_of_length_le (by rw [← HN.out]; exact Nat.le_refl _)]
      exact ⟨rfl, below_seq HAL.out hb⟩
end Go.Proofs.Ytcmiajnndmaeiaa
/- The walk through the reference's find. -/
set_option linter.unusedVariables false
set_option linter.unusedSimpArgs false
namespace Go.Proofs.Ytcmiajnndmaeiaa
open Go.RowKit Go.Proofs.YtcmiajnndmaeiaaW.PrintWords Go.Proofs.YtcmiajnndmaeiaaW.PrintLast Go.Proofs.YtcmiajnndmaeiaaW.PrintMore
open PFragPlays (S80 k80 at_T80 rd_T80 z80)
def ownT (peer : ByteArray) (msg : Int) (x : S80) : Bool := (x.f0.toList == peer.toList) && (x.f1 == msg)
set_option maxHeartbeats 1000000 in
set_option maxRecDepth 100000 in
theorem reffind_calls {P A G msg : Int} {Ab : Option Addr} {n c : Nat} {es : List S80} {w : World} {peer : ByteArray} (h : Kd.C k80 w Ab n es) (hn : n = es.length) (hc : n ≤ c) (hl : n ≤ 1000000) :
    Calls Try.prog 38 #[.agg #[.int .i64 P, .int .i64 A, .int .u64 G, .slice Ab n c], .string peer, .int .i64 msg] w fun e w' => e = .returned (.int .i64 (idxZ (ownT peer msg) es)) ∧ Below w.heap.size w w' := by
  have hal := below_alloc (Below.refl w.heap.size w) (.cells #[.int .i64 P, .int .i64 A, .int .u64 G, .slice Ab n c] 44)
  have hbk := blk_new w (.cells #[.int .i64 P, .int .i64 A, .int .u64 G, .slice Ab n c] 44)
  have HT := hd (Kd.C_below h hal)
  have HAL := hd hal
  have HBK := hd hbk
  have HN := hd hn
  have n9 : (n : Int) ≤ 1000000 := by omega
  have hnc : (n : Int) ≤ c := by omega
  clear h hal hbk hn
  go_enter Try.func38, Try.ntmps38
  go_upto_region 2 with (fail)
  generalize (w.alloc (.cells #[.int .i64 P, .int .i64 A, .int .u64 G, .slice Ab n c] 44)) = w1 at HT HAL HBK ⊢
  generalize w.heap.size = pb at HBK ⊢
  go_loopw [7] (fun u4 wr => ∃ k : Nat, k ≤ n ∧ u4 = .int .i64 k ∧ Aside0 (∀ x ∈ es.take k, ownT peer msg x = false) ∧ Below w1.heap.size w1 wr) (fun u4 _ => n - (intOf u4).toNat)
  case atStart => exact ⟨0, Nat.zero_le _, rfl, ⟨fun x hx => by simp at hx⟩, Below.refl _ _⟩
  case round =>
    obtain ⟨k, hk, rfl, hno, hb⟩ := hrel
    have d3 : wr.cell? ⟨pb, 3, none⟩ = some (.slice Ab n c) := by rw [blk_cell (blk_below HBK.out hb)]; rfl
    by_cases hlt : k < n
    · obtain ⟨ad, A3, c3, rfl, e0, e1, e2, e3, hc3, hts⟩ := at_T80 (Kd.C_below HT.out hb) (k : Int) (by omega) (by omega)
      rw [Int.toNat_natCast] at e0 e1 e2 e3
      have hkx : k < es.length := by rw [← HN.out]; exact hlt
      have hel : rd_T80 es (k : Int) = es[k] := by unfold rd_T80; rw [Int.toNat_natCast, List.getD_eq_getElem?_getD, List.getElem?_eq_getElem hkx]; rfl
      rw [hel] at e0 e1 e2 e3 hc3 hts
      have HHIT := hd (fun (h2 : ownT peer msg es[k] = true) => idxZ_hit (p := ownT peer msg) hkx hno.out h2)
      have HNX := hd (fun (h2 : ownT peer msg es[k] = false) => (show ∀ x ∈ es.take (k + 1), ownT peer msg x = false from fun x hx => by
        rcases take_succ_mem hkx hx with h3 | h3
        · exact hno.out x h3
        · rw [h3]; exact h2))
      generalize es[k] = x at *
      have i1 : (k : Int) < n := by omega
      clear hel hts hc3 e2 e3
      cases hq : (x.f0.toList == peer.toList)
      · have HQ := hd (show ownT peer msg x = false by unfold ownT; rw [hq]; rfl)
        go_wp2
        go_roundw
        case rel => exact ⟨k + 1, by omega, by go_num, ⟨HNX.out HQ.out⟩, hb⟩
        case measure => simp [intOf]; omega
      · cases hm : (x.f1 == msg)
        · have HQ := hd (show ownT peer msg x = false by unfold ownT; rw [hq, hm]; rfl)
          go_wp2
          go_roundw
          case rel => exact ⟨k + 1, by omega, by go_num, ⟨HNX.out HQ.out⟩, hb⟩
          case measure => simp [intOf]; omega
        · have HQ := hd (show ownT peer msg x = true by unfold ownT; rw [hq, hm]; rfl)
          go_wp2
          go_ret
          exact ⟨by rw [HHIT.out HQ.out]; rfl, below_seq HAL.out hb⟩
    · have i1 : (n : Int) ≤ k := by omega
      go_wp2
      go_ret
      obtain rfl : k = n := by omega
      have hno2 := hno.out
      rw [List.take_of_length_le (by rw [← HN.out]; exact Nat.le_refl _)] at hno2
      exact ⟨by rw [idxZ_miss hno2]; rfl, below_seq HAL.out hb⟩
end Go.Proofs.Ytcmiajnndmaeiaa
