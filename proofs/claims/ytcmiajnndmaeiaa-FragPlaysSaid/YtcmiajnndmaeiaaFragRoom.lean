/- The walk through Buffer.room. -/
import Derived.Test.YtcmiajnndmaeiaaFragSrt
set_option linter.unusedVariables false
set_option linter.unusedSimpArgs false
namespace Go.Proofs.Ytcmiajnndmaeiaa
open Go.RowKit Go.Proofs.YtcmiajnndmaeiaaW.PrintWords Go.Proofs.YtcmiajnndmaeiaaW.PrintLast Go.Proofs.YtcmiajnndmaeiaaW.PrintMore
theorem Try.infoPtr : (Try.prog.info? 64).map (fun i => (i.zero, i.size, i.bytes)) = some (some (.pointer none), 1, 8) := by kernel_rfl
section
variable {ops : Array Oper} {rest : List Oper} {o : Oper} {a : Act} {Q : Exit → Act → World → Prop} {Kc : Act → World → Prop}
/-- append(v, p): behind the variadic's box. -/
theorem op_appendP {w0 W : World} (N : Tmp) (hd : o.dst = some N) (base : Nat) (s x : Operand) (ho : o.op = .call { callee := .builtin .append, args := #[s, x], argTypes := #[61, 61] }) (hgd : o.guard = none)
    (v : Value) (l : List (Option Addr)) (y : Option Addr) (hs : a.eval s = v) (hx : a.eval x = .slice (some ⟨W.heap.size, 0, none⟩) 1 1) (HO : PRow base W v l) (HB : Below base w0 W) (hbase : base ≤ W.heap.size) (hl : l.length ≤ 2000000)
    (h : ∀ v1 w1, PRow base w1 v1 (l ++ [y]) → Below base w0 w1 → W.grownBy w1 v.ownBlock → wpList Try.prog ops Q rest (a.put o.dst v1) w1) :
    wpList Try.prog ops Q (o :: rest) a (W.alloc (.cells #[.pointer y] 64)) :=
  Kd.R_append KP (w0 := w0) (W := W) base hgd s x 61 64 (.pointer none) 8 ho Try.underlying61 Try.infoPtr rfl (Nat.zero_lt_one) (by decide) v l y [.pointer y] (fun _ => True) (fun g => some g ≠ v.ownBlock) hs hx rfl (fun g hg => ⟨trivial, hg⟩) (fun _ _ => trivial) HO HB hbase (by omega) (fun v1 w1 h1 hb hg _ => h v1 w1 h1 hb hg)
theorem op_appendP_step {w0 W : World} (N : Tmp) (hd : o.dst = some N) (base : Nat) (s x : Operand) (ho : o.op = .call { callee := .builtin .append, args := #[s, x], argTypes := #[61, 61] }) (hw : Region.wanted o (yielded ops a.tmps) = true)
    (v : Value) (l : List (Option Addr)) (y : Option Addr) (hs : a.eval s = v) (hx : a.eval x = .slice (some ⟨W.heap.size, 0, none⟩) 1 1) (HO : PRow base W v l) (HB : Below base w0 W) (hbase : base ≤ W.heap.size) (hl : l.length ≤ 2000000)
    (h : ∀ v1 w1, PRow base w1 v1 (l ++ [y]) → Below base w0 w1 → W.grownBy w1 v.ownBlock → (v1.ownBlock = v.ownBlock ∨ ∃ b, v1.ownBlock = some b ∧ W.heap.size ≤ b) → Kc (a.put o.dst v1) w1) :
    if Region.wanted o (yielded ops a.tmps) = true then Oper.wp Try.prog o a (W.alloc (.cells #[.pointer y] 64)) Kc Q else Kc (a.put o.dst undef) (W.alloc (.cells #[.pointer y] 64)) :=
  Kd.R_append_step KP (w0 := w0) (W := W) base hw s x 61 64 (.pointer none) 8 ho Try.underlying61 Try.infoPtr rfl (Nat.zero_lt_one) (by decide) v l y [.pointer y] (fun _ => True) (fun g => some g ≠ v.ownBlock) hs hx rfl (fun g hg => ⟨trivial, hg⟩) (fun _ _ => trivial) HO HB hbase (by omega) (fun v1 w1 h1 hb hg hat => h v1 w1 h1 hb hg hat)
end
/-! ### plain -/
def sizeC (x : Cel) : Nat := sizeL x.e.parts
def sumC (L : List Cel) : Nat := (L.map sizeC).sum
theorem sumC_snoc (L : List Cel) (x : Cel) : sumC (L ++ [x]) = sumC L + sizeC x := by simp [sumC]
theorem sumC_le {L : List Cel} (h : ∀ x ∈ L, EntOk x.e) : sumC L ≤ 65536 * L.length := by
  induction L with
  | nil => simp [sumC]
  | cons x L ih =>
    have h1 := (h x (by simp)).size
    have h2 := ih (fun y hy => h y (by simp [hy]))
    simp only [sumC, sizeC, List.map_cons, List.sum_cons, List.length_cons] at *
    omega
theorem sumC_ins (x : Cel) (S : List Cel) : sumC (insL x S) = sumC S + sizeC x := by
  induction S with
  | nil => simp [insL, sumC]
  | cons y S ih =>
    unfold insL
    split
    · simp only [sumC, List.map_cons, List.sum_cons]; omega
    · simp only [sumC, List.map_cons, List.sum_cons] at ih ⊢; omega
theorem sumC_sort (xs : List Cel) : sumC (sortL xs) = sumC xs := snoc_ind (P := fun xs => sumC (sortL xs) = sumC xs) rfl (fun l x ih => by rw [sortL_snoc, sumC_ins, ih, sumC_snoc]) xs
theorem sumC_filter (p : Cel → Bool) (xs : List Cel) : sumC (xs.filter p) ≤ sumC xs := by
  induction xs with
  | nil => exact Nat.le_refl _
  | cons x xs ih =>
    by_cases h : p x = true
    · rw [List.filter_cons_of_pos h]
      simp only [sumC, List.map_cons, List.sum_cons] at ih ⊢
      omega
    · rw [List.filter_cons_of_neg h]
      simp only [sumC, List.map_cons, List.sum_cons] at ih ⊢
      omega
theorem sumB_true (xs : List Cel) : sumB (fun _ => true) xs = sumC xs := by
  unfold sumB
  rw [List.filter_eq_self.2 (fun _ _ => rfl)]
  rfl
theorem sumC_take (L : List Cel) (k : Nat) : sumC (L.take k) ≤ sumC L := by
  have h : ∀ a b : List Cel, sumC (a ++ b) = sumC a + sumC b := fun a b => by simp [sumC]
  have h2 := h (L.take k) (L.drop k)
  rw [List.take_append_drop] at h2
  omega
/-- How many must go. -/
def roomK : Int → List Cel → Nat
  | _, [] => 0
  | left, x :: L => if left < 0 then roomK (left + sizeC x) L + 1 else 0
theorem roomK_eq : ∀ (L : List Cel) (left : Int) (k : Nat), k ≤ L.length → (∀ j, j < k → left + sumC (L.take j) < 0) → (k = L.length ∨ 0 ≤ left + sumC (L.take k)) → roomK left L = k
  | [], left, k, hk, _, _ => by
    have h0 : k = 0 := by simpa using hk
    rw [h0]
    rfl
  | x :: L, left, 0, _, _, h2 => by
    have h3 : 0 ≤ left := by simpa [sumC] using h2
    rw [roomK, if_neg (by omega)]
  | x :: L, left, k + 1, hk, h1, h2 => by
    have h3 : left < 0 := by simpa [sumC] using h1 0 (by omega)
    have h4 := roomK_eq L (left + sizeC x) k (by simpa using hk) (fun j hj => by
      have := h1 (j + 1) (by omega)
      simp only [List.take_succ_cons, sumC, List.map_cons, List.sum_cons] at this ⊢
      omega) (by
      rcases h2 with h2 | h2
      · exact Or.inl (by simpa using h2)
      · right
        simp only [List.take_succ_cons, sumC, List.map_cons, List.sum_cons] at h2 ⊢
        omega)
    rw [roomK, if_pos h3, h4]
/-- Is it not the own one? -/
def neO (o : Option Nat) (x : Cel) : Bool := match o with
  | none => true
  | some g => x.g != g
def othersL (peer : ByteArray) (o : Option Nat) (xs : List Cel) : List Cel := xs.filter fun x => mine_ peer x && neO o x
structure RoomR where
  gone : List Cel
  fits : Bool
def roomR (P A n : Nat) (peer : ByteArray) (o : Option Nat) (xs : List Cel) : RoomR :=
  let L := sortL (othersL peer o xs)
  let left : Int := (P : Int) - n - sumB (mine_ peer) xs
  let all : Int := (A : Int) - n - sumB (fun _ => true) xs
  let G := L.take (roomK left L)
  ⟨G, decide (0 ≤ left + sumC G) && decide (0 ≤ all + sumC G)⟩
def ownPtr : Option Nat → Option Addr
  | none => none
  | some g => gp g
set_option maxHeartbeats 4000000 in
set_option maxRecDepth 100000 in
theorem room_calls {base b P A G n : Nat} {w : World} {v : Value} {xs : List Cel} {peer : ByteArray} {o : Option Nat} (h : BufAt base w b P A G v xs) (hok : ∀ x ∈ xs, EntOk x.e) (ho : ∀ g, o = some g → ∃ y, y.g = g ∧ EntAt base w y) (hP : P ≤ 9223372036854775807) (hA : A ≤ 9223372036854775807) (hn : n ≤ 1024) (hfit : xs.length ≤ 1000000) (hfew : (othersL peer o xs).length < 20) :
    Calls Try.prog 28 #[.pointer (gp b), .string peer, .pointer (ownPtr o), .int .i64 (n : Int)] w fun e w' => ∃ v1, e = .returned (.tuple #[v1, .bool (roomR P A n peer o xs).fits]) ∧ PRow w.heap.size w' v1 ((roomR P A n peer o xs).gone.map fun x => gp x.g) ∧ Below w.heap.size w w' := by
  obtain ⟨hH, HH⟩ : ∃ z, Aside0 (sumB (mine_ peer) xs = z) := ⟨_, ⟨rfl⟩⟩
  obtain ⟨hT, HT⟩ : ∃ z, Aside0 (sumB (fun _ => true) xs = z) := ⟨_, ⟨rfl⟩⟩
  have l1 := sumB_le (p := mine_ peer) hok
  have l2 := sumB_le (p := fun _ => true) hok
  rw [HH.out] at l1
  rw [HT.out] at l2
  have r1 : (hH : Int) ≤ 65536000000 := by omega
  have r2 : (hT : Int) ≤ 65536000000 := by omega
  have r3 : (n : Int) ≤ 1024 := by omega
  obtain ⟨p0, hp0⟩ : ∃ z : Int, z = (P : Int) - n := ⟨_, rfl⟩
  obtain ⟨p1, hp1⟩ : ∃ z : Int, z = p0 - hH := ⟨_, rfl⟩
  obtain ⟨a0, ha0⟩ : ∃ z : Int, z = (A : Int) - n := ⟨_, rfl⟩
  obtain ⟨a1, ha1⟩ : ∃ z : Int, z = a0 - hT := ⟨_, rfl⟩
  have e1 : IntKind.i64.wrap ((P : Int) - n) = p0 := (IntWalk.i64_in _ (by omega)).trans hp0.symm
  have e2 : IntKind.i64.wrap (p0 - hH) = p1 := (IntWalk.i64_in _ (by omega)).trans hp1.symm
  have e3 : IntKind.i64.wrap ((A : Int) - n) = a0 := (IntWalk.i64_in _ (by omega)).trans ha0.symm
  have e4 : IntKind.i64.wrap (a0 - hT) = a1 := (IntWalk.i64_in _ (by omega)).trans ha1.symm
  have e1' : wrap64 ((P : Int) - n) = p0 := (IntWalk.wrap64_in _ ⟨by omega, by omega⟩).trans hp0.symm
  have e2' : wrap64 (p0 - hH) = p1 := (IntWalk.wrap64_in _ ⟨by omega, by omega⟩).trans hp1.symm
  have e3' : wrap64 ((A : Int) - n) = a0 := (IntWalk.wrap64_in _ ⟨by omega, by omega⟩).trans ha0.symm
  have e4' : wrap64 (a0 - hT) = a1 := (IntWalk.wrap64_in _ ⟨by omega, by omega⟩).trans ha1.symm
  have b1 : p1 ≤ 9223372036854775807 := by omega
  have b2 : -65536001024 ≤ p1 := by omega
  have b3 : a1 ≤ 9223372036854775807 := by omega
  have b4 : -65536001024 ≤ a1 := by omega
  have hAB : a1 + sumC (sortL (othersL peer o xs)) ≤ 9223372036854775807 := by
    have h1 := sumC_filter (fun x => mine_ peer x && neO o x) xs
    have h2 := sumB_true xs
    rw [HT.out] at h2
    rw [sumC_sort]
    unfold othersL
    omega
  have HR := hd (show roomR P A n peer o xs = ⟨(sortL (othersL peer o xs)).take (roomK p1 (sortL (othersL peer o xs))), decide (0 ≤ p1 + sumC ((sortL (othersL peer o xs)).take (roomK p1 (sortL (othersL peer o xs))))) && decide (0 ≤ a1 + sumC ((sortL (othersL peer o xs)).take (roomK p1 (sortL (othersL peer o xs)))))⟩ by
    unfold roomR
    rw [HH.out, HT.out, ← hp0, ← hp1, ← ha0, ← ha1])
  have HE := hd (show b1 = b1 from rfl)
  have HAB := hd hAB
  clear hp0 hp1 ha0 ha1 l1 l2 HE hAB
  rw [HR.out]
  have HB := hd h
  have HOK := hd hok
  have HO := hd ho
  obtain ⟨c0, c1, c2, c3, _⟩ := h.cell
  have HPP := hd hP
  have HAA := hd hA
  have HC := hd c3
  clear h hok ho hP hA c2 c3 HR
  unfold gp
  go_enter Try.func28, Try.ntmps28
  go_wp2
  refine up_start [] [(0, true), (1, true), (2, true), (3, true), (4, true), (5, true), (6, true), (7, true), (8, true), (11, true), (12, true), (13, true), (14, true), (15, true), (16, true), (17, true), (18, true), (9, false), (10, true), (19, false), (20, true), (21, true), (22, true)] (by kernel_rfl) rfl (by kernel_rfl) (by kernel_rfl) ?_
  have g0 := Grow.cells (show w.drew.cell? ⟨b, 0, none⟩ = _ from c0)
  have g1 := Grow.cells (show w.drew.cell? ⟨b, 1, none⟩ = _ from c1)
  have hB := HB.out.below (below_drew (Below.refl _ _))
  have hbw := below_drew (Below.refl w.heap.size w)
  generalize w.drew = w5 at g0 g1 hB hbw ⊢
  clear c0 c1 HC
  refine seq_pure (i := 0) (N := some 16) (v := ?_) (a' := ?_) rfl rfl (by rfl) (fun _ _ _ h => h) ?_ ?_ ?_
  rotate_left 2
  · intro w' hg
    go_simp
    with_reducible rfl
  · simp only [Act.put, List.setIfInBounds_toArray, List.set_cons_zero, List.set_cons_succ, i64_w, i32_w]
    rfl
  refine seq_pure (i := 1) (N := some 17) (v := ?_) (a' := ?_) rfl rfl (by rfl) (fun _ _ _ h => h) ?_ ?_ ?_
  rotate_left 2
  · intro w' hg
    go_simp
    with_reducible rfl
  · simp only [Act.put, List.setIfInBounds_toArray, List.set_cons_zero, List.set_cons_succ, i64_w, i32_w]
    rfl
  refine seq_pure (i := 2) (N := some 18) (v := ?_) (a' := ?_) rfl rfl (by rfl) (fun _ _ _ h => h) ?_ ?_ ?_
  rotate_left 2
  · intro w' hg
    go_simp
    with_reducible rfl
  · simp only [Act.put, List.setIfInBounds_toArray, List.set_cons_zero, List.set_cons_succ, i64_w, i32_w]
    rfl
  refine seq_pure (i := 3) (N := some 19) (v := ?_) (a' := ?_) rfl rfl (by rfl) (fun _ _ _ h => h) ?_ ?_ ?_
  rotate_left 2
  · intro w' hg
    go_simp
    with_reducible rfl
  · simp only [Act.put, List.setIfInBounds_toArray, List.set_cons_zero, List.set_cons_succ, i64_w, i32_w]
    rfl
  refine seq_pure (i := 4) (N := some 20) (v := ?_) (a' := ?_) rfl rfl (by rfl) (fun _ _ _ h => h) ?_ ?_ ?_
  rotate_left 2
  · intro w' hg
    go_simp
    with_reducible rfl
  · simp only [Act.put, List.setIfInBounds_toArray, List.set_cons_zero, List.set_cons_succ, i64_w, i32_w]
    rfl
  refine seq_pure (i := 5) (N := some 21) (v := ?_) (a' := ?_) rfl rfl (by rfl) (fun _ _ _ h => h) ?_ ?_ ?_
  rotate_left 2
  · intro w' hg
    go_simp
    with_reducible rfl
  · simp only [Act.put, List.setIfInBounds_toArray, List.set_cons_zero, List.set_cons_succ, i64_w, i32_w]
    rfl
  refine seq_pure (i := 6) (N := some 22) (v := ?_) (a' := ?_) rfl rfl (by rfl) (fun _ _ _ h => h) ?_ ?_ ?_
  rotate_left 2
  · intro w' hg
    go_simp
    with_reducible rfl
  · simp only [Act.put, List.setIfInBounds_toArray, List.set_cons_zero, List.set_cons_succ, i64_w, i32_w]
    rfl
  refine seq_pure (i := 7) (N := some 23) (v := ?_) (a' := ?_) rfl rfl (by rfl) (fun _ _ _ h => h) ?_ ?_ ?_
  rotate_left 2
  · intro w' hg
    go_simp
    with_reducible rfl
  · simp only [Act.put, List.setIfInBounds_toArray, List.set_cons_zero, List.set_cons_succ, i64_w, i32_w]
    rfl
  refine seq_pure (i := 8) (N := some 24) (v := ?_) (a' := ?_) rfl rfl (by rfl) (fun _ _ _ h => h) ?_ ?_ ?_
  rotate_left 2
  · intro w' hg
    go_simp
    with_reducible rfl
  · simp only [Act.put, List.setIfInBounds_toArray, List.set_cons_zero, List.set_cons_succ, i64_w, i32_w]
    rfl
  refine seq_pure (i := 11) (N := some 27) (v := ?_) (a' := ?_) rfl rfl (by rfl) (fun _ _ _ h => h) ?_ ?_ ?_
  rotate_left 2
  · intro w' hg
    go_simp
    with_reducible rfl
  · simp only [Act.put, List.setIfInBounds_toArray, List.set_cons_zero, List.set_cons_succ, i64_w, i32_w]
    rfl
  refine seq_pure (i := 12) (N := some 28) (v := ?_) (a' := ?_) rfl rfl (by rfl) (fun _ _ _ h => h) ?_ ?_ ?_
  rotate_left 2
  · intro w' hg
    go_simp
    with_reducible rfl
  · simp only [Act.put, List.setIfInBounds_toArray, List.set_cons_zero, List.set_cons_succ, i64_w, i32_w]
    rfl
  refine seq_pure (i := 13) (N := some 29) (v := ?_) (a' := ?_) rfl rfl (by rfl) (fun _ _ _ h => h) ?_ ?_ ?_
  rotate_left 2
  · intro w' hg
    go_simp
    with_reducible rfl
  · simp only [Act.put, List.setIfInBounds_toArray, List.set_cons_zero, List.set_cons_succ, i64_w, i32_w]
    rfl
  refine seq_pure (i := 14) (N := some 30) (v := ?_) (a' := ?_) rfl rfl (by rfl) (fun _ _ _ h => h) ?_ ?_ ?_
  rotate_left 2
  · intro w' hg
    go_simp
    with_reducible rfl
  · simp only [Act.put, List.setIfInBounds_toArray, List.set_cons_zero, List.set_cons_succ, i64_w, i32_w]
    rfl
  refine seq_pure (i := 15) (N := some 31) (v := ?_) (a' := ?_) rfl rfl (by rfl) (fun _ _ _ h => h) ?_ ?_ ?_
  rotate_left 2
  · intro w' hg
    go_simp
    with_reducible rfl
  · simp only [Act.put, List.setIfInBounds_toArray, List.set_cons_zero, List.set_cons_succ, i64_w, i32_w]
    rfl
  refine seq_pure (i := 16) (N := some 32) (v := ?_) (a' := ?_) rfl rfl (by rfl) (fun _ _ _ h => h) ?_ ?_ ?_
  rotate_left 2
  · intro w' hg
    go_simp
    with_reducible rfl
  · simp only [Act.put, List.setIfInBounds_toArray, List.set_cons_zero, List.set_cons_succ, i64_w, i32_w]
    rfl
  refine seq_pure (i := 17) (N := some 33) (v := ?_) (a' := ?_) rfl rfl (by rfl) (fun _ _ _ h => h) ?_ ?_ ?_
  rotate_left 2
  · intro w' hg
    go_simp
    with_reducible rfl
  · simp only [Act.put, List.setIfInBounds_toArray, List.set_cons_zero, List.set_cons_succ, i64_w, i32_w]
    rfl
  refine seq_pure (i := 18) (N := some 34) (v := ?_) (a' := ?_) rfl rfl (by rfl) (fun _ _ _ h => h) ?_ ?_ ?_
  rotate_left 2
  · intro w' hg
    go_simp
    with_reducible rfl
  · simp only [Act.put, List.setIfInBounds_toArray, List.set_cons_zero, List.set_cons_succ, i64_w, i32_w]
    rfl
  refine seq_call (i := 9) (N := some 25) rfl rfl Try.func22 (by kernel_rfl) rfl #[.pointer (some ⟨b, 0, none⟩), .string peer] (by rfl) rfl ?_ ?_
  · simp only [List.map_toArray, List.map_cons, List.map_nil]
    rfl
  refine (held_calls hB HOK.out hfit).mono ?_
  rw [HH.out]
  rintro e w6 ⟨rfl, hb6⟩
  replace hB := hB.below hb6
  replace hbw := below_seq hbw hb6
  refine ⟨_, rfl, fun _ => hb6, ?_⟩
  refine seq_norm (a' := ?_) ?_ ?_
  rotate_left
  · show Act.put _ (some 25) _ = _
    simp only [Act.put, List.setIfInBounds_toArray, List.set_cons_zero, List.set_cons_succ, i64_w, i32_w]
    rfl
  refine seq_pure (i := 10) (N := some 26) (v := ?_) (a' := ?_) rfl rfl (by rfl) (fun _ _ _ h => h) ?_ ?_ ?_
  rotate_left 2
  · intro w' hg
    go_simp
    with_reducible rfl
  · simp only [Act.put, List.setIfInBounds_toArray, List.set_cons_zero, List.set_cons_succ, i64_w, i32_w]
    rfl
  refine seq_call (i := 19) (N := some 35) rfl rfl Try.func16 (by kernel_rfl) rfl #[.pointer (some ⟨b, 0, none⟩)] (by rfl) rfl ?_ ?_
  · simp only [List.map_toArray, List.map_cons, List.map_nil]
    rfl
  refine (total_calls hB HOK.out hfit).mono ?_
  rw [HT.out]
  rintro e w7 ⟨rfl, hb7⟩
  replace hB := hB.below hb7
  replace hbw := below_seq hbw hb7
  refine ⟨_, rfl, fun _ => hb7, ?_⟩
  clear hb7
  refine seq_norm (a' := ?_) ?_ ?_
  rotate_left
  · show Act.put _ (some 35) _ = _
    simp only [Act.put, List.setIfInBounds_toArray, List.set_cons_zero, List.set_cons_succ, i64_w, i32_w]
    rfl
  refine seq_pure (i := 20) (N := some 36) (v := ?_) (a' := ?_) rfl rfl (by rfl) (fun _ _ _ h => h) ?_ ?_ ?_
  rotate_left 2
  · intro w' hg
    go_simp
    with_reducible rfl
  · simp only [Act.put, List.setIfInBounds_toArray, List.set_cons_zero, List.set_cons_succ, i64_w, i32_w]
    rfl
  refine seq_pure (i := 21) (N := some 10) (v := ?_) (a' := ?_) rfl rfl (by rfl) (fun _ _ _ h => h) ?_ ?_ ?_
  rotate_left 2
  · intro w' hg
    go_simp
    with_reducible rfl
  · simp only [Act.put, List.setIfInBounds_toArray, List.set_cons_zero, List.set_cons_succ, i64_w, i32_w]
    rfl
  refine seq_pure (i := 22) (N := some 11) (v := ?_) (a' := ?_) rfl rfl (by rfl) (fun _ _ _ h => h) ?_ ?_ ?_
  rotate_left 2
  · intro w' hg
    go_simp
    with_reducible rfl
  · simp only [Act.put, List.setIfInBounds_toArray, List.set_cons_zero, List.set_cons_succ, i64_w, i32_w]
    rfl
  refine seq_done ?_
  clear e1 e2 e3 e4 e1' e2' e3' e4' r1 r2
  obtain ⟨_, _, _, c3, _⟩ := hB.cell
  obtain ⟨A1, d1, rfl, _⟩ := hB.row.slice
  rw [List.length_map] at *
  obtain ⟨m, hm⟩ : ∃ m, m = xs.length := ⟨_, rfl⟩
  rw [← hm] at c3 hfit hB
  have HM := hd hm
  have HBW := hd hbw
  have hbs := hbw.size
  clear hB hbw hm
  go_wp2
  go_loopw [12, 42] (fun u12 u42 wr => ∃ k : Nat, k ≤ m ∧ u42 = .int .i64 k ∧ PRow w.heap.size wr u12 ((othersL peer o (xs.take k)).map fun x => gp x.g) ∧ Below w.heap.size w wr) (fun _ u42 _ => m - (intOf u42).toNat)
  case atStart => exact ⟨0, Nat.zero_le _, rfl, Kd.R_nil _ _ _ _ _, HBW.out⟩
  case round =>
    obtain ⟨k, hk, rfl, hpr, hb⟩ := hrel
    have k9 : (k : Int) ≤ 1000000 := by omega
    by_cases hlt : k < m
    · have hBk := HB.out.below hb
      obtain ⟨r, rfl, _, _⟩ := hBk.row.at_ (by rw [← HM.out]; omega)
      obtain ⟨hcell, _⟩ := hBk.row.cell k (by rw [← HM.out]; exact hlt)
      have hkx : k < xs.length := by rw [← HM.out]; exact hlt
      have hel : (xs.map fun x => gp x.g).getD k none = gp (xs[k]'hkx).g := by
        rw [List.getD_eq_getElem?_getD, List.getElem?_map, List.getElem?_eq_getElem hkx]; rfl
      rw [hel] at hcell
      have HT2 := hd (show othersL peer o (xs.take (k + 1)) = othersL peer o (xs.take k) ++ if mine_ peer xs[k] && neO o xs[k] then [xs[k]] else [] from filter_take_succ _ _ _ hkx)
      have hent := hBk.ents _ (List.getElem_mem hkx)
      have HOL := hd (show ((othersL peer o (xs.take k)).map fun x => gp x.g).length ≤ 2000000 by
        have h1 := List.length_filter_le (fun x => mine_ peer x && neO o x) (xs.take k)
        rw [List.length_take] at h1
        rw [List.length_map]
        unfold othersL
        omega)
      generalize xs[k] = x at *
      obtain ⟨cx, d0, _⟩ := hent.cells
      obtain ⟨cb, hcb⟩ := hent.gblk
      have HCB := hd hcb
      have HP := hd hpr
      have hs := hb.size
      unfold gp at hcell
      have k1 : (k : Int) < m := by omega
      clear hel hent hpr hBk hcb
      cases hq : (x.e.peer.toList == peer.toList)
      · have HQ := hd (show (mine_ peer x && neO o x) = false by rw [mine_, hq]; rfl)
        go_wp2
        go_roundw
        case rel => exact ⟨k + 1, by omega, by go_num, by rw [HT2.out, HQ.out]; simpa using HP.out, hb⟩
        case measure => simp [intOf]; omega
      · rcases o with _ | g
        · have HQ := hd (show (mine_ peer x && neO none x) = true by rw [mine_, hq]; rfl)
          unfold ownPtr
          go_wp2_with ((with_reducible refine gate_dst (N := 60) rfl ?_); at_builtin; refine op_appendP (w0 := w) 60 rfl w.heap.size (.tmp 57) (.tmp 59) rfl rfl u12 ((othersL peer none (xs.take k)).map fun x => gp x.g) (gp x.g) rfl rfl HP.out hb hs HOL.out ?_; intro v1 w1 h1 hb1 hg1)
          go_roundw
          case rel =>
            refine ⟨k + 1, by omega, by go_num, ?_, hb1⟩
            rw [HT2.out, HQ.out, if_pos rfl, List.map_append]
            exact h1
          case measure => simp [intOf]; omega
        · obtain ⟨y, hyg, hye⟩ := HO.out g rfl
          subst hyg
          obtain ⟨cy, hcy⟩ := (hye.below hb).gblk
          have hne : (binOp .neq 64 (.pointer (some ⟨x.g, 0, none⟩)) (.pointer (gp y.g))).run Try.prog wr = .ok (.bool (x.g != y.g)) wr := ptr_ne HCB.out hcy
          clear hye hcy
          unfold ownPtr
          cases hz : (x.g != y.g)
          · have HQ := hd (show (mine_ peer x && neO (some y.g) x) = false by rw [mine_, hq, neO, hz]; rfl)
            rw [hz] at hne
            clear hz
            go_wp2
            go_roundw
            case rel => exact ⟨k + 1, by omega, by go_num, by rw [HT2.out, HQ.out]; simpa using HP.out, hb⟩
            case measure => simp [intOf]; omega
          · have HQ := hd (show (mine_ peer x && neO (some y.g) x) = true by rw [mine_, hq, neO, hz]; rfl)
            rw [hz] at hne
            clear hz
            go_wp2_with ((with_reducible refine gate_dst (N := 60) rfl ?_); at_builtin; refine op_appendP (w0 := w) 60 rfl w.heap.size (.tmp 57) (.tmp 59) rfl rfl u12 ((othersL peer (some y.g) (xs.take k)).map fun x => gp x.g) (gp x.g) rfl rfl HP.out hb hs HOL.out ?_; intro v1 w1 h1 hb1 hg1)
            go_roundw
            case rel =>
              refine ⟨k + 1, by omega, by go_num, ?_, hb1⟩
              rw [HT2.out, HQ.out, if_pos rfl, List.map_append]
              exact h1
            case measure => simp [intOf]; omega
    · obtain rfl : k = m := by omega
      rw [List.take_of_length_le (by rw [HM.out]; exact Nat.le_refl _)] at hpr
      have hmem : ∀ x ∈ othersL peer o xs, x ∈ xs := fun x hx => (List.mem_filter.1 hx).1
      have hents : ∀ x ∈ othersL peer o xs, EntAt base wr x := fun x hx => (HB.out.ents x (hmem x hx)).below hb
      have HOK2 := hd (fun x hx => HOK.out x (hmem x hx))
      clear hmem
      obtain ⟨L, HLL⟩ : ∃ L, Aside0 (othersL peer o xs = L) := ⟨_, ⟨rfl⟩⟩
      rw [HLL.out] at hpr hents hfew HOK2 HAB
      obtain ⟨A2, d2, rfl, _⟩ := hpr.slice
      rw [List.length_map] at *
      obtain ⟨l, hl⟩ : ∃ l, l = L.length := ⟨_, rfl⟩
      rw [← hl] at hpr hfew ⊢
      have HL := hd (hl.trans (sortL_length L).symm)
      have HSS := hd (sortStable_calls hpr hents hfew)
      have HPB := hd hpr.blk
      have HMB := hd (fun x (hx : x ∈ sortL L) => HOK2.out x (sortL_mem.1 hx))
      have HE2 := hd (fun x (hx : x ∈ sortL L) => hents x (sortL_mem.1 hx))
      have HPR := hd hpr
      obtain ⟨R, HRR⟩ : ∃ R, Aside0 (sortL L = R) := ⟨_, ⟨rfl⟩⟩
      rw [HRR.out] at HL HSS HMB HE2 HAB
      clear hents hl hpr
      go_wp2_with fail
      refine HSS.out.mono ?_
      rintro e w2 ⟨rfl, hp2, hm2⟩
      have hb2 : Below w.heap.size w w2 := hb.trans (hm2.toBelow (fun k hk => Kd.R_base HPR.out k hk) hb.size)
      have HE3 := hd (fun x (hx : x ∈ R) => (HE2.out x hx).row HPR.out hm2)
      have HP2 := hd hp2
      have HB2 := hd hb2
      clear hp2 hb2 hm2 HE2
      go_wp2
      go_loopw [10, 11, 15] (fun u10 u11 u15 wi => ∃ k : Nat, k ≤ l ∧ u15 = .int .i64 k ∧ u10 = .int .i64 (p1 + sumC (R.take k)) ∧ u11 = .int .i64 (a1 + sumC (R.take k)) ∧ Aside0 (∀ j, j < k → p1 + sumC (R.take j) < 0) ∧ wi = w2) (fun _ _ u15 _ => l - (intOf u15).toNat)
      case atStart => exact ⟨0, Nat.zero_le _, rfl, by simp [sumC], by simp [sumC], ⟨fun j hj => by omega⟩, rfl⟩
      case round =>
        obtain ⟨k, hk, rfl, rfl, rfl, HNEG, rfl⟩ := hrel
        have hsl := sumC_le (L := R.take k) (fun x hx => HMB.out x (List.mem_of_mem_take hx))
        rw [List.length_take] at hsl
        obtain ⟨z, HZ⟩ : ∃ z, Aside0 (sumC (R.take k) = z) := ⟨_, ⟨rfl⟩⟩
        rw [HZ.out] at hsl ⊢
        obtain ⟨pz, hpz⟩ : ∃ pz : Int, pz = p1 + z := ⟨_, rfl⟩
        obtain ⟨az, haz⟩ : ∃ az : Int, az = a1 + z := ⟨_, rfl⟩
        rw [← hpz, ← haz]
        have k9 : (k : Int) ≤ 20 := by omega
        have az1 : -65536001024 ≤ az := by omega
        have pz1 : -65536001024 ≤ pz := by omega
        by_cases hneg : pz < 0
        · have q1 : decide (pz < 0) = true := by simp; exact hneg
          by_cases hlt : k < l
          · have q2 : decide (k < l) = true := by simp; exact hlt
            have hkR : k < R.length := by rw [← HL.out]; exact hlt
            have hAr : ∃ r, A2 = some ⟨r, 0, none⟩ := by obtain ⟨r, h1, _⟩ := HP2.out.at_ (by omega); exact ⟨r, h1⟩
            obtain ⟨r, rfl⟩ := hAr
            obtain ⟨hcell, _⟩ := HP2.out.cell k hlt
            have hel : (R.map fun x => gp x.g).getD k none = gp (R[k]'hkR).g := by
              rw [List.getD_eq_getElem?_getD, List.getElem?_map, List.getElem?_eq_getElem hkR]; rfl
            rw [hel] at hcell
            have HT3 := hd (show R.take (k + 1) = R.take k ++ [R[k]] from List.take_succ_eq_append_getElem hkR)
            have hex := HE3.out _ (List.getElem_mem hkR)
            have hox := HMB.out _ (List.getElem_mem hkR)
            generalize R[k] = x at *
            have HX := hd hex
            have HOX := hd hox
            have hsx := hox.size
            obtain ⟨y, HY⟩ : ∃ y, Aside0 (sizeL x.e.parts = y) := ⟨_, ⟨rfl⟩⟩
            rw [HY.out] at hsx
            have y9 : (y : Int) ≤ 65536 := by omega
            have HPZ := hd hpz
            have HAZ := hd haz
            have hay : az + (y : Int) ≤ 9223372036854775807 := by
              have h1 := sumC_take R (k + 1)
              rw [HT3.out, sumC_snoc, HZ.out] at h1
              have h2 : sizeC x = y := HY.out
              have h3 := HAB.out
              rw [h2] at h1
              omega
            have k1 : (k : Int) < l := by omega
            unfold gp at hcell
            clear hel hex hox hpz haz hsl
            go_wp2_with fail
            refine (size_calls HX.out HOX.out).mono ?_
            rintro e w' ⟨rfl, rfl⟩
            rw [HY.out]
            go_wp2_with fail
            refine (size_calls HX.out HOX.out).mono ?_
            rintro e w' ⟨rfl, rfl⟩
            rw [HY.out]
            go_wp2
            go_roundw
            case rel =>
              have h2 : sizeC x = y := HY.out
              refine ⟨k + 1, by omega, by go_num, ?_, ?_, ⟨fun j hj => ?_⟩, by first | rfl | trivial⟩
              · rw [HT3.out, sumC_snoc, HZ.out, h2]
                exact congrArg (Value.int .i64) (by have := HPZ.out; omega)
              · rw [HT3.out, sumC_snoc, HZ.out, h2]
                exact congrArg (Value.int .i64) (by have := HAZ.out; omega)
              · rcases Nat.lt_or_ge j k with h | h
                · exact HNEG.out j h
                · obtain rfl : j = k := by omega
                  rw [HZ.out, ← HPZ.out]
                  exact hneg
            case measure => simp [intOf]; omega
          · obtain rfl : k = l := by omega
            have hKK := hd (show roomK p1 R = k from roomK_eq R p1 k (by rw [← HL.out]; exact Nat.le_refl _) HNEG.out (Or.inl HL.out))
            have q2 : decide (k < k) = false := by simp
            have q3 : decide (0 ≤ pz) = false := by simp; omega
            have HTK := hd (Kd.R_take HP2.out (m := k) (by rw [List.length_map, ← HL.out]; exact Nat.le_refl _))
            have hkd : (k : Int) ≤ d2 := by have := (Kd.R_reads' HP2.out).2.1; omega
            have HPZ := hd hpz
            clear hpz haz hsl
            go_wp2
            go_ret2
            refine ⟨.slice A2 k d2, ?_, ?_, HB2.out⟩
            · rw [HLL.out, HRR.out, hKK.out, HZ.out, ← HPZ.out, q3]
              rfl
            · rw [HLL.out, HRR.out, hKK.out]
              first | exact HTK.out | (rw [List.map_take]; exact HTK.out)
        · have q1 : decide (pz < 0) = false := by simp; omega
          have q3 : decide (0 ≤ pz) = true := by simp; omega
          have hKK := hd (show roomK p1 R = k from roomK_eq R p1 k (by rw [← HL.out]; exact hk) HNEG.out (Or.inr (by rw [HZ.out, ← hpz]; omega)))
          have HTK := hd (Kd.R_take HP2.out (m := k) (by rw [List.length_map, ← HL.out]; exact hk))
          have hkd : (k : Int) ≤ d2 := by have := (Kd.R_reads' HP2.out).2.1; omega
          have HPZ := hd hpz
          have HAZ := hd haz
          clear hpz haz hsl
          go_wp2
          go_ret2
          refine ⟨.slice A2 k d2, ?_, ?_, HB2.out⟩
          · rw [HLL.out, HRR.out, hKK.out, HZ.out, ← HPZ.out, ← HAZ.out, q3]
            rfl
          · rw [HLL.out, HRR.out, hKK.out]
            first | exact HTK.out | (rw [List.map_take]; exact HTK.out)
end Go.Proofs.Ytcmiajnndmaeiaa
