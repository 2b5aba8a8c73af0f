/- The walk through slices.insertionSortCmpFunc, SortStableFunc over entries. -/
import Derived.Test.YtcmiajnndmaeiaaFragBuf
set_option linter.unusedVariables false
set_option linter.unusedSimpArgs false
namespace Go.Proofs.Ytcmiajnndmaeiaa
open Go.RowKit Go.Proofs.YtcmiajnndmaeiaaW.PrintWords Go.Proofs.YtcmiajnndmaeiaaW.PrintLast Go.Proofs.YtcmiajnndmaeiaaW.PrintMore
/-! ### the order: plain -/
/-- Put behind those that were born no later. -/
def insL (x : Cel) : List Cel → List Cel
  | [] => [x]
  | y :: S => if x.e.born < y.e.born then x :: y :: S else y :: insL x S
def sortL (xs : List Cel) : List Cel := xs.foldl (fun S x => insL x S) []
theorem sortL_snoc (xs : List Cel) (x : Cel) : sortL (xs ++ [x]) = insL x (sortL xs) := by simp [sortL]
theorem insL_length (x : Cel) (S : List Cel) : (insL x S).length = S.length + 1 := by
  induction S with
  | nil => rfl
  | cons y S ih =>
    unfold insL
    split
    · rfl
    · simp [ih]
theorem insL_mem {x : Cel} {S : List Cel} {z : Cel} : z ∈ insL x S ↔ z = x ∨ z ∈ S := by
  induction S with
  | nil => simp [insL]
  | cons y S ih =>
    unfold insL
    split
    · simp
    · simp only [List.mem_cons, ih]
      constructor
      · rintro (h | h | h)
        · exact Or.inr (Or.inl h)
        · exact Or.inl h
        · exact Or.inr (Or.inr h)
      · rintro (h | h | h)
        · exact Or.inr (Or.inl h)
        · exact Or.inl h
        · exact Or.inr (Or.inr h)
theorem snoc_ind {α : Type} {P : List α → Prop} (h0 : P []) (h1 : ∀ l x, P l → P (l ++ [x])) (l : List α) : P l := by
  have : ∀ n, ∀ l : List α, l.length = n → P l := by
    intro n
    induction n with
    | zero => intro l hl; rw [List.length_eq_zero_iff.1 hl]; exact h0
    | succ n ih =>
      intro l hl
      have hne : l ≠ [] := fun e => by rw [e] at hl; simp at hl
      rw [← List.dropLast_concat_getLast hne]
      exact h1 _ _ (ih _ (by rw [List.length_dropLast, hl]; rfl))
  exact this _ l rfl
theorem sortL_length (xs : List Cel) : (sortL xs).length = xs.length := by
  refine snoc_ind (P := fun xs => (sortL xs).length = xs.length) rfl (fun l x ih => ?_) xs
  rw [sortL_snoc, insL_length, ih, List.length_append]
  rfl
theorem sortL_mem {xs : List Cel} {z : Cel} : z ∈ sortL xs ↔ z ∈ xs := by
  refine snoc_ind (P := fun xs => z ∈ sortL xs ↔ z ∈ xs) (by simp [sortL]) (fun l x ih => ?_) xs
  rw [sortL_snoc, insL_mem, ih, List.mem_append, List.mem_singleton]
  exact or_comm
def Asc (S : List Cel) : Prop := S.Pairwise fun a b => a.e.born ≤ b.e.born
theorem insL_asc {x : Cel} {S : List Cel} (h : Asc S) : Asc (insL x S) := by
  induction S with
  | nil => simp [insL, Asc]
  | cons y S ih =>
    have h1 := List.pairwise_cons.1 h
    unfold insL
    split
    · rename_i hlt
      refine List.pairwise_cons.2 ⟨fun z hz => ?_, h⟩
      rcases List.mem_cons.1 hz with rfl | hz
      · omega
      · have := h1.1 z hz
        omega
    · rename_i hge
      refine List.pairwise_cons.2 ⟨fun z hz => ?_, ih h1.2⟩
      rcases insL_mem.1 hz with rfl | hz
      · omega
      · exact h1.1 z hz
theorem sortL_asc (xs : List Cel) : Asc (sortL xs) := snoc_ind (P := fun xs => Asc (sortL xs)) (by simp [sortL, Asc]) (fun l x ih => by rw [sortL_snoc]; exact insL_asc ih) xs
theorem insL_split {x : Cel} {B : List Cel} : ∀ {T : List Cel}, (∀ y ∈ T, y.e.born ≤ x.e.born) → (∀ y ∈ B, x.e.born < y.e.born) → insL x (T ++ B) = T ++ x :: B
  | [], _, hB => by
    cases B with
    | nil => rfl
    | cons y B => simp [insL, hB y (by simp)]
  | y :: T, hT, hB => by
    have h1 := hT y (by simp)
    rw [List.cons_append, insL, if_neg (by omega), insL_split (fun z hz => hT z (by simp [hz])) hB]
    rfl
/-- Where the scan from the right stops. -/
theorem insL_stop {x y : Cel} {T B : List Cel} (h : Asc (T ++ [y] ++ B)) (hy : y.e.born ≤ x.e.born) (hB : ∀ z ∈ B, x.e.born < z.e.born) : insL x (T ++ [y] ++ B) = T ++ [y] ++ x :: B := by
  refine insL_split (fun z hz => ?_) hB
  rcases List.mem_append.1 hz with hz | hz
  · have h1 := (List.pairwise_append.1 (List.pairwise_append.1 h).1).2.2 z hz y (by simp)
    omega
  · rw [List.mem_singleton.1 hz]; exact hy
theorem EntAt.row {base base2 : Nat} {w w1 : World} {v : Value} {ps : List (Option Addr)} {x : Cel} (h : EntAt base2 w x) (hr : PRow base w v ps) (hm : Mod (fun k => v.ownBlock = some k) w w1) : EntAt base2 w1 x := by
  refine h.mod hm (fun k cells hc hk => ?_) (fun hk => ?_) (fun hk => ?_)
  · obtain ⟨c', hc'⟩ := hr.blk k hk
    exact absurd (heap_type hc hc') (by decide)
  · obtain ⟨c, hc⟩ := hr.blk _ hk
    obtain ⟨c', hc'⟩ := h.gblk
    exact absurd (heap_type hc hc') (by decide)
  · obtain ⟨c, hc⟩ := hr.blk _ hk
    obtain ⟨c', hc'⟩ := h.qblk
    exact absurd (heap_type hc hc') (by decide)
theorem enters50 : ∀ args w, (callFunc 50 args).run Try.prog w = .ok (.enter 50 args) w := enters_of Try.func50 (by kernel_rfl) rfl
theorem cmpB_neg (a b : Nat) : decide (cmpB a b < 0) = decide (a < b) := by
  unfold cmpB
  by_cases h : a < b
  · simp [h]
  · by_cases h2 : b < a
    · simp [h, h2]
    · simp [h, h2]
theorem swap_set {T R : List Cel} {x y : Cel} : (((T ++ y :: x :: R).map fun z => gp z.g).set (T.length + 1) (gp y.g)).set T.length (gp x.g) = (T ++ x :: y :: R).map fun z => gp z.g := by
  simp [List.map_append, List.set_append_right, List.length_map]
theorem get_mid {T R : List Cel} {x : Cel} : ((T ++ x :: R).map fun z => gp z.g).getD T.length none = gp x.g := by
  simp [List.getD_eq_getElem?_getD, List.getElem?_append_right]
set_option maxHeartbeats 4000000 in
set_option maxRecDepth 100000 in
theorem insertion_calls {base base2 n c : Nat} {A : Option Addr} {w : World} {xs : List Cel} (hr : PRow base w (.slice A n c) (xs.map fun x => gp x.g)) (hx : ∀ x ∈ xs, EntAt base2 w x) (hfit : n ≤ 20) :
    Calls Try.prog 56 #[.slice A n c, .int .i64 0, .int .i64 (n : Int), .func (.func 50) #[] #[]] w fun e w' => e = .returned (.tuple #[]) ∧ PRow base w' (.slice A n c) ((sortL xs).map fun x => gp x.g) ∧ Mod (fun k => (Value.slice A n c).ownBlock = some k) w w' := by
  have hn : n = xs.length := by have := (Kd.R_reads' hr).1; simpa using this
  have eg := enters50
  have HR := hd hr
  have HX := hd hx
  have HN := hd hn
  clear hr hx hn
  go_enter Try.func56, Try.ntmps56
  go_wp2
  go_loopw [8] (fun u8 wr => ∃ i : Nat, 1 ≤ i ∧ (i ≤ n ∨ i = 1) ∧ u8 = .int .i64 i ∧ PRow base wr (.slice A n c) ((sortL (xs.take i) ++ xs.drop i).map fun x => gp x.g) ∧ Mod (fun k => (Value.slice A n c).ownBlock = some k) w wr) (fun u8 _ => n - (intOf u8).toNat)
  case atStart =>
    refine ⟨1, Nat.le_refl _, Or.inr rfl, rfl, ?_, Mod.refl _ _⟩
    have h1 : sortL (xs.take 1) ++ xs.drop 1 = xs := by cases xs <;> rfl
    rw [h1]
    exact HR.out
  case round =>
    obtain ⟨i, hi1, hi2, rfl, hpr, hmod⟩ := hrel
    have i9 : (i : Int) ≤ 20 := by omega
    by_cases hlt : i < n
    · have q1 : decide (i < n) = true := by simp; exact hlt
      have hix : i < xs.length := by rw [← HN.out]; exact hlt
      obtain ⟨x, HXI⟩ : ∃ x, Aside0 (xs[i] = x) := ⟨_, ⟨rfl⟩⟩
      have hmx : x ∈ xs := by rw [← HXI.out]; exact List.getElem_mem _
      have hdr : xs.drop i = x :: xs.drop (i + 1) := by rw [List.drop_eq_getElem_cons hix, HXI.out]
      obtain ⟨rest, HREST⟩ : ∃ rest, Aside0 (xs.drop (i + 1) = rest) := ⟨_, ⟨rfl⟩⟩
      obtain ⟨S, HS⟩ : ∃ S, Aside0 (sortL (xs.take i) = S) := ⟨_, ⟨rfl⟩⟩
      have HASC := hd (sortL_asc (xs.take i))
      have HSL := hd (sortL_length (xs.take i))
      have HSM := hd (fun z => (sortL_mem (xs := xs.take i) (z := z)).1)
      rw [HS.out] at HASC HSL HSM
      rw [hdr, HREST.out, HS.out] at hpr
      have hsl : S.length = i := by rw [HSL.out, List.length_take]; omega
      have HSL2 := hd hsl
      have HP0 := hd hpr
      have HM0 := hd hmod
      have HF := hd (show sortL (xs.take (i + 1)) = insL x S by rw [List.take_succ_eq_append_getElem hix, sortL_snoc, HXI.out, HS.out])
      clear hpr hmod hsl hdr
      go_wp2
      go_loopw [9] (fun u9 wi => ∃ (T B : List Cel), u9 = .int .i64 (T.length : Int) ∧ Aside0 (S = T ++ B) ∧ Aside0 (∀ z ∈ B, x.e.born < z.e.born) ∧ PRow base wi (.slice A n c) ((T ++ x :: (B ++ rest)).map fun x => gp x.g) ∧ Mod (fun k => (Value.slice A n c).ownBlock = some k) w wi) (fun u9 _ => (intOf u9).toNat)
      case atStart => exact ⟨S, [], by rw [HSL2.out], ⟨by simp⟩, ⟨fun z hz => by simp at hz⟩, HP0.out, HM0.out⟩
      case round =>
        rename World => wi
        clear HP0 HM0
        obtain ⟨T, B, rfl, HTB, HB, hpr, hmod⟩ := hrel
        have htl : T.length ≤ i := by rw [← HSL2.out, HTB.out, List.length_append]; omega
        have t9 : (T.length : Int) ≤ 20 := by omega
        rcases List.eq_nil_or_concat T with rfl | ⟨T0, y, rfl⟩
        · have HP := hd hpr
          have HM := hd hmod
          clear hpr hmod
          go_wp2
          go_quiet (fail)
          go_wp2
          go_roundw
          case rel =>
            refine ⟨i + 1, by omega, by omega, by go_num, ?_, HM.out.then_ (Mod.below (pw_below_drewN (Below.refl _ _) _)) (fun _ _ h => h)⟩
            rw [HF.out, HTB.out, HREST.out, insL_split (T := []) (by simp) HB.out]
            exact HP.out.below (pw_below_drewN (Below.refl _ _) _)
          case measure => simp [intOf]; omega
        · rw [List.concat_eq_append] at hpr HTB htl t9 ⊢
          obtain ⟨j, HJ⟩ : ∃ j, Aside0 (T0.length = j) := ⟨_, ⟨rfl⟩⟩
          obtain ⟨jj, hjj⟩ : ∃ jj, jj = j + 1 := ⟨_, rfl⟩
          have hlen : (T0 ++ [y]).length = jj := by rw [List.length_append, HJ.out, hjj]; rfl
          rw [hlen] at htl t9 ⊢
          have hrow : (T0 ++ [y]) ++ x :: (B ++ rest) = T0 ++ y :: x :: (B ++ rest) := by simp
          rw [hrow] at hpr
          have hjn : jj < n := by omega
          have hjn0 : j < n := by omega
          have hjne : jj ≠ j := by omega
          have hAr : ∃ r, A = some ⟨r, 0, none⟩ := by obtain ⟨r, h1, _⟩ := hpr.at_ (by omega); exact ⟨r, h1⟩
          obtain ⟨r, rfl⟩ := hAr
          have hg0 : ((T0 ++ y :: x :: (B ++ rest)).map fun z => gp z.g).getD j none = gp y.g := by rw [← HJ.out]; exact get_mid
          have hg1 : ((T0 ++ y :: x :: (B ++ rest)).map fun z => gp z.g).getD jj none = gp x.g := by
            have := get_mid (T := T0 ++ [y]) (R := B ++ rest) (x := x)
            rw [hlen, hrow] at this
            exact this
          have hmy : y ∈ xs := List.mem_of_mem_take (HSM.out y (by rw [HTB.out]; simp))
          have hex := (HX.out x hmx).row HR.out hmod
          have hey := (HX.out y hmy).row HR.out hmod
          have HQ := hd (fun q => room1_quiet (hex.below (pw_below_drewN (Below.refl _ _) q)) (hey.below (pw_below_drewN (Below.refl _ _) q)))
          have hc := cmpB_neg x.e.born y.e.born
          generalize cmpB x.e.born y.e.born = cz at HQ hc
          obtain ⟨k1, _⟩ := hpr.cell jj hjn
          obtain ⟨k0, _⟩ := hpr.cell j hjn0
          rw [hg1] at k1
          rw [hg0] at k0
          unfold gp at k1 k0 HQ
          have HSW := hd (show (((T0 ++ y :: x :: (B ++ rest)).map fun z => gp z.g).set jj (gp y.g)).set j (gp x.g) = (T0 ++ x :: y :: (B ++ rest)).map fun z => gp z.g by rw [hjj, ← HJ.out]; exact swap_set)
          have HG0 := hd hg0
          have HG1 := hd hg1
          have HPR := hd hpr
          have HMO := hd hmod
          have HJN := hd hjn
          have HJN0 := hd hjn0
          have HJNE := hd hjne
          have p1 : (0 : Int) < jj := by omega
          have p2 : (jj : Int) < n := by omega
          have p3 : (j : Int) < n := by omega
          have p4 : 0 < jj := by omega
          have p5 : (0 : Int) ≤ j := by omega
          have e0 : (jj : Int) - 1 = (j : Int) := by omega
          have e1 : IntKind.i64.wrap ((jj : Int) - 1) = (j : Int) := (IntWalk.i64_in _ (by omega)).trans e0
          have e2 : wrap64 ((jj : Int) - 1) = (j : Int) := (IntWalk.wrap64_in _ ⟨by omega, by omega⟩).trans e0
          have e3 : wrap64 (j : Int) = (j : Int) := IntWalk.wrap64_in _ ⟨by omega, by omega⟩
          have e4 : IntKind.i64.wrap (j : Int) = (j : Int) := IntWalk.i64_in _ (by omega)
          have HJJ := hd hjj
          have HLEN := hd hlen
          clear hg0 hg1 hpr hmod hex hey hjn hjn0 hjne hjj hlen hrow
          by_cases hxy : x.e.born < y.e.born
          · have hc1 : decide (cz < 0) = true := by rw [hc]; simpa using hxy
            have HXY := hd hxy
            clear hc hxy
            go_wp2
            go_quiet ((exact Calls.quiet_of (HQ.out _)))
            go_wp2
            have hpd := HPR.out.below (pw_below_drewN (Below.refl _ _) nq)
            have hmd := HMO.out.then_ (Mod.below (pw_below_drewN (Below.refl _ _) nq)) (S' := fun k => (Value.slice (some ⟨r, 0, none⟩) n c).ownBlock = some k) (fun _ _ h => h)
            have hg0 := HG0.out
            have hg1 := HG1.out
            have hjn := HJN.out
            have hjn0 := HJN0.out
            have hjne := HJNE.out
            clear k1 k0
            refine upR_start Keeps.any [15, 17] [(0, 1), (1, 1), (2, 2), (3, 2), (4, 2), (5, 1), (6, 1), (7, 1), (8, 1), (9, 1), (10, 1), (11, 1), (12, 1), (13, 1), (14, 1), (15, 0), (16, 1), (17, 0)] (by kernel_rfl) rfl (by kernel_rfl) (by kernel_rfl) ?_
            have hp2 := hpd.below (below_drew (Below.refl _ _))
            have hm2 := hmd.then_ (Mod.below (below_drew (Below.refl _ _))) (S' := fun k => (Value.slice (some ⟨r, 0, none⟩) n c).ownBlock = some k) (fun _ _ h => h)
            generalize (wi.drewN nq).drew = w5 at hp2 hm2 ⊢
            obtain ⟨k1, f1⟩ := hp2.cell jj hjn
            obtain ⟨k0, f0⟩ := hp2.cell j hjn0
            rw [hg1] at k1
            rw [hg0] at k0
            unfold gp at k1 k0
            have g1 := Grow.cells k1
            have g0 := Grow.cells k0
            have HPW := hd ((hp2.put jj (gp y.g)).put j (gp x.g))
            have HMW := hd ((hm2.trans (Mod.set (S := fun k => (Value.slice (some ⟨r, 0, none⟩) n c).ownBlock = some k) (i := jj) w5 rfl (.pointer (gp y.g)))).trans (Mod.set (S := fun k => (Value.slice (some ⟨r, 0, none⟩) n c).ownBlock = some k) (i := j) _ rfl (.pointer (gp x.g))))
            unfold gp at HPW HMW
            have hk0 : (w5.setCell ⟨r, jj, none⟩ (.pointer (some ⟨y.g, 0, none⟩))).cell? ⟨r, j, none⟩ = some (.pointer (some ⟨y.g, 0, none⟩)) := by
              have := (hp2.put jj (gp y.g)).cell j hjn0
              rw [List.getD_eq_getElem?_getD, List.getElem?_set_ne hjne, ← List.getD_eq_getElem?_getD, hg0] at this
              exact this.1
            have hf0 : (w5.setCell ⟨r, jj, none⟩ (.pointer (some ⟨y.g, 0, none⟩))).frozen? ⟨r, j, none⟩ = false := ((hp2.put jj (gp y.g)).cell j hjn0).2
            clear hp2 hm2 hpd hmd
            refine rseq_pure (i := 0) (N := some 37) (v := ?_) (a' := ?_) rfl rfl (by rfl) (fun _ _ _ h => h) ?_ ?_ ?_
            rotate_left 2
            · intro w' hg
              go_simp
              with_reducible rfl
            · simp only [Act.put, List.setIfInBounds_toArray, List.set_cons_zero, List.set_cons_succ, i64_w, i32_w]
              rfl
            refine rseq_pure (i := 1) (N := some 38) (v := ?_) (a' := ?_) rfl rfl (by rfl) (fun _ _ _ h => h) ?_ ?_ ?_
            rotate_left 2
            · intro w' hg
              go_simp
              with_reducible rfl
            · simp only [Act.put, List.setIfInBounds_toArray, List.set_cons_zero, List.set_cons_succ, i64_w, i32_w]
              rfl
            refine rseq_pure2 (i := 2) (N := some 39) (v := ?_) (a' := ?_) rfl rfl (by rfl) (fun _ _ _ h => h) ?_ ?_ ?_
            rotate_left 2
            · intro w' hg
              go_simp
              with_reducible rfl
            · simp only [Act.put, List.setIfInBounds_toArray, List.set_cons_zero, List.set_cons_succ, i64_w, i32_w]
              rfl
            refine rseq_pure2 (i := 3) (N := some 40) (v := ?_) (a' := ?_) rfl rfl (by rfl) (fun _ _ _ h => h) ?_ ?_ ?_
            rotate_left 2
            · intro w' hg
              go_simp
              with_reducible rfl
            · simp only [Act.put, List.setIfInBounds_toArray, List.set_cons_zero, List.set_cons_succ, i64_w, i32_w]
              rfl
            refine rseq_pure2 (i := 4) (N := some 41) (v := ?_) (a' := ?_) rfl rfl (by rfl) (fun _ _ _ h => h) ?_ ?_ ?_
            rotate_left 2
            · intro w' hg
              go_simp
              with_reducible rfl
            · simp only [Act.put, List.setIfInBounds_toArray, List.set_cons_zero, List.set_cons_succ, i64_w, i32_w]
              rfl
            refine rseq_pure (i := 5) (N := some 42) (v := ?_) (a' := ?_) rfl rfl (by rfl) (fun _ _ _ h => h) ?_ ?_ ?_
            rotate_left 2
            · intro w' hg
              go_simp
              with_reducible rfl
            · simp only [Act.put, List.setIfInBounds_toArray, List.set_cons_zero, List.set_cons_succ, i64_w, i32_w]
              rfl
            refine rseq_pure (i := 6) (N := some 43) (v := ?_) (a' := ?_) rfl rfl (by rfl) (fun _ _ _ h => h) ?_ ?_ ?_
            rotate_left 2
            · intro w' hg
              go_simp
              with_reducible rfl
            · simp only [Act.put, List.setIfInBounds_toArray, List.set_cons_zero, List.set_cons_succ, i64_w, i32_w]
              rfl
            refine rseq_pure (i := 7) (N := some 44) (v := ?_) (a' := ?_) rfl rfl (by rfl) (fun _ _ _ h => h) ?_ ?_ ?_
            rotate_left 2
            · intro w' hg
              go_simp
              with_reducible rfl
            · simp only [Act.put, List.setIfInBounds_toArray, List.set_cons_zero, List.set_cons_succ, i64_w, i32_w]
              rfl
            refine rseq_pure (i := 8) (N := some 45) (v := ?_) (a' := ?_) rfl rfl (by rfl) (fun _ _ _ h => h) ?_ ?_ ?_
            rotate_left 2
            · intro w' hg
              go_simp
              with_reducible rfl
            · simp only [Act.put, List.setIfInBounds_toArray, List.set_cons_zero, List.set_cons_succ, i64_w, i32_w]
              rfl
            refine rseq_pure (i := 9) (N := some 46) (v := ?_) (a' := ?_) rfl rfl (by rfl) (fun _ _ _ h => h) ?_ ?_ ?_
            rotate_left 2
            · intro w' hg
              go_simp
              with_reducible rfl
            · simp only [Act.put, List.setIfInBounds_toArray, List.set_cons_zero, List.set_cons_succ, i64_w, i32_w]
              rfl
            refine rseq_pure (i := 10) (N := some 47) (v := ?_) (a' := ?_) rfl rfl (by rfl) (fun _ _ _ h => h) ?_ ?_ ?_
            rotate_left 2
            · intro w' hg
              go_simp
              with_reducible rfl
            · simp only [Act.put, List.setIfInBounds_toArray, List.set_cons_zero, List.set_cons_succ, i64_w, i32_w]
              rfl
            refine rseq_pure (i := 11) (N := some 48) (v := ?_) (a' := ?_) rfl rfl (by rfl) (fun _ _ _ h => h) ?_ ?_ ?_
            rotate_left 2
            · intro w' hg
              go_simp
              with_reducible rfl
            · simp only [Act.put, List.setIfInBounds_toArray, List.set_cons_zero, List.set_cons_succ, i64_w, i32_w]
              rfl
            refine rseq_pure (i := 12) (N := some 49) (v := ?_) (a' := ?_) rfl rfl (by rfl) (fun _ _ _ h => h) ?_ ?_ ?_
            rotate_left 2
            · intro w' hg
              go_simp
              with_reducible rfl
            · simp only [Act.put, List.setIfInBounds_toArray, List.set_cons_zero, List.set_cons_succ, i64_w, i32_w]
              rfl
            refine rseq_pure (i := 13) (N := some 50) (v := ?_) (a' := ?_) rfl rfl (by rfl) (fun _ _ _ h => h) ?_ ?_ ?_
            rotate_left 2
            · intro w' hg
              go_simp
              with_reducible rfl
            · simp only [Act.put, List.setIfInBounds_toArray, List.set_cons_zero, List.set_cons_succ, i64_w, i32_w]
              rfl
            refine rseq_pure (i := 14) (N := some 51) (v := ?_) (a' := ?_) rfl rfl (by rfl) (fun _ _ _ h => h) ?_ ?_ ?_
            rotate_left 2
            · intro w' hg
              go_simp
              with_reducible rfl
            · simp only [Act.put, List.setIfInBounds_toArray, List.set_cons_zero, List.set_cons_succ, i64_w, i32_w]
              rfl
            have h1 := g1 _ (Grow.refl _)
            refine rseq_skip (i := 15) (w1 := ?_) rfl rfl (by rfl) ?_ ?_ ?_
            rotate_left
            · go_simp
              rfl
            · exact ⟨fun h => absurd (by decide) h, trivial⟩
            clear h1 g1 g0 k1 k0 f1 f0
            refine rseq_pure (i := 16) (N := some 52) (v := ?_) (a' := ?_) rfl rfl (by rfl) (fun _ _ _ h => h) ?_ ?_ ?_
            rotate_left 2
            · intro w' hg
              go_simp
              with_reducible rfl
            · simp only [Act.put, List.setIfInBounds_toArray, List.set_cons_zero, List.set_cons_succ, i64_w, i32_w]
              rfl
            refine rseq_skip (i := 17) (w1 := ?_) rfl rfl (by rfl) ?_ ?_ ?_
            rotate_left
            · go_simp
              rfl
            · exact ⟨fun h => absurd (by decide) h, trivial⟩
            clear hk0 hf0
            refine rseq_done ?_
            clear hg0 hg1 hjn hjn0 hjne
            go_wp2
            go_roundw
            case rel =>
              refine ⟨T0, y :: B, by rw [HJ.out], ⟨by rw [HTB.out]; simp⟩, ⟨fun z hz => ?_⟩, ?_, HMW.out⟩
              · rcases List.mem_cons.1 hz with rfl | hz
                · exact HXY.out
                · exact HB.out z hz
              · have h1 : PRow base _ (.slice (some ⟨r, 0, none⟩) n c) ((((T0 ++ y :: x :: (B ++ rest)).map fun z => gp z.g).set jj (gp y.g)).set j (gp x.g)) := HPW.out
                rw [HSW.out] at h1
                exact h1
            case measure => simp [intOf]; have := HJJ.out; omega
          · have hc1 : decide (cz < 0) = false := by rw [hc]; simpa using hxy
            have HXY := hd hxy
            clear hc hxy
            go_wp2
            go_quiet ((exact Calls.quiet_of (HQ.out _)))
            go_wp2
            go_roundw
            case rel =>
              refine ⟨i + 1, by omega, by omega, by go_num, ?_, HMO.out.then_ (Mod.below (pw_below_drewN (Below.refl _ _) _)) (fun _ _ h => h)⟩
              rw [HF.out, HTB.out, HREST.out, insL_stop (by rw [← HTB.out]; exact HASC.out) (Nat.le_of_not_lt HXY.out) HB.out]
              have h1 := HPR.out.below (pw_below_drewN (Below.refl _ _) nq)
              simpa using h1
            case measure => simp [intOf]; omega
    · go_wp2
      go_end0
      refine ⟨rfl, ?_, hmod⟩
      have h1 : sortL (xs.take i) ++ xs.drop i = sortL xs := by
        rcases hi2 with h | h
        · obtain rfl : i = n := by omega
          rw [HN.out, List.take_length, List.drop_length, List.append_nil]
        · rw [List.take_of_length_le (by rw [← HN.out]; omega), List.drop_of_length_le (by rw [← HN.out]; omega), List.append_nil]
      rw [h1] at hpr
      exact hpr
set_option maxHeartbeats 1000000 in
set_option maxRecDepth 100000 in
theorem stable_calls {base base2 n c : Nat} {A : Option Addr} {w : World} {xs : List Cel} (hr : PRow base w (.slice A n c) (xs.map fun x => gp x.g)) (hx : ∀ x ∈ xs, EntAt base2 w x) (hfit : n < 20) :
    Calls Try.prog 55 #[.slice A n c, .int .i64 (n : Int), .func (.func 50) #[] #[]] w fun e w' => e = .returned (.tuple #[]) ∧ PRow base w' (.slice A n c) ((sortL xs).map fun x => gp x.g) ∧ Mod (fun k => (Value.slice A n c).ownBlock = some k) w w' := by
  have HI := hd (insertion_calls hr hx (by omega))
  have i1 : (n : Int) < 20 := by omega
  have q1 : decide ((20 : Int) ≤ (n : Int)) = false := by simp; omega
  have q2 : decide ((20 : Int) < (n : Int)) = false := by simp; omega
  clear hr hx
  go_enter Try.func55, Try.ntmps55
  go_wp2
  go_loopw [7, 8] (fun u7 u8 wr => u7 = .int .i64 0 ∧ u8 = .int .i64 20 ∧ wr = w) (fun _ _ _ => 0)
  case atStart => exact ⟨rfl, rfl, rfl⟩
  case round =>
    obtain ⟨rfl, rfl, rfl⟩ := hrel
    go_wp2_with fail
    refine HI.out.mono ?_
    rintro e w1 ⟨rfl, h1, h2⟩
    have H1 := hd h1
    have H2 := hd h2
    clear h1 h2
    go_wp2
    go_loopw [6] (fun u6 wi => u6 = .int .i64 20 ∧ wi = w1) (fun _ _ => 0)
    case atStart => exact ⟨rfl, rfl⟩
    case round =>
      obtain ⟨rfl, rfl⟩ := hrel
      go_wp2
      go_end0
      exact ⟨rfl, H1.out, H2.out⟩
theorem sortStable_calls {base base2 n c : Nat} {A : Option Addr} {w : World} {xs : List Cel} (hr : PRow base w (.slice A n c) (xs.map fun x => gp x.g)) (hx : ∀ x ∈ xs, EntAt base2 w x) (hfit : n < 20) :
    Calls Try.prog 49 #[.slice A n c, .func (.func 50) #[] #[]] w fun e w' => e = .returned (.tuple #[]) ∧ PRow base w' (.slice A n c) ((sortL xs).map fun x => gp x.g) ∧ Mod (fun k => (Value.slice A n c).ownBlock = some k) w w' := by
  have HI := hd (stable_calls hr hx hfit)
  clear hr hx
  go_enter Try.func49, Try.ntmps49
  go_wp2_with fail
  refine HI.out.mono ?_
  rintro e w1 ⟨rfl, h1, h2⟩
  have H1 := hd h1
  have H2 := hd h2
  clear h1 h2
  go_wp2
  go_end0
  exact ⟨rfl, H1.out, H2.out⟩
end Go.Proofs.Ytcmiajnndmaeiaa
