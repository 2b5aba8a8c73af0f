/- The walks through slices.IndexFunc, Index, Contains over entries. -/
import Derived.Test.YtcmiajnndmaeiaaFragCl
set_option linter.unusedVariables false
set_option linter.unusedSimpArgs false
namespace Go.Proofs.Ytcmiajnndmaeiaa
open Go.RowKit Go.Proofs.YtcmiajnndmaeiaaW.PrintWords Go.Proofs.YtcmiajnndmaeiaaW.PrintLast Go.Proofs.YtcmiajnndmaeiaaW.PrintMore
theorem findIdx_hit {α : Type} (p : α → Bool) : ∀ (xs : List α) (k : Nat) (h : k < xs.length), (∀ x ∈ xs.take k, p x = false) → p xs[k] = true → xs.findIdx p = k
  | [], k, h, _, _ => by simp at h
  | x :: xs, 0, h, _, h2 => by
    have h3 : p x = true := h2
    simp [List.findIdx_cons, h3]
  | x :: xs, k + 1, h, h1, h2 => by
    have h3 : p x = false := h1 x (by simp)
    have h4 := findIdx_hit p xs k (by simpa using h) (fun y hy => h1 y (by simp [hy])) h2
    simp [List.findIdx_cons, h3, h4]
theorem findIdx_miss {α : Type} (p : α → Bool) (xs : List α) (h : ∀ x ∈ xs, p x = false) : xs.findIdx p = xs.length := List.findIdx_eq_length.2 h
/-- The first one's place, or below 0. -/
def idxZ {α : Type} (p : α → Bool) (xs : List α) : Int := if xs.findIdx p < xs.length then (xs.findIdx p : Int) else -1
theorem idxZ_hit {α : Type} {p : α → Bool} {xs : List α} {k : Nat} (h : k < xs.length) (h1 : ∀ x ∈ xs.take k, p x = false) (h2 : p xs[k] = true) : idxZ p xs = (k : Int) := by
  unfold idxZ
  rw [findIdx_hit p xs k h h1 h2, if_pos h]
theorem idxZ_miss {α : Type} {p : α → Bool} {xs : List α} (h : ∀ x ∈ xs, p x = false) : idxZ p xs = -1 := by
  unfold idxZ
  rw [findIdx_miss p xs h, if_neg (Nat.lt_irrefl _)]
theorem take_succ_mem {α : Type} {xs : List α} {k : Nat} {x : α} (h : k < xs.length) (hx : x ∈ xs.take (k + 1)) : x ∈ xs.take k ∨ x = xs[k] := by
  rw [List.take_succ_eq_append_getElem h] at hx
  rcases List.mem_append.1 hx with h1 | h1
  · exact Or.inl h1
  · exact Or.inr (List.mem_singleton.1 h1)
theorem PRow.below {base : Nat} {w w1 : World} {v : Value} {ps : List (Option Addr)} (h : PRow base w v ps) (hb : Below w.heap.size w w1) : PRow base w1 v ps := Kd.R_below h hb
/-- What a function value says of an entry, from w on. -/
def Says (f : Nat) (lb : Array Value) (p : Cel → Bool) (xs : List Cel) (w : World) : Prop :=
  (∀ args w, (callFunc f args).run Try.prog w = .ok (.enter f args) w) ∧ ∀ x ∈ xs, ∀ w', Below w.heap.size w w' → Calls Try.prog f (#[.pointer (gp x.g)] ++ lb) w' fun e w'' => e = .returned (.bool (p x)) ∧ Below w'.heap.size w' w''
set_option maxHeartbeats 1000000 in
set_option maxRecDepth 100000 in
theorem indexFunc_calls {base n c : Nat} {A : Option Addr} {w : World} {xs : List Cel} {f : Nat} {lb : Array Value} {p : Cel → Bool} (hr : PRow base w (.slice A n c) (xs.map fun x => gp x.g)) (hs : Says f lb p xs w) (hfit : xs.length ≤ 1000000) :
    Calls Try.prog 25 #[.slice A n c, .func (.func f) #[] lb] w fun e w' => e = .returned (.int .i64 (idxZ p xs)) ∧ Below w.heap.size w w' := by
  have hn : n = xs.length := by have := (Kd.R_reads' hr).1; simpa using this
  have eg := hs.1
  have HS := hd hs.2
  have HR := hd hr
  clear hr hs
  obtain ⟨nn, hnn⟩ : ∃ nn, nn = n := ⟨_, rfl⟩
  have HN := hd hn
  have hf : n ≤ 1000000 := by omega
  clear hn hnn hfit
  go_enter Try.func25, Try.ntmps25
  go_wp2
  go_loopw [8] (fun i wr => ∃ k : Nat, k ≤ n ∧ i = .int .i64 k ∧ Aside0 (∀ x ∈ xs.take k, p x = false) ∧ Below w.heap.size w wr) (fun i _ => n - (intOf i).toNat)
  case atStart => exact ⟨0, Nat.zero_le _, rfl, ⟨fun x hx => by simp at hx⟩, Below.refl _ _⟩
  case round =>
    obtain ⟨k, hk, rfl, HP, hb⟩ := hrel
    by_cases hlt : k < n
    · have hr := HR.out.below hb
      obtain ⟨r, rfl, _, _⟩ := hr.at_ (by omega)
      obtain ⟨hcell, _⟩ := hr.cell k hlt
      have hkx : k < xs.length := by rw [← HN.out]; exact hlt
      have hel : (xs.map fun x => gp x.g).getD k none = gp (xs[k]'hkx).g := by
        rw [List.getD_eq_getElem?_getD, List.getElem?_map, List.getElem?_eq_getElem hkx]; rfl
      rw [hel] at hcell
      have hmem : xs[k] ∈ xs := List.getElem_mem _
      have HT := hd (fun x (hx : x ∈ xs.take (k + 1)) => take_succ_mem hkx hx)
      have HH := hd (fun h2 => idxZ_hit (p := p) hkx HP.out h2)
      generalize xs[k] = x at *
      have hc := HS.out x hmem wr hb
      have HC := hd hc
      unfold gp at hcell hc
      clear hel hr hmem
      have i1 : (k : Int) < n := by omega
      cases hq : p x
      · rw [hq] at HC
        have HQ := hd hq
        clear hq hc
        go_wp2_with fail
        refine HC.out.mono ?_
        rintro e w1 ⟨rfl, hb1⟩
        go_wp2
        go_roundw
        case rel =>
          refine ⟨k + 1, by omega, by go_num, ⟨fun y hy => ?_⟩, below_seq hb hb1⟩
          rcases HT.out y hy with h | rfl
          · exact HP.out y h
          · exact HQ.out
        case measure => simp [intOf]; omega
      · rw [hq] at HC
        have HQ := hd hq
        clear hq hc
        go_wp2_with fail
        refine HC.out.mono ?_
        rintro e w1 ⟨rfl, hb1⟩
        go_wp2
        go_ret
        exact ⟨by rw [HH.out HQ.out]; rfl, below_seq hb hb1⟩
    · go_wp2
      go_ret
      obtain rfl : k = n := by omega
      refine ⟨?_, hb⟩
      have h1 := HP.out
      rw [List.take_of_length_le (by rw [HN.out]; exact Nat.le_refl _)] at h1
      rw [idxZ_miss h1]
      rfl
/-! ### Index, Contains -/
set_option maxHeartbeats 1000000 in
set_option maxRecDepth 100000 in
theorem index_calls {base n c : Nat} {A : Option Addr} {w : World} {xs : List Cel} {y : Cel} (hr : PRow base w (.slice A n c) (xs.map fun x => gp x.g)) (hx : ∀ x ∈ xs, EntAt base w x) (hy : EntAt base w y) (hfit : xs.length ≤ 1000000) :
    Calls Try.prog 53 #[.slice A n c, .pointer (gp y.g)] w fun e w' => e = .returned (.int .i64 (idxZ (fun x : Cel => x.g == y.g) xs)) ∧ w = w' := by
  have hn : n = xs.length := by have := (Kd.R_reads' hr).1; simpa using this
  have HX := hd hx
  have HR := hd hr
  obtain ⟨cy, hcy⟩ := hy.gblk
  have HCY := hd hcy
  have HN := hd hn
  have hf : n ≤ 1000000 := by omega
  clear hn hfit hr hx hy hcy
  unfold gp
  go_enter Try.func53, Try.ntmps53
  go_wp2
  go_loop [8] (fun i => ∃ k : Nat, k ≤ n ∧ i = .int .i64 k ∧ Aside0 (∀ x ∈ xs.take k, (x.g == y.g) = false)) (fun i => n - (intOf i).toNat)
  case atStart => exact ⟨0, Nat.zero_le _, rfl, ⟨fun x hx => by simp at hx⟩⟩
  case round =>
    obtain ⟨k, hk, rfl, HP⟩ := hrel
    by_cases hlt : k < n
    · obtain ⟨r, rfl, _, _⟩ := HR.out.at_ (by omega)
      obtain ⟨hcell, _⟩ := HR.out.cell k hlt
      have hkx : k < xs.length := by rw [← HN.out]; exact hlt
      have hel : (xs.map fun x => gp x.g).getD k none = gp (xs[k]'hkx).g := by
        rw [List.getD_eq_getElem?_getD, List.getElem?_map, List.getElem?_eq_getElem hkx]; rfl
      rw [hel] at hcell
      have hmem : xs[k] ∈ xs := List.getElem_mem _
      have HT := hd (fun x (hx : x ∈ xs.take (k + 1)) => take_succ_mem hkx hx)
      have HH := hd (fun h2 => idxZ_hit (p := fun x : Cel => x.g == y.g) hkx HP.out h2)
      obtain ⟨ck, hck⟩ := (HX.out _ hmem).gblk
      generalize xs[k] = x at *
      have he := ptr_eq HCY.out hck
      unfold gp at hcell
      have hsym : (y.g == x.g) = (x.g == y.g) := by rw [Bool.eq_iff_iff, beq_iff_eq, beq_iff_eq]; exact eq_comm
      rw [hsym] at he
      clear hel hmem hck hsym
      have i1 : (k : Int) < n := by omega
      generalize hq : (x.g == y.g) = q at he
      have HQ := hd hq
      clear hq
      cases q
      · go_wp2
        go_round
        case rel =>
          refine ⟨k + 1, by omega, by go_num, ⟨fun z hz => ?_⟩⟩
          rcases HT.out z hz with h | rfl
          · exact HP.out z h
          · exact HQ.out
        case measure => simp [intOf]; omega
      · go_wp2
        go_ret
        exact ⟨by rw [HH.out HQ.out]; rfl, rfl⟩
    · go_wp2
      go_ret
      obtain rfl : k = n := by omega
      refine ⟨?_, rfl⟩
      have h1 := HP.out
      rw [List.take_of_length_le (by rw [HN.out]; exact Nat.le_refl _)] at h1
      rw [idxZ_miss h1]
      rfl
theorem idxZ_any {α : Type} (p : α → Bool) (xs : List α) : decide (0 ≤ idxZ p xs) = xs.any p := by
  unfold idxZ
  by_cases h : xs.findIdx p < xs.length
  · rw [if_pos h]
    have h1 := List.findIdx_lt_length.1 h
    rw [decide_eq_true (by omega)]
    symm
    rw [List.any_eq_true]
    exact h1
  · rw [if_neg h]
    have h1 := List.findIdx_eq_length.1 (Nat.le_antisymm List.findIdx_le_length (Nat.le_of_not_lt h))
    symm
    show xs.any p = false
    rw [List.any_eq_false]
    intro x hx
    rw [h1 x hx]
    simp
theorem idxZ_ge {α : Type} (p : α → Bool) (xs : List α) : -1 ≤ idxZ p xs ∧ idxZ p xs < xs.length + 1 := by
  unfold idxZ
  split <;> omega
set_option maxRecDepth 100000 in
theorem contains_calls {base n c : Nat} {A : Option Addr} {w : World} {xs : List Cel} {y : Cel} (hr : PRow base w (.slice A n c) (xs.map fun x => gp x.g)) (hx : ∀ x ∈ xs, EntAt base w x) (hy : EntAt base w y) (hfit : xs.length ≤ 1000000) :
    Calls Try.prog 31 #[.slice A n c, .pointer (gp y.g)] w fun e w' => e = .returned (.bool (xs.any fun x : Cel => x.g == y.g)) ∧ w = w' := by
  have HC := hd (index_calls hr hx hy hfit)
  have HA := hd (idxZ_any (fun x : Cel => x.g == y.g) xs)
  generalize (xs.any fun x : Cel => x.g == y.g) = q at HA ⊢
  generalize idxZ (fun x : Cel => x.g == y.g) xs = z at HA HC
  clear hr hx hy
  go_enter Try.func31, Try.ntmps31
  go_wp2_with fail
  refine HC.out.mono ?_
  rintro e w1 ⟨rfl, rfl⟩
  go_wp2
  go_ret
  exact ⟨by rw [← HA.out]; rfl, rfl⟩
theorem add2_calls {base p n c : Nat} {A : Option Addr} {w : World} {xs : List Cel} {y : Cel} (hr : PRow base w (.slice A n c) (xs.map fun x => gp x.g)) (hx : ∀ x ∈ xs, EntAt base w x) (hy : EntAt base w y) (hfit : xs.length ≤ 1000000) (hp : w.cell? ⟨p, 0, none⟩ = some (.slice A n c)) :
    Calls Try.prog 30 #[.pointer (gp y.g), .pointer (some ⟨p, 0, none⟩)] w fun e w' => e = .returned (.bool (xs.any fun x : Cel => x.g == y.g)) ∧ w = w' := by
  have HC := hd (contains_calls hr hx hy hfit)
  generalize (xs.any fun x : Cel => x.g == y.g) = q at HC ⊢
  clear hr hx hy
  unfold gp at *
  go_enter Try.func30, Try.ntmps30
  go_wp2_with fail
  refine HC.out.mono ?_
  rintro e w1 ⟨rfl, rfl⟩
  go_wp2
  go_ret
  exact ⟨rfl, rfl⟩
/-! ### over pieces -/
set_option maxHeartbeats 1000000 in
set_option maxRecDepth 100000 in
theorem indexNil_calls {base n c : Nat} {A : Option Addr} {w : World} {ss : List (Option Addr × Nat × Nat)} {ls : List (List Nat)} (hr : SRow base w (.slice A n c) ss) (hp : PartsAt base w ss ls) (hfit : ls.length ≤ 1000000) :
    Calls Try.prog 54 #[.slice A n c, .func (.func 33) #[] #[]] w fun e w' => e = .returned (.int .i64 (idxZ isNil ls)) ∧ w = w' := by
  have hn : n = ls.length := by rw [hr.len.1, hp.length]
  have HR := hd hr
  have HPA := hd hp
  have HN := hd hn
  have hf : n ≤ 1000000 := by omega
  clear hn hfit hr hp
  go_enter Try.func54, Try.ntmps54
  go_wp2
  go_loop [8] (fun i => ∃ k : Nat, k ≤ n ∧ i = .int .i64 k ∧ Aside0 (∀ x ∈ ls.take k, isNil x = false)) (fun i => n - (intOf i).toNat)
  case atStart => exact ⟨0, Nat.zero_le _, rfl, ⟨fun x hx => by simp at hx⟩⟩
  case round =>
    obtain ⟨k, hk, rfl, HP⟩ := hrel
    by_cases hlt : k < n
    · have hA : ∃ r, A = some ⟨r, 0, none⟩ := by
        obtain ⟨g, c', he, _⟩ := Kd.R_form HR.out (by have := HR.out.len.1; omega)
        injection he with h1 h2 h3
        exact ⟨g, h1⟩
      obtain ⟨r, rfl⟩ := hA
      obtain ⟨s, HSS, hcell, _⟩ := HR.out.cell k hlt
      have hkx : k < ls.length := by rw [← HN.out]; exact hlt
      have hpa := HPA.out.at_ k hkx
      rw [HSS.out] at hpa
      have hel : ls.getD k [] = ls[k] := by rw [List.getD_eq_getElem?_getD, List.getElem?_eq_getElem hkx]; rfl
      rw [hel] at hpa
      have HT := hd (fun x (hx : x ∈ ls.take (k + 1)) => take_succ_mem hkx hx)
      have HH := hd (fun h2 => idxZ_hit (p := isNil) hkx HP.out h2)
      generalize ls[k] = l at *
      have HC := hd (add3_calls hpa)
      obtain ⟨B, m, cc⟩ := s
      clear hel hpa
      have i1 : (k : Int) < n := by omega
      generalize hq : isNil l = q at HC
      have HQ := hd hq
      clear hq
      cases q
      · go_wp2_with fail
        refine HC.out.mono ?_
        rintro e w1 ⟨rfl, rfl⟩
        go_wp2
        go_round
        case rel =>
          refine ⟨k + 1, by omega, by go_num, ⟨fun z hz => ?_⟩⟩
          rcases HT.out z hz with h | rfl
          · exact HP.out z h
          · exact HQ.out
        case measure => simp [intOf]; omega
      · go_wp2_with fail
        refine HC.out.mono ?_
        rintro e w1 ⟨rfl, rfl⟩
        go_wp2
        go_ret
        exact ⟨by rw [HH.out HQ.out]; rfl, rfl⟩
    · go_wp2
      go_ret
      obtain rfl : k = n := by omega
      refine ⟨?_, rfl⟩
      have h1 := HP.out
      rw [List.take_of_length_le (by rw [HN.out]; exact Nat.le_refl _)] at h1
      rw [idxZ_miss h1]
      rfl
set_option maxRecDepth 100000 in
theorem containsNil_calls {base n c : Nat} {A : Option Addr} {w : World} {ss : List (Option Addr × Nat × Nat)} {ls : List (List Nat)} (hr : SRow base w (.slice A n c) ss) (hp : PartsAt base w ss ls) (hfit : ls.length ≤ 1000000) :
    Calls Try.prog 32 #[.slice A n c, .func (.func 33) #[] #[]] w fun e w' => e = .returned (.bool (ls.any isNil)) ∧ w = w' := by
  have HC := hd (indexNil_calls hr hp hfit)
  have HA := hd (idxZ_any isNil ls)
  generalize (ls.any isNil) = q at HA ⊢
  generalize idxZ isNil ls = z at HA HC
  clear hr hp
  go_enter Try.func32, Try.ntmps32
  go_wp2_with fail
  refine HC.out.mono ?_
  rintro e w1 ⟨rfl, rfl⟩
  go_wp2
  go_ret
  exact ⟨by rw [← HA.out]; rfl, rfl⟩
end Go.Proofs.Ytcmiajnndmaeiaa
