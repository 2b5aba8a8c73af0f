/- The walks through slices.DeleteFunc over entries, without, Expire, Drop. -/
import Derived.Test.YtcmiajnndmaeiaaFragIx
import Derived.Lib.SliceRun
import Derived.Laws.IdiomCopy
set_option linter.unusedVariables false
set_option linter.unusedSimpArgs false
namespace Go.Proofs.Ytcmiajnndmaeiaa
open Go.RowKit Go.Proofs.YtcmiajnndmaeiaaW.PrintWords Go.Proofs.YtcmiajnndmaeiaaW.PrintLast Go.Proofs.YtcmiajnndmaeiaaW.PrintMore
theorem PRow.puts {base g n c : Nat} : ∀ (m o : Nat) {w : World} {L : List (Option Addr)}, PRow base w (.slice (some ⟨g, 0, none⟩) n c) L → ∃ L', PRow base (w.setCells g o (List.replicate m (.pointer none))) (.slice (some ⟨g, 0, none⟩) n c) L' ∧ L'.take o = L.take o
  | 0, o, w, L, h => ⟨L, h, rfl⟩
  | m + 1, o, w, L, h => by
    obtain ⟨L', h1, h2⟩ := PRow.puts m (o + 1) (h.put o none)
    refine ⟨L', h1, ?_⟩
    have h3 := congrArg (List.take o) h2
    rw [List.take_take, List.take_take, show min o (o + 1) = o by omega, List.take_set_of_le (Nat.le_refl _)] at h3
    exact h3
theorem Mod.sets {S : Nat → Prop} {g : Nat} (hg : S g) : ∀ (vs : List Value) (o : Nat) (w : World), Mod S w (w.setCells g o vs)
  | [], o, w => Mod.refl _ _
  | v :: vs, o, w => (Mod.set w hg v).trans (Mod.sets hg vs (o + 1) _)
/-- What a function value says of an entry, whatever stands in the row meanwhile. -/
def SaysR (f : Nat) (lb : Array Value) (p : Cel → Bool) (xs : List Cel) (S : Nat → Prop) (w : World) : Prop :=
  (∀ args w, (callFunc f args).run Try.prog w = .ok (.enter f args) w) ∧ ∀ x ∈ xs, ∀ w', Mod S w w' → Calls Try.prog f (#[.pointer (gp x.g)] ++ lb) w' fun e w'' => e = .returned (.bool (p x)) ∧ Below w'.heap.size w' w''
theorem SaysR.says {f : Nat} {lb : Array Value} {p : Cel → Bool} {xs : List Cel} {S : Nat → Prop} {w : World} (h : SaysR f lb p xs S w) : Says f lb p xs w := ⟨h.1, fun x hx w' hb => h.2 x hx w' (Mod.below hb)⟩
theorem filter_take_succ {α : Type} (p : α → Bool) (xs : List α) (k : Nat) (h : k < xs.length) : (xs.take (k + 1)).filter p = (xs.take k).filter p ++ if p xs[k] then [xs[k]] else [] := by
  rw [List.take_succ_eq_append_getElem h, List.filter_append]
  congr 1
  by_cases hp : p xs[k] = true
  · rw [if_pos hp, List.filter_cons_of_pos hp]; rfl
  · rw [if_neg hp, List.filter_cons_of_neg hp]; rfl
theorem filter_not_take {α : Type} {p : α → Bool} {xs : List α} (h : ∀ x ∈ xs, p x = false) : xs.filter (fun x => !p x) = xs := List.filter_eq_self.2 (fun x hx => by rw [h x hx]; rfl)
theorem zero_ptr (w : World) : (zeroValue 64).run Try.prog w = .ok (.pointer none) w := by kernel_rfl
set_option maxHeartbeats 2000000 in
set_option maxRecDepth 100000 in
theorem deleteFunc_calls {base n c : Nat} {A : Option Addr} {w : World} {xs : List Cel} {f : Nat} {lb : Array Value} {p : Cel → Bool} (hr : PRow base w (.slice A n c) (xs.map fun x => gp x.g)) (hs : SaysR f lb p xs (fun k => (Value.slice A n c).ownBlock = some k) w) (hfit : xs.length ≤ 1000000) :
    Calls Try.prog 52 #[.slice A n c, .func (.func f) #[] lb] w fun e w' => ∃ m, e = .returned (.slice A m c) ∧ PRow base w' (.slice A m c) ((xs.filter fun x => !p x).map fun x => gp x.g) ∧ Mod (fun k => (Value.slice A n c).ownBlock = some k) w w' := by
  have hn : n = xs.length := by have := (Kd.R_reads' hr).1; simpa using this
  have hnc : n ≤ c := (Kd.R_reads' hr).2.1
  have HI := hd (indexFunc_calls hr hs.says hfit)
  have eg := hs.1
  have HS := hd hs.2
  have HR := hd hr
  have HN := hd hn
  have hf : n ≤ 1000000 := by omega
  by_cases hno : ∀ x ∈ xs, p x = false
  · rw [idxZ_miss hno] at HI
    have HNO := hd (filter_not_take hno)
    clear hr hs hno hn hfit
    go_enter Try.func52, Try.ntmps52
    go_wp2_with fail
    refine HI.out.mono ?_
    rintro e w1 ⟨rfl, hb1⟩
    go_wp2
    go_ret
    exact ⟨n, rfl, by rw [HNO.out]; exact HR.out.below hb1, Mod.below hb1⟩
  · obtain ⟨k0, hk0, h1, h2⟩ : ∃ (k0 : Nat) (h : k0 < xs.length), (∀ x ∈ xs.take k0, p x = false) ∧ p xs[k0] = true := by
      have hlt : xs.findIdx p < xs.length := by
        rw [List.findIdx_lt_length]
        apply Classical.byContradiction
        intro hc
        refine hno (fun x hx => ?_)
        cases hp : p x
        · rfl
        · exact absurd ⟨x, hx, hp⟩ hc
      refine ⟨xs.findIdx p, hlt, fun x hx => ?_, List.findIdx_getElem⟩
      obtain ⟨i, hi, rfl⟩ := List.mem_iff_getElem.1 hx
      rw [List.length_take] at hi
      rw [List.getElem_take]
      have := List.not_of_lt_findIdx (p := p) (xs := xs) (i := i) (by omega)
      simpa using this
    rw [idxZ_hit hk0 h1 h2] at HI
    have hk0n : k0 < n := by omega
    obtain ⟨r, rfl, hr0, hr1⟩ := hr.at_ (by omega)
    have hf1 : (xs.take (k0 + 1)).filter (fun x => !p x) = xs.take k0 := by
      rw [filter_take_succ _ _ _ hk0, filter_not_take h1, h2]
      simp
    have HF1 := hd hf1
    have hml := hd (show (xs.map fun x => gp x.g).length = n by rw [List.length_map, hn])
    have ne1 : ((k0 : Int) == -1) = false := beq_eq_false_iff_ne.2 (by omega)
    have k6 : (k0 : Int) ≤ 1000000 := by omega
    clear hr hs hno hn hfit h1 h2 hf1
    go_enter Try.func52, Try.ntmps52
    go_wp2_with fail
    refine HI.out.mono ?_
    rintro e w1 ⟨rfl, hb1⟩
    go_wp2_with fail
    go_loopw [5, 6] (fun u5 u6 wr => ∃ (i j : Nat) (L : List (Option Addr)), u5 = .int .i64 i ∧ u6 = .int .i64 j ∧ i < j ∧ j ≤ n ∧ Aside0 (L.length = n ∧ L.take i = ((xs.take j).filter fun x => !p x).map (fun x => gp x.g) ∧ i = ((xs.take j).filter fun x => !p x).length ∧ L.drop j = (xs.map fun x => gp x.g).drop j) ∧ PRow base wr (.slice (some ⟨r, 0, none⟩) n c) L ∧ Mod (fun k => (Value.slice (some ⟨r, 0, none⟩) n c).ownBlock = some k) w wr) (fun _ u6 _ => n - (intOf u6).toNat)
    case atStart =>
      refine ⟨k0, k0 + 1, xs.map fun x => gp x.g, rfl, by go_num, by omega, by omega, ⟨hml.out, ?_, ?_, rfl⟩, HR.out.below hb1, Mod.below hb1⟩
      · rw [HF1.out, List.map_take]
      · rw [HF1.out, List.length_take]; omega
    case round =>
      clear hb1
      obtain ⟨i, j, L, rfl, rfl, hij, hjn, HL, hpr, hmod⟩ := hrel
      have i6 : (i : Int) ≤ 1000000 := by omega
      have j6 : (j : Int) ≤ 1000000 := by omega
      by_cases hlt : j < n
      · have hjx : j < xs.length := by rw [← HN.out]; exact hlt
        obtain ⟨hcj, _⟩ := hpr.cell j hlt
        obtain ⟨hci, hfi⟩ := hpr.cell i (by omega)
        have hel : L.getD j none = gp (xs[j]'hjx).g := by
          have h1 := congrArg (fun l => l.getD 0 none) HL.out.2.2.2
          simp only [List.getD_eq_getElem?_getD, List.getElem?_drop, Nat.add_zero, List.getElem?_map, List.getElem?_eq_getElem hjx] at h1
          rw [List.getD_eq_getElem?_getD, h1]
          rfl
        rw [hel] at hcj
        have hmem : xs[j] ∈ xs := List.getElem_mem _
        have HC := hd (HS.out _ hmem wr hmod)
        have HFT := hd (filter_take_succ (fun x => !p x) xs j hjx)
        generalize xs[j] = x at *
        generalize L.getD i none = old at hci
        have HPUT := hd (fun (w2 : World) (hb : Below wr.heap.size wr w2) => (hpr.below hb).put i (gp x.g))
        have HP2 := hd hpr
        have HM := hd hmod
        unfold gp at hcj
        have j1 : (j : Int) < n := by omega
        have i1 : (i : Int) < n := by omega
        clear hel hmem hpr hmod
        cases hq : p x
        · rw [hq] at HC HFT
          clear hq
          go_wp2_with fail
          refine HC.out.mono ?_
          rintro e w2 ⟨rfl, hb2⟩
          have hci2 := pw_cell_below hb2 hci
          have hfi2 : w2.frozen? ⟨r, i, none⟩ = false := ((HP2.out.below hb2).cell i (by omega)).2
          clear hci hcj hfi
          go_wp2
          go_roundw
          case rel =>
            refine ⟨i + 1, j + 1, L.set i (gp x.g), by go_num, by go_num, by omega, by omega, ⟨by rw [List.length_set]; exact HL.out.1, ?_, ?_, ?_⟩, HPUT.out w2 hb2, (HM.out.then_ (Mod.below hb2) (S' := fun k => (Value.slice (some ⟨r, 0, none⟩) n c).ownBlock = some k) (fun _ _ h => h)).trans (Mod.set (S := fun k => (Value.slice (some ⟨r, 0, none⟩) n c).ownBlock = some k) w2 rfl _)⟩
            · rw [HFT.out]
              simp only [Bool.not_false, if_true, List.map_append, List.map_cons, List.map_nil]
              rw [← HL.out.2.1, List.take_succ_eq_append_getElem (by rw [List.length_set, HL.out.1]; omega), List.take_set_of_le (Nat.le_refl _)]
              simp
            · rw [HFT.out, List.length_append, ← HL.out.2.2.1]
              simp
            · rw [List.drop_set, if_pos (by omega)]
              have h1 := congrArg (List.drop 1) HL.out.2.2.2
              rw [List.drop_drop, List.drop_drop] at h1
              exact h1
          case measure => simp [intOf]; omega
        · rw [hq] at HC HFT
          clear hq
          go_wp2_with fail
          refine HC.out.mono ?_
          rintro e w2 ⟨rfl, hb2⟩
          go_wp2
          go_roundw
          case rel =>
            refine ⟨i, j + 1, L, rfl, by go_num, by omega, by omega, ⟨HL.out.1, ?_, ?_, ?_⟩, HP2.out.below hb2, HM.out.then_ (Mod.below hb2) (S' := fun k => (Value.slice (some ⟨r, 0, none⟩) n c).ownBlock = some k) (fun _ _ h => h)⟩
            · rw [HFT.out]
              simpa using HL.out.2.1
            · rw [HFT.out]
              simpa using HL.out.2.2.1
            · have h1 := congrArg (List.drop 1) HL.out.2.2.2
              rw [List.drop_drop, List.drop_drop] at h1
              exact h1
          case measure => simp [intOf]; omega
      · obtain rfl : j = n := by omega
        have hcl : ∀ ty, (Builtin.clear_ #[61] ty #[.slice (some ⟨r, i, none⟩) (j - i) (c - i)]).run Try.prog wr = .ok (.tuple #[]) (wr.setCells r i (List.replicate (j - i) (.pointer none))) := fun ty =>
          Lib.run_clear_slice wr _ _ ty _ Try.underlying61 zero_ptr rfl rfl r i _ _ (by omega) (fun t ht => by rw [(hpr.cell (i + t) (by omega)).1]; rfl) (fun t ht => (hpr.cell (i + t) (by omega)).2)
        have hci : (c = i) = False := by simp; omega
        obtain ⟨L', hL1, hL2⟩ := hpr.puts (j - i) i
        have HL1 := hd hL1
        have HL2 := hd hL2
        have HM := hd (hmod.trans (Mod.sets (S := fun k => (Value.slice (some ⟨r, 0, none⟩) j c).ownBlock = some k) rfl (List.replicate (j - i) (.pointer none)) i wr))
        have i1 : (i : Int) ≤ j := by omega
        have i2 : (i : Int) ≤ c := by omega
        clear hpr hmod hL1 hL2
        go_wp2
        go_ret
        refine ⟨i, rfl, ?_, HM.out⟩
        have h3 := Kd.R_take HL1.out (m := i) (by have := (Kd.R_reads' HL1.out).1; omega)
        rw [HL2.out, HL.out.2.1, List.take_of_length_le (by rw [HN.out]; exact Nat.le_refl _)] at h3
        exact h3
end Go.Proofs.Ytcmiajnndmaeiaa
