/- The walks through redanref20.Top, Check, Mark. -/
import Derived.Test.YtlgdplodglchaaaDoorProg
import Derived.Test.YtlgdplodglchaaaDoorGSesP
import Derived.Test.YtlgdplodglchaaaDoorNRow
import Derived.Test.YtlgdplodglchaaaDoorChaRef
set_option linter.unusedVariables false
set_option linter.unusedSimpArgs false
namespace Go.Proofs.YtlgdplodglchaaaDoor
open Go.RowKit Go.Proofs.YtlgdplodglchaaaDoorW.PrintWords Go.Proofs.YtlgdplodglchaaaDoorW.PrintLast Go.Proofs.YtlgdplodglchaaaDoorW.PrintMore
theorem take_max {l : List Nat} {k : Nat} (h : k < l.length) : (l.take (k + 1)).foldl max 0 = max ((l.take k).foldl max 0) (l.getD k 0) := by
  rw [List.take_add_one, List.getElem?_eq_getElem h, List.foldl_append, List.getD_eq_getElem?_getD, List.getElem?_eq_getElem h]
  rfl
theorem NRow.at2 {w : World} {A : Option Addr} {n c : Nat} {l : List Nat} (h : NRow w A n c l) (i : Nat) (hi : i < n) : ∃ (ad : Addr) (x : Nat), A = some ad ∧ w.cell? (ad.add i) = some (.int .u64 (x : Int)) ∧ Aside0 (x = l.getD i 0) := by
  obtain ⟨ad, x, e, ex, hc⟩ := h.1.at_ i (by have := h.2.1; omega)
  exact ⟨ad, l.getD i 0, e, by rw [hc, ← ex.out], ⟨rfl⟩⟩
section
variable {w : World} {A : Option Addr} {n c x : Nat} {l : List Nat}
set_option maxRecDepth 100000 in
theorem reftop_calls (h : NRow w A n c l) : Calls Tryd.prog 79 #[.slice A n c] w fun e w' => e = .returned (.tuple #[.int .u64 ((l.foldl max 0 : Nat) : Int), .bool (decide (0 < n))]) ∧ w = w' := by
  have HN := hd h
  have HL := hd h.2.1
  have hnc : (n : Int) ≤ c := by have := h.2.2.1; omega
  have hm : n ≤ 9223372036854775807 := by have := h.1.max; have := h.2.1; omega
  clear h
  go_enter Tryd.func79, Tryd.ntmps79
  go_wp2
  go_loop [4, 5] (fun u4 u5 => ∃ k : Nat, k ≤ n ∧ u5 = .int .i64 k ∧ u4 = .int .u64 (((l.take k).foldl max 0 : Nat) : Int)) (fun _ u5 => n - (intOf u5).toNat)
  case atStart => exact ⟨0, Nat.zero_le _, rfl, rfl⟩
  case round =>
    obtain ⟨k, hk, rfl, rfl⟩ := hrel
    by_cases hlt : k < n
    · have k1 : (k : Int) < n := by omega
      obtain ⟨ad, x, rfl, hx, hxx⟩ := HN.out.at2 k hlt
      have HT := hd (take_max (l := l) (k := k) (by rw [HL.out]; exact hlt))
      rw [← hxx.out] at HT
      obtain ⟨y, hy⟩ : ∃ y, y = (l.take k).foldl max 0 := ⟨_, rfl⟩
      rw [← hy] at HT ⊢
      have HK := hd hlt
      clear hy hxx hlt hk
      by_cases hg : y < x
      · have q1 : decide (y < x) = true := by simp; exact hg
        have q2 : decide ((y : Int) < (x : Int)) = true := by simp; exact hg
        have HM := hd (show max y x = x by omega)
        clear hg
        go_wp2
        go_round
        case rel => exact ⟨k + 1, HK.out, by go_num, by rw [HT.out, HM.out]⟩
        case measure => simp [intOf]; have := HK.out; omega
      · have q1 : decide (y < x) = false := by simp; omega
        have q2 : decide ((y : Int) < (x : Int)) = false := by simp; omega
        have HM := hd (show max y x = y by omega)
        clear hg
        go_wp2
        go_round
        case rel => exact ⟨k + 1, HK.out, by go_num, by rw [HT.out, HM.out]⟩
        case measure => simp [intOf]; have := HK.out; omega
    · obtain rfl : k = n := by omega
      have HT := hd (show l.take k = l by rw [← HL.out]; exact List.take_length)
      clear hlt
      go_wp2
      go_ret2
      exact ⟨by rw [HT.out]; first | rfl | simp, rfl⟩
theorem take_mem {l : List Nat} {k x : Nat} (h : k < l.length) : x ∈ l.take (k + 1) ↔ x ∈ l.take k ∨ x = l.getD k 0 := by
  rw [List.take_add_one, List.getElem?_eq_getElem h, List.getD_eq_getElem?_getD, List.getElem?_eq_getElem h, List.mem_append]
  simp
theorem mem_of_at {l : List Nat} {k : Nat} (h : k < l.length) : l.getD k 0 ∈ l := by
  rw [List.getD_eq_getElem?_getD, List.getElem?_eq_getElem h]
  exact List.getElem_mem _
theorem sub128 {a b : Nat} (h : b < a) (ha : a < 2 ^ 64) : IntKind.u64.wrap ((a : Int) - (b : Int)) = ((a - b : Nat) : Int) := by
  rw [show (a : Int) - (b : Int) = ((a - b : Nat) : Int) by omega]
  exact wrapN_u rfl (show a - b < 2 ^ 64 by omega)
theorem max_lt {l : List Nat} (h : ∀ y ∈ l, y < 2 ^ 64) : l.foldl max 0 < 2 ^ 64 := Nat.lt_of_le_of_lt (foldl_max_le (b := 2 ^ 64 - 1) (Nat.zero_le _) (fun y hy => by have := h y hy; omega)) (by decide)
theorem checkR_in {l : List Nat} {x : Nat} (h : x ∈ l) : checkR l x = 43 := by rw [checkR, if_pos h]
set_option maxRecDepth 100000 in
theorem refcheck_calls (h : NRow w A n c l) : Calls Tryd.prog 60 #[.slice A n c, .int .u64 (x : Int)] w fun e w' => e = .returned (.int .i64 (checkR l x : Nat)) ∧ w = w' := by
  have HN := hd h
  have HL := hd h.2.1
  have hnc : (n : Int) ≤ c := by have := h.2.2.1; omega
  have hm : n ≤ 9223372036854775807 := by have := h.1.max; have := h.2.1; omega
  have HTP := hd (reftop_calls h)
  have HML := hd (max_lt h.2.2.2)
  clear h
  go_enter Tryd.func60, Tryd.ntmps60
  go_wp2
  go_loop [5] (fun u5 => ∃ k : Nat, k ≤ n ∧ u5 = .int .i64 k ∧ Aside0 (x ∉ l.take k)) (fun u5 => n - (intOf u5).toNat)
  case atStart => exact ⟨0, Nat.zero_le _, rfl, ⟨by simp⟩⟩
  case round =>
    obtain ⟨k, hk, rfl, HX⟩ := hrel
    by_cases hlt : k < n
    · have k1 : (k : Int) < n := by omega
      obtain ⟨ad, y, rfl, hy, hyy⟩ := HN.out.at2 k hlt
      have HT := hd (take_mem (l := l) (k := k) (x := x) (by rw [HL.out]; exact hlt))
      have HIN := hd (mem_of_at (l := l) (k := k) (by rw [HL.out]; exact hlt))
      rw [← hyy.out] at HT HIN
      have HK := hd hlt
      clear hyy hlt hk
      by_cases hg : y = x
      · obtain rfl := hg
        have HC := hd (checkR_in HIN.out)
        go_wp2
        go_ret
        exact ⟨by rw [HC.out]; rfl, rfl⟩
      · have q1 : ((y : Int) == (x : Int)) = false := by simp; omega
        have HNE := hd hg
        clear hg
        go_wp2
        go_round
        case rel => exact ⟨k + 1, HK.out, by go_num, ⟨fun h => by rcases HT.out.1 h with h | h; exact HX.out h; exact HNE.out h.symm⟩⟩
        case measure => simp [intOf]; have := HK.out; omega
    · obtain rfl : k = n := by omega
      have HT := hd (show l.take k = l by rw [← HL.out]; exact List.take_length)
      rw [HT.out] at HX
      have HC := hd (show checkR l x = if x < l.foldl max 0 ∧ 128 ≤ l.foldl max 0 - x then 43 else 0 by rw [checkR, if_neg HX.out])
      clear hlt
      obtain ⟨m, hmm⟩ : ∃ m, m = l.foldl max 0 := ⟨_, rfl⟩
      rw [← hmm] at HC HTP HML
      clear hmm
      go_wp2_with fail
      refine HTP.out.mono ?_
      rintro e _ ⟨rfl, rfl⟩
      by_cases h1 : x < m
      · have q1 : decide (x < m) = true := by simp; exact h1
        have q2 : decide ((x : Int) < (m : Int)) = true := by simp; exact h1
        have hw := sub128 h1 HML.out
        obtain ⟨d, hd⟩ : ∃ d, d = m - x := ⟨_, rfl⟩
        rw [← hd] at hw HC
        by_cases h2 : 128 ≤ d
        · have q3 : decide (128 ≤ d) = true := by simp; exact h2
          have q4 : decide ((128 : Int) ≤ (d : Int)) = true := by simp; omega
          rw [if_pos ⟨h1, h2⟩] at HC
          clear hd h1 h2
          go_wp2
          go_ret
          exact ⟨by rw [HC.out]; rfl, rfl⟩
        · have q3 : decide (128 ≤ d) = false := by simp; omega
          have q4 : decide ((128 : Int) ≤ (d : Int)) = false := by simp; omega
          rw [if_neg (fun h => h2 h.2)] at HC
          clear hd h1 h2
          go_wp2
          go_ret
          exact ⟨by rw [HC.out]; rfl, rfl⟩
      · have q1 : decide (x < m) = false := by simp; omega
        have q2 : decide ((x : Int) < (m : Int)) = false := by simp; omega
        rw [if_neg (fun h => h1 h.1)] at HC
        clear h1
        go_wp2
        go_ret
        exact ⟨by rw [HC.out]; rfl, rfl⟩
set_option maxRecDepth 100000 in
theorem refmark_calls (h : NRow w A n c l) (hx : x < 2 ^ 64) (hn : n ≤ 1000000) (hc : checkR l x = 0) :
    Calls Tryd.prog 61 #[.slice A n c, .int .u64 (x : Int)] w fun e w' => ∃ v, e = .returned (.tuple #[v, .int .i64 0]) ∧ OwnK .u64 22 w.heap.size w' v (l ++ [x]) ∧ Below w.heap.size w w' := by
  have HC := hd (refcheck_calls (x := x) h)
  rw [hc] at HC
  have HR := hd h.1
  have HL := hd h.2.1
  have h1 : ((([] : List Nat).length + l.length) * 8 ≤ 140737488355328) := by have := h.2.1; simp; omega
  have h2 : ((([] ++ l : List Nat).length + 1) * 8 ≤ 140737488355328) := by have := h.2.1; simp; omega
  have hnc : (n : Int) ≤ c := by have := h.2.2.1; omega
  have hnil := Kd.R_nil (Kd.int .u64) 22 w w.heap.size (fun _ => True)
  clear h hx hc
  go_enter Tryd.func61, Tryd.ntmps61
  go_wp2_with fail
  refine HC.out.mono ?_
  rintro e _ ⟨rfl, rfl⟩
  go_upto_region 6 with ((with_reducible refine gate_dst (N := 17) rfl ?_); at_builtin; refine op_append_row (k := .u64) (w0 := w) 17 rfl w.heap.size 22 25 (.tmp 15) (.tmp 16) rfl rfl Tryd.underlying25 Tryd.infoU64 (by decide) (.slice none 0 0) [] l A n c rfl rfl HL.out.symm (OwnK.nil _ _ _ _) HR.out (Below.refl _ _) (Nat.le_refl _) h1 ?_; intro v1 w1 ho1 hb1 hg1)
  have hs1 := hb1.size
  go_wp2_with ((with_reducible refine gate_dst (N := 21) rfl ?_); at_builtin; refine op_append (k := .u64) (w0 := w) 21 rfl w.heap.size 22 25 (.tmp 18) (.tmp 20) rfl rfl Tryd.underlying25 Tryd.infoU64 (by decide) v1 ([] ++ l) _ x rfl rfl rfl ho1 hb1 hs1 h2 ?_; intro v2 w2 ho2 hb2 hg2)
  go_ret2
  exact ⟨_, rfl, by rw [List.nil_append] at ho2; exact ho2, hb2⟩
end
end Go.Proofs.YtlgdplodglchaaaDoor
