/- The walks through redanref01.Load and Store. -/
import Derived.Test.YtgmaahpnpjfghaaDoorWls
import Derived.Deep.RegionHeld3
set_option linter.unusedVariables false
set_option linter.unusedSimpArgs false
namespace Go.Proofs.YtgmaahpnpjfghaaDoor
open Go.RowKit Go.Proofs.YtgmaahpnpjfghaaDoorW.PrintWords Go.Proofs.YtgmaahpnpjfghaaDoorW.PrintLast Go.Proofs.YtgmaahpnpjfghaaDoorW.PrintMore
attribute [local go_sem] max2_int min2_int max_two min_two max_three min_three

theorem load_div (l : List Nat) (k : Nat) (hk : k < 8) (hl : k < l.length) : loadN ((l.take 8).drop k) = l.getD k 0 + 256 * loadN ((l.take 8).drop (k + 1)) := by
  have hlt : k < (l.take 8).length := by rw [List.length_take]; omega
  rw [List.drop_eq_getElem_cons hlt, loadN]
  congr 1
  rw [List.getElem_take, List.getD_eq_getElem?_getD, List.getElem?_eq_getElem hl]
  rfl
theorem load_top (l : List Nat) (k : Nat) (hb : BytesOK l) : loadN ((l.take 8).drop k) < 2 ^ 64 := by
  have h1 := loadN_lt ((hb.take 8).drop k)
  have h2 : ((l.take 8).drop k).length ≤ 8 := by rw [List.length_drop, List.length_take]; omega
  have h3 : (256 : Nat) ^ ((l.take 8).drop k).length ≤ 256 ^ 8 := Nat.pow_le_pow_right (by decide) h2
  have h4 : (256 : Nat) ^ 8 = 2 ^ 64 := by decide
  omega
theorem u64_of {n : Nat} (h : n < 2 ^ 64) : IntKind.u64.wrap (n : Int) = n := wrapN_u rfl h

set_option maxHeartbeats 1000000 in
set_option maxRecDepth 100000 in
theorem refload_calls {A : Option Addr} {n c : Nat} {l : List Nat} {w : World} (h : Bytes w A n c l) :
    Calls Tryd.prog 19 #[.slice A n c] w fun e w' => e = .returned (.int .u64 (loadN (l.take 8) : Nat)) ∧ w = w' := by
  obtain ⟨hr, rfl, hc, hb⟩ := h
  have HC := hd hc
  have hm := hr.max
  clear hc
  rcases Nat.lt_or_ge 8 l.length with h | h
  all_goals
    go_enter Tryd.func19, Tryd.ntmps19
    go_wp2
    go_loop [3, 5] (fun x i => ∃ k : Nat, k ≤ l.length ∧ k ≤ 8 ∧ i = .int .i64 ((k : Int) - 1) ∧ x = .int .u64 (loadN ((l.take 8).drop k) : Nat)) (fun _ i => (intOf i + 1).toNat)
    case atStart => first
      | exact ⟨l.length, Nat.le_refl _, h, rfl, by rw [List.drop_eq_nil_of_le (by rw [List.length_take]; omega)]; rfl⟩
      | exact ⟨8, by omega, Nat.le_refl _, rfl, by rw [List.drop_eq_nil_of_le (by rw [List.length_take]; omega)]; rfl⟩
    case round =>
      obtain ⟨k, hk, hk8, rfl, rfl⟩ := hrel
      rcases Nat.eq_zero_or_pos k with rfl | hpos
      · go_wp2
        go_ret
        exact ⟨rfl, rfl⟩
      · obtain ⟨j, rfl⟩ : ∃ j, k = j + 1 := ⟨k - 1, by omega⟩
        obtain ⟨ad, x, rfl, HX, hcell⟩ := hr.at_ j (by omega)
        have hj : ((j + 1 : Nat) : Int) - 1 = (j : Int) := by omega
        rw [hj]
        clear hj
        go_wp2
        go_round
        case rel =>
          refine ⟨j, by omega, by omega, rfl, ?_⟩
          have h1 := load_div l j (by omega) (by omega)
          have h2 := load_top l j hb
          have h3 := load_top l (j + 1) hb
          have h4 := hb.getD j
          rw [HX.out] at h1 h4
          rw [h1] at h2 ⊢
          have h5 : IntKind.u64.wrap ((loadN ((l.take 8).drop (j + 1)) : Nat) * 256 : Int) = ((loadN ((l.take 8).drop (j + 1)) * 256 : Nat) : Int) := by
            have := u64_of (n := loadN ((l.take 8).drop (j + 1)) * 256) (by omega)
            rwa [Int.natCast_mul] at this
          have h6 : IntKind.u64.wrap (x : Int) = (x : Int) := u64_of (by omega)
          have h7 := u64_of h2
          rw [h5, h6]
          rw [show ((loadN ((l.take 8).drop (j + 1)) * 256 : Nat) : Int) + (x : Int) = ((x + 256 * loadN ((l.take 8).drop (j + 1)) : Nat) : Int) by omega, h7]
        case measure => first | (simp [intOf]; done) | (simp [intOf]; omega)

set_option maxHeartbeats 1000000 in
set_option maxRecDepth 100000 in
theorem refstore_calls {xi : Int} (x : Nat) (n : Int) (w : World) (hxi : xi = (x : Int)) (hx : x < 2 ^ 64) :
    Calls Tryd.prog 20 #[.int .u64 xi, .int .i64 n] w fun e w' => ∃ v, e = .returned v ∧ Own w w' v (storeN x (min n.toNat 8)) ∧ Below w.heap.size w w' := by
  subst hxi
  obtain ⟨m, hm2⟩ : ∃ m : Nat, m = min n.toNat 8 := ⟨_, rfl⟩
  rw [← hm2]
  have hm5 : m ≤ 8 := by omega
  have hm6 : (m : Int) ≤ n ∨ m = 0 := by omega
  have hm7 : n ≤ m ∨ m = 8 := by omega
  have HX := hd hx
  have H6 := hd hm6
  have H7 := hd hm7
  clear hm2 hx hm6 hm7
  go_enter Tryd.func20, Tryd.ntmps20
  go_wp2
  go_loopw [0, 5, 6] (fun q v i wr => ∃ k : Nat, k ≤ m ∧ i = .int .i64 k ∧ q = .int .u64 ((x / 256 ^ k : Nat) : Int) ∧ Own w wr v (storeN x k) ∧ Below w.heap.size w wr) (fun _ _ i _ => m - (intOf i).toNat)
  case atStart => exact ⟨0, Nat.zero_le _, rfl, by simp, OwnK.nil _ _ _ _, Below.refl _ _⟩
  case round =>
    obtain ⟨k, hk, rfl, hq, ho, hb⟩ := hrel
    obtain ⟨q, hq2⟩ : ∃ q : Nat, x / 256 ^ k = q := ⟨_, rfl⟩
    rw [hq2] at hq
    subst hq
    have HQ := hd hq2
    have HO := hd ho
    have HB := hd hb
    clear ho hb hq2
    have hs := HB.out.size
    have hql : q < 2 ^ 64 := by
      rw [← HQ.out]
      exact Nat.lt_of_le_of_lt (Nat.div_le_self _ _) HX.out
    have HQL := hd hql
    clear hql
    by_cases hlt : k < m
    · have h1 : (k : Int) < n := by have := H6.out; omega
      have h2 : (k : Int) < 8 := by omega
      have hby : ((q : Int) % 256) % 256 = ((q % 256 : Nat) : Int) := by omega
      have hdv : IntKind.u64.wrap ((q : Int) / 256) = ((q / 256 : Nat) : Int) := by
        have := HQL.out
        exact u64_of (n := q / 256) (by omega)
      have HBY := hd hby
      have HDV := hd hdv
      clear hby hdv
      go_wp2_with (((with_reducible refine gate_dst (N := 21) rfl ?_); at_builtin; refine op_append (k := .u8) (w0 := w) 21 rfl w.heap.size 5 30 _ _ rfl rfl Tryd.underlying30 Tryd.infoU8 (by decide) _ (storeN x k) _ (q % 256) (by omega) rfl rfl HO.out HB.out hs (by rw [storeN_length]; omega) ?_; intro v1 w1 ho1 hb1 hg1))
      refine ⟨⟨k + 1, by omega, by go_num, ?_, ?_, hb1⟩, by simp [intOf]; omega⟩
      · rw [HDV.out, ← HQ.out, Nat.div_div_eq_div_mul, ← Nat.pow_succ]
      · rw [storeN_snoc, HQ.out]
        exact ho1
    · obtain rfl : k = m := by omega
      have hend : decide ((k : Int) < n) = false ∨ decide ((k : Int) < n) = true ∧ k = 8 := by
        rcases H7.out with h | h
        · left; rw [decide_eq_false_iff_not]; omega
        · by_cases hn : (k : Int) < n
          · right; exact ⟨by simpa using hn, h⟩
          · left; simpa using hn
      rcases hend with h1 | ⟨h1, rfl⟩
      all_goals
        go_wp2
        all_goals
          go_ret
          exact ⟨_, rfl, HO.out, HB.out⟩

end Go.Proofs.YtgmaahpnpjfghaaDoor
