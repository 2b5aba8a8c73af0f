/- The walks through the functions of redanref01, each once. -/
import Derived.Test.YtgmaahpnpjfghaaWords
import Derived.Deep.RegionHeld3
set_option linter.unusedVariables false
set_option linter.unusedSimpArgs false
namespace Go.Proofs.Ytgmaahpnpjfghaa
open Go.RowKit Go.Proofs.YtgmaahpnpjfghaaW.PrintWords Go.Proofs.YtgmaahpnpjfghaaW.PrintLast Go.Proofs.YtgmaahpnpjfghaaW.PrintMore
attribute [local go_sem] max2_int min2_int max_two min_two max_three min_three

theorem load_div (l : List Nat) (k : Nat) (hk : k < 8) (hl : k < l.length) : loadN ((l.take 8).drop k) = l.getD k 0 + 256 * loadN ((l.take 8).drop (k + 1)) := by
  have hlt : k < (l.take 8).length := by rw [List.length_take]; omega
  rw [List.drop_eq_getElem_cons hlt, loadN]
  congr 1
  rw [List.getElem_take, List.getD_eq_getElem?_getD, List.getElem?_eq_getElem hl]
  rfl
theorem load_top (l : List Nat) (k : Nat) (hb : BytesOK l) : loadN ((l.take 8).drop k) < 2 ^ 64 := by
  have h1 := loadN_lt ((hb.take 8).drop k)
  have h2 : ((l.take 8).drop k).length ≤ 8 := by rw [List.length_drop, List.length_take]; omega
  have h3 : (256 : Nat) ^ ((l.take 8).drop k).length ≤ 256 ^ 8 := Nat.pow_le_pow_right (by decide) h2
  have h4 : (256 : Nat) ^ 8 = 2 ^ 64 := by decide
  omega
theorem u64_of {n : Nat} (h : n < 2 ^ 64) : IntKind.u64.wrap (n : Int) = n := wrapN_u rfl h

set_option maxHeartbeats 1000000 in
set_option maxRecDepth 100000 in
theorem refload_calls {A : Option Addr} {n c : Nat} {l : List Nat} {w : World} (h : Bytes w A n c l) :
    Calls Try.prog 11 #[.slice A n c] w fun e w' => e = .returned (.int .u64 (loadN (l.take 8) : Nat)) ∧ w = w' := by
  obtain ⟨hr, rfl, hc, hb⟩ := h
  have HC := hd hc
  have hm := hr.max
  clear hc
  rcases Nat.lt_or_ge 8 l.length with h | h
  all_goals
    go_enter Try.func11, Try.ntmps11
    go_wp2
    go_loop [3, 5] (fun x i => ∃ k : Nat, k ≤ l.length ∧ k ≤ 8 ∧ i = .int .i64 ((k : Int) - 1) ∧ x = .int .u64 (loadN ((l.take 8).drop k) : Nat)) (fun _ i => (intOf i + 1).toNat)
    case atStart => first
      | exact ⟨l.length, Nat.le_refl _, h, rfl, by rw [List.drop_eq_nil_of_le (by rw [List.length_take]; omega)]; rfl⟩
      | exact ⟨8, by omega, Nat.le_refl _, rfl, by rw [List.drop_eq_nil_of_le (by rw [List.length_take]; omega)]; rfl⟩
    case round =>
      obtain ⟨k, hk, hk8, rfl, rfl⟩ := hrel
      rcases Nat.eq_zero_or_pos k with rfl | hpos
      · go_wp2
        go_ret
        exact ⟨rfl, rfl⟩
      · obtain ⟨j, rfl⟩ : ∃ j, k = j + 1 := ⟨k - 1, by omega⟩
        obtain ⟨ad, x, rfl, HX, hcell⟩ := hr.at_ j (by omega)
        have hj : ((j + 1 : Nat) : Int) - 1 = (j : Int) := by omega
        rw [hj]
        clear hj
        go_wp2
        go_round
        case rel =>
          refine ⟨j, by omega, by omega, rfl, ?_⟩
          have h1 := load_div l j (by omega) (by omega)
          have h2 := load_top l j hb
          have h3 := load_top l (j + 1) hb
          have h4 := hb.getD j
          rw [HX.out] at h1 h4
          rw [h1] at h2 ⊢
          have h5 : IntKind.u64.wrap ((loadN ((l.take 8).drop (j + 1)) : Nat) * 256 : Int) = ((loadN ((l.take 8).drop (j + 1)) * 256 : Nat) : Int) := by
            have := u64_of (n := loadN ((l.take 8).drop (j + 1)) * 256) (by omega)
            rwa [Int.natCast_mul] at this
          have h6 : IntKind.u64.wrap (x : Int) = (x : Int) := u64_of (by omega)
          have h7 := u64_of h2
          rw [h5, h6]
          rw [show ((loadN ((l.take 8).drop (j + 1)) * 256 : Nat) : Int) + (x : Int) = ((x + 256 * loadN ((l.take 8).drop (j + 1)) : Nat) : Int) by omega, h7]
        case measure => first | (simp [intOf]; done) | (simp [intOf]; omega)

set_option maxHeartbeats 1000000 in
set_option maxRecDepth 100000 in
theorem refstore_calls {xi : Int} (x : Nat) (n : Int) (w : World) (hxi : xi = (x : Int)) (hx : x < 2 ^ 64) :
    Calls Try.prog 13 #[.int .u64 xi, .int .i64 n] w fun e w' => ∃ v, e = .returned v ∧ Own w w' v (storeN x (min n.toNat 8)) ∧ Below w.heap.size w w' := by
  subst hxi
  obtain ⟨m, hm2⟩ : ∃ m : Nat, m = min n.toNat 8 := ⟨_, rfl⟩
  rw [← hm2]
  have hm5 : m ≤ 8 := by omega
  have hm6 : (m : Int) ≤ n ∨ m = 0 := by omega
  have hm7 : n ≤ m ∨ m = 8 := by omega
  have HX := hd hx
  have H6 := hd hm6
  have H7 := hd hm7
  clear hm2 hx hm6 hm7
  go_enter Try.func13, Try.ntmps13
  go_wp2
  go_loopw [0, 5, 6] (fun q v i wr => ∃ k : Nat, k ≤ m ∧ i = .int .i64 k ∧ q = .int .u64 ((x / 256 ^ k : Nat) : Int) ∧ Own w wr v (storeN x k) ∧ Below w.heap.size w wr) (fun _ _ i _ => m - (intOf i).toNat)
  case atStart => exact ⟨0, Nat.zero_le _, rfl, by simp, OwnK.nil _ _ _ _, Below.refl _ _⟩
  case round =>
    obtain ⟨k, hk, rfl, hq, ho, hb⟩ := hrel
    obtain ⟨q, hq2⟩ : ∃ q : Nat, x / 256 ^ k = q := ⟨_, rfl⟩
    rw [hq2] at hq
    subst hq
    have HQ := hd hq2
    have HO := hd ho
    have HB := hd hb
    clear ho hb hq2
    have hs := HB.out.size
    have hql : q < 2 ^ 64 := by
      rw [← HQ.out]
      exact Nat.lt_of_le_of_lt (Nat.div_le_self _ _) HX.out
    have HQL := hd hql
    clear hql
    by_cases hlt : k < m
    · have h1 : (k : Int) < n := by have := H6.out; omega
      have h2 : (k : Int) < 8 := by omega
      have hby : ((q : Int) % 256) % 256 = ((q % 256 : Nat) : Int) := by omega
      have hdv : IntKind.u64.wrap ((q : Int) / 256) = ((q / 256 : Nat) : Int) := by
        have := HQL.out
        exact u64_of (n := q / 256) (by omega)
      have HBY := hd hby
      have HDV := hd hdv
      clear hby hdv
      go_wp2_with (((with_reducible refine gate_dst (N := 21) rfl ?_); at_builtin; refine op_append (k := .u8) (w0 := w) 21 rfl w.heap.size 5 22 _ _ rfl rfl Try.underlying22 Try.infoU8 (by decide) _ (storeN x k) _ (q % 256) (by omega) rfl rfl HO.out HB.out hs (by rw [storeN_length]; omega) ?_; intro v1 w1 ho1 hb1 hg1))
      refine ⟨⟨k + 1, by omega, by go_num, ?_, ?_, hb1⟩, by simp [intOf]; omega⟩
      · rw [HDV.out, ← HQ.out, Nat.div_div_eq_div_mul, ← Nat.pow_succ]
      · rw [storeN_snoc, HQ.out]
        exact ho1
    · obtain rfl : k = m := by omega
      have hend : decide ((k : Int) < n) = false ∨ decide ((k : Int) < n) = true ∧ k = 8 := by
        rcases H7.out with h | h
        · left; rw [decide_eq_false_iff_not]; omega
        · by_cases hn : (k : Int) < n
          · right; exact ⟨by simpa using hn, h⟩
          · left; simpa using hn
      rcases hend with h1 | ⟨h1, rfl⟩
      all_goals
        go_wp2
        all_goals
          go_ret
          exact ⟨_, rfl, HO.out, HB.out⟩

/-- A bit of a number laid over another one, by halves. -/
theorem xor_bit (x y k : Nat) : (x ^^^ y) % 2 ^ (k + 1) = (x ^^^ y) % 2 ^ k + (if x / 2 ^ k % 2 = y / 2 ^ k % 2 then 0 else 2 ^ k) := by
  have h0 : (x ^^^ y) / 2 ^ k % 2 = (x / 2 ^ k % 2) ^^^ (y / 2 ^ k % 2) := by
    rw [Nat.xor_div_two_pow]
    exact Nat.xor_mod_two_pow (n := 1)
  rw [Nat.mod_pow_succ, h0]
  have h1 := Nat.mod_two_eq_zero_or_one (x / 2 ^ k)
  have h2 := Nat.mod_two_eq_zero_or_one (y / 2 ^ k)
  rcases h1 with h1 | h1 <;> rcases h2 with h2 | h2 <;> simp [h1, h2]

set_option maxHeartbeats 1000000 in
set_option maxRecDepth 100000 in
theorem refxor_calls (x y : Nat) (w : World) (hx : x < 256) (hy : y < 256) :
    Calls Try.prog 21 #[.int .i64 (x : Int), .int .i64 (y : Int)] w fun e w' => e = .returned (.int .i64 ((x ^^^ y : Nat) : Int)) ∧ w = w' := by
  have HX := hd hx
  have HY := hd hy
  clear hx hy
  go_enter Try.func21, Try.ntmps21
  go_wp2
  go_loop [0, 1, 5, 6, 7] (fun a b n p i => ∃ k u v s q : Nat, k ≤ 8 ∧ i = .int .i64 k ∧ a = .int .i64 u ∧ b = .int .i64 v ∧ n = .int .i64 s ∧ p = .int .i64 q ∧ Aside0 (u = x / 2 ^ k ∧ v = y / 2 ^ k ∧ s = (x ^^^ y) % 2 ^ k ∧ q = 2 ^ k)) (fun _ _ _ _ i => 8 - (intOf i).toNat)
  case atStart => exact ⟨0, x, y, 0, 1, by omega, rfl, rfl, rfl, rfl, rfl, ⟨by simp [Nat.mod_one]⟩⟩
  case round =>
    obtain ⟨k, u, v, s, q, hk, rfl, rfl, rfl, rfl, rfl, HR⟩ := hrel
    have hq : q ≤ 256 := by
      rw [HR.out.2.2.2]
      exact Nat.pow_le_pow_right (n := 2) (by decide) hk
    have hs : s ≤ 256 := by
      rw [HR.out.2.2.1]
      have h1 : (x ^^^ y) % 2 ^ k < 2 ^ k := Nat.mod_lt _ (Nat.two_pow_pos k)
      have h2 : (2 : Nat) ^ k ≤ 2 ^ 8 := Nat.pow_le_pow_right (by decide) hk
      omega
    have hu : u ≤ 255 := by
      rw [HR.out.1]
      have h1 := Nat.div_le_self x (2 ^ k)
      have := HX.out
      omega
    have hv : v ≤ 255 := by
      rw [HR.out.2.1]
      have h1 := Nat.div_le_self y (2 ^ k)
      have := HY.out
      omega
    by_cases hlt : k < 8
    · have hkn : (k : Int) < 8 := by omega
      have hbit := hd (xor_bit x y k)
      have HA := hd HR.out.1
      by_cases he : u % 2 = v % 2
      · have hb : ((u : Int) % 2 != (v : Int) % 2) = false := by simp; omega
        have HE := hd he
        clear he
        go_wp2
        go_round
        case rel =>
          refine ⟨k + 1, u / 2, v / 2, s, q * 2, by omega, by go_num, by go_num, by go_num, rfl, by go_num, ⟨?_⟩⟩
          obtain ⟨h1, h2, h3, h4⟩ := HR.out
          have h5 := hbit.out
          rw [if_pos (by rw [← h1, ← h2]; exact HE.out)] at h5
          exact ⟨by rw [h1, Nat.div_div_eq_div_mul, ← Nat.pow_succ], by rw [h2, Nat.div_div_eq_div_mul, ← Nat.pow_succ], by rw [h5, h3, Nat.add_zero], by rw [h4, ← Nat.pow_succ]⟩
        case measure => simp [intOf]; omega
      · have hb : ((u : Int) % 2 != (v : Int) % 2) = true := by simp; omega
        have HE := hd he
        clear he
        go_wp2
        go_round
        case rel =>
          refine ⟨k + 1, u / 2, v / 2, s + q, q * 2, by omega, by go_num, by go_num, by go_num, by go_num, by go_num, ⟨?_⟩⟩
          obtain ⟨h1, h2, h3, h4⟩ := HR.out
          have h5 := hbit.out
          rw [if_neg (by rw [← h1, ← h2]; exact HE.out)] at h5
          exact ⟨by rw [h1, Nat.div_div_eq_div_mul, ← Nat.pow_succ], by rw [h2, Nat.div_div_eq_div_mul, ← Nat.pow_succ], by rw [h5, h3, h4], by rw [h4, ← Nat.pow_succ]⟩
        case measure => simp [intOf]; omega
    · go_wp2
      go_ret
      obtain rfl : k = 8 := by omega
      refine ⟨?_, rfl⟩
      have h1 := HR.out.2.2.1
      rw [Nat.mod_eq_of_lt (show x ^^^ y < 2 ^ 8 from xor_lt HX.out HY.out)] at h1
      rw [← h1]; rfl

set_option maxHeartbeats 400000 in
set_option maxRecDepth 100000 in
theorem refXor_calls {A B : Option Addr} {na nb ca cb : Nat} {a b : List Nat} {w : World} (ha : Bytes w A na ca a) (hb : Bytes w B nb cb b) (hfit : na < 140737488355328) :
    Calls Try.prog 16 #[.slice A na ca, .slice B nb cb] w fun e w' => ∃ v, e = .returned v ∧ Own w w' v (xorL a b) ∧ Below w.heap.size w w' := by
  obtain ⟨hra, rfl, hca, hba⟩ := ha
  obtain ⟨hrb, rfl, hcb, hbb⟩ := hb
  have HCA := hd hca
  have HCB := hd hcb
  have hma := hra.max
  have hmb := hrb.max
  clear hca hcb
  go_enter Try.func16, Try.ntmps16
  go_wp2
  go_loopw [5, 6] (fun v i wr => ∃ k : Nat, k ≤ a.length ∧ k ≤ b.length ∧ i = .int .i64 k ∧ Own w wr v (xorL (a.take k) (b.take k)) ∧ Below w.heap.size w wr) (fun _ i _ => a.length - (intOf i).toNat)
  case atStart => exact ⟨0, Nat.zero_le _, Nat.zero_le _, rfl, OwnK.nil _ _ _ _, Below.refl _ _⟩
  case round =>
    obtain ⟨k, hk, hk2, rfl, ho, hb⟩ := hrel
    have HO := hd ho
    have HB := hd hb
    clear ho hb
    have hs := HB.out.size
    have hlen : (xorL (a.take k) (b.take k)).length = k := by rw [xorL_length, List.length_take, List.length_take]; omega
    have HLEN := hd hlen
    clear hlen
    by_cases hlt : k < a.length
    · by_cases hlt2 : k < b.length
      · obtain ⟨ad, x, rfl, HX, hca0⟩ := hra.at_ k (by omega)
        obtain ⟨bd, y, rfl, HY, hcb0⟩ := hrb.at_ k (by omega)
        have HCA0 := hd hca0
        have HCB0 := hd hcb0
        have hca := pw_cell_below HB.out hca0
        have hcb := pw_cell_below HB.out hcb0
        clear hca0 hcb0
        have i0 : (0 : Int) ≤ k := by omega
        have i1 : (k : Int) < a.length := by omega
        have i2 : (k : Int) < b.length := by omega
        have hxb : x < 256 := by rw [← HX.out]; exact hba.getD k
        have hyb : y < 256 := by rw [← HY.out]; exact hbb.getD k
        have hxy := xor_lt hxb hyb
        have lga := World.block_lt_of_cell? wr _ hca
        have lgb := World.block_lt_of_cell? wr _ hcb
        have hxi : IntKind.i64.wrap (x : Int) = x := IntWalk.i64_in _ (by omega)
        have hyi : IntKind.i64.wrap (y : Int) = y := IntWalk.i64_in _ (by omega)
        have hw8 : IntKind.u8.wrap ((x ^^^ y : Nat) : Int) = ((x ^^^ y : Nat) : Int) := wrapN_u rfl hxy
        go_wp2
        go_region_held3 (fun w' => w'.cell? (ad.add k) = some (.int .u8 (x : Int)) ∧ w'.cell? (bd.add k) = some (.int .u8 (y : Int)))
          (first | exact ⟨pw_cell_below hb1 HCA0.out, pw_cell_below hb1 HCB0.out⟩ | go_keep)
          (first
            | ((with_reducible refine gate_dstS (N := 33) rfl ?_); refine op_append1_step (k := .u8) (w0 := w) 33 (by rfl) w.heap.size 5 22 _ _ (by rfl) (by rfl) Try.underlying22 Try.infoU8 (by decide) u5 (xorL (a.take k) (b.take k)) (x ^^^ y) _ (by rfl) (by rfl) (HO.out.below ((Below.refl _ _).alloc (Nat.le_refl _) _).drew) (by simp) (HB.out.alloc hs _).drew (by simp; omega) (by have := HLEN.out; omega) ?_; intro v1 w1 ho1 hb1 hg1)
            | (go_at_call 21; (with_reducible refine (refxor_calls x y _ hxb hyb).mono ?_); rintro e w' ⟨rfl, rfl⟩))
        go_wp2
        refine ⟨⟨k + 1, by omega, by omega, by go_num, ?_, hb1⟩, by simp [intOf]; omega⟩
        have h1 := ho1
        rw [take_snoc a k 0 (by omega), take_snoc b k 0 (by omega), HX.out, HY.out]
        unfold xorL
        rw [List.zipWith_append (by rw [List.length_take, List.length_take]; omega)]
        exact h1
      · have i2 : decide ((k : Int) < b.length) = false := by simp; omega
        have hend : xorL (a.take k) (b.take k) = xorL a b := by
          obtain rfl : k = b.length := by omega
          unfold xorL
          rw [← List.take_zipWith, List.take_of_length_le (by rw [List.length_zipWith]; omega)]
        have HE := hd hend
        clear hend
        go_wp2
        go_ret
        exact ⟨_, rfl, HE.out ▸ HO.out, HB.out⟩
    · have hend : xorL (a.take k) (b.take k) = xorL a b := by
        obtain rfl : k = a.length := by omega
        unfold xorL
        rw [← List.take_zipWith, List.take_of_length_le (by rw [List.length_zipWith]; omega)]
      have HE := hd hend
      clear hend
      go_wp2
      all_goals
        go_ret
        exact ⟨_, rfl, HE.out ▸ HO.out, HB.out⟩

set_option maxHeartbeats 400000 in
set_option maxRecDepth 100000 in
theorem refjoin_calls {A B : Option Addr} {na nb ca cb : Nat} {a b : List Nat} {w : World} (ha : Bytes w A na ca a) (hb : Bytes w B nb cb b) (hfit : na + nb ≤ 140737488355328) :
    Calls Try.prog 20 #[.slice A na ca, .slice B nb cb] w fun e w' => ∃ v, e = .returned v ∧ Own w w' v (a ++ b) ∧ Below w.heap.size w w' := by
  obtain ⟨hra, rfl, hca, hba⟩ := ha
  obtain ⟨hrb, rfl, hcb, hbb⟩ := hb
  have HCA := hd hca
  have HCB := hd hcb
  have HF := hd hfit
  clear hca hcb hfit
  go_enter Try.func20, Try.ntmps20
  go_wp2_with (first
    | ((with_reducible refine gate_dst (N := 8) rfl ?_); at_builtin; refine op_append_row (k := .u8) (w0 := w) 8 rfl w.heap.size 5 22 _ _ rfl rfl Try.underlying22 Try.infoU8 (by decide) _ [] a _ _ _ rfl rfl rfl (OwnK.nil _ _ _ _) hra (Below.refl _ _) (Nat.le_refl _) (by have := HF.out; simp; omega) ?_; intro v1 w1 ho1 hb1 hg1; rw [List.nil_append] at ho1)
    | ((with_reducible refine gate_dst (N := 11) rfl ?_); at_builtin; refine op_append_row (k := .u8) (w0 := w) 11 rfl w.heap.size 5 22 _ _ rfl rfl Try.underlying22 Try.infoU8 (by decide) _ a b _ _ _ rfl rfl rfl ho1 (hrb.below hb1) hb1 hb1.size (by have := HF.out; omega) ?_; intro v2 w2 ho2 hb2 hg2))
  go_ret
  exact ⟨_, rfl, ho2, hb2⟩
end Go.Proofs.Ytgmaahpnpjfghaa
