/- FragBack: the walk. -/
import Derived.Test.YtcmiajnndmaeiaaFragBkP
set_option linter.unusedVariables false
set_option linter.unusedSimpArgs false
namespace Go.Proofs.Ytcmiajnndmaeiaa
open Go.RowKit Go.Proofs.YtcmiajnndmaeiaaW.PrintWords Go.Proofs.YtcmiajnndmaeiaaW.PrintLast Go.Proofs.YtcmiajnndmaeiaaW.PrintMore
theorem and_mask_i64 (x : Int) (j : Nat) (hj : j < 63) : ∃ q : Nat, bits .and .i64 x (2 ^ j - 1 : Int) = q ∧ q < 2 ^ j := by
  have hp : (2 : Nat) ^ j < 2 ^ 63 := Nat.pow_lt_pow_right (by decide) hj
  have h0 := Nat.two_pow_pos j
  have hm : ((2 : Int) ^ j - 1) = ((2 ^ j - 1 : Nat) : Int) := by rw [Int.natCast_sub h0]; simp
  have hb : (IntKind.i64.bits) = 64 := rfl
  rw [hm]
  simp only [bits, BitVec.ofInt_natCast, BitVec.toNat_and, BitVec.toNat_ofNat, hb]
  have h1 : (2 ^ j - 1) % 2 ^ 64 = 2 ^ j - 1 := Nat.mod_eq_of_lt (by omega)
  rw [h1]
  have h2 : (BitVec.ofInt 64 x).toNat &&& (2 ^ j - 1) ≤ 2 ^ j - 1 := Nat.and_le_right
  refine ⟨(BitVec.ofInt 64 x).toNat &&& (2 ^ j - 1), ?_, by omega⟩
  exact IntWalk.i64_in _ (by have h3 : (BitVec.ofInt IntKind.i64.bits x).toNat &&& (2 ^ j - 1) ≤ 2 ^ j - 1 := Nat.and_le_right; omega)
theorem pieces_get {l : List Nat} {K i : Nat} (hi : i < K) : (pieces l K).getD i [] = (l.drop (1024 * i)).take 1024 := by
  unfold pieces
  rw [List.getD_eq_getElem?_getD, List.getElem?_map, List.getElem?_range hi]
  rfl
theorem pieces_flat (l : List Nat) : ∀ K, (pieces l K).flatten = l.take (1024 * K)
  | 0 => by simp [pieces]
  | K + 1 => by
    rw [pieces_succ, List.flatten_append, pieces_flat l K]
    simp only [List.flatten_cons, List.flatten_nil, List.append_nil]
    rw [← List.take_add]
    congr 1
theorem bk_may {l : List Nat} {n i : Nat} (hl : l.length = n) (h1 : 0 < n) (h2 : n ≤ 65536) (hi : i < (n + 1023) / 1024) : mayB 3 (i : Int) (((n + 1023) / 1024 : Nat) : Int) ((pieces l ((n + 1023) / 1024)).getD i []).length = true := by
  rw [pieces_get hi, List.length_take, List.length_drop, hl]
  unfold mayB
  simp only [Bool.and_eq_true, Bool.or_eq_true, decide_eq_true_eq]
  omega
/-- A row of other blocks than a buffer's. -/
theorem OwnI.mod {base b P A G B : Nat} {w w1 : World} {v v1 : Value} {xs : List Cel} {l : List Nat} (h : OwnK .i64 3 B w v l) (hb : BufAt base w b P A G v1 xs) (hm : Mod (Foot_ b v1 xs) w w1) : OwnK .i64 3 B w1 v l :=
  Kd_mod h hm rfl (fun k cells hc hk => hb.foot_row hc (by decide) (by decide) (by decide) (by decide) hk)
theorem RowK.drop {k : IntKind} {w : World} {A : Option Addr} {c : Nat} {l : List Nat} (h : RowK k w A l) (m : Nat) (hm : m ≤ l.length) (hc : l.length ≤ c) : RowK k w (if c = m then A else A.map (·.add m)) (l.drop m) := by
  have h1 := Kd.reads_of_C (enc := Value.int k) (d := (0 : Int)) (h1 := fun _ => rfl) h
  have h2 := ReadsOf.drop_ h1 m hm hc
  rw [ints_drop] at h2
  unfold RowK
  rw [List.length_drop]
  exact Kd.C_of_reads (enc := Value.int k) (d := (0 : Int)) (h1 := fun _ => rfl) h2
theorem Try.infoI : (Try.prog.info? 3).map (fun i => (i.zero, i.size, i.bytes)) = some (some (.int .i64 0), 1, 8) := by kernel_rfl
theorem max_20000 : maxz 20000 = 20000 := rfl
theorem mem_without {left : List Nat} {k : Nat} (hk : k < left.length) (hn : left.Nodup) (j : Nat) : j ∈ left.take k ++ left.drop (k + 1) ↔ j ∈ left ∧ j ≠ left[k] := by
  have h1 : left = left.take k ++ left[k] :: left.drop (k + 1) := by rw [List.getElem_cons_drop, List.take_append_drop]
  rw [h1, List.nodup_append] at hn
  obtain ⟨_, h3, h4⟩ := hn
  have h5 := (List.nodup_cons.1 h3).1
  constructor
  · intro hj
    rcases List.mem_append.1 hj with hj | hj
    · exact ⟨List.mem_of_mem_take hj, fun e => h4 j hj left[k] List.mem_cons_self e⟩
    · exact ⟨List.mem_of_mem_drop hj, fun e => h5 (by rw [← e]; exact hj)⟩
  · rintro ⟨hj, hne⟩
    rw [h1] at hj
    rcases List.mem_append.1 hj with hj | hj
    · exact List.mem_append_left _ hj
    · rcases List.mem_cons.1 hj with hj | hj
      · exact absurd hj hne
      · exact List.mem_append_right _ hj
theorem nodup_without {left : List Nat} {k : Nat} (hn : left.Nodup) : (left.take k ++ left.drop (k + 1)).Nodup := by
  rw [← List.eraseIdx_eq_take_drop_succ]
  exact hn.sublist (List.eraseIdx_sublist _ _)
set_option maxHeartbeats 8000000 in
set_option maxRecDepth 100000 in
theorem fragBack_walk (W : World) {A : Option Addr} {n c : Nat} {l : List Nat} (h : Bytes W A n c l) (hf : n ≤ 140737488351232) {A1 : Option Addr} {n1 c1 : Nat} {zs : List Int} (hz : IRow .i64 W A1 n1 c1 zs) (tw : Bool) :
    Calls Try.prog 4 #[.slice A n c, .slice A1 n1 c1, .bool tw] W fun e w' => e = .returned (.bool true) ∧ Below W.heap.size W w' := by
  by_cases h0 : n = 0
  · subst h0
    clear h
    go_enter Try.func4, Try.ntmps4
    go_wp2_with fail
    refine awake_calls.mono ?_
    rintro e w1 ⟨rfl, hb1⟩
    go_wp2
    go_ret
    exact ⟨rfl, hb1⟩
  have q0 : ((n : Int) == 0) = false := by simp; exact h0
  have q0' : (n == 0) = false := by simp; exact h0
  by_cases h9 : 20000 < n
  · have q1 : decide ((20000 : Int) < n) = true := by simp; omega
    clear h h9 h0
    go_enter Try.func4, Try.ntmps4
    go_wp2_with fail
    refine awake_calls.mono ?_
    rintro e w1 ⟨rfl, hb1⟩
    go_wp2
    go_ret
    exact ⟨rfl, hb1⟩
  have q1 : decide ((20000 : Int) < n) = false := by simp; omega
  obtain ⟨K, hK⟩ : ∃ K, K = (n + 1023) / 1024 := ⟨_, rfl⟩
  have hK1 : 1 ≤ K ∧ K ≤ 20 := by omega
  obtain ⟨L, hL⟩ : ∃ L, L = pieces l K := ⟨_, rfl⟩
  have hS : splitF l = (L, 0) := by rw [splitF, if_neg (by rw [h.2.1]; exact h0), if_neg (by rw [h.2.1]; omega), h.2.1, ← hK, ← hL]
  have hLL : L.length = K := by rw [hL]; simp [pieces]
  have HNE := hd (show ∀ p ∈ L, 0 < p.length by have h1 := splitF_ne (l := l); rw [hS] at h1; exact h1)
  have HFL := hd (show L.flatten = l by rw [hL, pieces_flat, List.take_of_length_le (by rw [h.2.1]; omega)])
  have HSZ := hd (show sizeL L ≤ 20000 by have h1 : sizeL L = L.flatten.length := by rw [List.length_flatten]; rfl
                                          rw [h1, HFL.out, h.2.1]; omega)
  have HML := hd h.2.1
  have HMAY := hd (show ∀ i, i < L.length → mayB 3 (i : Int) (L.length : Int) (L.getD i []).length = true from fun i hi => by
    rw [hLL] at hi
    rw [hLL, hL, hK]
    exact bk_may h.2.1 (by omega) (by omega) (by rw [← hK]; exact hi))
  have HOKP := hd (show ∀ p ∈ L, BytesOK p by have h1 := splitF_ok h.ok; rw [hS] at h1; exact h1)
  have HSM := hd (show ∀ i, i < L.length → (L.getD i []).length ≤ 1024 from fun i hi => by rw [hL, pieces_get (by rw [← hLL]; exact hi), List.length_take]; omega)
  have HS := hd hS
  have HLL := hd hLL
  have HK1 := hd hK1
  have H := hd h
  have HZ := hd hz
  have N9 := hd (show n ≤ 1000000000 by omega)
  have k1 : (1 : Int) ≤ K := by omega
  have k9 : (K : Int) ≤ 20 := by omega
  clear hS hLL hL hK hK1 h hz hf h9 h0
  go_enter Try.func4, Try.ntmps4
  go_wp2_with fail
  refine awake_calls.mono ?_
  rintro e w1 ⟨rfl, hb1⟩
  have HB1 := hd hb1
  clear hb1
  go_wp2_with fail
  refine (split_calls (H.out.below HB1.out) N9.out).mono ?_
  rw [HS.out]
  rintro e w2 ⟨v2, rfl, hp2, hb2⟩
  obtain ⟨r, c2, G, rfl, hc2, hr1, hr2, _, _⟩ := hp2.open_ HNE.out (by rw [HLL.out]; exact HK1.out.1)
  rw [HLL.out] at hp2 hc2 ⊢
  have HP2 := hd hp2
  have HB2 := hd (below_seq HB1.out hb2)
  have HR2 := hd hr2
  have k2 : (K : Int) ≤ c2 := by omega
  have q2 : ((K : Int) == 0) = false := by simp; omega
  have HN := hd (new_calls (P := 20000) (A := 20000) (G := 10) (w := w2))
  rw [max_20000] at HN
  clear hp2 hb2 hr1 hr2 hc2
  go_wp2_with fail
  refine HN.out.mono ?_
  rintro e w3 ⟨b, rfl, hbu, hb3⟩
  have HB3 := hd (below_seq HB2.out hb3)
  have HW2 := hd HB2.out.size
  have HP3 := hd (HP2.out.below hb3)
  have HBU := hd hbu
  have HS3 := hd hb3.size
  clear hbu hb3 HN HP2 HS
  go_wp2
  go_loopw [11, 12] (fun u11 u12 wr => ∃ i : Nat, i ≤ K ∧ u12 = .int .i64 i ∧ OwnK .i64 3 w3.heap.size wr u11 (List.range i) ∧ Below w3.heap.size w3 wr) (fun _ u12 _ => K - (intOf u12).toNat)
  case atStart => exact ⟨0, Nat.zero_le _, rfl, OwnK.nil _ _ _ _, Below.refl _ _⟩
  case round =>
    obtain ⟨i, hi, rfl, ho, hb⟩ := hrel
    by_cases hlt : i < K
    · have i1 : (i : Int) < K := by omega
      have HO := hd ho
      have hs := hb.size
      have HLN := hd (show ((List.range i).length + 1) * 8 ≤ 140737488355328 by rw [List.length_range]; have := HK1.out; omega)
      clear ho
      go_wp2_with ((with_reducible refine gate_dst (N := 55) rfl ?_); at_builtin; refine op_append (k := .i64) (w0 := w3) 55 rfl w3.heap.size 3 32 (.tmp 52) (.tmp 54) rfl rfl Try.underlying32 Try.infoI (by decide) u11 (List.range i) (i : Int) i rfl rfl rfl HO.out hb hs HLN.out ?_; intro v1 w4 ho1 hb1 hg1)
      go_roundw
      case rel => exact ⟨i + 1, by omega, by go_num, by rw [List.range_succ]; exact ho1, hb1⟩
      case measure => simp [intOf]; omega
    · obtain rfl : K = i := by omega
      have HBW := hd (below_seq HB3.out hb)
      have HP4 := hd (HP3.out.below hb)
      have HB4 := hd (HBU.out.below hb)
      have HO := hd (ho.lower (Nat.le_trans HW2.out HS3.out))
      have HS4 := hd (Nat.le_trans HS3.out hb.size)
      clear ho hb HP3 HBU HB3 HS3
      go_wp2
      go_loopw [11, 13] (fun u11 u13 wr => ∃ (m : Nat) (left : List Nat) (v : Value) (xs : List Cel), u13 = .int .i64 m ∧ OwnK .i64 3 W.heap.size wr u11 left ∧ Aside0 (left.Nodup ∧ ∀ j ∈ left, j < K) ∧ Aside0 (m + left.length = K) ∧ Aside0 (BkSt L left xs) ∧ BufAt w2.heap.size wr b 20000 20000 10 v xs ∧ PartsIn w1.heap.size wr (.slice (some ⟨r, 0, none⟩) K c2) L ∧ Below W.heap.size W wr) (fun _ u13 _ => K - (intOf u13).toNat)
      case atStart => exact ⟨0, List.range K, .slice none 0 0, [], rfl, HO.out, ⟨List.nodup_range, fun j hj => by simpa using hj⟩, ⟨by simp⟩, ⟨Or.inl ⟨rfl, Or.inr (fun j hj => by rw [HLL.out] at hj; simpa using hj)⟩⟩, HB4.out, HP4.out, HBW.out⟩
      case round =>
        obtain ⟨m, left, v, xs, rfl, ho, hnd, hml, hbk, hbu, hpi, hb⟩ := hrel
        obtain ⟨A2, c3, rfl, hc3, hrow⟩ := ho.slice
        obtain ⟨nl, hnl⟩ : ∃ nl, nl = left.length := ⟨_, rfl⟩
        rw [← hnl] at ho hc3 ⊢
        have HNL := hd hnl
        have HBU := hd hbu
        have HPI := hd hpi
        have HBR := hd hb
        have HRW := hd hrow
        have HO2 := hd ho
        have m9 : (m : Int) ≤ 20 := by have := hml.out; omega
        clear hrow hbu hpi hnl
        by_cases hz0 : nl = 0
        · subst hz0
          have hx : xs = [] := by
            rcases hbk.out with ⟨h1, _⟩ | ⟨_, _, h1, _⟩
            · exact h1
            · exact absurd (List.length_eq_zero_iff.1 HNL.out.symm) h1
          subst hx
          have HC := hd (count_calls HBU.out)
          clear ho
          go_wp2_with fail
          refine HC.out.mono ?_
          rintro e w' ⟨rfl, rfl⟩
          go_wp2
          go_ret
          exact ⟨by simp, hb⟩
        · obtain ⟨rl, hrl, _, _⟩ := ho.at_ (by omega)
          subst hrl
          have nl1 : (0 : Int) < nl := by omega
          have nl9 : (nl : Int) ≤ 20 := by have := hml.out; have := HNL.out; omega
          have hcl : (nl : Int) ≤ c3 := by omega
          clear ho
          by_cases hmn : m < n1
          · obtain ⟨ad, rfl, hcz⟩ := HZ.out.2.2.2 (by omega)
            have hc5 := pw_cell_below hb (hcz m hmn)
            obtain ⟨z, hzz⟩ : ∃ z, Aside0 (zs.getD m 0 = z) := ⟨_, ⟨rfl⟩⟩
            rw [hzz.out] at hc5
            obtain ⟨y, hy, hy2⟩ := and_mask_i64 z 24 (by decide)
            have hy1 : bits .and .i64 z 16777215 = (y : Int) := hy
            have y9 : (y : Int) ≤ 16777216 := by omega
            have mn : (m : Int) < n1 := by omega
            clear hy hy2 hcz
            go_upto_region 21 with (fail)
            rw [show ((y : Int) % (nl : Int)) = ((y % nl : Nat) : Int) from rfl]
            obtain ⟨k, hk⟩ : ∃ k, k = y % nl := ⟨_, rfl⟩
            rw [← hk]
            have hk2 : k < nl := by rw [hk]; exact Nat.mod_lt _ (by omega)
            have k3 : (k : Int) < nl := by omega
            clear hk hy1 hc5 hzz
            have hmK : m < K := by have h1 := hml.out; have h2 := HNL.out; omega
            have hkl : k < left.length := by rw [← HNL.out]; omega
            obtain ⟨at_, hat, hca, _⟩ := HO2.out.cellx k (by omega)
            have hata : left[k] = at_ := by rw [← hat.out, List.getD_eq_getElem?_getD, List.getElem?_eq_getElem hkl]; rfl
            have HMEM := hd (show at_ ∈ left by rw [← hata]; exact List.getElem_mem _)
            have HATK := hd (hnd.out.2 at_ HMEM.out)
            obtain ⟨left2, hl2⟩ : ∃ left2, left2 = left.take k ++ left.drop (k + 1) := ⟨_, rfl⟩
            have HIFF := hd (show ∀ j, j ∈ left2 ↔ j ∈ left ∧ j ≠ at_ by rw [hl2, ← hata]; exact mem_without hkl hnd.out.1)
            have HND2 := hd (show left2.Nodup ∧ ∀ j ∈ left2, j < K from ⟨by rw [hl2]; exact nodup_without hnd.out.1, fun j hj => hnd.out.2 j ((HIFF.out j).1 hj).1⟩)
            have HLEN2 := hd (show left2.length + 1 = nl by rw [hl2, List.length_append, List.length_take, List.length_drop, HNL.out]; omega)
            have HTK := hd (show k = (left.take k).length by rw [List.length_take]; omega)
            have HDK := hd (show nl - (k + 1) = (left.drop (k + 1)).length by rw [List.length_drop, HNL.out])
            have HRT := hd (HRW.out.take k (Nat.le_of_lt hkl))
            have HRDW := hd (HRW.out.drop (k + 1) (by omega) (c := c3) (by rw [← HNL.out]; exact hc3))
            have HL2 := hd hl2
            have HLEFT := hd hkl
            have HAT9 := hd (show (at_ : Int) < K by have := HATK.out; omega)
            have hf1 : (([] : List Nat).length + (left.take k).length) * 8 ≤ 140737488355328 := by rw [← HTK.out, List.length_nil]; omega
            have HF1 := hd hf1
            clear hat hata hl2 hf1
            go_upto_region 24 with ((with_reducible refine gate_dst (N := 81) rfl ?_); at_builtin; refine op_append_row (k := .i64) (w0 := wr) 81 rfl wr.heap.size 3 32 (.tmp 77) (.tmp 80) rfl rfl Try.underlying32 Try.infoI (by decide) (.slice none 0 0) [] (left.take k) (some ⟨rl, 0, none⟩) k c3 rfl rfl HTK.out (OwnK.nil _ _ _ _) HRT.out (Below.refl _ _) (Nat.le_refl _) HF1.out ?_; intro v4 w5 ho5 hb5 hg5; rw [List.nil_append] at ho5)
            have HB5 := hd hb5
            have HRD := hd (show ∀ A', (c3 = k + 1 ∨ A' = some ((⟨rl, 0, none⟩ : Addr).add (k + 1))) → RowK .i64 w5 A' (left.drop (k + 1)) from fun A' hA => by
              by_cases hcc : c3 = k + 1
              · rw [show left.drop (k + 1) = [] from List.drop_of_length_le (by rw [← HNL.out]; omega)]
                exact RowK.nil _ _ _
              · have h1 := HRDW.out.below hb5
                rw [if_neg hcc] at h1
                rcases hA with hA | hA
                · exact absurd hA hcc
                · rw [hA]; exact h1)
            have hf2 : ((left.take k).length + (left.drop (k + 1)).length) * 8 ≤ 140737488355328 := by rw [← HTK.out, ← HDK.out]; omega
            have HF2 := hd hf2
            have HO5 := hd ho5
            have hs5 := hb5.size
            clear hg5 hf2 ho5 HRDW HRT
            go_upto_region 25 with ((with_reducible refine gate_dst (N := 87) rfl ?_); at_builtin; refine op_append_row (k := .i64) (w0 := wr) 87 rfl wr.heap.size 3 32 (.tmp 82) (.tmp 86) rfl rfl Try.underlying32 Try.infoI (by decide) v4 (left.take k) (left.drop (k + 1)) _ (nl - (k + 1)) _ rfl rfl HDK.out HO5.out (HRD.out _ (by by_cases hcc : c3 = k + 1 <;> simp [hcc, Addr.add])) HB5.out hs5 HF2.out ?_; intro v5 w6 ho6 hb6 hg6)
            generalize (if c3 = k + 1 then (some ({ block := rl, off := 0 } : Addr)) else some ({ block := rl, off := k + 1 } : Addr)) = A86
            rw [← HL2.out] at ho6
            obtain ⟨A7, c7, rfl, _, _⟩ := ho6.slice
            obtain ⟨nl2, hnl2⟩ : ∃ nl2, Aside0 (left2.length = nl2) := ⟨_, ⟨rfl⟩⟩
            rw [hnl2.out] at ho6 HLEN2 ⊢
            have HO6 := hd ho6
            have HB6 := hd (below_seq HBR.out hb6)
            have hbu6 := HBU.out.below hb6
            have HP6 := hd (HPI.out.below hb6)
            have HS6 := hd (Nat.le_trans hbu6.bge (Nat.le_of_lt (blk_lt hbu6.box)))
            clear ho6 hb6 hg6 HO5 HRD HF2 HF1 hs5 HB5 hca
            obtain ⟨s, hcs, hps⟩ := HP6.out.cell at_ (by rw [HLL.out]; exact HATK.out)
            obtain ⟨p, hp⟩ : ∃ p, Aside0 (L.getD at_ [] = p) := ⟨_, ⟨rfl⟩⟩
            rw [hp.out] at hps
            have HPS := hd hps
            obtain ⟨s1, s2, s3⟩ := s
            have hsl : s2 = p.length := hps.len
            dsimp only at hcs
            subst hsl
            have HPL := hd (show p.length ≤ 1024 by rw [← hp.out]; exact HSM.out at_ (by rw [HLL.out]; exact HATK.out))
            have ha : ∀ wx, Mod (Foot_ b v xs) w6 wx → Bytes wx s1 p.length s3 p := fun wx hm => (hps.mod hm hbu6.apart).bytes
            have HOKX := hd (bk_ok hbk.out (by rw [HLL.out]; exact HK1.out.1) (by rw [HLL.out]; exact Nat.le_trans HK1.out.2 (by decide)) HSM.out HOKP.out)
            have HLX := hd (bk_len hbk.out)
            have HA := hd (add_any (peer := pS) (msg := 3) (part := (at_ : Int)) (parts := (K : Int)) (now := 7) hbu6 HS6.out ha HOKX.out (by decide) (Nat.lt_of_le_of_lt HLX.out (by decide)) (Nat.lt_of_le_of_lt (List.length_filter_le _ _) (Nat.lt_of_le_of_lt HLX.out (by decide))) (by decide) (by decide) (Nat.le_trans HPL.out (by decide)) (by omega) (by omega))
            have HB66 := hd hbu6
            have hat0 : (0 : Int) ≤ at_ := by omega
            have hatk : at_ < K := HATK.out
            clear ha hps hbu6
            go_wp2_with fail
            refine HA.out.mono ?_
            rintro e w7 ⟨g, q, hpo⟩
            obtain ⟨xs2, hadd, hbk2⟩ := bk_add (g := g) (q := q) hbk.out HNE.out (fun j hj => by rw [HLL.out]; exact hnd.out.2 j hj) HMEM.out HIFF.out HSZ.out (HMAY.out at_ (by rw [HLL.out]; exact HATK.out))
            rw [HLL.out, hp.out, HFL.out] at hadd
            obtain ⟨v7, vo, rfl, ho7, hbu7, hm7, hf7⟩ := hpo.of hadd
            have HBU7 := hd hbu7
            have HO7 := hd (OwnI.mod (HO6.out.lower (Nat.le_trans HBR.out.size (Nat.le_refl _))) HB66.out hm7)
            have HP7 := hd (HP6.out.mod hm7 HB66.out.apart (fun j hj hf => by
              have h1 := (HB66.out.typed hf).1
              have h2 := HR2.out
              have h3 : r = j := by simpa [Value.ownBlock] using hj
              omega))
            have HB7 := hd (HB6.out.trans (hm7.toBelow (fun j hj => Nat.le_trans HW2.out (HB66.out.typed hj).1) HB6.out.size))
            have HS7 := hd (Nat.le_trans HS6.out hm7.size)
            have HBK2 := hd hbk2
            clear hbu7 hm7 hf7 hpo hadd HA hcs HB66 HP6 HO6 hbk2
            by_cases hz2 : nl2 = 0
            · subst hz2
              have hl20 : left2 = [] := List.length_eq_zero_iff.1 hnl2.out
              rw [if_pos hl20] at ho7
              obtain ⟨A8, c8, rfl, hc8, hr8⟩ := ho7.slice
              have hstr := (H.out.below HB7.out).str (P := Try.prog) Try.underlying22 Try.underlying5 Try.underlying9
              have hstr2 := (show Bytes w7 A8 l.length c8 l from ⟨hr8, rfl, hc8, H.out.ok⟩).str (P := Try.prog) Try.underlying22 Try.underlying5 Try.underlying9
              obtain ⟨zl, hzl⟩ : ∃ zl, Aside0 (strOf l = zl) := ⟨_, ⟨rfl⟩⟩
              rw [hzl.out] at hstr hstr2
              rw [HML.out] at hstr2 ⊢
              clear ho7 hc8 hr8 hl20
              cases tw
              · go_wp2
                go_roundw
                case rel => exact ⟨m + 1, left2, v7, xs2, by go_num, by have := HO7.out; exact this, ⟨HND2.out⟩, ⟨by have h1 := hml.out; have h2 := HLEN2.out; have h3 := HNL.out; rw [hnl2.out]; omega⟩, ⟨HBK2.out⟩, HBU7.out, HP7.out, HB7.out⟩
                case measure => simp [intOf]; omega
              · go_wp2
                go_roundw
                case rel => exact ⟨m + 1, left2, v7, xs2, by go_num, by have := HO7.out; exact this, ⟨HND2.out⟩, ⟨by have h1 := hml.out; have h2 := HLEN2.out; have h3 := HNL.out; rw [hnl2.out]; omega⟩, ⟨HBK2.out⟩, HBU7.out, HP7.out, HB7.out⟩
                case measure => simp [intOf]; omega
            · have hl20 : left2 ≠ [] := fun e => hz2 (by rw [← hnl2.out, e]; rfl)
              rw [if_neg hl20] at ho7
              obtain ⟨A8, c8, rfl, _, _⟩ := ho7.slice
              rw [List.length_nil]
              have HL20 := hd hl20
              have q9 : (0 : Int) < nl2 := by omega
              have q9' : ((nl2 : Int) == 0) = false := by simp; exact hz2
              clear ho7 hl20
              cases tw
              · go_wp2
                go_roundw
                case rel => exact ⟨m + 1, left2, v7, xs2, by go_num, by have := HO7.out; exact this, ⟨HND2.out⟩, ⟨by have h1 := hml.out; have h2 := HLEN2.out; have h3 := HNL.out; rw [hnl2.out]; omega⟩, ⟨HBK2.out⟩, HBU7.out, HP7.out, HB7.out⟩
                case measure => simp [intOf]; omega
              · obtain ⟨s, hcs, hps⟩ := HP7.out.cell at_ (by rw [HLL.out]; exact HATK.out)
                rw [hp.out] at hps
                obtain ⟨s1, s2, s3⟩ := s
                have hsl : s2 = p.length := hps.len
                dsimp only at hcs
                subst hsl
                have ha : ∀ wx, Mod (Foot_ b v7 xs2) w7 wx → Bytes wx s1 p.length s3 p := fun wx hm => (hps.mod hm HBU7.out.apart).bytes
                have HOKX2 := hd (bk_ok HBK2.out (by rw [HLL.out]; exact HK1.out.1) (by rw [HLL.out]; exact Nat.le_trans HK1.out.2 (by decide)) HSM.out HOKP.out)
                have HLX2 := hd (bk_len HBK2.out)
                have HA := hd (add_any (peer := pS) (msg := 3) (part := (at_ : Int)) (parts := (K : Int)) (now := 8) HBU7.out HS7.out ha HOKX2.out (by decide) (Nat.lt_of_le_of_lt HLX2.out (by decide)) (Nat.lt_of_le_of_lt (List.length_filter_le _ _) (Nat.lt_of_le_of_lt HLX2.out (by decide))) (by decide) (by decide) (Nat.le_trans HPL.out (by decide)) (by omega) (by omega))
                clear ha hps
                go_wp2_with fail
                refine HA.out.mono ?_
                rintro e w8 ⟨g3, q3, hpo⟩
                have hadd := bk_twice (g := g3) (q := q3) HBK2.out HNE.out HL20.out (by rw [HLL.out]; exact HATK.out) (fun h1 => ((HIFF.out at_).1 h1).2 rfl) (HMAY.out at_ (by rw [HLL.out]; exact HATK.out))
                rw [HLL.out, hp.out] at hadd
                obtain ⟨v8, vo, rfl, ho8, hbu8, hm8, hf8⟩ := hpo.of hadd
                obtain ⟨A9, c9, rfl, _, _⟩ := ho8.slice
                rw [List.length_nil]
                have HBU8 := hd hbu8
                have HO8 := hd (OwnI.mod HO7.out HBU7.out hm8)
                have HP8 := hd (HP7.out.mod hm8 HBU7.out.apart (fun j hj hf => by
                  have h1 := (HBU7.out.typed hf).1
                  have h2 := HR2.out
                  have h3 : r = j := by simpa [Value.ownBlock] using hj
                  omega))
                have HB8 := hd (HB7.out.trans (hm8.toBelow (fun j hj => Nat.le_trans HW2.out (HBU7.out.typed hj).1) HB7.out.size))
                clear ho8 hbu8 hm8 hf8 hpo hadd HA hcs
                go_wp2
                go_roundw
                case rel => exact ⟨m + 1, left2, v8, xs2, by go_num, by have := HO8.out; exact this, ⟨HND2.out⟩, ⟨by have h1 := hml.out; have h2 := HLEN2.out; have h3 := HNL.out; rw [hnl2.out]; omega⟩, ⟨HBK2.out⟩, HBU8.out, HP8.out, HB8.out⟩
                case measure => simp [intOf]; omega
          · have mn : (n1 : Int) ≤ m := by omega
            go_upto_region 21 with (fail)
            have hmK : m < K := by have h1 := hml.out; have h2 := HNL.out; omega
            have hkl : 0 < left.length := by rw [← HNL.out]; omega
            obtain ⟨at_, hat, hca, _⟩ := HO2.out.cellx 0 (by omega)
            have hata : left[0] = at_ := by rw [← hat.out, List.getD_eq_getElem?_getD, List.getElem?_eq_getElem hkl]; rfl
            have HMEM := hd (show at_ ∈ left by rw [← hata]; exact List.getElem_mem _)
            have HATK := hd (hnd.out.2 at_ HMEM.out)
            obtain ⟨left2, hl2⟩ : ∃ left2, left2 = left.take 0 ++ left.drop (0 + 1) := ⟨_, rfl⟩
            have HIFF := hd (show ∀ j, j ∈ left2 ↔ j ∈ left ∧ j ≠ at_ by rw [hl2, ← hata]; exact mem_without hkl hnd.out.1)
            have HND2 := hd (show left2.Nodup ∧ ∀ j ∈ left2, j < K from ⟨by rw [hl2]; exact nodup_without hnd.out.1, fun j hj => hnd.out.2 j ((HIFF.out j).1 hj).1⟩)
            have HLEN2 := hd (show left2.length + 1 = nl by rw [hl2, List.length_append, List.length_take, List.length_drop, HNL.out]; omega)
            have HTK := hd (show 0 = (left.take 0).length by rw [List.length_take]; omega)
            have HDK := hd (show nl - (0 + 1) = (left.drop (0 + 1)).length by rw [List.length_drop, HNL.out])
            have HRT := hd (HRW.out.take 0 (Nat.le_of_lt hkl))
            have HRDW := hd (HRW.out.drop (0 + 1) (by omega) (c := c3) (by rw [← HNL.out]; exact hc3))
            have HL2 := hd hl2
            have HLEFT := hd hkl
            have HAT9 := hd (show (at_ : Int) < K by have := HATK.out; omega)
            have hf1 : (([] : List Nat).length + (left.take 0).length) * 8 ≤ 140737488355328 := by rw [← HTK.out, List.length_nil]; omega
            have HF1 := hd hf1
            clear hat hata hl2 hf1
            go_upto_region 24 with ((with_reducible refine gate_dst (N := 81) rfl ?_); at_builtin; refine op_append_row (k := .i64) (w0 := wr) 81 rfl wr.heap.size 3 32 (.tmp 77) (.tmp 80) rfl rfl Try.underlying32 Try.infoI (by decide) (.slice none 0 0) [] (left.take 0) (some ⟨rl, 0, none⟩) 0 c3 rfl rfl HTK.out (OwnK.nil _ _ _ _) HRT.out (Below.refl _ _) (Nat.le_refl _) HF1.out ?_; intro v4 w5 ho5 hb5 hg5; rw [List.nil_append] at ho5)
            have HB5 := hd hb5
            have HRD := hd (show ∀ A', (c3 = 0 + 1 ∨ A' = some ((⟨rl, 0, none⟩ : Addr).add (0 + 1))) → RowK .i64 w5 A' (left.drop (0 + 1)) from fun A' hA => by
              by_cases hcc : c3 = 0 + 1
              · rw [show left.drop (0 + 1) = [] from List.drop_of_length_le (by rw [← HNL.out]; omega)]
                exact RowK.nil _ _ _
              · have h1 := HRDW.out.below hb5
                rw [if_neg hcc] at h1
                rcases hA with hA | hA
                · exact absurd hA hcc
                · rw [hA]; exact h1)
            have hf2 : ((left.take 0).length + (left.drop (0 + 1)).length) * 8 ≤ 140737488355328 := by rw [← HTK.out, ← HDK.out]; omega
            have HF2 := hd hf2
            have HO5 := hd ho5
            have hs5 := hb5.size
            clear hg5 hf2 ho5 HRDW HRT
            go_upto_region 25 with ((with_reducible refine gate_dst (N := 87) rfl ?_); at_builtin; refine op_append_row (k := .i64) (w0 := wr) 87 rfl wr.heap.size 3 32 (.tmp 82) (.tmp 86) rfl rfl Try.underlying32 Try.infoI (by decide) v4 (left.take 0) (left.drop (0 + 1)) _ (nl - (0 + 1)) _ rfl rfl HDK.out HO5.out (HRD.out _ (by by_cases hcc : c3 = 0 + 1 <;> simp [hcc, Addr.add])) HB5.out hs5 HF2.out ?_; intro v5 w6 ho6 hb6 hg6)
            generalize (if c3 = 1 then (some ({ block := rl, off := 0 } : Addr)) else some ({ block := rl, off := 1 } : Addr)) = A86
            rw [← HL2.out] at ho6
            obtain ⟨A7, c7, rfl, _, _⟩ := ho6.slice
            obtain ⟨nl2, hnl2⟩ : ∃ nl2, Aside0 (left2.length = nl2) := ⟨_, ⟨rfl⟩⟩
            rw [hnl2.out] at ho6 HLEN2 ⊢
            have HO6 := hd ho6
            have HB6 := hd (below_seq HBR.out hb6)
            have hbu6 := HBU.out.below hb6
            have HP6 := hd (HPI.out.below hb6)
            have HS6 := hd (Nat.le_trans hbu6.bge (Nat.le_of_lt (blk_lt hbu6.box)))
            clear ho6 hb6 hg6 HO5 HRD HF2 HF1 hs5 HB5 hca
            obtain ⟨s, hcs, hps⟩ := HP6.out.cell at_ (by rw [HLL.out]; exact HATK.out)
            obtain ⟨p, hp⟩ : ∃ p, Aside0 (L.getD at_ [] = p) := ⟨_, ⟨rfl⟩⟩
            rw [hp.out] at hps
            have HPS := hd hps
            obtain ⟨s1, s2, s3⟩ := s
            have hsl : s2 = p.length := hps.len
            dsimp only at hcs
            subst hsl
            have HPL := hd (show p.length ≤ 1024 by rw [← hp.out]; exact HSM.out at_ (by rw [HLL.out]; exact HATK.out))
            have ha : ∀ wx, Mod (Foot_ b v xs) w6 wx → Bytes wx s1 p.length s3 p := fun wx hm => (hps.mod hm hbu6.apart).bytes
            have HOKX := hd (bk_ok hbk.out (by rw [HLL.out]; exact HK1.out.1) (by rw [HLL.out]; exact Nat.le_trans HK1.out.2 (by decide)) HSM.out HOKP.out)
            have HLX := hd (bk_len hbk.out)
            have HA := hd (add_any (peer := pS) (msg := 3) (part := (at_ : Int)) (parts := (K : Int)) (now := 7) hbu6 HS6.out ha HOKX.out (by decide) (Nat.lt_of_le_of_lt HLX.out (by decide)) (Nat.lt_of_le_of_lt (List.length_filter_le _ _) (Nat.lt_of_le_of_lt HLX.out (by decide))) (by decide) (by decide) (Nat.le_trans HPL.out (by decide)) (by omega) (by omega))
            have HB66 := hd hbu6
            have hat0 : (0 : Int) ≤ at_ := by omega
            have hatk : at_ < K := HATK.out
            clear ha hps hbu6
            go_wp2_with fail
            refine HA.out.mono ?_
            rintro e w7 ⟨g, q, hpo⟩
            obtain ⟨xs2, hadd, hbk2⟩ := bk_add (g := g) (q := q) hbk.out HNE.out (fun j hj => by rw [HLL.out]; exact hnd.out.2 j hj) HMEM.out HIFF.out HSZ.out (HMAY.out at_ (by rw [HLL.out]; exact HATK.out))
            rw [HLL.out, hp.out, HFL.out] at hadd
            obtain ⟨v7, vo, rfl, ho7, hbu7, hm7, hf7⟩ := hpo.of hadd
            have HBU7 := hd hbu7
            have HO7 := hd (OwnI.mod (HO6.out.lower (Nat.le_trans HBR.out.size (Nat.le_refl _))) HB66.out hm7)
            have HP7 := hd (HP6.out.mod hm7 HB66.out.apart (fun j hj hf => by
              have h1 := (HB66.out.typed hf).1
              have h2 := HR2.out
              have h3 : r = j := by simpa [Value.ownBlock] using hj
              omega))
            have HB7 := hd (HB6.out.trans (hm7.toBelow (fun j hj => Nat.le_trans HW2.out (HB66.out.typed hj).1) HB6.out.size))
            have HS7 := hd (Nat.le_trans HS6.out hm7.size)
            have HBK2 := hd hbk2
            clear hbu7 hm7 hf7 hpo hadd HA hcs HB66 HP6 HO6 hbk2
            by_cases hz2 : nl2 = 0
            · subst hz2
              have hl20 : left2 = [] := List.length_eq_zero_iff.1 hnl2.out
              rw [if_pos hl20] at ho7
              obtain ⟨A8, c8, rfl, hc8, hr8⟩ := ho7.slice
              have hstr := (H.out.below HB7.out).str (P := Try.prog) Try.underlying22 Try.underlying5 Try.underlying9
              have hstr2 := (show Bytes w7 A8 l.length c8 l from ⟨hr8, rfl, hc8, H.out.ok⟩).str (P := Try.prog) Try.underlying22 Try.underlying5 Try.underlying9
              obtain ⟨zl, hzl⟩ : ∃ zl, Aside0 (strOf l = zl) := ⟨_, ⟨rfl⟩⟩
              rw [hzl.out] at hstr hstr2
              rw [HML.out] at hstr2 ⊢
              clear ho7 hc8 hr8 hl20
              cases tw
              · go_wp2
                go_roundw
                case rel => exact ⟨m + 1, left2, v7, xs2, by go_num, by have := HO7.out; exact this, ⟨HND2.out⟩, ⟨by have h1 := hml.out; have h2 := HLEN2.out; have h3 := HNL.out; rw [hnl2.out]; omega⟩, ⟨HBK2.out⟩, HBU7.out, HP7.out, HB7.out⟩
                case measure => simp [intOf]; omega
              · go_wp2
                go_roundw
                case rel => exact ⟨m + 1, left2, v7, xs2, by go_num, by have := HO7.out; exact this, ⟨HND2.out⟩, ⟨by have h1 := hml.out; have h2 := HLEN2.out; have h3 := HNL.out; rw [hnl2.out]; omega⟩, ⟨HBK2.out⟩, HBU7.out, HP7.out, HB7.out⟩
                case measure => simp [intOf]; omega
            · have hl20 : left2 ≠ [] := fun e => hz2 (by rw [← hnl2.out, e]; rfl)
              rw [if_neg hl20] at ho7
              obtain ⟨A8, c8, rfl, _, _⟩ := ho7.slice
              rw [List.length_nil]
              have HL20 := hd hl20
              have q9 : (0 : Int) < nl2 := by omega
              have q9' : ((nl2 : Int) == 0) = false := by simp; exact hz2
              clear ho7 hl20
              cases tw
              · go_wp2
                go_roundw
                case rel => exact ⟨m + 1, left2, v7, xs2, by go_num, by have := HO7.out; exact this, ⟨HND2.out⟩, ⟨by have h1 := hml.out; have h2 := HLEN2.out; have h3 := HNL.out; rw [hnl2.out]; omega⟩, ⟨HBK2.out⟩, HBU7.out, HP7.out, HB7.out⟩
                case measure => simp [intOf]; omega
              · obtain ⟨s, hcs, hps⟩ := HP7.out.cell at_ (by rw [HLL.out]; exact HATK.out)
                rw [hp.out] at hps
                obtain ⟨s1, s2, s3⟩ := s
                have hsl : s2 = p.length := hps.len
                dsimp only at hcs
                subst hsl
                have ha : ∀ wx, Mod (Foot_ b v7 xs2) w7 wx → Bytes wx s1 p.length s3 p := fun wx hm => (hps.mod hm HBU7.out.apart).bytes
                have HOKX2 := hd (bk_ok HBK2.out (by rw [HLL.out]; exact HK1.out.1) (by rw [HLL.out]; exact Nat.le_trans HK1.out.2 (by decide)) HSM.out HOKP.out)
                have HLX2 := hd (bk_len HBK2.out)
                have HA := hd (add_any (peer := pS) (msg := 3) (part := (at_ : Int)) (parts := (K : Int)) (now := 8) HBU7.out HS7.out ha HOKX2.out (by decide) (Nat.lt_of_le_of_lt HLX2.out (by decide)) (Nat.lt_of_le_of_lt (List.length_filter_le _ _) (Nat.lt_of_le_of_lt HLX2.out (by decide))) (by decide) (by decide) (Nat.le_trans HPL.out (by decide)) (by omega) (by omega))
                clear ha hps
                go_wp2_with fail
                refine HA.out.mono ?_
                rintro e w8 ⟨g3, q3, hpo⟩
                have hadd := bk_twice (g := g3) (q := q3) HBK2.out HNE.out HL20.out (by rw [HLL.out]; exact HATK.out) (fun h1 => ((HIFF.out at_).1 h1).2 rfl) (HMAY.out at_ (by rw [HLL.out]; exact HATK.out))
                rw [HLL.out, hp.out] at hadd
                obtain ⟨v8, vo, rfl, ho8, hbu8, hm8, hf8⟩ := hpo.of hadd
                obtain ⟨A9, c9, rfl, _, _⟩ := ho8.slice
                rw [List.length_nil]
                have HBU8 := hd hbu8
                have HO8 := hd (OwnI.mod HO7.out HBU7.out hm8)
                have HP8 := hd (HP7.out.mod hm8 HBU7.out.apart (fun j hj hf => by
                  have h1 := (HBU7.out.typed hf).1
                  have h2 := HR2.out
                  have h3 : r = j := by simpa [Value.ownBlock] using hj
                  omega))
                have HB8 := hd (HB7.out.trans (hm8.toBelow (fun j hj => Nat.le_trans HW2.out (HBU7.out.typed hj).1) HB7.out.size))
                clear ho8 hbu8 hm8 hf8 hpo hadd HA hcs
                go_wp2
                go_roundw
                case rel => exact ⟨m + 1, left2, v8, xs2, by go_num, by have := HO8.out; exact this, ⟨HND2.out⟩, ⟨by have h1 := hml.out; have h2 := HLEN2.out; have h3 := HNL.out; rw [hnl2.out]; omega⟩, ⟨HBK2.out⟩, HBU8.out, HP8.out, HB8.out⟩
                case measure => simp [intOf]; omega
end Go.Proofs.Ytcmiajnndmaeiaa
