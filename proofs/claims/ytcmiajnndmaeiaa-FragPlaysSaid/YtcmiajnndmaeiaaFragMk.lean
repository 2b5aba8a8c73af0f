/- The walks through New and Split. -/
import Derived.Test.YtcmiajnndmaeiaaFragAddN
set_option linter.unusedVariables false
set_option linter.unusedSimpArgs false
namespace Go.Proofs.Ytcmiajnndmaeiaa
open Go.RowKit Go.Proofs.YtcmiajnndmaeiaaW.PrintWords Go.Proofs.YtcmiajnndmaeiaaW.PrintLast Go.Proofs.YtcmiajnndmaeiaaW.PrintMore
section
variable {ops : Array Oper} {rest : List Oper} {o : Oper} {a : Act} {Q : Exit → Act → World → Prop} {Kc : Act → World → Prop}
theorem op_appendS {w0 W : World} (N : Tmp) (hd : o.dst = some N) (base : Nat) (s x : Operand) (ho : o.op = .call { callee := .builtin .append, args := #[s, x], argTypes := #[24, 24] }) (hgd : o.guard = none)
    (v : Value) (l : List (Option Addr × Nat × Nat)) (y : Option Addr × Nat × Nat) (hs : a.eval s = v) (hx : a.eval x = .slice (some ⟨W.heap.size, 0, none⟩) 1 1) (HO : SRow base W v l) (HB : Below base w0 W) (hbase : base ≤ W.heap.size) (hl : l.length ≤ 2000000)
    (h : ∀ v1 w1, SRow base w1 v1 (l ++ [y]) → Below base w0 w1 → W.grownBy w1 v.ownBlock → wpList Try.prog ops Q rest (a.put o.dst v1) w1) :
    wpList Try.prog ops Q (o :: rest) a (W.alloc (.cells #[.slice y.1 y.2.1 y.2.2] 22)) :=
  Kd.R_append KSl (w0 := w0) (W := W) base hgd s x 24 22 (.slice none 0 0) 24 ho Try.underlying24 Try.infoSl rfl (Nat.zero_lt_one) (by decide) v l y [.slice y.1 y.2.1 y.2.2] (fun _ => True) (fun g => some g ≠ v.ownBlock) hs hx rfl (fun g hg => ⟨trivial, hg⟩) (fun _ _ => trivial) HO HB hbase (by omega) (fun v1 w1 h1 hb hg _ => h v1 w1 h1 hb hg)
end
/-! ### New -/
def maxz (a : Int) : Nat := a.toNat
set_option maxRecDepth 100000 in
theorem new_calls {P A : Int} {G : Nat} {w : World} : Calls Try.prog 11 #[.agg #[.int .i64 P, .int .i64 A, .int .u64 (G : Int)]] w fun e w' => ∃ b, e = .returned (.pointer (gp b)) ∧ BufAt w.heap.size w' b (maxz P) (maxz A) G (.slice none 0 0) [] ∧ Below w.heap.size w w' := by
  have key : ∀ (x y : Int), x = ((maxz P : Nat) : Int) → y = ((maxz A : Nat) : Int) → ∀ (W : World) (g : Nat), g = W.heap.size → Below w.heap.size w W → BufAt w.heap.size (W.alloc (.cells #[.int .i64 x, .int .i64 y, .int .u64 (G : Int), .slice none 0 0] 63)) g (maxz P) (maxz A) G (.slice none 0 0) [] ∧ Below w.heap.size w (W.alloc (.cells #[.int .i64 x, .int .i64 y, .int .u64 (G : Int), .slice none 0 0] 63)) := by
    rintro x y rfl rfl W g rfl hb
    exact ⟨⟨blk_new W _, hb.size, Kd.R_nil _ _ _ _ _, fun x hx => by simp at hx, by simp, by simp⟩, below_seq hb (below_alloc (Below.refl _ _) _)⟩
  have HK := hd key
  have hP : ∀ x : Int, x < 0 → (0 : Int) = ((maxz x : Nat) : Int) := fun x h => by unfold maxz; omega
  have hQ : ∀ x : Int, 0 ≤ x → x = ((maxz x : Nat) : Int) := fun x h => by unfold maxz; omega
  have HPQ := hd (And.intro hP hQ)
  clear key hP hQ
  go_enter Try.func11, Try.ntmps11
  go_wp2
  all_goals
    go_ret
    obtain ⟨h1, h2⟩ := HK.out _ _ (by first | exact HPQ.out.1 P (by assumption) | exact HPQ.out.2 P (by assumption)) (by first | exact HPQ.out.1 A (by assumption) | exact HPQ.out.2 A (by assumption)) (w.alloc (.cells #[.int .i64 P, .int .i64 A, .int .u64 (G : Int)] 37)) (w.heap.size + 1) (by simp) (below_alloc (Below.refl _ _) _)
    exact ⟨w.heap.size + 1, rfl, h1, h2⟩
/-! ### Split -/
def pieces (l : List Nat) (k : Nat) : List (List Nat) := (List.range k).map fun i => (l.drop (1024 * i)).take 1024
theorem pieces_succ (l : List Nat) (k : Nat) : pieces l (k + 1) = pieces l k ++ [(l.drop (1024 * k)).take 1024] := by simp [pieces, List.range_succ]
/-- A message's pieces, and the error's number. -/
def splitF (l : List Nat) : List (List Nat) × Nat := if l.length = 0 then ([], 1) else if 65536 < l.length then ([], 14) else (pieces l ((l.length + 1023) / 1024), 0)
theorem PartsAt.snoc {base : Nat} {w : World} {s : Option Addr × Nat × Nat} {l : List Nat} (hp : PartAt base w s l) : ∀ {ss : List (Option Addr × Nat × Nat)} {ls : List (List Nat)}, PartsAt base w ss ls → PartsAt base w (ss ++ [s]) (ls ++ [l])
  | [], [], _ => ⟨hp, trivial⟩
  | s' :: ss, l' :: ls, ⟨h1, h2⟩ => ⟨h1, PartsAt.snoc hp h2⟩
/-- Pieces in blocks of their own. -/
structure PartsIn (base : Nat) (w : World) (v : Value) (ls : List (List Nat)) : Prop where
  mk ::
  ex : ∃ ss, SRow base w v ss ∧ PartsAt base w ss ls ∧ (∀ s ∈ ss, ∀ ad, s.1 = some ad → ad.block < w.heap.size) ∧ ss.Pairwise fun s s' => ∀ ad ad', s.1 = some ad → s'.1 = some ad' → ad.block ≠ ad'.block
theorem PartsIn.below {base : Nat} {w w1 : World} {v : Value} {ls : List (List Nat)} (h : PartsIn base w v ls) (hb : Below w.heap.size w w1) : PartsIn base w1 v ls := by
  obtain ⟨ss, h1, h2, h3, h4⟩ := h.ex
  exact ⟨ss, h1.below hb, h2.mod (S := fun _ => False) (Mod.below hb) (fun _ _ _ h => h), fun s hs ad ha => Nat.lt_of_lt_of_le (h3 s hs ad ha) hb.size, h4⟩
theorem PartsIn.nil (base : Nat) (w : World) : PartsIn base w (.slice none 0 0) [] := ⟨[], Kd.R_nil _ _ _ _ _, trivial, fun s hs => by simp at hs, List.Pairwise.nil⟩
/-- Behind an append. -/
theorem PartsIn.snoc {base g n c : Nat} {w w2 w1 : World} {v v1 : Value} {ls : List (List Nat)} {l : List Nat} {ss : List (Option Addr × Nat × Nat)} (h1 : SRow base w v ss) (h2 : PartsAt base w ss ls) (h3 : ∀ s ∈ ss, ∀ ad, s.1 = some ad → ad.block < w.heap.size) (h4 : ss.Pairwise fun s s' => ∀ ad ad', s.1 = some ad → s'.1 = some ad' → ad.block ≠ ad'.block)
    (hb : Below w.heap.size w w2) (hp : PartAt base w2 (some ⟨g, 0, none⟩, n, c) l) (hg : w.heap.size ≤ g) (hg2 : g < w2.heap.size) (hr : SRow base w1 v1 (ss ++ [(some ⟨g, 0, none⟩, n, c)])) (hgr : w2.grownBy w1 v.ownBlock) : PartsIn base w1 v1 (ls ++ [l]) := by
  have hm : Mod (fun k => v.ownBlock = some k) w2 w1 := Mod.grown hgr (fun k hk => hk)
  have ha : Apart 5 w2 (fun k => v.ownBlock = some k) := fun k cells hk e => by
    have h5 := h1.below hb
    obtain ⟨_, inner, ho, _⟩ := h5
    obtain ⟨c', hc⟩ := own_typed ho k e
    exact absurd (heap_type hc hk) (by decide)
  refine ⟨_, hr, PartsAt.snoc (hp.mod hm ha) ((h2.mod (S := fun _ => False) (Mod.below hb) (fun _ _ _ h => h)).mod hm ha), fun s hs ad he => ?_, ?_⟩
  · have := hm.size
    have := hb.size
    rcases List.mem_append.1 hs with hs | hs
    · have := h3 s hs ad he
      omega
    · rw [List.mem_singleton.1 hs] at he
      injection he with he
      rw [← he]
      show g < _
      omega
  · refine List.pairwise_append.2 ⟨h4, List.pairwise_singleton _ _, fun s hs s' hs' ad ad' he he' => ?_⟩
    rw [List.mem_singleton.1 hs'] at he'
    injection he' with he'
    have := h3 s hs ad he
    rw [← he']
    show ad.block ≠ g
    omega
set_option maxHeartbeats 2000000 in
set_option maxRecDepth 100000 in
theorem split_calls {A : Option Addr} {n c : Nat} {l : List Nat} {w : World} (hb : Bytes w A n c l) (hn : n ≤ 1000000000) :
    Calls Try.prog 9 #[.slice A n c] w fun e w' => ∃ v, e = .returned (.tuple #[v, .int .i64 ((splitF l).2 : Int)]) ∧ PartsIn w.heap.size w' v (splitF l).1 ∧ Below w.heap.size w w' := by
  have hl := hb.2.1
  have HL := hd hl
  have HB := hd hb
  have n9 : (n : Int) ≤ 1000000000 := by omega
  clear hl
  by_cases h0 : n = 0
  · subst h0
    clear hb
    go_enter Try.func9, Try.ntmps9
    go_wp2
    go_ret2
    refine ⟨.slice none 0 0, ?_, ?_, Below.refl _ _⟩
    · rw [splitF, if_pos HL.out]; rfl
    · rw [splitF, if_pos HL.out]; exact PartsIn.nil _ _
  have q1 : ((n : Int) == 0) = false := by simp; exact h0
  have q1' : (n == 0) = false := by simp; exact h0
  by_cases h1 : 65536 < n
  · have q2 : decide ((65536 : Int) < n) = true := by simp; omega
    have H1 := hd h1
    clear hb h1 h0
    go_enter Try.func9, Try.ntmps9
    go_wp2
    go_ret2
    refine ⟨.slice none 0 0, ?_, ?_, Below.refl _ _⟩
    · rw [splitF, if_neg (by rw [HL.out]; have := H1.out; omega), if_pos (by rw [HL.out]; exact H1.out)]; rfl
    · rw [splitF, if_neg (by rw [HL.out]; have := H1.out; omega), if_pos (by rw [HL.out]; exact H1.out)]; exact PartsIn.nil _ _
  have q2 : decide ((65536 : Int) < n) = false := by simp; omega
  have HS := hd (show splitF l = (pieces l ((n + 1023) / 1024), 0) by rw [splitF, if_neg (by rw [HL.out]; exact h0), if_neg (by rw [HL.out]; omega), HL.out])
  have H1 := hd (show 0 < n ∧ n ≤ 65536 by omega)
  rw [HS.out]
  clear hb h1 h0 n9
  go_enter Try.func9, Try.ntmps9
  go_wp2
  go_loopw [0, 4] (fun u0 u4 wr => ∃ k m A' c', u0 = .slice A' m c' ∧ Aside0 (m = n - 1024 * k) ∧ Aside0 (1024 * k < n + 1024) ∧ Bytes w A' m c' (l.drop (1024 * k)) ∧ PartsIn w.heap.size wr u4 (pieces l k) ∧ Below w.heap.size w wr) (fun u0 _ _ => (match u0 with | .slice _ m _ => m | _ => 0))
  case atStart => exact ⟨0, n, A, c, rfl, ⟨by omega⟩, ⟨by have := H1.out; omega⟩, HB.out, PartsIn.nil _ _, Below.refl _ _⟩
  case round =>
    obtain ⟨k, m, A', c', rfl, hm, hk, hbr, hpi, hb⟩ := hrel
    by_cases hz : m = 0
    · subst hz
      have HZ := hd (show k = (n + 1023) / 1024 by have := hm.out; have := hk.out; omega)
      clear hbr
      go_wp2
      go_ret2
      rw [← HZ.out]
      exact ⟨u4, rfl, hpi, hb⟩
    · obtain ⟨ss, r1, r2, r3, r4⟩ := hpi.ex
      obtain ⟨ad, x, rfl, _, _⟩ := hbr.1.at_ 0 (by rw [hbr.2.1]; omega)
      have HR := hd (And.intro r1 (And.intro r2 (And.intro r3 r4)))
      have HBW := hd hbr
      have HBR := hd (hbr.below hb)
      have m0 : (0 : Int) < m := by omega
      have m9 : (m : Int) ≤ 65536 := by have := hm.out; have := H1.out; omega
      have hmc : (m : Int) ≤ c' := by have := hbr.2.2.1; omega
      clear hpi r1 r2 r3 r4 hbr
      by_cases h4 : m ≤ 1024
      · have i4 : (m : Int) ≤ 1024 := by omega
        have HC := hd (clone_calls (HBR.out.take m (by omega)) (by omega) (by omega))
        have HLT := hd (show ((l.drop (1024 * k)).take m).length = m by rw [List.length_take, HBR.out.2.1]; omega)
        have HOKT := hd (show BytesOK ((l.drop (1024 * k)).take m) from HBR.out.ok.take m)
        have HTK := hd (show (l.drop (1024 * k)).take m = (l.drop (1024 * k)).take 1024 by rw [List.take_of_length_le (by rw [HBR.out.2.1]; exact Nat.le_refl _), List.take_of_length_le (by rw [HBR.out.2.1]; exact h4)])
        go_wp2_with fail
        refine HC.out.mono ?_
        rintro e w1 ⟨vc, rfl, hvo, hb1⟩
        obtain ⟨gc, cc, rfl, hgc1, hgc2, _⟩ := hvo.form (by rw [HLT.out]; omega)
        have hpa := PartAt.new hvo (by rw [HLT.out]; omega) HOKT.out hb.size
        rw [HLT.out] at hpa
        try rw [HTK.out] at hpa
        rw [HLT.out]
        have HPA := hd hpa
        have HG := hd (And.intro hgc1 hgc2)
        have hbw := below_seq hb hb1
        have hss : ss.length ≤ 2000000 := by have h1 := HR.out.2.1.length; have h2 := hm.out; have h3 := hk.out; have h4 := H1.out; rw [h1]; simp only [pieces, List.length_map, List.length_range]; omega
        have HSS := hd hss
        have HB1 := hd hb1
        have hsz := Nat.le_trans hb.size hb1.size
        clear hvo hgc1 hgc2 hpa hb1 HC hss
        go_wp2_with ((with_reducible refine gate_dst (N := 26) rfl ?_); at_builtin; refine op_appendS (w0 := w) 26 rfl w.heap.size (.tmp 20) (.tmp 25) rfl rfl u4 ss (some ⟨gc, 0, none⟩, m, cc) rfl rfl (HR.out.1.below HB1.out) hbw hsz HSS.out ?_; intro v1 w2 hr1 hb2 hg2)
        have HPI := hd (PartsIn.snoc HR.out.1 HR.out.2.1 HR.out.2.2.1 HR.out.2.2.2 HB1.out HPA.out HG.out.1 HG.out.2 hr1 hg2)
        rw [← pieces_succ] at HPI
        go_wp2
        go_roundw
        case rel =>
          refine ⟨k + 1, 0, _, _, rfl, ⟨by have := hm.out; omega⟩, ⟨by have := hm.out; have := hk.out; omega⟩, ?_, HPI.out, hb2⟩
          have h5 := HBW.out.drop m (Nat.le_refl _)
          rw [Nat.sub_self] at h5
          rw [show 1024 * (k + 1) = 1024 * k + 1024 by omega, ← List.drop_drop, show (l.drop (1024 * k)).drop 1024 = (l.drop (1024 * k)).drop m by rw [List.drop_of_length_le (by rw [HBR.out.2.1]; exact h4), List.drop_of_length_le (by rw [HBR.out.2.1]; exact Nat.le_refl _)]]
          exact h5
        case measure => simp [intOf]; omega
      · have i4 : (1024 : Int) < m := by omega
        have HC := hd (clone_calls (HBR.out.take 1024 (by omega)) (by omega) (by omega))
        have HLT := hd (show ((l.drop (1024 * k)).take 1024).length = 1024 by rw [List.length_take, HBR.out.2.1]; omega)
        have HOKT := hd (show BytesOK ((l.drop (1024 * k)).take 1024) from HBR.out.ok.take 1024)
        have HTK := hd (show (l.drop (1024 * k)).take 1024 = (l.drop (1024 * k)).take 1024 by rfl)
        go_wp2_with fail
        refine HC.out.mono ?_
        rintro e w1 ⟨vc, rfl, hvo, hb1⟩
        obtain ⟨gc, cc, rfl, hgc1, hgc2, _⟩ := hvo.form (by rw [HLT.out]; omega)
        have hpa := PartAt.new hvo (by rw [HLT.out]; omega) HOKT.out hb.size
        rw [HLT.out] at hpa
        try rw [HTK.out] at hpa
        rw [HLT.out]
        have HPA := hd hpa
        have HG := hd (And.intro hgc1 hgc2)
        have hbw := below_seq hb hb1
        have hss : ss.length ≤ 2000000 := by have h1 := HR.out.2.1.length; have h2 := hm.out; have h3 := hk.out; have h4 := H1.out; rw [h1]; simp only [pieces, List.length_map, List.length_range]; omega
        have HSS := hd hss
        have HB1 := hd hb1
        have hsz := Nat.le_trans hb.size hb1.size
        clear hvo hgc1 hgc2 hpa hb1 HC hss
        go_wp2_with ((with_reducible refine gate_dst (N := 26) rfl ?_); at_builtin; refine op_appendS (w0 := w) 26 rfl w.heap.size (.tmp 20) (.tmp 25) rfl rfl u4 ss (some ⟨gc, 0, none⟩, 1024, cc) rfl rfl (HR.out.1.below HB1.out) hbw hsz HSS.out ?_; intro v1 w2 hr1 hb2 hg2)
        have HPI := hd (PartsIn.snoc HR.out.1 HR.out.2.1 HR.out.2.2.1 HR.out.2.2.2 HB1.out HPA.out HG.out.1 HG.out.2 hr1 hg2)
        rw [← pieces_succ] at HPI
        go_wp2
        go_roundw
        case rel =>
          refine ⟨k + 1, m - 1024, _, _, rfl, ⟨by have := hm.out; omega⟩, ⟨by have := hm.out; have := hk.out; omega⟩, ?_, HPI.out, hb2⟩
          have h5 := HBW.out.drop 1024 (by omega)
          rw [if_neg (by omega)] at h5
          rw [show 1024 * (k + 1) = 1024 * k + 1024 by omega, ← List.drop_drop]
          exact h5
        case measure => simp [intOf]; omega
/-! ### Add, of any arguments -/
theorem AddPost.bad {base b P A G : Nat} {w w' : World} {v : Value} {xs : List Cel} (h : BufAt base w b P A G v xs) (hb : Below w.heap.size w w') : AddPost base b P A G w v xs (xs, [], 1) (.returned (.tuple #[.slice none 0 0, .int .i64 1])) w' :=
  ⟨v, .slice none 0 0, rfl, OwnK.nil _ _ _ _, h.below hb, Mod.below hb, fun k hk => Or.inl hk⟩
theorem addC_bad {P A G : Nat} {xs : List Cel} {peer : ByteArray} {msg part parts : Int} {body : List Nat} {now g q : Nat} (h : mayB msg part parts body.length = false) : addC P A G xs peer msg part parts body now g q = (xs, [], 1) := by unfold addC; rw [if_pos h]
theorem addC_own {P A G : Nat} {xs : List Cel} {peer : ByteArray} {msg part parts : Int} {body : List Nat} {now g q : Nat} {y : Cel} (h : mayB msg part parts body.length = true) (hy : (xs.filter fun x => !old_ G now x).find? (own_ peer msg) = some y) :
    addC P A G xs peer msg part parts body now g q = addOwn P A (xs.filter fun x => !old_ G now x) peer y part parts body := by unfold addC; rw [if_neg (by rw [h]; decide), hy]
theorem addC_new {P A G : Nat} {xs : List Cel} {peer : ByteArray} {msg part parts : Int} {body : List Nat} {now g q : Nat} (h : mayB msg part parts body.length = true) (hy : (xs.filter fun x => !old_ G now x).find? (own_ peer msg) = none) :
    addC P A G xs peer msg part parts body now g q = addNew P A (xs.filter fun x => !old_ G now x) peer msg part parts body now g q := by unfold addC; rw [if_neg (by rw [h]; decide), hy]
theorem add_anyC {base b P A G now n c : Nat} {w : World} {v : Value} {xs : List Cel} {peer : ByteArray} {msg part parts : Int} {Ab : Option Addr} {body : List Nat}
    (h : BufAt base w b P A G v xs) (hbase : base ≤ w.heap.size) (hb : ∀ wx, Mod (Foot_ b v xs) w wx → Bytes wx Ab n c body) (hok : ∀ x ∈ xs, EntOk x.e) (hnow : now < 2 ^ 64) (hfit : xs.length < 1000000) (hfew : (xs.filter (mine_ peer)).length < 20)
    (hP : P ≤ 9223372036854775807) (hA : A ≤ 9223372036854775807) (hn : n ≤ 1000000000) (hp1 : -9223372036854775808 ≤ parts) (hp2 : parts ≤ 9223372036854775807) :
    Calls Try.prog 12 #[.pointer (gp b), .string peer, .int .i64 msg, .int .i64 part, .int .i64 parts, .slice Ab n c, .int .u64 (now : Int)] w (fun e w' => ∃ g q, w.heap.size ≤ g ∧ AddPostC base b P A G w v xs (addC P A G xs peer msg part parts body now g q) e w') := by
  have hl : body.length = n := (hb _ (Mod.refl _ _)).2.1
  cases hm : mayB msg part parts n
  · refine (add_bad hm hn hp1 hp2).mono ?_
    rintro e w' ⟨rfl, hb'⟩
    refine ⟨w.heap.size, 0, Nat.le_refl _, ?_⟩
    rw [addC_bad (by rw [hl]; exact hm)]
    exact ⟨AddPost.bad h hb', fun okp hcl _ => hcl.step (fun x hx => hb'.block x.q (h.q_lt hx))⟩
  · have hm2 := hm
    unfold mayB at hm2
    simp only [Bool.and_eq_true, decide_eq_true_eq] at hm2
    obtain ⟨p, rfl⟩ := Int.eq_ofNat_of_zero_le (show 0 ≤ part by omega)
    obtain ⟨m, rfl⟩ := Int.eq_ofNat_of_zero_le (show 0 ≤ parts by omega)
    cases hf : (xs.filter fun x => !old_ G now x).find? (own_ peer msg) with
    | some y =>
      refine (add_own h hbase hb hok hnow (Nat.le_of_lt hfit) hfew hP hA hm rfl hf).mono ?_
      intro e w' hp
      refine ⟨w.heap.size, 0, Nat.le_refl _, ?_⟩
      rw [addC_own (by rw [hl]; exact hm) hf]
      exact hp
    | none =>
      refine (add_new h hbase hb hok hnow hfit hfew hP hA hm rfl hf).mono ?_
      rintro e w' ⟨g, q, hg, hp⟩
      refine ⟨g, q, hg, ?_⟩
      rw [addC_new (by rw [hl]; exact hm) hf]
      exact hp
theorem add_anyF {base b P A G now n c : Nat} {w : World} {v : Value} {xs : List Cel} {peer : ByteArray} {msg part parts : Int} {Ab : Option Addr} {body : List Nat}
    (h : BufAt base w b P A G v xs) (hbase : base ≤ w.heap.size) (hb : ∀ wx, Mod (Foot_ b v xs) w wx → Bytes wx Ab n c body) (hok : ∀ x ∈ xs, EntOk x.e) (hnow : now < 2 ^ 64) (hfit : xs.length < 1000000) (hfew : (xs.filter (mine_ peer)).length < 20)
    (hP : P ≤ 9223372036854775807) (hA : A ≤ 9223372036854775807) (hn : n ≤ 1000000000) (hp1 : -9223372036854775808 ≤ parts) (hp2 : parts ≤ 9223372036854775807) :
    Calls Try.prog 12 #[.pointer (gp b), .string peer, .int .i64 msg, .int .i64 part, .int .i64 parts, .slice Ab n c, .int .u64 (now : Int)] w (fun e w' => ∃ g q, w.heap.size ≤ g ∧ AddPost base b P A G w v xs (addC P A G xs peer msg part parts body now g q) e w') := by
  refine (add_anyC h hbase hb hok hnow hfit hfew hP hA hn hp1 hp2).mono ?_
  rintro e w' ⟨g, q, hg, hp⟩
  exact ⟨g, q, hg, hp.1⟩
theorem add_any {base b P A G now n c : Nat} {w : World} {v : Value} {xs : List Cel} {peer : ByteArray} {msg part parts : Int} {Ab : Option Addr} {body : List Nat}
    (h : BufAt base w b P A G v xs) (hbase : base ≤ w.heap.size) (hb : ∀ wx, Mod (Foot_ b v xs) w wx → Bytes wx Ab n c body) (hok : ∀ x ∈ xs, EntOk x.e) (hnow : now < 2 ^ 64) (hfit : xs.length < 1000000) (hfew : (xs.filter (mine_ peer)).length < 20)
    (hP : P ≤ 9223372036854775807) (hA : A ≤ 9223372036854775807) (hn : n ≤ 1000000000) (hp1 : -9223372036854775808 ≤ parts) (hp2 : parts ≤ 9223372036854775807) :
    Calls Try.prog 12 #[.pointer (gp b), .string peer, .int .i64 msg, .int .i64 part, .int .i64 parts, .slice Ab n c, .int .u64 (now : Int)] w (fun e w' => ∃ g q, AddPost base b P A G w v xs (addC P A G xs peer msg part parts body now g q) e w') := by
  refine (add_anyF h hbase hb hok hnow hfit hfew hP hA hn hp1 hp2).mono ?_
  rintro e w' ⟨g, q, _, hp⟩
  exact ⟨g, q, hp⟩
end Go.Proofs.Ytcmiajnndmaeiaa
