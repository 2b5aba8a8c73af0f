/- FragSplits: the walk. -/
import Derived.Test.YtcmiajnndmaeiaaFragRefS
set_option linter.unusedVariables false
set_option linter.unusedSimpArgs false
namespace Go.Proofs.Ytcmiajnndmaeiaa
open Go.RowKit Go.Proofs.YtcmiajnndmaeiaaW.PrintWords Go.Proofs.YtcmiajnndmaeiaaW.PrintLast Go.Proofs.YtcmiajnndmaeiaaW.PrintMore
theorem ok_getD {l : List Nat} (h : BytesOK l) (j : Nat) : l.getD j 0 < 256 := by
  rw [List.getD_eq_getElem?_getD]
  cases hj : l[j]? with
  | none => simp
  | some x => exact h x (List.mem_of_getElem? hj)
theorem cell_same {w w1 : World} {k : Nat} (h : w1.heap[k]? = w.heap[k]?) (i : Nat) : w1.cell? ⟨k, i, none⟩ = w.cell? ⟨k, i, none⟩ := by
  unfold World.cell?
  rw [h]
theorem frozen_same {w w1 : World} {k : Nat} (h : w1.heap[k]? = w.heap[k]?) (i : Nat) : w1.frozen? ⟨k, i, none⟩ = w.frozen? ⟨k, i, none⟩ := by
  unfold World.frozen?
  rw [h]
theorem OwnK.same {k : IntKind} {e base g n c : Nat} {w w1 : World} {l : List Nat} (h : OwnK k e base w (.slice (some ⟨g, 0, none⟩) n c) l) (hs : w1.heap[g]? = w.heap[g]?) : OwnK k e base w1 (.slice (some ⟨g, 0, none⟩) n c) l :=
  Kd.R_mono (Kd.R_step h.only (fun j hj _ => by rw [show j = g from hj]; exact hs)) (fun _ _ => trivial)
/-- Pieces, none of which is empty: each in a block of its own. -/
theorem PartsIn.open_ {base : Nat} {w : World} {v : Value} {L : List (List Nat)} (h : PartsIn base w v L) (hne : ∀ p ∈ L, 0 < p.length) (h0 : 0 < L.length) :
    ∃ (r c : Nat) (G : Nat → Nat), v = .slice (some ⟨r, 0, none⟩) L.length c ∧ L.length ≤ c ∧ base ≤ r ∧ r < w.heap.size ∧
      (∀ i, i < L.length → ∃ cg, w.cell? ⟨r, i, none⟩ = some (.slice (some ⟨G i, 0, none⟩) (L.getD i []).length cg) ∧ OwnK .u8 5 base w (.slice (some ⟨G i, 0, none⟩) (L.getD i []).length cg) (L.getD i []) ∧ BytesOK (L.getD i []) ∧ 0 < (L.getD i []).length ∧ base ≤ G i ∧ G i < w.heap.size ∧ G i ≠ r ∧ ∃ cells, w.heap[G i]? = some (.cells cells 5 (0, 0))) ∧
      ∀ i j, i < j → j < L.length → G i ≠ G j := by
  obtain ⟨ss, h1, h2, h3, h4⟩ := h.ex
  have hl := h2.length
  obtain ⟨r, c, rfl, hb, hlt, cells, hcr⟩ := Kd.R_form h1 (by omega)
  rw [hl] at h1 ⊢
  have hd : ∀ i, (hi : i < L.length) → ss.getD i (none, 0, 0) = ss[i]'(by omega) := fun i hi => by rw [List.getD_eq_getElem?_getD, List.getElem?_eq_getElem (by omega)]; rfl
  have hform : ∀ i, i < L.length → ∃ g cg, ss.getD i (none, 0, 0) = (some ⟨g, 0, none⟩, (L.getD i []).length, cg) ∧ OwnK .u8 5 base w (.slice (some ⟨g, 0, none⟩) (L.getD i []).length cg) (L.getD i []) ∧ BytesOK (L.getD i []) ∧ 0 < (L.getD i []).length := fun i hi => by
    have hp := h2.at_ i hi
    have hn : 0 < (L.getD i []).length := hne _ (by rw [List.getD_eq_getElem?_getD, List.getElem?_eq_getElem hi]; exact List.getElem_mem _)
    rcases hp with ⟨e, _⟩ | ⟨_, hok, ho⟩
    · rw [e] at hn; simp at hn
    · obtain ⟨g, hg, _, _⟩ := ho.at_ (by rw [ho.row.1]; exact hn)
      have hn2 := ho.row.1
      refine ⟨g, (ss.getD i (none, 0, 0)).2.2, ?_, ?_, hok, hn⟩
      · rw [← hg, ← hn2]
      · rw [← hg, ← hn2]; exact ho
  refine ⟨r, c, fun i => match (ss.getD i (none, 0, 0)).1 with | some ad => ad.block | none => 0, rfl, (SRow.len h1).2, hb, hlt, fun i hi => ?_, fun i j hij hj => ?_⟩
  · obtain ⟨g, cg, he, ho, hok, hn⟩ := hform i hi
    obtain ⟨s, hs, hc, _⟩ := SRow.cell h1 i hi
    rw [← hs.out, he] at hc
    have hG : (match (ss.getD i (none, 0, 0)).1 with | some ad => ad.block | none => 0) = g := by rw [he]
    simp only [hG]
    obtain ⟨inner, how, _⟩ := ho.2
    obtain ⟨cells', hcg⟩ := own_typed how g rfl
    exact ⟨cg, hc, ho, hok, hn, (ho.lt g rfl).1, (ho.lt g rfl).2, fun e => by rw [e] at hcg; exact absurd (heap_type hcg hcr) (by decide), cells', hcg⟩
  · obtain ⟨g, cg, he, _⟩ := hform i (by omega)
    obtain ⟨g', cg', he', _⟩ := hform j hj
    simp only [he, he']
    have h5 := List.pairwise_iff_getElem.1 h4 i j (by omega) (by omega) hij
    rw [← hd i (by omega), ← hd j hj, he, he'] at h5
    exact h5 _ _ rfl rfl
theorem splitF_ne {l : List Nat} : ∀ p ∈ (splitF l).1, 0 < p.length := by
  unfold splitF
  split
  · intro p hp; simp at hp
  · split
    · intro p hp; simp at hp
    · intro p hp
      simp only [pieces] at hp
      obtain ⟨i, hi, rfl⟩ := List.mem_map.1 hp
      rw [List.mem_range] at hi
      rw [List.length_take, List.length_drop]
      omega
theorem splitF_ok {l : List Nat} (h : BytesOK l) : ∀ p ∈ (splitF l).1, BytesOK p := by
  unfold splitF
  split
  · intro p hp; simp at hp
  · split
    · intro p hp; simp at hp
    · intro p hp
      simp only [pieces] at hp
      obtain ⟨i, hi, rfl⟩ := List.mem_map.1 hp
      exact (h.drop _).take _
theorem splitF_len {l : List Nat} : (splitF l).1.length ≤ 64 := by
  unfold splitF
  split
  · simp
  · split
    · simp
    · simp only [pieces, List.length_map, List.length_range]; omega
set_option maxHeartbeats 4000000 in
set_option maxRecDepth 100000 in
theorem fragSplits_walk (W : World) {A : Option Addr} {n c : Nat} {l : List Nat} (h : Bytes W A n c l) (hf : n ≤ 140737488351232) :
    Calls Try.prog 3 #[.slice A n c] W fun e w' => e = .returned (.bool true) ∧ Below W.heap.size W w' := by
  by_cases hbig : 70000 < n
  · have q1 : decide ((70000 : Int) < n) = true := by simp; omega
    clear hbig h
    go_enter Try.func3, Try.ntmps3
    go_wp2_with fail
    refine awake_calls.mono ?_
    rintro e w1 ⟨rfl, hb1⟩
    go_wp2
    go_ret
    exact ⟨rfl, hb1⟩
  have q1 : decide ((70000 : Int) < n) = false := by simp; omega
  have n9 : (n : Int) ≤ 70000 := by omega
  have N9 := hd (show n ≤ 1000000000 by omega)
  have H := hd h
  have hok := h.ok
  obtain ⟨L, HL⟩ : ∃ L, Aside0 ((splitF l).1 = L) := ⟨_, ⟨rfl⟩⟩
  obtain ⟨E, HE⟩ : ∃ E, Aside0 ((splitF l).2 = E) := ⟨_, ⟨rfl⟩⟩
  have HLN := hd (show L.length ≤ 64 by rw [← HL.out]; exact splitF_len)
  have HNE := hd (show ∀ p ∈ L, 0 < p.length by rw [← HL.out]; exact splitF_ne)
  have HOK := hd (show ∀ p ∈ L, BytesOK p by rw [← HL.out]; exact splitF_ok hok)
  obtain ⟨nl, HNL⟩ : ∃ nl, Aside0 (L.length = nl) := ⟨_, ⟨rfl⟩⟩
  clear hbig h hok hf
  go_enter Try.func3, Try.ntmps3
  go_wp2_with fail
  refine awake_calls.mono ?_
  rintro e w1 ⟨rfl, hb1⟩
  have HB1 := hd hb1
  have hstr := (H.out.below hb1).str (P := Try.prog) Try.underlying22 Try.underlying5 Try.underlying9
  obtain ⟨z, hz⟩ : ∃ z, Aside0 (strOf l = z) := ⟨_, ⟨rfl⟩⟩
  rw [hz.out] at hstr
  clear hb1
  go_wp2_with fail
  refine (split_calls (H.out.below HB1.out) N9.out).mono ?_
  rw [HL.out, HE.out]
  rintro e w2 ⟨v2, rfl, hp2, hb2⟩
  have HB2 := hd (below_seq HB1.out hb2)
  have HP2 := hd hp2
  have HS2 := hd (Nat.le_trans HB1.out.size (Nat.le_refl _))
  clear hp2 hb2 hstr
  go_wp2_with fail
  refine (refsplit_calls (H.out.below HB2.out) N9.out).mono ?_
  rw [HL.out, HE.out]
  rintro e w3 ⟨v3, rfl, hp3, hb3⟩
  have HB3 := hd (below_seq HB2.out hb3)
  have HP3 := hd (HP2.out.below hb3)
  have HT3 := hd hp3
  have HS3 := hd HB2.out.size
  clear hp3 hb3 HP2
  by_cases h0 : nl = 0
  · obtain ⟨A2, c2, rfl⟩ : ∃ A2 c2, v2 = .slice A2 0 c2 := by
      obtain ⟨ss, r1, r2, _, _⟩ := HP3.out.ex
      obtain ⟨A2, c2, he, _⟩ := Kd.R_reads r1
      have h4 := r2.length
      rw [HNL.out, h0] at h4
      rw [h4] at he
      exact ⟨A2, c2, he⟩
    obtain ⟨A3, c3, rfl⟩ : ∃ A3 c3, v3 = .slice A3 0 c3 := by
      obtain ⟨A3, c3, he, _⟩ := Kd.R_reads HT3.out
      rw [List.length_map, HNL.out, h0] at he
      exact ⟨A3, c3, he⟩
    have hstr3 := (H.out.below HB3.out).str (P := Try.prog) Try.underlying22 Try.underlying5 Try.underlying9
    rw [hz.out] at hstr3
    have hb3 := HB3.out
    go_wp2
    go_loopw [9] (fun u9 wr => u9 = .int .i64 0 ∧ wr = w3) (fun _ _ => 0)
    case atStart => exact ⟨rfl, rfl⟩
    case round =>
      obtain ⟨rfl, rfl⟩ := hrel
      go_wp2
      go_ret
      exact ⟨by simp, hb3⟩
  · obtain ⟨r2, c2, G, rfl, hc2, _, hr2, hG, hGp⟩ := HP3.out.open_ HNE.out (by rw [HNL.out]; omega)
    obtain ⟨r3, c3, rfl, hc3, hr3, _⟩ := TRow.at_ HT3.out 0 (by rw [List.length_map, HNL.out]; omega)
    have hTC : ∀ i, i < nl → w3.cell? ⟨r3, i, none⟩ = some (.string (strOf (L.getD i []))) := fun i hi => by
      obtain ⟨r', c', he, _, _, hc⟩ := TRow.at_ HT3.out i (by rw [List.length_map, HNL.out]; omega)
      injection he with he _ _
      injection he with he
      injection he with he _ _
      subst he
      rw [hc, List.getD_eq_getElem?_getD, List.getElem?_map, List.getD_eq_getElem?_getD, List.getElem?_eq_getElem (by rw [HNL.out]; exact hi)]
      rfl
    obtain ⟨inner, how, _⟩ := HT3.out.2
    obtain ⟨cells3, hbt⟩ := own_typed how r3 rfl
    clear how
    rw [List.length_map] at *
    rw [HNL.out] at hc2 hc3 hG hGp ⊢
    have HGG := hd hG
    have HGP := hd hGp
    have HTC := hd hTC
    have HBT := hd (And.intro hbt hr2)
    have HSTR := hd (fun wr (hb : Below W.heap.size W wr) => by
      have := (H.out.below hb).str (P := Try.prog) Try.underlying22 Try.underlying5 Try.underlying9
      rw [hz.out] at this
      exact this)
    have hnl : (nl : Int) ≤ 64 := by have := HLN.out; have := HNL.out; omega
    have i2 : (nl : Int) ≤ c2 := by omega
    have i3 : (nl : Int) ≤ c3 := by omega
    clear hG hGp hTC hbt hr2 h0 hc2 hc3
    go_wp2
    go_loopw [9] (fun u9 wr => ∃ i : Nat, i ≤ nl ∧ u9 = .int .i64 i ∧ Aside0 (w3.heap.size ≤ wr.heap.size) ∧ Aside0 (∀ k, k < w3.heap.size → (∀ j, j < i → G j ≠ k) → wr.heap[k]? = w3.heap[k]?) ∧ Below W.heap.size W wr) (fun u9 _ => nl - (intOf u9).toNat)
    case atStart => exact ⟨0, Nat.zero_le _, rfl, ⟨Nat.le_refl _⟩, ⟨fun k _ _ => rfl⟩, HB3.out⟩
    case round =>
      obtain ⟨i, hi, rfl, hsz, hsm, hb⟩ := hrel
      by_cases hlt : i < nl
      · obtain ⟨cg, hcg, hog, hbo, hpn, hgb, hgl, hgr, _, hgt⟩ := HGG.out i hlt
        have s1 := hsm.out (G i) hgl (fun j hj => HGP.out j i hj hlt)
        have s2 := hsm.out r2 HBT.out.2 (fun j hj => (by obtain ⟨_, _, _, _, _, _, _, h7, _⟩ := HGG.out j (by omega); exact h7))
        have s3 := hsm.out r3 (blk_lt HBT.out.1) (fun j hj e => by obtain ⟨_, _, _, _, _, _, _, _, _, h7⟩ := HGG.out j (by omega); rw [e] at h7; exact absurd (heap_type h7 HBT.out.1) (by decide))
        have ho := hog.same s1
        have k3 := (cell_same s3 i).trans (HTC.out i hlt)
        have k2 := (cell_same s2 i).trans hcg
        obtain ⟨x, hx, k1, f1⟩ := ho.cellx 0 hpn
        have hxb : x < 256 := by rw [← hx.out]; exact ok_getD hbo 0
        obtain ⟨p, hp⟩ : ∃ p, Aside0 (L.getD i [] = p) := ⟨_, ⟨rfl⟩⟩
        obtain ⟨g, hg⟩ : ∃ g, Aside0 (G i = g) := ⟨_, ⟨rfl⟩⟩
        rw [hp.out] at k2 k3 ho hbo hpn
        rw [hg.out] at k1 k2 f1 ho
        obtain ⟨pn, hpl⟩ : ∃ pn, Aside0 (p.length = pn) := ⟨_, ⟨rfl⟩⟩
        rw [hpl.out] at k2 hpn ho
        have hby : Bytes wr (some ⟨g, 0, none⟩) pn cg p := ⟨ho.row.2.2, hpl.out, by rw [ho.row.1]; exact ho.row.2.1, hbo⟩
        obtain ⟨zi, hzi⟩ : ∃ zi, Aside0 (strOf p = zi) := ⟨_, ⟨rfl⟩⟩
        rw [hzi.out] at k3
        obtain ⟨y, hy⟩ : ∃ y, Aside0 (x ^^^ 255 = y) := ⟨_, ⟨rfl⟩⟩
        have fxor : bits .xor .u8 (x : Int) 255 = (y : Int) := by rw [← hy.out]; exact xor_u8 hxb (by decide)
        have i4 : (i : Int) < nl := by omega
        have i5 : (0 : Int) < pn := by omega
        have i6 : (pn : Int) ≤ cg := by have := hby.2.2.1; omega
        have HBY := hd hby
        have HBW := hd hb
        clear s1 s2 s3 ho hog hcg hbo hgb hgl hgr hgt hby hxb
        go_wp2
        refine up_start [] [(0, true), (1, true), (2, true), (3, true), (4, true), (5, true), (6, true), (7, true), (8, true), (9, true)] (by kernel_rfl) rfl (by kernel_rfl) (by kernel_rfl) ?_
        have g2 := Grow.cells (show wr.drew.cell? ⟨r2, i, none⟩ = _ from k2)
        have g3 := Grow.cells (show wr.drew.cell? ⟨r3, i, none⟩ = _ from k3)
        have gb := (HBY.out.below (below_drew (Below.refl _ _))).strs (P := Try.prog) Try.underlying22 Try.underlying5 Try.underlying9
        rw [hzi.out] at gb
        refine seq_pure (i := 0) (N := some 44) (v := ?_) (a' := ?_) rfl rfl (by rfl) (fun _ _ _ h => h) ?_ ?_ ?_
        rotate_left 2
        · intro w' hg
          go_simp
          with_reducible rfl
        · simp only [Act.put, List.setIfInBounds_toArray, List.set_cons_zero, List.set_cons_succ, i64_w, i32_w]
          rfl
        refine seq_pure (i := 1) (N := some 45) (v := ?_) (a' := ?_) rfl rfl (by rfl) (fun _ _ _ h => h) ?_ ?_ ?_
        rotate_left 2
        · intro w' hg
          go_simp
          with_reducible rfl
        · simp only [Act.put, List.setIfInBounds_toArray, List.set_cons_zero, List.set_cons_succ, i64_w, i32_w]
          rfl
        refine seq_pure (i := 2) (N := some 46) (v := ?_) (a' := ?_) rfl rfl (by rfl) (fun _ _ _ h => h) ?_ ?_ ?_
        rotate_left 2
        · intro w' hg
          go_simp
          with_reducible rfl
        · simp only [Act.put, List.setIfInBounds_toArray, List.set_cons_zero, List.set_cons_succ, i64_w, i32_w]
          rfl
        refine seq_pure (i := 3) (N := some 47) (v := ?_) (a' := ?_) rfl rfl (by rfl) (fun _ _ _ h => h) ?_ ?_ ?_
        rotate_left 2
        · intro w' hg
          go_simp
          with_reducible rfl
        · simp only [Act.put, List.setIfInBounds_toArray, List.set_cons_zero, List.set_cons_succ, i64_w, i32_w]
          rfl
        refine seq_pure (i := 4) (N := some 48) (v := ?_) (a' := ?_) rfl rfl (by rfl) (fun _ _ _ h => h) ?_ ?_ ?_
        rotate_left 2
        · intro w' hg
          go_simp
          with_reducible rfl
        · simp only [Act.put, List.setIfInBounds_toArray, List.set_cons_zero, List.set_cons_succ, i64_w, i32_w]
          rfl
        refine seq_pure (i := 5) (N := some 49) (v := ?_) (a' := ?_) rfl rfl (by rfl) (fun _ _ _ h => h) ?_ ?_ ?_
        rotate_left 2
        · intro w' hg
          go_simp
          with_reducible rfl
        · simp only [Act.put, List.setIfInBounds_toArray, List.set_cons_zero, List.set_cons_succ, i64_w, i32_w]
          rfl
        refine seq_pure (i := 6) (N := some 50) (v := ?_) (a' := ?_) rfl rfl (by rfl) (fun _ _ _ h => h) ?_ ?_ ?_
        rotate_left 2
        · intro w' hg
          go_simp
          with_reducible rfl
        · simp only [Act.put, List.setIfInBounds_toArray, List.set_cons_zero, List.set_cons_succ, i64_w, i32_w]
          rfl
        refine seq_pure (i := 7) (N := some 51) (v := ?_) (a' := ?_) rfl rfl (by rfl) (fun _ _ _ h => h) ?_ ?_ ?_
        rotate_left 2
        · intro w' hg
          go_simp
          with_reducible rfl
        · simp only [Act.put, List.setIfInBounds_toArray, List.set_cons_zero, List.set_cons_succ, i64_w, i32_w]
          rfl
        refine seq_pure (i := 8) (N := some 52) (v := ?_) (a' := ?_) rfl rfl (by rfl) (fun _ _ _ h => h) ?_ ?_ ?_
        rotate_left 2
        · intro w' hg
          go_simp
          with_reducible rfl
        · simp only [Act.put, List.setIfInBounds_toArray, List.set_cons_zero, List.set_cons_succ, i64_w, i32_w]
          rfl
        refine seq_pure (i := 9) (N := some 53) (v := ?_) (a' := ?_) rfl rfl (by rfl) (fun _ _ _ h => h) ?_ ?_ ?_
        rotate_left 2
        · intro w' hg
          go_simp
          with_reducible rfl
        · simp only [Act.put, List.setIfInBounds_toArray, List.set_cons_zero, List.set_cons_succ, i64_w, i32_w]
          rfl
        refine seq_done ?_
        clear g2 g3 gb
        go_wp2
        refine upR_start Keeps.any [12] [(0, 1), (1, 1), (2, 1), (3, 1), (4, 1), (5, 1), (6, 1), (7, 1), (8, 1), (9, 1), (10, 1), (11, 1), (12, 0)] (by kernel_rfl) rfl (by kernel_rfl) (by kernel_rfl) ?_
        have g2 := Grow.cells (show wr.drew.drew.cell? ⟨r2, i, none⟩ = _ from k2)
        have g1 := Grow.cells (show wr.drew.drew.cell? ⟨g, 0, none⟩ = _ from k1)
        have f1' : wr.drew.drew.frozen? ⟨g, 0, none⟩ = false := f1
        have HH := hd (show wr.drew.drew.heap = wr.heap from rfl)
        have HBD := hd (below_seq HBW.out (below_drew (below_drew (Below.refl _ _))))
        clear k1 k2 k3 f1
        generalize wr.drew.drew = w6 at g2 g1 f1' HH HBD ⊢
        refine rseq_pure (i := 0) (N := some 54) (v := ?_) (a' := ?_) rfl rfl (by rfl) (fun _ _ _ h => h) ?_ ?_ ?_
        rotate_left 2
        · intro w' hg
          go_simp
          with_reducible rfl
        · simp only [Act.put, List.setIfInBounds_toArray, List.set_cons_zero, List.set_cons_succ, i64_w, i32_w]
          rfl
        refine rseq_pure (i := 1) (N := some 55) (v := ?_) (a' := ?_) rfl rfl (by rfl) (fun _ _ _ h => h) ?_ ?_ ?_
        rotate_left 2
        · intro w' hg
          go_simp
          with_reducible rfl
        · simp only [Act.put, List.setIfInBounds_toArray, List.set_cons_zero, List.set_cons_succ, i64_w, i32_w]
          rfl
        refine rseq_pure (i := 2) (N := some 56) (v := ?_) (a' := ?_) rfl rfl (by rfl) (fun _ _ _ h => h) ?_ ?_ ?_
        rotate_left 2
        · intro w' hg
          go_simp
          with_reducible rfl
        · simp only [Act.put, List.setIfInBounds_toArray, List.set_cons_zero, List.set_cons_succ, i64_w, i32_w]
          rfl
        refine rseq_pure (i := 3) (N := some 57) (v := ?_) (a' := ?_) rfl rfl (by rfl) (fun _ _ _ h => h) ?_ ?_ ?_
        rotate_left 2
        · intro w' hg
          go_simp
          with_reducible rfl
        · simp only [Act.put, List.setIfInBounds_toArray, List.set_cons_zero, List.set_cons_succ, i64_w, i32_w]
          rfl
        refine rseq_pure (i := 4) (N := some 58) (v := ?_) (a' := ?_) rfl rfl (by rfl) (fun _ _ _ h => h) ?_ ?_ ?_
        rotate_left 2
        · intro w' hg
          go_simp
          with_reducible rfl
        · simp only [Act.put, List.setIfInBounds_toArray, List.set_cons_zero, List.set_cons_succ, i64_w, i32_w]
          rfl
        refine rseq_pure (i := 5) (N := some 59) (v := ?_) (a' := ?_) rfl rfl (by rfl) (fun _ _ _ h => h) ?_ ?_ ?_
        rotate_left 2
        · intro w' hg
          go_simp
          with_reducible rfl
        · simp only [Act.put, List.setIfInBounds_toArray, List.set_cons_zero, List.set_cons_succ, i64_w, i32_w]
          rfl
        refine rseq_pure (i := 6) (N := some 60) (v := ?_) (a' := ?_) rfl rfl (by rfl) (fun _ _ _ h => h) ?_ ?_ ?_
        rotate_left 2
        · intro w' hg
          go_simp
          with_reducible rfl
        · simp only [Act.put, List.setIfInBounds_toArray, List.set_cons_zero, List.set_cons_succ, i64_w, i32_w]
          rfl
        refine rseq_pure (i := 7) (N := some 61) (v := ?_) (a' := ?_) rfl rfl (by rfl) (fun _ _ _ h => h) ?_ ?_ ?_
        rotate_left 2
        · intro w' hg
          go_simp
          with_reducible rfl
        · simp only [Act.put, List.setIfInBounds_toArray, List.set_cons_zero, List.set_cons_succ, i64_w, i32_w]
          rfl
        refine rseq_pure (i := 8) (N := some 62) (v := ?_) (a' := ?_) rfl rfl (by rfl) (fun _ _ _ h => h) ?_ ?_ ?_
        rotate_left 2
        · intro w' hg
          go_simp
          with_reducible rfl
        · simp only [Act.put, List.setIfInBounds_toArray, List.set_cons_zero, List.set_cons_succ, i64_w, i32_w]
          rfl
        refine rseq_pure (i := 9) (N := some 63) (v := ?_) (a' := ?_) rfl rfl (by rfl) (fun _ _ _ h => h) ?_ ?_ ?_
        rotate_left 2
        · intro w' hg
          go_simp
          with_reducible rfl
        · simp only [Act.put, List.setIfInBounds_toArray, List.set_cons_zero, List.set_cons_succ, i64_w, i32_w]
          rfl
        refine rseq_pure (i := 10) (N := some 64) (v := ?_) (a' := ?_) rfl rfl (by rfl) (fun _ _ _ h => h) ?_ ?_ ?_
        rotate_left 2
        · intro w' hg
          go_simp
          with_reducible rfl
        · simp only [Act.put, List.setIfInBounds_toArray, List.set_cons_zero, List.set_cons_succ, i64_w, i32_w]
          rfl
        refine rseq_pure (i := 11) (N := some 65) (v := ?_) (a' := ?_) rfl rfl (by rfl) (fun _ _ _ h => h) ?_ ?_ ?_
        rotate_left 2
        · intro w' hg
          go_simp
          with_reducible rfl
        · simp only [Act.put, List.setIfInBounds_toArray, List.set_cons_zero, List.set_cons_succ, i64_w, i32_w]
          rfl
        have h1 := g1 _ (Grow.refl _)
        refine rseq_skip (i := 12) (w1 := ?_) rfl rfl (by rfl) ?_ ?_ ?_
        rotate_left
        · go_simp
          rfl
        · exact ⟨fun h => absurd (by decide) h, trivial⟩
        clear h1 g1 g2 f1'
        refine rseq_done ?_
        have HB7 := hd (HBD.out.setCell (p := ⟨g, 0, none⟩) (by have h1 := HGG.out i hlt; obtain ⟨_, _, _, _, _, h7, _⟩ := h1; rw [hg.out] at h7; exact Nat.le_trans HS2.out h7) (.int .u8 (y : Int)))
        have HW := hd (show w3.heap.size ≤ (w6.setCell ⟨g, 0, none⟩ (.int .u8 (y : Int))).heap.size ∧ ∀ k, k < w3.heap.size → (∀ j, j < i + 1 → G j ≠ k) → (w6.setCell ⟨g, 0, none⟩ (.int .u8 (y : Int))).heap[k]? = w3.heap[k]? from
          ⟨by simp [HH.out]; exact hsz.out, fun k hk hj => by
            have h1 := Below.heap_setCell w6 ⟨g, 0, none⟩ (.int .u8 (y : Int)) k (fun (e : k = g) => hj i (by omega) (by rw [hg.out, e]))
            rw [h1, HH.out]
            exact hsm.out k hk (fun j h2 => hj j (by omega))⟩)
        generalize w6.setCell ⟨g, 0, none⟩ (.int .u8 (y : Int)) = w7 at HB7 HW ⊢
        clear HH HBD
        go_wp2
        go_roundw
        case rel => exact ⟨i + 1, by omega, by go_num, ⟨HW.out.1⟩, ⟨HW.out.2⟩, HB7.out⟩
        case measure => simp [intOf]; omega
      · obtain rfl : i = nl := by omega
        have hstr := HSTR.out wr hb
        go_wp2
        go_ret
        exact ⟨by simp, hb⟩
end Go.Proofs.Ytcmiajnndmaeiaa
