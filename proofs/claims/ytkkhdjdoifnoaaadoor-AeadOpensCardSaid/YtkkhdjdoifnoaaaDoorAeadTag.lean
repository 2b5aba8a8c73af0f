/- The walk through aead.Tag: its drawn region (  refine up_start [] [(0, true), (1, true), (2, true), (3, false), (4, true), (5, true)] (by kernel_rfl) rfl (by kernel_rfl) (by kernel_rfl) ?_
  have g7 := Grow.cells (show w7.drew.cell? ⟨w1.heap.size, 0, none⟩ = some (.slice A7 nt c7) from hcell7)
  replace h7 := h7.drew
  replace h32 := h32.drew
  replace hw7 := below_seq' hw7 hs9 (below_drew (Below.refl _ _))
  have hs10 : w1.heap.size ≤ w7.drew.heap.size := hs9
  generalize w7.drew = w8 at g7 h7 h32 hw7 hs10 ⊢
  refine seq_pure (i := 0) (N := some 37) (v := ?_) (a' := ?_) rfl rfl (by rfl) (fun _ _ _ h => h) ?_ ?_ ?_
  rotate_left 2
  · intro w' hg
    go_simp
    with_reducible rfl
  · simp only [Act.put, List.setIfInBounds_toArray, List.set_cons_zero, List.set_cons_succ, i64_w, i32_w]
    rfl
  refine seq_pure (i := 1) (N := some 38) (v := ?_) (a' := ?_) rfl rfl (by rfl) (fun _ _ _ h => h) ?_ ?_ ?_
  rotate_left 2
  · intro w' hg
    go_simp
    with_reducible rfl
  · simp only [Act.put, List.setIfInBounds_toArray, List.set_cons_zero, List.set_cons_succ, i64_w, i32_w]
    rfl
  refine seq_pure (i := 2) (N := some 39) (v := ?_) (a' := ?_) rfl rfl (by rfl) (fun _ _ _ h => h) ?_ ?_ ?_
  rotate_left 2
  · intro w' hg
    go_simp
    with_reducible rfl
  · simp only [Act.put, List.setIfInBounds_toArray, List.set_cons_zero, List.set_cons_succ, i64_w, i32_w]
    rfl
  refine seq_call (i := 3) (N := some 40) rfl rfl Tryd.func22 (by kernel_rfl) rfl #[.slice (some ⟨gc, 0, none⟩) 32 c1, .slice A7 nt c7] (by rfl) rfl ?_ ?_
  · simp only [List.map_toArray, List.map_cons, List.map_nil]
    rfl
  refine (mac_calls h32 h7 hnt).mono ?_
  rintro e w9 ⟨v9, rfl, ho9, hb9⟩
  refine ⟨_, rfl, fun _ => hb9, ?_⟩
  refine seq_norm (a' := ?_) ?_ ?_
  rotate_left
  · show Act.put _ (some 40) _ = _
    simp only [Act.put, List.setIfInBounds_toArray, List.set_cons_zero, List.set_cons_succ, i64_w, i32_w]
    rfl
  refine seq_pure (i := 4) (N := some 8) (v := ?_) (a' := ?_) rfl rfl (by rfl) (fun _ _ _ h => h) ?_ ?_ ?_
  rotate_left 2
  · intro w' hg
    go_simp
    with_reducible rfl
  · simp only [Act.put, List.setIfInBounds_toArray, List.set_cons_zero, List.set_cons_succ, i64_w, i32_w]
    rfl
  refine seq_pure (i := 5) (N := some 9) (v := ?_) (a' := ?_) rfl rfl (by rfl) (fun _ _ _ h => h) ?_ ?_ ?_
  rotate_left 2
  · intro w' hg
    go_simp
    with_reducible rfl
  · simp only [Act.put, List.setIfInBounds_toArray, List.set_cons_zero, List.set_cons_succ, i64_w, i32_w]
    rfl
  refine seq_done ?_) is printed by genae.py. -/
import Derived.Test.YtkkhdjdoifnoaaaDoorAeadPut
import Derived.Test.YtkkhdjdoifnoaaaDoorChaAny
import Derived.Test.YtkkhdjdoifnoaaaDoorGPolA
import Derived.Test.YtkkhdjdoifnoaaaDoorGWords
import Derived.Test.YtkkhdjdoifnoaaaDoorPolMac
set_option linter.unusedVariables false
set_option linter.unusedSimpArgs false
namespace Go.Proofs.YtkkhdjdoifnoaaaDoor
open Go.RowKit Go.Proofs.YtkkhdjdoifnoaaaDoorW.PrintWords Go.Proofs.YtkkhdjdoifnoaaaDoorW.PrintLast Go.Proofs.YtkkhdjdoifnoaaaDoorW.PrintMore
theorem below_seq' {B : Nat} {w w1 w2 : World} (h : Below B w w1) (hB : B ≤ w1.heap.size) (k : Below w1.heap.size w1 w2) : Below B w w2 := below_then h hB k
theorem tag_none {A B C D : Option Addr} {na nb ca cb nc cc nd cd : Nat} (w : World) (h : na ≠ 32 ∨ nb ≠ 12) :
    Calls Tryd.prog 11 #[.slice A na ca, .slice B nb cb, .slice C nc cc, .slice D nd cd] w fun e w' => e = .returned (.tuple #[.slice none 0 0, .int .i64 1]) ∧ w = w' := by
  have H := hd h
  clear h
  go_enter Tryd.func11, Tryd.ntmps11
  go_wp2_with fail
  refine (block_none w H.out).mono ?_
  rintro e w' ⟨rfl, rfl⟩
  have hne := fun w => nil_eq none 0 0 w
  go_wp2
  go_ret2
  exact ⟨rfl, rfl⟩
set_option maxHeartbeats 1000000 in
set_option maxRecDepth 100000 in
theorem tag_calls {A B C D : Option Addr} {ca cb nc cc nd cd : Nat} {key nonce ad box : List Nat} {w : World} (hk : Bytes w A 32 ca key) (hn : Bytes w B 12 cb nonce) (ha : Bytes w C nc cc ad) (hb : Bytes w D nd cd box) (hpl : PlacesAt w) (hna : nc ≤ 100000000) (hnd : nd ≤ 100000000) :
    Calls Tryd.prog 11 #[.slice A 32 ca, .slice B 12 cb, .slice C nc cc, .slice D nd cd] w fun e w' => ∃ v, e = .returned (.tuple #[v, .int .i64 0]) ∧ OwnK .u8 5 w.heap.size w' v (tagN key nonce ad box) ∧ Below w.heap.size w w' := by
  go_enter Tryd.func11, Tryd.ntmps11
  go_wp2_with fail
  refine (block_calls 0 hk hn rfl (by decide) hpl).mono ?_
  rintro e w1 ⟨v, rfl, ho, hb1⟩
  obtain ⟨Ac, c1, rfl, h1⟩ := ho.bytes 64 (blockN_length _ _ _) (blockN_ok _ _ _)
  obtain ⟨gc, rfl, hgc, hgc2⟩ := ho.at_ (by decide)
  have hne := fun w => nil_eq (some ⟨gc, 0, none⟩) 64 c1 w
  go_wp2_with fail
  clear hne
  have hal := below_alloc (Below.refl w1.heap.size w1) (.cells #[.slice none 0 0] 22)
  have hs1 : w1.heap.size ≤ (w1.alloc (.cells #[.slice none 0 0] 22)).heap.size := hal.size
  have hh0 : Held w1.heap.size w1.heap.size (w1.alloc (.cells #[.slice none 0 0] 22)) [] (.slice none 0 0) := ⟨blk_new w1 _, OwnX.nil _ _ _ _ _⟩
  have HA := hd (ha.below hb1)
  have HD := hd (hb.below hb1)
  refine (tagput_calls hh0 (HA.out.below hal) hal (Nat.le_refl _) hs1 (by simp; omega)).mono ?_
  rintro e w2 ⟨rfl, v2, hh2, hw2, hs2⟩
  rw [List.nil_append] at hh2
  have hs2' := Nat.le_trans hs1 hs2
  clear hh0 hal hs1
  go_wp2_with fail
  refine (tagput_calls hh2 (HD.out.below hw2) hw2 (Nat.le_refl _) hs2' (by rw [fillP_length, HA.out.2.1]; have := padN_lt nc; omega)).mono ?_
  rintro e w3 ⟨rfl, v3, hh3, hw3, hs3⟩
  have hs3' := Nat.le_trans hs2' hs3
  have hnc : (nc : Int) ≤ 100000000 := by omega
  have hnd0 : (nd : Int) ≤ 100000000 := by omega
  have u1 := wrap_u64_small nc (by omega)
  have u2 := wrap_u64_small nd (by omega)
  clear hh2 hw2 hs2
  go_wp2_with fail
  refine (store_calls nc 8 _ rfl (by omega)).mono ?_
  rintro e w4 ⟨v4, rfl, ho4, hb4⟩
  replace ho4 : OwnK .u8 5 _ w4 v4 (storeN nc 8) := ho4
  obtain ⟨A4, c4, rfl, h4⟩ := ho4.bytes 8 (storeN_length _ _) (storeN_ok _ _)
  replace hh3 := hh3.below hb4
  replace hw3 := below_seq' hw3 hs3' hb4
  clear ho4
  go_wp2_with fail
  refine (store_calls nd 8 _ rfl (by omega)).mono ?_
  rintro e w5 ⟨v5, rfl, ho5, hb5⟩
  replace ho5 : OwnK .u8 5 _ w5 v5 (storeN nd 8) := ho5
  obtain ⟨A5, c5, rfl, h5⟩ := ho5.bytes 8 (storeN_length _ _) (storeN_ok _ _)
  have hs4 := Nat.le_trans hs3' hb4.size
  have hs5 := Nat.le_trans hs4 hb5.size
  replace hh3 := hh3.below hb5
  replace h4 := h4.below hb5
  replace hw3 := below_seq' hw3 hs4 hb5
  have hr2 := Rows2.new (t := 22) (g := w5.heap.size) (vs := [.slice A4 8 c4, .slice A5 8 c5]) (L := [storeN nc 8, storeN nd 8]) ⟨⟨_, _, _, rfl, h4⟩, ⟨_, _, _, rfl, h5⟩, trivial⟩ rfl rfl (by simp)
  have hal := below_alloc (Below.refl w5.heap.size w5) (.cells #[.slice A4 8 c4, .slice A5 8 c5] 22)
  replace hh3 := hh3.below hal
  replace hw3 := below_seq' hw3 hs5 hal
  have hs6 := Nat.le_trans hs5 hal.size
  have HR2 := hd hr2
  clear ho5 hb4 hb5 h4 h5 hr2 hs4 hs5 hs3 hs3' hal u1 u2
  go_wp2_with fail
  refine (join_calls HR2.out rfl (Nat.le_refl 2) (by simp [storeN_length])).mono ?_
  rintro e w6 ⟨v6, rfl, ho6, hb6⟩
  have hfl : ([storeN nc 8, storeN nd 8] : List (List Nat)).flatten = storeN nc 8 ++ storeN nd 8 := by simp
  rw [hfl] at ho6
  obtain ⟨A6, c6, rfl, h6⟩ := ho6.bytes 16 (by rw [List.length_append, storeN_length, storeN_length]) ((storeN_ok _ _).append (storeN_ok _ _))
  replace hh3 := hh3.below hb6
  replace hw3 := below_seq' hw3 hs6 hb6
  have hs7 := Nat.le_trans hs6 hb6.size
  clear ho6 hb6 hs6 hfl HR2
  go_wp2_with fail
  refine (tagput_calls hh3 h6 hw3 (Nat.le_refl _) hs7 (by rw [List.length_append, fillP_length, fillP_length, HA.out.2.1, HD.out.2.1]; have := padN_lt nc; have := padN_lt nd; omega)).mono ?_
  rintro e w7 ⟨rfl, v7, hh7, hw7, hs8⟩
  have hin : fillP ad ++ fillP box ++ fillP (storeN nc 8 ++ storeN nd 8) = tagIn ad box := by
    rw [tagIn, HA.out.2.1, HD.out.2.1]
    congr 1
    rw [fillP, List.length_append, storeN_length, storeN_length]
    exact List.append_nil _
  rw [hin] at hh7
  have hs9 := Nat.le_trans hs7 hs8
  obtain ⟨nt, HNT⟩ : ∃ nt, Aside0 ((tagIn ad box).length = nt) := ⟨_, ⟨rfl⟩⟩
  have hnt : nt ≤ 1000000000 := by
    have h1 := tagIn_length ad box
    rw [HNT.out, HA.out.2.1, HD.out.2.1] at h1
    omega
  obtain ⟨A7, c7, rfl, h7⟩ := hh7.row.own.bytes nt HNT.out (tagIn_ok HA.out.ok HD.out.ok)
  have hcell7 := hh7.cell
  have h32 := (h1.below hw7).take 32 (by decide)
  have hc1 := h1.2.2.1
  have i32' : (32 : Int) ≤ c1 := by omega
  clear hh3 hw3 hs7 hs8 h6 hin hnc hnd0 hh7
  go_wp2_with fail
  refine up_start [] [(0, true), (1, true), (2, true), (3, false), (4, true), (5, true)] (by kernel_rfl) rfl (by kernel_rfl) (by kernel_rfl) ?_
  have g7 := Grow.cells (show w7.drew.cell? ⟨w1.heap.size, 0, none⟩ = some (.slice A7 nt c7) from hcell7)
  replace h7 := h7.drew
  replace h32 := h32.drew
  replace hw7 := below_seq' hw7 hs9 (below_drew (Below.refl _ _))
  have hs10 : w1.heap.size ≤ w7.drew.heap.size := hs9
  generalize w7.drew = w8 at g7 h7 h32 hw7 hs10 ⊢
  refine seq_pure (i := 0) (N := some 37) (v := ?_) (a' := ?_) rfl rfl (by rfl) (fun _ _ _ h => h) ?_ ?_ ?_
  rotate_left 2
  · intro w' hg
    go_simp
    with_reducible rfl
  · simp only [Act.put, List.setIfInBounds_toArray, List.set_cons_zero, List.set_cons_succ, i64_w, i32_w]
    rfl
  refine seq_pure (i := 1) (N := some 38) (v := ?_) (a' := ?_) rfl rfl (by rfl) (fun _ _ _ h => h) ?_ ?_ ?_
  rotate_left 2
  · intro w' hg
    go_simp
    with_reducible rfl
  · simp only [Act.put, List.setIfInBounds_toArray, List.set_cons_zero, List.set_cons_succ, i64_w, i32_w]
    rfl
  refine seq_pure (i := 2) (N := some 39) (v := ?_) (a' := ?_) rfl rfl (by rfl) (fun _ _ _ h => h) ?_ ?_ ?_
  rotate_left 2
  · intro w' hg
    go_simp
    with_reducible rfl
  · simp only [Act.put, List.setIfInBounds_toArray, List.set_cons_zero, List.set_cons_succ, i64_w, i32_w]
    rfl
  refine seq_call (i := 3) (N := some 40) rfl rfl Tryd.func22 (by kernel_rfl) rfl #[.slice (some ⟨gc, 0, none⟩) 32 c1, .slice A7 nt c7] (by rfl) rfl ?_ ?_
  · simp only [List.map_toArray, List.map_cons, List.map_nil]
    rfl
  refine (mac_calls h32 h7 hnt).mono ?_
  rintro e w9 ⟨v9, rfl, ho9, hb9⟩
  refine ⟨_, rfl, fun _ => hb9, ?_⟩
  refine seq_norm (a' := ?_) ?_ ?_
  rotate_left
  · show Act.put _ (some 40) _ = _
    simp only [Act.put, List.setIfInBounds_toArray, List.set_cons_zero, List.set_cons_succ, i64_w, i32_w]
    rfl
  refine seq_pure (i := 4) (N := some 8) (v := ?_) (a' := ?_) rfl rfl (by rfl) (fun _ _ _ h => h) ?_ ?_ ?_
  rotate_left 2
  · intro w' hg
    go_simp
    with_reducible rfl
  · simp only [Act.put, List.setIfInBounds_toArray, List.set_cons_zero, List.set_cons_succ, i64_w, i32_w]
    rfl
  refine seq_pure (i := 5) (N := some 9) (v := ?_) (a' := ?_) rfl rfl (by rfl) (fun _ _ _ h => h) ?_ ?_ ?_
  rotate_left 2
  · intro w' hg
    go_simp
    with_reducible rfl
  · simp only [Act.put, List.setIfInBounds_toArray, List.set_cons_zero, List.set_cons_succ, i64_w, i32_w]
    rfl
  refine seq_done ?_
  go_wp2
  go_ret2
  exact ⟨v9, rfl, ho9.lower (Nat.le_trans hb1.size hs10), below_seq hb1 (below_seq hw7 hb9)⟩
end Go.Proofs.YtkkhdjdoifnoaaaDoor
