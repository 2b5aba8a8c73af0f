/- Texts put together: AeadPut AeadTag AeadSeal AeadOpen. -/
import Derived.Test.YtlgdplodglchaaaDoorProg
import Derived.Test.YtlgdplodglchaaaDoorGLib
import Derived.Test.YtlgdplodglchaaaDoorGPlain2
import Derived.Test.YtlgdplodglchaaaDoorGWords
import Derived.Test.YtlgdplodglchaaaDoorM3
import Derived.Test.YtlgdplodglchaaaDoorChaRst
import Derived.Test.YtlgdplodglchaaaDoorPolMac
/- The walk through aead.Tag's closure: bytes behind a row, filled up with zeros. -/
set_option linter.unusedVariables false
set_option linter.unusedSimpArgs false
namespace Go.Proofs.YtlgdplodglchaaaDoor
open Go.RowKit Go.Proofs.YtlgdplodglchaaaDoorW.PrintWords Go.Proofs.YtlgdplodglchaaaDoorW.PrintLast Go.Proofs.YtlgdplodglchaaaDoorW.PrintMore
/-- The row that stands in block g. -/
structure Held (base g : Nat) (w : World) (l : List Nat) (v : Value) : Prop where
  box : w.heap[g]? = some (.cells #[v] 40 (0, 0))
  row : OwnX (fun j => j ≠ g) .u8 5 base w v l
theorem Held.below {base g : Nat} {w w1 : World} {l : List Nat} {v : Value} (h : Held base g w l v) (hb : Below w.heap.size w w1) : Held base g w1 l v := ⟨blk_below h.box hb, h.row.below hb⟩
theorem box_cell {g : Nat} {w : World} {v : Value} {T : TypeId} (hb : w.heap[g]? = some (.cells #[v] T (0, 0))) : w.cell? ⟨g, 0, none⟩ = some v := by
  rw [blk_cell hb 0]
  rfl
theorem OwnX.far {g base e : Nat} {k : IntKind} {w : World} {v : Value} {l : List Nat} (h : OwnX (fun j => j ≠ g) k e base w v l) (i : Nat) (u : Value) : OwnX (fun j => j ≠ g) k e base (w.setCell ⟨g, i, none⟩ u) v l := by
  have h1 := Kd.R_bound h
  exact Kd.R_mono (Kd.R_step h1 (fun j hk hlt => Below.heap_setCell w ⟨g, i, none⟩ u j hk.1)) (fun j hk => hk.1)
/-- The box is written. -/
theorem Held.put {base g : Nat} {w : World} {v v1 : Value} {l1 : List Nat} (hb : w.heap[g]? = some (.cells #[v] 40 (0, 0))) (hr : OwnX (fun j => j ≠ g) .u8 5 base w v1 l1) : Held base g (w.setCell ⟨g, 0, none⟩ v1) l1 v1 :=
  ⟨by rw [blk_set hb 0 v1]; rfl, hr.far 0 v1⟩
theorem Held.cell {base g : Nat} {w : World} {l : List Nat} {v : Value} (h : Held base g w l v) : w.cell? ⟨g, 0, none⟩ = some v := by rw [blk_cell h.box 0]; rfl
/-- What a row's growth leaves, when it is put into its box. -/
def Grown2 (base g : Nat) (w0 W w1 : World) (v : Value) (l1 : List Nat) (v1 : Value) : Prop :=
  w1.cell? ⟨g, 0, none⟩ = some v ∧ w1.frozen? ⟨g, 0, none⟩ = false ∧ Held base g (w1.setCell ⟨g, 0, none⟩ v1) l1 v1 ∧ Below base w0 (w1.setCell ⟨g, 0, none⟩ v1) ∧ W.heap.size ≤ w1.heap.size ∧ (w1.setCell ⟨g, 0, none⟩ v1).cell? ⟨g, 0, none⟩ = some v1 ∧ (w1.setCell ⟨g, 0, none⟩ v1).frozen? ⟨g, 0, none⟩ = false
theorem grown2 {base g : Nat} {w0 W w1 : World} {l l1 : List Nat} {v v1 : Value} (hh : Held base g W l v) (hg : base ≤ g) (ho : OwnX (fun j => j ≠ g) .u8 5 base w1 v1 l1) (hb : Below base w0 w1) (hgr : W.grownBy w1 v.ownBlock) : Grown2 base g w0 W w1 v l1 v1 := by
  have hbx := blk_grown hh.box hgr (fun e => hh.row.blk g e.symm rfl)
  have h2 := Held.put hbx ho
  exact ⟨box_cell hbx, blk_frozen hbx 0, h2, hb.setCell hg _, hgr.size, h2.cell, blk_frozen h2.box 0⟩
section
variable {P : Program} {ops : Array Oper} {rest : List Oper} {o : Oper} {a : Act} {Q : Exit → Act → World → Prop}
theorem held_row {base g : Nat} {w0 W : World} {l ys : List Nat} {v : Value} (hh : Held base g W l v) (hg : base ≤ g) (hsz : base ≤ W.heap.size) (HB : Below base w0 W) (N : Tmp) (hd' : o.dst = some N) (t : TypeId) (s x : Operand) (ho : o.op = .call { callee := .builtin .append, args := #[s, x], argTypes := #[t, t] }) (hgd : o.guard = none)
    (ht : P.underlying t = some (.slice 5)) {bytes : Nat} (hinfo : (P.info? 5).map (fun i => (i.zero, i.size, i.bytes)) = some (some (.int .u8 0), 1, bytes)) (hb0 : 0 < bytes)
    {A : Option Addr} {m c : Nat} (hs : a.eval s = v) (hx : a.eval x = .slice A m c) (hB : Bytes W A m c ys) (hl : (l.length + m) * bytes ≤ 140737488355328)
    (h : ∀ A1 n1 c1 w1, Aside0 (Grown2 base g w0 W w1 v (l ++ ys) (.slice A1 n1 c1)) → wpList P ops Q rest (a.put o.dst (.slice A1 n1 c1)) w1) :
    wpList P ops Q (o :: rest) a W := by
  refine opx_append_row (ok := fun j => j ≠ g) (k := .u8) (w0 := w0) N hd' base 5 t s x ho hgd ht hinfo hb0 v l ys A m c hs hx hB.2.1.symm hh.row (fun j hj => by have := blk_lt hh.box; omega) hB.1 HB hsz (by rw [hB.2.1]; exact hl) ?_
  intro v1 w1 h1 hb1 hgr
  obtain ⟨A1, c1, rfl, _, _⟩ := h1.own.slice
  exact h A1 _ c1 w1 ⟨grown2 hh hg h1 hb1 hgr⟩
theorem held_zeros {base g : Nat} {w0 W : World} {l : List Nat} {v : Value} (hh : Held base g W l v) (hg : base ≤ g) (hsz : base ≤ W.heap.size) (HB : Below base w0 W) (N : Tmp) (hd' : o.dst = some N) (t ti : TypeId) (s x : Operand) (ho : o.op = .call { callee := .builtin .append, args := #[s, x], argTypes := #[t, ti] }) (hgd : o.guard = none)
    (ht : P.underlying t = some (.slice 5)) {ki : IntKind} (hti : P.underlying ti = some (.int ki)) {bytes : Nat} (hinfo : (P.info? 5).map (fun i => (i.zero, i.size, i.bytes)) = some (some (.int .u8 0), 1, bytes)) (hb0 : 0 < bytes)
    (n : Nat) {kx : IntKind} (hs : a.eval s = v) (hx : a.eval x = .int kx (n : Int)) (hl : (l.length + n) * bytes ≤ 140737488355328)
    (h : ∀ A1 n1 c1 w1, Aside0 (Grown2 base g w0 W w1 v (l ++ List.replicate n 0) (.slice A1 n1 c1)) → wpList P ops Q rest (a.put o.dst (.slice A1 n1 c1)) w1) :
    wpList P ops Q (o :: rest) a W := by
  refine opx_append_zeros (ok := fun j => j ≠ g) (k := .u8) (w0 := w0) N hd' base 5 t ti s x ho hgd ht hti hinfo hb0 v l n hs hx hh.row (fun j hj => by have := blk_lt hh.box; omega) HB hsz hl ?_
  intro v1 w1 h1 hb1 hgr
  obtain ⟨A1, c1, rfl, _, _⟩ := h1.own.slice
  exact h A1 _ c1 w1 ⟨grown2 hh hg h1 hb1 hgr⟩
end
set_option maxHeartbeats 1000000 in
set_option maxRecDepth 100000 in
theorem tagput_calls {A : Option Addr} {n c base g : Nat} {l b : List Nat} {v : Value} {w0 w : World} (hh : Held base g w l v) (hb : Bytes w A n c b) (hw : Below base w0 w) (hg : base ≤ g) (hsz : base ≤ w.heap.size) (hl : l.length + n ≤ 1000000000) :
    Calls Tryd.prog 101 #[.slice A n c, .pointer (some ⟨g, 0, none⟩)] w fun e w' => e = .returned (.tuple #[]) ∧ ∃ v', Held base g w' (l ++ fillP b) v' ∧ Below base w0 w' ∧ w.heap.size ≤ w'.heap.size := by
  have hcell : w.cell? ⟨g, 0, none⟩ = some v := by rw [blk_cell hh.box 0]; rfl
  have hfr := blk_frozen hh.box 0
  have HH := hd hh
  have HB := hd hb
  have HW := hd hw
  have hgl := blk_lt hh.box
  clear hh hb hw
  go_enter Tryd.func101, Tryd.ntmps101
  have hpad := pad_and n
  have hn0 : (n : Int) ≤ 1000000000 := by omega
  have hl1 : (l.length + n) * 1 ≤ 140737488355328 := by omega
  have HL2 := hd (show ((l ++ b).length + padN n) * 1 ≤ 140737488355328 by rw [List.length_append, HB.out.2.1]; have := padN_lt n; omega)
  go_wp2_with (first
    | ((with_reducible refine gate_dst (N := 5) rfl ?_); at_builtin; refine held_row HH.out hg hsz HW.out 5 rfl 40 _ _ rfl rfl Tryd.underlying40 Tryd.infoU8 (by decide) rfl rfl HB.out hl1 ?_; intro A1 n1 c1 w1 H1; obtain ⟨hc1, hf1, _, _, _, hc2, hf2⟩ := H1.out)
    | ((with_reducible refine gate_dst (N := 11) rfl ?_); at_builtin; go_loud (refine held_zeros H1.out.2.2.1 hg (by have := H1.out.2.2.2.2.1; rw [World.size_setCell]; omega) H1.out.2.2.2.1 11 rfl 40 3 _ _ rfl rfl Tryd.underlying40 Tryd.underlying3 Tryd.infoU8 (by decide) (padN n) rfl rfl HL2.out ?_); intro A3 n3 c3 w3 H3; obtain ⟨hc3, hf3, _, _, _, hc4, hf4⟩ := H3.out))
  go_end0
  refine ⟨rfl, .slice A3 n3 c3, ?_, H3.out.2.2.2.1, ?_⟩
  · rw [fillP, HB.out.2.1, ← List.append_assoc]
    exact H3.out.2.2.1
  · have h1 := H1.out.2.2.2.2.1
    have h3 := H3.out.2.2.2.2.1
    rw [World.size_setCell] at h3 ⊢
    omega
end Go.Proofs.YtlgdplodglchaaaDoor
/- The walk through aead.Tag: its drawn region (  refine up_start [] [(0, true), (1, true), (2, true), (3, false), (4, true), (5, true)] (by kernel_rfl) rfl (by kernel_rfl) (by kernel_rfl) ?_
  have g7 := Grow.cells (show w7.drew.cell? ⟨w1.heap.size, 0, none⟩ = some (.slice A7 nt c7) from hcell7)
  replace h7 := h7.drew
  replace h32 := h32.drew
  replace hw7 := below_seq' hw7 hs9 (below_drew (Below.refl _ _))
  have hs10 : w1.heap.size ≤ w7.drew.heap.size := hs9
  generalize w7.drew = w8 at g7 h7 h32 hw7 hs10 ⊢
  refine seq_pure (i := 0) (N := some 37) (v := ?_) (a' := ?_) rfl rfl (by rfl) (fun _ _ _ h => h) ?_ ?_ ?_
  rotate_left 2
  · intro w' hg
    go_simp
    with_reducible rfl
  · simp only [Act.put, List.setIfInBounds_toArray, List.set_cons_zero, List.set_cons_succ, i64_w, i32_w]
    rfl
  refine seq_pure (i := 1) (N := some 38) (v := ?_) (a' := ?_) rfl rfl (by rfl) (fun _ _ _ h => h) ?_ ?_ ?_
  rotate_left 2
  · intro w' hg
    go_simp
    with_reducible rfl
  · simp only [Act.put, List.setIfInBounds_toArray, List.set_cons_zero, List.set_cons_succ, i64_w, i32_w]
    rfl
  refine seq_pure (i := 2) (N := some 39) (v := ?_) (a' := ?_) rfl rfl (by rfl) (fun _ _ _ h => h) ?_ ?_ ?_
  rotate_left 2
  · intro w' hg
    go_simp
    with_reducible rfl
  · simp only [Act.put, List.setIfInBounds_toArray, List.set_cons_zero, List.set_cons_succ, i64_w, i32_w]
    rfl
  refine seq_call (i := 3) (N := some 40) rfl rfl Tryd.func102 (by kernel_rfl) rfl #[.slice (some ⟨gc, 0, none⟩) 32 c1, .slice A7 nt c7] (by rfl) rfl ?_ ?_
  · simp only [List.map_toArray, List.map_cons, List.map_nil]
    rfl
  refine (mac_calls h32 h7 hnt).mono ?_
  rintro e w9 ⟨v9, rfl, ho9, hb9⟩
  refine ⟨_, rfl, fun _ => hb9, ?_⟩
  refine seq_norm (a' := ?_) ?_ ?_
  rotate_left
  · show Act.put _ (some 40) _ = _
    simp only [Act.put, List.setIfInBounds_toArray, List.set_cons_zero, List.set_cons_succ, i64_w, i32_w]
    rfl
  refine seq_pure (i := 4) (N := some 8) (v := ?_) (a' := ?_) rfl rfl (by rfl) (fun _ _ _ h => h) ?_ ?_ ?_
  rotate_left 2
  · intro w' hg
    go_simp
    with_reducible rfl
  · simp only [Act.put, List.setIfInBounds_toArray, List.set_cons_zero, List.set_cons_succ, i64_w, i32_w]
    rfl
  refine seq_pure (i := 5) (N := some 9) (v := ?_) (a' := ?_) rfl rfl (by rfl) (fun _ _ _ h => h) ?_ ?_ ?_
  rotate_left 2
  · intro w' hg
    go_simp
    with_reducible rfl
  · simp only [Act.put, List.setIfInBounds_toArray, List.set_cons_zero, List.set_cons_succ, i64_w, i32_w]
    rfl
  refine seq_done ?_) is printed by genae.py. -/
set_option linter.unusedVariables false
set_option linter.unusedSimpArgs false
namespace Go.Proofs.YtlgdplodglchaaaDoor
open Go.RowKit Go.Proofs.YtlgdplodglchaaaDoorW.PrintWords Go.Proofs.YtlgdplodglchaaaDoorW.PrintLast Go.Proofs.YtlgdplodglchaaaDoorW.PrintMore
theorem below_seq' {B : Nat} {w w1 w2 : World} (h : Below B w w1) (hB : B ≤ w1.heap.size) (k : Below w1.heap.size w1 w2) : Below B w w2 := below_then h hB k
theorem tag_none {A B C D : Option Addr} {na nb ca cb nc cc nd cd : Nat} (w : World) (h : na ≠ 32 ∨ nb ≠ 12) :
    Calls Tryd.prog 87 #[.slice A na ca, .slice B nb cb, .slice C nc cc, .slice D nd cd] w fun e w' => e = .returned (.tuple #[.slice none 0 0, .int .i64 1]) ∧ w = w' := by
  have H := hd h
  clear h
  go_enter Tryd.func87, Tryd.ntmps87
  go_wp2_with fail
  refine (block_none w H.out).mono ?_
  rintro e w' ⟨rfl, rfl⟩
  have hne := fun w => nil_eq none 0 0 w
  go_wp2
  go_ret2
  exact ⟨rfl, rfl⟩
set_option maxHeartbeats 1000000 in
set_option maxRecDepth 100000 in
theorem tag_calls {A B C D : Option Addr} {ca cb nc cc nd cd : Nat} {key nonce ad box : List Nat} {w : World} (hk : Bytes w A 32 ca key) (hn : Bytes w B 12 cb nonce) (ha : Bytes w C nc cc ad) (hb : Bytes w D nd cd box) (hpl : PlacesAt w) (hna : nc ≤ 100000000) (hnd : nd ≤ 100000000) :
    Calls Tryd.prog 87 #[.slice A 32 ca, .slice B 12 cb, .slice C nc cc, .slice D nd cd] w fun e w' => ∃ v, e = .returned (.tuple #[v, .int .i64 0]) ∧ OwnK .u8 5 w.heap.size w' v (tagN key nonce ad box) ∧ Below w.heap.size w w' := by
  go_enter Tryd.func87, Tryd.ntmps87
  go_wp2_with fail
  refine (block_calls 0 hk hn rfl (by decide) hpl).mono ?_
  rintro e w1 ⟨v, rfl, ho, hb1⟩
  obtain ⟨Ac, c1, rfl, h1⟩ := ho.bytes 64 (blockN_length _ _ _) (blockN_ok _ _ _)
  obtain ⟨gc, rfl, hgc, hgc2⟩ := ho.at_ (by decide)
  have hne := fun w => nil_eq (some ⟨gc, 0, none⟩) 64 c1 w
  go_wp2_with fail
  clear hne
  have hal := below_alloc (Below.refl w1.heap.size w1) (.cells #[.slice none 0 0] 40)
  have hs1 : w1.heap.size ≤ (w1.alloc (.cells #[.slice none 0 0] 40)).heap.size := hal.size
  have hh0 : Held w1.heap.size w1.heap.size (w1.alloc (.cells #[.slice none 0 0] 40)) [] (.slice none 0 0) := ⟨blk_new w1 _, OwnX.nil _ _ _ _ _⟩
  have HA := hd (ha.below hb1)
  have HD := hd (hb.below hb1)
  refine (tagput_calls hh0 (HA.out.below hal) hal (Nat.le_refl _) hs1 (by simp; omega)).mono ?_
  rintro e w2 ⟨rfl, v2, hh2, hw2, hs2⟩
  rw [List.nil_append] at hh2
  have hs2' := Nat.le_trans hs1 hs2
  clear hh0 hal hs1
  go_wp2_with fail
  refine (tagput_calls hh2 (HD.out.below hw2) hw2 (Nat.le_refl _) hs2' (by rw [fillP_length, HA.out.2.1]; have := padN_lt nc; omega)).mono ?_
  rintro e w3 ⟨rfl, v3, hh3, hw3, hs3⟩
  have hs3' := Nat.le_trans hs2' hs3
  have hnc : (nc : Int) ≤ 100000000 := by omega
  have hnd0 : (nd : Int) ≤ 100000000 := by omega
  have u1 := wrap_u64_small nc (by omega)
  have u2 := wrap_u64_small nd (by omega)
  clear hh2 hw2 hs2
  go_wp2_with fail
  refine (store_calls nc 8 _ rfl (by omega)).mono ?_
  rintro e w4 ⟨v4, rfl, ho4, hb4⟩
  replace ho4 : OwnK .u8 5 _ w4 v4 (storeN nc 8) := ho4
  obtain ⟨A4, c4, rfl, h4⟩ := ho4.bytes 8 (storeN_length _ _) (storeN_ok _ _)
  replace hh3 := hh3.below hb4
  replace hw3 := below_seq' hw3 hs3' hb4
  clear ho4
  go_wp2_with fail
  refine (store_calls nd 8 _ rfl (by omega)).mono ?_
  rintro e w5 ⟨v5, rfl, ho5, hb5⟩
  replace ho5 : OwnK .u8 5 _ w5 v5 (storeN nd 8) := ho5
  obtain ⟨A5, c5, rfl, h5⟩ := ho5.bytes 8 (storeN_length _ _) (storeN_ok _ _)
  have hs4 := Nat.le_trans hs3' hb4.size
  have hs5 := Nat.le_trans hs4 hb5.size
  replace hh3 := hh3.below hb5
  replace h4 := h4.below hb5
  replace hw3 := below_seq' hw3 hs4 hb5
  have hr2 := Rows2.new (t := 40) (g := w5.heap.size) (vs := [.slice A4 8 c4, .slice A5 8 c5]) (L := [storeN nc 8, storeN nd 8]) ⟨⟨_, _, _, rfl, h4⟩, ⟨_, _, _, rfl, h5⟩, trivial⟩ rfl rfl (by simp)
  have hal := below_alloc (Below.refl w5.heap.size w5) (.cells #[.slice A4 8 c4, .slice A5 8 c5] 40)
  replace hh3 := hh3.below hal
  replace hw3 := below_seq' hw3 hs5 hal
  have hs6 := Nat.le_trans hs5 hal.size
  have HR2 := hd hr2
  clear ho5 hb4 hb5 h4 h5 hr2 hs4 hs5 hs3 hs3' hal u1 u2
  go_wp2_with fail
  refine (join_calls HR2.out rfl (Nat.le_refl 2) (by simp [storeN_length])).mono ?_
  rintro e w6 ⟨v6, rfl, ho6, hb6⟩
  have hfl : ([storeN nc 8, storeN nd 8] : List (List Nat)).flatten = storeN nc 8 ++ storeN nd 8 := by simp
  rw [hfl] at ho6
  obtain ⟨A6, c6, rfl, h6⟩ := ho6.bytes 16 (by rw [List.length_append, storeN_length, storeN_length]) ((storeN_ok _ _).append (storeN_ok _ _))
  replace hh3 := hh3.below hb6
  replace hw3 := below_seq' hw3 hs6 hb6
  have hs7 := Nat.le_trans hs6 hb6.size
  clear ho6 hb6 hs6 hfl HR2
  go_wp2_with fail
  refine (tagput_calls hh3 h6 hw3 (Nat.le_refl _) hs7 (by rw [List.length_append, fillP_length, fillP_length, HA.out.2.1, HD.out.2.1]; have := padN_lt nc; have := padN_lt nd; omega)).mono ?_
  rintro e w7 ⟨rfl, v7, hh7, hw7, hs8⟩
  have hin : fillP ad ++ fillP box ++ fillP (storeN nc 8 ++ storeN nd 8) = tagIn ad box := by
    rw [tagIn, HA.out.2.1, HD.out.2.1]
    congr 1
    rw [fillP, List.length_append, storeN_length, storeN_length]
    exact List.append_nil _
  rw [hin] at hh7
  have hs9 := Nat.le_trans hs7 hs8
  obtain ⟨nt, HNT⟩ : ∃ nt, Aside0 ((tagIn ad box).length = nt) := ⟨_, ⟨rfl⟩⟩
  have hnt : nt ≤ 1000000000 := by
    have h1 := tagIn_length ad box
    rw [HNT.out, HA.out.2.1, HD.out.2.1] at h1
    omega
  obtain ⟨A7, c7, rfl, h7⟩ := hh7.row.own.bytes nt HNT.out (tagIn_ok HA.out.ok HD.out.ok)
  have hcell7 := hh7.cell
  have h32 := (h1.below hw7).take 32 (by decide)
  have hc1 := h1.2.2.1
  have i32' : (32 : Int) ≤ c1 := by omega
  clear hh3 hw3 hs7 hs8 h6 hin hnc hnd0 hh7
  go_wp2_with fail
  refine up_start [] [(0, true), (1, true), (2, true), (3, false), (4, true), (5, true)] (by kernel_rfl) rfl (by kernel_rfl) (by kernel_rfl) ?_
  have g7 := Grow.cells (show w7.drew.cell? ⟨w1.heap.size, 0, none⟩ = some (.slice A7 nt c7) from hcell7)
  replace h7 := h7.drew
  replace h32 := h32.drew
  replace hw7 := below_seq' hw7 hs9 (below_drew (Below.refl _ _))
  have hs10 : w1.heap.size ≤ w7.drew.heap.size := hs9
  generalize w7.drew = w8 at g7 h7 h32 hw7 hs10 ⊢
  refine seq_pure (i := 0) (N := some 37) (v := ?_) (a' := ?_) rfl rfl (by rfl) (fun _ _ _ h => h) ?_ ?_ ?_
  rotate_left 2
  · intro w' hg
    go_simp
    with_reducible rfl
  · simp only [Act.put, List.setIfInBounds_toArray, List.set_cons_zero, List.set_cons_succ, i64_w, i32_w]
    rfl
  refine seq_pure (i := 1) (N := some 38) (v := ?_) (a' := ?_) rfl rfl (by rfl) (fun _ _ _ h => h) ?_ ?_ ?_
  rotate_left 2
  · intro w' hg
    go_simp
    with_reducible rfl
  · simp only [Act.put, List.setIfInBounds_toArray, List.set_cons_zero, List.set_cons_succ, i64_w, i32_w]
    rfl
  refine seq_pure (i := 2) (N := some 39) (v := ?_) (a' := ?_) rfl rfl (by rfl) (fun _ _ _ h => h) ?_ ?_ ?_
  rotate_left 2
  · intro w' hg
    go_simp
    with_reducible rfl
  · simp only [Act.put, List.setIfInBounds_toArray, List.set_cons_zero, List.set_cons_succ, i64_w, i32_w]
    rfl
  refine seq_call (i := 3) (N := some 40) rfl rfl Tryd.func102 (by kernel_rfl) rfl #[.slice (some ⟨gc, 0, none⟩) 32 c1, .slice A7 nt c7] (by rfl) rfl ?_ ?_
  · simp only [List.map_toArray, List.map_cons, List.map_nil]
    rfl
  refine (mac_calls h32 h7 hnt).mono ?_
  rintro e w9 ⟨v9, rfl, ho9, hb9⟩
  refine ⟨_, rfl, fun _ => hb9, ?_⟩
  refine seq_norm (a' := ?_) ?_ ?_
  rotate_left
  · show Act.put _ (some 40) _ = _
    simp only [Act.put, List.setIfInBounds_toArray, List.set_cons_zero, List.set_cons_succ, i64_w, i32_w]
    rfl
  refine seq_pure (i := 4) (N := some 8) (v := ?_) (a' := ?_) rfl rfl (by rfl) (fun _ _ _ h => h) ?_ ?_ ?_
  rotate_left 2
  · intro w' hg
    go_simp
    with_reducible rfl
  · simp only [Act.put, List.setIfInBounds_toArray, List.set_cons_zero, List.set_cons_succ, i64_w, i32_w]
    rfl
  refine seq_pure (i := 5) (N := some 9) (v := ?_) (a' := ?_) rfl rfl (by rfl) (fun _ _ _ h => h) ?_ ?_ ?_
  rotate_left 2
  · intro w' hg
    go_simp
    with_reducible rfl
  · simp only [Act.put, List.setIfInBounds_toArray, List.set_cons_zero, List.set_cons_succ, i64_w, i32_w]
    rfl
  refine seq_done ?_
  go_wp2
  go_ret2
  exact ⟨v9, rfl, ho9.lower (Nat.le_trans hb1.size hs10), below_seq hb1 (below_seq hw7 hb9)⟩
end Go.Proofs.YtlgdplodglchaaaDoor
/- The walk through aead.Seal. -/
set_option linter.unusedVariables false
set_option linter.unusedSimpArgs false
namespace Go.Proofs.YtlgdplodglchaaaDoor
open Go.RowKit Go.Proofs.YtlgdplodglchaaaDoorW.PrintWords Go.Proofs.YtlgdplodglchaaaDoorW.PrintLast Go.Proofs.YtlgdplodglchaaaDoorW.PrintMore
theorem seal_none {A B C D : Option Addr} {na nb ca cb nc cc nd cd : Nat} (w : World) (h : na ≠ 32 ∨ nb ≠ 12) :
    Calls Tryd.prog 70 #[.slice A na ca, .slice B nb cb, .slice C nc cc, .slice D nd cd] w fun e w' => e = .returned (.tuple #[.slice none 0 0, .int .i64 1]) ∧ w = w' := by
  have H := hd h
  clear h
  go_enter Tryd.func70, Tryd.ntmps70
  go_wp2_with fail
  refine (stream_none w H.out).mono ?_
  rintro e w' ⟨rfl, rfl⟩
  go_wp2_with fail
  refine (tag_none w H.out).mono ?_
  rintro e w' ⟨rfl, rfl⟩
  go_wp2
  go_ret2
  exact ⟨rfl, rfl⟩
set_option maxHeartbeats 1000000 in
set_option maxRecDepth 100000 in
theorem seal_calls {A B C D : Option Addr} {ca cb nc cc nd cd : Nat} {key nonce ad text : List Nat} {w : World} (hk : Bytes w A 32 ca key) (hn : Bytes w B 12 cb nonce) (ha : Bytes w C nc cc ad) (hb : Bytes w D nd cd text) (hpl : PlacesAt w) (hna : nc ≤ 100000000) (hnd : nd ≤ 100000000) :
    Calls Tryd.prog 70 #[.slice A 32 ca, .slice B 12 cb, .slice C nc cc, .slice D nd cd] w fun e w' => ∃ v, e = .returned (.tuple #[v, .int .i64 0]) ∧ OwnK .u8 5 w.heap.size w' v (sealN key nonce ad text) ∧ Below w.heap.size w w' := by
  go_enter Tryd.func70, Tryd.ntmps70
  go_wp2_with fail
  refine (stream_calls 1 hk hn hb rfl (by decide) hpl (by omega)).mono ?_
  rintro e w1 ⟨v1, rfl, ho1, hb1⟩
  obtain ⟨A1, c1, rfl, h1⟩ := ho1.bytes nd (by rw [stream_length, hb.2.1]) (stream_ok _ _ _ hb.ok)
  clear ho1
  go_wp2_with fail
  refine (tag_calls (hk.below hb1) (hn.below hb1) (ha.below hb1) h1 (hpl.below hb1) hna hnd).mono ?_
  rintro e w2 ⟨v2, rfl, ho2, hb2⟩
  obtain ⟨A2, c2, rfl, h2⟩ := ho2.bytes 16 (tagN_length _ _ _ _) (tagN_ok _ _ _ _)
  replace h1 := h1.below hb2
  have hb3 := below_seq hb1 hb2
  have hr2 := Rows2.new (t := 40) (g := w2.heap.size) (vs := [.slice A1 nd c1, .slice A2 16 c2]) (L := [stream key 1 nonce text, tagN key nonce ad (stream key 1 nonce text)]) ⟨⟨_, _, _, rfl, h1⟩, ⟨_, _, _, rfl, h2⟩, trivial⟩ rfl rfl (by simp)
  have hal := below_alloc (Below.refl w2.heap.size w2) (.cells #[.slice A1 nd c1, .slice A2 16 c2] 40)
  have HR2 := hd hr2
  have HFL := hd (show ([stream key 1 nonce text, tagN key nonce ad (stream key 1 nonce text)] : List (List Nat)).flatten = sealN key nonce ad text by simp [sealN, boxN])
  have HFN := hd (show (sealN key nonce ad text).length ≤ 140737488355328 by rw [sealN_length, hb.2.1]; omega)
  have HB3 := hd (below_seq hb3 hal)
  clear hr2 h1 h2 ho2 hb1 hb2 hb3 hal
  go_wp2_with fail
  refine (join_calls HR2.out rfl (Nat.le_refl 2) (by rw [HFL.out]; exact HFN.out)).mono ?_
  rintro e w3 ⟨v3, rfl, ho3, hb4⟩
  rw [HFL.out] at ho3
  go_wp2
  go_ret2
  exact ⟨v3, rfl, ho3.lower HB3.out.size, below_seq HB3.out hb4⟩
end Go.Proofs.YtlgdplodglchaaaDoor
/- The walk through aead.Open; Seal and Open for keys and nonces of any length. -/
set_option linter.unusedVariables false
set_option linter.unusedSimpArgs false
namespace Go.Proofs.YtlgdplodglchaaaDoor
open Go.RowKit Go.Proofs.YtlgdplodglchaaaDoorW.PrintWords Go.Proofs.YtlgdplodglchaaaDoorW.PrintLast Go.Proofs.YtlgdplodglchaaaDoorW.PrintMore
attribute [local go_sem] max2_int min2_int max_two min_two max_three min_three
/-- What is opened, and the error's number. -/
def openN (key nonce ad box : List Nat) : List Nat × Nat :=
  if box.length < 16 then ([], 13) else if tagN key nonce ad (box.take (box.length - 16)) = box.drop (box.length - 16) then (boxN key nonce (box.take (box.length - 16)), 0) else ([], 10)
theorem boxN_ok (key nonce : List Nat) {text : List Nat} (h : BytesOK text) : BytesOK (boxN key nonce text) := stream_ok _ _ _ h
theorem openN_ok (key nonce ad : List Nat) {box : List Nat} (h : BytesOK box) : BytesOK (openN key nonce ad box).1 := by
  unfold openN
  split
  · exact BytesOK.nil
  · split
    · exact boxN_ok _ _ (h.take _)
    · exact BytesOK.nil
set_option maxRecDepth 100000 in
theorem open_none {A B C D : Option Addr} {na nb ca cb nc cc nd cd : Nat} {box : List Nat} (w : World) (hb : Bytes w D nd cd box) (hnd : nd ≤ 100000000) (h : na ≠ 32 ∨ nb ≠ 12) :
    Calls Tryd.prog 75 #[.slice A na ca, .slice B nb cb, .slice C nc cc, .slice D nd cd] w fun e w' => e = .returned (.tuple #[.slice none 0 0, .int .i64 1]) ∧ w = w' := by
  have H := hd h
  have hc := hb.2.2.1
  have i1 : (nd : Int) ≤ 100000000 := by omega
  have i2 : (nd : Int) ≤ cd := by omega
  clear h hb
  rcases Nat.lt_or_ge nd 16 with h16 | h16
  · have i0 : (nd : Int) < 16 := by omega
    go_enter Tryd.func75, Tryd.ntmps75
    go_wp2_with fail
    refine (tag_none w H.out).mono ?_
    rintro e w' ⟨rfl, rfl⟩
    go_wp2
    go_ret2
    exact ⟨rfl, rfl⟩
  · obtain ⟨m, rfl⟩ : ∃ m, nd = m + 16 := ⟨nd - 16, by omega⟩
    go_enter Tryd.func75, Tryd.ntmps75
    go_wp2_with fail
    refine (tag_none w H.out).mono ?_
    rintro e w' ⟨rfl, rfl⟩
    go_wp2
    go_ret2
    exact ⟨rfl, rfl⟩
set_option maxHeartbeats 1000000 in
set_option maxRecDepth 100000 in
theorem open_calls {A B C D : Option Addr} {ca cb nc cc nd cd : Nat} {key nonce ad box : List Nat} {w : World} (hk : Bytes w A 32 ca key) (hn : Bytes w B 12 cb nonce) (ha : Bytes w C nc cc ad) (hb : Bytes w D nd cd box) (hpl : PlacesAt w) (hna : nc ≤ 100000000) (hnd : nd ≤ 100000000) :
    Calls Tryd.prog 75 #[.slice A 32 ca, .slice B 12 cb, .slice C nc cc, .slice D nd cd] w fun e w' => ∃ v, e = .returned (.tuple #[v, .int .i64 ((openN key nonce ad box).2 : Nat)]) ∧ OwnK .u8 5 w.heap.size w' v (openN key nonce ad box).1 ∧ Below w.heap.size w w' := by
  have hc := hb.2.2.1
  have i1 : (nd : Int) ≤ 100000000 := by omega
  have i2 : (nd : Int) ≤ cd := by omega
  rcases Nat.lt_or_ge nd 16 with h16 | h16
  · rw [openN, if_pos (by rw [hb.2.1]; exact h16)]
    have i0 : (nd : Int) < 16 := by omega
    have hb0 := hb.take 0 (Nat.zero_le _)
    rw [List.take_zero] at hb0
    clear hb
    go_enter Tryd.func75, Tryd.ntmps75
    go_wp2_with fail
    refine (tag_calls hk hn ha hb0 hpl hna (by decide)).mono ?_
    rintro e w1 ⟨v1, rfl, ho1, hb1⟩
    go_wp2
    go_ret2
    exact ⟨_, rfl, OwnK.nil _ _ _ _, hb1⟩
  · obtain ⟨m, hm⟩ : ∃ m, nd = m + 16 := ⟨nd - 16, by omega⟩
    have hlen := hb.2.1
    have hsub : box.length - 16 = m := by omega
    have e1 : (nd : Int) - 16 = (m : Int) := by omega
    have e2 : nd - m = 16 := by omega
    have j0 : (m : Int) ≤ nd := by omega
    have j1 : (m : Int) ≤ cd := by omega
    rw [openN, if_neg (by omega), hsub]
    obtain ⟨ad0, x0, rfl, _, hcell0⟩ := hb.1.at_ 0 (by omega)
    have ht := hb.take m (by omega)
    have hdr := hb.drop m (by omega)
    rw [if_neg (by omega), e2] at hdr
    have hdr' : Bytes w (some (ad0.add m)) 16 (cd - m) (box.drop m) := hdr
    have HL := hd hlen
    have HDR := hd hdr'
    have hne : (cd = m) = False := by simp; omega
    have hmn : m ≤ 100000000 := by omega
    clear hb hdr hdr' hlen hsub hcell0 hm
    by_cases hq : tagN key nonce ad (box.take m) = box.drop m
    · rw [if_pos hq]
      have HQ := hd (beq_iff_eq.2 hq)
      clear hq
      go_enter Tryd.func75, Tryd.ntmps75
      go_wp2_with fail
      refine (tag_calls hk hn ha ht hpl hna hmn).mono ?_
      rintro e w1 ⟨v1, rfl, ho1, hb1⟩
      obtain ⟨A1, c1, rfl, h1⟩ := ho1.bytes 16 (tagN_length _ _ _ _) (tagN_ok _ _ _ _)
      clear ho1
      go_wp2_with fail
      refine (equal_calls h1 (HDR.out.below hb1) (by decide)).mono ?_
      rintro e w2 ⟨rfl, hb2⟩
      rw [HQ.out]
      have hb3 := below_seq hb1 hb2
      go_wp2_with fail
      refine (stream_calls 1 (hk.below hb3) (hn.below hb3) (ht.below hb3) rfl (by decide) (hpl.below hb3) (by omega)).mono ?_
      rintro e w3 ⟨v3, rfl, ho3, hb4⟩
      go_wp2
      go_ret2
      exact ⟨v3, rfl, ho3.lower hb3.size, below_seq hb3 hb4⟩
    · rw [if_neg hq]
      have HQ := hd (beq_eq_false_iff_ne.2 hq)
      clear hq
      go_enter Tryd.func75, Tryd.ntmps75
      go_wp2_with fail
      refine (tag_calls hk hn ha ht hpl hna hmn).mono ?_
      rintro e w1 ⟨v1, rfl, ho1, hb1⟩
      obtain ⟨A1, c1, rfl, h1⟩ := ho1.bytes 16 (tagN_length _ _ _ _) (tagN_ok _ _ _ _)
      clear ho1
      go_wp2_with fail
      refine (equal_calls h1 (HDR.out.below hb1) (by decide)).mono ?_
      rintro e w2 ⟨rfl, hb2⟩
      rw [HQ.out]
      go_wp2
      go_ret2
      exact ⟨_, rfl, OwnK.nil _ _ _ _, below_seq hb1 hb2⟩
/-! ### keys and nonces of any length -/
def sealA (key nonce ad text : List Nat) : List Nat × Nat := if key.length = 32 ∧ nonce.length = 12 then (sealN key nonce ad text, 0) else ([], 1)
def openA (key nonce ad box : List Nat) : List Nat × Nat := if key.length = 32 ∧ nonce.length = 12 then openN key nonce ad box else ([], 1)
theorem sealN_ok (key nonce ad : List Nat) {text : List Nat} (h : BytesOK text) : BytesOK (sealN key nonce ad text) := (boxN_ok _ _ h).append (tagN_ok _ _ _ _)
theorem sealA_ok (key nonce ad : List Nat) {text : List Nat} (h : BytesOK text) : BytesOK (sealA key nonce ad text).1 := by
  unfold sealA
  split
  · exact sealN_ok _ _ _ h
  · exact BytesOK.nil
theorem openA_ok (key nonce ad : List Nat) {box : List Nat} (h : BytesOK box) : BytesOK (openA key nonce ad box).1 := by
  unfold openA
  split
  · exact openN_ok _ _ _ h
  · exact BytesOK.nil
theorem seal_any {A B C D : Option Addr} {na nb ca cb nc cc nd cd : Nat} {key nonce ad text : List Nat} {w : World} (hk : Bytes w A na ca key) (hn : Bytes w B nb cb nonce) (ha : Bytes w C nc cc ad) (hb : Bytes w D nd cd text) (hpl : PlacesAt w) (hna : nc ≤ 100000000) (hnd : nd ≤ 100000000) :
    Calls Tryd.prog 70 #[.slice A na ca, .slice B nb cb, .slice C nc cc, .slice D nd cd] w fun e w' => ∃ v, e = .returned (.tuple #[v, .int .i64 ((sealA key nonce ad text).2 : Nat)]) ∧ OwnK .u8 5 w.heap.size w' v (sealA key nonce ad text).1 ∧ Below w.heap.size w w' := by
  by_cases h : na = 32 ∧ nb = 12
  · obtain ⟨rfl, rfl⟩ := h
    rw [sealA, if_pos ⟨hk.2.1, hn.2.1⟩]
    exact seal_calls hk hn ha hb hpl hna hnd
  · refine (seal_none w (by omega)).mono ?_
    rintro e w' ⟨rfl, rfl⟩
    rw [sealA, if_neg (by rw [hk.2.1, hn.2.1]; exact h)]
    exact ⟨_, rfl, OwnK.nil _ _ _ _, Below.refl _ _⟩
theorem open_any {A B C D : Option Addr} {na nb ca cb nc cc nd cd : Nat} {key nonce ad box : List Nat} {w : World} (hk : Bytes w A na ca key) (hn : Bytes w B nb cb nonce) (ha : Bytes w C nc cc ad) (hb : Bytes w D nd cd box) (hpl : PlacesAt w) (hna : nc ≤ 100000000) (hnd : nd ≤ 100000000) :
    Calls Tryd.prog 75 #[.slice A na ca, .slice B nb cb, .slice C nc cc, .slice D nd cd] w fun e w' => ∃ v, e = .returned (.tuple #[v, .int .i64 ((openA key nonce ad box).2 : Nat)]) ∧ OwnK .u8 5 w.heap.size w' v (openA key nonce ad box).1 ∧ Below w.heap.size w w' := by
  by_cases h : na = 32 ∧ nb = 12
  · obtain ⟨rfl, rfl⟩ := h
    rw [openA, if_pos ⟨hk.2.1, hn.2.1⟩]
    exact open_calls hk hn ha hb hpl hna hnd
  · refine (open_none w hb hnd (by omega)).mono ?_
    rintro e w' ⟨rfl, rfl⟩
    rw [openA, if_neg (by rw [hk.2.1, hn.2.1]; exact h)]
    exact ⟨_, rfl, OwnK.nil _ _ _ _, Below.refl _ _⟩
end Go.Proofs.YtlgdplodglchaaaDoor
