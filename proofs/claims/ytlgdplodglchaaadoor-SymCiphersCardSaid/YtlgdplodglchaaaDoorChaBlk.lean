/- The walk through chacha.Block. -/
import Derived.Test.YtlgdplodglchaaaDoorChaQ
import Derived.Test.YtlgdplodglchaaaDoorM2
import Derived.Test.YtlgdplodglchaaaDoorGLib
set_option linter.unusedVariables false
set_option linter.unusedSimpArgs false
namespace Go.Proofs.YtlgdplodglchaaaDoor
open Go.RowKit Go.Proofs.YtlgdplodglchaaaDoorW.PrintWords Go.Proofs.YtlgdplodglchaaaDoorW.PrintLast Go.Proofs.YtlgdplodglchaaaDoorW.PrintMore

/-- What the variable holds. -/
def placesCells : Array Value := #[.int .i64 0, .int .i64 4, .int .i64 8, .int .i64 12, .int .i64 1, .int .i64 5, .int .i64 9, .int .i64 13, .int .i64 2, .int .i64 6, .int .i64 10, .int .i64 14, .int .i64 3, .int .i64 7, .int .i64 11, .int .i64 15, .int .i64 0, .int .i64 5, .int .i64 10, .int .i64 15, .int .i64 1, .int .i64 6, .int .i64 11, .int .i64 12, .int .i64 2, .int .i64 7, .int .i64 8, .int .i64 13, .int .i64 3, .int .i64 4, .int .i64 9, .int .i64 14]
theorem index_places (m : Nat) (hm : m < 8) : ∃ p0 p1 p2 p3 : Nat, Aside0 (places.take (m + 1) = places.take m ++ [(p0, p1, p2, p3)]) ∧ p0 < 16 ∧ p1 < 16 ∧ p2 < 16 ∧ p3 < 16 ∧
    ∀ w', (Instr.index 166 (.agg placesCells) (.int .i64 (m : Int))).run Tryd.prog w' = .ok (.agg #[.int .i64 (p0 : Int), .int .i64 (p1 : Int), .int .i64 (p2 : Int), .int .i64 (p3 : Int)]) w' := by
  match m, hm with
  | 0, _ => exact ⟨0, 4, 8, 12, ⟨rfl⟩, by decide, by decide, by decide, by decide, fun _ => by kernel_rfl⟩
  | 1, _ => exact ⟨1, 5, 9, 13, ⟨rfl⟩, by decide, by decide, by decide, by decide, fun _ => by kernel_rfl⟩
  | 2, _ => exact ⟨2, 6, 10, 14, ⟨rfl⟩, by decide, by decide, by decide, by decide, fun _ => by kernel_rfl⟩
  | 3, _ => exact ⟨3, 7, 11, 15, ⟨rfl⟩, by decide, by decide, by decide, by decide, fun _ => by kernel_rfl⟩
  | 4, _ => exact ⟨0, 5, 10, 15, ⟨rfl⟩, by decide, by decide, by decide, by decide, fun _ => by kernel_rfl⟩
  | 5, _ => exact ⟨1, 6, 11, 12, ⟨rfl⟩, by decide, by decide, by decide, by decide, fun _ => by kernel_rfl⟩
  | 6, _ => exact ⟨2, 7, 8, 13, ⟨rfl⟩, by decide, by decide, by decide, by decide, fun _ => by kernel_rfl⟩
  | 7, _ => exact ⟨3, 4, 9, 14, ⟨rfl⟩, by decide, by decide, by decide, by decide, fun _ => by kernel_rfl⟩

/-- Four places in a block of their own. -/
structure Four (gp : Nat) (w : World) (p0 p1 p2 p3 : Nat) : Prop where
  blk : w.heap[gp]? = some (.cells #[.int .i64 (p0 : Int), .int .i64 (p1 : Int), .int .i64 (p2 : Int), .int .i64 (p3 : Int)] 165 (0, 0))
theorem Four.drew {gp : Nat} {w : World} {p0 p1 p2 p3 : Nat} (h : Four gp w p0 p1 p2 p3) : Four gp w.drew p0 p1 p2 p3 := ⟨h.blk⟩
theorem Four.at0 {gp : Nat} {w : World} {p0 p1 p2 p3 : Nat} (h : Four gp w p0 p1 p2 p3) : w.cell? ⟨gp, 0, none⟩ = some (.int .i64 (p0 : Int)) := by rw [blk_cell h.blk 0]; rfl
theorem Four.at1 {gp : Nat} {w : World} {p0 p1 p2 p3 : Nat} (h : Four gp w p0 p1 p2 p3) : w.cell? ⟨gp, 1, none⟩ = some (.int .i64 (p1 : Int)) := by rw [blk_cell h.blk 1]; rfl
theorem Four.at2 {gp : Nat} {w : World} {p0 p1 p2 p3 : Nat} (h : Four gp w p0 p1 p2 p3) : w.cell? ⟨gp, 2, none⟩ = some (.int .i64 (p2 : Int)) := by rw [blk_cell h.blk 2]; rfl
theorem Four.at3 {gp : Nat} {w : World} {p0 p1 p2 p3 : Nat} (h : Four gp w p0 p1 p2 p3) : w.cell? ⟨gp, 3, none⟩ = some (.int .i64 (p3 : Int)) := by rw [blk_cell h.blk 3]; rfl

def PlacesAt (w : World) : Prop := ∃ t fr, w.heap[0]? = some (.cells placesCells t fr)
theorem PlacesAt.below {w w1 : World} (h : PlacesAt w) (hb : Below w.heap.size w w1) : PlacesAt w1 := by
  obtain ⟨t, fr, h⟩ := h
  exact ⟨t, fr, blk_below h hb⟩

theorem block_none {A B : Option Addr} {na nb ca cb : Nat} {c : Int} (w : World) (h : na ≠ 32 ∨ nb ≠ 12) :
    Calls Tryd.prog 100 #[.slice A na ca, .int .u32 c, .slice B nb cb] w fun e w' => e = .returned (.slice none 0 0) ∧ w = w' := by
  by_cases h1 : na = 32
  · have q1 : ((na : Int) != 32) = false := by simp; omega
    have q2 : ((nb : Int) != 12) = true := by simp; omega
    clear h h1
    go_enter Tryd.func100, Tryd.ntmps100
    go_wp2
    go_ret
    exact ⟨rfl, rfl⟩
  · have q1 : ((na : Int) != 32) = true := by simp; omega
    clear h h1
    go_enter Tryd.func100, Tryd.ntmps100
    go_wp2
    go_ret
    exact ⟨rfl, rfl⟩

set_option maxHeartbeats 4000000 in
set_option maxRecDepth 100000 in
theorem block_calls {A B : Option Addr} {ca cb : Nat} {key nonce : List Nat} {ci : Int} (c : Nat) {w : World} (hk : Bytes w A 32 ca key) (hn : Bytes w B 12 cb nonce) (hci : ci = (c : Int)) (hc : c < 2 ^ 32) (hpl : PlacesAt w) :
    Calls Tryd.prog 100 #[.slice A 32 ca, .int .u32 ci, .slice B 12 cb] w fun e w' => ∃ v, e = .returned v ∧ OwnK .u8 5 w.heap.size w' v (blockN key c nonce) ∧ Below w.heap.size w w' := by
  subst hci
  go_enter Tryd.func100, Tryd.ntmps100
  go_wp2_with fail
  have hc16 := hc
  have ha0 : Arr .u32 162 w.heap.size _ (consts ++ List.replicate 8 0 ++ [c] ++ List.replicate 3 0) := Arr.new w (cs := #[.int .u32 1634760805, .int .u32 857760878, .int .u32 2036477234, .int .u32 1797285236, .int .u32 0, .int .u32 0, .int .u32 0, .int .u32 0, .int .u32 0, .int .u32 0, .int .u32 0, .int .u32 0, .int .u32 (c : Int), .int .u32 0, .int .u32 0, .int .u32 0]) rfl
  have hb0 := below_alloc (Below.refl w.heap.size w) (.cells #[.int .u32 1634760805, .int .u32 857760878, .int .u32 2036477234, .int .u32 1797285236, .int .u32 0, .int .u32 0, .int .u32 0, .int .u32 0, .int .u32 0, .int .u32 0, .int .u32 0, .int .u32 0, .int .u32 (c : Int), .int .u32 0, .int .u32 0, .int .u32 0] 162)
  have hs0 := World.size_alloc w (.cells #[.int .u32 1634760805, .int .u32 857760878, .int .u32 2036477234, .int .u32 1797285236, .int .u32 0, .int .u32 0, .int .u32 0, .int .u32 0, .int .u32 0, .int .u32 0, .int .u32 0, .int .u32 0, .int .u32 (c : Int), .int .u32 0, .int .u32 0, .int .u32 0] 162)
  generalize (w.alloc (.cells #[.int .u32 1634760805, .int .u32 857760878, .int .u32 2036477234, .int .u32 1797285236, .int .u32 0, .int .u32 0, .int .u32 0, .int .u32 0, .int .u32 0, .int .u32 0, .int .u32 0, .int .u32 0, .int .u32 (c : Int), .int .u32 0, .int .u32 0, .int .u32 0] 162)) = w1 at ha0 hb0 hs0 ⊢
  refine (put_calls ha0 (by simp [consts]) (by simp [consts]) hk hb0 (Nat.le_refl _) (by decide)).mono ?_
  rintro e w2 ⟨rfl, ha1, ho1⟩
  have hb1 := ho1.from hb0 (Nat.le_refl _)
  have HS1 := hd (ho1.size.trans hs0)
  clear ha0 hb0 hs0 ho1
  go_wp2_with fail
  refine (put_calls ha1 (by rw [putL_length]; simp [consts]) (by rw [putL_length]; simp [consts]) hn hb1 (Nat.le_refl _) (by decide)).mono ?_
  rintro e w3 ⟨rfl, ha2, ho2⟩
  have hb2 := ho2.from hb1 (Nat.le_refl _)
  have HS2 := hd (ho2.size.trans HS1.out)
  have hput : putL (putL (consts ++ List.replicate 8 0 ++ [c] ++ List.replicate 3 0) 4 key 8) 13 nonce 3 = first key c nonce := by
    simp [putL, first, words4, consts, List.range_succ]
  rw [hput] at ha2
  obtain ⟨x0, x1, x2, x3, x4, x5, x6, x7, x8, x9, x10, x11, x12, x13, x14, x15, HF⟩ : ∃ x0 x1 x2 x3 x4 x5 x6 x7 x8 x9 x10 x11 x12 x13 x14 x15, Aside0 (first key c nonce = [x0, x1, x2, x3, x4, x5, x6, x7, x8, x9, x10, x11, x12, x13, x14, x15]) := by
    have hl := first_length key c nonce
    match first key c nonce, hl with
    | [y0, y1, y2, y3, y4, y5, y6, y7, y8, y9, y10, y11, y12, y13, y14, y15], _ => exact ⟨y0, y1, y2, y3, y4, y5, y6, y7, y8, y9, y10, y11, y12, y13, y14, y15, ⟨rfl⟩⟩
  have HA2 := hd ha2
  have h7 : w3.heap[w.heap.size]? = some (.cells #[.int .u32 (x0 : Int), .int .u32 (x1 : Int), .int .u32 (x2 : Int), .int .u32 (x3 : Int), .int .u32 (x4 : Int), .int .u32 (x5 : Int), .int .u32 (x6 : Int), .int .u32 (x7 : Int), .int .u32 (x8 : Int), .int .u32 (x9 : Int), .int .u32 (x10 : Int), .int .u32 (x11 : Int), .int .u32 (x12 : Int), .int .u32 (x13 : Int), .int .u32 (x14 : Int), .int .u32 (x15 : Int)] 162 (0, 0)) := by
    have h := ha2
    unfold Arr at h
    rw [HF.out] at h
    exact h
  have H7 := hd h7
  clear ha1 hb1 HS1 hput ha2 ho2 h7
  go_wp2_with (((with_reducible refine gate_dst (N := 29) rfl ?_); refine wpList_load_row rfl 162 _ rfl w.heap.size rfl 162 _ (0, 0) _ H7.out Tryd.underlying162 rfl (by kernel_rfl) ?_))
  have ha8 : Arr .u32 162 w3.heap.size _ (first key c nonce) := Arr.new w3 (cs := #[.int .u32 (x0 : Int), .int .u32 (x1 : Int), .int .u32 (x2 : Int), .int .u32 (x3 : Int), .int .u32 (x4 : Int), .int .u32 (x5 : Int), .int .u32 (x6 : Int), .int .u32 (x7 : Int), .int .u32 (x8 : Int), .int .u32 (x9 : Int), .int .u32 (x10 : Int), .int .u32 (x11 : Int), .int .u32 (x12 : Int), .int .u32 (x13 : Int), .int .u32 (x14 : Int), .int .u32 (x15 : Int)]) (by rw [HF.out]; rfl)
  have ha7 := HA2.out.below (below_alloc (Below.refl _ _) (.cells #[.int .u32 (x0 : Int), .int .u32 (x1 : Int), .int .u32 (x2 : Int), .int .u32 (x3 : Int), .int .u32 (x4 : Int), .int .u32 (x5 : Int), .int .u32 (x6 : Int), .int .u32 (x7 : Int), .int .u32 (x8 : Int), .int .u32 (x9 : Int), .int .u32 (x10 : Int), .int .u32 (x11 : Int), .int .u32 (x12 : Int), .int .u32 (x13 : Int), .int .u32 (x14 : Int), .int .u32 (x15 : Int)] 162))
  have hb4 := below_alloc hb2 (.cells #[.int .u32 (x0 : Int), .int .u32 (x1 : Int), .int .u32 (x2 : Int), .int .u32 (x3 : Int), .int .u32 (x4 : Int), .int .u32 (x5 : Int), .int .u32 (x6 : Int), .int .u32 (x7 : Int), .int .u32 (x8 : Int), .int .u32 (x9 : Int), .int .u32 (x10 : Int), .int .u32 (x11 : Int), .int .u32 (x12 : Int), .int .u32 (x13 : Int), .int .u32 (x14 : Int), .int .u32 (x15 : Int)] 162)
  generalize (w3.alloc (.cells #[.int .u32 (x0 : Int), .int .u32 (x1 : Int), .int .u32 (x2 : Int), .int .u32 (x3 : Int), .int .u32 (x4 : Int), .int .u32 (x5 : Int), .int .u32 (x6 : Int), .int .u32 (x7 : Int), .int .u32 (x8 : Int), .int .u32 (x9 : Int), .int .u32 (x10 : Int), .int .u32 (x11 : Int), .int .u32 (x12 : Int), .int .u32 (x13 : Int), .int .u32 (x14 : Int), .int .u32 (x15 : Int)] 162)) = w4 at ha8 ha7 hb4 ⊢
  obtain ⟨gw, HGW⟩ : ∃ gw, Aside0 (w3.heap.size = gw) := ⟨_, ⟨rfl⟩⟩
  rw [HGW.out] at ha8 ⊢
  have hgw : w.heap.size < gw := by rw [← HGW.out, HS2.out]; omega
  obtain ⟨f, HFF⟩ : ∃ f, Aside0 (first key c nonce = f) := ⟨_, ⟨rfl⟩⟩
  rw [HFF.out] at ha8 ha7
  have HFL := hd (show f.length = 16 by rw [← HFF.out]; exact first_length _ _ _)
  have HFW := hd (show Words32 f by rw [← HFF.out]; exact first_ok hk.ok hc hn.ok)
  clear HF H7 HA2 hb2 HS2 HGW hc16
  go_loopw [30] (fun i wr => ∃ n : Nat, n ≤ 10 ∧ i = .int .i64 n ∧ Arr .u32 162 gw wr (dbls f n) ∧ Arr .u32 162 w.heap.size wr f ∧ Below w.heap.size w wr) (fun i _ => 10 - (intOf i).toNat)
  case atStart => exact ⟨0, Nat.zero_le _, rfl, ha8, ha7, hb4⟩
  case round =>
    obtain ⟨n, hn10, rfl, h8, h7, hb⟩ := hrel
    by_cases hlt : n < 10
    · obtain ⟨tp, fr, hp⟩ := hpl.below hb
      go_wp2_with (((with_reducible refine gate_dst (N := 32) rfl ?_); refine wpList_load_row rfl 166 _ rfl 0 rfl tp placesCells fr _ hp Tryd.underlying166 rfl (by kernel_rfl) ?_))
      clear hp ha7 ha8 hb4
      obtain ⟨wo, rfl⟩ : ∃ wo : World, wo = wr := ⟨_, rfl⟩
      go_loopw [33] (fun j wi => ∃ m : Nat, m ≤ 8 ∧ j = .int .i64 m ∧ Arr .u32 162 gw wi (qrs (dbls f n) (places.take m)) ∧ Arr .u32 162 w.heap.size wi f ∧ Below w.heap.size w wi) (fun j _ => 8 - (intOf j).toNat)
      case atStart => exact ⟨0, Nat.zero_le _, rfl, h8, h7, hb⟩
      case round =>
        clear h8 h7 hb
        obtain ⟨m, hm8, rfl, h8, h7, hb⟩ := hrel
        by_cases hlt2 : m < 8
        · obtain ⟨p0, p1, p2, p3, HPM, l0, l1, l2, l3, hidx⟩ := index_places m hlt2
          have i0 : (0 : Int) ≤ m := by omega
          have i1 : (m : Int) < 8 := by omega
          go_wp2_with fail
          have hgwlt := h8.lt
          have hF : Four wr.heap.size (wr.alloc (.cells #[.int .i64 (p0 : Int), .int .i64 (p1 : Int), .int .i64 (p2 : Int), .int .i64 (p3 : Int)] 165)) p0 p1 p2 p3 := ⟨blk_new _ _⟩
          have hal := below_alloc (Below.refl wr.heap.size wr) (.cells #[.int .i64 (p0 : Int), .int .i64 (p1 : Int), .int .i64 (p2 : Int), .int .i64 (p3 : Int)] 165)
          replace h8 := h8.below hal
          replace h7 := h7.below hal
          replace hb := below_seq hb hal
          clear hal
          obtain ⟨gp, HGP⟩ : ∃ gp, Aside0 (wr.heap.size = gp) := ⟨_, ⟨rfl⟩⟩
          have hne0 : wr.heap.size ≠ gw := by omega
          generalize (wr.alloc (.cells #[.int .i64 (p0 : Int), .int .i64 (p1 : Int), .int .i64 (p2 : Int), .int .i64 (p3 : Int)] 165)) = wq at hF h8 h7 hb ⊢
          rw [HGP.out] at hF hne0 ⊢
          have hne : (⟨gp, 0, none⟩ : Addr).block ≠ gw := hne0
          obtain ⟨s, HSS⟩ : ∃ s, Aside0 (qrs (dbls f n) (places.take m) = s) := ⟨_, ⟨rfl⟩⟩
          rw [HSS.out] at h8
          have HL := hd (show s.length = 16 by rw [← HSS.out, qrs_length, dbls_length, HFL.out])
          have HW := hd (show Words32 s by rw [← HSS.out]; exact qrs_ok _ _ (dbls_ok HFW.out n))
          have ha := h8
          have hp := hF
          clear h8 hF hgwlt hne0 i0 i1 hidx
          refine upR_start (Keeps.far gw) [31, 33, 35, 37] [(0, 1), (1, 1), (2, 2), (3, 2), (4, 2), (5, 2), (6, 2), (7, 2), (8, 1), (9, 1), (10, 1), (11, 1), (12, 1), (13, 1), (14, 1), (15, 1), (16, 1), (17, 1), (18, 1), (19, 1), (20, 1), (21, 1), (22, 1), (23, 1), (24, 0), (25, 1), (26, 1), (27, 2), (28, 2), (29, 2), (30, 1), (31, 0), (32, 1), (33, 0), (34, 1), (35, 0), (36, 1), (37, 0)] (by kernel_rfl) rfl (by kernel_rfl) (by kernel_rfl) ?_
          have h7d := h7.drew
          have harr := ha.drew
          have hpp := hp.drew
          have hb5 := hb.drew
          generalize wq.drew = w5 at h7d harr hpp hb5 ⊢
          obtain ⟨x0, X0, hx0, fx0⟩ := harr.cell p0 (by rw [HL.out]; exact l0)
          obtain ⟨x1, X1, hx1, fx1⟩ := harr.cell p1 (by rw [HL.out]; exact l1)
          obtain ⟨x2, X2, hx2, fx2⟩ := harr.cell p2 (by rw [HL.out]; exact l2)
          obtain ⟨x3, X3, hx3, fx3⟩ := harr.cell p3 (by rw [HL.out]; exact l3)
          have HX0 := hd hx0
          have gx0 := Grow.cells hx0
          have gx1 := Grow.cells hx1
          have gx2 := Grow.cells hx2
          have gx3 := Grow.cells hx3
          have c0 := hpp.at0
          have c1 := hpp.at1
          have c2 := hpp.at2
          have c3 := hpp.at3
          have gc0 := Grow.cells c0
          have gc1 := Grow.cells c1
          have gc2 := Grow.cells c2
          have gc3 := Grow.cells c3
          have fc1 := Far.cells (g := gw) c1 hne
          have fc2 := Far.cells (g := gw) c2 hne
          have fc3 := Far.cells (g := gw) c3 hne
          have j0 : (p0 : Int) < 16 := by omega
          have j1 : (p1 : Int) < 16 := by omega
          have j2 : (p2 : Int) < 16 := by omega
          have j3 : (p3 : Int) < 16 := by omega
          have k0 : (0 : Int) ≤ p0 := by omega
          have k1 : (0 : Int) ≤ p1 := by omega
          have k2 : (0 : Int) ≤ p2 := by omega
          have k3 : (0 : Int) ≤ p3 := by omega
          clear hx1 hx2 hx3 c0 c1 c2 c3 ha hp hb h7
          refine rseq_pure (i := 0) (N := some 37) (v := ?_) (a' := ?_) rfl rfl (by rfl) (fun _ _ _ h => h) ?_ ?_ ?_
          rotate_left 2
          · intro w' hg
            go_simp
            with_reducible rfl
          · simp only [Act.put, List.setIfInBounds_toArray, List.set_cons_zero, List.set_cons_succ, i64_w, i32_w]
            rfl
          refine rseq_pure (i := 1) (N := some 38) (v := ?_) (a' := ?_) rfl rfl (by rfl) (fun _ _ _ h => h) ?_ ?_ ?_
          rotate_left 2
          · intro w' hg
            go_simp
            with_reducible rfl
          · simp only [Act.put, List.setIfInBounds_toArray, List.set_cons_zero, List.set_cons_succ, i64_w, i32_w]
            rfl
          refine rseq_pure2 (i := 2) (N := some 39) (v := ?_) (a' := ?_) rfl rfl (by rfl) (fun _ _ _ h => h) ?_ ?_ ?_
          rotate_left 2
          · intro w' hg
            go_simp
            with_reducible rfl
          · simp only [Act.put, List.setIfInBounds_toArray, List.set_cons_zero, List.set_cons_succ, i64_w, i32_w]
            rfl
          refine rseq_pure2 (i := 3) (N := some 40) (v := ?_) (a' := ?_) rfl rfl (by rfl) (fun _ _ _ h => h) ?_ ?_ ?_
          rotate_left 2
          · intro w' hg
            go_simp
            with_reducible rfl
          · simp only [Act.put, List.setIfInBounds_toArray, List.set_cons_zero, List.set_cons_succ, i64_w, i32_w]
            rfl
          refine rseq_pure2 (i := 4) (N := some 41) (v := ?_) (a' := ?_) rfl rfl (by rfl) (fun _ _ _ h => h) ?_ ?_ ?_
          rotate_left 2
          · intro w' hg
            go_simp
            with_reducible rfl
          · simp only [Act.put, List.setIfInBounds_toArray, List.set_cons_zero, List.set_cons_succ, i64_w, i32_w]
            rfl
          refine rseq_pure2 (i := 5) (N := some 42) (v := ?_) (a' := ?_) rfl rfl (by rfl) (fun _ _ _ h => h) ?_ ?_ ?_
          rotate_left 2
          · intro w' hg
            go_simp
            with_reducible rfl
          · simp only [Act.put, List.setIfInBounds_toArray, List.set_cons_zero, List.set_cons_succ, i64_w, i32_w]
            rfl
          refine rseq_pure2 (i := 6) (N := some 43) (v := ?_) (a' := ?_) rfl rfl (by rfl) (fun _ _ _ h => h) ?_ ?_ ?_
          rotate_left 2
          · intro w' hg
            go_simp
            with_reducible rfl
          · simp only [Act.put, List.setIfInBounds_toArray, List.set_cons_zero, List.set_cons_succ, i64_w, i32_w]
            rfl
          refine rseq_pure2 (i := 7) (N := some 44) (v := ?_) (a' := ?_) rfl rfl (by rfl) (fun _ _ _ h => h) ?_ ?_ ?_
          rotate_left 2
          · intro w' hg
            go_simp
            with_reducible rfl
          · simp only [Act.put, List.setIfInBounds_toArray, List.set_cons_zero, List.set_cons_succ, i64_w, i32_w]
            rfl
          refine rseq_pure (i := 8) (N := some 45) (v := ?_) (a' := ?_) rfl rfl (by rfl) (fun _ _ _ h => h) ?_ ?_ ?_
          rotate_left 2
          · intro w' hg
            go_simp
            with_reducible rfl
          · simp only [Act.put, List.setIfInBounds_toArray, List.set_cons_zero, List.set_cons_succ, i64_w, i32_w]
            rfl
          refine rseq_pure (i := 9) (N := some 46) (v := ?_) (a' := ?_) rfl rfl (by rfl) (fun _ _ _ h => h) ?_ ?_ ?_
          rotate_left 2
          · intro w' hg
            go_simp
            with_reducible rfl
          · simp only [Act.put, List.setIfInBounds_toArray, List.set_cons_zero, List.set_cons_succ, i64_w, i32_w]
            rfl
          refine rseq_pure (i := 10) (N := some 47) (v := ?_) (a' := ?_) rfl rfl (by rfl) (fun _ _ _ h => h) ?_ ?_ ?_
          rotate_left 2
          · intro w' hg
            go_simp
            with_reducible rfl
          · simp only [Act.put, List.setIfInBounds_toArray, List.set_cons_zero, List.set_cons_succ, i64_w, i32_w]
            rfl
          refine rseq_pure (i := 11) (N := some 48) (v := ?_) (a' := ?_) rfl rfl (by rfl) (fun _ _ _ h => h) ?_ ?_ ?_
          rotate_left 2
          · intro w' hg
            go_simp
            with_reducible rfl
          · simp only [Act.put, List.setIfInBounds_toArray, List.set_cons_zero, List.set_cons_succ, i64_w, i32_w]
            rfl
          refine rseq_pure (i := 12) (N := some 49) (v := ?_) (a' := ?_) rfl rfl (by rfl) (fun _ _ _ h => h) ?_ ?_ ?_
          rotate_left 2
          · intro w' hg
            go_simp
            with_reducible rfl
          · simp only [Act.put, List.setIfInBounds_toArray, List.set_cons_zero, List.set_cons_succ, i64_w, i32_w]
            rfl
          refine rseq_pure (i := 13) (N := some 50) (v := ?_) (a' := ?_) rfl rfl (by rfl) (fun _ _ _ h => h) ?_ ?_ ?_
          rotate_left 2
          · intro w' hg
            go_simp
            with_reducible rfl
          · simp only [Act.put, List.setIfInBounds_toArray, List.set_cons_zero, List.set_cons_succ, i64_w, i32_w]
            rfl
          refine rseq_pure (i := 14) (N := some 51) (v := ?_) (a' := ?_) rfl rfl (by rfl) (fun _ _ _ h => h) ?_ ?_ ?_
          rotate_left 2
          · intro w' hg
            go_simp
            with_reducible rfl
          · simp only [Act.put, List.setIfInBounds_toArray, List.set_cons_zero, List.set_cons_succ, i64_w, i32_w]
            rfl
          refine rseq_pure (i := 15) (N := some 52) (v := ?_) (a' := ?_) rfl rfl (by rfl) (fun _ _ _ h => h) ?_ ?_ ?_
          rotate_left 2
          · intro w' hg
            go_simp
            with_reducible rfl
          · simp only [Act.put, List.setIfInBounds_toArray, List.set_cons_zero, List.set_cons_succ, i64_w, i32_w]
            rfl
          refine rseq_pure (i := 16) (N := some 53) (v := ?_) (a' := ?_) rfl rfl (by rfl) (fun _ _ _ h => h) ?_ ?_ ?_
          rotate_left 2
          · intro w' hg
            go_simp
            with_reducible rfl
          · simp only [Act.put, List.setIfInBounds_toArray, List.set_cons_zero, List.set_cons_succ, i64_w, i32_w]
            rfl
          refine rseq_pure (i := 17) (N := some 54) (v := ?_) (a' := ?_) rfl rfl (by rfl) (fun _ _ _ h => h) ?_ ?_ ?_
          rotate_left 2
          · intro w' hg
            go_simp
            with_reducible rfl
          · simp only [Act.put, List.setIfInBounds_toArray, List.set_cons_zero, List.set_cons_succ, i64_w, i32_w]
            rfl
          refine rseq_pure (i := 18) (N := some 55) (v := ?_) (a' := ?_) rfl rfl (by rfl) (fun _ _ _ h => h) ?_ ?_ ?_
          rotate_left 2
          · intro w' hg
            go_simp
            with_reducible rfl
          · simp only [Act.put, List.setIfInBounds_toArray, List.set_cons_zero, List.set_cons_succ, i64_w, i32_w]
            rfl
          refine rseq_pure (i := 19) (N := some 56) (v := ?_) (a' := ?_) rfl rfl (by rfl) (fun _ _ _ h => h) ?_ ?_ ?_
          rotate_left 2
          · intro w' hg
            go_simp
            with_reducible rfl
          · simp only [Act.put, List.setIfInBounds_toArray, List.set_cons_zero, List.set_cons_succ, i64_w, i32_w]
            rfl
          refine rseq_pure (i := 20) (N := some 57) (v := ?_) (a' := ?_) rfl rfl (by rfl) (fun _ _ _ h => h) ?_ ?_ ?_
          rotate_left 2
          · intro w' hg
            go_simp
            with_reducible rfl
          · simp only [Act.put, List.setIfInBounds_toArray, List.set_cons_zero, List.set_cons_succ, i64_w, i32_w]
            rfl
          refine rseq_pure (i := 21) (N := some 58) (v := ?_) (a' := ?_) rfl rfl (by rfl) (fun _ _ _ h => h) ?_ ?_ ?_
          rotate_left 2
          · intro w' hg
            go_simp
            with_reducible rfl
          · simp only [Act.put, List.setIfInBounds_toArray, List.set_cons_zero, List.set_cons_succ, i64_w, i32_w]
            rfl
          refine rseq_pure (i := 22) (N := some 59) (v := ?_) (a' := ?_) rfl rfl (by rfl) (fun _ _ _ h => h) ?_ ?_ ?_
          rotate_left 2
          · intro w' hg
            go_simp
            with_reducible rfl
          · simp only [Act.put, List.setIfInBounds_toArray, List.set_cons_zero, List.set_cons_succ, i64_w, i32_w]
            rfl
          refine rseq_pure (i := 23) (N := some 60) (v := ?_) (a' := ?_) rfl rfl (by rfl) (fun _ _ _ h => h) ?_ ?_ ?_
          rotate_left 2
          · intro w' hg
            go_simp
            with_reducible rfl
          · simp only [Act.put, List.setIfInBounds_toArray, List.set_cons_zero, List.set_cons_succ, i64_w, i32_w]
            rfl
          refine rseq_call (i := 24) (N := some 61) rfl rfl Tryd.func114 (by kernel_rfl) rfl #[.int .u32 x0, .int .u32 x1, .int .u32 x2, .int .u32 x3] (by rfl) rfl ?_ ?_
          · simp only [List.map_toArray, List.map_cons, List.map_nil]
            rfl
          refine (quarter_calls x0 x1 x2 x3 _ rfl rfl rfl rfl (by rw [← X0.out]; exact HW.out.getD _) (by rw [← X1.out]; exact HW.out.getD _) (by rw [← X2.out]; exact HW.out.getD _) (by rw [← X3.out]; exact HW.out.getD _)).mono ?_
          rintro e w6 ⟨rfl, rfl⟩
          obtain ⟨⟨y0, y1, y2, y3⟩, HY⟩ : ∃ y, Aside0 (qr x0 x1 x2 x3 = y) := ⟨_, ⟨rfl⟩⟩
          rw [HY.out]
          refine ⟨_, rfl, ⟨fun _ => Grow.refl _, (Keeps.far gw).refl _⟩, ?_⟩
          have s1 := harr.set p0 y0
          have s2 := s1.set p1 y1
          have s3 := s2.set p2 y2
          have s4 := s3.set p3 y3
          obtain ⟨z1, _, hz1, fz1⟩ := s1.cell p1 (by rw [List.length_set, HL.out]; exact l1)
          obtain ⟨z2, _, hz2, fz2⟩ := s2.cell p2 (by rw [List.length_set, List.length_set, HL.out]; exact l2)
          obtain ⟨z3, _, hz3, fz3⟩ := s3.cell p3 (by rw [List.length_set, List.length_set, List.length_set, HL.out]; exact l3)
          have S4 := hd s4
          clear s1 s2 s3 s4 gx0 gx1 gx2 gx3 gc0 gc1 gc2 gc3 fc1 fc2 fc3
          refine rseq_norm (a' := ?_) ?_ ?_
          rotate_left
          · show Act.put _ (some 61) _ = _
            simp only [Act.put, List.setIfInBounds_toArray, List.set_cons_zero, List.set_cons_succ, i64_w, i32_w]
            rfl
          refine rseq_pure (i := 25) (N := some 36) (v := ?_) (a' := ?_) rfl rfl (by rfl) (fun _ _ _ h => h) ?_ ?_ ?_
          rotate_left 2
          · intro w' hg
            go_simp
            with_reducible rfl
          · simp only [Act.put, List.setIfInBounds_toArray, List.set_cons_zero, List.set_cons_succ, i64_w, i32_w]
            rfl
          refine rseq_pure (i := 26) (N := some 62) (v := ?_) (a' := ?_) rfl rfl (by rfl) (fun _ _ _ h => h) ?_ ?_ ?_
          rotate_left 2
          · intro w' hg
            go_simp
            with_reducible rfl
          · simp only [Act.put, List.setIfInBounds_toArray, List.set_cons_zero, List.set_cons_succ, i64_w, i32_w]
            rfl
          refine rseq_pure2 (i := 27) (N := some 63) (v := ?_) (a' := ?_) rfl rfl (by rfl) (fun _ _ _ h => h) ?_ ?_ ?_
          rotate_left 2
          · intro w' hg
            go_simp
            with_reducible rfl
          · simp only [Act.put, List.setIfInBounds_toArray, List.set_cons_zero, List.set_cons_succ, i64_w, i32_w]
            rfl
          refine rseq_pure2 (i := 28) (N := some 64) (v := ?_) (a' := ?_) rfl rfl (by rfl) (fun _ _ _ h => h) ?_ ?_ ?_
          rotate_left 2
          · intro w' hg
            go_simp
            with_reducible rfl
          · simp only [Act.put, List.setIfInBounds_toArray, List.set_cons_zero, List.set_cons_succ, i64_w, i32_w]
            rfl
          refine rseq_pure2 (i := 29) (N := some 65) (v := ?_) (a' := ?_) rfl rfl (by rfl) (fun _ _ _ h => h) ?_ ?_ ?_
          rotate_left 2
          · intro w' hg
            go_simp
            with_reducible rfl
          · simp only [Act.put, List.setIfInBounds_toArray, List.set_cons_zero, List.set_cons_succ, i64_w, i32_w]
            rfl
          refine rseq_pure (i := 30) (N := some 66) (v := ?_) (a' := ?_) rfl rfl (by rfl) (fun _ _ _ h => h) ?_ ?_ ?_
          rotate_left 2
          · intro w' hg
            go_simp
            with_reducible rfl
          · simp only [Act.put, List.setIfInBounds_toArray, List.set_cons_zero, List.set_cons_succ, i64_w, i32_w]
            rfl
          refine rseq_skip (i := 31) (w1 := ?_) rfl rfl (by rfl) ?_ ?_ ?_
          rotate_left
          · go_simp
            rfl
          · exact ⟨fun h => absurd (by decide) h, Far.set gw (by rfl) _ _⟩
          refine rseq_pure (i := 32) (N := some 67) (v := ?_) (a' := ?_) rfl rfl (by rfl) (fun _ _ _ h => h) ?_ ?_ ?_
          rotate_left 2
          · intro w' hg
            go_simp
            with_reducible rfl
          · simp only [Act.put, List.setIfInBounds_toArray, List.set_cons_zero, List.set_cons_succ, i64_w, i32_w]
            rfl
          refine rseq_skip (i := 33) (w1 := ?_) rfl rfl (by rfl) ?_ ?_ ?_
          rotate_left
          · go_simp
            rfl
          · exact ⟨fun h => absurd (by decide) h, Far.set gw (by rfl) _ _⟩
          refine rseq_pure (i := 34) (N := some 68) (v := ?_) (a' := ?_) rfl rfl (by rfl) (fun _ _ _ h => h) ?_ ?_ ?_
          rotate_left 2
          · intro w' hg
            go_simp
            with_reducible rfl
          · simp only [Act.put, List.setIfInBounds_toArray, List.set_cons_zero, List.set_cons_succ, i64_w, i32_w]
            rfl
          refine rseq_skip (i := 35) (w1 := ?_) rfl rfl (by rfl) ?_ ?_ ?_
          rotate_left
          · go_simp
            rfl
          · exact ⟨fun h => absurd (by decide) h, Far.set gw (by rfl) _ _⟩
          refine rseq_pure (i := 36) (N := some 69) (v := ?_) (a' := ?_) rfl rfl (by rfl) (fun _ _ _ h => h) ?_ ?_ ?_
          rotate_left 2
          · intro w' hg
            go_simp
            with_reducible rfl
          · simp only [Act.put, List.setIfInBounds_toArray, List.set_cons_zero, List.set_cons_succ, i64_w, i32_w]
            rfl
          refine rseq_skip (i := 37) (w1 := ?_) rfl rfl (by rfl) ?_ ?_ ?_
          rotate_left
          · go_simp
            rfl
          · exact ⟨fun h => absurd (by decide) h, Far.set gw (by rfl) _ _⟩
          refine rseq_done ?_
          go_wp2
          go_roundw
          case rel =>
            refine ⟨m + 1, by omega, by go_num, ?_, ?_, ?_⟩
            · rw [HPM.out, qrs_snoc, HSS.out]
              have e : qrAt s p0 p1 p2 p3 = (((s.set p0 y0).set p1 y1).set p2 y2).set p3 y3 := by
                unfold qrAt
                simp only
                rw [X0.out, X1.out, X2.out, X3.out, HY.out]
              rw [e]
              exact S4.out
            · exact ((((h7d.far (Nat.ne_of_lt hgw) _).far (Nat.ne_of_lt hgw) _).far (Nat.ne_of_lt hgw) _).far (Nat.ne_of_lt hgw) _)
            · exact (((hb5.setCell (Nat.le_of_lt hgw) _).setCell (Nat.le_of_lt hgw) _).setCell (Nat.le_of_lt hgw) _).setCell (Nat.le_of_lt hgw) _
          case measure => simp [intOf]; omega
        · obtain rfl : m = 8 := by omega
          go_wp2
          go_roundw
          case rel => exact ⟨n + 1, by omega, by go_num, h8, h7, hb⟩
          case measure => simp [intOf]; omega
    · obtain rfl : n = 10 := by omega
      clear ha7 ha8 hb4
      obtain ⟨s8, HSS⟩ : ∃ s, Aside0 (dbls f 10 = s) := ⟨_, ⟨rfl⟩⟩
      rw [HSS.out] at h8
      have HL := hd (show s8.length = 16 by rw [← HSS.out, dbls_length, HFL.out])
      go_wp2
      go_loopw [11, 72] (fun v i wl => ∃ m : Nat, m ≤ 16 ∧ i = .int .i64 m ∧ OwnK .u8 5 (gw + 1) wl v (told s8 f m) ∧ Arr .u32 162 gw wl s8 ∧ Arr .u32 162 w.heap.size wl f ∧ Below w.heap.size w wl) (fun _ i _ => 16 - (intOf i).toNat)
      case atStart => exact ⟨0, Nat.zero_le _, rfl, OwnK.nil _ _ _ _, h8, h7, hb⟩
      case round =>
        clear h8 h7 hb
        obtain ⟨m, hm, rfl, ho, h8, h7, hb⟩ := hrel
        by_cases hlt : m < 16
        · have i0 : (0 : Int) ≤ m := by omega
          have i1 : (m : Int) < 16 := by omega
          go_wp2
          refine up_start [10] [(0, true), (1, true), (2, true), (3, true), (4, true), (5, true), (6, true), (7, true), (8, true), (9, false), (10, false), (11, true)] (by kernel_rfl) rfl (by kernel_rfl) (by kernel_rfl) ?_
          have h7d := h7.drew
          have h8d := h8.drew
          have hod := ho.below (below_drew (Below.refl _ _))
          have hbd := hb.drew
          generalize wr.drew = w5 at h7d h8d hod hbd ⊢
          obtain ⟨x, HX, hx, fx⟩ := h8d.cell m (by rw [HL.out]; exact hlt)
          obtain ⟨y, HY, hy, fy⟩ := h7d.cell m (by rw [HFL.out]; exact hlt)
          have gx := Grow.cells hx
          have gy := Grow.cells hy
          obtain ⟨s, HS⟩ : ∃ s, Aside0 ((x + y) % 2 ^ 32 = s) := ⟨_, ⟨rfl⟩⟩
          have fadd := wrap64_add32 x y
          rw [HS.out] at fadd
          have hs2 : s < 2 ^ 64 := by rw [← HS.out]; omega
          have HS2 := hd hs2
          clear ho hb h7 h8 hx hy fx fy hs2
          refine seq_pure (i := 0) (N := some 75) (v := ?_) (a' := ?_) rfl rfl (by rfl) (fun _ _ _ h => h) ?_ ?_ ?_
          rotate_left 2
          · intro w' hg
            go_simp
            with_reducible rfl
          · simp only [Act.put, List.setIfInBounds_toArray, List.set_cons_zero, List.set_cons_succ, i64_w, i32_w]
            rfl
          refine seq_pure (i := 1) (N := some 76) (v := ?_) (a' := ?_) rfl rfl (by rfl) (fun _ _ _ h => h) ?_ ?_ ?_
          rotate_left 2
          · intro w' hg
            go_simp
            with_reducible rfl
          · simp only [Act.put, List.setIfInBounds_toArray, List.set_cons_zero, List.set_cons_succ, i64_w, i32_w]
            rfl
          refine seq_pure (i := 2) (N := some 77) (v := ?_) (a' := ?_) rfl rfl (by rfl) (fun _ _ _ h => h) ?_ ?_ ?_
          rotate_left 2
          · intro w' hg
            go_simp
            with_reducible rfl
          · simp only [Act.put, List.setIfInBounds_toArray, List.set_cons_zero, List.set_cons_succ, i64_w, i32_w]
            rfl
          refine seq_pure (i := 3) (N := some 78) (v := ?_) (a' := ?_) rfl rfl (by rfl) (fun _ _ _ h => h) ?_ ?_ ?_
          rotate_left 2
          · intro w' hg
            go_simp
            with_reducible rfl
          · simp only [Act.put, List.setIfInBounds_toArray, List.set_cons_zero, List.set_cons_succ, i64_w, i32_w]
            rfl
          refine seq_pure (i := 4) (N := some 79) (v := ?_) (a' := ?_) rfl rfl (by rfl) (fun _ _ _ h => h) ?_ ?_ ?_
          rotate_left 2
          · intro w' hg
            go_simp
            with_reducible rfl
          · simp only [Act.put, List.setIfInBounds_toArray, List.set_cons_zero, List.set_cons_succ, i64_w, i32_w]
            rfl
          refine seq_pure (i := 5) (N := some 80) (v := ?_) (a' := ?_) rfl rfl (by rfl) (fun _ _ _ h => h) ?_ ?_ ?_
          rotate_left 2
          · intro w' hg
            go_simp
            with_reducible rfl
          · simp only [Act.put, List.setIfInBounds_toArray, List.set_cons_zero, List.set_cons_succ, i64_w, i32_w]
            rfl
          refine seq_pure (i := 6) (N := some 81) (v := ?_) (a' := ?_) rfl rfl (by rfl) (fun _ _ _ h => h) ?_ ?_ ?_
          rotate_left 2
          · intro w' hg
            go_simp
            with_reducible rfl
          · simp only [Act.put, List.setIfInBounds_toArray, List.set_cons_zero, List.set_cons_succ, i64_w, i32_w]
            rfl
          refine seq_pure (i := 7) (N := some 82) (v := ?_) (a' := ?_) rfl rfl (by rfl) (fun _ _ _ h => h) ?_ ?_ ?_
          rotate_left 2
          · intro w' hg
            go_simp
            with_reducible rfl
          · simp only [Act.put, List.setIfInBounds_toArray, List.set_cons_zero, List.set_cons_succ, i64_w, i32_w]
            rfl
          refine seq_pure (i := 8) (N := some 83) (v := ?_) (a' := ?_) rfl rfl (by rfl) (fun _ _ _ h => h) ?_ ?_ ?_
          rotate_left 2
          · intro w' hg
            go_simp
            with_reducible rfl
          · simp only [Act.put, List.setIfInBounds_toArray, List.set_cons_zero, List.set_cons_succ, i64_w, i32_w]
            rfl
          refine seq_call (i := 9) (N := some 84) rfl rfl Tryd.func88 (by kernel_rfl) rfl #[.int .u64 (s : Int), .int .i64 4] (by rfl) rfl ?_ ?_
          · simp only [List.map_toArray, List.map_cons, List.map_nil]
            rfl
          refine (store_calls s 4 _ rfl HS2.out).mono ?_
          rintro e w6 ⟨v, rfl, hv, hg6⟩
          obtain ⟨A6, c6, rfl, h6⟩ := hv.bytes 4 (storeN_length _ _) (storeN_ok _ _)
          replace hod := hod.below hg6
          replace hbd := below_seq hbd hg6
          refine ⟨_, rfl, fun _ => hg6, ?_⟩
          have g7 := h7d.below hg6
          have g8 := h8d.below hg6
          clear hv gx gy
          refine seq_norm (a' := ?_) ?_ ?_
          rotate_left
          · show Act.put _ (some 84) _ = _
            simp only [Act.put, List.setIfInBounds_toArray, List.set_cons_zero, List.set_cons_succ, i64_w, i32_w]
            rfl
          refine seq_step rfl (fun K hK => ?_)
          refine op_append_row_step (k := .u8) 85 (by rfl) (gw + 1) 5 40 _ _ (by rfl) (by rfl) Tryd.underlying40 Tryd.infoU8 (by decide) u11 (told s8 f m) (storeN s 4) A6 4 c6 (by rfl) (by rfl) (by rw [storeN_length]) hod h6.1 (Below.refl _ _) g8.lt (by rw [told_length, storeN_length]; omega) ?_
          intro v1 w7 ho7 hb7 hg7
          refine hK _ _ (fun h => absurd (by decide) h) ?_
          clear hK K
          refine seq_norm (a' := ?_) ?_ ?_
          rotate_left
          · show Act.put _ (some 85) _ = _
            simp only [Act.put, List.setIfInBounds_toArray, List.set_cons_zero, List.set_cons_succ, i64_w, i32_w]
            rfl
          refine seq_pure (i := 11) (N := some 11) (v := ?_) (a' := ?_) rfl rfl (by rfl) (fun _ _ _ h => h) ?_ ?_ ?_
          rotate_left 2
          · intro w' hg
            go_simp
            with_reducible rfl
          · simp only [Act.put, List.setIfInBounds_toArray, List.set_cons_zero, List.set_cons_succ, i64_w, i32_w]
            rfl
          refine seq_done ?_
          go_wp2
          go_roundw
          case rel =>
            refine ⟨m + 1, by omega, by go_num, ?_, ?_, ?_, ?_⟩
            · have e : told s8 f (m + 1) = told s8 f m ++ storeN s 4 := by rw [told, HX.out, HY.out, HS.out]
              rw [e]
              exact ho7
            · exact g8.under hb7 (Nat.lt_succ_self _)
            · exact g7.under hb7 (Nat.lt_succ_of_lt hgw)
            · exact hbd.trans (hb7.mono (by omega))
          case measure => simp [intOf]; omega
        · obtain rfl : m = 16 := by omega
          go_wp2
          go_ret
          refine ⟨_, rfl, ?_, hb⟩
          have e : blockN key c nonce = told s8 f 16 := by rw [blockN, HFF.out, HSS.out]
          rw [e]
          exact ho.lower (by omega)

end Go.Proofs.YtlgdplodglchaaaDoor
