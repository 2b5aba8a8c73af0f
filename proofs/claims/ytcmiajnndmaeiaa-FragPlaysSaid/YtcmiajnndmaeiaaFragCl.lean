/- The walks through entry.size and the closures. -/
import Derived.Test.YtcmiajnndmaeiaaFragRep
import Derived.LaidEqlPtr
import Derived.Lib.SliceRun
set_option linter.unusedVariables false
set_option linter.unusedSimpArgs false
namespace Go.Proofs.Ytcmiajnndmaeiaa
open Go.RowKit Go.Proofs.YtcmiajnndmaeiaaW.PrintWords Go.Proofs.YtcmiajnndmaeiaaW.PrintLast Go.Proofs.YtcmiajnndmaeiaaW.PrintMore
theorem nil_eq (A : Option Addr) (n c : Nat) (w : World) : (binOp .eql 22 (.slice A n c) (.slice none 0 0)).run Try.prog w = .ok (.bool A.isNone) w := Lib.run_eql_slice_nil w _ _ A n c 0 0 Try.underlying22
theorem Try.infoEnt : ∃ j, Try.prog.info? 67 = some j ∧ j.size ≠ 0 := ⟨_, rfl, by decide⟩
theorem ptr_eq {w : World} {g g' : Nat} {c c' : Array Value} (h : w.heap[g]? = some (.cells c 67 (0, 0))) (h' : w.heap[g']? = some (.cells c' 67 (0, 0))) :
    (binOp .eql 64 (.pointer (some ⟨g, 0, none⟩)) (.pointer (some ⟨g', 0, none⟩))).run Try.prog w = .ok (.bool (g == g')) w := by
  obtain ⟨j, hj, hs⟩ := Try.infoEnt
  by_cases e : g = g'
  · subst e
    rw [run_eql_ptr_same w _ Try.underlying64 hj, beq_self_eq_true]
  · rw [run_eql_ptr_other w Try.underlying64 hj hs (fun he => e (by injection he)) h h', beq_eq_false_iff_ne.2 e]
theorem ptr_ne {w : World} {g g' : Nat} {c c' : Array Value} (h : w.heap[g]? = some (.cells c 67 (0, 0))) (h' : w.heap[g']? = some (.cells c' 67 (0, 0))) :
    (binOp .neq 64 (.pointer (some ⟨g, 0, none⟩)) (.pointer (some ⟨g', 0, none⟩))).run Try.prog w = .ok (.bool (g != g')) w := by
  obtain ⟨j, hj, hs⟩ := Try.infoEnt
  by_cases e : g = g'
  · subst e
    have h : ∀ d : Nat, (Op.equalIn (d + 1) 64 (.pointer (some ⟨g, 0, none⟩)) (.pointer (some ⟨g, 0, none⟩))).run Try.prog w = .ok true w := fun d => by
      simp [Op.equalIn, run_underlying Try.underlying64, sizeOf, typeInfo, hj, run_sameAddr_same]
    simp only [binOp]
    simp [Op.equal, Op.maxDepth, h 9999]
  · have h : ∀ d : Nat, (Op.equalIn (d + 1) 64 (.pointer (some ⟨g, 0, none⟩)) (.pointer (some ⟨g', 0, none⟩))).run Try.prog w = .ok false w := fun d => by
      simp [Op.equalIn, run_underlying Try.underlying64, sizeOf, typeInfo, hj, hs, run_sameAddr_other w (a := ⟨g, 0, none⟩) (b := ⟨g', 0, none⟩) (fun he => e (by injection he)) h h']
    simp only [binOp]
    simp [Op.equal, Op.maxDepth, h 9999, e]
theorem sizeL_take_le {n : Nat} {ps : List (List Nat)} (h : ∀ l ∈ ps, l.length ≤ n) (k : Nat) : sizeL (ps.take k) ≤ n * k := by
  have h1 := sizeL_le (n := n) (ps := ps.take k) (fun l hl => h l (List.mem_of_mem_take hl))
  have h2 : (ps.take k).length ≤ k := List.length_take_le _ _
  exact Nat.le_trans h1 (Nat.mul_le_mul_left _ h2)
set_option maxHeartbeats 1000000 in
set_option maxRecDepth 100000 in
theorem size_calls {base : Nat} {w : World} {x : Cel} (hx : EntAt base w x) (hok : EntOk x.e) :
    Calls Try.prog 51 #[.pointer (gp x.g)] w fun e w' => e = .returned (.int .i64 (sizeL x.e.parts : Nat)) ∧ w = w' := by
  obtain ⟨c, _, _, _, h3, ss, hr, hp⟩ := hx.cells
  have hf := hok.few
  have HS := hd hok.small
  obtain ⟨n, HN⟩ : ∃ n, Aside0 (x.e.parts.length = n) := ⟨_, ⟨rfl⟩⟩
  rw [HN.out] at h3 hr hf
  unfold gp
  go_enter Try.func51, Try.ntmps51
  go_wp2
  go_loop [3, 11] (fun s i => ∃ k : Nat, k ≤ n ∧ i = .int .i64 k ∧ s = .int .i64 (sizeL (x.e.parts.take k) : Nat)) (fun _ i => n - (intOf i).toNat)
  case atStart => exact ⟨0, Nat.zero_le _, rfl, rfl⟩
  case round =>
    obtain ⟨k, hk, rfl, rfl⟩ := hrel
    by_cases hlt : k < n
    · obtain ⟨s, HSS, hcell, _⟩ := hr.cell k hlt
      have hpa := hp.at_ k (by rw [HN.out]; exact hlt)
      rw [HSS.out] at hpa
      have HL := hd hpa.len
      obtain ⟨A, m, cc⟩ := s
      have hsz := sizeL_take_le HS.out k
      have HT := hd (take_snoc x.e.parts k [] (by rw [HN.out]; exact hlt))
      have hm : m ≤ 1024 := by
        have h1 : m = (x.e.parts.getD k []).length := HL.out
        rw [h1, List.getD_eq_getElem?_getD, List.getElem?_eq_getElem (by rw [HN.out]; exact hlt)]
        exact HS.out _ (List.getElem_mem _)
      obtain ⟨z, HZ⟩ : ∃ z, Aside0 (sizeL (x.e.parts.take k) = z) := ⟨_, ⟨rfl⟩⟩
      rw [HZ.out] at hsz ⊢
      have i1 : (z : Int) ≤ 65536 := by omega
      have i2 : (m : Int) ≤ 1024 := by omega
      have i3 : (k : Int) ≤ 64 := by omega
      clear hpa hp hr
      go_wp2
      go_round
      case rel =>
        refine ⟨k + 1, by omega, by go_num, ?_⟩
        rw [HT.out, sizeL_snoc, HZ.out, ← show m = (x.e.parts.getD k []).length from HL.out]
        go_num
      case measure => simp [intOf]; omega
    · go_wp2
      go_ret
      obtain rfl : k = n := by omega
      exact ⟨by rw [List.take_of_length_le (by rw [HN.out]; exact Nat.le_refl _)]; rfl, rfl⟩
theorem total1_calls (a : Option Addr) (w : World) : Calls Try.prog 42 #[.pointer a] w fun e w' => e = .returned (.bool true) ∧ w = w' := by
  go_enter Try.func42, Try.ntmps42
  go_wp2
  go_ret
  exact ⟨rfl, rfl⟩
theorem held1_calls {base p : Nat} {w : World} {x : Cel} {peer : ByteArray} (hx : EntAt base w x) (hp : w.cell? ⟨p, 0, none⟩ = some (.string peer)) :
    Calls Try.prog 46 #[.pointer (gp x.g), .pointer (some ⟨p, 0, none⟩)] w fun e w' => e = .returned (.bool (x.e.peer.toList == peer.toList)) ∧ Below w.heap.size w w' := by
  obtain ⟨c, h0, _⟩ := hx.cells
  clear hx
  unfold gp
  go_enter Try.func46, Try.ntmps46
  go_wp2
  go_quiet (fail)
  go_wp2
  go_ret
  exact ⟨rfl, pw_below_drewN (Below.refl _ _) _⟩
theorem drop1_calls {base p : Nat} {w : World} {x : Cel} {peer : ByteArray} (hx : EntAt base w x) (hp : w.cell? ⟨p, 0, none⟩ = some (.string peer)) :
    Calls Try.prog 45 #[.pointer (gp x.g), .pointer (some ⟨p, 0, none⟩)] w fun e w' => e = .returned (.bool (x.e.peer.toList == peer.toList)) ∧ Below w.heap.size w w' := by
  obtain ⟨c, h0, _⟩ := hx.cells
  clear hx
  unfold gp
  go_enter Try.func45, Try.ntmps45
  go_wp2
  go_quiet (fail)
  go_wp2
  go_ret
  exact ⟨rfl, pw_below_drewN (Below.refl _ _) _⟩

/-- Is it too old? -/
def goneB (G now born : Nat) : Bool := decide (born < now) && decide (G < now - born)
set_option maxRecDepth 100000 in
theorem expire1_calls {base pn pb b G now : Nat} {w : World} {x : Cel} (hx : EntAt base w x) (g2 : w.cell? ⟨b, 2, none⟩ = some (.int .u64 (G : Int))) (hn : w.cell? ⟨pn, 0, none⟩ = some (.int .u64 (now : Int))) (hp : w.cell? ⟨pb, 0, none⟩ = some (.pointer (some ⟨b, 0, none⟩))) (hnow : now < 2 ^ 64) :
    Calls Try.prog 44 #[.pointer (gp x.g), .pointer (some ⟨pn, 0, none⟩), .pointer (some ⟨pb, 0, none⟩)] w fun e w' => e = .returned (.bool (goneB G now x.e.born)) ∧ Below w.heap.size w w' := by
  obtain ⟨c, _, _, h2, _⟩ := hx.cells
  obtain ⟨bo, HB⟩ : ∃ bo, Aside0 (x.e.born = bo) := ⟨_, ⟨rfl⟩⟩
  rw [HB.out] at h2 ⊢
  clear hx
  unfold gp
  by_cases hlt : bo < now
  · have q1 : decide (bo < now) = true := by simp; omega
    obtain ⟨d, hd1⟩ : ∃ d, d = now - bo := ⟨_, rfl⟩
    have hw : IntKind.u64.wrap ((now : Int) - (bo : Int)) = (d : Int) := by rw [show (now : Int) - (bo : Int) = ((d : Nat) : Int) by omega]; exact wrapN_u rfl (show d < 2 ^ 64 by omega)
    have HD := hd hd1
    have HLT := hd hlt
    clear hd1 hnow hlt
    go_enter Try.func44, Try.ntmps44
    go_wp2
    go_quiet (fail)
    go_wp2
    go_ret
    refine ⟨?_, pw_below_drewN (Below.refl _ _) _⟩
    rw [goneB, decide_eq_true HLT.out, Bool.true_and, ← HD.out]
    simp
  · have q1 : decide (bo < now) = false := by simp; omega
    have HLT := hd hlt
    clear hnow hlt
    go_enter Try.func44, Try.ntmps44
    go_wp2
    go_quiet (fail)
    go_wp2
    go_ret
    refine ⟨?_, pw_below_drewN (Below.refl _ _) _⟩
    rw [goneB, decide_eq_false HLT.out, Bool.false_and]
    rfl
set_option maxRecDepth 100000 in
theorem add1_calls {base pp pm : Nat} {w : World} {x : Cel} {peer : ByteArray} {msg : Int} (hx : EntAt base w x) (hp : w.cell? ⟨pp, 0, none⟩ = some (.string peer)) (hm : w.cell? ⟨pm, 0, none⟩ = some (.int .i64 msg)) :
    Calls Try.prog 26 #[.pointer (gp x.g), .pointer (some ⟨pp, 0, none⟩), .pointer (some ⟨pm, 0, none⟩)] w fun e w' => e = .returned (.bool ((x.e.peer.toList == peer.toList) && (x.e.msg == msg))) ∧ Below w.heap.size w w' := by
  obtain ⟨c, h0, h1, _⟩ := hx.cells
  clear hx
  unfold gp
  cases hq : (x.e.peer.toList == peer.toList)
  all_goals
    go_enter Try.func26, Try.ntmps26
    go_wp2
    go_quiet (fail)
    go_wp2
    go_ret
    refine ⟨by first | rfl | simp, pw_below_drewN (Below.refl _ _) _⟩
/-- The order of what was begun first. -/
def cmpB (x y : Nat) : Int := if x < y then -1 else if y < x then 1 else 0
set_option maxRecDepth 100000 in
theorem room1_quiet {base : Nat} {w : World} {x y : Cel} (hx : EntAt base w x) (hy : EntAt base w y) :
    Calls Try.prog 50 #[.pointer (gp x.g), .pointer (gp y.g)] w fun e w' => e = .returned (.int .i64 (cmpB x.e.born y.e.born)) ∧ ∃ m, w' = w.drewN m := by
  obtain ⟨_, _, _, h2, _⟩ := hx.cells
  obtain ⟨_, _, _, g2, _⟩ := hy.cells
  obtain ⟨bx, HX⟩ : ∃ bo, Aside0 (x.e.born = bo) := ⟨_, ⟨rfl⟩⟩
  obtain ⟨bY, HY⟩ : ∃ bo, Aside0 (y.e.born = bo) := ⟨_, ⟨rfl⟩⟩
  rw [HX.out] at h2 ⊢
  rw [HY.out] at g2 ⊢
  clear hx hy
  unfold gp
  rcases Nat.lt_trichotomy bx bY with h | h | h
  · have q1 : decide (bx < bY) = true := by simp; omega
    have HC := hd (show cmpB bx bY = -1 by rw [cmpB, if_pos h])
    clear h
    go_enter Try.func50, Try.ntmps50
    go_wp2
    go_quiet (fail)
    go_wp2
    go_ret
    exact ⟨by rw [HC.out]; rfl, _, rfl⟩
  · have q1 : decide (bx < bY) = false := by simp; omega
    have q2 : decide (bY < bx) = false := by simp; omega
    have HC := hd (show cmpB bx bY = 0 by rw [cmpB, if_neg (by omega), if_neg (by omega)])
    clear h
    go_enter Try.func50, Try.ntmps50
    go_wp2
    go_quiet (fail)
    go_wp2
    generalize hwd : w.drewN _ = w1 at *
    have hb1 : Below w.heap.size w w1 := by rw [← hwd]; exact pw_below_drewN (Below.refl _ _) _
    have h3 := pw_cell_below hb1 h2
    have g3 := pw_cell_below hb1 g2
    have HWD := hd hwd
    clear hwd h2 g2
    go_quiet (fail)
    go_wp2
    go_ret
    exact ⟨by rw [HC.out]; rfl, _, by rw [← HWD.out, World.drewN_drewN]⟩
  · have q1 : decide (bx < bY) = false := by simp; omega
    have q2 : decide (bY < bx) = true := by simp; omega
    have HC := hd (show cmpB bx bY = 1 by rw [cmpB, if_neg (by omega), if_pos h])
    clear h
    go_enter Try.func50, Try.ntmps50
    go_wp2
    go_quiet (fail)
    go_wp2
    generalize hwd : w.drewN _ = w1 at *
    have hb1 : Below w.heap.size w w1 := by rw [← hwd]; exact pw_below_drewN (Below.refl _ _) _
    have h3 := pw_cell_below hb1 h2
    have g3 := pw_cell_below hb1 g2
    have HWD := hd hwd
    clear hwd h2 g2
    go_quiet (fail)
    go_wp2
    go_ret
    exact ⟨by rw [HC.out]; rfl, _, by rw [← HWD.out, World.drewN_drewN]⟩
theorem add4_calls {base p : Nat} {w : World} {x y : Cel} (hx : EntAt base w x) (hy : EntAt base w y) (hp : w.cell? ⟨p, 0, none⟩ = some (.pointer (gp y.g))) :
    Calls Try.prog 34 #[.pointer (gp x.g), .pointer (some ⟨p, 0, none⟩)] w fun e w' => e = .returned (.bool (x.g == y.g)) ∧ w = w' := by
  obtain ⟨c, hc⟩ := hx.gblk
  obtain ⟨c', hc'⟩ := hy.gblk
  have he := ptr_eq hc hc'
  clear hc hc' hx hy
  unfold gp at hp ⊢
  go_enter Try.func34, Try.ntmps34
  go_wp2
  go_ret
  exact ⟨rfl, rfl⟩
/-- A piece that has not come. -/
def isNil (l : List Nat) : Bool := l == []
theorem add3_calls {base : Nat} {w : World} {s : Option Addr × Nat × Nat} {l : List Nat} (hp : PartAt base w s l) :
    Calls Try.prog 33 #[.slice s.1 s.2.1 s.2.2] w fun e w' => e = .returned (.bool (isNil l)) ∧ w = w' := by
  rcases hp with ⟨rfl, rfl⟩ | ⟨h1, h2, h3⟩
  · have hne := fun w => nil_eq none 0 0 w
    go_enter Try.func33, Try.ntmps33
    go_wp2
    go_ret
    exact ⟨rfl, rfl⟩
  · obtain ⟨A, n, c⟩ := s
    have hn := h3.row.1
    obtain ⟨g, rfl, _⟩ := h3.at_ (by rw [hn]; exact h1)
    have hne := fun w => nil_eq (some ⟨g, 0, none⟩) n c w
    have HL := hd (show isNil l = false by cases l with | nil => simp at h1 | cons => rfl)
    clear h1 h3 hn
    go_enter Try.func33, Try.ntmps33
    go_wp2
    go_ret
    exact ⟨by rw [HL.out]; rfl, rfl⟩
end Go.Proofs.Ytcmiajnndmaeiaa
