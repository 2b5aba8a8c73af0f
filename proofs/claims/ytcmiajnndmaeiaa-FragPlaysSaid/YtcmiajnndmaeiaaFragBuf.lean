/- The walks through Buffer's without, Expire, Drop, sum, Held, Total, Count, New. -/
import Derived.Test.YtcmiajnndmaeiaaFragDel
import Derived.Shelf.Abstract
set_option linter.unusedVariables false
set_option linter.unusedSimpArgs false
namespace Go.Proofs.Ytcmiajnndmaeiaa
open Go.RowKit Go.Proofs.YtcmiajnndmaeiaaW.PrintWords Go.Proofs.YtcmiajnndmaeiaaW.PrintLast Go.Proofs.YtcmiajnndmaeiaaW.PrintMore
theorem BufAt.row_ne {base b P A G : Nat} {w : World} {v : Value} {xs : List Cel} (h : BufAt base w b P A G v xs) : ¬ v.ownBlock = some b := fun hk => by
  obtain ⟨cells, hc⟩ := h.row.blk b hk
  exact absurd (heap_type h.box hc) (by decide)
theorem BufAt.row_apart {base b P A G : Nat} {w : World} {v : Value} {xs : List Cel} (h : BufAt base w b P A G v xs) : Apart 5 w (fun k => v.ownBlock = some k) := fun k cells hc hk => by
  obtain ⟨cells', hc'⟩ := h.row.blk k hk
  exact absurd (heap_type hc hc') (by decide)
theorem BufAt.ent_row {base b P A G : Nat} {w w1 : World} {v : Value} {xs : List Cel} (h : BufAt base w b P A G v xs) (hm : Mod (fun k => v.ownBlock = some k) w w1) {x : Cel} (hx : x ∈ xs) : EntAt base w1 x := by
  refine (h.ents x hx).mod hm h.row_apart (fun hk => ?_) (fun hk => ?_)
  · obtain ⟨c, hc⟩ := h.row.blk _ hk
    obtain ⟨c', hc'⟩ := (h.ents x hx).gblk
    exact absurd (heap_type hc hc') (by decide)
  · obtain ⟨c, hc⟩ := h.row.blk _ hk
    obtain ⟨c', hc'⟩ := (h.ents x hx).qblk
    exact absurd (heap_type hc hc') (by decide)
theorem BufAt.box_row {base b P A G : Nat} {w w1 : World} {v : Value} {xs : List Cel} (h : BufAt base w b P A G v xs) (hm : Mod (fun k => v.ownBlock = some k) w w1) : w1.heap[b]? = some (.cells #[.int .i64 (P : Int), .int .i64 (A : Int), .int .u64 (G : Int), v] 63 (0, 0)) := hm.block h.box h.row_ne
/-- Its entries' slice is another one, over the row that was. -/
theorem BufAt.cut {base b P A G : Nat} {w w1 : World} {v v1 : Value} {xs : List Cel} {q : Cel → Bool} (h : BufAt base w b P A G v xs) (hm : Mod (fun k => v.ownBlock = some k) w w1) (hr : PRow base w1 v1 ((xs.filter q).map fun x => gp x.g)) (hv : v1.ownBlock = v.ownBlock) :
    BufAt base (w1.setCell ⟨b, 3, none⟩ v1) b P A G v1 (xs.filter q) := by
  have hm2 : Mod (fun k => k = b) w1 (w1.setCell ⟨b, 3, none⟩ v1) := Mod.set (S := fun k => k = b) w1 rfl v1
  have hbx := h.box_row hm
  refine ⟨by rw [blk_set hbx 3 v1]; rfl, h.bge, hr.mod hm2 (fun k hk e => h.row_ne (by rw [← hv, hk, e])), fun x hx => ?_, ?_, ?_⟩
  · have hx' := (List.mem_filter.1 hx).1
    have he := h.ent_row hm hx'
    refine he.mod hm2 (fun k cells hc e => ?_) (fun e => ?_) (fun e => ?_)
    · rw [e] at hc
      exact absurd (heap_type hc hbx) (by decide)
    · obtain ⟨c, hc⟩ := he.gblk
      rw [e] at hc
      exact absurd (heap_type hc hbx) (by decide)
    · obtain ⟨c, hc⟩ := he.qblk
      rw [e] at hc
      exact absurd (heap_type hc hbx) (by decide)
  · exact h.ndg.sublist (List.filter_sublist.map _)
  · exact h.ndq.sublist (List.filter_sublist.map _)
set_option maxHeartbeats 1000000 in
set_option maxRecDepth 100000 in
theorem without_calls {base b P A G : Nat} {w : World} {v : Value} {xs : List Cel} {f : Nat} {lb : Array Value} {p : Cel → Bool} (h : BufAt base w b P A G v xs) (hs : SaysR f lb p xs (fun k => v.ownBlock = some k) w) (hfit : xs.length ≤ 1000000) :
    Calls Try.prog 29 #[.pointer (gp b), .func (.func f) #[] lb] w fun e w' => e = .returned (.tuple #[]) ∧ ∃ v1, v1.ownBlock = v.ownBlock ∧ BufAt base w' b P A G v1 (xs.filter fun x => !p x) ∧ Mod (fun k => k = b ∨ v.ownBlock = some k) w w' := by
  obtain ⟨_, _, _, hc3, hf3⟩ := h.cell
  obtain ⟨A1, c1, rfl, _⟩ := h.row.slice
  rw [List.length_map] at *
  have HD := hd (deleteFunc_calls h.row hs hfit)
  have HB := hd h
  clear h hs
  unfold gp
  go_enter Try.func29, Try.ntmps29
  go_wp2_with fail
  refine HD.out.mono ?_
  rintro e w1 ⟨m, rfl, hr1, hm1⟩
  have hbx := HB.out.box_row hm1
  have hc : w1.cell? ⟨b, 3, none⟩ = some (.slice A1 xs.length c1) := by rw [blk_cell hbx]; rfl
  have hfr := blk_frozen hbx 3
  have HC := hd (HB.out.cut (v1 := .slice A1 m c1) hm1 hr1 (by cases A1 <;> rfl))
  have HM := hd hm1
  clear hc3 hf3 hr1 hm1 hbx
  go_wp2
  go_end0
  exact ⟨rfl, .slice A1 m c1, by cases A1 <;> rfl, HC.out, (HM.out.mono (fun _ _ h => Or.inr h)).trans (Mod.set (S := fun k => k = b ∨ (Value.slice A1 xs.length c1).ownBlock = some k) w1 (Or.inl rfl) _)⟩
/-! ### Expire, Drop -/
theorem enters46 : ∀ args w, (callFunc 46 args).run Try.prog w = .ok (.enter 46 args) w := enters_of Try.func46 (by kernel_rfl) rfl
theorem enters45 : ∀ args w, (callFunc 45 args).run Try.prog w = .ok (.enter 45 args) w := enters_of Try.func45 (by kernel_rfl) rfl
theorem enters44 : ∀ args w, (callFunc 44 args).run Try.prog w = .ok (.enter 44 args) w := enters_of Try.func44 (by kernel_rfl) rfl
theorem enters42 : ∀ args w, (callFunc 42 args).run Try.prog w = .ok (.enter 42 args) w := enters_of Try.func42 (by kernel_rfl) rfl
/-- A block of the call's own, of another type than a row of entries, is no such row's. -/
theorem box_mod {S : Nat → Prop} {w w1 : World} {k t : Nat} {cells : Array Value} (hm : Mod S w w1) (hb : w.heap[k]? = some (.cells cells t (0, 0))) (hn : ¬ S k) (i : Nat) : w1.cell? ⟨k, i, none⟩ = cells[i]? := by rw [blk_cell (hm.block hb hn)]
def mine_ (peer : ByteArray) (x : Cel) : Bool := x.e.peer.toList == peer.toList
def old_ (G now : Nat) (x : Cel) : Bool := goneB G now x.e.born
set_option maxHeartbeats 1000000 in
set_option maxRecDepth 100000 in
theorem expire_calls {base b P A G now : Nat} {w : World} {v : Value} {xs : List Cel} (h : BufAt base w b P A G v xs) (hnow : now < 2 ^ 64) (hfit : xs.length ≤ 1000000) :
    Calls Try.prog 18 #[.pointer (gp b), .int .u64 (now : Int)] w fun e w' => e = .returned (.tuple #[]) ∧ ∃ v1, v1.ownBlock = v.ownBlock ∧ BufAt base w' b P A G v1 (xs.filter fun x => !old_ G now x) ∧ Mod (fun k => k = b ∨ v.ownBlock = some k) w w' := by
  have hal := below_alloc (below_alloc (Below.refl w.heap.size w) (.cells #[.pointer (some ⟨b, 0, none⟩)] 33)) (.cells #[.int .u64 (now : Int)] 35)
  have h2 := h.below hal
  have b1 : ((w.alloc (.cells #[.pointer (some ⟨b, 0, none⟩)] 33)).alloc (.cells #[.int .u64 (now : Int)] 35)).heap[w.heap.size]? = some (.cells #[.pointer (some ⟨b, 0, none⟩)] 33 (0, 0)) := blk_below (blk_new w _) (below_alloc (Below.refl _ _) _)
  have b2 : ((w.alloc (.cells #[.pointer (some ⟨b, 0, none⟩)] 33)).alloc (.cells #[.int .u64 (now : Int)] 35)).heap[w.heap.size + 1]? = some (.cells #[.int .u64 (now : Int)] 35 (0, 0)) := by
    have := blk_new (w.alloc (.cells #[.pointer (some ⟨b, 0, none⟩)] 33)) (.cells #[.int .u64 (now : Int)] 35)
    simpa using this
  have hs : SaysR 44 #[.pointer (some ⟨w.heap.size + 1, 0, none⟩), .pointer (some ⟨w.heap.size, 0, none⟩)] (old_ G now) xs (fun k => v.ownBlock = some k) ((w.alloc (.cells #[.pointer (some ⟨b, 0, none⟩)] 33)).alloc (.cells #[.int .u64 (now : Int)] 35)) := by
    refine ⟨enters44, fun x hx w' hm => ?_⟩
    have hbx := h2.box_row hm
    refine expire1_calls (h2.ent_row hm hx) (by rw [blk_cell hbx]; rfl) (box_mod hm b2 (fun hk => ?_) 0) (box_mod hm b1 (fun hk => ?_) 0) hnow
    · obtain ⟨c, hc⟩ := h2.row.blk _ hk
      exact absurd (heap_type b2 hc) (by decide)
    · obtain ⟨c, hc⟩ := h2.row.blk _ hk
      exact absurd (heap_type b1 hc) (by decide)
  have HW := hd (without_calls h2 hs hfit)
  clear hs b1 b2 h2 h
  unfold gp at *
  go_enter Try.func18, Try.ntmps18
  go_wp2_with fail
  refine HW.out.mono ?_
  rintro e w1 ⟨rfl, v1, hv1, hb1, hm1⟩
  have H1 := hd hb1
  have H2 := hd hv1
  have H3 := hd hm1
  clear hb1 hv1 hm1
  go_wp2
  go_end0
  exact ⟨rfl, v1, H2.out, H1.out, (Mod.below hal).then_ H3.out (fun _ _ h => h)⟩
set_option maxHeartbeats 1000000 in
set_option maxRecDepth 100000 in
theorem drop_calls {base b P A G : Nat} {w : World} {v : Value} {xs : List Cel} {peer : ByteArray} (h : BufAt base w b P A G v xs) (hfit : xs.length ≤ 1000000) :
    Calls Try.prog 20 #[.pointer (gp b), .string peer] w fun e w' => e = .returned (.tuple #[]) ∧ ∃ v1, v1.ownBlock = v.ownBlock ∧ BufAt base w' b P A G v1 (xs.filter fun x => !mine_ peer x) ∧ Mod (fun k => k = b ∨ v.ownBlock = some k) w w' := by
  have hal := below_alloc (Below.refl w.heap.size w) (.cells #[.string peer] 9)
  have h2 := h.below hal
  have b1 : (w.alloc (.cells #[.string peer] 9)).heap[w.heap.size]? = some (.cells #[.string peer] 9 (0, 0)) := blk_new w _
  have hs : SaysR 45 #[.pointer (some ⟨w.heap.size, 0, none⟩)] (mine_ peer) xs (fun k => v.ownBlock = some k) (w.alloc (.cells #[.string peer] 9)) := by
    refine ⟨enters45, fun x hx w' hm => ?_⟩
    refine drop1_calls (h2.ent_row hm hx) (box_mod hm b1 (fun hk => ?_) 0)
    obtain ⟨c, hc⟩ := h2.row.blk _ hk
    exact absurd (heap_type b1 hc) (by decide)
  have HW := hd (without_calls h2 hs hfit)
  clear hs b1 h2 h
  unfold gp at *
  go_enter Try.func20, Try.ntmps20
  go_wp2_with fail
  refine HW.out.mono ?_
  rintro e w1 ⟨rfl, v1, hv1, hb1, hm1⟩
  have H1 := hd hb1
  have H2 := hd hv1
  have H3 := hd hm1
  clear hb1 hv1 hm1
  go_wp2
  go_end0
  exact ⟨rfl, v1, H2.out, H1.out, (Mod.below hal).then_ H3.out (fun _ _ h => h)⟩
/-! ### sum, Held, Total, Count -/
def sumB (p : Cel → Bool) (xs : List Cel) : Nat := ((xs.filter p).map fun x => sizeL x.e.parts).sum
theorem sumB_snoc (p : Cel → Bool) (xs : List Cel) (x : Cel) : sumB p (xs ++ [x]) = sumB p xs + if p x then sizeL x.e.parts else 0 := by
  unfold sumB
  rw [List.filter_append]
  by_cases h : p x = true
  · simp [h]
  · simp [h]
theorem sumB_le {p : Cel → Bool} {xs : List Cel} (h : ∀ x ∈ xs, EntOk x.e) : sumB p xs ≤ 65536 * xs.length := by
  unfold sumB
  have h2 : ∀ l : List Cel, (∀ x ∈ l, EntOk x.e) → (l.map fun x => sizeL x.e.parts).sum ≤ 65536 * l.length := by
    intro l
    induction l with
    | nil => intro _; simp
    | cons x l ih =>
      intro hl
      have h3 := (hl x (by simp)).size
      have h4 := ih (fun y hy => hl y (by simp [hy]))
      simp only [List.map_cons, List.sum_cons, List.length_cons]
      omega
  have h5 := h2 (xs.filter p) (fun x hx => h x (List.mem_filter.1 hx).1)
  have h6 := List.length_filter_le p xs
  omega
set_option maxHeartbeats 1000000 in
set_option maxRecDepth 100000 in
theorem sum_calls {base b P A G : Nat} {w : World} {v : Value} {xs : List Cel} {f : Nat} {lb : Array Value} {p : Cel → Bool} (h : BufAt base w b P A G v xs) (hs : Says f lb p xs w) (hok : ∀ x ∈ xs, EntOk x.e) (hfit : xs.length ≤ 1000000) :
    Calls Try.prog 41 #[.pointer (gp b), .func (.func f) #[] lb] w fun e w' => e = .returned (.int .i64 (sumB p xs : Nat)) ∧ Below w.heap.size w w' := by
  obtain ⟨_, _, _, hc3, hf3⟩ := h.cell
  obtain ⟨A1, c1, rfl, _⟩ := h.row.slice
  rw [List.length_map] at *
  have eg := hs.1
  have HS := hd hs.2
  have HB := hd h
  have HOK := hd hok
  obtain ⟨n, hn⟩ : ∃ n, n = xs.length := ⟨_, rfl⟩
  rw [← hn] at hc3 hfit HB
  have HN := hd hn
  clear h hs hok hn
  unfold gp
  go_enter Try.func41, Try.ntmps41
  go_wp2
  go_loopw [5, 15] (fun s i wr => ∃ k : Nat, k ≤ n ∧ i = .int .i64 k ∧ s = .int .i64 (sumB p (xs.take k) : Nat) ∧ Below w.heap.size w wr) (fun _ i _ => n - (intOf i).toNat)
  case atStart => exact ⟨0, Nat.zero_le _, rfl, rfl, Below.refl _ _⟩
  case round =>
    obtain ⟨k, hk, rfl, rfl, hb⟩ := hrel
    by_cases hlt : k < n
    · have hB := HB.out.below hb
      obtain ⟨r, rfl, _, _⟩ := hB.row.at_ (by omega)
      obtain ⟨hcell, _⟩ := hB.row.cell k hlt
      have hkx : k < xs.length := by rw [← HN.out]; exact hlt
      have hel : (xs.map fun x => gp x.g).getD k none = gp (xs[k]'hkx).g := by
        rw [List.getD_eq_getElem?_getD, List.getElem?_map, List.getElem?_eq_getElem hkx]; rfl
      rw [hel] at hcell
      have hmem : xs[k] ∈ xs := List.getElem_mem _
      have HT := hd (show xs.take (k + 1) = xs.take k ++ [xs[k]] from List.take_succ_eq_append_getElem hkx)
      have hle := sumB_le (p := p) (xs := xs.take k) (fun x hx => HOK.out x (List.mem_of_mem_take hx))
      rw [List.length_take] at hle
      have hent := hB.ents _ hmem
      have hok := HOK.out _ hmem
      generalize xs[k] = x at *
      have HC := hd (HS.out x hmem wr hb)
      have HE := hd hent
      have hsz := hok.size
      have HK := hd hok
      obtain ⟨z, HZ⟩ : ∃ z, Aside0 (sumB p (xs.take k) = z) := ⟨_, ⟨rfl⟩⟩
      rw [HZ.out] at hle ⊢
      obtain ⟨y, HY⟩ : ∃ y, Aside0 (sizeL x.e.parts = y) := ⟨_, ⟨rfl⟩⟩
      rw [HY.out] at hsz
      unfold gp at hcell
      have i1 : (k : Int) < n := by omega
      have i2 : (z : Int) ≤ 65536000000 := by omega
      have i3 : (y : Int) ≤ 65536 := by omega
      have i4 : (k : Int) ≤ 1000000 := by omega
      clear hel hmem hB hent hok hle
      cases hq : p x
      · rw [hq] at HC
        have HQ := hd hq
        clear hq
        go_wp2_with fail
        refine HC.out.mono ?_
        rintro e w1 ⟨rfl, hb1⟩
        go_wp2
        go_roundw
        case rel =>
          refine ⟨k + 1, by omega, by go_num, ?_, below_seq hb hb1⟩
          rw [HT.out, sumB_snoc, HZ.out, HQ.out]
          rfl
        case measure => simp [intOf]; omega
      · rw [hq] at HC
        have HQ := hd hq
        clear hq
        go_wp2_with fail
        refine HC.out.mono ?_
        rintro e w1 ⟨rfl, hb1⟩
        go_wp2_with fail
        refine (size_calls (HE.out.below hb1) HK.out).mono ?_
        rintro e w' ⟨rfl, rfl⟩
        rw [HY.out]
        go_wp2
        go_roundw
        case rel =>
          refine ⟨k + 1, by omega, by go_num, ?_, below_seq hb hb1⟩
          rw [HT.out, sumB_snoc, HZ.out, HQ.out, HY.out]
          go_num
        case measure => simp [intOf]; omega
    · go_wp2
      go_ret
      obtain rfl : k = n := by omega
      refine ⟨?_, hb⟩
      rw [List.take_of_length_le (by rw [HN.out]; exact Nat.le_refl _)]
      rfl
theorem held_calls {base b P A G : Nat} {w : World} {v : Value} {xs : List Cel} {peer : ByteArray} (h : BufAt base w b P A G v xs) (hok : ∀ x ∈ xs, EntOk x.e) (hfit : xs.length ≤ 1000000) :
    Calls Try.prog 22 #[.pointer (gp b), .string peer] w fun e w' => e = .returned (.int .i64 (sumB (mine_ peer) xs : Nat)) ∧ Below w.heap.size w w' := by
  have hal := below_alloc (Below.refl w.heap.size w) (.cells #[.string peer] 9)
  have h2 := h.below hal
  have b1 : (w.alloc (.cells #[.string peer] 9)).heap[w.heap.size]? = some (.cells #[.string peer] 9 (0, 0)) := blk_new w _
  have hs : Says 46 #[.pointer (some ⟨w.heap.size, 0, none⟩)] (mine_ peer) xs (w.alloc (.cells #[.string peer] 9)) := by
    refine ⟨enters46, fun x hx w' hb => ?_⟩
    refine held1_calls ((h2.ents x hx).below hb) ?_
    have := blk_cell (blk_below b1 hb) 0
    rw [this]; rfl
  have HW := hd (sum_calls h2 hs hok hfit)
  clear hs b1 h2 h
  unfold gp at *
  go_enter Try.func22, Try.ntmps22
  go_wp2_with fail
  refine HW.out.mono ?_
  rintro e w1 ⟨rfl, hb1⟩
  go_wp2
  go_ret
  exact ⟨rfl, below_seq hal hb1⟩
theorem total_calls {base b P A G : Nat} {w : World} {v : Value} {xs : List Cel} (h : BufAt base w b P A G v xs) (hok : ∀ x ∈ xs, EntOk x.e) (hfit : xs.length ≤ 1000000) :
    Calls Try.prog 16 #[.pointer (gp b)] w fun e w' => e = .returned (.int .i64 (sumB (fun _ => true) xs : Nat)) ∧ Below w.heap.size w w' := by
  have hs : Says 42 #[] (fun _ => true) xs w := by
    refine ⟨enters42, fun x hx w' hb => ?_⟩
    refine (total1_calls (gp x.g) w').mono ?_
    rintro e w'' ⟨rfl, rfl⟩
    exact ⟨rfl, Below.refl _ _⟩
  have HW := hd (sum_calls h hs hok hfit)
  clear hs h
  unfold gp at *
  go_enter Try.func16, Try.ntmps16
  go_wp2_with fail
  refine HW.out.mono ?_
  rintro e w1 ⟨rfl, hb1⟩
  go_wp2
  go_ret
  exact ⟨rfl, hb1⟩
theorem count_calls {base b P A G : Nat} {w : World} {v : Value} {xs : List Cel} (h : BufAt base w b P A G v xs) :
    Calls Try.prog 13 #[.pointer (gp b)] w fun e w' => e = .returned (.int .i64 (xs.length : Nat)) ∧ w = w' := by
  obtain ⟨_, _, _, hc3, hf3⟩ := h.cell
  obtain ⟨A1, c1, rfl, _⟩ := h.row.slice
  rw [List.length_map] at *
  clear h
  unfold gp
  go_enter Try.func13, Try.ntmps13
  go_wp2
  go_ret
  exact ⟨rfl, rfl⟩
end Go.Proofs.Ytcmiajnndmaeiaa
