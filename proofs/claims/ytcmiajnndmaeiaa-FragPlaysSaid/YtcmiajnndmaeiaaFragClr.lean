/- Where the pieces' bytes lie: what Add keeps of it. -/
import Derived.Test.YtcmiajnndmaeiaaFragAddP
set_option linter.unusedVariables false
set_option linter.unusedSimpArgs false
namespace Go.Proofs.Ytcmiajnndmaeiaa
open Go.RowKit Go.Proofs.YtcmiajnndmaeiaaW.PrintWords Go.Proofs.YtcmiajnndmaeiaaW.PrintLast Go.Proofs.YtcmiajnndmaeiaaW.PrintMore
/-- The pieces' bytes lie in blocks of okp. -/
def Clear (okp : Nat → Prop) (w : World) (xs : List Cel) : Prop := ∀ x ∈ xs, ∀ i, i < x.e.parts.length → ∀ A n c, w.cell? ⟨x.q, i, none⟩ = some (.slice (some A) n c) → okp A.block
section
variable {okp : Nat → Prop} {w w1 : World} {xs ys : List Cel} {base b P A G : Nat} {v : Value}
theorem Clear.step (h : Clear okp w xs) (hm : ∀ x ∈ xs, w1.heap[x.q]? = w.heap[x.q]?) : Clear okp w1 xs := fun x hx i hi A n c hc => h x hx i hi A n c (by
  rw [← hc]
  exact (World.cell?_of_block (w := w) (w' := w1) (a := ⟨x.q, i, none⟩) (hm x hx)).symm)
theorem Clear.sub (h : Clear okp w xs) (hs : ∀ x ∈ ys, x ∈ xs) : Clear okp w ys := fun x hx => h x (hs x hx)
theorem Clear.nil : Clear okp w [] := fun x hx => by simp at hx
theorem BufAt.q_lt (h : BufAt base w b P A G v xs) {x : Cel} (hx : x ∈ xs) : x.q < w.heap.size := by
  obtain ⟨c, hc⟩ := (h.ents x hx).qblk
  exact blk_lt hc
theorem BufAt.q_ne (h : BufAt base w b P A G v xs) {x : Cel} (hx : x ∈ xs) : ¬ (x.q = b ∨ v.ownBlock = some x.q) := by
  obtain ⟨c, hc⟩ := (h.ents x hx).qblk
  rintro (e | e)
  · rw [e] at hc
    exact absurd (heap_type hc h.box) (by decide)
  · obtain ⟨c', hc'⟩ := h.row.blk _ e
    exact absurd (heap_type hc hc') (by decide)
theorem cell_set_cases {g p q i t : Nat} {u v : Value} {cs : Array Value} (hb : w.heap[g]? = some (.cells cs t (0, 0))) (hc : (w.setCell ⟨g, p, none⟩ u).cell? ⟨q, i, none⟩ = some v) : (q = g ∧ i = p ∧ v = u) ∨ w.cell? ⟨q, i, none⟩ = some v := by
  by_cases hq : q = g
  · subst hq
    rw [blk_cell (blk_set hb p u)] at hc
    rw [blk_cell hb]
    by_cases hi : i = p
    · subst hi
      left
      refine ⟨rfl, rfl, ?_⟩
      rw [Array.getElem?_setIfInBounds] at hc
      rw [if_pos rfl] at hc
      split at hc
      · exact (Option.some.inj hc).symm
      · cases hc
    · right
      rw [Array.getElem?_setIfInBounds, if_neg (fun e => hi e.symm)] at hc
      exact hc
  · right
    rw [← hc]
    exact (World.cell?_of_block (w := w) (w' := w.setCell ⟨g, p, none⟩ u) (a := ⟨q, i, none⟩) (Below.heap_setCell w ⟨g, p, none⟩ u q hq)).symm
theorem Clear.part (h : Clear okp w xs) (hb : BufAt base w b P A G v xs) {y : Cel} (hy : y ∈ xs) {s : Option Addr × Nat × Nat} (hs : ∀ A, s.1 = some A → okp A.block) (p : Nat) (l : List Nat) :
    Clear okp (w.setCell ⟨y.q, p, none⟩ (.slice s.1 s.2.1 s.2.2)) (xs.map (putPart y.g (y.e.parts.set p l))) := by
  intro z hz i hi A n c hc
  obtain ⟨x, hx, rfl⟩ := List.mem_map.1 hz
  rw [putPart_q] at hc
  obtain ⟨cs, hcs⟩ := (hb.ents y hy).qblk
  rcases cell_set_cases hcs hc with ⟨_, _, hv⟩ | hc
  · injection hv with hv
    exact hs A hv.symm
  · refine h x hx i ?_ A n c hc
    unfold putPart at hi
    split at hi
    · rename_i hg
      obtain rfl := g_inj hb.ndg hx hy hg
      simpa using hi
    · exact hi
theorem Clear.snoc {x : Cel} (h : Clear okp w xs) (hx : Clear okp w [x]) : Clear okp w (xs ++ [x]) := fun z hz => by
  rcases List.mem_append.1 hz with hz | hz
  · exact h z hz
  · exact hx z hz
/-- What has no piece. -/
theorem Clear.of_nil {x : Cel} (h : EntAt base w x) (hn : ∀ l ∈ x.e.parts, l = []) : Clear okp w [x] := by
  intro z hz i hi A n c hc
  obtain rfl := List.mem_singleton.1 hz
  obtain ⟨_, c', ss, _, h2, h3⟩ := h
  obtain ⟨s, hs, hcs, _⟩ := h2.cell i hi
  have hp := h3.at_ i hi
  rw [hs.out] at hp
  rcases hp with ⟨_, h4⟩ | ⟨h4, _⟩
  · rw [h4] at hcs
    rw [hcs] at hc
    injection hc with hc
    injection hc with hc
    cases hc
  · have h5 : z.e.parts.getD i [] = [] := hn _ (by rw [List.getD_eq_getElem?_getD, List.getElem?_eq_getElem hi]; exact List.getElem_mem hi)
    rw [h5] at h4
    simp at h4
/-! ### blocks of bytes are written that hold no piece -/
theorem PartAt.modU {S : Nat → Prop} {s : Option Addr × Nat × Nat} {l : List Nat} (h : PartAt base w s l) (hm : Mod S w w1) (hS : ∀ A, s.1 = some A → ¬ S A.block) : PartAt base w1 s l := by
  rcases h with h | ⟨h1, h2, h3⟩
  · exact Or.inl h
  · refine Or.inr ⟨h1, h2, ?_⟩
    have h4 : (Kd.int .u8).R 5 w base (fun k => (Value.slice s.1 s.2.1 s.2.2).ownBlock = some k) (.slice s.1 s.2.1 s.2.2) (ints l) := ⟨fun _ hj => hj, h3.2⟩
    refine Kd.R_mono (Kd.R_step h4 (fun k hk hlt => hm.same k hlt ?_)) (fun _ _ => trivial)
    obtain ⟨s1, s2, s3⟩ := s
    cases s1 with
    | none => simp [Value.ownBlock] at hk
    | some A =>
      have h5 : A.block = k := by simpa [Value.ownBlock] using hk
      rw [← h5]
      exact hS A rfl
theorem PartsAt.modU {S : Nat → Prop} (hm : Mod S w w1) : ∀ {ss : List (Option Addr × Nat × Nat)} {ls : List (List Nat)}, PartsAt base w ss ls → (∀ i, i < ls.length → ∀ A, (ss.getD i (none, 0, 0)).1 = some A → ¬ S A.block) → PartsAt base w1 ss ls
  | [], [], _, _ => trivial
  | s :: ss, l :: ls, ⟨h1, h2⟩, hS => ⟨h1.modU hm (fun A hA => hS 0 (by simp) A hA), PartsAt.modU hm h2 (fun i hi A hA => hS (i + 1) (by simpa using hi) A (by simpa using hA))⟩
theorem EntAt.modU {S : Nat → Prop} {x : Cel} (h : EntAt base w x) (hm : Mod S w w1) (hg : ¬ S x.g) (hq : ¬ S x.q) (hc : Clear (fun k => ¬ S k) w [x]) : EntAt base w1 x := by
  obtain ⟨h0, c, ss, h1, h2, h3⟩ := h
  refine ⟨h0, c, ss, hm.block h1 hg, ?_, PartsAt.modU hm h3 (fun i hi A hA => ?_)⟩
  · exact Kd.R_mono (Kd.R_step (SRow.only h2) (fun k hk hlt => hm.same k hlt (by rw [hk]; exact hq))) (fun _ _ => trivial)
  · obtain ⟨s, hs, hcs, _⟩ := h2.cell i hi
    rw [hs.out] at hA
    rw [hA] at hcs
    exact hc x (by simp) i hi A _ _ hcs
theorem BufAt.modU {S : Nat → Prop} (h : BufAt base w b P A G v xs) (hm : Mod S w w1) (hn : ∀ k, Foot_ b v xs k → ¬ S k) (hc : Clear (fun k => ¬ S k) w xs) : BufAt base w1 b P A G v xs :=
  ⟨hm.block h.box (hn _ (Or.inl rfl)), h.bge, h.row.mod hm (fun k hk => hn k (Or.inr (Or.inl hk))), fun x hx => (h.ents x hx).modU hm (hn _ (Or.inr (Or.inr ⟨x, hx, Or.inl rfl⟩))) (hn _ (Or.inr (Or.inr ⟨x, hx, Or.inr rfl⟩))) (hc.sub (fun z hz => by rw [List.mem_singleton.1 hz]; exact hx)), h.ndg, h.ndq⟩
end
end Go.Proofs.Ytcmiajnndmaeiaa
