/- A message's pieces, put in in any order: plain. -/
import Derived.Test.YtcmiajnndmaeiaaLawFs
import Derived.Test.YtcmiajnndmaeiaaIRow
set_option linter.unusedVariables false
set_option linter.unusedSimpArgs false
namespace Go.Proofs.Ytcmiajnndmaeiaa
open Go.RowKit Go.Proofs.YtcmiajnndmaeiaaW.PrintWords Go.Proofs.YtcmiajnndmaeiaaW.PrintLast Go.Proofs.YtcmiajnndmaeiaaW.PrintMore
/-- What stands there when the pieces of left are still to come. -/
def bkParts (L : List (List Nat)) (left : List Nat) : List (List Nat) := (List.range L.length).map fun j => if j ∈ left then [] else L.getD j []
theorem bkParts_length (L : List (List Nat)) (left : List Nat) : (bkParts L left).length = L.length := by simp [bkParts]
theorem bkParts_get {L : List (List Nat)} {left : List Nat} {j : Nat} (hj : j < L.length) : (bkParts L left)[j]? = some (if j ∈ left then [] else L.getD j []) := by
  unfold bkParts
  rw [List.getElem?_map, List.getElem?_range hj]
  rfl
theorem bkParts_getD {L : List (List Nat)} {left : List Nat} {j : Nat} (hj : j < L.length) : (bkParts L left).getD j [] = if j ∈ left then [] else L.getD j [] := by
  rw [List.getD_eq_getElem?_getD, bkParts_get hj]
  rfl
theorem bkParts_set {L : List (List Nat)} {left left2 : List Nat} {at_ : Nat} (ha : at_ < L.length) (h : ∀ j, j ∈ left2 ↔ j ∈ left ∧ j ≠ at_) : (bkParts L left).set at_ (L.getD at_ []) = bkParts L left2 := by
  apply List.ext_getElem?
  intro j
  rw [List.getElem?_set]
  by_cases hj : j < L.length
  · rw [bkParts_get hj, bkParts_get hj, bkParts_length]
    by_cases e : at_ = j
    · subst e
      rw [if_pos rfl, if_pos ha, if_neg (fun h1 => ((h at_).1 h1).2 rfl)]
    · rw [if_neg e]
      by_cases h1 : j ∈ left
      · rw [if_pos h1, if_pos ((h j).2 ⟨h1, fun e' => e e'.symm⟩)]
      · rw [if_neg h1, if_neg (fun h2 => h1 ((h j).1 h2).1)]
  · rw [if_neg (by omega), List.getElem?_eq_none (by rw [bkParts_length]; omega), List.getElem?_eq_none (by rw [bkParts_length]; omega)]
theorem bkParts_all {L : List (List Nat)} {left : List Nat} (h : ∀ j, j < L.length → j ∈ left) : bkParts L left = List.replicate L.length [] := by
  apply List.ext_getElem?
  intro j
  by_cases hj : j < L.length
  · rw [bkParts_get hj, if_pos (h j hj), List.getElem?_replicate, if_pos hj]
  · rw [List.getElem?_eq_none (by rw [bkParts_length]; omega), List.getElem?_eq_none (by rw [List.length_replicate]; omega)]
theorem bkParts_nil (L : List (List Nat)) : bkParts L [] = L := by
  apply List.ext_getElem?
  intro j
  by_cases hj : j < L.length
  · rw [bkParts_get hj, if_neg (by simp), List.getD_eq_getElem?_getD, List.getElem?_eq_getElem hj]; rfl
  · rw [List.getElem?_eq_none (by rw [bkParts_length]; omega), List.getElem?_eq_none (by omega)]
theorem bkParts_any {L : List (List Nat)} {left : List Nat} (hne : ∀ p ∈ L, 0 < p.length) (hs : ∀ j ∈ left, j < L.length) : (bkParts L left).any isNil = decide (left ≠ []) := by
  by_cases h : left = []
  · subst h
    rw [bkParts_nil]
    simp only [ne_eq, not_true_eq_false, decide_false]
    rw [List.any_eq_false]
    intro p hp
    have := hne p hp
    cases p with
    | nil => simp at this
    | cons a l => exact fun h => by cases h
  · rw [decide_eq_true h, List.any_eq_true]
    obtain ⟨j, hj⟩ := List.exists_mem_of_ne_nil left h
    refine ⟨[], List.mem_of_getElem? (i := j) ?_, rfl⟩
    rw [bkParts_get (hs j hj), if_pos hj]
theorem sizeL_set {ps : List (List Nat)} {i : Nat} {p : List Nat} (hi : i < ps.length) (h0 : ps.getD i [] = []) : sizeL (ps.set i p) = sizeL ps + p.length := by
  induction ps generalizing i with
  | nil => simp at hi
  | cons a ps ih =>
    cases i with
    | zero =>
      have : a = [] := h0
      subst this
      simp [sizeL]
      omega
    | succ i =>
      have := ih (i := i) (by simpa using hi) h0
      simp only [List.set_cons_succ, sizeL, List.map_cons, List.sum_cons] at this ⊢
      omega
theorem sizeL_mono : ∀ {ps qs : List (List Nat)}, ps.length = qs.length → (∀ j, (ps.getD j []).length ≤ (qs.getD j []).length) → sizeL ps ≤ sizeL qs
  | [], [], _, _ => Nat.le_refl _
  | a :: ps, c :: qs, hl, h => by
    have h1 := h 0
    have h2 := sizeL_mono (ps := ps) (qs := qs) (by simpa using hl) (fun j => h (j + 1))
    simp only [sizeL, List.map_cons, List.sum_cons] at h2 ⊢
    have h3 : a.length ≤ c.length := h1
    omega
theorem bkParts_size (L : List (List Nat)) (left : List Nat) : sizeL (bkParts L left) ≤ sizeL L := by
  refine sizeL_mono (bkParts_length _ _) (fun j => ?_)
  by_cases hj : j < L.length
  · rw [bkParts_getD hj]
    split
    · exact Nat.zero_le _
    · exact Nat.le_refl _
  · rw [List.getD_eq_getElem?_getD, List.getElem?_eq_none (by rw [bkParts_length]; omega)]
    exact Nat.zero_le _
/-- What the loop of FragBack keeps of the buffer. -/
def BkSt (L : List (List Nat)) (left : List Nat) (xs : List Cel) : Prop :=
  (xs = [] ∧ (left = [] ∨ ∀ j, j < L.length → j ∈ left)) ∨ ∃ g q, left ≠ [] ∧ xs = [⟨g, q, ⟨pS, 3, 7, bkParts L left⟩⟩]
theorem bk_room {L : List (List Nat)} {g q n : Nat} {ps : List (List Nat)} {o : Option Nat} (hs : sizeL ps + n ≤ 20000) (ho : o = some g) : roomR 20000 20000 n pS o [⟨g, q, ⟨pS, 3, 7, ps⟩⟩] = ⟨[], true⟩ := by
  subst ho
  have h2 : othersL pS (some g) [⟨g, q, ⟨pS, 3, 7, ps⟩⟩] = [] := by simp [othersL, neO]
  have h5 : sumB (mine_ pS) [⟨g, q, ⟨pS, 3, 7, ps⟩⟩] = sizeL ps := by simp [sumB, mine_]
  have h6 : sumB (fun _ => true) [⟨g, q, ⟨pS, 3, 7, ps⟩⟩] = sizeL ps := by simp [sumB]
  unfold roomR
  rw [h2, h5, h6]
  have h7 : sortL [] = [] := rfl
  simp only [h7, List.take_nil]
  have h8 : sumC [] = 0 := rfl
  rw [h8]
  congr 1
  simp
  omega
theorem bk_room0 {n : Nat} (h : n ≤ 20000) : roomR 20000 20000 n pS none [] = ⟨[], true⟩ := by
  unfold roomR
  have h8 : othersL pS none [] = [] := rfl
  have h9 : sumB (mine_ pS) [] = 0 := rfl
  have h10 : sumB (fun _ => true) [] = 0 := rfl
  have h11 : sortL [] = [] := rfl
  have h12 : sumC [] = 0 := rfl
  rw [h8, h9, h10]
  simp only [h11, List.take_nil]
  rw [h12]
  congr 1
  simp
  omega
/-- A piece is put in. -/
theorem bk_add {L : List (List Nat)} {left left2 : List Nat} {xs : List Cel} {at_ g q : Nat} (h : BkSt L left xs) (hne : ∀ p ∈ L, 0 < p.length) (hs : ∀ j ∈ left, j < L.length) (ha : at_ ∈ left) (h2 : ∀ j, j ∈ left2 ↔ j ∈ left ∧ j ≠ at_)
    (hsz : sizeL L ≤ 20000) (hm : mayB 3 (at_ : Int) (L.length : Int) (L.getD at_ []).length = true) :
    ∃ xs2, addC 20000 20000 10 xs pS 3 (at_ : Int) (L.length : Int) (L.getD at_ []) 7 g q = (xs2, if left2 = [] then L.flatten else [], 0) ∧ BkSt L left2 xs2 := by
  have hal := hs at_ ha
  have hs2 : ∀ j ∈ left2, j < L.length := fun j hj => hs j ((h2 j).1 hj).1
  have hany := bkParts_any hne hs2
  have hset := bkParts_set (left := left) (left2 := left2) hal h2
  have hgn : (bkParts L left).getD at_ [] = [] := by rw [bkParts_getD hal, if_pos ha]
  have hfit : sizeL (bkParts L left) + (L.getD at_ []).length ≤ 20000 := by
    have h5 := sizeL_set (p := L.getD at_ []) (by rw [bkParts_length]; exact hal) hgn
    rw [hset] at h5
    have h6 := bkParts_size L left2
    omega
  rcases h with ⟨rfl, h | h⟩ | ⟨g0, q0, hl, rfl⟩
  · rw [h] at ha
    simp at ha
  · rw [addC_new hm rfl]
    have h7 := bk_room0 (n := (L.getD at_ []).length) (by omega)
    show ∃ xs2, addNew 20000 20000 [] pS 3 (at_ : Int) (L.length : Int) (L.getD at_ []) 7 g q = _ ∧ _
    rw [addNew_eq, h7, if_neg (by decide), Int.toNat_natCast, Int.toNat_natCast, ← bkParts_all h, hset]
    unfold endAdd
    by_cases hz : left2 = []
    · subst hz
      rw [if_neg (by rw [hany]; decide), bkParts_nil, if_pos rfl]
      exact ⟨_, rfl, Or.inl ⟨by simp [stay], Or.inl rfl⟩⟩
    · rw [if_pos (by rw [hany]; simpa using hz), if_neg hz]
      exact ⟨_, rfl, Or.inr ⟨g, q, hz, rfl⟩⟩
  · have ho : ([⟨g0, q0, ⟨pS, 3, 7, bkParts L left⟩⟩] : List Cel).filter (fun x => !old_ 10 7 x) = [⟨g0, q0, ⟨pS, 3, 7, bkParts L left⟩⟩] := rfl
    rw [addC_own (y := ⟨g0, q0, ⟨pS, 3, 7, bkParts L left⟩⟩) hm (by rw [ho]; simp [own_]), ho]
    rw [addOwn_none (y := ⟨g0, q0, ⟨pS, 3, 7, bkParts L left⟩⟩) (bkParts_length L left).symm hgn, bk_room (L := L) hfit rfl, if_neg (by decide)]
    show ∃ xs2, endAdd g0 ((bkParts L left).set at_ (L.getD at_ [])) ((stay [] [⟨g0, q0, ⟨pS, 3, 7, bkParts L left⟩⟩]).map (putPart g0 ((bkParts L left).set at_ (L.getD at_ [])))) = _ ∧ _
    rw [hset]
    unfold endAdd
    by_cases hz : left2 = []
    · subst hz
      rw [if_neg (by rw [hany]; decide), bkParts_nil, if_pos rfl]
      exact ⟨_, rfl, Or.inl ⟨by simp [stay, putPart], Or.inl rfl⟩⟩
    · rw [if_pos (by rw [hany]; simpa using hz), if_neg hz]
      exact ⟨_, rfl, Or.inr ⟨g0, q0, hz, by simp [stay, putPart]⟩⟩
/-- A piece is put in a second time. -/
theorem bk_twice {L : List (List Nat)} {left2 : List Nat} {xs : List Cel} {at_ g q : Nat} (h : BkSt L left2 xs) (hne : ∀ p ∈ L, 0 < p.length) (hz : left2 ≠ []) (hal : at_ < L.length) (ha : at_ ∉ left2)
    (hm : mayB 3 (at_ : Int) (L.length : Int) (L.getD at_ []).length = true) :
    addC 20000 20000 10 xs pS 3 (at_ : Int) (L.length : Int) (L.getD at_ []) 8 g q = (xs, [], 0) := by
  rcases h with ⟨rfl, h | h⟩ | ⟨g0, q0, hl, rfl⟩
  · exact absurd h hz
  · exact absurd (h at_ hal) ha
  · have ho : ([⟨g0, q0, ⟨pS, 3, 7, bkParts L left2⟩⟩] : List Cel).filter (fun x => !old_ 10 8 x) = [⟨g0, q0, ⟨pS, 3, 7, bkParts L left2⟩⟩] := rfl
    rw [addC_own (y := ⟨g0, q0, ⟨pS, 3, 7, bkParts L left2⟩⟩) hm (by rw [ho]; simp [own_]), ho]
    have h1 : (bkParts L left2).getD at_ [] = L.getD at_ [] := by rw [bkParts_getD hal, if_neg ha]
    exact addOwn_is (y := ⟨g0, q0, ⟨pS, 3, 7, bkParts L left2⟩⟩) (bb := true) (bkParts_length L left2).symm h1 (hne _ (by rw [List.getD_eq_getElem?_getD, List.getElem?_eq_getElem hal]; exact List.getElem_mem _)) (by simp)
theorem bk_len {L : List (List Nat)} {left : List Nat} {xs : List Cel} (h : BkSt L left xs) : xs.length ≤ 1 := by
  rcases h with ⟨rfl, _⟩ | ⟨g, q, _, rfl⟩
  · simp
  · simp
theorem bk_ok {L : List (List Nat)} {left : List Nat} {xs : List Cel} (h : BkSt L left xs) (h1 : 1 ≤ L.length) (h2 : L.length ≤ 64) (hl : ∀ i, i < L.length → (L.getD i []).length ≤ 1024) (hb : ∀ p ∈ L, BytesOK p) : ∀ x ∈ xs, EntOk x.e := by
  intro x hx
  rcases h with ⟨rfl, _⟩ | ⟨g, q, _, rfl⟩
  · simp at hx
  · rw [List.mem_singleton.1 hx]
    have hm : ∀ p ∈ bkParts L left, p.length ≤ 1024 ∧ BytesOK p := fun p hp => by
      obtain ⟨j, hj, rfl⟩ := List.mem_map.1 hp
      rw [List.mem_range] at hj
      split
      · exact ⟨by simp, BytesOK.nil⟩
      · refine ⟨hl j hj, hb _ ?_⟩
        rw [List.getD_eq_getElem?_getD, List.getElem?_eq_getElem hj]
        exact List.getElem_mem _
    show EntOk ⟨pS, 3, 7, bkParts L left⟩
    exact ⟨by rw [bkParts_length]; exact h1, by rw [bkParts_length]; exact h2, fun p hp => (hm p hp).1, fun p hp => (hm p hp).2, (by decide : 7 < 2 ^ 64), (by decide : (0 : Int) ≤ 3), (by decide : (3 : Int) ≤ 7)⟩
end Go.Proofs.Ytcmiajnndmaeiaa
