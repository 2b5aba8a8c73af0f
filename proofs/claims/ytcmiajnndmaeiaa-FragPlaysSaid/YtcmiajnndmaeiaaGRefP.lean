/- Texts put together: FragRefP FragRefQ. -/
import Derived.Test.YtcmiajnndmaeiaaFragInv
/- What the reference's Add makes of its entries, and that it is what Buffer.Add makes of its own. Plain. -/
set_option linter.unusedVariables false
set_option linter.unusedSimpArgs false
namespace Go.Proofs.Ytcmiajnndmaeiaa
open Go.RowKit Go.Proofs.YtcmiajnndmaeiaaW.PrintWords Go.Proofs.YtcmiajnndmaeiaaW.PrintLast Go.Proofs.YtcmiajnndmaeiaaW.PrintMore
def mineE (peer : ByteArray) (x : Ent) : Bool := x.peer.toList == peer.toList
def ownE (peer : ByteArray) (msg : Int) (x : Ent) : Bool := (x.peer.toList == peer.toList) && (x.msg == msg)
def otherE (peer : ByteArray) (msg : Int) (x : Ent) : Bool := (x.peer.toList == peer.toList) && (x.msg != msg)
def totE (es : List Ent) : Nat := (es.map fun x => sizeL x.parts).sum
def heldE (peer : ByteArray) (es : List Ent) : Nat := (es.map fun x => if mineE peer x = true then sizeL x.parts else 0).sum
/-- The first one of p that was born least, of the first k. -/
def oldK (p : Ent → Bool) (es : List Ent) : Nat → Option Nat
  | 0 => none
  | k + 1 => match es[k]? with
    | none => oldK p es k
    | some x => match oldK p es k with
      | none => if p x then some k else none
      | some a => if p x && decide (x.born < (es[a]?.map Ent.born).getD 0) then some k else some a
/-- The oldest ones go, till it fits. -/
def rloop (P n : Nat) (peer : ByteArray) (msg : Int) : Nat → List Ent → Option (List Ent)
  | 0, _ => none
  | f + 1, es => if heldE peer es + n ≤ P then some es else match oldK (otherE peer msg) es es.length with
    | none => none
    | some i => rloop P n peer msg f (es.eraseIdx i)
def putE (es : List Ent) (i : Nat) (ps : List (List Nat)) : List Ent := es.modify i fun e => ⟨e.peer, e.msg, e.born, ps⟩
/-- Once there is room. -/
def endR (es : List Ent) (peer : ByteArray) (msg part parts : Int) (body : List Nat) (now : Nat) : List Ent × List Nat × Nat :=
  let i := es.findIdx (ownE peer msg)
  let es2 := if i < es.length then es else es ++ [⟨peer, msg, now, List.replicate parts.toNat []⟩]
  let ps := ((es2[i]?.map Ent.parts).getD []).set part.toNat body
  if ps.any isNil then (putE es2 i ps, [], 0) else ((putE es2 i ps).eraseIdx i, ps.flatten, 0)
def tailR (P A : Nat) (es : List Ent) (peer : ByteArray) (msg part parts : Int) (body : List Nat) (now : Nat) : List Ent × List Nat × Nat :=
  match rloop P body.length peer msg (es.length + 1) es with
  | none => (es, [], 42)
  | some es2 => if A < totE es2 + body.length then (es, [], 42) else endR es2 peer msg part parts body now
def addR (P A G : Nat) (es : List Ent) (peer : ByteArray) (msg part parts : Int) (body : List Nat) (now : Nat) : List Ent × List Nat × Nat :=
  if mayB msg part parts body.length = false then (es, [], 1)
  else match (es.filter fun x => !goneB G now x.born).find? (ownE peer msg) with
    | some y => if (y.parts.length : Int) ≠ parts then ((es.filter fun x => !goneB G now x.born), [], 41)
      else if isNil (y.parts.getD part.toNat []) = false then (if y.parts.getD part.toNat [] = body then ((es.filter fun x => !goneB G now x.born), [], 0) else ((es.filter fun x => !goneB G now x.born), [], 41))
      else tailR P A (es.filter fun x => !goneB G now x.born) peer msg part parts body now
    | none => tailR P A (es.filter fun x => !goneB G now x.born) peer msg part parts body now
/-! ### the oldest one -/
theorem oldK_none {p : Ent → Bool} {es : List Ent} : ∀ {k : Nat}, oldK p es k = none → ∀ j x, j < k → es[j]? = some x → p x = false
  | 0, _, j, x, hj, _ => by omega
  | k + 1, h, j, x, hj, hx => by
    unfold oldK at h
    cases hk : es[k]? with
    | none =>
      rw [hk] at h
      rcases Nat.lt_or_ge j k with h1 | h1
      · exact oldK_none (k := k) h j x h1 hx
      · have : j = k := by omega
        rw [this, hk] at hx
        cases hx
    | some y =>
      rw [hk] at h
      dsimp only at h
      cases ho : oldK p es k with
      | none =>
        rw [ho] at h
        dsimp only at h
        rcases Nat.lt_or_ge j k with h1 | h1
        · exact oldK_none (k := k) ho j x h1 hx
        · have : j = k := by omega
          rw [this, hk] at hx
          injection hx with hx
          rw [← hx]
          by_cases hp : p y = true
          · rw [if_pos hp] at h; cases h
          · simpa using hp
      | some a =>
        rw [ho] at h
        dsimp only at h
        split at h <;> cases h
theorem oldK_some {p : Ent → Bool} {es : List Ent} : ∀ {k a : Nat}, oldK p es k = some a → a < k ∧ ∃ x, es[a]? = some x ∧ p x = true ∧ (∀ j y, j < a → es[j]? = some y → p y = true → x.born < y.born) ∧ (∀ j y, j < k → es[j]? = some y → p y = true → x.born ≤ y.born)
  | 0, a, h => by cases h
  | k + 1, a, h => by
    unfold oldK at h
    cases hk : es[k]? with
    | none =>
      rw [hk] at h
      obtain ⟨h1, x, h2, h3, h4, h5⟩ := oldK_some (k := k) h
      refine ⟨by omega, x, h2, h3, h4, fun j y hj hy hp => ?_⟩
      rcases Nat.lt_or_ge j k with h6 | h6
      · exact h5 j y h6 hy hp
      · have : j = k := by omega
        rw [this, hk] at hy
        cases hy
    | some z =>
      rw [hk] at h
      dsimp only at h
      cases ho : oldK p es k with
      | none =>
        rw [ho] at h
        dsimp only at h
        by_cases hp : p z = true
        · rw [if_pos hp] at h
          injection h with h
          subst h
          refine ⟨by omega, z, hk, hp, fun j y hj hy hpy => ?_, fun j y hj hy hpy => ?_⟩
          · rw [oldK_none ho j y hj hy] at hpy; cases hpy
          · rcases Nat.lt_or_ge j k with h6 | h6
            · rw [oldK_none ho j y h6 hy] at hpy; cases hpy
            · have : j = k := by omega
              rw [this, hk] at hy
              injection hy with hy
              rw [hy]
              exact Nat.le_refl _
        · rw [if_neg hp] at h; cases h
      | some b =>
        rw [ho] at h
        dsimp only at h
        obtain ⟨h1, x, h2, h3, h4, h5⟩ := oldK_some (k := k) ho
        rw [h2] at h
        by_cases hc : (p z && decide (z.born < ((some x).map Ent.born).getD 0)) = true
        · rw [if_pos hc] at h
          injection h with h
          subst h
          simp only [Bool.and_eq_true, decide_eq_true_eq, Option.map_some, Option.getD_some] at hc
          refine ⟨by omega, z, hk, hc.1, fun j y hj hy hpy => ?_, fun j y hj hy hpy => ?_⟩
          · have := h5 j y hj hy hpy; omega
          · rcases Nat.lt_or_ge j k with h6 | h6
            · have := h5 j y h6 hy hpy; omega
            · have : j = k := by omega
              rw [this, hk] at hy
              injection hy with hy
              rw [hy]
              exact Nat.le_refl _
        · rw [if_neg hc] at h
          injection h with h
          subst h
          refine ⟨by omega, x, h2, h3, h4, fun j y hj hy hpy => ?_⟩
          rcases Nat.lt_or_ge j k with h6 | h6
          · exact h5 j y h6 hy hpy
          · have : j = k := by omega
            rw [this, hk] at hy
            injection hy with hy
            rw [← hy] at hpy ⊢
            simp only [hpy, Bool.true_and, decide_eq_true_eq, Option.map_some, Option.getD_some] at hc
            omega
/-! ### the order -/
theorem ins_front {x : Cel} : ∀ {S : List Cel}, (∀ y ∈ S, x.e.born < y.e.born) → insL x S = x :: S
  | [], _ => rfl
  | y :: S, h => by rw [insL, if_pos (h y (by simp))]
theorem ins_behind {x z : Cel} {S : List Cel} (h : x.e.born ≤ z.e.born) : insL z (x :: S) = x :: insL z S := by rw [insL, if_neg (by omega)]
theorem fold_behind {x : Cel} : ∀ {b : List Cel} {S : List Cel}, (∀ z ∈ b, x.e.born ≤ z.e.born) → b.foldl (fun S x => insL x S) (x :: S) = x :: b.foldl (fun S x => insL x S) S
  | [], _, _ => rfl
  | z :: b, S, h => by
    rw [List.foldl_cons, List.foldl_cons, ins_behind (h z (by simp)), fold_behind (fun y hy => h y (by simp [hy]))]
theorem sort_first {a b : List Cel} {x : Cel} (ha : ∀ y ∈ a, x.e.born < y.e.born) (hb : ∀ y ∈ b, x.e.born ≤ y.e.born) : sortL (a ++ x :: b) = x :: sortL (a ++ b) := by
  unfold sortL
  rw [List.foldl_append, List.foldl_cons, List.foldl_append]
  rw [ins_front (x := x) (S := a.foldl (fun S x => insL x S) []) (fun y hy => ha y (sortL_mem (xs := a).1 hy)), fold_behind hb]
/-! ### room -/
theorem heldE_map (peer : ByteArray) (xs : List Cel) : heldE peer (xs.map Cel.e) = sumB (mine_ peer) xs := by
  induction xs with
  | nil => rfl
  | cons x xs ih =>
    rw [sumB_cons, ← ih]
    simp only [heldE, List.map_cons, List.sum_cons]
    rfl
theorem totE_map (xs : List Cel) : totE (xs.map Cel.e) = sumB (fun _ => true) xs := by
  rw [sumB_true]
  unfold totE sumC sizeC
  rw [List.map_map]
  rfl
theorem split_at {xs : List Cel} {i : Nat} {e : Ent} (h : (xs.map Cel.e)[i]? = some e) : ∃ a x b, xs = a ++ x :: b ∧ a.length = i ∧ x.e = e := by
  rw [List.getElem?_map] at h
  obtain ⟨x, hx, he⟩ := Option.map_eq_some_iff.1 h
  obtain ⟨hi, hx⟩ := List.getElem?_eq_some_iff.1 hx
  refine ⟨xs.take i, x, xs.drop (i + 1), ?_, by rw [List.length_take]; omega, he⟩
  rw [← hx, List.getElem_cons_drop, List.take_append_drop]
theorem mem_at {xs : List Cel} {x : Cel} (h : x ∈ xs) : ∃ j : Nat, j < xs.length ∧ (xs.map Cel.e)[j]? = some x.e := by
  obtain ⟨j, hj, hx⟩ := List.getElem_of_mem h
  exact ⟨j, hj, by rw [List.getElem?_map, List.getElem?_eq_getElem hj, hx]; rfl⟩
theorem room_ref {P n : Nat} {peer : ByteArray} {msg : Int} : ∀ (k : Nat) (xs : List Cel), xs.length = k → (xs.map Cel.g).Nodup →
    (rloop P n peer msg (k + 1) (xs.map Cel.e) = if 0 ≤ ((P : Int) - n - sumB (mine_ peer) xs) + sumC ((sortL (xs.filter fun x => otherE peer msg x.e)).take (roomK ((P : Int) - n - sumB (mine_ peer) xs) (sortL (xs.filter fun x => otherE peer msg x.e)))) then some ((stay ((sortL (xs.filter fun x => otherE peer msg x.e)).take (roomK ((P : Int) - n - sumB (mine_ peer) xs) (sortL (xs.filter fun x => otherE peer msg x.e)))) xs).map Cel.e) else none) ∧
    sumB (fun _ => true) (stay ((sortL (xs.filter fun x => otherE peer msg x.e)).take (roomK ((P : Int) - n - sumB (mine_ peer) xs) (sortL (xs.filter fun x => otherE peer msg x.e)))) xs) + sumC ((sortL (xs.filter fun x => otherE peer msg x.e)).take (roomK ((P : Int) - n - sumB (mine_ peer) xs) (sortL (xs.filter fun x => otherE peer msg x.e)))) = sumB (fun _ => true) xs := by
  have stay0 : ∀ xs : List Cel, stay [] xs = xs := fun xs => by unfold stay; exact List.filter_eq_self.2 (fun _ _ => rfl)
  intro k
  induction k with
  | zero =>
    intro xs hl hn
    obtain rfl := List.length_eq_zero_iff.1 hl
    rw [rloop]
    rw [heldE_map]
    have hS : sortL (([] : List Cel).filter fun x => otherE peer msg x.e) = [] := rfl
    rw [hS, sumB_nil, sumB_nil]
    have h0 : ([] : List Cel).take (roomK ((P : Int) - n - (0 : Nat)) []) = [] := rfl
    rw [h0, stay0]
    refine ⟨?_, rfl⟩
    simp only [sumC, List.map_nil, List.sum_nil]
    by_cases h : n ≤ P
    · rw [if_pos (by omega), if_pos (by omega)]
    · rw [if_neg (by omega), if_neg (by omega)]
      rfl
  | succ k ih =>
    intro xs hl hn
    rw [rloop, heldE_map]
    by_cases hf : sumB (mine_ peer) xs + n ≤ P
    · rw [if_pos hf]
      have hk0 : ∀ L, roomK ((P : Int) - n - sumB (mine_ peer) xs) L = 0 := fun L => by
        cases L with
        | nil => rfl
        | cons a L => rw [roomK, if_neg (by omega)]
      rw [hk0, List.take_zero, stay0]
      refine ⟨by rw [if_pos (by simp only [sumC, List.map_nil, List.sum_nil]; omega)], rfl⟩
    · rw [if_neg hf]
      have hlm : (xs.map Cel.e).length = k + 1 := by rw [List.length_map]; exact hl
      rw [hlm]
      cases ho : oldK (otherE peer msg) (xs.map Cel.e) (k + 1) with
      | none =>
        have hE : (xs.filter fun x => otherE peer msg x.e) = [] := by
          rw [List.filter_eq_nil_iff]
          intro x hx
          obtain ⟨j, hj, he⟩ := mem_at hx
          rw [oldK_none ho j x.e (by omega) he]
          decide
        rw [hE]
        have hS : sortL ([] : List Cel) = [] := rfl
        rw [hS]
        have h0 : ∀ z : Int, ([] : List Cel).take (roomK z []) = [] := fun _ => rfl
        rw [h0, stay0]
        refine ⟨?_, rfl⟩
        rw [if_neg (by simp only [sumC, List.map_nil, List.sum_nil]; omega)]
      | some i =>
        obtain ⟨hi, e, hie, hpe, hlt, hle⟩ := oldK_some ho
        obtain ⟨a, x, b, rfl, hal, rfl⟩ := split_at hie
        have hga : ∀ y ∈ a ++ b, y.g ≠ x.g := by
          rw [List.map_append, List.map_cons, List.nodup_append, List.nodup_cons] at hn
          intro y hy e
          rcases List.mem_append.1 hy with hy | hy
          · exact hn.2.2 y.g (List.mem_map_of_mem hy) x.g (by simp) e
          · exact hn.2.1.1 (by rw [← e]; exact List.mem_map_of_mem hy)
        have hn2 : ((a ++ b).map Cel.g).Nodup := hn.sublist (List.Sublist.map _ ((List.sublist_cons_self x b).append_left a))
        have her : ((a ++ x :: b).map Cel.e).eraseIdx i = (a ++ b).map Cel.e := by
          rw [List.map_append, List.map_cons, ← hal, List.eraseIdx_append_of_length_le (by rw [List.length_map]; exact Nat.le_refl _)]
          rw [List.length_map, Nat.sub_self, List.eraseIdx_cons_zero, List.map_append]
        have hF : (a ++ x :: b).filter (fun x => otherE peer msg x.e) = a.filter (fun x => otherE peer msg x.e) ++ x :: b.filter (fun x => otherE peer msg x.e) := by
          rw [List.filter_append, List.filter_cons_of_pos (p := fun x : Cel => otherE peer msg x.e) hpe]
        have hS : sortL ((a ++ x :: b).filter (fun x => otherE peer msg x.e)) = x :: sortL ((a ++ b).filter (fun x => otherE peer msg x.e)) := by
          rw [hF, sort_first, List.filter_append]
          · intro y hy
            obtain ⟨hy1, hy2⟩ := List.mem_filter.1 hy
            obtain ⟨j, hj, he⟩ := mem_at hy1
            refine hlt j y.e (by omega) ?_ hy2
            rw [List.map_append, List.getElem?_append_left (by rw [List.length_map]; exact hj)]
            exact he
          · intro y hy
            obtain ⟨hy1, hy2⟩ := List.mem_filter.1 hy
            obtain ⟨j, hj, he⟩ := mem_at (xs := a ++ x :: b) (x := y) (by simp [hy1])
            exact hle j y.e (by omega) he hy2
        have hmx : mine_ peer x = true := by
          unfold otherE at hpe
          simp only [Bool.and_eq_true] at hpe
          exact hpe.1
        have hsum : ∀ p : Cel → Bool, sumB p (a ++ x :: b) = sumB p (a ++ b) + if p x then sizeC x else 0 := fun p => by
          have h1 : ∀ u v : List Cel, sumB p (u ++ v) = sumB p u + sumB p v := fun u v => by
            unfold sumB
            rw [List.filter_append, List.map_append, List.sum_append]
          rw [h1, sumB_cons, h1]
          omega
        have hstay : ∀ gone : List Cel, stay (x :: gone) (a ++ x :: b) = stay gone (a ++ b) := fun gone => by
          unfold stay
          rw [List.filter_append, List.filter_append]
          have h1 : ∀ l : List Cel, (∀ y ∈ l, y.g ≠ x.g) → l.filter (fun z => !((x :: gone).any fun y => y.g == z.g)) = l.filter (fun z => !(gone.any fun y => y.g == z.g)) := fun l hl => by
            refine List.filter_congr (fun z hz => ?_)
            rw [List.any_cons]
            have : (x.g == z.g) = false := by simpa using fun e => hl z hz e.symm
            rw [this, Bool.false_or]
          rw [h1 a (fun y hy => hga y (by simp [hy])), List.filter_cons_of_neg (by simp), h1 b (fun y hy => hga y (by simp [hy]))]
        have hlk : (a ++ b).length = k := by
          rw [List.length_append, List.length_cons] at hl
          rw [List.length_append]
          omega
        obtain ⟨ih1, ih2⟩ := ih (a ++ b) hlk hn2
        have hleft : (P : Int) - n - sumB (mine_ peer) (a ++ x :: b) + sizeC x = (P : Int) - n - sumB (mine_ peer) (a ++ b) := by
          rw [hsum, if_pos hmx]
          omega
        have hneg : (P : Int) - n - sumB (mine_ peer) (a ++ x :: b) < 0 := by omega
        dsimp only
        rw [her, ih1, hS, roomK, if_pos hneg, hleft, List.take_succ_cons, hstay]
        have hsc : ∀ l : List Cel, ((sumC (x :: l) : Nat) : Int) = sizeC x + sumC l := fun l => by simp [sumC]
        have hsc2 : ∀ l : List Cel, sumC (x :: l) = sizeC x + sumC l := fun l => by simp [sumC]
        refine ⟨?_, ?_⟩
        · have h3 : ∀ l : List Cel, (P : Int) - n - sumB (mine_ peer) (a ++ x :: b) + (sumC (x :: l) : Nat) = (P : Int) - n - sumB (mine_ peer) (a ++ b) + sumC l := fun l => by
            rw [hsc]
            omega
          rw [h3]
        · rw [hsum, if_pos rfl, hsc2]
          omega
end Go.Proofs.Ytcmiajnndmaeiaa
/- What Buffer.Add makes of its entries is what the reference's Add makes of them. Plain. -/
set_option linter.unusedVariables false
set_option linter.unusedSimpArgs false
namespace Go.Proofs.Ytcmiajnndmaeiaa
open Go.RowKit Go.Proofs.YtcmiajnndmaeiaaW.PrintWords Go.Proofs.YtcmiajnndmaeiaaW.PrintLast Go.Proofs.YtcmiajnndmaeiaaW.PrintMore
theorem putE_at {x : Ent} {b : List Ent} {ps : List (List Nat)} : ∀ {a : List Ent}, putE (a ++ x :: b) a.length ps = a ++ ⟨x.peer, x.msg, x.born, ps⟩ :: b
  | [] => rfl
  | y :: a => by
    have h := putE_at (x := x) (b := b) (ps := ps) (a := a)
    unfold putE at h ⊢
    rw [List.cons_append, List.length_cons, List.modify_succ_cons, h, List.cons_append]
theorem erase_at {α : Type} {x : α} {b : List α} : ∀ {a : List α}, (a ++ x :: b).eraseIdx a.length = a ++ b
  | [] => rfl
  | y :: a => by rw [List.cons_append, List.length_cons, List.eraseIdx_cons_succ, erase_at, List.cons_append]
theorem get_at {α : Type} {x : α} {b : List α} : ∀ {a : List α}, (a ++ x :: b)[a.length]? = some x
  | [] => rfl
  | y :: a => by rw [List.cons_append, List.length_cons, List.getElem?_cons_succ]; exact get_at
theorem endR_own {a b : List Ent} {x : Ent} {peer : ByteArray} {msg part parts : Int} {body : List Nat} {now : Nat} (ha : ∀ y ∈ a, ownE peer msg y = false) (hx : ownE peer msg x = true) :
    endR (a ++ x :: b) peer msg part parts body now = if (x.parts.set part.toNat body).any isNil then (a ++ ⟨x.peer, x.msg, x.born, x.parts.set part.toNat body⟩ :: b, [], 0) else (a ++ b, (x.parts.set part.toNat body).flatten, 0) := by
  have hi : (a ++ x :: b).findIdx (ownE peer msg) = a.length := by
    refine findIdx_hit _ _ a.length (by simp) (fun y hy => ha y ?_) (by simpa using hx)
    rw [List.take_append_of_le_length (Nat.le_refl _), List.take_length] at hy
    exact hy
  unfold endR
  rw [hi]
  dsimp only
  rw [if_pos (show a.length < (a ++ x :: b).length by simp), get_at]
  dsimp only [Option.map_some, Option.getD_some]
  have h2 : ((⟨x.peer, x.msg, x.born, x.parts.set part.toNat body⟩ : Ent) :: b) = [] ++ ⟨x.peer, x.msg, x.born, x.parts.set part.toNat body⟩ :: b := rfl
  rw [putE_at, erase_at]
theorem endR_new {es : List Ent} {peer : ByteArray} {msg part parts : Int} {body : List Nat} {now : Nat} (ha : ∀ y ∈ es, ownE peer msg y = false) :
    endR es peer msg part parts body now = if ((List.replicate parts.toNat []).set part.toNat body).any isNil then (es ++ [⟨peer, msg, now, (List.replicate parts.toNat []).set part.toNat body⟩], [], 0) else (es, ((List.replicate parts.toNat []).set part.toNat body).flatten, 0) := by
  have hi : es.findIdx (ownE peer msg) = es.length := findIdx_miss _ _ ha
  unfold endR
  rw [hi]
  dsimp only
  rw [if_neg (Nat.lt_irrefl es.length), get_at]
  dsimp only [Option.map_some, Option.getD_some]
  rw [putE_at, erase_at, List.append_nil]
theorem filter_map_e (q : Ent → Bool) (xs : List Cel) : (xs.map Cel.e).filter q = (xs.filter fun x => q x.e).map Cel.e := by
  rw [List.filter_map]
  rfl
theorem own_uniq {xs : List Cel} (hu : xs.Pairwise fun a b => ¬ (a.e.peer.toList = b.e.peer.toList ∧ a.e.msg = b.e.msg)) {x y : Cel} (hx : x ∈ xs) (hy : y ∈ xs) (h1 : x.e.peer.toList = y.e.peer.toList) (h2 : x.e.msg = y.e.msg) : x = y := by
  induction xs with
  | nil => cases hx
  | cons a xs ih =>
    have hp := List.pairwise_cons.1 hu
    rcases List.mem_cons.1 hx with rfl | hx2
    · rcases List.mem_cons.1 hy with rfl | hy2
      · rfl
      · exact absurd ⟨h1, h2⟩ (hp.1 y hy2)
    · rcases List.mem_cons.1 hy with rfl | hy2
      · exact absurd ⟨h1.symm, h2.symm⟩ (hp.1 x hx2)
      · exact ih hp.2 hx2 hy2
theorem others_own {xs : List Cel} {peer : ByteArray} {msg : Int} (hu : xs.Pairwise fun a b => ¬ (a.e.peer.toList = b.e.peer.toList ∧ a.e.msg = b.e.msg)) (hn : (xs.map Cel.g).Nodup) {y : Cel} (hy : y ∈ xs) (ho : own_ peer msg y = true) :
    othersL peer (some y.g) xs = xs.filter fun x => otherE peer msg x.e := by
  simp only [own_, Bool.and_eq_true, beq_iff_eq] at ho
  unfold othersL
  refine List.filter_congr (fun x hx => ?_)
  unfold mine_ neO otherE
  cases hm : (x.e.peer.toList == peer.toList)
  · rfl
  · rw [Bool.true_and, Bool.true_and]
    have hm2 : x.e.peer.toList = peer.toList := by simpa using hm
    by_cases hg : x.g = y.g
    · obtain rfl := g_inj hn hx hy hg
      show (x.g != x.g) = (x.e.msg != msg)
      rw [ho.2]
      simp
    · have : x.e.msg ≠ msg := fun e => hg (by rw [own_uniq hu hx hy (by rw [hm2, ho.1]) (by rw [e, ho.2])])
      show (x.g != y.g) = (x.e.msg != msg)
      rw [show (x.g != y.g) = true by simpa using hg, show (x.e.msg != msg) = true by simpa using this]
theorem others_new {xs : List Cel} {peer : ByteArray} {msg : Int} (hno : ∀ x ∈ xs, own_ peer msg x = false) : othersL peer none xs = xs.filter fun x => otherE peer msg x.e := by
  unfold othersL
  refine List.filter_congr (fun x hx => ?_)
  have h := hno x hx
  unfold own_ at h
  unfold mine_ neO otherE
  cases hm : (x.e.peer.toList == peer.toList)
  · rfl
  · rw [hm, Bool.true_and] at h
    have : x.e.msg ≠ msg := by simpa using h
    rw [show (x.e.msg != msg) = true by simpa using this]
/-- Room, as the reference makes it. -/
theorem tail_is {P A : Nat} {xs : List Cel} {peer : ByteArray} {msg part parts : Int} {body : List Nat} {now : Nat} {o : Option Nat} (hn : (xs.map Cel.g).Nodup) (hO : othersL peer o xs = xs.filter fun x => otherE peer msg x.e) :
    tailR P A (xs.map Cel.e) peer msg part parts body now = if (roomR P A body.length peer o xs).fits = false then (xs.map Cel.e, [], 42) else endR ((stay (roomR P A body.length peer o xs).gone xs).map Cel.e) peer msg part parts body now := by
  obtain ⟨h1, h2⟩ := room_ref (P := P) (n := body.length) (peer := peer) (msg := msg) xs.length xs rfl hn
  have key : ∀ gone : List Cel, (rloop P body.length peer msg (xs.length + 1) (xs.map Cel.e) = if 0 ≤ ((P : Int) - body.length - sumB (mine_ peer) xs) + sumC gone then some ((stay gone xs).map Cel.e) else none) → (sumB (fun _ => true) (stay gone xs) + sumC gone = sumB (fun _ => true) xs) →
      tailR P A (xs.map Cel.e) peer msg part parts body now = if (decide (0 ≤ ((P : Int) - body.length - sumB (mine_ peer) xs) + sumC gone) && decide (0 ≤ ((A : Int) - body.length - sumB (fun _ => true) xs) + sumC gone)) = false then (xs.map Cel.e, [], 42) else endR ((stay gone xs).map Cel.e) peer msg part parts body now := by
    intro gone h1 h2
    unfold tailR
    rw [List.length_map, h1]
    by_cases hf : 0 ≤ ((P : Int) - body.length - sumB (mine_ peer) xs) + sumC gone
    · rw [if_pos hf, decide_eq_true hf, Bool.true_and]
      dsimp only
      rw [totE_map]
      by_cases ha : 0 ≤ ((A : Int) - body.length - sumB (fun _ => true) xs) + sumC gone
      · rw [decide_eq_true ha, if_neg (by omega), if_neg (by decide)]
      · rw [decide_eq_false ha, if_pos (by omega), if_pos rfl]
    · rw [if_neg hf, decide_eq_false hf, Bool.false_and, if_pos rfl]
  unfold roomR
  rw [hO]
  exact key _ h1 h2
theorem split_own {xs : List Cel} {y : Cel} (h : y ∈ xs) : ∃ a b, xs = a ++ y :: b := List.append_of_mem h
theorem addR_is {P A G : Nat} {xs : List Cel} {peer : ByteArray} {msg part parts : Int} {body : List Nat} {now g q : Nat} (hu : xs.Pairwise fun a b => ¬ (a.e.peer.toList = b.e.peer.toList ∧ a.e.msg = b.e.msg)) (hn : (xs.map Cel.g).Nodup) :
    (∀ x ∈ xs, x.g ≠ g) → addR P A G (xs.map Cel.e) peer msg part parts body now = ((addC P A G xs peer msg part parts body now g q).1.map Cel.e, (addC P A G xs peer msg part parts body now g q).2.1, (addC P A G xs peer msg part parts body now g q).2.2) := by
  intro hgn
  unfold addR
  cases hm : mayB msg part parts body.length
  · rw [addC_bad hm, if_pos rfl]
  rw [if_neg (by decide), filter_map_e]
  have hu1 : (xs.filter fun x => !old_ G now x).Pairwise fun a b => ¬ (a.e.peer.toList = b.e.peer.toList ∧ a.e.msg = b.e.msg) := hu.filter _
  have hn1 : ((xs.filter fun x => !old_ G now x).map Cel.g).Nodup := hn.sublist (List.filter_sublist.map _)
  have hg1 : ∀ x ∈ (xs.filter fun x => !old_ G now x), x.g ≠ g := fun x hx => hgn x (List.mem_filter.1 hx).1
  have hfm : (((xs.filter fun x => !old_ G now x).map Cel.e).find? (ownE peer msg)) = ((xs.filter fun x => !old_ G now x).find? (own_ peer msg)).map Cel.e := by
    rw [List.find?_map]
    rfl
  have hff : (xs.filter fun x => !goneB G now x.e.born) = (xs.filter fun x => !old_ G now x) := rfl
  rw [hff, hfm]
  cases hf : (xs.filter fun x => !old_ G now x).find? (own_ peer msg) with
  | some y =>
    rw [addC_own hm hf]
    generalize (xs.filter fun x => !old_ G now x) = xs1 at *
    have hy := List.mem_of_find?_eq_some hf
    have hyo := List.find?_some hf
    dsimp only [Option.map_some]
    unfold addOwn
    split
    · rfl
    split
    · split <;> rfl
    rw [tail_is hn1 (others_own hu1 hn1 hy hyo)]
    split
    · rfl
    have hst : y ∈ stay (roomR P A body.length peer (some y.g) xs1).gone xs1 := by
      refine List.mem_filter.2 ⟨hy, ?_⟩
      have : ((roomR P A body.length peer (some y.g) xs1).gone.any fun z => z.g == y.g) = false := by
        rw [List.any_eq_false]
        intro z hz
        simpa using gone_ne hz
      rw [this]
      rfl
    have hu2 : (stay (roomR P A body.length peer (some y.g) xs1).gone xs1).Pairwise fun a b => ¬ (a.e.peer.toList = b.e.peer.toList ∧ a.e.msg = b.e.msg) := hu1.filter _
    have hn2 : ((stay (roomR P A body.length peer (some y.g) xs1).gone xs1).map Cel.g).Nodup := hn1.sublist (List.filter_sublist.map _)
    generalize (stay (roomR P A body.length peer (some y.g) xs1).gone xs1) = ys at *
    obtain ⟨a, b, rfl⟩ := split_own hst
    have hyo2 := hyo
    simp only [own_, Bool.and_eq_true, beq_iff_eq] at hyo2
    have ha : ∀ z ∈ a.map Cel.e, ownE peer msg z = false := by
      intro z hz
      obtain ⟨x, hx, rfl⟩ := List.mem_map.1 hz
      have h1 := (List.pairwise_append.1 hu2).2.2 x hx y (by simp)
      cases ho : ownE peer msg x.e
      · rfl
      · unfold ownE at ho
        simp only [Bool.and_eq_true, beq_iff_eq] at ho
        exact absurd ⟨by rw [ho.1, hyo2.1], by rw [ho.2, hyo2.2]⟩ h1
    have hga : ∀ z : Cel, z ∈ a ∨ z ∈ b → z.g ≠ y.g := by
      rw [List.map_append, List.map_cons, List.nodup_append, List.nodup_cons] at hn2
      intro z hz e
      rcases hz with hz | hz
      · exact hn2.2.2 z.g (List.mem_map_of_mem hz) y.g (by simp) e
      · exact hn2.2.1.1 (by rw [← e]; exact List.mem_map_of_mem hz)
    have hput : (a ++ y :: b).map (putPart y.g (y.e.parts.set part.toNat body)) = a ++ ⟨y.g, y.q, ⟨y.e.peer, y.e.msg, y.e.born, y.e.parts.set part.toNat body⟩⟩ :: b := by
      have h1 : ∀ l : List Cel, (∀ z ∈ l, z.g ≠ y.g) → l.map (putPart y.g (y.e.parts.set part.toNat body)) = l := fun l hl => by
        rw [show l.map (putPart y.g (y.e.parts.set part.toNat body)) = l.map id from List.map_congr_left (fun z hz => by unfold putPart; rw [if_neg (hl z hz)]; rfl), List.map_id]
      rw [List.map_append, List.map_cons, h1 a (fun z hz => hga z (Or.inl hz)), h1 b (fun z hz => hga z (Or.inr hz))]
      unfold putPart
      rw [if_pos rfl]
    have hfil : (a ++ (⟨y.g, y.q, ⟨y.e.peer, y.e.msg, y.e.born, y.e.parts.set part.toNat body⟩⟩ : Cel) :: b).filter (fun x => !(x.g == y.g)) = a ++ b := by
      rw [List.filter_append, List.filter_cons_of_neg (by simp)]
      rw [List.filter_eq_self.2 (fun z hz => by simpa using hga z (Or.inl hz)), List.filter_eq_self.2 (fun z hz => by simpa using hga z (Or.inr hz))]
    rw [List.map_append, List.map_cons, endR_own ha (x := y.e) hyo, hput]
    unfold endAdd
    split
    · rw [List.map_append, List.map_cons]
    · rw [hfil, List.map_append]
  | none =>
    rw [addC_new hm hf]
    generalize (xs.filter fun x => !old_ G now x) = xs1 at *
    dsimp only [Option.map_none]
    have hno : ∀ x ∈ xs1, own_ peer msg x = false := fun x hx => by simpa using List.find?_eq_none.1 hf x hx
    rw [addNew_eq, tail_is hn1 (others_new hno)]
    split
    · rfl
    have hsub : ∀ x ∈ stay (roomR P A body.length peer none xs1).gone xs1, x ∈ xs1 := fun x hx => (List.mem_filter.1 hx).1
    generalize (stay (roomR P A body.length peer none xs1).gone xs1) = ys at *
    rw [endR_new (fun z hz => by
      obtain ⟨x, hx, rfl⟩ := List.mem_map.1 hz
      exact hno x (hsub x hx))]
    unfold endAdd
    split
    · rw [List.map_append]
      rfl
    · have : (ys ++ [(⟨g, q, ⟨peer, msg, now, (List.replicate parts.toNat []).set part.toNat body⟩⟩ : Cel)]).filter (fun x => !(x.g == g)) = ys := by
        rw [List.filter_append, List.filter_cons_of_neg (by simp), List.filter_nil, List.append_nil, List.filter_eq_self.2 (fun z hz => by simpa using hg1 z (hsub z hz))]
      rw [this]
end Go.Proofs.Ytcmiajnndmaeiaa
