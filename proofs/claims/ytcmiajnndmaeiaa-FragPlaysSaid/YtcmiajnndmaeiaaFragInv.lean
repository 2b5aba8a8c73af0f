/- What Buffer.Add keeps: each entry is sound, no two are of one peer and message, no more is kept than may be. Plain. -/
import Derived.Test.YtcmiajnndmaeiaaLawFs
set_option linter.unusedVariables false
set_option linter.unusedSimpArgs false
namespace Go.Proofs.Ytcmiajnndmaeiaa
open Go.RowKit Go.Proofs.YtcmiajnndmaeiaaW.PrintWords Go.Proofs.YtcmiajnndmaeiaaW.PrintLast Go.Proofs.YtcmiajnndmaeiaaW.PrintMore
theorem nodup_lt : ∀ (n : Nat) (l : List Nat), l.Nodup → (∀ x ∈ l, x < n) → l.length ≤ n
  | 0, [], _, _ => Nat.le_refl _
  | 0, x :: l, _, h => absurd (h x (by simp)) (by omega)
  | n + 1, l, hn, h => by
    by_cases hm : n ∈ l
    · have h1 := nodup_lt n (l.erase n) (hn.erase n) (fun x hx => by
        have h2 := (hn.mem_erase_iff).1 hx
        have h3 := h x h2.2
        have h4 := h2.1
        omega)
      rw [List.length_erase_of_mem hm] at h1
      omega
    · have h1 := nodup_lt n l hn (fun x hx => by
        have h3 := h x hx
        have : x ≠ n := fun e => hm (by rw [← e]; exact hx)
        omega)
      omega
theorem sumB_cons (p : Cel → Bool) (x : Cel) (xs : List Cel) : sumB p (x :: xs) = (if p x then sizeC x else 0) + sumB p xs := by
  unfold sumB
  by_cases h : p x = true
  · rw [List.filter_cons_of_pos h, if_pos h]
    rfl
  · rw [List.filter_cons_of_neg h, if_neg h]
    omega
theorem sumB_nil (p : Cel → Bool) : sumB p [] = 0 := rfl
theorem sumB_congr {p p' : Cel → Bool} {xs : List Cel} (h : ∀ x ∈ xs, p x = p' x) : sumB p xs = sumB p' xs := by
  induction xs with
  | nil => rfl
  | cons x xs ih => rw [sumB_cons, sumB_cons, h x (by simp), ih (fun y hy => h y (by simp [hy]))]
theorem sumB_or {p p' : Cel → Bool} {xs : List Cel} (h : ∀ x ∈ xs, ¬ (p x = true ∧ p' x = true)) : sumB (fun x => p x || p' x) xs = sumB p xs + sumB p' xs := by
  induction xs with
  | nil => rfl
  | cons x xs ih =>
    have h1 := h x (by simp)
    rw [sumB_cons, sumB_cons, sumB_cons, ih (fun y hy => h y (by simp [hy]))]
    cases hp : p x <;> cases hp' : p' x
    · simp
    · simp; omega
    · simp; omega
    · exact absurd ⟨hp, hp'⟩ h1
theorem sumB_mem {p : Cel → Bool} {xs : List Cel} {z : Cel} (hz : z ∈ xs) (hp : p z = true) : sizeC z ≤ sumB p xs := by
  induction xs with
  | nil => simp at hz
  | cons x xs ih =>
    rw [sumB_cons]
    rcases List.mem_cons.1 hz with rfl | hz
    · rw [if_pos hp]; omega
    · have := ih hz; omega
theorem sumB_filter (p q : Cel → Bool) (xs : List Cel) : sumB p (xs.filter q) = sumB (fun x => p x && q x) xs := by
  induction xs with
  | nil => rfl
  | cons x xs ih =>
    rw [sumB_cons]
    by_cases h : q x = true
    · rw [List.filter_cons_of_pos h, sumB_cons, ih, h, Bool.and_true]
    · rw [List.filter_cons_of_neg h, ih]
      rw [show q x = false by simpa using h, Bool.and_false]
      simp
theorem sumB_split (p q : Cel → Bool) (xs : List Cel) : sumB p xs = sumB (fun x => p x && q x) xs + sumB (fun x => p x && !q x) xs := by
  rw [← sumB_or (fun x _ h => by cases hq : q x <;> simp [hq] at h)]
  exact sumB_congr (fun x _ => by cases p x <;> cases q x <;> rfl)
theorem sumB_filter_le (p q : Cel → Bool) (xs : List Cel) : sumB p (xs.filter q) ≤ sumB p xs := by
  rw [sumB_filter]
  have := sumB_split p q xs
  omega
theorem sumB_gone {p : Cel → Bool} {xs : List Cel} : ∀ {gone : List Cel}, (gone.map Cel.g).Nodup → (∀ z ∈ gone, z ∈ xs ∧ p z = true) → (xs.map Cel.g).Nodup → sumC gone ≤ sumB (fun x => p x && gone.any fun z => z.g == x.g) xs
  | [], _, _, _ => Nat.zero_le _
  | z :: gs, hn, h, hx => by
    have h1 := List.nodup_cons.1 hn
    have ih := sumB_gone h1.2 (fun y hy => h y (by simp [hy])) hx
    have hz := h z (by simp)
    have h2 : sumB (fun x => p x && (z :: gs).any fun z => z.g == x.g) xs = sumB (fun x => p x && (z.g == x.g)) xs + sumB (fun x => p x && gs.any fun z => z.g == x.g) xs := by
      rw [← sumB_or]
      · exact sumB_congr (fun x _ => by rw [List.any_cons]; cases p x <;> rfl)
      · rintro x hx ⟨h3, h4⟩
        simp only [Bool.and_eq_true, beq_iff_eq] at h3 h4
        obtain ⟨y, hy, hyg⟩ := List.any_eq_true.1 h4.2
        exact h1.1 (by rw [h3.2, ← (by simpa using hyg : y.g = x.g)]; exact List.mem_map_of_mem hy)
    have h3 := sumB_mem (p := fun x => p x && (z.g == x.g)) hz.1 (by simp [hz.2])
    rw [h2]
    have h4 : sumC (z :: gs) = sizeC z + sumC gs := by simp [sumC]
    omega
theorem stay_le {p : Cel → Bool} {gone xs : List Cel} : sumB p (stay gone xs) ≤ sumB p xs := sumB_filter_le _ _ _
theorem stay_gone {p : Cel → Bool} {gone xs : List Cel} (hn : (gone.map Cel.g).Nodup) (h : ∀ z ∈ gone, z ∈ xs ∧ p z = true) (hx : (xs.map Cel.g).Nodup) : sumB p (stay gone xs) + sumC gone ≤ sumB p xs := by
  have h1 := sumB_gone hn h hx
  have h2 := sumB_split p (fun x => gone.any fun z => z.g == x.g) xs
  unfold stay
  rw [sumB_filter]
  omega
/-- A piece in place of nothing. -/
theorem put_le {p : Cel → Bool} {y : Cel} {ps : List (List Nat)} {n : Nat} (hp : ∀ x, p (putPart y.g ps x) = p x) (hs : sizeL ps ≤ sizeC y + n) :
    ∀ {xs : List Cel}, (xs.map Cel.g).Nodup → (∀ x ∈ xs, x.g = y.g → x = y) → sumB p (xs.map (putPart y.g ps)) ≤ sumB p xs + (if p y then n else 0)
  | [], _, _ => by simp [sumB_nil]
  | x :: xs, hn, hy => by
    have h1 := List.nodup_cons.1 hn
    rw [List.map_cons, sumB_cons, sumB_cons, hp]
    by_cases e : x.g = y.g
    · obtain rfl := hy x (by simp) e
      have h2 : xs.map (putPart x.g ps) = xs := by
        have : ∀ z ∈ xs, putPart x.g ps z = id z := fun z hz => by
          unfold putPart
          rw [if_neg (fun e2 => h1.1 (by rw [← e2]; exact List.mem_map_of_mem hz))]
          rfl
        rw [List.map_congr_left this, List.map_id]
      rw [h2]
      have h3 : sizeC (putPart x.g ps x) = sizeL ps := by unfold putPart; rw [if_pos rfl]; rfl
      rw [h3]
      split <;> omega
    · have ih := put_le (n := n) hp hs h1.2 (fun z hz => hy z (by simp [hz]))
      have h3 : putPart y.g ps x = x := by unfold putPart; rw [if_neg e]
      rw [h3]
      omega
theorem sort_nodup : ∀ {xs : List Cel}, (xs.map Cel.g).Nodup → ((sortL xs).map Cel.g).Nodup := by
  have hins : ∀ (x : Cel) (S : List Cel), (S.map Cel.g).Nodup → (∀ y ∈ S, y.g ≠ x.g) → ((insL x S).map Cel.g).Nodup := by
    intro x S
    induction S with
    | nil => intro _ _; simp [insL]
    | cons y S ih =>
      intro hn hx
      have h1 := List.nodup_cons.1 hn
      unfold insL
      split
      · rw [List.map_cons, List.nodup_cons]
        refine ⟨fun h => ?_, hn⟩
        obtain ⟨z, hz, hzg⟩ := List.mem_map.1 h
        exact hx z hz hzg
      · rw [List.map_cons, List.nodup_cons]
        refine ⟨fun h => ?_, ih h1.2 (fun z hz => hx z (by simp [hz]))⟩
        obtain ⟨z, hz, hzg⟩ := List.mem_map.1 h
        rcases insL_mem.1 hz with rfl | hz
        · exact hx y (by simp) hzg.symm
        · exact h1.1 (by rw [← hzg]; exact List.mem_map_of_mem hz)
  intro xs
  refine snoc_ind (P := fun xs => (xs.map Cel.g).Nodup → ((sortL xs).map Cel.g).Nodup) (fun _ => by simp [sortL]) (fun l x ih hn => ?_) xs
  rw [sortL_snoc]
  rw [List.map_append, List.nodup_append] at hn
  exact hins x _ (ih hn.1) (fun y hy => hn.2.2 _ (List.mem_map_of_mem (sortL_mem.1 hy)) _ (by simp))
theorem sizeL_set' {ps : List (List Nat)} {i : Nat} {p : List Nat} (hi : i < ps.length) (h0 : ps.getD i [] = []) : sizeL (ps.set i p) = sizeL ps + p.length := by
  induction ps generalizing i with
  | nil => simp at hi
  | cons a ps ih =>
    cases i with
    | zero =>
      have : a = [] := h0
      subst this
      simp [sizeL]
      omega
    | succ i =>
      have := ih (i := i) (by simpa using hi) h0
      simp only [List.set_cons_succ, sizeL, List.map_cons, List.sum_cons] at this ⊢
      omega
structure InvC (P A : Nat) (xs : List Cel) : Prop where
  ok : ∀ x ∈ xs, EntOk x.e
  uniq : xs.Pairwise fun a b => ¬ (a.e.peer.toList = b.e.peer.toList ∧ a.e.msg = b.e.msg)
  held : ∀ p, sumB (mine_ p) xs ≤ P
  all : sumB (fun _ => true) xs ≤ A
theorem InvC.nil (P A : Nat) : InvC P A [] := ⟨fun x hx => by simp at hx, List.Pairwise.nil, fun p => Nat.zero_le _, Nat.zero_le _⟩
theorem InvC.filter {P A : Nat} {xs : List Cel} (h : InvC P A xs) (q : Cel → Bool) : InvC P A (xs.filter q) :=
  ⟨fun x hx => h.ok x (List.mem_filter.1 hx).1, h.uniq.filter _, fun p => Nat.le_trans (sumB_filter_le _ _ _) (h.held p), Nat.le_trans (sumB_filter_le _ _ _) h.all⟩
theorem InvC.few {P A : Nat} {xs : List Cel} (h : InvC P A xs) (peer : ByteArray) : (xs.filter (mine_ peer)).length < 20 := by
  have h1 : ((xs.filter (mine_ peer)).map fun x => x.e.msg.toNat).Nodup := by
    refine List.pairwise_map.2 (List.Pairwise.imp_of_mem (fun {a b} ha hb hab e => ?_) (h.uniq.filter (mine_ peer)))
    have h2 := List.mem_filter.1 ha
    have h3 := List.mem_filter.1 hb
    have h4 := h.ok a h2.1
    have h5 := h.ok b h3.1
    have h6 : a.e.peer.toList = peer.toList := by simpa [mine_] using h2.2
    have h7 : b.e.peer.toList = peer.toList := by simpa [mine_] using h3.2
    exact hab ⟨by rw [h6, h7], by have := h4.msg0; have := h5.msg0; omega⟩
  have h2 := nodup_lt 8 _ h1 (fun x hx => by
    obtain ⟨a, ha, rfl⟩ := List.mem_map.1 hx
    have h4 := h.ok a (List.mem_filter.1 ha).1
    have := h4.msg0
    have := h4.msg7
    omega)
  rw [List.length_map] at h2
  omega
theorem mine_eq {p q : ByteArray} (h : p.toList = q.toList) : mine_ p = mine_ q := by
  funext x
  unfold mine_
  rw [h]
theorem room_gone {P A n : Nat} {peer : ByteArray} {o : Option Nat} {xs : List Cel} (hx : (xs.map Cel.g).Nodup) :
    ((roomR P A n peer o xs).gone.map Cel.g).Nodup ∧ (∀ z ∈ (roomR P A n peer o xs).gone, z ∈ xs ∧ mine_ peer z = true) := by
  refine ⟨?_, fun z hz => ?_⟩
  · have h1 : ((othersL peer o xs).map Cel.g).Nodup := hx.sublist (List.filter_sublist.map _)
    have h2 := sort_nodup h1
    exact h2.sublist ((List.take_sublist _ _).map _)
  · have h1 : z ∈ sortL (othersL peer o xs) := List.mem_of_mem_take hz
    have h2 := List.mem_filter.1 (sortL_mem.1 h1)
    exact ⟨h2.1, by have := h2.2; simp only [Bool.and_eq_true] at this; exact this.1⟩
theorem room_fits {P A n : Nat} {peer : ByteArray} {o : Option Nat} {xs : List Cel} (hf : (roomR P A n peer o xs).fits = true) :
    sumB (mine_ peer) xs + n ≤ P + sumC (roomR P A n peer o xs).gone ∧ sumB (fun _ => true) xs + n ≤ A + sumC (roomR P A n peer o xs).gone := by
  unfold roomR at hf ⊢
  simp only [Bool.and_eq_true, decide_eq_true_eq] at hf ⊢
  omega
/-- Behind room: what is kept, and n bytes more, is no more than may be. -/
theorem stay_room {P A n : Nat} {peer : ByteArray} {o : Option Nat} {xs : List Cel} (hx : (xs.map Cel.g).Nodup) (hf : (roomR P A n peer o xs).fits = true) :
    sumB (mine_ peer) (stay (roomR P A n peer o xs).gone xs) + n ≤ P ∧ sumB (fun _ => true) (stay (roomR P A n peer o xs).gone xs) + n ≤ A := by
  obtain ⟨h1, h2⟩ := room_gone (P := P) (A := A) (n := n) (peer := peer) (o := o) hx
  obtain ⟨h3, h4⟩ := room_fits hf
  have h5 := stay_gone (p := mine_ peer) h1 h2 hx
  have h6 := stay_gone (p := fun _ => true) h1 (fun z hz => ⟨(h2 z hz).1, rfl⟩) hx
  omega
theorem endAdd_inv {P A : Nat} {xs : List Cel} {g : Nat} {ps : List (List Nat)} (h : InvC P A xs) : InvC P A (endAdd g ps xs).1 ∧ (endAdd g ps xs).1.length ≤ xs.length := by
  unfold endAdd
  split
  · exact ⟨h, Nat.le_refl _⟩
  · exact ⟨h.filter _, List.length_filter_le _ _⟩
theorem putPart_peer (g : Nat) (ps : List (List Nat)) (x : Cel) : (putPart g ps x).e.peer = x.e.peer ∧ (putPart g ps x).e.msg = x.e.msg := by unfold putPart; split <;> exact ⟨rfl, rfl⟩
theorem addC_inv {P A G : Nat} {xs : List Cel} {peer : ByteArray} {msg part parts : Int} {body : List Nat} {now g q : Nat} (h : InvC P A xs) (hg : (xs.map Cel.g).Nodup) (hb : BytesOK body) (hnow : now < 2 ^ 64) :
    InvC P A (addC P A G xs peer msg part parts body now g q).1 ∧ (addC P A G xs peer msg part parts body now g q).1.length ≤ xs.length + 1 := by
  cases hm : mayB msg part parts body.length
  · rw [addC_bad hm]
    exact ⟨h, by dsimp only; omega⟩
  have hm2 := hm
  unfold mayB at hm2
  simp only [Bool.and_eq_true, decide_eq_true_eq] at hm2
  have h1 := h.filter (fun x => !old_ G now x)
  have hg1 : ((xs.filter fun x => !old_ G now x).map Cel.g).Nodup := hg.sublist (List.filter_sublist.map _)
  have hl1 := List.length_filter_le (fun x => !old_ G now x) xs
  cases hf : (xs.filter fun x => !old_ G now x).find? (own_ peer msg) with
  | some y =>
    rw [addC_own hm hf]
    generalize (xs.filter fun x => !old_ G now x) = xs1 at *
    have hy := List.mem_of_find?_eq_some hf
    have hyo := List.find?_some hf
    unfold addOwn
    split
    · exact ⟨h1, by dsimp only; omega⟩
    split
    · split <;> exact ⟨h1, by dsimp only; omega⟩
    rename_i hnil
    split
    · exact ⟨h1, by dsimp only; omega⟩
    rename_i hfit
    have hfit2 : (roomR P A body.length peer (some y.g) xs1).fits = true := by simpa using hfit
    obtain ⟨h5, h6⟩ := stay_room hg1 hfit2
    have h7 := h1.filter (fun x => !((roomR P A body.length peer (some y.g) xs1).gone.any fun z => z.g == x.g))
    have hg2 : ((stay (roomR P A body.length peer (some y.g) xs1).gone xs1).map Cel.g).Nodup := hg1.sublist (List.filter_sublist.map _)
    have hl2 : (stay (roomR P A body.length peer (some y.g) xs1).gone xs1).length ≤ xs1.length := List.length_filter_le _ _
    have hsub : ∀ x ∈ stay (roomR P A body.length peer (some y.g) xs1).gone xs1, x ∈ xs1 := fun x hx => (List.mem_filter.1 hx).1
    change InvC P A (stay (roomR P A body.length peer (some y.g) xs1).gone xs1) at h7
    generalize (stay (roomR P A body.length peer (some y.g) xs1).gone xs1) = ys at *
    have hyg : ∀ x ∈ ys, x.g = y.g → x = y := fun x hx e => g_inj hg1 (hsub x hx) hy e
    have hok := h1.ok y hy
    have hn0 : y.e.parts.getD part.toNat [] = [] := by
      have : isNil (y.e.parts.getD part.toNat []) = true := by simpa using hnil
      simpa [isNil] using this
    rename_i hlen
    have hpl : part.toNat < y.e.parts.length := by have : (y.e.parts.length : Int) = parts := by simpa using hlen
                                                   omega
    have hsz : sizeL (y.e.parts.set part.toNat body) ≤ sizeC y + body.length := by
      have := sizeL_set' (p := body) hpl hn0
      rw [this]
      exact Nat.le_refl _
    have hpm : ∀ (p : ByteArray) (x : Cel), mine_ p (putPart y.g (y.e.parts.set part.toNat body) x) = mine_ p x := fun p x => by unfold mine_; rw [(putPart_peer _ _ _).1]
    have hinv : InvC P A (ys.map (putPart y.g (y.e.parts.set part.toNat body))) := by
      refine ⟨fun x hx => ?_, ?_, fun p => ?_, ?_⟩
      · obtain ⟨z, hz, rfl⟩ := List.mem_map.1 hx
        by_cases e : z.g = y.g
        · obtain rfl := hyg z hz e
          unfold putPart
          rw [if_pos rfl]
          refine ⟨by dsimp only; rw [List.length_set]; exact hok.some_, by dsimp only; rw [List.length_set]; exact hok.few, fun l hl => ?_, fun l hl => ?_, hok.born, hok.msg0, hok.msg7⟩
          · rcases List.mem_or_eq_of_mem_set hl with h8 | rfl
            · exact hok.small l h8
            · omega
          · rcases List.mem_or_eq_of_mem_set hl with h8 | rfl
            · exact hok.bytes l h8
            · exact hb
        · unfold putPart
          rw [if_neg e]
          exact h7.ok z hz
      · refine List.pairwise_map.2 (h7.uniq.imp (fun {a b} hab => ?_))
        rw [(putPart_peer _ _ a).1, (putPart_peer _ _ a).2, (putPart_peer _ _ b).1, (putPart_peer _ _ b).2]
        exact hab
      · have h8 := put_le (p := mine_ p) (y := y) (n := body.length) (hpm p) hsz hg2 hyg
        by_cases hp : mine_ p y = true
        · rw [if_pos hp] at h8
          have h9 : y.e.peer.toList = p.toList := by simpa [mine_] using hp
          have h10 : y.e.peer.toList = peer.toList := by simp [own_] at hyo; exact hyo.1
          rw [mine_eq (show p.toList = peer.toList by rw [← h9, h10])] at h8 ⊢
          omega
        · rw [if_neg hp] at h8
          have := h7.held p
          omega
      · have h8 := put_le (p := fun _ => true) (y := y) (n := body.length) (fun _ => rfl) hsz hg2 hyg
        rw [if_pos rfl] at h8
        omega
    have h8 := endAdd_inv (g := y.g) (ps := y.e.parts.set part.toNat body) hinv
    rw [List.length_map] at h8
    exact ⟨h8.1, by omega⟩
  | none =>
    rw [addC_new hm hf]
    generalize (xs.filter fun x => !old_ G now x) = xs1 at *
    rw [addNew_eq]
    split
    · exact ⟨h1, by dsimp only; omega⟩
    rename_i hfit
    have hfit2 : (roomR P A body.length peer none xs1).fits = true := by simpa using hfit
    obtain ⟨h5, h6⟩ := stay_room hg1 hfit2
    have h7 := h1.filter (fun x => !((roomR P A body.length peer none xs1).gone.any fun z => z.g == x.g))
    have hl2 : (stay (roomR P A body.length peer none xs1).gone xs1).length ≤ xs1.length := List.length_filter_le _ _
    have hsub : ∀ x ∈ stay (roomR P A body.length peer none xs1).gone xs1, x ∈ xs1 := fun x hx => (List.mem_filter.1 hx).1
    change InvC P A (stay (roomR P A body.length peer none xs1).gone xs1) at h7
    generalize (stay (roomR P A body.length peer none xs1).gone xs1) = ys at *
    have hpl : part.toNat < (List.replicate parts.toNat ([] : List Nat)).length := by rw [List.length_replicate]; omega
    have hsz : sizeL ((List.replicate parts.toNat []).set part.toNat body) = body.length := by
      rw [sizeL_set' hpl (by rw [List.getD_eq_getElem?_getD, List.getElem?_replicate]; split <;> rfl)]
      have : sizeL (List.replicate parts.toNat []) = 0 := by simp [sizeL]
      omega
    have hinv : InvC P A (ys ++ [⟨g, q, ⟨peer, msg, now, (List.replicate parts.toNat []).set part.toNat body⟩⟩]) := by
      refine ⟨fun x hx => ?_, ?_, fun p => ?_, ?_⟩
      · rcases List.mem_append.1 hx with hx | hx
        · exact h7.ok x hx
        · rw [List.mem_singleton.1 hx]
          refine ⟨by dsimp only; rw [List.length_set, List.length_replicate]; omega, by dsimp only; rw [List.length_set, List.length_replicate]; omega, fun l hl => ?_, fun l hl => ?_, hnow, by dsimp only; omega, by dsimp only; omega⟩
          · rcases List.mem_or_eq_of_mem_set hl with h8 | rfl
            · rw [List.eq_of_mem_replicate h8]; simp
            · omega
          · rcases List.mem_or_eq_of_mem_set hl with h8 | rfl
            · rw [List.eq_of_mem_replicate h8]; exact BytesOK.nil
            · exact hb
      · refine List.pairwise_append.2 ⟨h7.uniq, List.pairwise_singleton _ _, fun a ha b hb2 hab => ?_⟩
        rw [List.mem_singleton.1 hb2] at hab
        have h8 := List.find?_eq_none.1 hf a (hsub a ha)
        exact h8 (by simp [own_, hab.1, hab.2])
      · rw [sumB_snoc]
        dsimp only
        rw [hsz]
        by_cases hp : mine_ p ⟨g, q, ⟨peer, msg, now, (List.replicate parts.toNat []).set part.toNat body⟩⟩ = true
        · rw [if_pos hp]
          have h9 : peer.toList = p.toList := by simpa [mine_] using hp
          rw [mine_eq h9.symm]
          exact h5
        · rw [if_neg hp]
          exact h7.held p
      · rw [sumB_snoc]
        dsimp only
        rw [hsz, if_pos rfl]
        exact h6
    have h8 := endAdd_inv (g := g) (ps := (List.replicate parts.toNat []).set part.toNat body) hinv
    rw [List.length_append, List.length_singleton] at h8
    exact ⟨h8.1, by omega⟩
end Go.Proofs.Ytcmiajnndmaeiaa
