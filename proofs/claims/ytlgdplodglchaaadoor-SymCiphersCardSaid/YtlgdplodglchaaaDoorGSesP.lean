/- Texts put together: SesP Mod WinP. -/
import Derived.Test.YtlgdplodglchaaaDoorGLib
/- Waits, what goes by: plain. -/
set_option linter.unusedVariables false
set_option linter.unusedSimpArgs false
namespace Go.Proofs.YtlgdplodglchaaaDoor
open Go.RowKit Go.Proofs.YtlgdplodglchaaaDoorW.PrintWords Go.Proofs.YtlgdplodglchaaaDoorW.PrintLast Go.Proofs.YtlgdplodglchaaaDoorW.PrintMore
end Go.Proofs.YtlgdplodglchaaaDoor
/- What is written: every block but some is as it was. -/
set_option linter.unusedVariables false
set_option linter.unusedSimpArgs false
namespace Go.Proofs.YtlgdplodglchaaaDoor
open Go.RowKit Go.Proofs.YtlgdplodglchaaaDoorW.PrintWords Go.Proofs.YtlgdplodglchaaaDoorW.PrintLast Go.Proofs.YtlgdplodglchaaaDoorW.PrintMore
/-- Every block but those of S is as it was. -/
structure Mod (S : Nat → Prop) (w w' : World) : Prop where
  os : w'.os = w.os
  tape : w'.tape = w.tape
  output : w'.output = w.output
  size : w.heap.size ≤ w'.heap.size
  same : ∀ k, k < w.heap.size → ¬ S k → w'.heap[k]? = w.heap[k]?
theorem Mod.refl (S : Nat → Prop) (w : World) : Mod S w w := ⟨rfl, rfl, rfl, Nat.le_refl _, fun _ _ _ => rfl⟩
theorem Mod.trans {S : Nat → Prop} {w w1 w2 : World} (h : Mod S w w1) (k : Mod S w1 w2) : Mod S w w2 :=
  ⟨k.os.trans h.os, k.tape.trans h.tape, k.output.trans h.output, Nat.le_trans h.size k.size, fun i hi hs => (k.same i (Nat.lt_of_lt_of_le hi h.size) hs).trans (h.same i hi hs)⟩
/-- The second one may turn what is new, too. -/
theorem Mod.then_ {S S' : Nat → Prop} {w w1 w2 : World} (h : Mod S w w1) (k : Mod S' w1 w2) (hs : ∀ i, i < w.heap.size → S' i → S i) : Mod S w w2 :=
  ⟨k.os.trans h.os, k.tape.trans h.tape, k.output.trans h.output, Nat.le_trans h.size k.size, fun i hi hn => (k.same i (Nat.lt_of_lt_of_le hi h.size) (fun h' => hn (hs i hi h'))).trans (h.same i hi hn)⟩
theorem Mod.below {S : Nat → Prop} {w w1 : World} (h : Below w.heap.size w w1) : Mod S w w1 := ⟨h.os, h.tape, h.output, h.size, fun k hk _ => h.block k hk⟩
theorem Mod.mono {S S' : Nat → Prop} {w w1 : World} (h : Mod S w w1) (hs : ∀ k, k < w.heap.size → S k → S' k) : Mod S' w w1 := ⟨h.os, h.tape, h.output, h.size, fun k hk hn => h.same k hk (fun h' => hn (hs k hk h'))⟩
theorem Mod.set {S : Nat → Prop} (w : World) {g i : Nat} (hg : S g) (v : Value) : Mod S w (w.setCell ⟨g, i, none⟩ v) :=
  ⟨rfl, rfl, rfl, by simp, fun k _ hn => Below.heap_setCell w ⟨g, i, none⟩ v k (fun (e : k = g) => hn (e ▸ hg))⟩
theorem Mod.block {S : Nat → Prop} {w w1 : World} {k : Nat} {o : Obj} (h : Mod S w w1) (hb : w.heap[k]? = some o) (hn : ¬ S k) : w1.heap[k]? = some o := (h.same k (blk_lt hb) hn).trans hb
theorem Mod.toBelow {S : Nat → Prop} {B : Nat} {w w1 : World} (h : Mod S w w1) (hs : ∀ k, S k → B ≤ k) (hB : B ≤ w.heap.size) : Below B w w1 := ⟨h.os, h.tape, h.output, h.size, fun k hk => h.same k (Nat.lt_of_lt_of_le hk hB) (fun h' => by have := hs k h'; omega)⟩
theorem Mod.grown {S : Nat → Prop} {w w1 : World} {row : Option Nat} (h : w.grownBy w1 row) (hs : ∀ k, row = some k → S k) : Mod S w w1 := ⟨h.os, h.tape, h.output, h.size, fun k hk hn => h.block k hk (fun e => hn (hs k e.symm))⟩
/-- S holds blocks of other types alone. -/
def Apart (t : Nat) (w : World) (S : Nat → Prop) : Prop := ∀ k cells, w.heap[k]? = some (.cells cells t (0, 0)) → ¬ S k
theorem Kd_mod {α : Type} {d : Kd α} {e base : Nat} {w w1 : World} {S : Nat → Prop} {v : Value} {xs : List α} (h : d.R e w base (fun _ => True) v xs) (hm : Mod S w w1) (hE : d.E = []) (ha : Apart e w S) : d.R e w1 base (fun _ => True) v xs := by
  have h1 := Kd.R_bound h
  refine Kd.R_mono (Kd.R_step h1 (fun k hk hlt => ?_)) (fun _ _ => trivial)
  obtain ⟨_, _, _, q, hq, cells, hc⟩ := hk
  rw [hE] at hq
  obtain rfl : q = e := by simpa using hq
  exact hm.same k hlt (ha k cells hc)
theorem OwnK.mod {k : IntKind} {e base : Nat} {w w1 : World} {S : Nat → Prop} {v : Value} {l : List Nat} (h : OwnK k e base w v l) (hm : Mod S w w1) (ha : Apart e w S) : OwnK k e base w1 v l := Kd_mod h hm rfl ha
/-- One block is turned, of another type. -/
theorem Apart.one {w : World} {g t e : Nat} {cs : Array Value} {fr : Nat × Nat} (h : w.heap[g]? = some (.cells cs t fr)) (hne : t ≠ e) : Apart e w (fun k => k = g) := fun k cells hc hk => by
  subst hk
  rw [h] at hc
  injection hc with hc
  injection hc with _ hc _
  exact hne hc
theorem own_bytes {e base n c : Nat} {w : World} {A : Option Addr} {l : List Nat} (h : OwnK .u8 e base w (.slice A n c) l) (hb : BytesOK l) : Bytes w A n c l := ⟨h.row.2.2, h.row.1.symm, by have := h.row.2.1; rw [h.row.1]; exact this, hb⟩
end Go.Proofs.YtlgdplodglchaaaDoor
/- Which numbers came: plain. -/
set_option linter.unusedVariables false
set_option linter.unusedSimpArgs false
namespace Go.Proofs.YtlgdplodglchaaaDoor
open Go.RowKit Go.Proofs.YtlgdplodglchaaaDoorW.PrintWords Go.Proofs.YtlgdplodglchaaaDoorW.PrintLast Go.Proofs.YtlgdplodglchaaaDoorW.PrintMore
def bitW (c : Nat × Nat) (d : Nat) : Bool := if d < 64 then c.1.testBit d else c.2.testBit (d - 64)
def checkW (some : Bool) (top : Nat) (c : Nat × Nat) (n : Nat) : Nat := if some = false ∨ top < n then 0 else if 128 ≤ top - n then 43 else if bitW c (top - n) then 43 else 0
def shW (c : Nat × Nat) : Nat × Nat := (c.1 * 2 % 2 ^ 64, (c.2 * 2 % 2 ^ 64) ||| (c.1 / 2 ^ 63))
def slideN (c : Nat × Nat) : Nat → Nat × Nat
  | 0 => c
  | k + 1 => shW (slideN c k)
def setW (c : Nat × Nat) (d : Nat) : Nat × Nat := if d < 64 then (c.1 ||| 2 ^ d, c.2) else (c.1, c.2 ||| 2 ^ (d - 64))
structure Win where
  some : Bool
  top : Nat
  c : Nat × Nat
def markW (v : Win) (n : Nat) : Win :=
  if checkW v.some v.top v.c n ≠ 0 then v
  else if v.some = false then ⟨true, n, setW v.c 0⟩
  else if v.top < n then ⟨true, n, setW (slideN v.c (min (n - v.top) 128)) 0⟩
  else ⟨true, v.top, setW v.c (v.top - n)⟩
def Win.ok (v : Win) : Prop := v.top < 2 ^ 64 ∧ v.c.1 < 2 ^ 64 ∧ v.c.2 < 2 ^ 64
theorem shW_lt {c : Nat × Nat} (h : c.1 < 2 ^ 64 ∧ c.2 < 2 ^ 64) : (shW c).1 < 2 ^ 64 ∧ (shW c).2 < 2 ^ 64 := by
  refine ⟨Nat.mod_lt _ (by decide), ?_⟩
  exact Nat.or_lt_two_pow (Nat.mod_lt _ (by decide)) (by have := h.1; omega)
theorem slideN_lt {c : Nat × Nat} (h : c.1 < 2 ^ 64 ∧ c.2 < 2 ^ 64) : ∀ k, (slideN c k).1 < 2 ^ 64 ∧ (slideN c k).2 < 2 ^ 64
  | 0 => h
  | k + 1 => shW_lt (slideN_lt h k)
theorem setW_lt {c : Nat × Nat} {d : Nat} (h : c.1 < 2 ^ 64 ∧ c.2 < 2 ^ 64) (hd : d < 128) : (setW c d).1 < 2 ^ 64 ∧ (setW c d).2 < 2 ^ 64 := by
  unfold setW
  split
  · exact ⟨Nat.or_lt_two_pow h.1 (Nat.pow_lt_pow_right (by decide) (by omega)), h.2⟩
  · exact ⟨h.1, Nat.or_lt_two_pow h.2 (Nat.pow_lt_pow_right (by decide) (by omega))⟩
theorem markW_ok {v : Win} {n : Nat} (h : v.ok) (hn : n < 2 ^ 64) : (markW v n).ok := by
  unfold markW
  split
  · exact h
  · rename_i hc
    split
    · exact ⟨hn, setW_lt h.2 (by decide)⟩
    · rename_i hs
      split
      · exact ⟨hn, setW_lt (slideN_lt h.2 _) (by decide)⟩
      · rename_i ht
        refine ⟨h.1, setW_lt h.2 ?_⟩
        have h1 : checkW v.some v.top v.c n = 0 := by simpa using hc
        unfold checkW at h1
        rw [if_neg (by rintro (h2 | h2); exact hs h2; exact ht h2)] at h1
        split at h1
        · cases h1
        · omega
/-- How the bits go up. -/
theorem bitW_sh {c : Nat × Nat} (h : c.1 < 2 ^ 64 ∧ c.2 < 2 ^ 64) (d : Nat) (hd : d < 128) : bitW (shW c) d = (decide (0 < d) && bitW c (d - 1)) := by
  unfold bitW shW
  by_cases h0 : d < 64
  · rw [if_pos h0, if_pos (by omega)]
    show (c.1 * 2 % 2 ^ 64).testBit d = _
    rw [Nat.testBit_mod_two_pow, decide_eq_true h0, Bool.true_and]
    cases d with
    | zero => simp [Nat.testBit_zero]
    | succ d =>
      rw [Nat.testBit_succ, show c.1 * 2 / 2 = c.1 by omega]
      simp
  · rw [if_neg h0]
    show ((c.2 * 2 % 2 ^ 64) ||| (c.1 / 2 ^ 63)).testBit (d - 64) = _
    rw [Nat.testBit_or, Nat.testBit_mod_two_pow, decide_eq_true (show d - 64 < 64 by omega), Bool.true_and, Nat.testBit_div_two_pow]
    rw [decide_eq_true (show 0 < d by omega), Bool.true_and]
    by_cases h1 : d = 64
    · subst h1
      rw [if_pos (by decide)]
      simp [Nat.testBit_zero]
    · rw [if_neg (by omega)]
      obtain ⟨k, rfl⟩ : ∃ k, d = k + 65 := ⟨d - 65, by omega⟩
      rw [show k + 65 - 64 = k + 1 by omega, show k + 65 - 1 - 64 = k by omega, Nat.testBit_succ, show c.2 * 2 / 2 = c.2 by omega]
      have h2 : c.1.testBit (63 + (k + 1)) = false := Nat.testBit_lt_two_pow (Nat.lt_of_lt_of_le h.1 (Nat.pow_le_pow_right (by decide) (by omega)))
      rw [show k + 1 + 63 = 63 + (k + 1) by omega] at *
      rw [h2, Bool.or_false]
theorem bitW_slide {c : Nat × Nat} (h : c.1 < 2 ^ 64 ∧ c.2 < 2 ^ 64) : ∀ (k d : Nat), d < 128 → bitW (slideN c k) d = (decide (k ≤ d) && bitW c (d - k))
  | 0, d, _ => by simp [slideN]
  | k + 1, d, hd => by
    rw [slideN, bitW_sh (slideN_lt h k) d hd]
    by_cases h0 : 0 < d
    · rw [bitW_slide h k (d - 1) (by omega), decide_eq_true h0, Bool.true_and, show d - 1 - k = d - (k + 1) by omega]
      congr 1
      exact decide_eq_decide.2 (by omega)
    · rw [decide_eq_false h0, Bool.false_and, decide_eq_false (by omega), Bool.false_and]
theorem bitW_set (c : Nat × Nat) (d e : Nat) (hd : d < 128) : bitW (setW c d) e = (decide (d = e) || bitW c e) := by
  unfold bitW setW
  by_cases h0 : d < 64
  · rw [if_pos h0]
    by_cases h1 : e < 64
    · rw [if_pos h1, if_pos h1]
      show (c.1 ||| 2 ^ d).testBit e = _
      rw [Nat.testBit_or, Nat.testBit_two_pow, Bool.or_comm]
    · rw [if_neg h1, if_neg h1, decide_eq_false (by omega), Bool.false_or]
  · rw [if_neg h0]
    by_cases h1 : e < 64
    · rw [if_pos h1, if_pos h1, decide_eq_false (by omega), Bool.false_or]
    · rw [if_neg h1, if_neg h1]
      show (c.2 ||| 2 ^ (d - 64)).testBit (e - 64) = _
      rw [Nat.testBit_or, Nat.testBit_two_pow, Bool.or_comm]
      congr 1
      exact decide_eq_decide.2 (by omega)
/-- A window, and the numbers that came. -/
def WinOf (v : Win) (l : List Nat) : Prop :=
  (v.some = true ↔ l ≠ []) ∧ (l = [] → v.top = 0) ∧ (∀ x ∈ l, x ≤ v.top) ∧ (l ≠ [] → v.top ∈ l) ∧ ∀ d, d < 128 → (bitW v.c d = true ↔ (d ≤ v.top ∧ v.top - d ∈ l))
theorem WinOf.nil : WinOf ⟨false, 0, (0, 0)⟩ [] := by
  refine ⟨by simp, fun _ => rfl, by simp, by simp, fun d hd => ?_⟩
  simp [bitW]
/-- The reference's check. -/
def checkR (l : List Nat) (n : Nat) : Nat := if n ∈ l then 43 else if n < l.foldl max 0 ∧ 128 ≤ l.foldl max 0 - n then 43 else 0
theorem foldl_max_le {l : List Nat} : ∀ {a b : Nat}, a ≤ b → (∀ x ∈ l, x ≤ b) → l.foldl max a ≤ b := by
  induction l with
  | nil => intro a b h _; exact h
  | cons x l ih => intro a b h hx; exact ih (Nat.max_le.2 ⟨h, hx x (List.mem_cons_self ..)⟩) (fun y hy => hx y (List.mem_cons_of_mem _ hy))
theorem le_foldl_max {l : List Nat} : ∀ {a x : Nat}, (x = a ∨ x ∈ l) → x ≤ l.foldl max a := by
  induction l with
  | nil => intro a x h; rcases h with rfl | h; exact Nat.le_refl _; cases h
  | cons y l ih =>
    intro a x h
    rcases h with rfl | h
    · exact Nat.le_trans (Nat.le_max_left x y) (ih (Or.inl rfl))
    · rcases List.mem_cons.1 h with rfl | h
      · exact Nat.le_trans (Nat.le_max_right a x) (ih (Or.inl rfl))
      · exact ih (Or.inr h)
theorem WinOf.top_is {v : Win} {l : List Nat} (h : WinOf v l) : l.foldl max 0 = v.top := by
  by_cases hl : l = []
  · rw [hl, h.2.1 hl]; rfl
  · exact Nat.le_antisymm (foldl_max_le (Nat.zero_le _) h.2.2.1) (le_foldl_max (Or.inr (h.2.2.2.1 hl)))
theorem WinOf.check {v : Win} {l : List Nat} (h : WinOf v l) (n : Nat) : checkW v.some v.top v.c n = checkR l n := by
  unfold checkW checkR
  rw [h.top_is]
  by_cases hs : v.some = false
  · have hl : l = [] := by
      by_cases e : l = []
      · exact e
      · exact absurd (h.1.2 e) (by rw [hs]; simp)
    rw [if_pos (Or.inl hs), if_neg (by rw [hl]; simp), if_neg (by rw [h.2.1 hl]; omega)]
  · by_cases ht : v.top < n
    · rw [if_pos (Or.inr ht), if_neg (fun hm => by have := h.2.2.1 n hm; omega), if_neg (by omega)]
    · rw [if_neg (by rintro (h2 | h2); exact hs h2; exact ht h2)]
      by_cases hd : 128 ≤ v.top - n
      · rw [if_pos hd]
        split
        · rfl
        · rw [if_pos (by omega)]
      · rw [if_neg hd]
        have hb := h.2.2.2.2 (v.top - n) (by omega)
        rw [show v.top - (v.top - n) = n by omega] at hb
        by_cases hm : n ∈ l
        · rw [if_pos hm, if_pos (hb.2 ⟨by omega, hm⟩)]
        · rw [if_neg hm, if_neg (fun e => hm (hb.1 e).2), if_neg (by omega)]
theorem WinOf.mark {v : Win} {l : List Nat} (h : WinOf v l) (hok : v.ok) (n : Nat) (hc : checkR l n = 0) : WinOf (markW v n) (l ++ [n]) := by
  have h0 := (h.check n).trans hc
  have hnm : n ∉ l := fun hm => by rw [checkR, if_pos hm] at hc; cases hc
  unfold markW
  rw [if_neg (by rw [h0]; simp)]
  have hne : l ++ [n] ≠ [] := by simp
  by_cases hs : v.some = false
  · have hl : l = [] := by
      by_cases e : l = []
      · exact e
      · exact absurd (h.1.2 e) (by rw [hs]; simp)
    subst hl
    rw [if_pos hs]
    refine ⟨⟨fun _ => hne, fun _ => rfl⟩, fun e => absurd e hne, by simp, by simp, fun d hd => ?_⟩
    show bitW (setW v.c 0) d = true ↔ d ≤ n ∧ n - d ∈ [] ++ [n]
    have hz : bitW v.c d = false := by
      cases hb : bitW v.c d with
      | false => rfl
      | true => exact absurd ((h.2.2.2.2 d hd).1 hb).2 (by simp)
    rw [bitW_set _ _ _ (by decide), hz, Bool.or_false]
    simp
    omega
  · have hs' : v.some = true := by simpa using hs
    have hl := h.1.1 hs'
    rw [if_neg hs]
    by_cases ht : v.top < n
    · rw [if_pos ht]
      refine ⟨⟨fun _ => hne, fun _ => rfl⟩, fun e => absurd e hne, fun x hx => ?_, fun _ => by simp, fun d hd => ?_⟩
      · rcases List.mem_append.1 hx with hx | hx
        · exact Nat.le_of_lt (Nat.lt_of_le_of_lt (h.2.2.1 x hx) ht)
        · have : x = n := by simpa using hx
          rw [this]; exact Nat.le_refl _
      · show bitW (setW (slideN v.c (min (n - v.top) 128)) 0) d = true ↔ d ≤ n ∧ n - d ∈ l ++ [n]
        rw [bitW_set _ _ _ (by decide), bitW_slide hok.2 _ _ hd]
        by_cases hd0 : d = 0
        · subst hd0; simp
        · rw [decide_eq_false (show ¬ 0 = d by omega), Bool.false_or]
          have e1 : (n - d ∈ l ++ [n]) ↔ n - d ∈ l ∨ n - d = n := by simp
          rw [e1]
          by_cases hk : min (n - v.top) 128 ≤ d
          · have hle : n - v.top ≤ d := by omega
            rw [decide_eq_true hk, Bool.true_and, Nat.min_eq_left (by omega)]
            rw [h.2.2.2.2 (d - (n - v.top)) (by omega)]
            constructor
            · rintro ⟨h1, h2⟩
              refine ⟨by omega, Or.inl ?_⟩
              rw [show n - d = v.top - (d - (n - v.top)) by omega]
              exact h2
            · rintro ⟨h1, h2⟩
              rcases h2 with h2 | h2
              · refine ⟨by omega, ?_⟩
                rw [show v.top - (d - (n - v.top)) = n - d by omega]
                exact h2
              · omega
          · rw [decide_eq_false hk, Bool.false_and]
            constructor
            · intro e; cases e
            · rintro ⟨h1, h2⟩
              rcases h2 with h2 | h2
              · have := h.2.2.1 _ h2; omega
              · omega
    · rw [if_neg ht]
      have hlt : v.top - n < 128 := by
        unfold checkW at h0
        rw [if_neg (by rintro (h2 | h2); exact hs h2; exact ht h2)] at h0
        split at h0
        · cases h0
        · omega
      refine ⟨⟨fun _ => hne, fun _ => rfl⟩, fun e => absurd e hne, fun x hx => ?_, fun _ => List.mem_append_left _ (h.2.2.2.1 hl), fun d hd => ?_⟩
      · rcases List.mem_append.1 hx with hx | hx
        · exact h.2.2.1 x hx
        · have : x = n := by simpa using hx
          rw [this]; show n ≤ v.top; omega
      · show bitW (setW v.c (v.top - n)) d = true ↔ d ≤ v.top ∧ v.top - d ∈ l ++ [n]
        rw [bitW_set _ _ _ hlt]
        have e1 : (v.top - d ∈ l ++ [n]) ↔ v.top - d ∈ l ∨ v.top - d = n := by simp
        rw [e1, Bool.or_eq_true, h.2.2.2.2 d hd, decide_eq_true_eq]
        constructor
        · rintro (h1 | ⟨h1, h2⟩)
          · exact ⟨by omega, Or.inr (by omega)⟩
          · exact ⟨h1, Or.inl h2⟩
        · rintro ⟨h1, h2 | h2⟩
          · exact Or.inr ⟨h1, h2⟩
          · exact Or.inl (by omega)
end Go.Proofs.YtlgdplodglchaaaDoor
