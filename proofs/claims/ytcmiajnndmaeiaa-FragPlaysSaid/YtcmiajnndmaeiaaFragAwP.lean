/- What the sleepers' call of awake shows: plain. -/
import Derived.Test.YtcmiajnndmaeiaaFragMk
set_option linter.unusedVariables false
set_option linter.unusedSimpArgs false
namespace Go.Proofs.Ytcmiajnndmaeiaa
open Go.RowKit Go.Proofs.YtcmiajnndmaeiaaW.PrintWords Go.Proofs.YtcmiajnndmaeiaaW.PrintLast Go.Proofs.YtcmiajnndmaeiaaW.PrintMore
def pS : ByteArray := ⟨#[112]⟩
theorem PartsIn.mod {base : Nat} {w w1 : World} {S : Nat → Prop} {v : Value} {ls : List (List Nat)} (h : PartsIn base w v ls) (hm : Mod S w w1) (ha : Apart 5 w S) (hn : ∀ k, v.ownBlock = some k → ¬ S k) : PartsIn base w1 v ls := by
  obtain ⟨ss, h1, h2, h3, h4⟩ := h.ex
  refine ⟨ss, ?_, h2.mod hm ha, fun s hs ad he => Nat.lt_of_lt_of_le (h3 s hs ad he) hm.size, h4⟩
  have h5 : KSl.R 22 w base (fun k => v.ownBlock = some k) v ss := ⟨fun _ hj => hj, h1.2⟩
  exact Kd.R_mono (Kd.R_step h5 (fun k hk hlt => hm.same k hlt (hn k hk))) (fun _ _ => trivial)
/-- A piece of a message's. -/
theorem PartsIn.at_ {base : Nat} {w : World} {v : Value} {ls : List (List Nat)} (h : PartsIn base w v ls) (i : Nat) (hi : i < ls.length) : ∃ r c s, v = .slice (some ⟨r, 0, none⟩) ls.length c ∧ w.cell? ⟨r, i, none⟩ = some (.slice s.1 s.2.1 s.2.2) ∧ PartAt base w s (ls.getD i []) ∧ base ≤ r ∧ r < w.heap.size ∧ ls.length ≤ c := by
  obtain ⟨ss, h1, h2, h3, h4⟩ := h.ex
  have hl := h2.length
  obtain ⟨r, c, rfl, hb, hlt, _⟩ := Kd.R_form h1 (by omega)
  obtain ⟨s, hs, hc, _⟩ := SRow.cell h1 i (by omega)
  have hp := h2.at_ i hi
  rw [hs.out] at hp
  rw [hl]
  exact ⟨r, c, s, rfl, hc, hp, hb, hlt, by have := (SRow.len h1).2; omega⟩
theorem PartsIn.cell {base r n c : Nat} {w : World} {ls : List (List Nat)} (h : PartsIn base w (.slice (some ⟨r, 0, none⟩) n c) ls) (i : Nat) (hi : i < ls.length) : ∃ s, w.cell? ⟨r, i, none⟩ = some (.slice s.1 s.2.1 s.2.2) ∧ PartAt base w s (ls.getD i []) := by
  obtain ⟨r', c', s, he, hc, hp, _⟩ := h.at_ i hi
  injection he with he1 he2 he3
  injection he1 with he1
  injection he1 with he1 _ _
  subst he1
  exact ⟨s, hc, hp⟩
theorem add_first (g q : Nat) : addC 2000 2000 5 [] pS 0 1 2 [0] 1 g q = ([⟨g, q, ⟨pS, 0, 1, [[], [0]]⟩⟩], [], 0) := rfl
theorem add_second (g q g2 q2 : Nat) (Z : List Nat) (hZ : Z.length = 1024) : addC 2000 2000 5 [⟨g, q, ⟨pS, 0, 1, [[], [0]]⟩⟩] pS 0 0 2 Z 2 g2 q2 = ([], Z ++ [0], 0) := by
  have hm : mayB 0 0 2 Z.length = true := by rw [hZ]; rfl
  have hne : isNil Z = false := by
    cases Z with
    | nil => simp at hZ
    | cons a l => rfl
  have h1 : ([⟨g, q, ⟨pS, 0, 1, [[], [0]]⟩⟩] : List Cel).filter (fun x => !old_ 5 2 x) = [⟨g, q, ⟨pS, 0, 1, [[], [0]]⟩⟩] := rfl
  rw [addC_own (y := ⟨g, q, ⟨pS, 0, 1, [[], [0]]⟩⟩) hm (by rw [h1]; simp [own_]), h1]
  have h2 : othersL pS (some g) [⟨g, q, ⟨pS, 0, 1, [[], [0]]⟩⟩] = [] := by simp [othersL, neO]
  have h3 : roomR 2000 2000 Z.length pS (some g) [⟨g, q, ⟨pS, 0, 1, [[], [0]]⟩⟩] = ⟨[], true⟩ := by
    unfold roomR
    have h5 : sumB (mine_ pS) [⟨g, q, ⟨pS, 0, 1, [[], [0]]⟩⟩] = 1 := by simp [sumB, mine_, sizeL]
    have h6 : sumB (fun _ => true) [⟨g, q, ⟨pS, 0, 1, [[], [0]]⟩⟩] = 1 := by simp [sumB, sizeL]
    rw [h2, hZ, h5, h6]
    rfl
  have h7 := addOwn_none (P := 2000) (A := 2000) (xs := [⟨g, q, ⟨pS, 0, 1, [[], [0]]⟩⟩]) (peer := pS) (y := ⟨g, q, ⟨pS, 0, 1, [[], [0]]⟩⟩) (p := 0) (ny := 2) (body := Z) rfl rfl
  rw [h3, if_neg (by decide)] at h7
  refine h7.trans ?_
  have h4 : stay [] [(⟨g, q, ⟨pS, 0, 1, [[], [0]]⟩⟩ : Cel)] = [⟨g, q, ⟨pS, 0, 1, [[], [0]]⟩⟩] := rfl
  rw [h4]
  have h5 : ([[], [0]] : List (List Nat)).set 0 Z = [Z, [0]] := rfl
  simp only [h5]
  have h6 : ([Z, [0]] : List (List Nat)).any isNil = false := by simp [hne]; rfl
  unfold endAdd
  rw [if_neg (by rw [h6]; decide)]
  simp [putPart]
theorem ok_first (g q : Nat) : ∀ x ∈ [(⟨g, q, ⟨pS, 0, 1, [[], [0]]⟩⟩ : Cel)], EntOk x.e := by
  intro x hx
  rw [List.mem_singleton.1 hx]
  show EntOk ⟨pS, 0, 1, [[], [0]]⟩
  refine ⟨by decide, by decide, ?_, ?_, by decide, by decide, by decide⟩
  · intro l hl
    rcases List.mem_cons.1 hl with rfl | hl
    · decide
    · rw [List.mem_singleton.1 hl]; decide
  · intro l hl
    rcases List.mem_cons.1 hl with rfl | hl
    · exact BytesOK.nil
    · rw [List.mem_singleton.1 hl]; intro z hz; rw [List.mem_singleton.1 hz]; decide
theorem held_first (g q : Nat) : sumB (mine_ pS) [(⟨g, q, ⟨pS, 0, 1, [[], [0]]⟩⟩ : Cel)] = 1 := by simp [sumB, mine_, sizeL]
end Go.Proofs.Ytcmiajnndmaeiaa
