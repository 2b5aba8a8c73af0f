/- A slice of structs of eight whole numbers as an argument: its cells. Over any program. -/
import Derived.Test.YtcmiajnndmaeiaaFragNil
import Derived.Deep.Slices
import Derived.Deep.Fields
import Derived.ChangeSame
set_option linter.unusedVariables false
namespace Go.Proofs.Ytcmiajnndmaeiaa
open Go.ChangeShapes Go.WideShapes Go.Deep Go.RowKit
theorem spot_of {w : World} {q : Addr} {v : Value} (h : w.cell? (q.add 0) = some v) : q.spot = none := by
  have h1 := World.cell?_spot h
  simpa [Addr.add] using h1
theorem cell_of {w : World} {q : Addr} {j : Nat} {v : Value} (hs : q.spot = none) (h : w.cell? (q.add j) = some v) : w.cell? ⟨q.block, q.off + j, none⟩ = some v := by
  obtain ⟨b, o, s⟩ := q
  have h2 : s = none := hs
  subst h2
  rw [add_plain] at h
  exact h
theorem open_acts {H : Type} {enc : TypeId × Value → H} {P : Program} {w : World} {base : Nat} {spare : Nat → Bool} {held : Bool} {t e : TypeId} {f0 f1 f2 f3 f4 f5 f6 f7 : Field} {fuel : Nat} {cs : List Value} {x : DataW H × List MemPlace}
    (ht : P.underlying t = some (.slice e)) (he : P.underlying e = some (.struct #[f0, f1, f2, f3, f4, f5, f6, f7])) (hone : oneCellFields P #[f0, f1, f2, f3, f4, f5, f6, f7] = true) (hC : P.cellsOf e = 8)
    (k0 : P.underlying f0.type = some (.int .i64)) (k1 : P.underlying f1.type = some (.int .i64)) (k2 : P.underlying f2.type = some (.int .i64)) (k3 : P.underlying f3.type = some (.int .i64)) (k4 : P.underlying f4.type = some (.int .i64)) (k5 : P.underlying f5.type = some (.int .i64)) (k6 : P.underlying f6.type = some (.int .u8)) (k7 : P.underlying f7.type = some (.int .u64))
    (h : DataW.trod enc P w base spare held fuel t cs = some x) : cs = [.slice none 0 0] ∨ ∃ a len cap, cs = [.slice (some a) len cap] ∧ ActRow w (some a) len cap := by
  rcases open_slice ht h with h0 | ⟨a, len, cap, m, n, D, Pl, hcs, hb, hl, hm, hmm, hx, hi⟩
  · exact .inl h0.1
  refine .inr ⟨a, len, cap, hcs, hl, by unfold maxLen at hm; omega, fun hp => ⟨a, rfl, fun i hil => ?_⟩⟩
  obtain ⟨cs', hc, ht'⟩ := hi i (by rw [hmm]; split <;> omega)
  rw [hC] at hc
  obtain ⟨ys, n', hn', hy, hlen, hyl, hf⟩ := DataW.trod_struct he ht'
  obtain ⟨_, hcl, hat⟩ := World.cells?_some hc
  have key : ∀ (j : Nat) (f : Field) (k : IntKind), (#[f0, f1, f2, f3, f4, f5, f6, f7] : Array Field)[j]? = some f → P.underlying f.type = some (.int k) → ∃ z, w.cell? ((a.add (i * 8)).add j) = some (.int k z) ∧ (Lit.int k z).wf = true := fun j f k hj hk => by
    obtain ⟨ho, hkk⟩ := hone_of hone j f hj
    have hjl : j < 8 := (Array.getElem?_eq_some_iff.1 hj).1
    have h1 := hf j f hj
    rw [ho, hkk, show (cs'.drop j).take 1 = [cs'[j]'(by omega)] by rw [List.drop_eq_getElem_cons (by omega)]; rfl] at h1
    rw [List.getElem?_eq_getElem (show j < ys.length by rw [hyl]; exact hjl)] at h1
    obtain ⟨z, e1, _, hw⟩ := DataW.trod_int hk h1
    injection e1 with e1
    have h2 := hat j hjl
    rw [List.getElem?_eq_getElem (by omega), e1] at h2
    exact ⟨z, h2, hw⟩
  obtain ⟨z0, c0, _⟩ := key 0 f0 .i64 rfl k0
  obtain ⟨z1, c1, _⟩ := key 1 f1 .i64 rfl k1
  obtain ⟨z2, c2, _⟩ := key 2 f2 .i64 rfl k2
  obtain ⟨z3, c3, _⟩ := key 3 f3 .i64 rfl k3
  obtain ⟨z4, c4, w4⟩ := key 4 f4 .i64 rfl k4
  obtain ⟨z5, c5, _⟩ := key 5 f5 .i64 rfl k5
  obtain ⟨z6, c6, w6⟩ := key 6 f6 .u8 rfl k6
  obtain ⟨z7, c7, w7⟩ := key 7 f7 .u64 rfl k7
  have hs := spot_of c0
  generalize a.add (i * 8) = q at *
  simp [Lit.wf, IntKind.min, IntKind.max, IntKind.signed, IntKind.bits] at w4 w6 w7
  refine ⟨q.block, q.off, z0, z1, z2, z3, z4, z5, z6, z7, ?_, cell_of hs c0, cell_of hs c1, cell_of hs c2, cell_of hs c3, cell_of hs c4, cell_of hs c5, cell_of hs c6, cell_of hs c7, by omega, by omega, by omega, by omega, by omega, by omega⟩
  obtain ⟨b, o, s⟩ := q
  have h2 : s = none := hs
  subst h2
  rfl
end Go.Proofs.Ytcmiajnndmaeiaa
