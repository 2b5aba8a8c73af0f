/- SessionPlays' arguments: two keys by value; the script. Over any program. -/
import Derived.Test.YtlgdplodglchaaaDoorPlayP
import Derived.Test.YtlgdplodglchaaaDoorGSesG
import Derived.OpenShut
import Derived.Deep.Slices
import Derived.Deep.Fields
import Derived.ChangeSame
set_option linter.unusedVariables false
namespace Go.Proofs.YtlgdplodglchaaaDoor
open Go.ChangeShapes Go.WideShapes Go.Deep Go.RowKit
theorem open_bytes1 {H : Type} {enc : TypeId × Value → H} {P : Program} {w : World} {base : Nat} {held : Bool} {t e : TypeId} {fuel : Nat} {v : Value} {x : DataW H × List MemPlace}
    (ht : P.underlying t = some (.slice e)) (he : P.underlying e = some (.int .u8)) (hC : P.cellsOf e = 1) (h : DataW.trod enc P w base (fun _ => true) held fuel t [v] = some x) : ∃ A n c l, v = .slice A n c ∧ Bytes w A n c l := by
  rcases open_ints ht he hC h with ⟨hcs, _⟩ | ⟨x, l, c, zs, hcs, _, hl, hm, hz, _, hcell, hwz⟩
  · injection hcs with hcs
    exact ⟨none, 0, 0, [], hcs, Bytes.nil _ _ _⟩
  · injection hcs with hcs
    exact ⟨_, _, _, _, hcs, Bytes.of_cells hl (by simpa using hz) hcell hwz⟩
theorem array2 {α : Type} {cs : Array α} {c0 c1 : α} (h : cs.size = 2) (h0 : cs.toList[0]? = some c0) (h1 : cs.toList[1]? = some c1) : cs = #[c0, c1] := by
  obtain ⟨l⟩ := cs
  match l, h with
  | [a0, a1], _ => simp_all
theorem open_keys2 {H : Type} {enc : TypeId × Value → H} {P : Program} {W : World} {base b0 : Nat} {r : Reach} {held : Bool} {t s e : TypeId} {v : Value} {d : DataW H} {ps : List MemPlace}
    (ht : P.underlying t = some (.array 2 s)) (hs : P.underlying s = some (.slice e)) (he : P.underlying e = some (.int .u8)) (hce : P.cellsOf e = 1) (hcs : P.cellsOf s = 1) (hct : P.cellsOf t = 2) (hval : Value.okWide P W r b0 t v) (h : DataW.Trod enc P W base (fun _ => true) held t v d ps) :
    ∃ A0 m0 d0 l0 A1 m1 d1 l1, v = .agg #[.slice A0 m0 d0, .slice A1 m1 d1] ∧ Bytes W A0 m0 d0 l0 ∧ Bytes W A1 m1 d1 l1 := by
  unfold Value.okWide at hval
  rw [ht] at hval
  obtain ⟨cs, rfl, hsz, _⟩ := hval
  obtain ⟨fuel, hf⟩ := h
  obtain ⟨xs, m, rfl, hx, hl, hxl, hall⟩ := DataW.trod_array ht hf
  have hcl : (Value.agg cs).cells.toList = cs.toList := by simp [Value.cells]
  rw [hcl] at hl hall
  rw [hct] at hl
  rw [hcs] at hall
  have hl2 : cs.toList.length = 2 := hl
  have key : ∀ i, i < 2 → ∃ A n c l, cs.toList[i]? = some (.slice A n c) ∧ Bytes W A n c l := fun i hi => by
    have h1 := hall i hi
    rw [Nat.mul_one, List.getElem?_eq_getElem (by omega), show (cs.toList.drop i).take 1 = [cs.toList[i]'(by omega)] by rw [List.drop_eq_getElem_cons (by omega)]; rfl] at h1
    obtain ⟨A, n, c, l, e1, hb⟩ := open_bytes1 hs he hce h1
    exact ⟨A, n, c, l, by rw [List.getElem?_eq_getElem (by omega), e1], hb⟩
  obtain ⟨A0, m0, d0, l0, e0, hb0⟩ := key 0 (by decide)
  obtain ⟨A1, m1, d1, l1, e1, hb1⟩ := key 1 (by decide)
  exact ⟨A0, m0, d0, l0, A1, m1, d1, l1, by rw [array2 (by simpa using hl2) e0 e1], hb0, hb1⟩
theorem open_plays {H : Type} {enc : TypeId × Value → H} {P : Program} {w : World} {base : Nat} {held : Bool} {t e b : TypeId} {f0 f1 f2 f3 : Field} {fuel : Nat} {cs : List Value} {x : DataW H × List MemPlace}
    (ht : P.underlying t = some (.slice e)) (he : P.underlying e = some (.struct #[f0, f1, f2, f3])) (hone : oneCellFields P #[f0, f1, f2, f3] = true) (hC : P.cellsOf e = 4)
    (k0 : P.underlying f0.type = some (.int .i64)) (k1 : P.underlying f1.type = some (.slice b)) (kb : P.underlying b = some (.int .u8)) (kc : P.cellsOf b = 1) (k2 : P.underlying f2.type = some (.int .u64)) (k3 : P.underlying f3.type = some (.int .u64))
    (h : DataW.trod enc P w base (fun _ => true) held fuel t cs = some x) : cs = [.slice none 0 0] ∨ ∃ a len cap, cs = [.slice (some a) len cap] ∧ PlayRow w (some a) len cap := by
  rcases open_slice ht h with h0 | ⟨a, len, cap, m, n, D, Pl, hcs, hb, hl, hm, hmm, hx, hi⟩
  · exact .inl h0.1
  refine .inr ⟨a, len, cap, hcs, hl, by unfold maxLen at hm; omega, fun hp => ⟨a, rfl, fun i hil => ?_⟩⟩
  obtain ⟨cs', hc, ht'⟩ := hi i (by rw [hmm]; split <;> omega)
  rw [hC] at hc
  obtain ⟨ys, n', hn', hy, hlen, hyl, hf⟩ := DataW.trod_struct he ht'
  obtain ⟨_, hcl, hat⟩ := World.cells?_some hc
  have key : ∀ (j : Nat) (f : Field) (k : IntKind), (#[f0, f1, f2, f3] : Array Field)[j]? = some f → P.underlying f.type = some (.int k) → ∃ z, w.cell? ((a.add (i * 4)).add j) = some (.int k z) ∧ (Lit.int k z).wf = true := fun j f k hj hk => by
    obtain ⟨ho, hkk⟩ := hone_of hone j f hj
    have hjl : j < 4 := (Array.getElem?_eq_some_iff.1 hj).1
    have h1 := hf j f hj
    rw [ho, hkk, show (cs'.drop j).take 1 = [cs'[j]'(by omega)] by rw [List.drop_eq_getElem_cons (by omega)]; rfl] at h1
    rw [List.getElem?_eq_getElem (show j < ys.length by rw [hyl]; exact hjl)] at h1
    obtain ⟨z, e1, _, hw⟩ := DataW.trod_int hk h1
    injection e1 with e1
    have h2 := hat j hjl
    rw [List.getElem?_eq_getElem (by omega), e1] at h2
    exact ⟨z, h2, hw⟩
  have keyB : ∃ A n c l, w.cell? ((a.add (i * 4)).add 1) = some (.slice A n c) ∧ Bytes w A n c l := by
    obtain ⟨ho, hkk⟩ := hone_of hone 1 f1 rfl
    have h1 := hf 1 f1 rfl
    rw [ho, hkk, show (cs'.drop 1).take 1 = [cs'[1]'(by omega)] by rw [List.drop_eq_getElem_cons (by omega)]; rfl] at h1
    rw [List.getElem?_eq_getElem (show 1 < ys.length by rw [hyl]; exact (by simp))] at h1
    obtain ⟨A, n, c, l, e1, hb⟩ := open_bytes1 k1 kb kc h1
    have h2 := hat 1 (by decide)
    rw [List.getElem?_eq_getElem (by omega), e1] at h2
    exact ⟨A, n, c, l, h2, hb⟩
  obtain ⟨z0, c0, _⟩ := key 0 f0 .i64 rfl k0
  obtain ⟨A, n1, c1', l, c1, hb1⟩ := keyB
  obtain ⟨z2, c2, w2⟩ := key 2 f2 .u64 rfl k2
  obtain ⟨z3, c3, w3⟩ := key 3 f3 .u64 rfl k3
  have hs : (a.add (i * 4)).spot = none := by
    have h1 := World.cell?_spot c0
    simpa [Addr.add] using h1
  have cell_of : ∀ (j : Nat) (v : Value), w.cell? ((a.add (i * 4)).add j) = some v → w.cell? ⟨(a.add (i * 4)).block, (a.add (i * 4)).off + j, none⟩ = some v := fun j v hv => by
    generalize a.add (i * 4) = q at hs hv ⊢
    obtain ⟨bq, o, sp⟩ := q
    have h2 : sp = none := hs
    subst h2
    rw [add_plain] at hv
    exact hv
  have b2 := bounds_u64 w2
  have b3 := bounds_u64 w3
  refine ⟨(a.add (i * 4)).block, (a.add (i * 4)).off, z0, A, n1, c1', l, z2.toNat, z3.toNat, ?_, cell_of 0 _ c0, cell_of 1 _ c1, ?_, ?_, hb1, by omega, by omega⟩
  · generalize a.add (i * 4) = q at hs ⊢
    obtain ⟨bq, o, sp⟩ := q
    have h2 : sp = none := hs
    subst h2
    rfl
  · rw [Int.toNat_of_nonneg b2.1]; exact cell_of 2 _ c2
  · rw [Int.toNat_of_nonneg b3.1]; exact cell_of 3 _ c3
end Go.Proofs.YtlgdplodglchaaaDoor
