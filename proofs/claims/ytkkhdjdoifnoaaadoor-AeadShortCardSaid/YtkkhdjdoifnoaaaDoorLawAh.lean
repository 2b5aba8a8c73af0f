/- The walk through redanlaw09.AeadShort. -/
import Derived.Test.YtkkhdjdoifnoaaaDoorAeadAwake
import Derived.Test.YtkkhdjdoifnoaaaDoorRefAeadO
set_option linter.unusedVariables false
set_option linter.unusedSimpArgs false
namespace Go.Proofs.YtkkhdjdoifnoaaaDoor
open Go.RowKit Go.Proofs.YtkkhdjdoifnoaaaDoorW.PrintWords Go.Proofs.YtkkhdjdoifnoaaaDoorW.PrintLast Go.Proofs.YtkkhdjdoifnoaaaDoorW.PrintMore
theorem openN_err (key nonce ad box : List Nat) : (openN key nonce ad box).2 = 13 ∧ box.length < 16 ∨ (openN key nonce ad box).2 = 0 ∧ 16 ≤ box.length ∨ (openN key nonce ad box).2 = 10 ∧ 16 ≤ box.length := by
  unfold openN
  split
  · exact Or.inl ⟨rfl, by assumption⟩
  · split
    · exact Or.inr (Or.inl ⟨rfl, by omega⟩)
    · exact Or.inr (Or.inr ⟨rfl, by omega⟩)
set_option maxHeartbeats 2000000 in
set_option maxRecDepth 100000 in
theorem aeadShort_walk (W : World) (hpl : PlacesAt W) {A : Option Addr} {na ca : Nat} {key : List Nat} (hk0 : Bytes W A na ca key) (hfa : na ≤ 140737488351232) {B : Option Addr} {nb cb : Nat} {nonce : List Nat} (hn0 : Bytes W B nb cb nonce) (hfb : nb ≤ 140737488351232) {C : Option Addr} {nc cc : Nat} {b : List Nat} (ha0 : Bytes W C nc cc b) (hfc : nc ≤ 140737488351232) :
    Calls Tryd.prog 7 #[.slice A na ca, .slice B nb cb, .slice C nc cc] W fun e w' => e = .returned (.bool true) ∧ Below W.heap.size W w' := by
  have HK := hd hk0
  have HN := hd hn0
  have HA := hd ha0
  clear hk0 hn0 ha0 hfa hfb hfc
  by_cases hbig : 100 < nc
  · have q1 : decide ((100 : Int) < (nc : Int)) = true := by simp; omega
    go_enter Tryd.func7, Tryd.ntmps7
    go_wp2_with (go_at_call 8; refine (awake_calls hpl).mono ?_; rintro e w1 ⟨rfl, hb1⟩)
    go_ret
    exact ⟨rfl, hb1⟩
  have q1 : decide ((100 : Int) < (nc : Int)) = false := by simp; omega
  by_cases h1 : na = 32
  · have q3 : ((na : Int) != 32) = false := by simp; omega
    by_cases h2 : nb = 12
    · subst h1
      subst h2
      have hcase := openN_err key nonce b b
      rw [HA.out.2.1] at hcase
      rcases hcase with ⟨he, hl⟩ | ⟨he, hl⟩ | ⟨he, hl⟩
      all_goals
        have HE := hd he
        clear he
        go_enter Tryd.func7, Tryd.ntmps7
        go_wp2_with fail
        refine (awake_calls hpl).mono ?_
        rintro e w1 ⟨rfl, hb⟩
        have hk := HK.out.below hb
        have hn := HN.out.below hb
        have ha := HA.out.below hb
        have hp := hpl.below hb
        go_wp2_with fail
        refine (open_calls hk hn ha ha hp (by omega) (by omega)).mono ?_
        rw [HE.out]
        rintro e w2 ⟨v2, rfl, ho2, hb2⟩
        go_wp2
        go_ret
        exact ⟨by simp; omega, below_seq hb hb2⟩
    · have q4 : ((nb : Int) != 12) = true := by simp; omega
      have H := hd (Or.inr (a := na ≠ 32) h2)
      clear h1 h2
      go_enter Tryd.func7, Tryd.ntmps7
      go_wp2_with fail
      refine (awake_calls hpl).mono ?_
      rintro e w1 ⟨rfl, hb⟩
      have ha := HA.out.below hb
      go_wp2_with fail
      refine (open_none w1 ha (by omega) H.out).mono ?_
      rintro e w' ⟨rfl, rfl⟩
      go_wp2
      go_ret
      exact ⟨by simp, hb⟩
  · have q4 : ((na : Int) != 32) = true := by simp; omega
    have H := hd (Or.inl (b := nb ≠ 12) h1)
    clear h1
    go_enter Tryd.func7, Tryd.ntmps7
    go_wp2_with fail
    refine (awake_calls hpl).mono ?_
    rintro e w1 ⟨rfl, hb⟩
    have ha := HA.out.below hb
    go_wp2_with fail
    refine (open_none w1 ha (by omega) H.out).mono ?_
    rintro e w' ⟨rfl, rfl⟩
    go_wp2
    go_ret
    exact ⟨by simp, hb⟩

end Go.Proofs.YtkkhdjdoifnoaaaDoor
