/- The walks through the reference's SHA3-256 and the keys made of it. -/
import Derived.Test.YtlgdplodglchaaaDoorRab
import Derived.Test.YtlgdplodglchaaaDoorM5
set_option linter.unusedVariables false
set_option linter.unusedSimpArgs false
namespace Go.Proofs.YtlgdplodglchaaaDoor
open Go.RowKit Go.Proofs.YtlgdplodglchaaaDoorW.PrintWords Go.Proofs.YtlgdplodglchaaaDoorW.PrintLast Go.Proofs.YtlgdplodglchaaaDoorW.PrintMore
set_option maxHeartbeats 4000000 in
set_option maxRecDepth 100000 in
theorem rout_calls {A : Option Addr} {c : Nat} {a : List Nat} {w : World} (hr_ : RowK .u64 w A a) (ha_ : a.length = 25) (hl_ : Lanes a) (hc_ : 25 ≤ c) : Calls Tryd.prog 82 #[.slice A 25 c, .int .i64 136, .int .i64 32] w fun e w' => ∃ v, e = .returned v ∧ OwnK .u8 5 w.heap.size w' v ((bytesN a).take 32) ∧ Below w.heap.size w w' := by
  have HM := hd (rbytes_calls hr_ ha_ hl_ hc_)
  have HBL := hd (show (bytesN a).length = 200 by rw [bytesN_length, ha_])
  clear hr_ ha_ hl_ hc_
  go_enter Tryd.func82, Tryd.ntmps82
  go_upto_region 2 with (fail)
  go_loopw [0, 7] (fun u0 u7 wr => (u0 = .slice A 25 c ∧ u7 = .slice none 0 0 ∧ wr = w) ∨ (∃ A7 c7, u7 = .slice A7 136 c7 ∧ Aside0 (136 ≤ c7) ∧ Aside0 (OwnK .u8 5 w.heap.size wr (.slice A7 136 c7) ((bytesN a).take 136)) ∧ Aside0 (Below w.heap.size w wr))) (fun _ u7 _ => 200 - slLen u7)
  case atStart => exact Or.inl ⟨rfl, rfl, rfl⟩
  case round =>
    rcases hrel with ⟨rfl, rfl, rfl⟩ | ⟨A7, c7, rfl, HC, HO, HBW⟩
    · go_wp2_with fail
      refine HM.out.mono ?_
      rintro e w1 ⟨v, rfl, ho, hb⟩
      obtain ⟨A1, c1, rfl, hc1, _⟩ := ho.slice
      rw [HBL.out] at ho hc1 ⊢
      have HO := hd (ho.take (m := 136) (by decide))
      have HB := hd hb
      have j1 : (136 : Int) ≤ c1 := by omega
      have hlen : (([] : List Nat).length + ((bytesN a).take 136).length) * 1 ≤ 140737488355328 := by rw [List.length_take, HBL.out]; decide
      clear ho hb hc1
      go_upto_region 4 with ((with_reducible refine gate_dst (N := 17) rfl ?_); refine op_append_row (k := .u8) (w0 := wr) 17 rfl wr.heap.size 5 40 (.tmp 12) (.tmp 16) rfl rfl Tryd.underlying40 Tryd.infoU8 (by decide) (.slice none 0 0) [] ((bytesN a).take 136) A1 136 c1 rfl rfl (by rw [List.length_take, HBL.out]; rfl) (OwnK.nil _ _ _ _) HO.out.rowK HB.out HB.out.size hlen ?_; intro v7 w7 ho7 hb7 hg7)
      obtain ⟨A7, c7, rfl, hc7, _⟩ := ho7.slice
      have hl7 : ([] ++ (bytesN a).take 136).length = 136 := by rw [List.nil_append, List.length_take, HBL.out]; rfl
      rw [hl7] at ho7 hc7 ⊢
      have HO7 := hd (show OwnK .u8 5 wr.heap.size w7 (.slice A7 136 c7) ((bytesN a).take 136) from ho7)
      have HB7 := hd hb7
      have HC7 := hd hc7
      clear ho7 hb7 hg7 hlen hl7 hc7 j1
      go_wp2
      go_roundw
      case rel => exact Or.inr ⟨A7, c7, rfl, HC7, HO7, HB7⟩
      case measure => simp [slLen]
    · have HO2 := hd (HO.out.take (m := 32) (by decide))
      rw [List.take_take] at HO2
      have j1 : (32 : Int) ≤ c7 := by have := HC.out; omega
      go_wp2
      go_ret
      exact ⟨_, rfl, HO2.out, HBW.out⟩
set_option maxHeartbeats 1000000 in
set_option maxRecDepth 100000 in
theorem rsum_calls {B : Option Addr} {n c : Nat} {b : List Nat} {w : World} (hb : Bytes w B n c b) (hn : n ≤ 1000000000) :
    Calls Tryd.prog 63 #[.slice B n c] w fun e w' => ∃ v, e = .returned v ∧ OwnK .u8 5 w.heap.size w' v (sumN b) ∧ Below w.heap.size w w' := by
  have HA := hd (rabsorb_calls (rate := 136) (suf := 6) (by decide) (by decide) (by decide) (by decide) hb hn)
  have HBO := hd hb.ok
  clear hb hn
  go_enter Tryd.func63, Tryd.ntmps63
  go_wp2_with fail
  refine HA.out.mono ?_
  rintro e w1 ⟨A1, c1, rfl, hc1, ho1, hb1⟩
  have HB1 := hd hb1
  have HO1 := hd ho1
  have HC1 := hd hc1
  clear hb1 ho1 hc1
  go_wp2_with fail
  refine (rout_calls HO1.out.rowK (absN_length 136 6 b) (absN_ok HBO.out (by decide)) HC1.out).mono ?_
  rintro e w2 ⟨v, rfl, ho, hb2⟩
  have ho' := ho.lower HB1.out.size
  have hb := below_seq HB1.out hb2
  clear ho hb2
  go_wp2
  go_ret
  exact ⟨_, rfl, ho', hb⟩
/-- Two rows' own blocks are not the same. -/
def Twain (u v : Value) : Prop := ∀ j, u.ownBlock = some j → v.ownBlock ≠ some j
theorem Twain.symm {u v : Value} (h : Twain u v) : Twain v u := fun j hj e => h j e hj
theorem Twain.grow {u u1 v : Value} {k : IntKind} {e base : Nat} {w : World} {l : List Nat} (h : Twain u v) (hat : u1.ownBlock = u.ownBlock ∨ ∃ b, u1.ownBlock = some b ∧ w.heap.size ≤ b) (hv : OwnK k e base w v l) : Twain u1 v := fun j hj => by
  rcases hat with hat | ⟨b, hb, hle⟩
  · exact h j (hat ▸ hj)
  · rw [hb] at hj
    injection hj with hj
    exact fun e => by have := (hv.lt j e).2; omega
end Go.Proofs.YtlgdplodglchaaaDoor
