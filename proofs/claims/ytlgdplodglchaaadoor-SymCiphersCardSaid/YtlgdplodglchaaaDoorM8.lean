/- Merged texts. -/
import Derived.Test.YtlgdplodglchaaaDoorSymK
/- What redanlaw16.awake reckons: plain. -/
set_option linter.unusedVariables false
namespace Go.Proofs.YtlgdplodglchaaaDoor
abbrev nmL : List Nat := [97, 32, 110, 97, 109, 101]
theorem aw_n0 : nameN nmL = [97, 32, 110, 97, 109, 101, 0, 0, 0, 0, 0, 0, 0, 0, 0, 0, 0, 0, 0, 0, 0, 0, 0, 0, 0, 0, 0, 0, 0, 0, 0, 0] := by kernel_rfl
theorem aw_t1 : macN [97, 32, 110, 97, 109, 101, 0, 0, 0, 0, 0, 0, 0, 0, 0, 0, 0, 0, 0, 0, 0, 0, 0, 0, 0, 0, 0, 0, 0, 0, 0, 0] [1] = [183, 12, 170, 178, 87, 165, 232, 18, 1, 174, 21, 89, 30, 137, 239, 107, 252, 150, 234, 131, 151, 151, 18, 217, 228, 181, 73, 162, 171, 22, 104, 7] := by kernel_rfl
theorem aw_c1 : macN [183, 12, 170, 178, 87, 165, 232, 18, 1, 174, 21, 89, 30, 137, 239, 107, 252, 150, 234, 131, 151, 151, 18, 217, 228, 181, 73, 162, 171, 22, 104, 7] [1] = [184, 94, 74, 34, 109, 184, 57, 134, 144, 93, 83, 35, 144, 153, 51, 181, 179, 159, 157, 125, 244, 61, 189, 55, 231, 12, 14, 93, 116, 116, 167, 52] := by kernel_rfl
theorem aw_t2 : macN [184, 94, 74, 34, 109, 184, 57, 134, 144, 93, 83, 35, 144, 153, 51, 181, 179, 159, 157, 125, 244, 61, 189, 55, 231, 12, 14, 93, 116, 116, 167, 52] [] = [129, 153, 92, 94, 234, 189, 108, 29, 191, 228, 168, 156, 189, 46, 160, 184, 151, 124, 104, 118, 249, 121, 144, 56, 37, 17, 189, 93, 187, 149, 63, 197] := by kernel_rfl
theorem aw_c2 : macN [129, 153, 92, 94, 234, 189, 108, 29, 191, 228, 168, 156, 189, 46, 160, 184, 151, 124, 104, 118, 249, 121, 144, 56, 37, 17, 189, 93, 187, 149, 63, 197] [1] = [243, 143, 174, 233, 4, 87, 25, 40, 97, 111, 103, 82, 227, 134, 36, 9, 220, 240, 246, 224, 88, 117, 19, 107, 38, 147, 114, 76, 130, 25, 219, 219] := by kernel_rfl
theorem aw_t3 : macN [243, 143, 174, 233, 4, 87, 25, 40, 97, 111, 103, 82, 227, 134, 36, 9, 220, 240, 246, 224, 88, 117, 19, 107, 38, 147, 114, 76, 130, 25, 219, 219] [] = [26, 111, 64, 236, 78, 198, 188, 27, 35, 142, 79, 88, 59, 195, 40, 131, 99, 246, 88, 172, 119, 0, 89, 39, 55, 63, 106, 73, 221, 226, 89, 0] := by kernel_rfl
theorem aw_p : macN [26, 111, 64, 236, 78, 198, 188, 27, 35, 142, 79, 88, 59, 195, 40, 131, 99, 246, 88, 172, 119, 0, 89, 39, 55, 63, 106, 73, 221, 226, 89, 0] [1] = [104, 74, 91, 226, 42, 131, 177, 125, 4, 87, 186, 235, 71, 205, 234, 27, 100, 210, 0, 139, 28, 91, 16, 140, 51, 106, 2, 103, 2, 242, 33, 216] := by kernel_rfl
theorem aw_q : macN [26, 111, 64, 236, 78, 198, 188, 27, 35, 142, 79, 88, 59, 195, 40, 131, 99, 246, 88, 172, 119, 0, 89, 39, 55, 63, 106, 73, 221, 226, 89, 0] ([104, 74, 91, 226, 42, 131, 177, 125, 4, 87, 186, 235, 71, 205, 234, 27, 100, 210, 0, 139, 28, 91, 16, 140, 51, 106, 2, 103, 2, 242, 33, 216] ++ [2]) = [229, 57, 82, 146, 52, 161, 150, 159, 240, 40, 69, 211, 230, 137, 198, 254, 214, 127, 166, 234, 133, 249, 135, 107, 203, 17, 121, 227, 214, 64, 137, 125] := by kernel_rfl
theorem aw_r : (rekN [104, 74, 91, 226, 42, 131, 177, 125, 4, 87, 186, 235, 71, 205, 234, 27, 100, 210, 0, 139, 28, 91, 16, 140, 51, 106, 2, 103, 2, 242, 33, 216]).getD 0 0 = 87 := by kernel_rfl
def awC2 : List Nat := threeA (threeA (nameN nmL) [1]) []
theorem aw_C2 : awC2 = [243, 143, 174, 233, 4, 87, 25, 40, 97, 111, 103, 82, 227, 134, 36, 9, 220, 240, 246, 224, 88, 117, 19, 107, 38, 147, 114, 76, 130, 25, 219, 219] := by rw [awC2, aw_n0, threeA, threeA, aw_t1, aw_c1, aw_t2, aw_c2]
theorem aw_P : threeA awC2 [] = [104, 74, 91, 226, 42, 131, 177, 125, 4, 87, 186, 235, 71, 205, 234, 27, 100, 210, 0, 139, 28, 91, 16, 140, 51, 106, 2, 103, 2, 242, 33, 216] := by rw [aw_C2, threeA, aw_t3, aw_p]
theorem aw_Q : threeB awC2 [] = [229, 57, 82, 146, 52, 161, 150, 159, 240, 40, 69, 211, 230, 137, 198, 254, 214, 127, 166, 234, 133, 249, 135, 107, 203, 17, 121, 227, 214, 64, 137, 125] := by rw [threeB, aw_P, aw_C2, aw_t3, aw_q]
theorem aw_ne : rekN (threeA awC2 []) ≠ threeB awC2 [] := fun h => by
  have h1 : (rekN (threeA awC2 [])).getD 0 0 = (threeB awC2 []).getD 0 0 := by rw [h]
  rw [aw_P, aw_Q, aw_r] at h1
  exact absurd h1 (by decide)
end Go.Proofs.YtlgdplodglchaaaDoor
/- A state in memory with what it holds, and its methods over it. -/
set_option linter.unusedVariables false
set_option linter.unusedSimpArgs false
namespace Go.Proofs.YtlgdplodglchaaaDoor
open Go.RowKit Go.Proofs.YtlgdplodglchaaaDoorW.PrintWords Go.Proofs.YtlgdplodglchaaaDoorW.PrintLast Go.Proofs.YtlgdplodglchaaaDoorW.PrintMore
/-- A state: the chaining key, the sum, the cipher's key and number. -/
structure StP where
  (ck h key : List Nat) (N : Nat)
def StP.mixKey (s : StP) (b : List Nat) : StP := ⟨threeA s.ck b, s.h, threeB s.ck b, 0⟩
def StP.mixBoth (s : StP) (b : List Nat) : StP := ⟨threeA s.ck b, sumN (s.h ++ threeB s.ck b), threeC s.ck b, 0⟩
def StP.useS (s : StP) (b : List Nat) : List Nat × Nat × Nat := useC s.key s.N b (sealA s.key (nonceN s.N) s.h b)
def StP.useO (s : StP) (b : List Nat) : List Nat × Nat × Nat := useC s.key s.N b (openA s.key (nonceN s.N) s.h b)
def StP.sealed (s : StP) (b : List Nat) : StP := if (s.useS b).2.1 = 0 then ⟨s.ck, sumN (s.h ++ (s.useS b).1), s.key, (s.useS b).2.2⟩ else s
def StP.opened (s : StP) (b : List Nat) : StP := if (s.useO b).2.1 = 0 then ⟨s.ck, sumN (s.h ++ b), s.key, (s.useO b).2.2⟩ else s
def StP.ok (s : StP) : Prop := s.ck.length = 32 ∧ s.h.length = 32 ∧ BytesOK s.ck ∧ BytesOK s.h ∧ BytesOK s.key ∧ s.N < 2 ^ 64
theorem StP.ok.mixKey {s : StP} (h : s.ok) (b : List Nat) : (s.mixKey b).ok := ⟨threeA_length _ _, h.2.1, threeA_ok _ _, h.2.2.2.1, threeB_ok _ _, Nat.two_pow_pos 64⟩
theorem StP.ok.mixBoth {s : StP} (h : s.ok) (b : List Nat) : (s.mixBoth b).ok := ⟨threeA_length _ _, sumN_length _, threeA_ok _ _, sumN_ok _, threeC_ok _ _, Nat.two_pow_pos 64⟩
theorem StP.ok.sealed {s : StP} (h : s.ok) (b : List Nat) : (s.sealed b).ok := by
  unfold StP.sealed
  split
  · exact ⟨h.1, sumN_length _, h.2.2.1, sumN_ok _, h.2.2.2.2.1, useC_lt _ _ h.2.2.2.2.2⟩
  · exact h
theorem StP.ok.opened {s : StP} (h : s.ok) (b : List Nat) : (s.opened b).ok := by
  unfold StP.opened
  split
  · exact ⟨h.1, sumN_length _, h.2.2.1, sumN_ok _, h.2.2.2.2.1, useC_lt _ _ h.2.2.2.2.2⟩
  · exact h
theorem useC_err' {key b : List Nat} {N : Nat} {r : List Nat × Nat} (h : (useC key N b r).2.1 ≠ 0) : (useC key N b r).2.2 = N := by
  unfold useC at h ⊢
  repeat' split at h
  all_goals simp_all
/-- The state in its block, its rows its own. -/
structure StBox (W w : World) (g : Nat) (ck h k : Sl) (p : StP) : Prop where
  at_ : StAt w g ck h k p.N
  rck : OwnK .u8 5 W.heap.size w ck.v p.ck
  rh : OwnK .u8 5 W.heap.size w h.v p.h
  rk : OwnK .u8 5 W.heap.size w k.v p.key
  ok : p.ok
  low : W.heap.size ≤ g
section
variable {W w : World} {g : Nat} {ck h k : Sl} {p : StP}
theorem StBox.below {w1 : World} (s : StBox W w g ck h k p) (hb : Below w.heap.size w w1) : StBox W w1 g ck h k p := ⟨s.at_.below hb, s.rck.below hb, s.rh.below hb, s.rk.below hb, s.ok, s.low⟩
theorem StBox.mod {w1 : World} {S : Nat → Prop} (s : StBox W w g ck h k p) (hm : Mod S w w1) (ha : Apart 5 w S) (hg : ¬ S g) : StBox W w1 g ck h k p :=
  ⟨show StAt w1 g ck h k p.N from hm.block s.at_ hg, s.rck.mod hm ha, s.rh.mod hm ha, s.rk.mod hm ha, s.ok, s.low⟩
theorem StBox.apart (s : StBox W w g ck h k p) : Apart 5 w (fun k => k = g) := Apart.one s.at_ (by decide)
theorem StBox.nck (s : StBox W w g ck h k p) : ck.n = 32 := (show OwnK .u8 5 W.heap.size w (.slice ck.A ck.n ck.c) p.ck from s.rck).row.1.trans s.ok.1
theorem StBox.nh (s : StBox W w g ck h k p) : h.n = 32 := (show OwnK .u8 5 W.heap.size w (.slice h.A h.n h.c) p.h from s.rh).row.1.trans s.ok.2.1
theorem StBox.bck (s : StBox W w g ck h k p) : Bytes w ck.A ck.n ck.c p.ck := own_bytes s.rck s.ok.2.2.1
theorem StBox.bh (s : StBox W w g ck h k p) : Bytes w h.A h.n h.c p.h := own_bytes s.rh s.ok.2.2.2.1
theorem StBox.bk (s : StBox W w g ck h k p) : Bytes w k.A k.n k.c p.key := own_bytes s.rk s.ok.2.2.2.2.1
theorem StBox.gh (s : StBox W w g ck h k p) (w' : World) (hm : Mod (fun k => k = g) w w') : Bytes w' h.A h.n h.c p.h := own_bytes (s.rh.mod hm s.apart) s.ok.2.2.2.1
variable {B : Option Addr} {nb cb : Nat} {b : List Nat}
theorem mixkey_box (s : StBox W w g ck h k p) (hW : W.heap.size ≤ w.heap.size) (hb : Bytes w B nb cb b) (hnb : nb ≤ 100000000) (ht : TurnsAt w) (hc : ConstsAt w) :
    Calls Tryd.prog 34 #[.pointer (some ⟨g, 0, none⟩), .slice B nb cb] w fun e w' => ∃ ck' k', e = .returned (.tuple #[]) ∧ StBox W w' g ck' h k' (p.mixKey b) ∧ Mod (fun k => k = g) w w' :=
  (mixkey_calls s.at_ s.bck s.nck hb hnb ht hc).mono fun e w' ⟨x, y, he, h1, h2, _, h4, _, h6⟩ =>
    ⟨x, y, he, ⟨h1, h2.lower hW, s.rh.mod h6 s.apart, h4.lower hW, s.ok.mixKey b, s.low⟩, h6⟩
theorem mixboth_box (s : StBox W w g ck h k p) (hW : W.heap.size ≤ w.heap.size) (hb : Bytes w B nb cb b) (hnb : nb ≤ 100000000) (ht : TurnsAt w) (hc : ConstsAt w) :
    Calls Tryd.prog 38 #[.pointer (some ⟨g, 0, none⟩), .slice B nb cb] w fun e w' => ∃ ck' h' k', e = .returned (.tuple #[]) ∧ StBox W w' g ck' h' k' (p.mixBoth b) ∧ Mod (fun k => k = g) w w' :=
  (mixboth_calls s.at_ s.bck s.nck s.bh (by rw [s.nh]; decide) s.gh hb hnb ht hc).mono fun e w' ⟨x, z, y, he, h1, h2, _, h4, _, h5, _, h6⟩ =>
    ⟨x, z, y, he, ⟨h1, h2.lower hW, h4.lower hW, h5.lower hW, s.ok.mixBoth b, s.low⟩, h6⟩
theorem stseal_box (s : StBox W w g ck h k p) (hW : W.heap.size ≤ w.heap.size) (hb : Bytes w B nb cb b) (hnb : nb ≤ 10000) (hbg : ∀ w', Mod (fun k => k = g) w w' → Bytes w' B nb cb b) (hp : PlacesAt w) (ht : TurnsAt w) (hc : ConstsAt w) :
    Calls Tryd.prog 40 #[.pointer (some ⟨g, 0, none⟩), .slice B nb cb] w fun e w' => ∃ v h', e = .returned (.tuple #[v, .int .i64 (((p.useS b).2.1 : Nat) : Int)]) ∧ OwnK .u8 5 w.heap.size w' v (p.useS b).1 ∧ StBox W w' g ck h' k (p.sealed b) ∧ Mod (fun k => k = g) w w' := by
  have h0 := stseal_calls s.at_ s.bk s.ok.2.2.2.2.2 s.bh (by rw [s.nh]; decide) s.gh hb hnb hbg hp ht hc
  refine h0.mono fun e w' ⟨v, x, he, hv, h1, h2, h3, h6⟩ => ?_
  change StAt w' g ck x k (p.useS b).2.2 at h1
  change (p.useS b).2.1 = 0 → _ at h2
  change (p.useS b).2.1 ≠ 0 → _ at h3
  by_cases hz : (p.useS b).2.1 = 0
  · have e1 : p.sealed b = ⟨p.ck, sumN (p.h ++ (p.useS b).1), p.key, (p.useS b).2.2⟩ := by rw [StP.sealed, if_pos hz]
    have hok := s.ok.sealed b
    rw [e1] at hok ⊢
    exact ⟨v, x, he, hv, ⟨h1, s.rck.mod h6 s.apart, (h2 hz).1.lower hW, s.rk.mod h6 s.apart, hok, s.low⟩, h6⟩
  · have e1 : p.sealed b = p := by rw [StP.sealed, if_neg hz]
    have e2 : (p.useS b).2.2 = p.N := useC_err' hz
    obtain rfl := h3 hz
    rw [e2] at h1
    rw [e1]
    exact ⟨v, x, he, hv, ⟨h1, s.rck.mod h6 s.apart, s.rh.mod h6 s.apart, s.rk.mod h6 s.apart, s.ok, s.low⟩, h6⟩
theorem stopen_box (s : StBox W w g ck h k p) (hW : W.heap.size ≤ w.heap.size) (hb : Bytes w B nb cb b) (hnb : nb ≤ 10000) (hbg : ∀ w', Mod (fun k => k = g) w w' → Bytes w' B nb cb b) (hp : PlacesAt w) (ht : TurnsAt w) (hc : ConstsAt w) :
    Calls Tryd.prog 42 #[.pointer (some ⟨g, 0, none⟩), .slice B nb cb] w fun e w' => ∃ v h', e = .returned (.tuple #[v, .int .i64 (((p.useO b).2.1 : Nat) : Int)]) ∧ OwnK .u8 5 w.heap.size w' v (p.useO b).1 ∧ StBox W w' g ck h' k (p.opened b) ∧ Mod (fun k => k = g) w w' := by
  have h0 := stopen_calls s.at_ s.bk s.ok.2.2.2.2.2 s.bh (by rw [s.nh]; decide) s.gh hb hnb hbg hp ht hc
  refine h0.mono fun e w' ⟨v, x, he, hv, h1, h2, h3, h6⟩ => ?_
  change StAt w' g ck x k (p.useO b).2.2 at h1
  change (p.useO b).2.1 = 0 → _ at h2
  change (p.useO b).2.1 ≠ 0 → _ at h3
  by_cases hz : (p.useO b).2.1 = 0
  · have e1 : p.opened b = ⟨p.ck, sumN (p.h ++ b), p.key, (p.useO b).2.2⟩ := by rw [StP.opened, if_pos hz]
    have hok := s.ok.opened b
    rw [e1] at hok ⊢
    exact ⟨v, x, he, hv, ⟨h1, s.rck.mod h6 s.apart, (h2 hz).1.lower hW, s.rk.mod h6 s.apart, hok, s.low⟩, h6⟩
  · have e1 : p.opened b = p := by rw [StP.opened, if_neg hz]
    have e2 : (p.useO b).2.2 = p.N := useC_err' hz
    obtain rfl := h3 hz
    rw [e2] at h1
    rw [e1]
    exact ⟨v, x, he, hv, ⟨h1, s.rck.mod h6 s.apart, s.rh.mod h6 s.apart, s.rk.mod h6 s.apart, s.ok, s.low⟩, h6⟩
def newP (l : List Nat) : StP := ⟨nameN l, nameN l, [], 0⟩
theorem newP_ok {l : List Nat} (h : BytesOK l) : (newP l).ok := ⟨nameN_length l, nameN_length l, nameN_ok h, nameN_ok h, BytesOK.nil, Nat.two_pow_pos 64⟩
theorem stnew_box {l : List Nat} (hW : W.heap.size ≤ w.heap.size) (hl : BytesOK l) (hn : l.length ≤ 100000) (ht : TurnsAt w) (hc : ConstsAt w) :
    Calls Tryd.prog 32 #[.string (strOf l)] w fun e w' => ∃ g ck h, e = .returned (.pointer (some ⟨g, 0, none⟩)) ∧ StBox W w' g ck h ⟨none, 0, 0⟩ (newP l) ∧ w.heap.size ≤ g ∧ Below w.heap.size w w' :=
  (stnew_calls hl hn ht hc).mono fun e w' ⟨g, ck, h, he, h1, h2, _, h4, _, h6, h7⟩ => ⟨g, ck, h, he, ⟨h1, h2.lower hW, h4.lower hW, OwnK.nil _ _ _ _, newP_ok hl, Nat.le_trans hW h6⟩, h6, h7⟩
theorem split_box (s : StBox W w g ck h k p) (hW : W.heap.size ≤ w.heap.size) (ht : TurnsAt w) (hc : ConstsAt w) :
    Calls Tryd.prog 45 #[.pointer (some ⟨g, 0, none⟩)] w fun e w' => ∃ x y : Sl, e = .returned (.tuple #[.agg #[.slice x.A x.n x.c, .int .u64 0], .agg #[.slice y.A y.n y.c, .int .u64 0]]) ∧ OwnK .u8 5 W.heap.size w' x.v (threeA p.ck []) ∧ x.n = 32 ∧ OwnK .u8 5 W.heap.size w' y.v (threeB p.ck []) ∧ y.n = 32 ∧ Below w.heap.size w w' :=
  (split_calls s.at_ s.bck s.nck ht hc).mono fun e w' ⟨x, y, he, h1, h2, h3, h4, h5⟩ => ⟨x, y, he, h1.lower hW, h2, h3.lower hW, h4, h5⟩
end
end Go.Proofs.YtlgdplodglchaaaDoor
