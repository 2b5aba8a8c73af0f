/- Merged texts. -/
import Derived.Test.YtlgdplodglchaaaDoorM2
import Derived.Test.YtlgdplodglchaaaDoorRef16
import Derived.Test.YtlgdplodglchaaaDoorM4
/- The walks through the permutation's steps. -/
set_option linter.unusedVariables false
set_option linter.unusedSimpArgs false
namespace Go.Proofs.YtlgdplodglchaaaDoor
open Go.RowKit Go.Proofs.YtlgdplodglchaaaDoorW.PrintWords Go.Proofs.YtlgdplodglchaaaDoorW.PrintLast Go.Proofs.YtlgdplodglchaaaDoorW.PrintMore
set_option maxHeartbeats 1000000 in
set_option maxRecDepth 100000 in
theorem rotl64_calls {x k : Nat} {w : World} (hx : x < 2 ^ 64) (hk : k < 64) : Calls Tryd.prog 133 #[.int .u64 (x : Int), .int .i64 (k : Int)] w fun e w' => e = .returned (.int .u64 (rotL x k : Nat)) ∧ w = w' := by
  have h2 : bits .and .u64 (k : Int) 63 = (k : Int) := by
    have := (bits_u (k := .u64) rfl k (2 ^ 6 - 1) (show k < 2 ^ 64 by omega) (by decide)).1
    rw [Nat.and_two_pow_sub_one_eq_mod, Nat.mod_eq_of_lt (show k < 2 ^ 6 by omega)] at this
    exact this
  have hrb := rotL_bits hx (Nat.le_of_lt hk)
  have e1 : ((x * 2 ^ k % 2 ^ 64 : Nat) : Int) = IntKind.u64.wrap ((x : Int) * 2 ^ k) := by
    have := wrapM_u (k := .u64) rfl (x * 2 ^ k)
    rw [show ((x * 2 ^ k : Nat) : Int) = (x : Int) * 2 ^ k by simp] at this
    exact this.symm
  have e2 : ((x / 2 ^ (64 - k) : Nat) : Int) = ((x : Int) / 2 ^ (64 - k)) := by simp
  rw [e1, e2] at hrb
  have HR := hd hrb
  clear hrb e1 e2
  obtain ⟨j, hj⟩ : ∃ j : Nat, j = 64 - k := ⟨_, rfl⟩
  have h3 : (64 : Int) - (k : Int) = (j : Int) := by omega
  have hj2 : j ≤ 64 := by omega
  rw [← hj] at HR
  clear hj
  go_enter Tryd.func133, Tryd.ntmps133
  go_wp2
  trace_state
  go_ret
  exact ⟨by rw [← HR.out]; rfl, rfl⟩
end Go.Proofs.YtlgdplodglchaaaDoor
/- What SessionPlays keeps: plain. -/
set_option linter.unusedVariables false
set_option linter.unusedSimpArgs false
namespace Go.Proofs.YtlgdplodglchaaaDoor
open Go.RowKit Go.Proofs.YtlgdplodglchaaaDoorW.PrintWords Go.Proofs.YtlgdplodglchaaaDoorW.PrintLast Go.Proofs.YtlgdplodglchaaaDoorW.PrintMore
theorem useC_ok {key b : List Nat} {N : Nat} {r : List Nat × Nat} (hb : BytesOK b) (hr : BytesOK r.1) : BytesOK (useC key N b r).1 := by
  unfold useC
  repeat' split
  all_goals first | exact hb | exact hr | exact BytesOK.nil
theorem useC_len {key b : List Nat} {N m : Nat} {r : List Nat × Nat} (hb : b.length ≤ m) (hr : r.1.length ≤ m) : (useC key N b r).1.length ≤ m := by
  unfold useC
  repeat' split
  all_goals first | exact hb | exact hr | exact Nat.zero_le _
theorem sealA_len (k nonce ad text : List Nat) : (sealA k nonce ad text).1.length ≤ text.length + 16 := by
  rw [sealA]
  split
  · rw [sealN_length]; exact Nat.le_refl _
  · exact Nat.zero_le _
/-- A session's state: how many were sealed, the next number, the window, the numbers that came, the reference's slice of them. -/
structure Sst where
  (sent N : Nat) (v : Win) (l : List Nat) (ca : Sl)
def Sst.ok (s : Sst) (i : Nat) : Prop := s.sent ≤ i ∧ s.N < 2 ^ 64 ∧ WinOf s.v s.l ∧ s.v.ok ∧ (∀ x ∈ s.l, x < 2 ^ 64) ∧ s.l.length ≤ i
theorem Sst.ok.mono {s : Sst} {i j : Nat} (h : s.ok i) (hj : i ≤ j) : s.ok j := ⟨Nat.le_trans h.1 hj, h.2.1, h.2.2.1, h.2.2.2.1, h.2.2.2.2.1, Nat.le_trans h.2.2.2.2.2 hj⟩
theorem Sst.ok.open_ {s : Sst} {i n : Nat} (h : s.ok i) (hn : n < 2 ^ 64) (hc : checkR s.l n = 0) (ca : Sl) : Sst.ok ⟨s.sent, s.N, markW s.v n, s.l ++ [n], ca⟩ (i + 1) :=
  ⟨by have := h.1; show s.sent ≤ i + 1; omega, h.2.1, h.2.2.1.mark h.2.2.2.1 n hc, markW_ok h.2.2.2.1 hn, fun x hx => by
    rcases List.mem_append.1 hx with hx | hx
    · exact h.2.2.2.2.1 x hx
    · have : x = n := by simpa using hx
      omega, by have := h.2.2.2.2.2; simp; omega⟩
/-- A row whose own block is another one than the growing row's. -/
theorem OwnK.other {k : IntKind} {e base : Nat} {w w1 : World} {v u : Value} {l : List Nat} (h : OwnK k e base w v l) (hg : w.grownBy w1 u.ownBlock) (hne : ∀ j, u.ownBlock = some j → v.ownBlock ≠ some j) : OwnK k e base w1 v l := by
  refine Kd.R_of_own (own_other (Kd.own_of_R h) hg ?_) (fun _ _ => trivial)
  cases hv : v.ownBlock with
  | none => exact Or.inl rfl
  | some j => exact Or.inr fun e1 => hne j e1.symm hv
/-- The numbers' own block is none of the sessions' rows. -/
def FarN (v : Value) (s0 s1 : Sst) : Prop := ∀ j, v.ownBlock = some j → s0.ca.v.ownBlock ≠ some j ∧ s1.ca.v.ownBlock ≠ some j
theorem FarN.nil (s0 s1 : Sst) : FarN (.slice none 0 0) s0 s1 := fun j hj => by cases hj
theorem FarN.grow {v v1 : Value} {s0 s1 t0 t1 : Sst} {e base : Nat} {w : World} {l0 l1 : List Nat} (h : FarN v s0 s1) (hat : v1.ownBlock = v.ownBlock ∨ ∃ b, v1.ownBlock = some b ∧ w.heap.size ≤ b) (h0 : OwnK .u64 e base w s0.ca.v l0) (h1 : OwnK .u64 e base w s1.ca.v l1) (e0 : t0.ca = s0.ca) (e1 : t1.ca = s1.ca) : FarN v1 t0 t1 := fun j hj => by
  rw [e0, e1]
  rcases hat with hat | ⟨b, hb, hle⟩
  · exact h j (hat ▸ hj)
  · rw [hb] at hj
    injection hj with hj
    exact ⟨fun e => by have := (h0.lt j e).2; omega, fun e => by have := (h1.lt j e).2; omega⟩
/-- Behind an opening of the reference's. -/
theorem Sst.opened {s : Sst} {i no : Nat} {y : Win} {ca' : Sl} {e base : Nat} {w w' : World} (h : s.ok i) (hn : no < 2 ^ 64) (hb : base ≤ w.heap.size) (ho : (ca' = s.ca ∧ y = s.v) ∨ (OwnK .u64 e w.heap.size w' ca'.v (s.l ++ [no]) ∧ y = markW s.v no ∧ checkR s.l no = 0)) (hc : OwnK .u64 e base w' s.ca.v s.l) :
    ∃ l', Sst.ok ⟨s.sent, s.N, y, l', ca'⟩ (i + 1) ∧ OwnK .u64 e base w' ca'.v l' ∧ (ca' = s.ca ∨ OwnK .u64 e w.heap.size w' ca'.v l') := by
  rcases ho with ⟨rfl, rfl⟩ | ⟨h1, rfl, h3⟩
  · exact ⟨s.l, h.mono (Nat.le_succ i), hc, Or.inl rfl⟩
  · exact ⟨s.l ++ [no], h.open_ hn h3 ca', h1.lower hb, Or.inr h1⟩
section
variable {P : Program} {ops : Array Oper} {rest : List Oper} {o : Oper} {a : Act} {Q : Exit → Act → World → Prop}
end
/-- A row of numbers that is owned reads as one that came in. -/
theorem NRow.own {w : World} {base : Nat} {s : Sl} {l : List Nat} (h : OwnK .u64 22 base w s.v l) (hl : ∀ x ∈ l, x < 2 ^ 64) : NRow w s.A s.n s.c l := by
  have h1 : OwnK .u64 22 base w (.slice s.A s.n s.c) l := h
  exact ⟨h1.row.2.2, h1.row.1.symm, by have := h1.row.2.1; rw [h1.row.1]; exact this, hl⟩
/-- .. as an element of a row. -/
theorem out_box {W w w' : World} {v : Value} {D : Option Addr} {nd cd : Nat} {l b : List Nat} (h : OwnK .u8 5 w.heap.size w' v l ∨ (v = .slice D nd cd ∧ l = b)) (hb : Box W w' (D, nd, cd) b) (hbe : Below W.heap.size W w') (hW : W.heap.size ≤ w.heap.size) (hok : BytesOK l) (hl : l.length ≤ 100000000) :
    ∃ A n c, v = .slice A n c ∧ n = l.length ∧ Box W w' (A, n, c) l := by
  rcases h with h | ⟨rfl, rfl⟩
  · obtain ⟨A, c, rfl, hc, hr⟩ := h.slice
    exact ⟨A, l.length, c, rfl, rfl, Box.own (h.lower hW) hok hl⟩
  · exact ⟨D, nd, cd, rfl, hb.len hbe, hb⟩
/-- The script. -/
def PlayRow (w : World) (A : Option Addr) (n c : Nat) : Prop :=
  n ≤ c ∧ n ≤ 9223372036854775807 ∧ (0 < n → ∃ ad, A = some ad ∧ ∀ i, i < n → ∃ (bb oo : Nat) (k : Int) (B : Option Addr) (m d : Nat) (b : List Nat) (nn nw : Nat), ad.add (i * 4) = ⟨bb, oo, none⟩ ∧
    w.cell? ⟨bb, oo, none⟩ = some (.int .i64 k) ∧ w.cell? ⟨bb, oo + 1, none⟩ = some (.slice B m d) ∧ w.cell? ⟨bb, oo + 2, none⟩ = some (.int .u64 (nn : Int)) ∧ w.cell? ⟨bb, oo + 3, none⟩ = some (.int .u64 (nw : Int)) ∧
    Bytes w B m d b ∧ nn < 2 ^ 64 ∧ nw < 2 ^ 64)
theorem PlayRow.nil (w : World) (A : Option Addr) (c : Nat) : PlayRow w A 0 c := ⟨Nat.zero_le _, by decide, fun h => absurd h (by decide)⟩
end Go.Proofs.YtlgdplodglchaaaDoor
