/- What SessionPlays keeps: plain. -/
import Derived.Test.YtlgdplodglchaaaDoorRef22
import Derived.Test.YtlgdplodglchaaaDoorBox
set_option linter.unusedVariables false
set_option linter.unusedSimpArgs false
namespace Go.Proofs.YtlgdplodglchaaaDoor
open Go.RowKit Go.Proofs.YtlgdplodglchaaaDoorW.PrintWords Go.Proofs.YtlgdplodglchaaaDoorW.PrintLast Go.Proofs.YtlgdplodglchaaaDoorW.PrintMore
theorem useC_ok {key b : List Nat} {N : Nat} {r : List Nat × Nat} (hb : BytesOK b) (hr : BytesOK r.1) : BytesOK (useC key N b r).1 := by
  unfold useC
  repeat' split
  all_goals first | exact hb | exact hr | exact BytesOK.nil
theorem useC_len {key b : List Nat} {N m : Nat} {r : List Nat × Nat} (hb : b.length ≤ m) (hr : r.1.length ≤ m) : (useC key N b r).1.length ≤ m := by
  unfold useC
  repeat' split
  all_goals first | exact hb | exact hr | exact Nat.zero_le _
theorem sealA_len (k nonce ad text : List Nat) : (sealA k nonce ad text).1.length ≤ text.length + 16 := by
  rw [sealA]
  split
  · rw [sealN_length]; exact Nat.le_refl _
  · exact Nat.zero_le _
/-- What a seal makes keeps its bounds. -/
theorem sealS_fin {r : Rul} {born sent N1 now : Nat} {key text : List Nat} (ht : BytesOK text) (hN : N1 < 2 ^ 64) :
    (sealS r born sent N1 key text now).1 < 2 ^ 64 ∧ BytesOK (sealS r born sent N1 key text now).2.1 ∧ (sealS r born sent N1 key text now).2.1.length ≤ text.length + 16 ∧ (sealS r born sent N1 key text now).2.2.2.1 < 2 ^ 64 ∧ (sealS r born sent N1 key text now).2.2.2.2 ≤ sent + 1 := by
  have h1 := useC_ok (key := key) (N := N1) ht (sealA_ok key (nonceN N1) [] ht)
  have h2 := useC_len (key := key) (N := N1) (show text.length ≤ text.length + 16 by omega) (sealA_len key (nonceN N1) [] text)
  have h3 := useC_lt (key := key) text (sealA key (nonceN N1) [] text) hN
  unfold sealS
  split
  · exact ⟨Nat.two_pow_pos 64, BytesOK.nil, Nat.zero_le _, hN, Nat.le_succ _⟩
  · split
    · exact ⟨Nat.two_pow_pos 64, BytesOK.nil, Nat.zero_le _, h3, Nat.le_succ _⟩
    · exact ⟨hN, h1, h2, h3, Nat.le_refl _⟩
/-- A session's state: how many were sealed, the next number, the window, the numbers that came, the reference's slice of them. -/
structure Sst where
  (sent N : Nat) (v : Win) (l : List Nat) (ca : Sl)
def Sst.ok (s : Sst) (i : Nat) : Prop := s.sent ≤ i ∧ s.N < 2 ^ 64 ∧ WinOf s.v s.l ∧ s.v.ok ∧ (∀ x ∈ s.l, x < 2 ^ 64) ∧ s.l.length ≤ i
theorem Sst.ok.mono {s : Sst} {i j : Nat} (h : s.ok i) (hj : i ≤ j) : s.ok j := ⟨Nat.le_trans h.1 hj, h.2.1, h.2.2.1, h.2.2.2.1, h.2.2.2.2.1, Nat.le_trans h.2.2.2.2.2 hj⟩
theorem Sst.init (N i : Nat) (h : N < 2 ^ 64) : Sst.ok ⟨0, N, ⟨false, 0, (0, 0)⟩, [], ⟨none, 0, 0⟩⟩ i := ⟨Nat.zero_le _, h, WinOf.nil, (show Win.ok ⟨false, 0, (0, 0)⟩ from ⟨by decide, by decide, by decide⟩), (fun x hx => by cases hx), Nat.zero_le _⟩
theorem Sst.ok.seal {s : Sst} {i : Nat} (h : s.ok i) {N' sent' : Nat} (h1 : N' < 2 ^ 64) (h2 : sent' ≤ s.sent + 1) : Sst.ok ⟨sent', N', s.v, s.l, s.ca⟩ (i + 1) := ⟨by have := h.1; show sent' ≤ i + 1; omega, h1, h.2.2.1, h.2.2.2.1, h.2.2.2.2.1, by have := h.2.2.2.2.2; show s.l.length ≤ i + 1; omega⟩
theorem Sst.ok.open_ {s : Sst} {i n : Nat} (h : s.ok i) (hn : n < 2 ^ 64) (hc : checkR s.l n = 0) (ca : Sl) : Sst.ok ⟨s.sent, s.N, markW s.v n, s.l ++ [n], ca⟩ (i + 1) :=
  ⟨by have := h.1; show s.sent ≤ i + 1; omega, h.2.1, h.2.2.1.mark h.2.2.2.1 n hc, markW_ok h.2.2.2.1 hn, fun x hx => by
    rcases List.mem_append.1 hx with hx | hx
    · exact h.2.2.2.2.1 x hx
    · have : x = n := by simpa using hx
      omega, by have := h.2.2.2.2.2; simp; omega⟩
/-- A row whose own block is another one than the growing row's. -/
theorem OwnK.other {k : IntKind} {e base : Nat} {w w1 : World} {v u : Value} {l : List Nat} (h : OwnK k e base w v l) (hg : w.grownBy w1 u.ownBlock) (hne : ∀ j, u.ownBlock = some j → v.ownBlock ≠ some j) : OwnK k e base w1 v l := by
  refine Kd.R_of_own (own_other (Kd.own_of_R h) hg ?_) (fun _ _ => trivial)
  cases hv : v.ownBlock with
  | none => exact Or.inl rfl
  | some j => exact Or.inr fun e1 => hne j e1.symm hv
/-- The numbers' own block is none of the sessions' rows. -/
def FarN (v : Value) (s0 s1 : Sst) : Prop := ∀ j, v.ownBlock = some j → s0.ca.v.ownBlock ≠ some j ∧ s1.ca.v.ownBlock ≠ some j
theorem FarN.nil (s0 s1 : Sst) : FarN (.slice none 0 0) s0 s1 := fun j hj => by cases hj
theorem FarN.grow {v v1 : Value} {s0 s1 t0 t1 : Sst} {e base : Nat} {w : World} {l0 l1 : List Nat} (h : FarN v s0 s1) (hat : v1.ownBlock = v.ownBlock ∨ ∃ b, v1.ownBlock = some b ∧ w.heap.size ≤ b) (h0 : OwnK .u64 e base w s0.ca.v l0) (h1 : OwnK .u64 e base w s1.ca.v l1) (e0 : t0.ca = s0.ca) (e1 : t1.ca = s1.ca) : FarN v1 t0 t1 := fun j hj => by
  rw [e0, e1]
  rcases hat with hat | ⟨b, hb, hle⟩
  · exact h j (hat ▸ hj)
  · rw [hb] at hj
    injection hj with hj
    exact ⟨fun e => by have := (h0.lt j e).2; omega, fun e => by have := (h1.lt j e).2; omega⟩
theorem FarN.open0 {v : Value} {s0 s1 t0 t1 : Sst} {e base : Nat} {w w' : World} {l nums : List Nat} (h : FarN v s0 s1) (hv : OwnK .u64 e base w v nums) (e0 : t0.ca = s0.ca ∨ OwnK .u64 e w.heap.size w' t0.ca.v l) (e1 : t1.ca = s1.ca) : FarN v t0 t1 := fun j hj => by
  rw [e1]
  refine ⟨?_, (h j hj).2⟩
  rcases e0 with e0 | e0
  · rw [e0]; exact (h j hj).1
  · exact fun e => by have := (e0.lt j e).1; have := (hv.lt j hj).2; omega
theorem FarN.open1 {v : Value} {s0 s1 t0 t1 : Sst} {e base : Nat} {w w' : World} {l nums : List Nat} (h : FarN v s0 s1) (hv : OwnK .u64 e base w v nums) (e1 : t1.ca = s1.ca ∨ OwnK .u64 e w.heap.size w' t1.ca.v l) (e0 : t0.ca = s0.ca) : FarN v t0 t1 := fun j hj => by
  rw [e0]
  refine ⟨(h j hj).1, ?_⟩
  rcases e1 with e1 | e1
  · rw [e1]; exact (h j hj).2
  · exact fun e => by have := (e1.lt j e).1; have := (hv.lt j hj).2; omega
/-- Behind an opening of the reference's. -/
theorem Sst.opened {s : Sst} {i no : Nat} {y : Win} {ca' : Sl} {e base : Nat} {w w' : World} (h : s.ok i) (hn : no < 2 ^ 64) (hb : base ≤ w.heap.size) (ho : (ca' = s.ca ∧ y = s.v) ∨ (OwnK .u64 e w.heap.size w' ca'.v (s.l ++ [no]) ∧ y = markW s.v no ∧ checkR s.l no = 0)) (hc : OwnK .u64 e base w' s.ca.v s.l) :
    ∃ l', Sst.ok ⟨s.sent, s.N, y, l', ca'⟩ (i + 1) ∧ OwnK .u64 e base w' ca'.v l' ∧ (ca' = s.ca ∨ OwnK .u64 e w.heap.size w' ca'.v l') := by
  rcases ho with ⟨rfl, rfl⟩ | ⟨h1, rfl, h3⟩
  · exact ⟨s.l, h.mono (Nat.le_succ i), hc, Or.inl rfl⟩
  · exact ⟨s.l ++ [no], h.open_ hn h3 ca', h1.lower hb, Or.inr h1⟩
theorem openS_fin {r : Rul} {born no now : Nat} {v : Win} {key b : List Nat} (hb : BytesOK b) : BytesOK (openS r born v key no b now).1 ∧ (openS r born v key no b now).1.length ≤ b.length := by
  have h1 := useC_ok (key := key) (N := no) hb (openA_ok key (nonceN no) [] hb)
  have h2 := useC_len (key := key) (N := no) (m := b.length) (Nat.le_refl _) (show (openA key (nonceN no) [] b).1.length ≤ b.length from by
    unfold openA openN boxN
    repeat' split
    all_goals first | exact Nat.zero_le _ | (simp only [stream_length, List.length_take]; omega))
  unfold openS
  split
  · exact ⟨BytesOK.nil, Nat.zero_le _⟩
  · split
    · exact ⟨BytesOK.nil, Nat.zero_le _⟩
    · split
      · exact ⟨BytesOK.nil, Nat.zero_le _⟩
      · exact ⟨h1, h2⟩
section
variable {P : Program} {ops : Array Oper} {rest : List Oper} {o : Oper} {a : Act} {Q : Exit → Act → World → Prop}
/-- append(v, x), with what is said of the block. -/
theorem op_appendD {k : IntKind} {w0 W : World} (N : Tmp) (hd : o.dst = some N) (base e : Nat) (t : TypeId) (s x : Operand) (ho : o.op = .call { callee := .builtin .append, args := #[s, x], argTypes := #[t, t] }) (hgd : o.guard = none)
    (ht : P.underlying t = some (.slice e)) {bytes : Nat} (hinfo : (P.info? e).map (fun i => (i.zero, i.size, i.bytes)) = some (some (.int k 0), 1, bytes)) (hb0 : 0 < bytes)
    (v : Value) (l : List Nat) (yi : Int) (y : Nat) (hy : yi = (y : Int)) (hs : a.eval s = v) (hx : a.eval x = .slice (some ⟨W.heap.size, 0, none⟩) 1 1) (HO : OwnK k e base W v l) (HB : Below base w0 W) (hbase : base ≤ W.heap.size) (hl : (l.length + 1) * bytes ≤ 140737488355328)
    (h : ∀ v1 w1, OwnK k e base w1 v1 (l ++ [y]) → Below base w0 w1 → W.grownBy w1 v.ownBlock → (v1.ownBlock = v.ownBlock ∨ ∃ b, v1.ownBlock = some b ∧ W.heap.size ≤ b) → wpList P ops Q rest (a.put o.dst v1) w1) :
    wpList P ops Q (o :: rest) a (W.alloc (.cells #[.int k yi] e)) := by
  subst hy
  refine Kd.R_append (Kd.int k) (w0 := w0) (W := W) base hgd s x t e (.int k 0) bytes ho ht hinfo rfl (Nat.zero_lt_one) hb0 v (ints l) (y : Int) [.int k (y : Int)] (fun _ => True) (fun g => some g ≠ v.ownBlock) hs hx rfl (fun g hg => ⟨trivial, hg⟩) (fun _ _ => trivial) HO HB hbase (by rw [ints_length]; exact hl) ?_
  intro v1 w1 h1 hb hg hat
  refine h v1 w1 ?_ hb hg hat
  unfold OwnK
  rw [ints_append]
  exact h1
end
/-- An element of the row of slices. -/
theorem BoxIn.box_at {W w : World} {v : Value} {ls : List (List Nat)} (h : BoxIn W w v ls) (hb : Below W.heap.size W w) (i : Nat) (hi : i < ls.length) :
    ∃ g c A m d, v = .slice (some ⟨g, 0, none⟩) ls.length c ∧ w.cell? ⟨g, i, none⟩ = some (.slice A m d) ∧ ls.length ≤ c ∧ Box W w (A, m, d) (ls.getD i []) := by
  obtain ⟨ss, h1, h2, h3⟩ := h
  obtain ⟨g, c, rfl, _⟩ := Kd.R_form h1 (by omega)
  have h4 := (Kd.R_celln (none, 0, 0) h1 (i : Int) (by omega) (by omega)).1
  rw [Int.toNat_natCast, rdOf, Int.toNat_natCast] at h4
  exact ⟨g, c, _, _, _, by rw [h2], h4, by have := (Kd.R_reads' h1).2.1; omega, h3 i hi⟩
/-- A row of numbers that is owned reads as one that came in. -/
theorem NRow.own {w : World} {base : Nat} {s : Sl} {l : List Nat} (h : OwnK .u64 22 base w s.v l) (hl : ∀ x ∈ l, x < 2 ^ 64) : NRow w s.A s.n s.c l := by
  have h1 : OwnK .u64 22 base w (.slice s.A s.n s.c) l := h
  exact ⟨h1.row.2.2, h1.row.1.symm, by have := h1.row.2.1; rw [h1.row.1]; exact this, hl⟩
/-- .. as an element of a row. -/
theorem out_box {W w w' : World} {v : Value} {D : Option Addr} {nd cd : Nat} {l b : List Nat} (h : OwnK .u8 5 w.heap.size w' v l ∨ (v = .slice D nd cd ∧ l = b)) (hb : Box W w' (D, nd, cd) b) (hbe : Below W.heap.size W w') (hW : W.heap.size ≤ w.heap.size) (hok : BytesOK l) (hl : l.length ≤ 100000000) :
    ∃ A n c, v = .slice A n c ∧ n = l.length ∧ Box W w' (A, n, c) l := by
  rcases h with h | ⟨rfl, rfl⟩
  · obtain ⟨A, c, rfl, hc, hr⟩ := h.slice
    exact ⟨A, l.length, c, rfl, rfl, Box.own (h.lower hW) hok hl⟩
  · exact ⟨D, nd, cd, rfl, hb.len hbe, hb⟩
theorem and_mask_u64 (x : Int) (j : Nat) (hj : j < 63) : ∃ q : Nat, bits .and .u64 x (2 ^ j - 1 : Int) = q ∧ q < 2 ^ j := by
  have hp : (2 : Nat) ^ j < 2 ^ 63 := Nat.pow_lt_pow_right (by decide) hj
  have h0 := Nat.two_pow_pos j
  have hm : ((2 : Int) ^ j - 1) = ((2 ^ j - 1 : Nat) : Int) := by rw [Int.natCast_sub h0]; simp
  have hb : (IntKind.u64.bits) = 64 := rfl
  rw [hm]
  simp only [bits, BitVec.ofInt_natCast, BitVec.toNat_and, BitVec.toNat_ofNat, hb]
  have h1 : (2 ^ j - 1) % 2 ^ 64 = 2 ^ j - 1 := Nat.mod_eq_of_lt (by omega)
  rw [h1]
  have h2 : (BitVec.ofInt 64 x).toNat &&& (2 ^ j - 1) ≤ 2 ^ j - 1 := Nat.and_le_right
  refine ⟨(BitVec.ofInt 64 x).toNat &&& (2 ^ j - 1), ?_, by omega⟩
  exact wrapN_u (k := .u64) rfl (show (BitVec.ofInt 64 x).toNat &&& (2 ^ j - 1) < 2 ^ 64 by omega)
/-- The two sessions of the reference, one behind the other. -/
def refW (K0 K1 : Sl) (st : Nat) (s0 s1 : Sst) : Array Value := #[.slice K0.A K0.n K0.c, .int .u64 (s0.N : Int), .slice K1.A K1.n K1.c, .int .u64 0, .int .u64 (st : Int), .int .u64 (s0.sent : Int), .slice s0.ca.A s0.ca.n s0.ca.c,
  .slice K1.A K1.n K1.c, .int .u64 (s1.N : Int), .slice K0.A K0.n K0.c, .int .u64 0, .int .u64 (st : Int), .int .u64 (s1.sent : Int), .slice s1.ca.A s1.ca.n s1.ca.c]
/-- The script. -/
def PlayRow (w : World) (A : Option Addr) (n c : Nat) : Prop :=
  n ≤ c ∧ n ≤ 9223372036854775807 ∧ (0 < n → ∃ ad, A = some ad ∧ ∀ i, i < n → ∃ (bb oo : Nat) (k : Int) (B : Option Addr) (m d : Nat) (b : List Nat) (nn nw : Nat), ad.add (i * 4) = ⟨bb, oo, none⟩ ∧
    w.cell? ⟨bb, oo, none⟩ = some (.int .i64 k) ∧ w.cell? ⟨bb, oo + 1, none⟩ = some (.slice B m d) ∧ w.cell? ⟨bb, oo + 2, none⟩ = some (.int .u64 (nn : Int)) ∧ w.cell? ⟨bb, oo + 3, none⟩ = some (.int .u64 (nw : Int)) ∧
    Bytes w B m d b ∧ nn < 2 ^ 64 ∧ nw < 2 ^ 64)
theorem PlayRow.nil (w : World) (A : Option Addr) (c : Nat) : PlayRow w A 0 c := ⟨Nat.zero_le _, by decide, fun h => absurd h (by decide)⟩
end Go.Proofs.YtlgdplodglchaaaDoor
