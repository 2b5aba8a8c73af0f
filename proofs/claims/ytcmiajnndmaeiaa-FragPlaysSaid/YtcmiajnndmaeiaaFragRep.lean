/- A buffer of unfinished messages in memory. -/
import Derived.Test.YtcmiajnndmaeiaaGLib
import Derived.Test.YtcmiajnndmaeiaaGWords
import Derived.Test.YtcmiajnndmaeiaaWKept
import Derived.Deep.QuietTactic
import Derived.BigQuiet
set_option linter.unusedVariables false
set_option linter.unusedSimpArgs false
namespace Go.Proofs.Ytcmiajnndmaeiaa
open Go.RowKit Go.Proofs.YtcmiajnndmaeiaaW.PrintWords Go.Proofs.YtcmiajnndmaeiaaW.PrintLast Go.Proofs.YtcmiajnndmaeiaaW.PrintMore

/-- An unfinished message. -/
structure Ent where
  peer : ByteArray
  msg : Int
  born : Nat
  parts : List (List Nat)
def sizeL (ps : List (List Nat)) : Nat := (ps.map List.length).sum
theorem sizeL_snoc (ps : List (List Nat)) (l : List Nat) : sizeL (ps ++ [l]) = sizeL ps + l.length := by simp [sizeL]
structure EntOk (e : Ent) : Prop where
  some_ : 1 ≤ e.parts.length
  few : e.parts.length ≤ 64
  small : ∀ l ∈ e.parts, l.length ≤ 1024
  bytes : ∀ l ∈ e.parts, BytesOK l
  born : e.born < 2 ^ 64
  msg0 : 0 ≤ e.msg
  msg7 : e.msg ≤ 7
theorem sizeL_le {n : Nat} {ps : List (List Nat)} (h : ∀ l ∈ ps, l.length ≤ n) : sizeL ps ≤ n * ps.length := by
  induction ps with
  | nil => simp [sizeL]
  | cons l ps ih =>
    have h1 := h l (by simp)
    have h2 := ih (fun x hx => h x (by simp [hx]))
    simp only [sizeL, List.map_cons, List.sum_cons, List.length_cons, Nat.mul_add, Nat.mul_one] at *
    omega
theorem EntOk.size {e : Ent} (h : EntOk e) : sizeL e.parts ≤ 65536 := by
  have h1 := sizeL_le h.small
  have h2 := h.few
  omega
/-- .. in memory: its block, and its row's. -/
structure Cel where
  g : Nat
  q : Nat
  e : Ent

/-! ### rows of pointers, of slices -/
def KP : Kd (Option Addr) := Kd.scalar Value.pointer (fun _ => rfl)
def KSl : Kd (Option Addr × Nat × Nat) := Kd.scalar (fun x => Value.slice x.1 x.2.1 x.2.2) (fun _ => rfl)
def gp (g : Nat) : Option Addr := some ⟨g, 0, none⟩
def PRow (base : Nat) (w : World) (v : Value) (ps : List (Option Addr)) : Prop := KP.R 64 w base (fun _ => True) v ps
def SRow (base : Nat) (w : World) (v : Value) (ss : List (Option Addr × Nat × Nat)) : Prop := KSl.R 22 w base (fun _ => True) v ss
/-- A piece: nil, or bytes. -/
def PartAt (base : Nat) (w : World) (s : Option Addr × Nat × Nat) (l : List Nat) : Prop :=
  (l = [] ∧ s = (none, 0, 0)) ∨ (0 < l.length ∧ BytesOK l ∧ OwnK .u8 5 base w (.slice s.1 s.2.1 s.2.2) l)
def PartsAt (base : Nat) (w : World) : List (Option Addr × Nat × Nat) → List (List Nat) → Prop
  | [], [] => True
  | s :: ss, l :: ls => PartAt base w s l ∧ PartsAt base w ss ls
  | _, _ => False
/-- Every block but those of S is as it was. -/
structure Mod (S : Nat → Prop) (w w' : World) : Prop where
  os : w'.os = w.os
  tape : w'.tape = w.tape
  output : w'.output = w.output
  size : w.heap.size ≤ w'.heap.size
  same : ∀ k, k < w.heap.size → ¬ S k → w'.heap[k]? = w.heap[k]?
theorem Mod.refl (S : Nat → Prop) (w : World) : Mod S w w := ⟨rfl, rfl, rfl, Nat.le_refl _, fun _ _ _ => rfl⟩
theorem Mod.trans {S : Nat → Prop} {w w1 w2 : World} (h : Mod S w w1) (k : Mod S w1 w2) : Mod S w w2 :=
  ⟨k.os.trans h.os, k.tape.trans h.tape, k.output.trans h.output, Nat.le_trans h.size k.size, fun i hi hs => (k.same i (Nat.lt_of_lt_of_le hi h.size) hs).trans (h.same i hi hs)⟩
/-- The second one may turn what is new, too. -/
theorem Mod.then_ {S S' : Nat → Prop} {w w1 w2 : World} (h : Mod S w w1) (k : Mod S' w1 w2) (hs : ∀ i, i < w.heap.size → S' i → S i) : Mod S w w2 :=
  ⟨k.os.trans h.os, k.tape.trans h.tape, k.output.trans h.output, Nat.le_trans h.size k.size, fun i hi hn => (k.same i (Nat.lt_of_lt_of_le hi h.size) (fun h' => hn (hs i hi h'))).trans (h.same i hi hn)⟩
theorem Mod.below {S : Nat → Prop} {w w1 : World} (h : Below w.heap.size w w1) : Mod S w w1 := ⟨h.os, h.tape, h.output, h.size, fun k hk _ => h.block k hk⟩
theorem Mod.mono {S S' : Nat → Prop} {w w1 : World} (h : Mod S w w1) (hs : ∀ k, k < w.heap.size → S k → S' k) : Mod S' w w1 := ⟨h.os, h.tape, h.output, h.size, fun k hk hn => h.same k hk (fun h' => hn (hs k hk h'))⟩
theorem Mod.set {S : Nat → Prop} (w : World) {g i : Nat} (hg : S g) (v : Value) : Mod S w (w.setCell ⟨g, i, none⟩ v) :=
  ⟨rfl, rfl, rfl, by simp, fun k _ hn => Below.heap_setCell w ⟨g, i, none⟩ v k (fun (e : k = g) => hn (e ▸ hg))⟩
theorem Mod.block {S : Nat → Prop} {w w1 : World} {k : Nat} {o : Obj} (h : Mod S w w1) (hb : w.heap[k]? = some o) (hn : ¬ S k) : w1.heap[k]? = some o := (h.same k (blk_lt hb) hn).trans hb
theorem Mod.toBelow {S : Nat → Prop} {B : Nat} {w w1 : World} (h : Mod S w w1) (hs : ∀ k, S k → B ≤ k) (hB : B ≤ w.heap.size) : Below B w w1 := ⟨h.os, h.tape, h.output, h.size, fun k hk => h.same k (Nat.lt_of_lt_of_le hk hB) (fun h' => by have := hs k h'; omega)⟩
theorem Mod.grown {S : Nat → Prop} {w w1 : World} {row : Option Nat} (h : w.grownBy w1 row) (hs : ∀ k, row = some k → S k) : Mod S w w1 := ⟨h.os, h.tape, h.output, h.size, fun k hk hn => h.block k hk (fun e => hn (hs k e.symm))⟩
/-- S holds blocks of other types alone. -/
def Apart (t : Nat) (w : World) (S : Nat → Prop) : Prop := ∀ k cells, w.heap[k]? = some (.cells cells t (0, 0)) → ¬ S k
theorem Kd_mod {α : Type} {d : Kd α} {e base : Nat} {w w1 : World} {S : Nat → Prop} {v : Value} {xs : List α} (h : d.R e w base (fun _ => True) v xs) (hm : Mod S w w1) (hE : d.E = []) (ha : Apart e w S) : d.R e w1 base (fun _ => True) v xs := by
  have h1 := Kd.R_bound h
  refine Kd.R_mono (Kd.R_step h1 (fun k hk hlt => ?_)) (fun _ _ => trivial)
  obtain ⟨_, _, _, q, hq, cells, hc⟩ := hk
  rw [hE] at hq
  obtain rfl : q = e := by simpa using hq
  exact hm.same k hlt (ha k cells hc)
theorem PartAt.mod {base : Nat} {w w1 : World} {S : Nat → Prop} {s : Option Addr × Nat × Nat} {l : List Nat} (h : PartAt base w s l) (hm : Mod S w w1) (ha : Apart 5 w S) : PartAt base w1 s l := by
  rcases h with h | ⟨h1, h2, h3⟩
  · exact Or.inl h
  · exact Or.inr ⟨h1, h2, Kd_mod h3 hm rfl ha⟩
theorem PartsAt.mod {base : Nat} {w w1 : World} {S : Nat → Prop} (hm : Mod S w w1) (ha : Apart 5 w S) : ∀ {ss : List (Option Addr × Nat × Nat)} {ls : List (List Nat)}, PartsAt base w ss ls → PartsAt base w1 ss ls
  | [], [], _ => trivial
  | _ :: _, _ :: _, ⟨h1, h2⟩ => ⟨h1.mod hm ha, PartsAt.mod hm ha h2⟩
theorem PartsAt.length {base : Nat} {w : World} : ∀ {ss : List (Option Addr × Nat × Nat)} {ls : List (List Nat)}, PartsAt base w ss ls → ss.length = ls.length
  | [], [], _ => rfl
  | _ :: _, _ :: _, ⟨_, h2⟩ => by simp [PartsAt.length h2]
theorem PartsAt.at_ {base : Nat} {w : World} : ∀ {ss : List (Option Addr × Nat × Nat)} {ls : List (List Nat)}, PartsAt base w ss ls → ∀ i, i < ls.length → PartAt base w (ss.getD i (none, 0, 0)) (ls.getD i [])
  | [], [], _, i, hi => by simp at hi
  | s :: ss, l :: ls, ⟨h1, h2⟩, i, hi => by
    cases i with
    | zero => exact h1
    | succ i => simpa using PartsAt.at_ h2 i (by simpa using hi)
theorem PartsAt.set {base : Nat} {w : World} {s : Option Addr × Nat × Nat} {l : List Nat} (hp : PartAt base w s l) : ∀ {ss : List (Option Addr × Nat × Nat)} {ls : List (List Nat)}, PartsAt base w ss ls → ∀ i, PartsAt base w (ss.set i s) (ls.set i l)
  | [], [], _, _ => trivial
  | s' :: ss, l' :: ls, ⟨h1, h2⟩, i => by
    cases i with
    | zero => exact ⟨hp, h2⟩
    | succ i => exact ⟨h1, PartsAt.set hp h2 i⟩
theorem PartsAt.nils (base : Nat) (w : World) : ∀ n, PartsAt base w (List.replicate n (none, 0, 0)) (List.replicate n [])
  | 0 => trivial
  | n + 1 => ⟨Or.inl ⟨rfl, rfl⟩, PartsAt.nils base w n⟩
theorem PartAt.len {base : Nat} {w : World} {s : Option Addr × Nat × Nat} {l : List Nat} (h : PartAt base w s l) : s.2.1 = l.length := by
  rcases h with ⟨rfl, rfl⟩ | ⟨h1, h2, h3⟩
  · rfl
  · exact h3.row.1
theorem PartAt.bytes {base : Nat} {w : World} {s : Option Addr × Nat × Nat} {l : List Nat} (h : PartAt base w s l) : Bytes w s.1 s.2.1 s.2.2 l := by
  rcases h with ⟨rfl, rfl⟩ | ⟨h1, h2, h3⟩
  · exact Bytes.nil _ _ _
  · exact ⟨h3.row.2.2, h3.row.1.symm, by rw [h3.row.1]; exact h3.row.2.1, h2⟩
/-- An unfinished message in memory. -/
def EntAt (base : Nat) (w : World) (x : Cel) : Prop :=
  base ≤ x.g ∧ ∃ c ss, w.heap[x.g]? = some (.cells #[.string x.e.peer, .int .i64 x.e.msg, .int .u64 (x.e.born : Int), .slice (some ⟨x.q, 0, none⟩) x.e.parts.length c] 67 (0, 0)) ∧
    SRow base w (.slice (some ⟨x.q, 0, none⟩) x.e.parts.length c) ss ∧ PartsAt base w ss x.e.parts
theorem SRow.len {base : Nat} {w : World} {A : Option Addr} {n c : Nat} {ss : List (Option Addr × Nat × Nat)} (h : SRow base w (.slice A n c) ss) : n = ss.length ∧ n ≤ c := ⟨(Kd.R_reads' h).1, (Kd.R_reads' h).2.1⟩
theorem SRow.cell {base g n c : Nat} {w : World} {ss : List (Option Addr × Nat × Nat)} (h : SRow base w (.slice (some ⟨g, 0, none⟩) n c) ss) (i : Nat) (hi : i < n) :
    ∃ s, Aside0 (ss.getD i (none, 0, 0) = s) ∧ w.cell? ⟨g, i, none⟩ = some (.slice s.1 s.2.1 s.2.2) ∧ w.frozen? ⟨g, i, none⟩ = false := by
  have hn := h.len.1
  obtain ⟨h1, h2⟩ := Kd.R_celln ((none, 0, 0) : Option Addr × Nat × Nat) h (i : Int) (by omega) (by omega)
  rw [Int.toNat_natCast] at h1 h2
  exact ⟨_, ⟨rfl⟩, by rw [h1, rdOf, Int.toNat_natCast], h2⟩
theorem SRow.blk {base g n c : Nat} {w : World} {ss : List (Option Addr × Nat × Nat)} (h : SRow base w (.slice (some ⟨g, 0, none⟩) n c) ss) : ∃ cells, w.heap[g]? = some (.cells cells 22 (0, 0)) := by
  obtain ⟨h1, h2⟩ := h
  obtain ⟨inner, ho, _⟩ := h2
  exact own_typed ho g rfl
theorem SRow.only {base g n c : Nat} {w : World} {ss : List (Option Addr × Nat × Nat)} (h : SRow base w (.slice (some ⟨g, 0, none⟩) n c) ss) : KSl.R 22 w base (fun k => k = g) (.slice (some ⟨g, 0, none⟩) n c) ss := ⟨fun j hj => by simpa [Value.ownBlock] using hj.symm, h.2⟩
theorem EntAt.mod {base : Nat} {w w1 : World} {S : Nat → Prop} {x : Cel} (h : EntAt base w x) (hm : Mod S w w1) (ha : Apart 5 w S) (hg : ¬ S x.g) (hq : ¬ S x.q) : EntAt base w1 x := by
  obtain ⟨h0, c, ss, h1, h2, h3⟩ := h
  refine ⟨h0, c, ss, hm.block h1 hg, ?_, h3.mod hm ha⟩
  exact Kd.R_mono (Kd.R_step (SRow.only h2) (fun k hk hlt => hm.same k hlt (by rw [hk]; exact hq))) (fun _ _ => trivial)
/-- A buffer in memory: its block b, its bounds, the slice v of its entries, and these. -/
structure BufAt (base : Nat) (w : World) (b P A G : Nat) (v : Value) (xs : List Cel) : Prop where
  box : w.heap[b]? = some (.cells #[.int .i64 (P : Int), .int .i64 (A : Int), .int .u64 (G : Int), v] 63 (0, 0))
  bge : base ≤ b
  row : PRow base w v (xs.map fun x => gp x.g)
  ents : ∀ x ∈ xs, EntAt base w x
  ndg : (xs.map Cel.g).Nodup
  ndq : (xs.map Cel.q).Nodup
/-- Its blocks. -/
def Foot_ (b : Nat) (v : Value) (xs : List Cel) (k : Nat) : Prop := k = b ∨ v.ownBlock = some k ∨ ∃ x ∈ xs, x.g = k ∨ x.q = k
theorem PRow.blk {base : Nat} {w : World} {v : Value} {ps : List (Option Addr)} (h : PRow base w v ps) (k : Nat) (hk : v.ownBlock = some k) : ∃ cells, w.heap[k]? = some (.cells cells 64 (0, 0)) := by
  obtain ⟨_, inner, ho, _⟩ := h
  exact own_typed ho k hk
theorem PRow.only {base : Nat} {w : World} {v : Value} {ps : List (Option Addr)} (h : PRow base w v ps) : KP.R 64 w base (fun k => v.ownBlock = some k) v ps := ⟨fun _ hj => hj, h.2⟩
theorem PRow.mod {base : Nat} {w w1 : World} {S : Nat → Prop} {v : Value} {ps : List (Option Addr)} (h : PRow base w v ps) (hm : Mod S w w1) (hn : ∀ k, v.ownBlock = some k → ¬ S k) : PRow base w1 v ps :=
  Kd.R_mono (Kd.R_step h.only (fun k hk hlt => hm.same k hlt (hn k hk))) (fun _ _ => trivial)
theorem heap_type {w : World} {k t t' : Nat} {c c' : Array Value} {f f' : Nat × Nat} (h : w.heap[k]? = some (.cells c t f)) (h' : w.heap[k]? = some (.cells c' t' f')) : t = t' := by
  rw [h] at h'
  injection h' with h'
  injection h'
theorem EntAt.gblk {base : Nat} {w : World} {x : Cel} (h : EntAt base w x) : ∃ cells, w.heap[x.g]? = some (.cells cells 67 (0, 0)) := by
  obtain ⟨_, c, ss, h1, _⟩ := h
  exact ⟨_, h1⟩
theorem EntAt.qblk {base : Nat} {w : World} {x : Cel} (h : EntAt base w x) : ∃ cells, w.heap[x.q]? = some (.cells cells 22 (0, 0)) := by
  obtain ⟨_, c, ss, _, h2, _⟩ := h
  exact h2.blk
theorem EntAt.qge {base : Nat} {w : World} {x : Cel} (h : EntAt base w x) : base ≤ x.q := by
  obtain ⟨_, c, ss, _, h2, _⟩ := h
  exact Kd.R_base h2 x.q rfl
/-- What the blocks of a buffer are. -/
theorem BufAt.typed {base b P A G : Nat} {w : World} {v : Value} {xs : List Cel} (h : BufAt base w b P A G v xs) {k : Nat} (hk : Foot_ b v xs k) :
    base ≤ k ∧ k < w.heap.size ∧ ∃ t cells, w.heap[k]? = some (.cells cells t (0, 0)) ∧ (t = 63 ∨ t = 64 ∨ t = 67 ∨ t = 22) := by
  rcases hk with rfl | hk | ⟨x, hx, rfl | rfl⟩
  · exact ⟨h.bge, blk_lt h.box, _, _, h.box, Or.inl rfl⟩
  · obtain ⟨cells, hc⟩ := h.row.blk k hk
    exact ⟨Kd.R_base h.row k hk, blk_lt hc, _, _, hc, Or.inr (Or.inl rfl)⟩
  · obtain ⟨cells, hc⟩ := (h.ents x hx).gblk
    exact ⟨(h.ents x hx).1, blk_lt hc, _, _, hc, Or.inr (Or.inr (Or.inl rfl))⟩
  · obtain ⟨cells, hc⟩ := (h.ents x hx).qblk
    exact ⟨(h.ents x hx).qge, blk_lt hc, _, _, hc, Or.inr (Or.inr (Or.inr rfl))⟩
theorem BufAt.apart {base b P A G : Nat} {w : World} {v : Value} {xs : List Cel} (h : BufAt base w b P A G v xs) : Apart 5 w (Foot_ b v xs) := fun k cells hc hk => by
  obtain ⟨_, _, t, cells', h1, h2⟩ := h.typed hk
  have := heap_type hc h1
  subst this
  revert h2
  decide
/-- Other blocks have been written. -/
theorem BufAt.mod {base b P A G : Nat} {w w1 : World} {S : Nat → Prop} {v : Value} {xs : List Cel} (h : BufAt base w b P A G v xs) (hm : Mod S w w1) (ha : Apart 5 w S) (hn : ∀ k, Foot_ b v xs k → ¬ S k) : BufAt base w1 b P A G v xs :=
  ⟨hm.block h.box (hn _ (Or.inl rfl)), h.bge, h.row.mod hm (fun k hk => hn k (Or.inr (Or.inl hk))), fun x hx => (h.ents x hx).mod hm ha (hn _ (Or.inr (Or.inr ⟨x, hx, Or.inl rfl⟩))) (hn _ (Or.inr (Or.inr ⟨x, hx, Or.inr rfl⟩))), h.ndg, h.ndq⟩
theorem BufAt.below {base b P A G : Nat} {w w1 : World} {v : Value} {xs : List Cel} (h : BufAt base w b P A G v xs) (hb : Below w.heap.size w w1) : BufAt base w1 b P A G v xs :=
  h.mod (S := fun _ => False) (Mod.below hb) (fun _ _ _ h => h) (fun _ _ h => h)
theorem EntAt.below {base : Nat} {w w1 : World} {x : Cel} (h : EntAt base w x) (hb : Below w.heap.size w w1) : EntAt base w1 x :=
  h.mod (S := fun _ => False) (Mod.below hb) (fun _ _ _ h => h) (fun h => h) (fun h => h)
theorem BufAt.cell {base b P A G : Nat} {w : World} {v : Value} {xs : List Cel} (h : BufAt base w b P A G v xs) :
    w.cell? ⟨b, 0, none⟩ = some (.int .i64 (P : Int)) ∧ w.cell? ⟨b, 1, none⟩ = some (.int .i64 (A : Int)) ∧ w.cell? ⟨b, 2, none⟩ = some (.int .u64 (G : Int)) ∧ w.cell? ⟨b, 3, none⟩ = some v ∧ w.frozen? ⟨b, 3, none⟩ = false := by
  refine ⟨?_, ?_, ?_, ?_, blk_frozen h.box 3⟩ <;> rw [blk_cell h.box] <;> rfl
theorem PRow.slice {base : Nat} {w : World} {v : Value} {ps : List (Option Addr)} (h : PRow base w v ps) : ∃ A c, v = .slice A ps.length c ∧ ps.length ≤ c := by
  obtain ⟨A, c, h1, h2, _⟩ := Kd.R_reads h
  exact ⟨A, c, h1, h2⟩
theorem PRow.at_ {base n c : Nat} {w : World} {A : Option Addr} {ps : List (Option Addr)} (h : PRow base w (.slice A n c) ps) (hp : 0 < n) : ∃ g, A = some ⟨g, 0, none⟩ ∧ base ≤ g ∧ g < w.heap.size := by
  have hn := (Kd.R_reads' h).1
  obtain ⟨g, c', he, hb, hl, _⟩ := Kd.R_form h (by omega)
  injection he with h1 h2 h3
  exact ⟨g, h1, hb, hl⟩
theorem PRow.cell {base g n c : Nat} {w : World} {ps : List (Option Addr)} (h : PRow base w (.slice (some ⟨g, 0, none⟩) n c) ps) (i : Nat) (hi : i < n) :
    w.cell? ⟨g, i, none⟩ = some (.pointer (ps.getD i none)) ∧ w.frozen? ⟨g, i, none⟩ = false := by
  have hn := (Kd.R_reads' h).1
  obtain ⟨h1, h2⟩ := Kd.R_celln (none : Option Addr) h (i : Int) (by omega) (by omega)
  rw [Int.toNat_natCast] at h1 h2
  exact ⟨by rw [h1, rdOf, Int.toNat_natCast], h2⟩
theorem PRow.put {base g n c : Nat} {w : World} {ps : List (Option Addr)} (h : PRow base w (.slice (some ⟨g, 0, none⟩) n c) ps) (i : Nat) (x : Option Addr) : PRow base (w.setCell ⟨g, i, none⟩ (.pointer x)) (.slice (some ⟨g, 0, none⟩) n c) (ps.set i x) := by
  have h1 := (Kd.R_putg h (i : Int) x).1
  rw [Int.toNat_natCast] at h1
  exact h1
theorem SRow.put {base g n c : Nat} {w : World} {ss : List (Option Addr × Nat × Nat)} (h : SRow base w (.slice (some ⟨g, 0, none⟩) n c) ss) (i : Nat) (s : Option Addr × Nat × Nat) : SRow base (w.setCell ⟨g, i, none⟩ (.slice s.1 s.2.1 s.2.2)) (.slice (some ⟨g, 0, none⟩) n c) (ss.set i s) := by
  have h1 := (Kd.R_putg h (i : Int) s).1
  rw [Int.toNat_natCast] at h1
  exact h1
theorem EntAt.cells {base : Nat} {w : World} {x : Cel} (h : EntAt base w x) : ∃ c,
    w.cell? ⟨x.g, 0, none⟩ = some (.string x.e.peer) ∧ w.cell? ⟨x.g, 1, none⟩ = some (.int .i64 x.e.msg) ∧ w.cell? ⟨x.g, 2, none⟩ = some (.int .u64 (x.e.born : Int)) ∧ w.cell? ⟨x.g, 3, none⟩ = some (.slice (some ⟨x.q, 0, none⟩) x.e.parts.length c) ∧
    ∃ ss, SRow base w (.slice (some ⟨x.q, 0, none⟩) x.e.parts.length c) ss ∧ PartsAt base w ss x.e.parts := by
  obtain ⟨_, c, ss, h1, h2, h3⟩ := h
  exact ⟨c, by rw [blk_cell h1]; rfl, by rw [blk_cell h1]; rfl, by rw [blk_cell h1]; rfl, by rw [blk_cell h1]; rfl, ss, h2, h3⟩
end Go.Proofs.Ytcmiajnndmaeiaa
