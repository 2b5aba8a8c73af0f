/- What Buffer.Add makes of its entries; the walks through Clone, and through Add where nothing may be put in. -/
import Derived.Test.YtcmiajnndmaeiaaFragRoom
set_option linter.unusedVariables false
set_option linter.unusedSimpArgs false
namespace Go.Proofs.Ytcmiajnndmaeiaa
open Go.RowKit Go.Proofs.YtcmiajnndmaeiaaW.PrintWords Go.Proofs.YtcmiajnndmaeiaaW.PrintLast Go.Proofs.YtcmiajnndmaeiaaW.PrintMore
/-- May a piece be? -/
def mayB (msg part parts : Int) (n : Nat) : Bool :=
  decide (0 ≤ msg) && decide (msg ≤ 7) && decide (1 ≤ parts) && decide (parts ≤ 64) && decide (0 ≤ part) && decide (part < parts) && decide (1 ≤ n) && decide (n ≤ 1024) && (decide (n = 1024) || decide (part + 1 = parts))
def own_ (peer : ByteArray) (msg : Int) (x : Cel) : Bool := (x.e.peer.toList == peer.toList) && (x.e.msg == msg)
/-- Those but the ones that go. -/
def stay (gone xs : List Cel) : List Cel := xs.filter fun x => !(gone.any fun z => z.g == x.g)
def putPart (g : Nat) (ps : List (List Nat)) (x : Cel) : Cel := if x.g = g then ⟨x.g, x.q, ⟨x.e.peer, x.e.msg, x.e.born, ps⟩⟩ else x
def endAdd (g : Nat) (ps : List (List Nat)) (xs : List Cel) : List Cel × List Nat × Nat :=
  if ps.any isNil then (xs, [], 0) else (xs.filter fun x => !(x.g == g), ps.flatten, 0)
def addOwn (P A : Nat) (xs : List Cel) (peer : ByteArray) (y : Cel) (part parts : Int) (body : List Nat) : List Cel × List Nat × Nat :=
  if (y.e.parts.length : Int) ≠ parts then (xs, [], 41)
  else if isNil (y.e.parts.getD part.toNat []) = false then (if y.e.parts.getD part.toNat [] = body then (xs, [], 0) else (xs, [], 41))
  else if (roomR P A body.length peer (some y.g) xs).fits = false then (xs, [], 42)
  else endAdd y.g (y.e.parts.set part.toNat body) ((stay (roomR P A body.length peer (some y.g) xs).gone xs).map (putPart y.g (y.e.parts.set part.toNat body)))
def addNew (P A : Nat) (xs : List Cel) (peer : ByteArray) (msg part parts : Int) (body : List Nat) (now g q : Nat) : List Cel × List Nat × Nat :=
  if (roomR P A body.length peer none xs).fits = false then (xs, [], 42)
  else endAdd g ((List.replicate parts.toNat []).set part.toNat body) (stay (roomR P A body.length peer none xs).gone xs ++ [⟨g, q, ⟨peer, msg, now, (List.replicate parts.toNat []).set part.toNat body⟩⟩])
def addC (P A G : Nat) (xs : List Cel) (peer : ByteArray) (msg part parts : Int) (body : List Nat) (now g q : Nat) : List Cel × List Nat × Nat :=
  if mayB msg part parts body.length = false then (xs, [], 1)
  else match (xs.filter fun x => !old_ G now x).find? (own_ peer msg) with
    | some y => addOwn P A (xs.filter fun x => !old_ G now x) peer y part parts body
    | none => addNew P A (xs.filter fun x => !old_ G now x) peer msg part parts body now g q
set_option maxRecDepth 100000 in
theorem clone_calls {A : Option Addr} {n c : Nat} {l : List Nat} {w : World} (hb : Bytes w A n c l) (h0 : 0 < n) (hn : n ≤ 1000000) :
    Calls Try.prog 24 #[.slice A n c] w fun e w' => ∃ v, e = .returned v ∧ OwnK .u8 5 w.heap.size w' v l ∧ Below w.heap.size w w' := by
  obtain ⟨ad, x, rfl, _, _⟩ := hb.1.at_ 0 (by rw [hb.2.1]; exact h0)
  have hne := fun w => nil_eq (some ad) n c w
  have HB := hd hb
  have hlit := OwnK.lit (k := .u8) (e := 5) w (cs := #[]) [] rfl (by decide)
  have hal := below_alloc (Below.refl w.heap.size w) (.cells #[] 5)
  have HL := hd hlit
  have HR := hd (hb.below hal).1
  have HH := hd (show (([] : List Nat).length + l.length) * 1 ≤ 140737488355328 by rw [hb.2.1]; simp; omega)
  clear hb hlit
  go_enter Try.func24, Try.ntmps24
  go_wp2_with ((with_reducible refine gate_dst (N := 7) rfl ?_); at_builtin; refine op_append_row (k := .u8) (w0 := w) 7 rfl w.heap.size 5 22 (.tmp 5) (.tmp 6) rfl rfl Try.underlying22 Try.infoU8 (by decide) (.slice (some ⟨w.heap.size, 0, none⟩) 0 0) [] l (some ad) n c rfl rfl HB.out.2.1.symm HL.out HR.out hal (by simp) HH.out ?_; intro v1 w1 ho1 hb1 hg1; rw [List.nil_append] at ho1)
  go_ret
  exact ⟨v1, rfl, ho1, hb1⟩
theorem mayB_first {msg part parts : Int} {n : Nat} (h : mayB msg part parts n = false) :
    msg < 0 ∨ 7 < msg ∨ parts < 1 ∨ 64 < parts ∨ part < 0 ∨ parts ≤ part ∨ n = 0 ∨ 1024 < n ∨ (n < 1024 ∧ part < parts - 1) := by
  unfold mayB at h
  simp only [Bool.and_eq_false_iff, Bool.or_eq_false_iff, decide_eq_false_iff_not] at h
  omega
set_option maxHeartbeats 4000000 in
set_option maxRecDepth 100000 in
theorem add_bad {b : Nat} {w : World} {peer : ByteArray} {msg part parts : Int} {A : Option Addr} {n c now : Nat} (h : mayB msg part parts n = false) (hn : n ≤ 1000000000) (hp1 : -9223372036854775808 ≤ parts) (hp2 : parts ≤ 9223372036854775807) :
    Calls Try.prog 12 #[.pointer (gp b), .string peer, .int .i64 msg, .int .i64 part, .int .i64 parts, .slice A n c, .int .u64 (now : Int)] w fun e w' => e = .returned (.tuple #[.slice none 0 0, .int .i64 1]) ∧ Below w.heap.size w w' := by
  have hal := below_alloc (below_alloc (Below.refl w.heap.size w) (.cells #[.string peer] 9)) (.cells #[.int .i64 msg] 3)
  have hcell : ((w.alloc (.cells #[.string peer] 9)).alloc (.cells #[.int .i64 msg] 3)).cell? ⟨w.heap.size + 1, 0, none⟩ = some (.int .i64 msg) := by
    have h1 : (w.alloc (.cells #[.string peer] 9)).heap.size = w.heap.size + 1 := by simp
    have := blk_cell (blk_new (w.alloc (.cells #[.string peer] 9)) (.cells #[.int .i64 msg] 3)) 0
    rw [h1] at this
    rw [this]
    rfl
  have hf := mayB_first h
  have HAL := hd hal
  have n9 : (n : Int) ≤ 1000000000 := by omega
  clear h hal
  unfold gp
  by_cases h1 : msg < 0
  · have q1 : decide (msg < 0) = true := by simp; exact h1
    clear hf
    go_enter Try.func12, Try.ntmps12
    go_wp2
    go_ret2
    exact ⟨rfl, HAL.out⟩
  have q1 : decide (msg < 0) = false := by simp; omega
  by_cases h2 : 7 < msg
  · have q2 : decide (7 < msg) = true := by simp; exact h2
    clear hf
    go_enter Try.func12, Try.ntmps12
    go_wp2
    go_ret2
    exact ⟨rfl, HAL.out⟩
  have q2 : decide (7 < msg) = false := by simp; omega
  by_cases h3 : parts < 1
  · have q3 : decide (parts < 1) = true := by simp; omega
    clear hf
    go_enter Try.func12, Try.ntmps12
    go_wp2
    go_ret2
    exact ⟨rfl, HAL.out⟩
  have q3 : decide (parts < 1) = false := by simp; omega
  by_cases h4 : 64 < parts
  · have q4 : decide (64 < parts) = true := by simp; omega
    clear hf
    go_enter Try.func12, Try.ntmps12
    go_wp2
    go_ret2
    exact ⟨rfl, HAL.out⟩
  have q4 : decide (64 < parts) = false := by simp; omega
  by_cases h5 : part < 0
  · have q5 : decide (part < 0) = true := by simp; omega
    clear hf
    go_enter Try.func12, Try.ntmps12
    go_wp2
    go_ret2
    exact ⟨rfl, HAL.out⟩
  have q5 : decide (part < 0) = false := by simp; omega
  by_cases h6 : parts ≤ part
  · have q6 : decide (parts ≤ part) = true := by simp; omega
    clear hf
    go_enter Try.func12, Try.ntmps12
    go_wp2
    go_ret2
    exact ⟨rfl, HAL.out⟩
  have q6 : decide (parts ≤ part) = false := by simp; omega
  by_cases h7 : n = 0
  · subst h7
    clear hf
    go_enter Try.func12, Try.ntmps12
    go_wp2
    go_ret2
    exact ⟨rfl, HAL.out⟩
  have q7 : decide ((n : Int) < 1) = false := by simp; omega
  have q7' : (n = 0) = False := eq_false h7
  by_cases h8 : 1024 < n
  · have q8 : decide ((1024 : Int) < (n : Int)) = true := by simp; omega
    clear hf
    go_enter Try.func12, Try.ntmps12
    go_wp2
    go_ret2
    exact ⟨rfl, HAL.out⟩
  have q8 : decide ((1024 : Int) < (n : Int)) = false := by simp; omega
  have h9 : n < 1024 ∧ part < parts - 1 := by omega
  have q9 : decide ((n : Int) < 1024) = true := by simp; omega
  have q10 : decide (part < parts - 1) = true := by simp; omega
  have p1 : 1 ≤ parts := by omega
  have p2 : parts ≤ 64 := by omega
  clear hf h9
  go_enter Try.func12, Try.ntmps12
  go_wp2
  go_ret2
  exact ⟨rfl, HAL.out⟩
/-! ### what the writes leave -/
theorem roomR_mem {P A n : Nat} {peer : ByteArray} {o : Option Nat} {xs : List Cel} {z : Cel} (h : z ∈ (roomR P A n peer o xs).gone) : z ∈ xs := by
  have h1 : z ∈ sortL (othersL peer o xs) := List.mem_of_mem_take h
  exact (List.mem_filter.1 (sortL_mem.1 h1)).1
theorem g_inj {xs : List Cel} (hn : (xs.map Cel.g).Nodup) {x y : Cel} (hx : x ∈ xs) (hy : y ∈ xs) (h : x.g = y.g) : x = y := by
  induction xs with
  | nil => cases hx
  | cons a xs ih =>
    have h1 := List.nodup_cons.1 hn
    rcases List.mem_cons.1 hx with hx2 | hx2
    · rcases List.mem_cons.1 hy with hy2 | hy2
      · rw [hx2, hy2]
      · exact absurd (by rw [← hx2, h]; exact List.mem_map_of_mem hy2) h1.1
    · rcases List.mem_cons.1 hy with hy2 | hy2
      · exact absurd (by rw [← hy2, ← h]; exact List.mem_map_of_mem hx2) h1.1
      · exact ih h1.2 hx2 hy2
theorem q_inj {xs : List Cel} (hn : (xs.map Cel.q).Nodup) {x y : Cel} (hx : x ∈ xs) (hy : y ∈ xs) (h : x.q = y.q) : x = y := by
  induction xs with
  | nil => cases hx
  | cons a xs ih =>
    have h1 := List.nodup_cons.1 hn
    rcases List.mem_cons.1 hx with hx2 | hx2
    · rcases List.mem_cons.1 hy with hy2 | hy2
      · rw [hx2, hy2]
      · exact absurd (by rw [← hx2, h]; exact List.mem_map_of_mem hy2) h1.1
    · rcases List.mem_cons.1 hy with hy2 | hy2
      · exact absurd (by rw [← hy2, ← h]; exact List.mem_map_of_mem hx2) h1.1
      · exact ih h1.2 hx2 hy2
theorem putPart_g (g : Nat) (ps : List (List Nat)) (x : Cel) : (putPart g ps x).g = x.g := by unfold putPart; split <;> rfl
theorem putPart_q (g : Nat) (ps : List (List Nat)) (x : Cel) : (putPart g ps x).q = x.q := by unfold putPart; split <;> rfl
theorem putPart_map_g (g : Nat) (ps : List (List Nat)) (xs : List Cel) : (xs.map (putPart g ps)).map Cel.g = xs.map Cel.g := by
  rw [List.map_map]
  exact List.map_congr_left (fun x _ => putPart_g g ps x)
theorem putPart_map_q (g : Nat) (ps : List (List Nat)) (xs : List Cel) : (xs.map (putPart g ps)).map Cel.q = xs.map Cel.q := by
  rw [List.map_map]
  exact List.map_congr_left (fun x _ => putPart_q g ps x)
/-- A piece is put into an entry. -/
theorem EntAt.setPart {base : Nat} {w : World} {y : Cel} {s : Option Addr × Nat × Nat} {l : List Nat} (h : EntAt base w y) (hs : PartAt base w s l) (p : Nat) :
    EntAt base (w.setCell ⟨y.q, p, none⟩ (.slice s.1 s.2.1 s.2.2)) ⟨y.g, y.q, ⟨y.e.peer, y.e.msg, y.e.born, y.e.parts.set p l⟩⟩ := by
  obtain ⟨h0, c, ss, h1, h2, h3⟩ := h
  obtain ⟨cq, hq⟩ := h2.blk
  have hm : Mod (fun k => k = y.q) w (w.setCell ⟨y.q, p, none⟩ (.slice s.1 s.2.1 s.2.2)) := Mod.set (S := fun k => k = y.q) w rfl _
  have ha : Apart 5 w (fun k => k = y.q) := fun k cells hc e => by
    rw [e] at hc
    exact absurd (heap_type hc hq) (by decide)
  refine ⟨h0, c, ss.set p s, ?_, ?_, PartsAt.set (hs.mod hm ha) (h3.mod hm ha) p⟩
  · rw [List.length_set]
    exact hm.block h1 (fun e => by
      have h1' := h1
      rw [show y.g = y.q from e] at h1'
      exact absurd (heap_type h1' hq) (by decide))
  · rw [List.length_set]
    exact h2.put p s
theorem BufAt.setPart {base b P A G : Nat} {w : World} {v : Value} {xs : List Cel} {y : Cel} {s : Option Addr × Nat × Nat} {l : List Nat} (h : BufAt base w b P A G v xs) (hy : y ∈ xs) (hs : PartAt base w s l) (p : Nat) :
    BufAt base (w.setCell ⟨y.q, p, none⟩ (.slice s.1 s.2.1 s.2.2)) b P A G v (xs.map (putPart y.g (y.e.parts.set p l))) := by
  obtain ⟨cq, hq⟩ := (h.ents y hy).qblk
  have hm : Mod (fun k => k = y.q) w (w.setCell ⟨y.q, p, none⟩ (.slice s.1 s.2.1 s.2.2)) := Mod.set (S := fun k => k = y.q) w rfl _
  have ha : Apart 5 w (fun k => k = y.q) := fun k cells hc e => by
    rw [e] at hc
    exact absurd (heap_type hc hq) (by decide)
  refine ⟨hm.block h.box (fun e => ?_), h.bge, ?_, fun x hx => ?_, by rw [putPart_map_g]; exact h.ndg, by rw [putPart_map_q]; exact h.ndq⟩
  · have h1 := h.box
    rw [show b = y.q from e] at h1
    exact absurd (heap_type h1 hq) (by decide)
  · have h1 : (xs.map (putPart y.g (y.e.parts.set p l))).map (fun x => gp x.g) = xs.map fun x => gp x.g := by
      rw [List.map_map]
      exact List.map_congr_left (fun x _ => congrArg gp (putPart_g _ _ x))
    rw [h1]
    exact h.row.mod hm (fun k hk e => by
      obtain ⟨c, hc⟩ := h.row.blk k hk
      rw [e] at hc
      exact absurd (heap_type hc hq) (by decide))
  · obtain ⟨z, hz, rfl⟩ := List.mem_map.1 hx
    unfold putPart
    split
    · rename_i hg
      obtain rfl := g_inj h.ndg hz hy hg
      exact (h.ents z hz).setPart hs p
    · rename_i hg
      refine (h.ents z hz).mod hm ha (fun e => ?_) (fun e => hg (by rw [q_inj h.ndq hz hy e]))
      obtain ⟨c, hc⟩ := (h.ents z hz).gblk
      rw [show z.g = y.q from e] at hc
      exact absurd (heap_type hc hq) (by decide)
/-- An entry that has just been made is put behind the others. -/
theorem BufAt.snoc {base b P A G : Nat} {w w1 : World} {v v1 : Value} {xs : List Cel} {x : Cel} (h : BufAt base w b P A G v xs) (hx : EntAt base w x) (hg : ∀ y ∈ xs, y.g ≠ x.g) (hq : ∀ y ∈ xs, y.q ≠ x.q)
    (hr : PRow base w1 v1 ((xs ++ [x]).map fun x => gp x.g)) (hgr : w.grownBy w1 v.ownBlock) (hv : v1.ownBlock = v.ownBlock ∨ ∃ k, v1.ownBlock = some k ∧ w.heap.size ≤ k) :
    BufAt base (w1.setCell ⟨b, 3, none⟩ v1) b P A G v1 (xs ++ [x]) := by
  have hm : Mod (fun k => v.ownBlock = some k) w w1 := Mod.grown hgr (fun k hk => hk)
  have hbx := h.box_row hm
  have hm2 : Mod (fun k => k = b) w1 (w1.setCell ⟨b, 3, none⟩ v1) := Mod.set (S := fun k => k = b) w1 rfl v1
  have hne : ¬ v1.ownBlock = some b := fun e => by
    rcases hv with h1 | ⟨k, h1, h2⟩
    · exact h.row_ne (by rw [← h1, e])
    · rw [h1] at e
      injection e with e
      have := blk_lt h.box
      omega
  have hents : ∀ z ∈ xs ++ [x], EntAt base w1 z := fun z hz => by
    rcases List.mem_append.1 hz with hz | hz
    · exact h.ent_row hm hz
    · rw [List.mem_singleton.1 hz]
      exact hx.row h.row hm
  refine ⟨by rw [blk_set hbx 3 v1]; rfl, h.bge, hr.mod hm2 (fun k hk e => hne (by rw [hk, e])), fun z hz => ?_, ?_, ?_⟩
  · have he := hents z hz
    refine he.mod hm2 (fun k cells hc e => ?_) (fun e => ?_) (fun e => ?_)
    · rw [e] at hc
      exact absurd (heap_type hc hbx) (by decide)
    · obtain ⟨c, hc⟩ := he.gblk
      rw [e] at hc
      exact absurd (heap_type hc hbx) (by decide)
    · obtain ⟨c, hc⟩ := he.qblk
      rw [e] at hc
      exact absurd (heap_type hc hbx) (by decide)
  · rw [List.map_append, List.nodup_append]
    exact ⟨h.ndg, by simp, fun a ha c hc => by
      obtain ⟨y, hy, rfl⟩ := List.mem_map.1 ha
      have : c = x.g := by simpa using hc
      rw [this]
      exact hg y hy⟩
  · rw [List.map_append, List.nodup_append]
    exact ⟨h.ndq, by simp, fun a ha c hc => by
      obtain ⟨y, hy, rfl⟩ := List.mem_map.1 ha
      have : c = x.q := by simpa using hc
      rw [this]
      exact hq y hy⟩
/-- What the pieces tell to Join. -/
theorem rows2_of_parts {base : Nat} {w : World} {A : Option Addr} {n c : Nat} {ss : List (Option Addr × Nat × Nat)} {ls : List (List Nat)} (hr : SRow base w (.slice A n c) ss) (hp : PartsAt base w ss ls) (hl : ls.length ≤ 1000000) : Rows2 w A ls := by
  have hn : n = ls.length := by rw [hr.len.1, hp.length]
  refine ⟨by omega, fun h0 => ?_⟩
  obtain ⟨g, c', he, _⟩ := Kd.R_form hr (by have := hr.len.1; omega)
  injection he with h1 h2 h3
  subst h1
  refine ⟨_, rfl, fun i hi => ?_⟩
  obtain ⟨s, hs, hc, _⟩ := hr.cell i (by omega)
  have hpa := hp.at_ i hi
  rw [hs.out] at hpa
  have hb := hpa.bytes
  refine ⟨s.1, s.2.2, ?_, ?_, hb.1⟩
  · have h1 : (Addr.add ⟨g, 0, none⟩ i) = ⟨g, i, none⟩ := by rw [add_plain]
    rw [h1, hc, hb.2.1]
  · rw [hb.2.1]
    exact hb.2.2.1
end Go.Proofs.Ytcmiajnndmaeiaa
