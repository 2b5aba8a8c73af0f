/- What stands while Buffer.Add runs. -/
import Derived.Test.YtcmiajnndmaeiaaFragClr
set_option linter.unusedVariables false
set_option linter.unusedSimpArgs false
namespace Go.Proofs.Ytcmiajnndmaeiaa
open Go.RowKit Go.Proofs.YtcmiajnndmaeiaaW.PrintWords Go.Proofs.YtcmiajnndmaeiaaW.PrintLast Go.Proofs.YtcmiajnndmaeiaaW.PrintMore
/-- What Add answers, and leaves. -/
def AddPost (base b P A G : Nat) (w : World) (v : Value) (xs : List Cel) (R : List Cel × List Nat × Nat) (e : Ending) (w' : World) : Prop :=
  ∃ v' vo, e = .returned (.tuple #[vo, .int .i64 (R.2.2 : Int)]) ∧ OwnK .u8 5 w.heap.size w' vo R.2.1 ∧ BufAt base w' b P A G v' R.1 ∧ Mod (Foot_ b v xs) w w' ∧ ∀ k, Foot_ b v' R.1 k → Foot_ b v xs k ∨ w.heap.size ≤ k
/-- .. and where the pieces' bytes lie. -/
def AddPostC (base b P A G : Nat) (w : World) (v : Value) (xs : List Cel) (R : List Cel × List Nat × Nat) (e : Ending) (w' : World) : Prop :=
  AddPost base b P A G w v xs R e w' ∧ ∀ okp : Nat → Prop, Clear okp w xs → (∀ k, w.heap.size ≤ k → okp k) → Clear okp w' R.1
structure AddSt (base : Nat) (w : World) (b P A G : Nat) (v : Value) (xs : List Cel) (peer : ByteArray) (msg : Int) (o : Nat) (pt : Option Addr) (wc : World) (v1 : Value) (xs1 : List Cel) : Prop where
  buf : BufAt base wc b P A G v1 xs1
  mod : Mod (Foot_ b v xs) w wc
  foot : ∀ k, Foot_ b v1 xs1 k → Foot_ b v xs k ∨ w.heap.size ≤ k
  pb : wc.heap[w.heap.size]? = some (.cells #[.string peer] 9 (0, 0))
  mb : wc.heap[w.heap.size + 1]? = some (.cells #[.int .i64 msg] 3 (0, 0))
  ob : wc.heap[o]? = some (.cells #[.pointer pt] 64 (0, 0))
  oge : w.heap.size ≤ o
  one : ¬ v1.ownBlock = some o
  clr : ∀ okp : Nat → Prop, Clear okp w xs → (∀ k, w.heap.size ≤ k → okp k) → Clear okp wc xs1
theorem Try.infoSl : (Try.prog.info? 22).map (fun i => (i.zero, i.size, i.bytes)) = some (some (.slice none 0 0), 1, 24) := by kernel_rfl
section
variable {ops : Array Oper} {rest : List Oper} {o : Oper} {a : Act} {Q : Exit → Act → World → Prop} {Kc : Act → World → Prop}
theorem op_makeS_step {W : World} (N : Tmp) (hd : o.dst = some N) (x y : Operand) (ho : o.op = .makeSlice 24 x y) (hw : Region.wanted o (yielded ops a.tmps) = true) (m : Nat) (hx : a.eval x = .int .i64 (m : Int)) (hy : a.eval y = .int .i64 (m : Int)) (h64 : m ≤ 64) (h1 : 1 ≤ m)
    (h : ∀ q c w1, SRow W.heap.size w1 (.slice (some ⟨q, 0, none⟩) m c) (List.replicate m (none, 0, 0)) → W.heap.size ≤ q → Below W.heap.size W w1 → Kc (a.put o.dst (.slice (some ⟨q, 0, none⟩) m c)) w1) :
    if Region.wanted o (yielded ops a.tmps) = true then Oper.wp Try.prog o a W Kc Q else Kc (a.put o.dst undef) W :=
  Kd.R_make_step KSl (w0 := W) W.heap.size 22 hw hd 24 x y ho (m : Int) hx hy Try.underlying24 (.slice none 0 0) 24 Try.infoSl rfl (Nat.zero_lt_one) (by decide) ((none, 0, 0) : Option Addr × Nat × Nat) (okp := fun _ => True) (ok := fun _ => True) rfl (fun _ _ => trivial) trivial (by omega) (by rw [Int.toNat_natCast]; omega) (Below.refl _ _) (Nat.le_refl _) (fun v1 w1 hr hb _ _ => by
    rw [Int.toNat_natCast] at hr
    obtain ⟨q, c, he, hq, _, _⟩ := Kd.R_form hr (by rw [List.length_replicate]; exact h1)
    rw [List.length_replicate] at he
    subst he
    exact h q c w1 hr hq hb)
end
variable {base b P A G : Nat} {w wc wd : World} {v v1 v2 : Value} {xs xs1 : List Cel} {peer : ByteArray} {msg : Int} {o : Nat} {pt : Option Addr}
theorem BufAt.foot_row (h : BufAt base w b P A G v xs) {k t : Nat} {cells : Array Value} (hk : w.heap[k]? = some (.cells cells t (0, 0))) (h1 : t ≠ 63) (h2 : t ≠ 64) (h3 : t ≠ 67) (h4 : t ≠ 22) : ¬ Foot_ b v xs k := fun hf => by
  obtain ⟨_, _, t', c', hc, ht⟩ := h.typed hf
  have := heap_type hk hc
  subst this
  rcases ht with ht | ht | ht | ht
  · exact h1 ht
  · exact h2 ht
  · exact h3 ht
  · exact h4 ht
theorem BufAt.foot_box (h : BufAt base w b P A G v xs) {k : Nat} {cells : Array Value} (hk : w.heap[k]? = some (.cells cells 64 (0, 0))) (hn : ¬ v.ownBlock = some k) : ¬ Foot_ b v xs k := fun hf => by
  rcases hf with rfl | hf | ⟨x, hx, rfl | rfl⟩
  · exact absurd (heap_type h.box hk) (by decide)
  · exact hn hf
  · obtain ⟨c, hc⟩ := (h.ents x hx).gblk
    exact absurd (heap_type hc hk) (by decide)
  · obtain ⟨c, hc⟩ := (h.ents x hx).qblk
    exact absurd (heap_type hc hk) (by decide)
/-- The parameters' boxes are laid, and what is too old is gone; own is made. -/
theorem AddSt.start (h : BufAt base w b P A G v xs) {q : Cel → Bool} {w1 : World} (hv : v1.ownBlock = v.ownBlock) (hb : BufAt base w1 b P A G v1 (xs.filter q))
    (hm : Mod (fun k => k = b ∨ v.ownBlock = some k) ((w.alloc (.cells #[.string peer] 9)).alloc (.cells #[.int .i64 msg] 3)) w1) :
    AddSt base w b P A G v xs peer msg w1.heap.size none (w1.alloc (.cells #[.pointer none] 64)) v1 (xs.filter q) := by
  have hal := below_alloc (below_alloc (Below.refl w.heap.size w) (.cells #[.string peer] 9)) (.cells #[.int .i64 msg] 3)
  have hb' := hb.below (below_alloc (Below.refl w1.heap.size w1) (.cells #[.pointer none] 64))
  have hlt : ∀ k, (k = b ∨ v.ownBlock = some k) → k < w.heap.size := fun k hk => by
    rcases hk with rfl | hk
    · exact blk_lt h.box
    · obtain ⟨c, hc⟩ := h.row.blk k hk
      exact blk_lt hc
  have b1 : ((w.alloc (.cells #[.string peer] 9)).alloc (.cells #[.int .i64 msg] 3)).heap[w.heap.size]? = some (.cells #[.string peer] 9 (0, 0)) := blk_below (blk_new w _) (below_alloc (Below.refl _ _) _)
  have b2 : ((w.alloc (.cells #[.string peer] 9)).alloc (.cells #[.int .i64 msg] 3)).heap[w.heap.size + 1]? = some (.cells #[.int .i64 msg] 3 (0, 0)) := by
    have := blk_new (w.alloc (.cells #[.string peer] 9)) (.cells #[.int .i64 msg] 3)
    simpa using this
  have b3 := hm.block b1 (fun hk => by have := hlt _ hk; omega)
  have b4 := hm.block b2 (fun hk => by have := hlt _ hk; omega)
  have hs := hm.size
  have hs2 := blk_lt b4
  have hal2 := below_alloc (Below.refl w1.heap.size w1) (.cells #[.pointer none] 64)
  refine ⟨hb', ?_, ?_, blk_below b3 hal2, blk_below b4 hal2, blk_new w1 _, by omega, fun hk => ?_, fun okp hcl _ => (hcl.sub (fun x hx => (List.mem_filter.1 hx).1)).step (fun x hx => ?_)⟩
  · refine ((Mod.below hal).then_ hm (fun i hi hs => ?_)).trans (Mod.then_ (Mod.refl _ _) (Mod.below (S := fun _ => False) hal2) (fun _ _ h => h.elim))
    rcases hs with rfl | hs
    · exact Or.inl rfl
    · exact Or.inr (Or.inl hs)
  · rintro k (rfl | hk | ⟨x, hx, hk⟩)
    · exact Or.inl (Or.inl rfl)
    · exact Or.inl (Or.inr (Or.inl (by rw [← hv]; exact hk)))
    · exact Or.inl (Or.inr (Or.inr ⟨x, (List.mem_filter.1 hx).1, hk⟩))
  · rw [hv] at hk
    have := hlt _ (Or.inr hk)
    omega
  · have hx1 := (List.mem_filter.1 hx).1
    have h1 := h.q_lt hx1
    have h2 := hal.size
    rw [hal2.block x.q (by omega), hm.same x.q (by omega) (h.q_ne hx1)]
    exact hal.block x.q h1
theorem AddSt.below (h : AddSt base w b P A G v xs peer msg o pt wc v1 xs1) (hb : Below wc.heap.size wc wd) : AddSt base w b P A G v xs peer msg o pt wd v1 xs1 :=
  ⟨h.buf.below hb, h.mod.trans (Mod.then_ (Mod.refl _ _) (Mod.below (S := fun _ => False) hb) (fun _ _ h => h.elim)), h.foot, blk_below h.pb hb, blk_below h.mb hb, blk_below h.ob hb, h.oge, h.one, fun okp hcl hnew => (h.clr okp hcl hnew).step (fun x hx => hb.block x.q (h.buf.q_lt hx))⟩
theorem AddSt.put (h : AddSt base w b P A G v xs peer msg o pt wc v1 xs1) (p2 : Option Addr) : AddSt base w b P A G v xs peer msg o p2 (wc.setCell ⟨o, 0, none⟩ (.pointer p2)) v1 xs1 := by
  have hm : Mod (fun k => k = o) wc (wc.setCell ⟨o, 0, none⟩ (.pointer p2)) := Mod.set (S := fun k => k = o) wc rfl _
  refine ⟨h.buf.mod hm (fun k c hc e => ?_) (fun k hk e => ?_), h.mod.then_ hm (fun i hi e => ?_), h.foot, hm.block h.pb (fun e => ?_), hm.block h.mb (fun e => ?_), by rw [blk_set h.ob 0 _]; rfl, h.oge, h.one, fun okp hcl hnew => (h.clr okp hcl hnew).step (fun x hx => hm.same x.q (h.buf.q_lt hx) (fun e => by
    obtain ⟨c, hc⟩ := (h.buf.ents x hx).qblk
    rw [e] at hc
    exact absurd (heap_type hc h.ob) (by decide)))⟩
  · rw [e] at hc
    exact absurd (heap_type hc h.ob) (by decide)
  · rw [e] at hk
    exact h.buf.foot_box h.ob h.one hk
  · have := h.oge
    omega
  · have h1 := h.pb
    rw [e] at h1
    exact absurd (heap_type h1 h.ob) (by decide)
  · have h1 := h.mb
    rw [e] at h1
    exact absurd (heap_type h1 h.ob) (by decide)
/-- Some entries have been let go. -/
theorem AddSt.cut (h : AddSt base w b P A G v xs peer msg o pt wc v1 xs1) {q : Cel → Bool} (hv : v2.ownBlock = v1.ownBlock) (hb : BufAt base wd b P A G v2 (xs1.filter q)) (hm : Mod (fun k => k = b ∨ v1.ownBlock = some k) wc wd) :
    AddSt base w b P A G v xs peer msg o pt wd v2 (xs1.filter q) := by
  have hf : ∀ k, (k = b ∨ v1.ownBlock = some k) → Foot_ b v1 xs1 k := fun k hk => by
    rcases hk with rfl | hk
    · exact Or.inl rfl
    · exact Or.inr (Or.inl hk)
  refine ⟨hb, h.mod.then_ hm (fun i hi hs => ?_), ?_, hm.block h.pb (fun hk => ?_), hm.block h.mb (fun hk => ?_), hm.block h.ob (fun hk => ?_), h.oge, by rw [hv]; exact h.one, fun okp hcl hnew => ((h.clr okp hcl hnew).sub (fun x hx => (List.mem_filter.1 hx).1)).step (fun x hx => hm.same x.q (h.buf.q_lt (List.mem_filter.1 hx).1) (h.buf.q_ne (List.mem_filter.1 hx).1))⟩
  · rcases h.foot i (hf i hs) with h1 | h1
    · exact h1
    · omega
  · rintro k (rfl | hk | ⟨x, hx, hk⟩)
    · exact h.foot _ (Or.inl rfl)
    · exact h.foot _ (Or.inr (Or.inl (by rw [← hv]; exact hk)))
    · exact h.foot _ (Or.inr (Or.inr ⟨x, (List.mem_filter.1 hx).1, hk⟩))
  · exact h.buf.foot_row h.pb (by decide) (by decide) (by decide) (by decide) (hf _ hk)
  · exact h.buf.foot_row h.mb (by decide) (by decide) (by decide) (by decide) (hf _ hk)
  · exact h.buf.foot_box h.ob h.one (hf _ hk)
theorem AddSt.cells (h : AddSt base w b P A G v xs peer msg o pt wc v1 xs1) : wc.cell? ⟨b, 3, none⟩ = some v1 ∧ wc.cell? ⟨w.heap.size, 0, none⟩ = some (.string peer) ∧ wc.cell? ⟨w.heap.size + 1, 0, none⟩ = some (.int .i64 msg) ∧ wc.cell? ⟨o, 0, none⟩ = some (.pointer pt) ∧ wc.frozen? ⟨o, 0, none⟩ = false := by
  refine ⟨h.buf.cell.2.2.2.1, ?_, ?_, ?_, blk_frozen h.ob 0⟩
  · rw [blk_cell h.pb]; rfl
  · rw [blk_cell h.mb]; rfl
  · rw [blk_cell h.ob]; rfl
theorem AddSt.exit (h : AddSt base w b P A G v xs peer msg o pt wc v1 xs1) {R : List Cel × List Nat × Nat} {code : Nat} (hR : R = (xs1, [], code)) : AddPostC base b P A G w v xs R (.returned (.tuple #[.slice none 0 0, .int .i64 (code : Int)])) wc := by
  subst hR
  exact ⟨⟨v1, .slice none 0 0, rfl, OwnK.nil _ _ _ _, h.buf, h.mod, h.foot⟩, h.clr⟩
theorem nil_ne (A : Option Addr) (n c : Nat) (w : World) : (binOp .neq 22 (.slice A n c) (.slice none 0 0)).run Try.prog w = .ok (.bool (!A.isNone)) w := by
  simp only [binOp]
  simp [Op.equal, Op.maxDepth, Lib.run_equalIn_slice_nil w 9999 _ _ A n c 0 0 Try.underlying22]
theorem PartAt.fit {base : Nat} {w : World} {s : Option Addr × Nat × Nat} {l : List Nat} (h : PartAt base w s l) (hl : l.length ≤ 1024) : s.2.1 ≤ 140737488355328 := by
  rw [h.len]
  omega
theorem AddSt.reads (h : AddSt base w b P A G v xs peer msg o pt wc v1 xs1) {y : Cel} (hy : y ∈ xs1) {p ny : Nat} (hp : p < ny) (hn : ny = y.e.parts.length) :
    ∃ cy s, wc.cell? ⟨y.g, 3, none⟩ = some (.slice (some ⟨y.q, 0, none⟩) ny cy) ∧ wc.cell? ⟨y.q, p, none⟩ = some (.slice s.1 s.2.1 s.2.2) ∧ wc.frozen? ⟨y.q, p, none⟩ = false ∧ PartAt base wc s (y.e.parts.getD p []) := by
  subst hn
  obtain ⟨cy, _, _, _, hp3, ss, hsr, hpt⟩ := (h.buf.ents y hy).cells
  obtain ⟨s, hs, hcs, hfs⟩ := hsr.cell p hp
  have hpa := hpt.at_ p hp
  rw [hs.out] at hpa
  exact ⟨cy, s, hp3, hcs, hfs, hpa⟩
theorem addOwn_ne {y : Cel} {part parts : Int} {body : List Nat} (h : (y.e.parts.length : Int) ≠ parts) : addOwn P A xs peer y part parts body = (xs, [], 41) := by
  unfold addOwn
  rw [if_pos h]
theorem addOwn_is {y : Cel} {p ny : Nat} {body l0 : List Nat} {bb : Bool} (h : ny = y.e.parts.length) (h0 : y.e.parts.getD p [] = l0) (hl : 0 < l0.length) (hb : (l0 == body) = bb) : addOwn P A xs peer y (p : Int) (ny : Int) body = (xs, [], if bb then 0 else 41) := by
  have h1 : isNil l0 = false := by
    cases l0 with
    | nil => simp at hl
    | cons a l => rfl
  unfold addOwn
  rw [if_neg (by rw [h]; simp), Int.toNat_natCast, h0, if_pos h1]
  subst hb
  by_cases hz : l0 = body
  · rw [if_pos hz, if_pos (by simp [hz])]
  · rw [if_neg hz, if_neg (by simp [hz])]
theorem addOwn_none {y : Cel} {p ny : Nat} {body : List Nat} (h : ny = y.e.parts.length) (h0 : y.e.parts.getD p [] = []) :
    addOwn P A xs peer y (p : Int) (ny : Int) body = if (roomR P A body.length peer (some y.g) xs).fits = false then (xs, [], 42)
      else endAdd y.g (y.e.parts.set p body) ((stay (roomR P A body.length peer (some y.g) xs).gone xs).map (putPart y.g (y.e.parts.set p body))) := by
  unfold addOwn
  rw [if_neg (by rw [h]; simp), Int.toNat_natCast, h0, if_neg (by decide)]
theorem enters26 : ∀ args w, (callFunc 26 args).run Try.prog w = .ok (.enter 26 args) w := enters_of Try.func26 (by kernel_rfl) rfl
theorem enters30 : ∀ args w, (callFunc 30 args).run Try.prog w = .ok (.enter 30 args) w := enters_of Try.func30 (by kernel_rfl) rfl
theorem enters34 : ∀ args w, (callFunc 34 args).run Try.prog w = .ok (.enter 34 args) w := enters_of Try.func34 (by kernel_rfl) rfl
theorem AddSt.says (h : AddSt base w b P A G v xs peer msg o pt wc v1 xs1) : Says 26 #[.pointer (some ⟨w.heap.size, 0, none⟩), .pointer (some ⟨w.heap.size + 1, 0, none⟩)] (own_ peer msg) xs1 wc := by
  refine ⟨enters26, fun x hx w' hb => ?_⟩
  have h2 := h.below hb
  exact add1_calls (h2.buf.ents x hx) h2.cells.2.1 h2.cells.2.2.1
/-- The ones that go. -/
theorem AddSt.goes (h : AddSt base w b P A G v xs peer msg o pt wc v1 xs1) {B : Nat} {A2 : Option Addr} {n2 c2 p2 : Nat} {gone : List Cel} (hr : PRow B wc (.slice A2 n2 c2) (gone.map fun x => gp x.g)) (hBv : ∀ k, v1.ownBlock = some k → k < B) (hbB : base ≤ B) (hg : ∀ x ∈ gone, x ∈ xs1) (hfit : gone.length ≤ 1000000)
    (hp : wc.heap[p2]? = some (.cells #[.slice A2 n2 c2] 61 (0, 0))) : SaysR 30 #[.pointer (some ⟨p2, 0, none⟩)] (fun x => gone.any fun z => z.g == x.g) xs1 (fun k => v1.ownBlock = some k) wc := by
  refine ⟨enters30, fun x hx w' hm => ?_⟩
  have hc : w'.cell? ⟨p2, 0, none⟩ = some (.slice A2 n2 c2) := box_mod hm hp (fun hk => by
    obtain ⟨c, hc⟩ := h.buf.row.blk _ hk
    exact absurd (heap_type hc hp) (by decide)) 0
  have hr2 : PRow B w' (.slice A2 n2 c2) (gone.map fun x => gp x.g) := hr.mod hm (fun k hk hk2 => by
    have h1 := hBv k hk2
    have h2 := Kd.R_base hr k hk
    omega)
  refine (add2_calls (Kd.R_lower hr2 hbB) (fun z hz => h.buf.ent_row hm (hg z hz)) (h.buf.ent_row hm hx) hfit hc).mono ?_
  rintro e w'' ⟨rfl, rfl⟩
  exact ⟨rfl, Below.refl _ _⟩
theorem AddSt.ends (h : AddSt base w b P A G v xs peer msg o pt wc v1 xs1) {y : Cel} (hy : EntAt base wc y) (hyx : ∀ w', Mod (fun k => v1.ownBlock = some k) wc w' → EntAt base w' y) (hp : pt = gp y.g) : SaysR 34 #[.pointer (some ⟨o, 0, none⟩)] (fun x => x.g == y.g) xs1 (fun k => v1.ownBlock = some k) wc := by
  subst hp
  refine ⟨enters34, fun x hx w' hm => ?_⟩
  refine (add4_calls (h.buf.ent_row hm hx) (hyx w' hm) (box_mod hm h.ob h.one 0)).mono ?_
  rintro e w'' ⟨rfl, rfl⟩
  exact ⟨rfl, Below.refl _ _⟩
theorem putPart_mem {y : Cel} {ps : List (List Nat)} {xs : List Cel} (h : y ∈ xs) : (⟨y.g, y.q, ⟨y.e.peer, y.e.msg, y.e.born, ps⟩⟩ : Cel) ∈ xs.map (putPart y.g ps) := List.mem_map.2 ⟨y, h, by unfold putPart; rw [if_pos rfl]⟩
/-- A piece has been put in. -/
theorem AddSt.part (h : AddSt base w b P A G v xs peer msg o pt wc v1 xs1) {y : Cel} (hy : y ∈ xs1) {s : Option Addr × Nat × Nat} {l : List Nat} (hs : PartAt base wc s l) (hsb : ∀ A, s.1 = some A → w.heap.size ≤ A.block) (p : Nat) :
    AddSt base w b P A G v xs peer msg o pt (wc.setCell ⟨y.q, p, none⟩ (.slice s.1 s.2.1 s.2.2)) v1 (xs1.map (putPart y.g (y.e.parts.set p l))) := by
  have hm : Mod (fun k => k = y.q) wc (wc.setCell ⟨y.q, p, none⟩ (.slice s.1 s.2.1 s.2.2)) := Mod.set (S := fun k => k = y.q) wc rfl _
  obtain ⟨c, hc⟩ := (h.buf.ents y hy).qblk
  have hn : ∀ {k t : Nat} {cells : Array Value}, wc.heap[k]? = some (.cells cells t (0, 0)) → t ≠ 22 → ¬ k = y.q := fun hk ht e => by
    rw [e] at hk
    exact ht (heap_type hk hc)
  refine ⟨h.buf.setPart hy hs p, h.mod.then_ hm (fun i hi e => ?_), fun k hk => ?_, hm.block h.pb (hn h.pb (by decide)), hm.block h.mb (hn h.mb (by decide)), hm.block h.ob (hn h.ob (by decide)), h.oge, h.one, fun okp hcl hnew => (h.clr okp hcl hnew).part h.buf hy (fun A hA => hnew _ (hsb A hA)) p l⟩
  · rcases h.foot i (Or.inr (Or.inr ⟨y, hy, Or.inr e.symm⟩)) with h1 | h1
    · exact h1
    · omega
  · rcases hk with hk | hk | ⟨x, hx, hk⟩
    · exact h.foot k (Or.inl hk)
    · exact h.foot k (Or.inr (Or.inl hk))
    · obtain ⟨x0, hx0, rfl⟩ := List.mem_map.1 hx
      rw [putPart_g, putPart_q] at hk
      exact h.foot k (Or.inr (Or.inr ⟨x0, hx0, hk⟩))
theorem AddSt.exit2 (h : AddSt base w b P A G v xs peer msg o pt wc v1 xs1) {R : List Cel × List Nat × Nat} {l : List Nat} {B : Nat} {vo : Value} (hR : R = (xs1, l, 0)) (ho : OwnK .u8 5 B wc vo l) (hB : w.heap.size ≤ B) : AddPostC base b P A G w v xs R (.returned (.tuple #[vo, .int .i64 0])) wc := by
  subst hR
  exact ⟨⟨v1, vo, rfl, ho.lower hB, h.buf, h.mod, h.foot⟩, h.clr⟩
/-- An entry outlives its being let go. -/
theorem AddSt.ent_cut (h : AddSt base w b P A G v xs peer msg o pt wc v1 xs1) {y : Cel} (hy : y ∈ xs1) (hm : Mod (fun k => k = b ∨ v1.ownBlock = some k) wc wd) : EntAt base wd y := by
  have hr : ∀ {k t : Nat} {cells : Array Value}, wc.heap[k]? = some (.cells cells t (0, 0)) → t ≠ 64 → t ≠ 63 → ¬ (k = b ∨ v1.ownBlock = some k) := fun hk ht ht2 e => by
    rcases e with rfl | e
    · exact ht2 (heap_type hk h.buf.box)
    · obtain ⟨c, hc⟩ := h.buf.row.blk _ e
      exact ht (heap_type hk hc)
  obtain ⟨c, hc⟩ := (h.buf.ents y hy).qblk
  obtain ⟨c', hc'⟩ := (h.buf.ents y hy).gblk
  exact (h.buf.ents y hy).mod hm (fun k cells hk => hr hk (by decide) (by decide)) (hr hc' (by decide) (by decide)) (hr hc (by decide) (by decide))
theorem AddSt.size (h : AddSt base w b P A G v xs peer msg o pt wc v1 xs1) : w.heap.size ≤ wc.heap.size := h.mod.size
/-- What a slice that has just been made is as a piece. -/
theorem PartAt.new {B n c : Nat} {l : List Nat} {A2 : Option Addr} (h : OwnK .u8 5 B wc (.slice A2 n c) l) (h0 : 0 < l.length) (hb : BytesOK l) (hB : base ≤ B) : PartAt base wc (A2, n, c) l := Or.inr ⟨h0, hb, h.lower hB⟩
theorem others_few {G now n : Nat} (hx1 : (xs.filter fun x => !old_ G now x) = xs1) (hfew : (xs.filter (mine_ peer)).length < n) (o : Option Nat) : (othersL peer o xs1).length < n := by
  subst hx1
  have h1 : (othersL peer o (xs.filter fun x => !old_ G now x)).length ≤ ((xs.filter fun x => !old_ G now x).filter (mine_ peer)).length := by
    unfold othersL
    have : ∀ l : List Cel, (l.filter fun x => mine_ peer x && neO o x).length ≤ (l.filter (mine_ peer)).length := fun l => by
      induction l with
      | nil => simp
      | cons a l ih =>
        by_cases h1 : mine_ peer a = true
        · rw [List.filter_cons_of_pos (p := mine_ peer) h1, List.length_cons]
          have := List.length_filter_le (fun x => mine_ peer x && neO o x) [a]
          rw [← List.singleton_append, List.filter_append, List.length_append]
          simp only [List.length_singleton] at this
          omega
        · rw [List.filter_cons_of_neg (p := mine_ peer) h1, List.filter_cons_of_neg (by simp [h1])]
          exact ih
    exact this _
  have h2 : ((xs.filter fun x => !old_ G now x).filter (mine_ peer)).length ≤ (xs.filter (mine_ peer)).length := (List.filter_sublist.filter (mine_ peer)).length_le
  omega
theorem gone_ne {n : Nat} {g : Nat} {z : Cel} (h : z ∈ (roomR P A n peer (some g) xs).gone) : z.g ≠ g := by
  have h1 : z ∈ sortL (othersL peer (some g) xs) := List.mem_of_mem_take h
  have h2 := (List.mem_filter.1 (sortL_mem.1 h1)).2
  simp [neO] at h2
  exact h2.2
theorem gone_len {n : Nat} {o : Option Nat} : (roomR P A n peer o xs).gone.length ≤ (othersL peer o xs).length := by
  have h1 : (roomR P A n peer o xs).gone.length ≤ (sortL (othersL peer o xs)).length := List.length_take_le' _ _
  rw [sortL_length] at h1
  exact h1
theorem set_fit {e : Ent} (h : EntOk e) {body : List Nat} (hb : body.length ≤ 1024) (p : Nat) : (e.parts.set p body).flatten.length ≤ 140737488355328 ∧ (e.parts.set p body).length ≤ 1000000 := by
  have h1 := sizeL_le (n := 1024) (ps := e.parts.set p body) (fun l hl => by
    rcases List.mem_or_eq_of_mem_set hl with h1 | rfl
    · exact h.small l h1
    · exact hb)
  have h2 := h.few
  rw [List.length_set] at *
  rw [List.length_flatten]
  unfold sizeL at h1
  omega
theorem AddSt.put_ent (h : AddSt base w b P A G v xs peer msg o pt wc v1 xs1) {x : Cel} (hx : EntAt base wc x) (p2 : Option Addr) : EntAt base (wc.setCell ⟨o, 0, none⟩ (.pointer p2)) x := by
  obtain ⟨c, hc⟩ := hx.gblk
  obtain ⟨c', hc'⟩ := hx.qblk
  refine hx.mod (Mod.set (S := fun k => k = o) wc rfl _) (fun k cells hk e => ?_) (fun e => ?_) (fun e => ?_)
  · rw [e] at hk
    exact absurd (heap_type hk h.ob) (by decide)
  · rw [show x.g = o from e] at hc
    exact absurd (heap_type hc h.ob) (by decide)
  · rw [show x.q = o from e] at hc'
    exact absurd (heap_type hc' h.ob) (by decide)
theorem EntAt.glt {x : Cel} (h : EntAt base w x) : x.g < w.heap.size := by
  obtain ⟨c, hc⟩ := h.gblk
  exact blk_lt hc
theorem EntAt.qlt {x : Cel} (h : EntAt base w x) : x.q < w.heap.size := by
  obtain ⟨c, hc⟩ := h.qblk
  exact blk_lt hc
theorem BufAt.row_lt (h : BufAt base w b P A G v xs) : ∀ k, v.ownBlock = some k → k < w.heap.size := fun k hk => by
  obtain ⟨c, hc⟩ := h.row.blk k hk
  exact blk_lt hc
/-- A new entry is put behind the others. -/
theorem AddSt.snoc (h : AddSt base w b P A G v xs peer msg o pt wc v1 xs1) {x : Cel} {w1 : World} (hx : EntAt base wc x) (hxg : w.heap.size ≤ x.g) (hxq : w.heap.size ≤ x.q) (hg : ∀ y ∈ xs1, y.g ≠ x.g) (hq : ∀ y ∈ xs1, y.q ≠ x.q) (hxn : ∀ l ∈ x.e.parts, l = [])
    (hr : PRow base w1 v2 ((xs1.map fun x => gp x.g) ++ [gp x.g])) (hgr : wc.grownBy w1 v1.ownBlock) (hv : v2.ownBlock = v1.ownBlock ∨ ∃ k, v2.ownBlock = some k ∧ wc.heap.size ≤ k) :
    AddSt base w b P A G v xs peer msg o pt (w1.setCell ⟨b, 3, none⟩ v2) v2 (xs1 ++ [x]) := by
  have hm : Mod (fun k => v1.ownBlock = some k) wc w1 := Mod.grown hgr (fun k hk => hk)
  have hm2 : Mod (fun k => k = b) w1 (w1.setCell ⟨b, 3, none⟩ v2) := Mod.set (S := fun k => k = b) w1 rfl v2
  have hbx := h.buf.box_row hm
  have hmm : Mod (fun k => k = b ∨ v1.ownBlock = some k) wc (w1.setCell ⟨b, 3, none⟩ v2) := (hm.mono (fun _ _ h => Or.inr h)).trans (hm2.mono (fun _ _ h => Or.inl h))
  have hf : ∀ k, (k = b ∨ v1.ownBlock = some k) → Foot_ b v1 xs1 k := fun k hk => by
    rcases hk with rfl | hk
    · exact Or.inl rfl
    · exact Or.inr (Or.inl hk)
  have hsz := h.mod.size
  refine ⟨h.buf.snoc hx hg hq (by simpa using hr) hgr hv, h.mod.then_ hmm (fun i hi hs => ?_), ?_, hmm.block h.pb (fun hk => ?_), hmm.block h.mb (fun hk => ?_), hmm.block h.ob (fun hk => ?_), h.oge, fun hk => ?_, fun okp hcl hnew => ((h.clr okp hcl hnew).snoc (Clear.of_nil hx hxn)).step (fun z hz => ?_)⟩
  · rcases h.foot i (hf i hs) with h1 | h1
    · exact h1
    · omega
  · rintro k (rfl | hk | ⟨y, hy, hk⟩)
    · exact h.foot _ (Or.inl rfl)
    · rcases hv with hv | ⟨j, hj, hjs⟩
      · exact h.foot _ (Or.inr (Or.inl (by rw [← hv]; exact hk)))
      · rw [hj] at hk
        injection hk with hk
        exact Or.inr (by omega)
    · rcases List.mem_append.1 hy with hy | hy
      · exact h.foot _ (Or.inr (Or.inr ⟨y, hy, hk⟩))
      · rw [List.mem_singleton.1 hy] at hk
        exact Or.inr (by omega)
  · exact h.buf.foot_row h.pb (by decide) (by decide) (by decide) (by decide) (hf _ hk)
  · exact h.buf.foot_row h.mb (by decide) (by decide) (by decide) (by decide) (hf _ hk)
  · exact h.buf.foot_box h.ob h.one (hf _ hk)
  · rcases hv with hv | ⟨j, hj, hjs⟩
    · exact h.one (by rw [← hv]; exact hk)
    · have := blk_lt h.ob
      rw [hj] at hk
      injection hk with hk
      omega
  · rcases List.mem_append.1 hz with hz | hz
    · exact hmm.same z.q (h.buf.q_lt hz) (h.buf.q_ne hz)
    · rw [List.mem_singleton.1 hz]
      obtain ⟨c, hc⟩ := hx.qblk
      refine hmm.same x.q (blk_lt hc) ?_
      rintro (e | e)
      · rw [e] at hc
        exact absurd (heap_type hc h.buf.box) (by decide)
      · obtain ⟨c', hc'⟩ := h.buf.row.blk _ e
        exact absurd (heap_type hc hc') (by decide)
theorem addNew_eq {part parts : Int} {body : List Nat} {now g q : Nat} : addNew P A xs peer msg part parts body now g q = if (roomR P A body.length peer none xs).fits = false then (xs, [], 42)
    else endAdd g ((List.replicate parts.toNat []).set part.toNat body) (stay (roomR P A body.length peer none xs).gone xs ++ [⟨g, q, ⟨peer, msg, now, (List.replicate parts.toNat []).set part.toNat body⟩⟩]) := rfl
theorem put_snoc {xs : List Cel} {y : Cel} {ps : List (List Nat)} (h : ∀ z ∈ xs, z.g ≠ y.g) : (xs ++ [y]).map (putPart y.g ps) = xs ++ [⟨y.g, y.q, ⟨y.e.peer, y.e.msg, y.e.born, ps⟩⟩] := by
  rw [List.map_append]
  congr 1
  · rw [show xs.map (putPart y.g ps) = xs.map id from List.map_congr_left (fun z hz => by unfold putPart; rw [if_neg (h z hz)]; rfl), List.map_id]
  · simp [putPart]
/-- A new entry in memory. -/
theorem EntAt.new {base m gx q c now : Nat} {W : World} {peer : ByteArray} {msg : Int} (hb : base ≤ gx) (hbx : W.heap[gx]? = some (.cells #[.string peer, .int .i64 msg, .int .u64 (now : Int), .slice (some ⟨q, 0, none⟩) m c] 67 (0, 0)))
    (hr : SRow base W (.slice (some ⟨q, 0, none⟩) m c) (List.replicate m (none, 0, 0))) : EntAt base W ⟨gx, q, ⟨peer, msg, now, List.replicate m []⟩⟩ := by
  refine ⟨hb, c, List.replicate m (none, 0, 0), ?_, ?_, PartsAt.nils _ _ _⟩
  · dsimp only
    rw [List.length_replicate]
    exact hbx
  · dsimp only
    rw [List.length_replicate]
    exact hr
theorem EntOk.new {peer : ByteArray} {msg : Int} {now m : Nat} (h1 : 1 ≤ m) (h2 : m ≤ 64) (h3 : now < 2 ^ 64) (h4 : 0 ≤ msg) (h5 : msg ≤ 7) : EntOk ⟨peer, msg, now, List.replicate m []⟩ := by
  refine ⟨by simpa using h1, by simpa using h2, fun l hl => ?_, fun l hl => ?_, h3, h4, h5⟩
  · rw [List.eq_of_mem_replicate hl]; simp
  · rw [List.eq_of_mem_replicate hl]; exact BytesOK.nil
theorem SRow.below {B : Nat} {s : Value} {ss : List (Option Addr × Nat × Nat)} (h : SRow B w s ss) (hb : Below w.heap.size w wc) : SRow B wc s ss := Kd.R_below h hb
end Go.Proofs.Ytcmiajnndmaeiaa
