/- The walk through redanlaw01.awake. -/
import Derived.Test.YtgmaahpnpjfghaaRef01
set_option linter.unusedVariables false
set_option linter.unusedSimpArgs false
namespace Go.Proofs.Ytgmaahpnpjfghaa
open Go.RowKit Go.Proofs.YtgmaahpnpjfghaaW.PrintWords Go.Proofs.YtgmaahpnpjfghaaW.PrintLast Go.Proofs.YtgmaahpnpjfghaaW.PrintMore

theorem lit_ok (l : List Nat) (h : (l.all fun x => decide (x < 256)) = true) : BytesOK l := fun x hx => by
  have := List.all_eq_true.1 h x hx
  simpa using this

set_option maxHeartbeats 1000000 in
set_option maxRecDepth 100000 in
theorem awake_calls (w : World) : Calls Try.prog 9 #[] w fun e w' => e = .returned (.bool true) ∧ Below w.heap.size w w' := by
  go_enter Try.func9, Try.ntmps9
  go_wp2_with fail
  refine (load_calls (Bytes.new [1, 2, 0, 0] rfl rfl rfl (by decide) rfl)).mono ?_
  rintro e w1 ⟨rfl, rfl⟩
  rw [show loadN (List.take 8 [1, 2, 0, 0]) = 513 from rfl]
  go_wp2_with fail
  refine (store_calls 513 3 _ rfl (by decide)).mono ?_
  rintro e w2 ⟨v2, rfl, ho2, hb2⟩
  replace hb2 := below_seq (below_alloc (Below.refl _ _) _) hb2
  rw [show storeN 513 (min (Int.toNat 3) 8) = [1, 2, 0] from rfl] at ho2
  obtain ⟨A2, c2, rfl, hr2⟩ := ho2.bytes 3 rfl (storeN_ok 3 513)
  have s2 := hr2.str (P := Try.prog) Try.underlying22 Try.underlying5 Try.underlying9
  have q2 := str_lit (l := [1, 2, 0]) (m := [1, 2, 0]) rfl
  clear ho2 hr2
  go_wp2_with fail
  clear s2 q2
  have b3 := Bytes.two (W := w2) (t := 5) (t' := 5) [5, 6, 7] [1, 1] rfl rfl rfl rfl (by decide) (by decide) rfl rfl
  refine (xor_calls b3.1 b3.2 (by decide)).mono ?_
  rintro e w3 ⟨v3, rfl, ho3, hb3⟩
  clear b3
  replace hb3 := below_seq (below_alloc (below_alloc hb2 _) _) hb3
  rw [show xorL [5, 6, 7] [1, 1] = [4, 7] from rfl] at ho3
  obtain ⟨A3, c3, rfl, hr3⟩ := ho3.bytes 2 rfl (lit_ok _ rfl)
  have s3 := hr3.str (P := Try.prog) Try.underlying22 Try.underlying5 Try.underlying9
  have q3 := str_lit (l := [4, 7]) (m := [4, 7]) rfl
  clear ho3 hr3 hb2
  go_wp2_with fail
  clear s3 q3
  have b4 := Bytes.two (W := w3) (t := 5) (t' := 5) [1] [1] rfl rfl rfl rfl (by decide) (by decide) rfl rfl
  refine (equal_calls b4.1 b4.2 (by decide)).mono ?_
  rintro e w4 ⟨rfl, hb4⟩
  clear b4
  replace hb4 := below_seq (below_alloc (below_alloc hb3 _) _) hb4
  rw [show (([1] : List Nat) == [1]) = true from rfl]
  clear hb3
  go_wp2_with fail
  have b5 := Bytes.two (W := w4) (t := 5) (t' := 5) [1] [2] rfl rfl rfl rfl (by decide) (by decide) rfl rfl
  refine (equal_calls b5.1 b5.2 (by decide)).mono ?_
  rintro e w5 ⟨rfl, hb5⟩
  clear b5
  replace hb5 := below_seq (below_alloc (below_alloc hb4 _) _) hb5
  rw [show (([1] : List Nat) == [2]) = false from rfl]
  clear hb4
  go_wp2_with fail
  refine (zero_calls (Bytes.nil w5 none 0)).mono ?_
  rintro e w6 ⟨rfl, rfl⟩
  rw [show (gatherL [] == 0) = true from rfl]
  go_wp2_with fail
  have b7 := Bytes.two (W := w5) (t := 5) (t' := 5) [1] [2] rfl rfl rfl rfl (by decide) (by decide) rfl rfl
  refine (select_some 255 (Or.inr ⟨rfl, rfl⟩) b7.1 b7.2 rfl (by decide)).mono ?_
  rintro e w7 ⟨v7, rfl, ho7, hb7⟩
  clear b7
  replace hb7 := below_seq (below_alloc (below_alloc hb5 _) _) hb7
  rw [show selL 255 [1] [2] = [2] from rfl] at ho7
  obtain ⟨A7, c7, rfl, hr7⟩ := ho7.bytes 1 rfl (lit_ok _ rfl)
  have s7 := hr7.str (P := Try.prog) Try.underlying22 Try.underlying5 Try.underlying9
  have q7 := str_lit (l := [2]) (m := [2]) rfl
  clear ho7 hr7 hb5
  go_wp2_with fail
  clear s7 q7
  have b8 := Bytes.two (W := w7) (t := 5) (t' := 5) [1] [2] rfl rfl rfl rfl (by decide) (by decide) rfl rfl
  have b9 := Rows2.new (t := 22) (g := w7.heap.size + 1 + 1) (vs := [.slice (some ⟨w7.heap.size, 0, none⟩) 1 1, .slice none 0 0, .slice (some ⟨w7.heap.size + 1, 0, none⟩) 1 1]) (L := [[1], [], [2]]) ⟨⟨_, _, _, rfl, b8.1⟩, ⟨_, _, _, rfl, Bytes.nil _ _ _⟩, ⟨_, _, _, rfl, b8.2⟩, trivial⟩ rfl (by simp) (by decide)
  clear b8
  refine (join_calls b9 rfl (by decide) (by decide)).mono ?_
  rintro e w9 ⟨v9, rfl, ho9, hb9⟩
  clear b9
  replace hb9 := below_seq (below_alloc (below_alloc (below_alloc hb7 _) _) _) hb9
  rw [show List.flatten [[1], [], [2]] = [1, 2] from rfl] at ho9
  obtain ⟨A9, c9, rfl, hr9⟩ := ho9.bytes 2 rfl (lit_ok _ rfl)
  have s9 := hr9.str (P := Try.prog) Try.underlying22 Try.underlying5 Try.underlying9
  have q9 := str_lit (l := [1, 2]) (m := [1, 2]) rfl
  clear ho9 hr9 hb7
  go_wp2_with fail
  go_ret
  exact ⟨by simp, hb9⟩
end Go.Proofs.Ytgmaahpnpjfghaa
