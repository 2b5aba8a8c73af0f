/- The walk through chacha.put. -/
import Derived.Test.YtlgdplodglchaaaDoorProg
import Derived.Test.YtlgdplodglchaaaDoorGWords
import Derived.Test.YtlgdplodglchaaaDoorGLib
import Derived.Test.YtlgdplodglchaaaDoorGPlain
set_option linter.unusedVariables false
set_option linter.unusedSimpArgs false
namespace Go.Proofs.YtlgdplodglchaaaDoor
open Go.RowKit Go.Proofs.YtlgdplodglchaaaDoorW.PrintWords Go.Proofs.YtlgdplodglchaaaDoorW.PrintLast Go.Proofs.YtlgdplodglchaaaDoorW.PrintMore

/-- The array behind k rounds of put. -/
def putL (l : List Nat) (off : Nat) (b : List Nat) : Nat → List Nat
  | 0 => l
  | k + 1 => (putL l off b k).set (off + k) (loadN ((b.drop (4 * k)).take 4))
theorem putL_length (l : List Nat) (off : Nat) (b : List Nat) (k : Nat) : (putL l off b k).length = l.length := by
  induction k with
  | zero => rfl
  | succ k ih => rw [putL, List.length_set, ih]

set_option maxHeartbeats 1000000 in
set_option maxRecDepth 100000 in
theorem put_calls {T g off n cap m c : Nat} {A : Option Addr} {l b : List Nat} {w0 w : World} (ha : Arr .u32 T g w l) (hl : off + n ≤ l.length) (hs : l.length ≤ 1000) (hb : Bytes w0 A m c b) (h0 : Below w0.heap.size w0 w) (hg : w0.heap.size ≤ g) (hm : 4 * n ≤ m) :
    Calls Tryd.prog 113 #[.slice (some ⟨g, off, none⟩) n cap, .slice A m c] w fun e w' => e = .returned (.tuple #[]) ∧ Arr .u32 T g w' (putL l off b n) ∧ Only g w w' := by
  have HB := hd hb
  have hmc : m ≤ c := hb.2.2.1
  clear hb
  have HA := hd ha
  clear ha
  have H0 := hd h0
  clear h0
  go_enter Tryd.func113, Tryd.ntmps113
  go_wp2
  go_loopw [7] (fun i wr => ∃ k : Nat, k ≤ n ∧ i = .int .i64 k ∧ Arr .u32 T g wr (putL l off b k) ∧ Only g w wr) (fun i _ => n - (intOf i).toNat)
  case atStart => exact ⟨0, Nat.zero_le _, rfl, HA.out, Only.refl _ _⟩
  case round =>
    obtain ⟨k, hk, rfl, ha, ho⟩ := hrel
    have HO := hd ho
    have HA2 := hd ha
    clear ho ha
    by_cases hlt : k < n
    · have hbr := HB.out.below (HO.out.from H0.out hg)
      obtain ⟨ad, y, rfl, _, _⟩ := hbr.1.at_ (4 * k) (by rw [hbr.2.1]; omega)
      have hmid := hd (hbr.mid (4 * k) 4 (by omega) (by omega))
      obtain ⟨x, _, hcell, hfr⟩ := HA2.out.cell (off + k) (by rw [putL_length]; omega)
      clear hbr
      have i1 : (4 : Int) * (k : Int) + 4 ≤ c := by omega
      go_wp2_with fail
      refine (load_calls hmid.out).mono ?_
      rintro e w' ⟨rfl, rfl⟩
      have hv : loadN (List.take 8 (List.take 4 (List.drop (4 * k) b))) = loadN ((b.drop (4 * k)).take 4) := by rw [List.take_take]; rfl
      rw [hv]
      obtain ⟨v, HV⟩ : ∃ v, Aside0 (loadN ((b.drop (4 * k)).take 4) = v) := ⟨_, ⟨rfl⟩⟩
      have hv2 : v < 4294967296 := by
        have h1 := words4_ok HB.out.ok (k + 1) v (by rw [words4_succ, HV.out]; simp)
        exact h1
      rw [HV.out]
      have hput := hd (HA2.out.set (off + k) v)
      clear hv
      go_wp2
      go_roundw
      case rel => exact ⟨k + 1, by omega, by go_num, by rw [putL, HV.out]; exact hput.out, HO.out.set _ _⟩
      case measure => simp [intOf]; omega
    · go_wp2
      obtain rfl : k = n := by omega
      go_end0
      exact ⟨rfl, HA2.out, HO.out⟩
end Go.Proofs.YtlgdplodglchaaaDoor
