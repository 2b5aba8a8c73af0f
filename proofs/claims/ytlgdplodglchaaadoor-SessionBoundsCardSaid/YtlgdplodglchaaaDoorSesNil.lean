/- A session, a timer that is none. -/
import Derived.Test.YtlgdplodglchaaaDoorGSesG
set_option linter.unusedVariables false
set_option linter.unusedSimpArgs false
namespace Go.Proofs.YtlgdplodglchaaaDoor
open Go.RowKit Go.Proofs.YtlgdplodglchaaaDoorW.PrintWords Go.Proofs.YtlgdplodglchaaaDoorW.PrintLast Go.Proofs.YtlgdplodglchaaaDoorW.PrintMore
section
variable {w : World} {now n : Nat} {A : Option Addr} {a c : Nat}
theorem nseal_calls : Calls Tryd.prog 22 #[.pointer none, .slice A a c, .int .u64 (now : Int)] w fun e w' => e = .returned (.tuple #[.int .u64 0, .slice none 0 0, .int .i64 1]) ∧ w' = w := by
  go_enter Tryd.func22, Tryd.ntmps22
  go_wp2
  go_ret3
  exact ⟨rfl, rfl⟩
theorem nopen_calls : Calls Tryd.prog 24 #[.pointer none, .int .u64 (n : Int), .slice A a c, .int .u64 (now : Int)] w fun e w' => e = .returned (.tuple #[.slice none 0 0, .int .i64 1]) ∧ w' = w := by
  go_enter Tryd.func24, Tryd.ntmps24
  go_wp2
  go_ret2
  exact ⟨rfl, rfl⟩
theorem nsent_calls : Calls Tryd.prog 26 #[.pointer none] w fun e w' => e = .returned (.int .u64 0) ∧ w' = w := by
  go_enter Tryd.func26, Tryd.ntmps26
  go_wp2
  go_ret
  exact ⟨rfl, rfl⟩
set_option maxRecDepth 100000 in
theorem nrekey_calls : Calls Tryd.prog 27 #[.pointer none, .int .u64 (now : Int)] w fun e w' => e = .returned (.bool true) ∧ Below w.heap.size w w' := by
  go_enter Tryd.func27, Tryd.ntmps27
  go_wp2_with fail
  go_quiet (fail)
  go_wp2
  go_ret
  exact ⟨rfl, pw_below_drewN (Below.refl _ _) _⟩
set_option maxRecDepth 100000 in
theorem nexpired_calls : Calls Tryd.prog 29 #[.pointer none, .int .u64 (now : Int)] w fun e w' => e = .returned (.bool true) ∧ Below w.heap.size w w' := by
  go_enter Tryd.func29, Tryd.ntmps29
  go_wp2_with fail
  go_quiet (fail)
  go_wp2
  go_ret
  exact ⟨rfl, pw_below_drewN (Below.refl _ _) _⟩
set_option maxRecDepth 100000 in
theorem ndue_calls : Calls Tryd.prog 18 #[.pointer none, .int .u64 (now : Int)] w fun e w' => e = .returned (.bool false) ∧ Below w.heap.size w w' := by
  go_enter Tryd.func18, Tryd.ntmps18
  go_wp2_with fail
  go_quiet (fail)
  go_wp2
  go_ret
  exact ⟨rfl, pw_below_drewN (Below.refl _ _) _⟩
set_option maxRecDepth 100000 in
theorem nagain_calls : Calls Tryd.prog 20 #[.pointer none, .int .u64 (now : Int)] w fun e w' => e = .returned (.bool false) ∧ Below w.heap.size w w' := by
  go_enter Tryd.func20, Tryd.ntmps20
  go_wp2_with fail
  go_quiet (fail)
  go_wp2
  go_ret
  exact ⟨rfl, pw_below_drewN (Below.refl _ _) _⟩
end
end Go.Proofs.YtlgdplodglchaaaDoor
