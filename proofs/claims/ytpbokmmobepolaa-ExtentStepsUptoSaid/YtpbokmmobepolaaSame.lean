/-
  Whether two rows of bytes are the same.
-/
import Derived.Test.YtpbokmmobepolaaGen
namespace Go.Proofs.Ytpbokmmobepolaa
open Go.RowKit
set_option linter.unusedVariables false

theorem c_Same (a0 a1 : Option Addr) (n0 n1 c0 c1 : Nat) (l0 l1 : List Int) (w : World) (e0 : n0 = l0.length) (e1 : n1 = l1.length)
    (h0 : Reads w a0 c0 (l0.map (Value.int .u8))) (h1 : Reads w a1 c1 (l1.map (Value.int .u8))) (b0 : Byt l0) (b1 : Byt l1) :
    Calls Try.prog 14 #[.slice a0 n0 c0, .slice a1 n1 c1] w fun e w' => e = .returned (.bool (decide (l0 = l1))) ∧ w = w' := by
  have k0 := run_str (P := Try.prog) w 27 9 5 a0 n0 c0 l0 Try.underlying27 Try.underlying5 Try.underlying9 e0 h0
  have k1 := run_str (P := Try.prog) w 27 9 5 a1 n1 c1 l1 Try.underlying27 Try.underlying5 Try.underlying9 e1 h1
  have k2 := str_eq b0 b1
  rw [← k2]
  clear k2 b0 b1 h0 h1 e0 e1
  go_enter Try.func14, Try.ntmps14
  go_wp2
  go_ret
  exact ⟨rfl, rfl⟩

end Go.Proofs.Ytpbokmmobepolaa
