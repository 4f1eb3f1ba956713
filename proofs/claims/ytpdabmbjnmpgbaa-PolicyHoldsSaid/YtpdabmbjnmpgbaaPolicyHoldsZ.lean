/-
  The walk of PolicyHolds, of whatever mode.
-/
import Derived.Test.YtpdabmbjnmpgbaaPolicyHoldsX
import Derived.Test.YtpdabmbjnmpgbaaPolicyHoldsY
namespace Go.Proofs.Ytpdabmbjnmpgbaa
open Go.RowKit
set_option linter.unusedVariables false
theorem walk_PolicyHolds (w : World) (mode : Int) (wm : (Lit.int .i64 mode).wf = true) (A : Option Addr) (n c : Nat) (u : Unit) (hA : PActs w A n) (hc : n ≤ c) :
    Calls Try.prog 7 #[.int .i64 mode, .slice A n c] w (PHolds w true) := by
  rcases rem3 mode with h | h | h
  · exact holds_mode0 w mode A n c hA h
  · exact holds_mode1 w mode A n c hA h
  · exact holds_mode2 w mode A n c hA h
end Go.Proofs.Ytpdabmbjnmpgbaa
