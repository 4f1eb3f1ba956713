/-
  keygram.side, num.Add, the document's Size.
-/
import Derived.Test.YtpdabmbjnmpgbaaSec
namespace Go.Proofs.Ytpdabmbjnmpgbaa
open Go.Conc Go.RowKit
set_option linter.unusedVariables false

def okSide (n : Int) : Bool := decide (1 ≤ n) && decide (n ≤ 512)
theorem side_any (n : Int) (w : World) : Calls Try.prog 84 #[.int .i64 n] w fun e w' => e = .returned (.bool (okSide n)) ∧ w = w' := by
  by_cases h1 : 1 ≤ n
  · by_cases h2 : n ≤ 512
    · have e : okSide n = true := by simp [okSide, h1, h2]
      rw [e]
      clear e
      go_enter Try.func84, Try.ntmps84
      go_wp2
      go_ret
      exact ⟨by simp, rfl⟩
    · have e : okSide n = false := by simp [okSide, h2]
      rw [e]
      clear e
      go_enter Try.func84, Try.ntmps84
      go_wp2
      go_ret
      exact ⟨by simp, rfl⟩
  · have e : okSide n = false := by simp [okSide, h1]
    rw [e]
    clear e
    go_enter Try.func84, Try.ntmps84
    go_wp2
    go_ret
    exact ⟨by simp, rfl⟩
def sat (a b : Int) : Int := if 18446744073709551615 - b < a then 18446744073709551615 else a + b
theorem nadd_one (a : Int) (w : World) (h0 : 0 ≤ a) (h1 : a < 18446744073709551616) : Calls Try.prog 81 #[.int .u64 a, .int .u64 1] w fun e w' => e = .returned (.int .u64 (sat a 1)) ∧ w = w' := by
  have hw : IntKind.u64.wrap (18446744073709551615 - 1) = 18446744073709551614 := by decide
  by_cases h2 : (18446744073709551614 : Int) < a
  · have e : sat a 1 = 18446744073709551615 := by simp [sat]; omega
    rw [e]
    clear e
    go_enter Try.func81, Try.ntmps81
    go_wp2
    go_ret
    exact ⟨rfl, rfl⟩
  · have e : sat a 1 = a + 1 := by simp [sat]; omega
    have hw2 : IntKind.u64.wrap (a + 1) = a + 1 := by rw [IntKind.wrap_u64]; omega
    rw [e]
    clear e
    go_enter Try.func81, Try.ntmps81
    go_wp2
    go_ret
    exact ⟨rfl, rfl⟩
end Go.Proofs.Ytpdabmbjnmpgbaa
