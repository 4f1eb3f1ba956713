/-
  Package send: Due and its closure.
-/
import Derived.Test.YtpdabmbjnmpgbaaSec
import Derived.BigQuiet
import Derived.Deep.QuietTactic
namespace Go.Proofs.Ytpdabmbjnmpgbaa
open Go.Conc Go.RowKit
set_option linter.unusedVariables false

/-- Is the last gram long ago? -/
def lateB (be : Bool) (la now wait : Int) : Bool := !be || (decide (la ≤ now) && decide (wait ≤ now - la))
set_option maxRecDepth 100000 in
set_option maxHeartbeats 1000000 in
theorem due_late (sg qg qc : Nat) (ks : List ByteArray) (ty se ac : Nat) (la : Int) (be ask : Bool) (b3 b4 b5 : Nat) (now wait : Int) (w : World) (h : SS w sg qg qc ks ty se ac la be ask)
    (h3 : w.heap[b3]? = some (.cells #[.pointer (some ⟨sg, 0, none⟩)] 93)) (h4 : w.heap[b4]? = some (.cells #[.int .u64 now] 27)) (h5 : w.heap[b5]? = some (.cells #[.int .u64 wait] 27))
    (hla : 0 ≤ la ∧ la < 18446744073709551616) (hno : 0 ≤ now ∧ now < 18446744073709551616) :
    Calls Try.prog 85 #[.pointer (some ⟨b3, 0, none⟩), .pointer (some ⟨b4, 0, none⟩), .pointer (some ⟨b5, 0, none⟩)] w fun e w' => e = .returned (.bool (lateB be la now wait)) ∧ ∃ m, w' = w.drewN m := by
  obtain ⟨c0, c1, c2, c3, c4, c5, c6, cz, cl⟩ := h.cells
  have d3 := obj_cell h3 0
  have d4 := obj_cell h4 0
  have d5 := obj_cell h5 0
  clear h h3 h4 h5
  cases be
  · have e : lateB false la now wait = true := by simp [lateB]
    rw [e]
    clear e
    go_enter Try.func85, Try.ntmps85
    go_wp2_with fail
    go_quiet (fail)
    go_wp2
    go_ret
    exact ⟨rfl, _, rfl⟩
  · by_cases h1 : la ≤ now
    · have hw : IntKind.u64.wrap (now - la) = now - la := by rw [IntKind.wrap_u64]; omega
      by_cases h2 : wait ≤ now - la
      · have e : lateB true la now wait = true := by simp [lateB, h1, h2]
        rw [e]
        clear e
        go_enter Try.func85, Try.ntmps85
        go_wp2_with fail
        go_quiet (fail)
        go_wp2
        go_ret
        exact ⟨by first | (simp; done) | (simp; omega), _, rfl⟩
      · have e : lateB true la now wait = false := by simp [lateB, h2]
        rw [e]
        clear e
        go_enter Try.func85, Try.ntmps85
        go_wp2_with fail
        go_quiet (fail)
        go_wp2
        go_ret
        exact ⟨by first | (simp; done) | (simp; omega), _, rfl⟩
    · have e : lateB true la now wait = false := by simp [lateB, h1]
      have h1f : decide (la ≤ now) = false := by simpa using h1
      rw [e]
      clear e
      go_enter Try.func85, Try.ntmps85
      go_wp2_with fail
      go_quiet (fail)
      go_wp2
      go_ret
      exact ⟨by first | (simp; done) | (simp; omega), _, rfl⟩
end Go.Proofs.Ytpdabmbjnmpgbaa
