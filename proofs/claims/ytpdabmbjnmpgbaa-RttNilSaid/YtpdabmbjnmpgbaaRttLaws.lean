/-
  The walks of the laws of rtt: each returns true, and leaves what was there as it was.
-/
import Derived.Test.YtpdabmbjnmpgbaaRtu
namespace Go.Proofs.Ytpdabmbjnmpgbaa
open Go.RowKit
set_option linter.unusedVariables false

theorem copy_nil (w : World) : Calls Try.prog 32 #[.pointer none] w fun e w' => e = .returned (.pointer none) ∧ w = w' := by
  go_enter Try.func32, Try.ntmps32
  go_wp2
  go_ret
  exact ⟨rfl, rfl⟩

set_option maxHeartbeats 400000 in
theorem walk_RttNil (n : Int) (wn : (Lit.int .i64 n).wf = true) (w : World) : Calls Try.prog 6 #[.int .i64 n] w (Holds w true) := by
  go_enter Try.func6, Try.ntmps6
  go_wp2_with (go_at_call 24; refine (sample_nil _ _).mono ?_; rintro e w' ⟨rfl, rfl⟩)
  go_wp2_with (go_at_call 18; refine (known16 _).mono ?_; rintro e w1 ⟨rfl, hk1⟩)
  have HK := hide hk1
  clear hk1
  go_wp2_with (first
    | (go_at_call 21; refine (known_nil _).mono ?_; rintro e w' ⟨rfl, rfl⟩)
    | (go_at_call 22; refine (time_nil _).mono ?_; rintro e w' ⟨rfl, rfl⟩)
    | (go_at_call 23; refine (spread_nil _).mono ?_; rintro e w' ⟨rfl, rfl⟩)
    | (go_at_call 20; refine (wait_nil _).mono ?_; rintro e w' ⟨rfl, rfl⟩)
    | (go_at_call 32; refine (copy_nil _).mono ?_; rintro e w' ⟨rfl, rfl⟩))
  go_ret
  exact ⟨rfl, unhide HK⟩
end Go.Proofs.Ytpdabmbjnmpgbaa
