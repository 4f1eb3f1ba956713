/-
  The walk of RttSamples: the estimate and the document's go side by side.
-/
import Derived.Test.YtpdabmbjnmpgbaaRtu
import Derived.Deep.RegionHeld3
namespace Go.Proofs.Ytpdabmbjnmpgbaa
open Go.RowKit
set_option linter.unusedVariables false

/-- The document's estimate, as a value. -/
def RefV (t s : Int) (k : Bool) : Value := .agg #[.int .i64 t, .int .i64 s, .bool k]

set_option maxHeartbeats 400000 in
theorem refwait_any (t s : Int) (k : Bool) (w : World) (ho : EstOk t s k) :
    Calls Try.prog 79 #[.agg #[.int .i64 t, .int .i64 s, .bool k]] w fun e w' => e = .returned (.int .i64 (waitS t s k)) ∧ Kept [] w w' := by
  obtain ⟨q1, q2, q3, q4, q5⟩ := ho
  clear q5
  rcases Int.lt_or_le s 1 with h1 | h1 <;> cases k
  all_goals
    go_enter Try.func79, Try.ntmps79
    go_wp2
    all_goals
      go_ret
      exact ⟨ret_int (by unfold waitS; simp only [if_true, Bool.false_eq_true, if_false]; try omega), by repeat (first | exact Kept.refl _ _ | apply Kept.drew | apply Kept.alloc)⟩

theorem refv_eq {a b a' b' : Int} (h : a = a' ∧ b = b') : Value.agg #[.int .i64 a, .int .i64 b, .bool true] = RefV a' b' true := by
  obtain ⟨rfl, rfl⟩ := h; rfl
theorem clamp_cases (n : Int) : n < 0 ∧ clampS n = 0 ∨ 100000 < n ∧ clampS n = 100000 ∨ 0 ≤ n ∧ n ≤ 100000 ∧ clampS n = n := by unfold clampS; (repeat' split) <;> omega

set_option maxHeartbeats 1000000 in
theorem refsample_no (n : Int) (w : World) :
    Calls Try.prog 33 #[.agg #[.int .i64 0, .int .i64 0, .bool false], .int .i64 n] w fun e w' => e = .returned (RefV (8 * clampS n) (2 * clampS n) true) ∧ Kept [] w w' := by
  rcases clamp_cases n with ⟨h1, h2⟩ | ⟨h1, h2⟩ | ⟨h1, h2, h3⟩
  all_goals
    go_enter Try.func33, Try.ntmps33
    go_wp2
    refine bodyPost_ret (v := RefV (8 * clampS n) (2 * clampS n) true) ?_ rfl ⟨rfl, by repeat (first | exact Kept.refl _ _ | apply Kept.drew | apply Kept.alloc)⟩
    simp [results, Try.results33, go_sem]
    refine refv_eq ?_
    omega

set_option maxHeartbeats 1000000 in
theorem refsample_yes (n t s : Int) (w : World) (q1 : 0 ≤ t) (q2 : t ≤ 800007) (q3 : 0 ≤ s) (q4 : s ≤ 400000) :
    Calls Try.prog 33 #[.agg #[.int .i64 t, .int .i64 s, .bool true], .int .i64 n] w fun e w' => e = .returned (RefV (t + (clampS n - t / 8)) (s + (absI (clampS n - t / 8) - s / 4)) true) ∧ Kept [] w w' := by
  rcases clamp_cases n with ⟨h1, h2⟩ | ⟨h1, h2⟩ | ⟨h1, h2, h3⟩
  · rcases Int.lt_or_le (0 - t / 8) 0 with h4 | h4
    all_goals
      go_enter Try.func33, Try.ntmps33
      go_wp2
      refine bodyPost_ret (v := RefV (t + (clampS n - t / 8)) (s + (absI (clampS n - t / 8) - s / 4)) true) ?_ rfl ⟨rfl, by repeat (first | exact Kept.refl _ _ | apply Kept.drew | apply Kept.alloc)⟩
      simp [results, Try.results33, go_sem]
      refine refv_eq ?_
      unfold absI
      split <;> omega
  · have h4 : 0 ≤ 100000 - t / 8 := by omega
    go_enter Try.func33, Try.ntmps33
    go_wp2
    refine bodyPost_ret (v := RefV (t + (clampS n - t / 8)) (s + (absI (clampS n - t / 8) - s / 4)) true) ?_ rfl ⟨rfl, by repeat (first | exact Kept.refl _ _ | apply Kept.drew | apply Kept.alloc)⟩
    simp [results, Try.results33, go_sem]
    refine refv_eq ?_
    unfold absI
    split <;> omega
  · rcases Int.lt_or_le (n - t / 8) 0 with h4 | h4
    all_goals
      go_enter Try.func33, Try.ntmps33
      go_wp2
      refine bodyPost_ret (v := RefV (t + (clampS n - t / 8)) (s + (absI (clampS n - t / 8) - s / 4)) true) ?_ rfl ⟨rfl, by repeat (first | exact Kept.refl _ _ | apply Kept.drew | apply Kept.alloc)⟩
      simp [results, Try.results33, go_sem]
      refine refv_eq ?_
      unfold absI
      split <;> omega

theorem refsample_any (n t s : Int) (k : Bool) (w : World) (ho : EstOk t s k) :
    Calls Try.prog 33 #[.agg #[.int .i64 t, .int .i64 s, .bool k], .int .i64 n] w fun e w' => e = .returned (RefV (smpT t k n) (smpS t s k n) true) ∧ Kept [] w w' := by
  obtain ⟨q1, q2, q3, q4, q5⟩ := ho
  cases k
  · obtain ⟨rfl, rfl⟩ := q5 rfl
    exact refsample_no n w
  · exact refsample_yes n t s w q1 q2 q3 q4

theorem estcopy_any (t s : Int) (k : Bool) (g : Nat) (w : World) (h : w.heap[g]? = some (EstO t s k)) :
    Calls Try.prog 32 #[.pointer (some ⟨g, 0, none⟩)] w (Made w (EstO t s k)) := by
  obtain ⟨h0, h1, h2, hz⟩ := est_cells h
  clear h
  go_enter Try.func32, Try.ntmps32
  go_wp2
  go_ret
  exact ⟨rfl, obj_new w _, (Kept.refl [] w).alloc _⟩
end Go.Proofs.Ytpdabmbjnmpgbaa
