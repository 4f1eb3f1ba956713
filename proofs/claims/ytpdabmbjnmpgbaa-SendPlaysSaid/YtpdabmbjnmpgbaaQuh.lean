/-
  same, the chapter's example of package queue, and the walk of QueueNil.
-/
import Derived.Test.YtpdabmbjnmpgbaaQug
import Derived.BigQuiet
import Derived.Deep.QuietTactic
namespace Go.Proofs.Ytpdabmbjnmpgbaa
open Go.Conc Go.RowKit
set_option linter.unusedVariables false

/-- What a part of a law answers: it holds, and what was there is as it was. -/
def QHolds (S : List Nat) (w : World) (b : Bool) (e : Ending) (w' : World) : Prop := e = .returned (.bool b) ∧ Kept S w w'

set_option maxHeartbeats 1000000 in
theorem same_yes (A B : Option Addr) (ca cb : Nat) (xs : List Int) (w : World) (ha : RdI w A xs) (hb : RdI w B xs) (hl : xs.length ≤ 256) :
    Calls Try.prog 45 #[.slice A xs.length ca, .slice B xs.length cb] w (QHolds [] w true) := by
  have HA := hide ha
  have HB := hide hb
  have hne : ((xs.length : Int) != (xs.length : Int)) = false := by simp
  clear ha hb hne
  go_enter Try.func45, Try.ntmps45
  go_wp2_with fail
  go_loopw [5] (fun i wr => ∃ k : Nat, k ≤ xs.length ∧ i = .int .i64 k ∧ Kept [] w wr) (fun i _ => xs.length - (intOf i).toNat)
  case atStart => exact ⟨0, Nat.zero_le _, rfl, Kept.refl _ _⟩
  case round =>
    obtain ⟨k, hk, rfl, hkw⟩ := hrel
    by_cases hlt2 : k < xs.length
    · obtain ⟨b1, o1, rfl, hb1, hc1⟩ := (unhide HA).kept hkw (by simp) k hlt2
      obtain ⟨b2, o2, rfl, hb2, hc2⟩ := (unhide HB).kept hkw (by simp) k hlt2
      have g1 := hc1 k hlt2
      have g2 := hc2 k hlt2
      have HK := hide hkw
      clear hc1 hc2 hkw
      generalize xs.getD k 0 = x at *
      have hk0 : (0 : Int) ≤ (k : Int) := by omega
      have hk1 : (k : Int) < (xs.length : Int) := by omega
      go_wp2_with fail
      go_quiet (fail)
      go_wp2
      go_roundw
      case rel => exact ⟨k + 1, by omega, by go_num, (unhide HK).drewN _⟩
      case measure => simp [intOf]; omega
    · go_wp2
      go_ret
      exact ⟨rfl, hkw⟩

theorem same_n (A B : Option Addr) (n ca cb : Nat) (xs : List Int) (w : World) (ha : RdI w A xs) (hb : RdI w B xs) (hn : xs.length = n) (hl : n ≤ 256) :
    Calls Try.prog 45 #[.slice A n ca, .slice B n cb] w (QHolds [] w true) := by
  subst hn
  exact same_yes A B ca cb xs w ha hb hl
theorem rdI_new (w : World) (xs : List Int) (t : TypeId) : RdI (w.alloc (.cells (xs.map (Value.int .i64)).toArray t)) (some ⟨w.heap.size, 0, none⟩) xs := fun i hi =>
  ⟨w.heap.size, 0, rfl, by simp, fun j hj => by
    rw [obj_cell (obj_new w _) (0 + j)]
    simp [List.getD_eq_getElem?_getD, List.getElem?_eq_getElem hj]⟩
set_option maxRecDepth 100000 in
set_option maxHeartbeats 2000000 in
theorem known15 (w : World) : Calls Try.prog 30 #[] w (QHolds [] w true) := by
  go_enter Try.func30, Try.ntmps30
  go_wp2_with fail
  refine (newI_yes 2 _ (by omega) (by omega)).mono ?_
  rintro e w1 ⟨rfl, hq, hk⟩
  have Q1 := hide hq
  have K1 := hide hk
  clear hq hk
  go_wp2_with fail
  refine (putI_yes _ _ _ 1 _ _ (unhide Q1) (by simp)).mono ?_
  rintro e w2 ⟨rfl, hq, hk⟩
  have Q2 := hide hq
  have K2 := hide ((unhide K1).trans hk (by intro i hi hm; simp at hm; omega))
  clear hq hk
  go_wp2_with fail
  refine (putI_yes _ _ _ 2 _ _ (unhide Q2) (by simp)).mono ?_
  rintro e w3 ⟨rfl, hq, hk⟩
  have Q3 := hide hq
  have K3 := hide ((unhide K2).trans hk (by intro i hi hm; simp at hm; omega))
  clear hq hk
  go_wp2_with fail
  refine (putI_no _ _ _ 3 _ _ (unhide Q3) (by simp)).mono ?_
  rintro e w' ⟨rfl, rfl⟩
  go_wp2_with fail
  refine (takeI_yes _ _ _ 1 [2] _ (unhide Q3)).mono ?_
  rintro e w4 ⟨rfl, hq, hk⟩
  have Q4 := hide hq
  have K4 := hide ((unhide K3).trans hk (by intro i hi hm; simp at hm; omega))
  clear hq hk
  go_wp2_with fail
  refine (putI_yes _ _ _ 3 _ _ (unhide Q4) (by simp)).mono ?_
  rintro e w5 ⟨rfl, hq, hk⟩
  have Q5 := hide hq
  have K5 := hide ((unhide K4).trans hk (by intro i hi hm; simp at hm; omega))
  clear hq hk
  go_wp2_with fail
  refine (allI_any _ _ _ _ _ (unhide Q5) (by simp) (by simp)).mono ?_
  rintro e w6 ⟨v, rfl, hown, hq, hk⟩
  obtain ⟨A, cp, rfl, hcp, hrd, hA⟩ := rdI_own hown
  have K6 := hide ((unhide K5).trans hk (by intro i hi hm; simp at hm; omega))
  have HR := hide hrd
  clear hown hq hk hcp hrd hA
  go_wp2_with fail
  refine (same_n _ _ 2 _ _ [2, 3] _ ((unhide HR).kept ((Kept.refl [] w6).alloc _) (by simp)) (rdI_new w6 [2, 3] 3) (by rfl) (by omega)).mono ?_
  rintro e w7 ⟨rfl, hk7⟩
  go_wp2
  go_ret
  exact ⟨rfl, ((unhide K6).alloc _).trans hk7 (by simp)⟩

theorem pour_nil (w : World) : Calls Try.prog 43 #[.pointer none, .pointer none] w fun e w' => e = .returned (.int .i64 0) ∧ w = w' := by
  go_enter Try.func43, Try.ntmps43
  go_wp2_with fail
  go_step3
  go_wp2
  try rw [Exit.noGoto_ret]
  go_ret
  exact ⟨rfl, rfl⟩
theorem dropI_nil (n : Int) (w : World) : Calls Try.prog 57 #[.pointer none, .int .i64 n] w fun e w' => e = .returned (.int .i64 0) ∧ w = w' := by
  rcases Int.lt_or_le 0 n with hn | hn
  all_goals
    go_enter Try.func57, Try.ntmps57
    go_wp2_with fail
    go_step3
    go_wp2_with fail
    go_step3
    go_wp2_with fail
    refine (lenI_nil w).mono ?_
    rintro e w' ⟨rfl, rfl⟩
    go_wp2_with fail
    refine wp_loop_rounds 1 ?_
    rw [rounds_succ]
    go_wp2
    try rw [Exit.noGoto_ret]
    go_ret
    exact ⟨rfl, rfl⟩

set_option maxRecDepth 100000 in
set_option maxHeartbeats 1000000 in
theorem walk_QueueNil (w : World) (n : Int) (wn : (Lit.int .i64 n).wf = true) : Calls Try.prog 12 #[.int .i64 n] w (QHolds [] w true) := by
  go_enter Try.func12, Try.ntmps12
  go_wp2_with (go_at_call 55; refine (takeI_nil _).mono ?_; rintro e w' ⟨rfl, rfl⟩)
  refine (known15 _).mono ?_
  rintro e w1 ⟨rfl, hk1⟩
  have HK := hide hk1
  clear hk1
  go_wp2_with (first
    | (go_at_call 41; refine (putI_nil _ _).mono ?_; rintro e w' ⟨rfl, rfl⟩)
    | (go_at_call 42; refine (allI_nil _).mono ?_; rintro e w' ⟨rfl, rfl⟩)
    | (go_at_call 57; refine (dropI_nil _ _).mono ?_; rintro e w' ⟨rfl, rfl⟩)
    | (go_at_call 46; refine (lenI_nil _).mono ?_; rintro e w' ⟨rfl, rfl⟩)
    | (go_at_call 44; refine (roomI_nil _).mono ?_; rintro e w' ⟨rfl, rfl⟩)
    | (go_at_call 58; refine (qcopyI_nil _).mono ?_; rintro e w' ⟨rfl, rfl⟩)
    | (go_at_call 43; refine (pour_nil _).mono ?_; rintro e w' ⟨rfl, rfl⟩))
  go_ret
  exact ⟨rfl, unhide HK⟩
end Go.Proofs.Ytpdabmbjnmpgbaa
