/-
  policy.New, the chapter's example, and the walk of PolicyNil.
-/
import Derived.Test.YtpdabmbjnmpgbaaPom
namespace Go.Proofs.Ytpdabmbjnmpgbaa
open Go.RowKit
set_option linter.unusedVariables false

theorem kept_next {S : List Nat} {a b c : World} (h : Kept [] a b) (k : Kept S b c) (hs : ∀ i ∈ S, a.heap.size ≤ i) : Kept [] a c := h.trans k (by intro i hi hm; have := hs i hm; omega)
theorem pnew_yes (n : Int) (w : World) (hn : n = 0 ∨ n = 1 ∨ n = 2) :
    Calls Try.prog 34 #[.int .i64 n] w fun e w' => e = .returned (.tuple #[.pointer (some ⟨w.heap.size, 0, none⟩), .int .i64 0]) ∧ w'.heap[w.heap.size]? = some (PolO (setS n false) false n) ∧ Kept [] w w' := by
  have h1 := obj_new w (PolO false false 0)
  have H1 := hide h1
  have HN := hide hn
  clear h1 hn
  go_enter Try.func34, Try.ntmps34
  go_wp2_with fail
  refine (pset_yes n false false 0 _ _ (unhide H1) (unhide HN)).mono ?_
  rintro e w1 ⟨rfl, ho, hk⟩
  have HO := hide ho
  have HK := hide hk
  clear ho hk
  go_wp2
  go_ret2
  refine ⟨rfl, ?_, kept_next ((Kept.refl [] w).alloc _) (unhide HK) (by simp)⟩
  have := unhide HO
  rwa [show setM n false = false from by unfold setM; split <;> rfl] at this
theorem pnew_no (n : Int) (w : World) (hn : n < 0 ∨ 2 < n) :
    Calls Try.prog 34 #[.int .i64 n] w fun e w' => e = .returned (.tuple #[.pointer none, .int .i64 1]) ∧ Kept [] w w' := by
  have HN := hide hn
  clear hn
  go_enter Try.func34, Try.ntmps34
  go_wp2_with fail
  refine (pset_no n _ _ (unhide HN)).mono ?_
  rintro e w1 ⟨rfl, rfl⟩
  go_wp2
  go_ret2
  exact ⟨rfl, (Kept.refl [] w).alloc _⟩

/-- What a law's part answers: it holds, and nothing that was there has turned. -/
def PHolds (w : World) (b : Bool) (e : Ending) (w' : World) : Prop := e = .returned (.bool b) ∧ Kept [] w w'

set_option maxHeartbeats 1000000 in
theorem known26 (w : World) : Calls Try.prog 38 #[] w (PHolds w true) := by
  go_enter Try.func38, Try.ntmps38
  go_wp2_with fail
  refine (pnew_yes 2 _ (by omega)).mono ?_
  rintro e w1 ⟨rfl, ho1, hk1⟩
  have O1 := hide ho1
  have K1 := hide hk1
  clear ho1 hk1
  go_wp2_with (go_at_call 35; refine (shows_any _ _ _ _ _ (unhide O1)).mono ?_; rintro e w' ⟨rfl, rfl⟩)
  refine (renew_any _ _ _ 31 true false _ _ (unhide O1) (by omega)).mono ?_
  rintro e w2 ⟨rfl, ho2, hk2⟩
  have O2 := hide ho2
  have K2 := hide (kept_next (unhide K1) hk2 (by simp))
  clear ho2 hk2
  go_wp2_with (go_at_call 35; refine (shows_any _ _ _ _ _ (unhide O2)).mono ?_; rintro e w' ⟨rfl, rfl⟩)
  refine (renew_any _ _ _ 25 true false _ _ (unhide O2) (by omega)).mono ?_
  rintro e w3 ⟨rfl, ho3, hk3⟩
  have O3 := hide ho3
  have K3 := hide (kept_next (unhide K2) hk3 (by simp))
  clear ho3 hk3
  go_wp2_with (go_at_call 35; refine (shows_any _ _ _ _ _ (unhide O3)).mono ?_; rintro e w' ⟨rfl, rfl⟩)
  refine (renew_any _ _ _ 20 true true _ _ (unhide O3) (by omega)).mono ?_
  rintro e w4 ⟨rfl, ho4, hk4⟩
  have O4 := hide ho4
  have K4 := hide (kept_next (unhide K3) hk4 (by simp))
  clear ho4 hk4
  go_wp2_with (go_at_call 35; refine (shows_any _ _ _ _ _ (unhide O4)).mono ?_; rintro e w' ⟨rfl, rfl⟩)
  refine (renew_any _ _ _ 20 true false _ _ (unhide O4) (by omega)).mono ?_
  rintro e w5 ⟨rfl, ho5, hk5⟩
  have O5 := hide ho5
  have K5 := hide (kept_next (unhide K4) hk5 (by simp))
  clear ho5 hk5
  go_wp2_with (go_at_call 35; refine (shows_any _ _ _ _ _ (unhide O5)).mono ?_; rintro e w' ⟨rfl, rfl⟩)
  go_ret
  exact ⟨rfl, unhide K5⟩

set_option maxHeartbeats 400000 in
theorem walk_PolicyNil (w : World) (n : Int) (wn : (Lit.int .i64 n).wf = true) : Calls Try.prog 10 #[.int .i64 n] w (PHolds w true) := by
  go_enter Try.func10, Try.ntmps10
  go_wp2_with (go_at_call 36; refine (renew_nil _ _ _ _).mono ?_; rintro e w' ⟨rfl, rfl⟩)
  refine (known26 _).mono ?_
  rintro e w1 ⟨rfl, hk1⟩
  have HK := hide hk1
  clear hk1
  go_wp2_with (first
    | (go_at_call 50; refine (pset_nil _ _).mono ?_; rintro e w' ⟨rfl, rfl⟩)
    | (go_at_call 52; refine (mode_nil _).mono ?_; rintro e w' ⟨rfl, rfl⟩)
    | (go_at_call 35; refine (shows_nil _).mono ?_; rintro e w' ⟨rfl, rfl⟩)
    | (go_at_call 37; refine (under_nil _).mono ?_; rintro e w' ⟨rfl, rfl⟩)
    | (go_at_call 51; refine (pcopy_nil _).mono ?_; rintro e w' ⟨rfl, rfl⟩))
  go_ret
  exact ⟨rfl, unhide HK⟩
end Go.Proofs.Ytpdabmbjnmpgbaa
