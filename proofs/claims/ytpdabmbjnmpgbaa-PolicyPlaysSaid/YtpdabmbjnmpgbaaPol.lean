/-
  The contracts of package policy: what each method returns, and what it leaves of its block.
-/
import Derived.Test.YtpdabmbjnmpgbaaKw
namespace Go.Proofs.Ytpdabmbjnmpgbaa
open Go.RowKit
set_option linter.unusedVariables false

/-- A policy's block: shows, marks, mode. -/
def PolO (sh mk : Bool) (m : Int) : Obj := .cells #[.bool sh, .bool mk, .int .i64 m] 131 (0, 0)
theorem pol_cells {w : World} {g : Nat} {sh mk : Bool} {m : Int} (h : w.heap[g]? = some (PolO sh mk m)) :
    w.cell? ⟨g, 0, none⟩ = some (.bool sh) ∧ w.cell? ⟨g, 1, none⟩ = some (.bool mk) ∧ w.cell? ⟨g, 2, none⟩ = some (.int .i64 m) ∧ ∀ i, w.frozen? ⟨g, i, none⟩ = false :=
  ⟨obj_cell h 0, obj_cell h 1, obj_cell h 2, obj_frozen h⟩
def renS (m : Int) (sh : Bool) (tm : Int) (kn lv : Bool) : Bool :=
  if m = 0 then false else if m = 1 then true else if kn = true ∧ 30 < tm then true else if kn = true ∧ tm ≤ 20 ∧ lv = false then false else sh
def renM (m : Int) (mk : Bool) (tm : Int) (kn : Bool) : Bool :=
  if m = 0 then false else if kn = true ∧ 80 < tm then true else if kn = true ∧ tm ≤ 50 then false else mk
/-- What a call that answers nothing does: the block turns, nothing else does. -/
def PTurns (w : World) (g : Nat) (o : Obj) (e : Ending) (w' : World) : Prop := e = .returned (.tuple #[]) ∧ w'.heap[g]? = some o ∧ Kept [g] w w'
theorem pturns_mk {w w' : World} {g : Nat} {a b sh mk : Bool} {m : Int} (h : w'.heap[g]? = some (PolO a b m)) (k : Kept [g] w w') (e : a = sh ∧ b = mk) : PTurns w g (PolO sh mk m) (.returned (.tuple #[])) w' := by
  obtain ⟨rfl, rfl⟩ := e; exact ⟨rfl, h, k⟩
theorem pol_set0 {w : World} {g : Nat} {sh mk : Bool} {m : Int} (h : w.heap[g]? = some (PolO sh mk m)) (b : Bool) : (w.setCell ⟨g, 0, none⟩ (.bool b)).heap[g]? = some (PolO b mk m) := obj_set h 0 _
theorem pol_set1 {w : World} {g : Nat} {sh mk : Bool} {m : Int} (h : w.heap[g]? = some (PolO sh mk m)) (b : Bool) : (w.setCell ⟨g, 1, none⟩ (.bool b)).heap[g]? = some (PolO sh b m) := obj_set h 1 _
theorem pol_set2 {w : World} {g : Nat} {sh mk : Bool} {m : Int} (h : w.heap[g]? = some (PolO sh mk m)) (n : Int) : (w.setCell ⟨g, 2, none⟩ (.int .i64 n)).heap[g]? = some (PolO sh mk n) := obj_set h 2 _

theorem word0 (w : World) : Calls Try.prog 39 #[.int .i64 0] w fun e w' => e = .returned (.string ⟨#[110, 101, 118, 101, 114]⟩) ∧ w = w' := by
  go_enter Try.func39, Try.ntmps39
  go_wp2
  go_ret
  exact ⟨rfl, rfl⟩
theorem word1 (w : World) : Calls Try.prog 39 #[.int .i64 1] w fun e w' => e = .returned (.string ⟨#[97, 108, 119, 97, 121, 115]⟩) ∧ w = w' := by
  go_enter Try.func39, Try.ntmps39
  go_wp2
  go_ret
  exact ⟨rfl, rfl⟩
theorem word2 (w : World) : Calls Try.prog 39 #[.int .i64 2] w fun e w' => e = .returned (.string ⟨#[97, 100, 97, 112, 116, 105, 118, 101]⟩) ∧ w = w' := by
  go_enter Try.func39, Try.ntmps39
  go_wp2
  go_ret
  exact ⟨rfl, rfl⟩
theorem word_no (n : Int) (w : World) (h : n < 0 ∨ 2 < n) : Calls Try.prog 39 #[.int .i64 n] w fun e w' => e = .returned (.string ⟨#[]⟩) ∧ w = w' := by
  have h0 : (n == 0) = false := by simp; omega
  have h1 : (n == 1) = false := by simp; omega
  have h2 : (n == 2) = false := by simp; omega
  clear h
  go_enter Try.func39, Try.ntmps39
  go_wp2
  go_ret
  exact ⟨rfl, rfl⟩

theorem shows_any (sh mk : Bool) (m : Int) (g : Nat) (w : World) (h : w.heap[g]? = some (PolO sh mk m)) :
    Calls Try.prog 35 #[.pointer (some ⟨g, 0, none⟩)] w fun e w' => e = .returned (.bool sh) ∧ w = w' := by
  obtain ⟨h0, h1, h2, hz⟩ := pol_cells h
  clear h
  go_enter Try.func35, Try.ntmps35
  go_wp2
  go_ret
  exact ⟨rfl, rfl⟩
theorem shows_nil (w : World) : Calls Try.prog 35 #[.pointer none] w fun e w' => e = .returned (.bool false) ∧ w = w' := by
  go_enter Try.func35, Try.ntmps35
  go_wp2
  go_ret
  exact ⟨rfl, rfl⟩
theorem under_any (sh mk : Bool) (m : Int) (g : Nat) (w : World) (h : w.heap[g]? = some (PolO sh mk m)) :
    Calls Try.prog 37 #[.pointer (some ⟨g, 0, none⟩)] w fun e w' => e = .returned (.bool (sh && mk)) ∧ w = w' := by
  obtain ⟨h0, h1, h2, hz⟩ := pol_cells h
  clear h
  cases sh <;> cases mk
  all_goals
    go_enter Try.func37, Try.ntmps37
    go_wp2
    go_ret
    exact ⟨rfl, rfl⟩
theorem under_nil (w : World) : Calls Try.prog 37 #[.pointer none] w fun e w' => e = .returned (.bool false) ∧ w = w' := by
  go_enter Try.func37, Try.ntmps37
  go_wp2
  go_ret
  exact ⟨rfl, rfl⟩
theorem mode_any (sh mk : Bool) (m : Int) (g : Nat) (w : World) (h : w.heap[g]? = some (PolO sh mk m)) :
    Calls Try.prog 52 #[.pointer (some ⟨g, 0, none⟩)] w fun e w' => e = .returned (.int .i64 m) ∧ w = w' := by
  obtain ⟨h0, h1, h2, hz⟩ := pol_cells h
  clear h
  go_enter Try.func52, Try.ntmps52
  go_wp2
  go_ret
  exact ⟨rfl, rfl⟩
theorem mode_nil (w : World) : Calls Try.prog 52 #[.pointer none] w fun e w' => e = .returned (.int .i64 0) ∧ w = w' := by
  go_enter Try.func52, Try.ntmps52
  go_wp2
  go_ret
  exact ⟨rfl, rfl⟩
theorem pcopy_any (sh mk : Bool) (m : Int) (g : Nat) (w : World) (h : w.heap[g]? = some (PolO sh mk m)) :
    Calls Try.prog 51 #[.pointer (some ⟨g, 0, none⟩)] w fun e w' => e = .returned (.pointer (some ⟨w.heap.size, 0, none⟩)) ∧ w'.heap[w.heap.size]? = some (PolO sh mk m) ∧ Kept [] w w' := by
  obtain ⟨h0, h1, h2, hz⟩ := pol_cells h
  clear h
  go_enter Try.func51, Try.ntmps51
  go_wp2
  go_ret
  exact ⟨rfl, obj_new w _, (Kept.refl [] w).alloc _⟩
theorem pcopy_nil (w : World) : Calls Try.prog 51 #[.pointer none] w fun e w' => e = .returned (.pointer none) ∧ w = w' := by
  go_enter Try.func51, Try.ntmps51
  go_wp2
  go_ret
  exact ⟨rfl, rfl⟩
theorem renew_nil (tm : Int) (kn lv : Bool) (w : World) : Calls Try.prog 36 #[.pointer none, .int .i64 tm, .bool kn, .bool lv] w fun e w' => e = .returned (.tuple #[]) ∧ w = w' := by
  go_enter Try.func36, Try.ntmps36
  go_wp2
  refine bodyPost_ret (results_none rfl _ _ _) rfl ?_
  exact ⟨rfl, rfl⟩
theorem pset_nil (n : Int) (w : World) : Calls Try.prog 50 #[.pointer none, .int .i64 n] w fun e w' => e = .returned (.int .i64 1) ∧ w = w' := by
  go_enter Try.func50, Try.ntmps50
  go_wp2
  go_ret
  exact ⟨rfl, rfl⟩
/-- What a mode that is set turns. -/
def setS (n : Int) (sh : Bool) : Bool := if n = 0 then false else if n = 1 then true else sh
def setM (n : Int) (mk : Bool) : Bool := if n = 0 then false else mk
theorem pset_no (n : Int) (g : Nat) (w : World) (h : n < 0 ∨ 2 < n) : Calls Try.prog 50 #[.pointer (some ⟨g, 0, none⟩), .int .i64 n] w fun e w' => e = .returned (.int .i64 1) ∧ w = w' := by
  have hw := hide (word_no n w h)
  clear h
  go_enter Try.func50, Try.ntmps50
  go_wp2_with (go_at_call 39; refine (unhide hw).mono ?_; rintro e w' ⟨rfl, rfl⟩)
  go_ret
  exact ⟨rfl, rfl⟩
theorem pset_yes (n : Int) (sh mk : Bool) (m : Int) (g : Nat) (w : World) (h : w.heap[g]? = some (PolO sh mk m)) (hn : n = 0 ∨ n = 1 ∨ n = 2) :
    Calls Try.prog 50 #[.pointer (some ⟨g, 0, none⟩), .int .i64 n] w fun e w' => e = .returned (.int .i64 0) ∧ w'.heap[g]? = some (PolO (setS n sh) (setM n mk) n) ∧ Kept [g] w w' := by
  obtain ⟨h0, h1, h2, hz⟩ := pol_cells h
  have H := hide h
  clear h
  rcases hn with rfl | rfl | rfl
  · go_enter Try.func50, Try.ntmps50
    go_wp2_with (go_at_call 39; refine (word0 _).mono ?_; rintro e w' ⟨rfl, rfl⟩)
    go_ret
    exact ⟨rfl, pol_set1 (pol_set0 (pol_set2 (unhide H) _) _) _, (((Kept.refl [g] w).setCell (.inl (by simp)) _).setCell (.inl (by simp)) _).setCell (.inl (by simp)) _⟩
  · go_enter Try.func50, Try.ntmps50
    go_wp2_with (go_at_call 39; refine (word1 _).mono ?_; rintro e w' ⟨rfl, rfl⟩)
    go_ret
    exact ⟨rfl, pol_set0 (pol_set2 (unhide H) _) _, ((Kept.refl [g] w).setCell (.inl (by simp)) _).setCell (.inl (by simp)) _⟩
  · go_enter Try.func50, Try.ntmps50
    go_wp2_with (go_at_call 39; refine (word2 _).mono ?_; rintro e w' ⟨rfl, rfl⟩)
    go_ret
    exact ⟨rfl, pol_set2 (unhide H) _, (Kept.refl [g] w).setCell (.inl (by simp)) _⟩
end Go.Proofs.Ytpdabmbjnmpgbaa
