/-
  The contracts of package rtt: what each method of an estimate returns, and what it leaves of its block.
-/
import Derived.Test.YtpdabmbjnmpgbaaKw
namespace Go.Proofs.Ytpdabmbjnmpgbaa
open Go.RowKit
set_option linter.unusedVariables false

/-- An estimate's block. -/
def EstO (t s : Int) (k : Bool) : Obj := .cells #[.int .i64 t, .int .i64 s, .bool k] 44 (0, 0)
def clampS (n : Int) : Int := if n < 0 then 0 else if 100000 < n then 100000 else n
theorem clampS_bd (n : Int) : 0 ≤ clampS n ∧ clampS n ≤ 100000 := by unfold clampS; split <;> (try split) <;> omega
def waitS (t s : Int) (k : Bool) : Int := if k then min (max (t / 8 + max 1 s) 50) 1000 else 1000

theorem est_cells {w : World} {g : Nat} {t s : Int} {k : Bool} (h : w.heap[g]? = some (EstO t s k)) :
    w.cell? ⟨g, 0, none⟩ = some (.int .i64 t) ∧ w.cell? ⟨g, 1, none⟩ = some (.int .i64 s) ∧ w.cell? ⟨g, 2, none⟩ = some (.bool k) ∧ ∀ i, w.frozen? ⟨g, i, none⟩ = false :=
  ⟨obj_cell h 0, obj_cell h 1, obj_cell h 2, obj_frozen h⟩

theorem est_set0 {w : World} {g : Nat} {t s : Int} {k : Bool} (h : w.heap[g]? = some (EstO t s k)) (t' : Int) : (w.setCell ⟨g, 0, none⟩ (.int .i64 t')).heap[g]? = some (EstO t' s k) := obj_set h 0 _
theorem est_set1 {w : World} {g : Nat} {t s : Int} {k : Bool} (h : w.heap[g]? = some (EstO t s k)) (s' : Int) : (w.setCell ⟨g, 1, none⟩ (.int .i64 s')).heap[g]? = some (EstO t s' k) := obj_set h 1 _
theorem est_set2 {w : World} {g : Nat} {t s : Int} {k : Bool} (h : w.heap[g]? = some (EstO t s k)) (k' : Bool) : (w.setCell ⟨g, 2, none⟩ (.bool k')).heap[g]? = some (EstO t s k') := obj_set h 2 _

/-- What a sample does: the block turns, nothing else does. -/
def Turns (w : World) (g : Nat) (o : Obj) (e : Ending) (w' : World) : Prop := e = .returned (.tuple #[]) ∧ w'.heap[g]? = some o ∧ Kept [g] w w'

set_option maxHeartbeats 400000 in
theorem sample_new (n : Int) (g : Nat) (w : World) (h : w.heap[g]? = some (EstO 0 0 false)) :
    Calls Try.prog 24 #[.pointer (some ⟨g, 0, none⟩), .int .i64 n] w (Turns w g (EstO (8 * clampS n) (2 * clampS n) true)) := by
  obtain ⟨h0, h1, h2, hz⟩ := est_cells h
  have H := hide h
  clear h
  go_enter Try.func24, Try.ntmps24
  go_wp2
  all_goals
    go_end0
    refine ⟨rfl, ?_, (((Kept.refl [g] w).setCell (.inl (by simp)) _).setCell (.inl (by simp)) _).setCell (.inl (by simp)) _⟩
    rw [est_set2 (est_set1 (est_set0 (unhide H) _) _) _]
    unfold clampS
    first
      | (rw [if_pos (by omega)]; rfl)
      | (rw [if_neg (by omega), if_pos (by omega)]; rfl)
      | (rw [if_neg (by omega), if_neg (by omega), Int.mul_comm 8, Int.mul_comm 2])

/-- The error without its sign. -/
def absI (n : Int) : Int := if n < 0 then -n else n

theorem turns_close {w : World} {g : Nat} {t s t1 s1 T S : Int} (h : w.heap[g]? = some (EstO t s true)) (ht : t1 = T) (hs : s1 = S) :
    Turns w g (EstO T S true) (.returned (.tuple #[])) ((w.setCell ⟨g, 0, none⟩ (.int .i64 t1)).setCell ⟨g, 1, none⟩ (.int .i64 s1)).drew := by
  subst ht hs
  exact ⟨rfl, est_set1 (est_set0 h _) _, (((Kept.refl [g] w).setCell (.inl (by simp)) _).setCell (.inl (by simp)) _).drew⟩

set_option maxHeartbeats 400000 in
theorem sample_old_in (n m t s : Int) (g : Nat) (w : World) (h : w.heap[g]? = some (EstO t s true)) (ht : 0 ≤ t) (ht' : t ≤ 800007) (hs : 0 ≤ s) (hs' : s ≤ 400000)
    (hm : n < 0 ∧ m = 0 ∨ 100000 < n ∧ m = 100000 ∨ 0 ≤ n ∧ n ≤ 100000 ∧ m = n) :
    Calls Try.prog 24 #[.pointer (some ⟨g, 0, none⟩), .int .i64 n] w (Turns w g (EstO (t + (m - t / 8)) (s + (absI (m - t / 8) - s / 4)) true)) := by
  obtain ⟨h0, h1, h2, hz⟩ := est_cells h
  have H := hide h
  clear h
  rcases hm with ⟨hn, rfl⟩ | ⟨hn, rfl⟩ | ⟨hn, hn', rfl⟩
  · have hp : 0 - t / 8 ≤ 0 := by omega
    go_enter Try.func24, Try.ntmps24
    go_wp2
    go_region
    go_end0
    exact turns_close (unhide H) (by omega) (by unfold absI; (repeat' split) <;> omega)
  · rcases Int.lt_or_le 0 (100000 - t / 8) with hp | hp
    all_goals
      go_enter Try.func24, Try.ntmps24
      go_wp2
      go_region
      go_end0
      exact turns_close (unhide H) (by omega) (by unfold absI; (repeat' split) <;> omega)
  · rcases Int.lt_or_le 0 (m - t / 8) with hp | hp
    all_goals
      go_enter Try.func24, Try.ntmps24
      go_wp2
      go_region
      go_end0
      exact turns_close (unhide H) (by omega) (by unfold absI; (repeat' split) <;> omega)

/-- An estimate's numbers, in their bounds. -/
def EstOk (t s : Int) (k : Bool) : Prop := 0 ≤ t ∧ t ≤ 800007 ∧ 0 ≤ s ∧ s ≤ 400000 ∧ (k = false → t = 0 ∧ s = 0)
def smpT (t : Int) (k : Bool) (n : Int) : Int := if k then t + (clampS n - t / 8) else 8 * clampS n
def smpS (t s : Int) (k : Bool) (n : Int) : Int := if k then s + (absI (clampS n - t / 8) - s / 4) else 2 * clampS n
theorem smp_ok {t s : Int} {k : Bool} (n : Int) (h : EstOk t s k) : EstOk (smpT t k n) (smpS t s k n) true := by
  have hc := clampS_bd n
  obtain ⟨h1, h2, h3, h4, h5⟩ := h
  unfold EstOk smpT smpS absI
  cases k
  · simp; omega
  · simp; split <;> omega
theorem sample_any (n t s : Int) (k : Bool) (g : Nat) (w : World) (h : w.heap[g]? = some (EstO t s k)) (ho : EstOk t s k) :
    Calls Try.prog 24 #[.pointer (some ⟨g, 0, none⟩), .int .i64 n] w (Turns w g (EstO (smpT t k n) (smpS t s k n) true)) := by
  obtain ⟨h1, h2, h3, h4, h5⟩ := ho
  cases k
  · obtain ⟨rfl, rfl⟩ := h5 rfl
    exact sample_new n g w h
  · exact sample_old_in n (clampS n) t s g w h h1 h2 h3 h4 (by unfold clampS; (repeat' split) <;> omega)
theorem sample_nil (n : Int) (w : World) : Calls Try.prog 24 #[.pointer none, .int .i64 n] w fun e w' => e = .returned (.tuple #[]) ∧ w = w' := by
  go_enter Try.func24, Try.ntmps24
  go_wp2
  refine bodyPost_ret (results_none rfl _ _ _) rfl ?_
  exact ⟨rfl, rfl⟩

theorem known_any (t s : Int) (k : Bool) (g : Nat) (w : World) (h : w.heap[g]? = some (EstO t s k)) :
    Calls Try.prog 21 #[.pointer (some ⟨g, 0, none⟩)] w fun e w' => e = .returned (.bool k) ∧ w = w' := by
  obtain ⟨h0, h1, h2, hz⟩ := est_cells h
  clear h
  go_enter Try.func21, Try.ntmps21
  go_wp2
  go_ret
  exact ⟨rfl, rfl⟩
theorem known_nil (w : World) : Calls Try.prog 21 #[.pointer none] w fun e w' => e = .returned (.bool false) ∧ w = w' := by
  go_enter Try.func21, Try.ntmps21
  go_wp2
  go_ret
  exact ⟨rfl, rfl⟩
theorem time_any (t s : Int) (k : Bool) (g : Nat) (w : World) (h : w.heap[g]? = some (EstO t s k)) (ho : EstOk t s k) :
    Calls Try.prog 22 #[.pointer (some ⟨g, 0, none⟩)] w fun e w' => e = .returned (.int .i64 (t / 8)) ∧ w = w' := by
  obtain ⟨h0, h1, h2, hz⟩ := est_cells h
  obtain ⟨q1, q2, q3, q4, q5⟩ := ho
  clear h q5
  go_enter Try.func22, Try.ntmps22
  go_wp2
  go_ret
  exact ⟨rfl, rfl⟩
theorem time_nil (w : World) : Calls Try.prog 22 #[.pointer none] w fun e w' => e = .returned (.int .i64 0) ∧ w = w' := by
  go_enter Try.func22, Try.ntmps22
  go_wp2
  go_ret
  exact ⟨rfl, rfl⟩
theorem spread_any (t s : Int) (k : Bool) (g : Nat) (w : World) (h : w.heap[g]? = some (EstO t s k)) (ho : EstOk t s k) :
    Calls Try.prog 23 #[.pointer (some ⟨g, 0, none⟩)] w fun e w' => e = .returned (.int .i64 (s / 4)) ∧ w = w' := by
  obtain ⟨h0, h1, h2, hz⟩ := est_cells h
  obtain ⟨q1, q2, q3, q4, q5⟩ := ho
  clear h q5
  go_enter Try.func23, Try.ntmps23
  go_wp2
  go_ret
  exact ⟨rfl, rfl⟩
theorem spread_nil (w : World) : Calls Try.prog 23 #[.pointer none] w fun e w' => e = .returned (.int .i64 0) ∧ w = w' := by
  go_enter Try.func23, Try.ntmps23
  go_wp2
  go_ret
  exact ⟨rfl, rfl⟩
theorem within_any (n : Int) (w : World) : Calls Try.prog 78 #[.int .i64 n] w fun e w' => e = .returned (.int .i64 (min (max n 50) 1000)) ∧ w = w' := by
  go_enter Try.func78, Try.ntmps78
  go_wp2
  all_goals
    go_ret
    exact ⟨ret_int (by omega), rfl⟩
theorem wait_nil (w : World) : Calls Try.prog 20 #[.pointer none] w fun e w' => e = .returned (.int .i64 1000) ∧ w = w' := by
  go_enter Try.func20, Try.ntmps20
  go_wp2_with (go_at_call 21; refine (known_nil _).mono ?_; rintro e w' ⟨rfl, rfl⟩)
  go_ret
  exact ⟨rfl, rfl⟩
theorem wait_no (t s : Int) (g : Nat) (w : World) (h : w.heap[g]? = some (EstO t s false)) :
    Calls Try.prog 20 #[.pointer (some ⟨g, 0, none⟩)] w fun e w' => e = .returned (.int .i64 1000) ∧ w = w' := by
  have hk := hide (known_any t s false g w h)
  clear h
  go_enter Try.func20, Try.ntmps20
  go_wp2_with (go_at_call 21; refine (unhide hk).mono ?_; rintro e w' ⟨rfl, rfl⟩)
  go_ret
  exact ⟨rfl, rfl⟩
/-- A quiet call, the caller's world on the left. -/
theorem quiet_left {P : Program} {f : FuncId} {args : Array Value} {w : World} {v : Value}
    (c : ∀ W : World, W.heap = w.heap → Calls P f args W fun e w' => e = .returned v ∧ W = w') (n : Nat) : Calls P f args (w.drewN n) fun e w' => e = .returned v ∧ ∃ m, w' = w.drewN m :=
  (c (w.drewN n) rfl).mono fun _ _ ⟨he, hm⟩ => ⟨he, n, hm.symm⟩
theorem wait_of (t s : Int) (h : 0 ≤ t) : (s ≤ 1 → min (max (t / 8 + 1) 50) 1000 = waitS t s true) ∧ (1 < s → min (max (t / 8 + s) 50) 1000 = waitS t s true) := by
  unfold waitS
  simp only [if_true]
  omega
set_option maxHeartbeats 400000 in
theorem wait_yes (t s : Int) (g : Nat) (w : World) (h : w.heap[g]? = some (EstO t s true)) (ho : EstOk t s true) :
    Calls Try.prog 20 #[.pointer (some ⟨g, 0, none⟩)] w fun e w' => e = .returned (.int .i64 (waitS t s true)) ∧ ∃ n, w' = w.drewN n := by
  obtain ⟨h0, h1, h2, hz⟩ := est_cells h
  have q := ho
  obtain ⟨q1, q2, q3, q4, q5⟩ := q
  have H := hide h
  have HO := hide ho
  clear h q5 ho
  have hT := fun n => quiet_left (w := w) (fun W (hW : W.heap = w.heap) => time_any t s true g W (by rw [hW]; exact unhide H) (unhide HO)) n
  have hT' := hide hT
  clear hT
  have hL := hide (wait_of t s q1)
  rcases Int.lt_or_le 1 s with hs | hs
  all_goals
    go_enter Try.func20, Try.ntmps20
    go_wp2_with (go_at_call 21; refine (known_any t s true g w (unhide H)).mono ?_; rintro e w' ⟨rfl, rfl⟩)
    go_quiet ((first | (go_at_call 22; exact unhide hT' _) | (go_at_call 78; exact quiet_left (fun W _ => within_any _ _) _)))
    go_wp2
    go_ret
    first | exact ⟨ret_int ((unhide hL).2 hs), _, rfl⟩ | exact ⟨ret_int ((unhide hL).1 hs), _, rfl⟩
end Go.Proofs.Ytpdabmbjnmpgbaa
