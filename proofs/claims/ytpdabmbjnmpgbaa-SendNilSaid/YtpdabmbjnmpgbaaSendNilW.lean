/-
  keygram.Same of two empty grams; the walk of SendNil.
-/
import Derived.Test.YtpdabmbjnmpgbaaOpa
namespace Go.Proofs.Ytpdabmbjnmpgbaa
open Go.Conc Go.RowKit
set_option linter.unusedVariables false
theorem swaiting_nil (w : World) : Calls Try.prog 66 #[.pointer none] w fun e w' => e = .returned (.slice none 0 0) ∧ w = w' := by
  go_enter Try.func66, Try.ntmps66
  go_wp2
  go_ret
  exact ⟨rfl, rfl⟩
theorem eqf_nil (f : Value) (w : World) : Calls Try.prog 93 #[.slice none 0 0, .slice none 0 0, f] w fun e w' => e = .returned (.bool true) ∧ w = w' := by
  go_enter Try.func93, Try.ntmps93
  go_wp2
  go_loopw [17] (fun i wr => i = .int .i64 0 ∧ wr = w) (fun i _ => 0)
  case atStart => exact ⟨rfl, rfl⟩
  case round =>
    obtain ⟨rfl, rfl⟩ := hrel
    go_wp2
    go_ret
    exact ⟨rfl, rfl⟩
theorem same_zero (w : World) : Calls Try.prog 76 #[.agg #[.int .u64 0, .int .u64 0, .int .i64 0, .int .i64 0, .int .u64 0, .slice none 0 0], .agg #[.int .u64 0, .int .u64 0, .int .i64 0, .int .i64 0, .int .u64 0, .slice none 0 0]] w fun e w' => e = .returned (.bool true) ∧ Kept [] w w' := by
  go_enter Try.func76, Try.ntmps76
  go_wp2_with fail
  refine (eqf_nil _ _).mono ?_
  rintro e w1 ⟨rfl, rfl⟩
  go_wp2
  go_ret
  exact ⟨rfl, ((Kept.refl [] w).alloc _).alloc _⟩
set_option maxRecDepth 100000 in
set_option maxHeartbeats 2000000 in
theorem walk_SendNil (W : World) (z : SA) (hz : z.ok W) : Calls Try.prog 17 #[z.val] W (SHolds W true) := by
  unfold SA.val
  go_enter Try.func17, Try.ntmps17
  go_wp2_with (first | (refine (sask_nil _).mono ?_; rintro e w1 ⟨rfl, rfl⟩))
  have ho1 : (W.alloc (.cells #[.int .i64 z.kind, .slice z.A z.n z.c, .int .u64 z.N, .int .u64 z.now, .int .i64 z.rows, .int .i64 z.cols] 112 (0, 0))).heap[W.heap.size]? = some (.cells #[.int .i64 z.kind, .slice z.A z.n z.c, .int .u64 z.N, .int .u64 z.now, .int .i64 z.rows, .int .i64 z.cols] 112 (0, 0)) := obj_new _ _
  have hk1 : Kept [] W (W.alloc (.cells #[.int .i64 z.kind, .slice z.A z.n z.c, .int .u64 z.N, .int .u64 z.now, .int .i64 z.rows, .int .i64 z.cols] 112 (0, 0))) := (Kept.refl [] W).alloc _
  change Calls _ _ _ (W.alloc (.cells #[.int .i64 z.kind, .slice z.A z.n z.c, .int .u64 z.N, .int .u64 z.now, .int .i64 z.rows, .int .i64 z.cols] 112 (0, 0))) _
  generalize W.alloc (.cells #[.int .i64 z.kind, .slice z.A z.n z.c, .int .u64 z.N, .int .u64 z.now, .int .i64 z.rows, .int .i64 z.cols] 112 (0, 0)) = w1 at *
  generalize W.heap.size = b1 at *
  have HN := hide hz.now
  have O1 := hide ho1
  have K1 := hide hk1
  clear ho1 hk1 hz
  refine (gram_nil _ _ _ _ _).mono ?_
  rintro e w2 ⟨rfl, hk2⟩
  have O2 := hide (hk2.obj (unhide O1) (by simp))
  have K2 := hide ((unhide K1).trans hk2 (by simp))
  clear hk2 O1 K1
  go_wp2_with fail
  have ka : Kept [] w2 (w2.alloc (GmO 0 0 0 0 0 none 0 0)) := (Kept.refl [] w2).alloc _
  have hg : (w2.alloc (GmO 0 0 0 0 0 none 0 0)).heap[w2.heap.size]? = some (GmO 0 0 0 0 0 none 0 0) := obj_new _ _
  have O3 := hide (ka.obj (unhide O2) (by simp))
  have K3 := hide ((unhide K2).trans ka (by simp))
  change Calls _ _ _ (w2.alloc (GmO 0 0 0 0 0 none 0 0)) _
  generalize w2.alloc (GmO 0 0 0 0 0 none 0 0) = w3 at *
  generalize w2.heap.size = b3 at *
  have G3 := hide hg
  clear hg ka O2 K2
  refine (known19 _).mono ?_
  rintro e w4 ⟨rfl, hk4⟩
  have o4 := hk4.obj (unhide O3) (by simp)
  have g4 := hk4.obj (unhide G3) (by simp)
  have K4 := hide ((unhide K3).trans hk4 (by simp))
  have c0 := obj_cell o4 0
  have d0 := obj_cell g4 0
  have c1 := obj_cell o4 1
  have d1 := obj_cell g4 1
  have c2 := obj_cell o4 2
  have d2 := obj_cell g4 2
  have c3 := obj_cell o4 3
  have d3 := obj_cell g4 3
  have c4 := obj_cell o4 4
  have d4 := obj_cell g4 4
  have c5 := obj_cell o4 5
  have d5 := obj_cell g4 5
  have O4 := hide o4
  have G4 := hide g4
  clear o4 g4 hk4 K3 O3 G3
  go_wp2_with fail
  refine (stype_nil _ _ _ _).mono ?_
  rintro e w' ⟨rfl, rfl⟩
  go_wp2_with fail
  refine (styped_nil _).mono ?_
  rintro e w5 ⟨rfl, hk5⟩
  clear c0 c1 c2 c3 c4 c5 d0 d1 d2 d3 d4 d5
  have o5 := hk5.obj (unhide O4) (by simp)
  have g5 := hk5.obj (unhide G4) (by simp)
  have K5 := hide ((unhide K4).trans hk5 (by simp))
  have c0 := obj_cell o5 0
  have d0 := obj_cell g5 0
  have c1 := obj_cell o5 1
  have d1 := obj_cell g5 1
  have c2 := obj_cell o5 2
  have d2 := obj_cell g5 2
  have c3 := obj_cell o5 3
  have d3 := obj_cell g5 3
  have c4 := obj_cell o5 4
  have d4 := obj_cell g5 4
  have c5 := obj_cell o5 5
  have d5 := obj_cell g5 5
  have O5 := hide o5
  have G5 := hide g5
  clear o5 g5 hk5 K4 O4 G4
  go_wp2_with fail
  refine (ssent_nil _).mono ?_
  rintro e w6 ⟨rfl, hk6⟩
  clear c0 c1 c2 c3 c4 c5 d0 d1 d2 d3 d4 d5
  have o6 := hk6.obj (unhide O5) (by simp)
  have g6 := hk6.obj (unhide G5) (by simp)
  have K6 := hide ((unhide K5).trans hk6 (by simp))
  have c0 := obj_cell o6 0
  have d0 := obj_cell g6 0
  have c1 := obj_cell o6 1
  have d1 := obj_cell g6 1
  have c2 := obj_cell o6 2
  have d2 := obj_cell g6 2
  have c3 := obj_cell o6 3
  have d3 := obj_cell g6 3
  have c4 := obj_cell o6 4
  have d4 := obj_cell g6 4
  have c5 := obj_cell o6 5
  have d5 := obj_cell g6 5
  have O6 := hide o6
  have G6 := hide g6
  clear o6 g6 hk6 K5 O5 G5
  go_wp2_with fail
  refine (sacked_nil _).mono ?_
  rintro e w7 ⟨rfl, hk7⟩
  clear c0 c1 c2 c3 c4 c5 d0 d1 d2 d3 d4 d5
  have o7 := hk7.obj (unhide O6) (by simp)
  have g7 := hk7.obj (unhide G6) (by simp)
  have K7 := hide ((unhide K6).trans hk7 (by simp))
  have c0 := obj_cell o7 0
  have d0 := obj_cell g7 0
  have c1 := obj_cell o7 1
  have d1 := obj_cell g7 1
  have c2 := obj_cell o7 2
  have d2 := obj_cell g7 2
  have c3 := obj_cell o7 3
  have d3 := obj_cell g7 3
  have c4 := obj_cell o7 4
  have d4 := obj_cell g7 4
  have c5 := obj_cell o7 5
  have d5 := obj_cell g7 5
  have O7 := hide o7
  have G7 := hide g7
  clear o7 g7 hk7 K6 O6 G6
  go_wp2_with fail
  refine (swaiting_nil _).mono ?_
  rintro e w' ⟨rfl, rfl⟩
  go_wp2_with fail
  refine (sechoed_nil _ _).mono ?_
  rintro e w' ⟨rfl, rfl⟩
  go_wp2_with fail
  refine (due_nil _ _ _).mono ?_
  rintro e w8 ⟨rfl, hk8⟩
  clear c0 c1 c2 c3 c4 c5 d0 d1 d2 d3 d4 d5
  have o8 := hk8.obj (unhide O7) (by simp)
  have g8 := hk8.obj (unhide G7) (by simp)
  have K8 := hide ((unhide K7).trans hk8 (by simp))
  have c0 := obj_cell o8 0
  have d0 := obj_cell g8 0
  have c1 := obj_cell o8 1
  have d1 := obj_cell g8 1
  have c2 := obj_cell o8 2
  have d2 := obj_cell g8 2
  have c3 := obj_cell o8 3
  have d3 := obj_cell g8 3
  have c4 := obj_cell o8 4
  have d4 := obj_cell g8 4
  have c5 := obj_cell o8 5
  have d5 := obj_cell g8 5
  have O8 := hide o8
  have G8 := hide g8
  clear o8 g8 hk8 K7 O7 G7
  go_wp2_with fail
  refine (same_zero _).mono ?_
  rintro e w9 ⟨rfl, hk9⟩
  clear c0 c1 c2 c3 c4 c5 d0 d1 d2 d3 d4 d5
  have o9 := hk9.obj (unhide O8) (by simp)
  have g9 := hk9.obj (unhide G8) (by simp)
  have K9 := hide ((unhide K8).trans hk9 (by simp))
  have c0 := obj_cell o9 0
  have d0 := obj_cell g9 0
  have c1 := obj_cell o9 1
  have d1 := obj_cell g9 1
  have c2 := obj_cell o9 2
  have d2 := obj_cell g9 2
  have c3 := obj_cell o9 3
  have d3 := obj_cell g9 3
  have c4 := obj_cell o9 4
  have d4 := obj_cell g9 4
  have c5 := obj_cell o9 5
  have d5 := obj_cell g9 5
  have O9 := hide o9
  have G9 := hide g9
  clear o9 g9 hk9 K8 O8 G8
  go_wp2_with fail
  refine (scopy_nil _).mono ?_
  rintro e w' ⟨rfl, rfl⟩
  go_wp2
  go_ret
  exact ⟨rfl, unhide K9⟩
end Go.Proofs.Ytpdabmbjnmpgbaa
