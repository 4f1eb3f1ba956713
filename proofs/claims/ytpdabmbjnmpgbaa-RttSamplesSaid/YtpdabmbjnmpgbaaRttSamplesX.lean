/-
  Alike, and the walk of RttSamples.
-/
import Derived.Test.YtpdabmbjnmpgbaaRttSamplesW
namespace Go.Proofs.Ytpdabmbjnmpgbaa
open Go.RowKit
set_option linter.unusedVariables false

/-- What stays through Alike: the estimate's block, the document's, and all that was there. -/
theorem as_mk {w w' : World} {g : Nat} {t s : Int} {k : Bool} {O : Obj} (h1 : w'.heap[g]? = some O) (h2 : w'.heap[w.heap.size]? = some (.cells #[.int .i64 t, .int .i64 s, .bool k] 46 (0, 0))) (h3 : Kept [] w w') :
    w'.heap[g]? = some O ∧ w'.heap[w.heap.size]? = some (.cells #[.int .i64 t, .int .i64 s, .bool k] 46 (0, 0)) ∧ w'.cell? ⟨w.heap.size, 0, none⟩ = some (.int .i64 t) ∧ w'.cell? ⟨w.heap.size, 1, none⟩ = some (.int .i64 s) ∧ w'.cell? ⟨w.heap.size, 2, none⟩ = some (.bool k) ∧ Kept [] w w' :=
  ⟨h1, h2, obj_cell h2 0, obj_cell h2 1, obj_cell h2 2, h3⟩

theorem wait_any (t s : Int) (k : Bool) (g : Nat) (w : World) (h : w.heap[g]? = some (EstO t s k)) (ho : EstOk t s k) :
    Calls Try.prog 20 #[.pointer (some ⟨g, 0, none⟩)] w fun e w' => e = .returned (.int .i64 (waitS t s k)) ∧ ∃ n, w' = w.drewN n := by
  cases k
  · exact (wait_no t s g w h).mono fun e w' ⟨he, hw⟩ => ⟨he, 0, hw.symm⟩
  · exact wait_yes t s g w h ho

set_option maxRecDepth 100000 in
set_option maxHeartbeats 1000000 in
theorem alike_any (t s : Int) (k : Bool) (g : Nat) (w : World) (h : w.heap[g]? = some (EstO t s k)) (ho : EstOk t s k) :
    Calls Try.prog 31 #[.pointer (some ⟨g, 0, none⟩), .agg #[.int .i64 t, .int .i64 s, .bool k]] w (Holds w true) := by
  have H := hide h
  have HO := hide ho
  obtain ⟨q1, q2, q3, q4, q5⟩ := ho
  have hlt := heap_lt h
  clear h q5
  have c1 := fun W (h : W.heap[g]? = some (EstO t s k)) => known_any t s k g W h
  have c2 := fun W (h : W.heap[g]? = some (EstO t s k)) => time_any t s k g W h (unhide HO)
  have c3 := fun W (h : W.heap[g]? = some (EstO t s k)) => spread_any t s k g W h (unhide HO)
  have c4 := fun W (h : W.heap[g]? = some (EstO t s k)) => wait_any t s k g W h (unhide HO)
  have c5 := fun W => refwait_any t s k W (unhide HO)
  have C1 := hide c1
  have C2 := hide c2
  have C3 := hide c3
  have C4 := hide c4
  have C5 := hide c5
  clear c1 c2 c3 c4 c5
  have d1 : IntKind.i64.wrap (t.tdiv 8) = t / 8 := by rw [IntKind.wrap_i64, Int.tdiv_eq_ediv_of_nonneg q1]; omega
  have d2 : IntKind.i64.wrap (s.tdiv 4) = s / 4 := by rw [IntKind.wrap_i64, Int.tdiv_eq_ediv_of_nonneg q3]; omega
  cases k
  · go_enter Try.func31, Try.ntmps31
    go_wp2_with fail
    go_region_held3 (fun w' => w'.heap[g]? = some (EstO t s false) ∧ w'.heap[w.heap.size]? = some (.cells #[.int .i64 t, .int .i64 s, .bool false] 46 (0, 0)) ∧ w'.cell? ⟨w.heap.size, 0, none⟩ = some (.int .i64 t) ∧ w'.cell? ⟨w.heap.size, 1, none⟩ = some (.int .i64 s) ∧ w'.cell? ⟨w.heap.size, 2, none⟩ = some (.bool false) ∧ Kept [] w w')
      (first
        | exact as_mk (obj_alloc (unhide H) _) (obj_new w _) ((Kept.refl [] w).alloc _).drew
        | exact as_mk (obj_alloc (unhide H) _) (obj_new w _) (((Kept.refl [] w).alloc _).drewN _)
        | (rename_i hk; exact as_mk (hk.obj (obj_alloc (unhide H) _) (by simp)) (hk.obj (obj_new w _) (by simp)) (Kept.trans (((Kept.refl [] w).alloc _).drewN _) hk (by simp))))
      ((first
        | (go_at_call 21; try go_split_ands; refine (unhide C1 _ (by assumption)).mono ?_; rintro e w' ⟨rfl, rfl⟩)
        | (go_at_call 22; try go_split_ands; refine (unhide C2 _ (by assumption)).mono ?_; rintro e w' ⟨rfl, rfl⟩)
        | (go_at_call 23; try go_split_ands; refine (unhide C3 _ (by assumption)).mono ?_; rintro e w' ⟨rfl, rfl⟩)
        | (go_at_call 20; try go_split_ands; refine (unhide C4 _ (by assumption)).mono ?_; rintro e w' ⟨rfl, nq, rfl⟩)
        | (go_at_call 79; try go_split_ands; refine (unhide C5 _).mono ?_; rintro e w' ⟨rfl, hk⟩)))
    go_wp2
    go_ret
    go_split_ands
    exact ⟨rfl, by assumption⟩
  · go_enter Try.func31, Try.ntmps31
    go_wp2_with fail
    go_region_held3 (fun w' => w'.heap[g]? = some (EstO t s true) ∧ w'.heap[w.heap.size]? = some (.cells #[.int .i64 t, .int .i64 s, .bool true] 46 (0, 0)) ∧ w'.cell? ⟨w.heap.size, 0, none⟩ = some (.int .i64 t) ∧ w'.cell? ⟨w.heap.size, 1, none⟩ = some (.int .i64 s) ∧ w'.cell? ⟨w.heap.size, 2, none⟩ = some (.bool true) ∧ Kept [] w w')
      (first
        | exact as_mk (obj_alloc (unhide H) _) (obj_new w _) ((Kept.refl [] w).alloc _).drew
        | exact as_mk (obj_alloc (unhide H) _) (obj_new w _) (((Kept.refl [] w).alloc _).drewN _)
        | (rename_i hk; exact as_mk (hk.obj (obj_alloc (unhide H) _) (by simp)) (hk.obj (obj_new w _) (by simp)) (Kept.trans (((Kept.refl [] w).alloc _).drewN _) hk (by simp))))
      ((first
        | (go_at_call 21; try go_split_ands; refine (unhide C1 _ (by assumption)).mono ?_; rintro e w' ⟨rfl, rfl⟩)
        | (go_at_call 22; try go_split_ands; refine (unhide C2 _ (by assumption)).mono ?_; rintro e w' ⟨rfl, rfl⟩)
        | (go_at_call 23; try go_split_ands; refine (unhide C3 _ (by assumption)).mono ?_; rintro e w' ⟨rfl, rfl⟩)
        | (go_at_call 20; try go_split_ands; refine (unhide C4 _ (by assumption)).mono ?_; rintro e w' ⟨rfl, nq, rfl⟩)
        | (go_at_call 79; try go_split_ands; refine (unhide C5 _).mono ?_; rintro e w' ⟨rfl, hk⟩)))
    go_wp2
    go_ret
    go_split_ands
    exact ⟨rfl, by assumption⟩
end Go.Proofs.Ytpdabmbjnmpgbaa
