/-
  The document's policy (prolepsisref26) and Alike: what each returns.
-/
import Derived.Test.YtpdabmbjnmpgbaaPon
import Derived.Test.YtpdabmbjnmpgbaaOps
namespace Go.Proofs.Ytpdabmbjnmpgbaa
open Go.RowKit
set_option linter.unusedVariables false

/-- The document's policy, as a value. -/
def PV (m : Int) (sh mk : Bool) : Value := .agg #[.int .i64 m, .bool sh, .bool mk]
theorem pv_eq {a b a' b' : Bool} {m : Int} (h : a = a' ∧ b = b') : Value.agg #[.int .i64 m, .bool a, .bool b] = PV m a' b' := by
  obtain ⟨rfl, rfl⟩ := h; rfl
theorem refset_any (n m : Int) (sh mk : Bool) (w : World) (hn : n = 0 ∨ n = 1 ∨ n = 2) :
    Calls Try.prog 47 #[.agg #[.int .i64 m, .bool sh, .bool mk], .int .i64 n] w fun e w' => e = .returned (PV n (setS n sh) (setM n mk)) ∧ Kept [] w w' := by
  rcases hn with rfl | rfl | rfl
  all_goals
    go_enter Try.func47, Try.ntmps47
    go_wp2
    refine bodyPost_ret (v := PV _ (setS _ sh) (setM _ mk)) ?_ rfl ⟨rfl, by repeat (first | exact Kept.refl _ _ | apply Kept.drew | apply Kept.alloc)⟩
    simp [results, Try.results47, go_sem]
    exact pv_eq ⟨rfl, rfl⟩
set_option maxHeartbeats 400000 in
theorem refrenew0 (sh mk : Bool) (tm : Int) (kn lv : Bool) (w : World) :
    Calls Try.prog 49 #[.agg #[.int .i64 0, .bool sh, .bool mk], .int .i64 tm, .bool kn, .bool lv] w fun e w' => e = .returned (PV 0 (renS 0 sh tm kn lv) (renM 0 mk tm kn)) ∧ Kept [] w w' := by
  have ES := hide ((ren_v0 sh mk tm kn lv).1)
  have EM := hide ((ren_v0 sh mk tm kn lv).2)
  go_enter Try.func49, Try.ntmps49
  go_wp2
  refine bodyPost_ret (v := PV 0 (renS 0 _ _ _ _) (renM 0 _ _ _)) ?_ rfl ⟨rfl, by repeat (first | exact Kept.refl _ _ | apply Kept.drew | apply Kept.alloc)⟩
  rw [unhide ES, unhide EM]
  simp [results, Try.results49, go_sem, PV]
set_option maxHeartbeats 2000000 in
theorem refrenew1 (sh mk : Bool) (tm : Int) (kn lv : Bool) (w : World) :
    Calls Try.prog 49 #[.agg #[.int .i64 1, .bool sh, .bool mk], .int .i64 tm, .bool kn, .bool lv] w fun e w' => e = .returned (PV 1 (renS 1 sh tm kn lv) (renM 1 mk tm kn)) ∧ Kept [] w w' := by
  cases kn
  · have ES := hide (renS1 sh tm false lv)
    have EM := hide (renMu 1 mk tm (by omega))
    go_enter Try.func49, Try.ntmps49
    go_wp2
    refine bodyPost_ret (v := PV 1 (renS 1 _ _ _ _) (renM 1 _ _ _)) ?_ rfl ⟨rfl, by repeat (first | exact Kept.refl _ _ | apply Kept.drew | apply Kept.alloc)⟩
    rw [unhide ES, unhide EM]
    simp [results, Try.results49, go_sem, PV]
  · rcases Int.lt_or_le 80 tm with c1 | c1
    · have ES := hide (renS1 sh tm true lv)
      have EM := hide (renMa 1 mk tm (by omega) c1)
      go_enter Try.func49, Try.ntmps49
      go_wp2
      refine bodyPost_ret (v := PV 1 (renS 1 _ _ _ _) (renM 1 _ _ _)) ?_ rfl ⟨rfl, by repeat (first | exact Kept.refl _ _ | apply Kept.drew | apply Kept.alloc)⟩
      rw [unhide ES, unhide EM]
      simp [results, Try.results49, go_sem, PV]
    · rcases Int.lt_or_le 50 tm with c2 | c2
      · have ES := hide (renS1 sh tm true lv)
        have EM := hide (renMb 1 mk tm (by omega) c1 c2)
        go_enter Try.func49, Try.ntmps49
        go_wp2
        refine bodyPost_ret (v := PV 1 (renS 1 _ _ _ _) (renM 1 _ _ _)) ?_ rfl ⟨rfl, by repeat (first | exact Kept.refl _ _ | apply Kept.drew | apply Kept.alloc)⟩
        rw [unhide ES, unhide EM]
        simp [results, Try.results49, go_sem, PV]
      · have ES := hide (renS1 sh tm true lv)
        have EM := hide (renMc 1 mk tm (by omega) c2)
        go_enter Try.func49, Try.ntmps49
        go_wp2
        refine bodyPost_ret (v := PV 1 (renS 1 _ _ _ _) (renM 1 _ _ _)) ?_ rfl ⟨rfl, by repeat (first | exact Kept.refl _ _ | apply Kept.drew | apply Kept.alloc)⟩
        rw [unhide ES, unhide EM]
        simp [results, Try.results49, go_sem, PV]
set_option maxHeartbeats 4000000 in
theorem refrenew2 (sh mk : Bool) (tm : Int) (kn lv : Bool) (w : World) :
    Calls Try.prog 49 #[.agg #[.int .i64 2, .bool sh, .bool mk], .int .i64 tm, .bool kn, .bool lv] w fun e w' => e = .returned (PV 2 (renS 2 sh tm kn lv) (renM 2 mk tm kn)) ∧ Kept [] w w' := by
  cases kn
  · have ES := hide (renS2u sh tm lv)
    have EM := hide (renMu 2 mk tm (by omega))
    go_enter Try.func49, Try.ntmps49
    go_wp2
    refine bodyPost_ret (v := PV 2 (renS 2 _ _ _ _) (renM 2 _ _ _)) ?_ rfl ⟨rfl, by repeat (first | exact Kept.refl _ _ | apply Kept.drew | apply Kept.alloc)⟩
    rw [unhide ES, unhide EM]
    simp [results, Try.results49, go_sem, PV]
  · rcases Int.lt_or_le 80 tm with c1 | c1
    · have c3 : 30 < tm := by omega
      have ES := hide (renS2a sh tm lv c3)
      have EM := hide (renMa 2 mk tm (by omega) c1)
      go_enter Try.func49, Try.ntmps49
      go_wp2
      refine bodyPost_ret (v := PV 2 (renS 2 _ _ _ _) (renM 2 _ _ _)) ?_ rfl ⟨rfl, by repeat (first | exact Kept.refl _ _ | apply Kept.drew | apply Kept.alloc)⟩
      rw [unhide ES, unhide EM]
      simp [results, Try.results49, go_sem, PV]
    · rcases Int.lt_or_le 50 tm with c2 | c2
      · have c3 : 30 < tm := by omega
        have ES := hide (renS2a sh tm lv c3)
        have EM := hide (renMb 2 mk tm (by omega) c1 c2)
        go_enter Try.func49, Try.ntmps49
        go_wp2
        refine bodyPost_ret (v := PV 2 (renS 2 _ _ _ _) (renM 2 _ _ _)) ?_ rfl ⟨rfl, by repeat (first | exact Kept.refl _ _ | apply Kept.drew | apply Kept.alloc)⟩
        rw [unhide ES, unhide EM]
        simp [results, Try.results49, go_sem, PV]
      · rcases Int.lt_or_le 30 tm with c3 | c3
        · have ES := hide (renS2a sh tm lv c3)
          have EM := hide (renMc 2 mk tm (by omega) c2)
          go_enter Try.func49, Try.ntmps49
          go_wp2
          refine bodyPost_ret (v := PV 2 (renS 2 _ _ _ _) (renM 2 _ _ _)) ?_ rfl ⟨rfl, by repeat (first | exact Kept.refl _ _ | apply Kept.drew | apply Kept.alloc)⟩
          rw [unhide ES, unhide EM]
          simp [results, Try.results49, go_sem, PV]
        · rcases Int.lt_or_le 20 tm with c4 | c4
          · have ES := hide (renS2b sh tm lv c3 c4)
            have EM := hide (renMc 2 mk tm (by omega) c2)
            go_enter Try.func49, Try.ntmps49
            go_wp2
            refine bodyPost_ret (v := PV 2 (renS 2 _ _ _ _) (renM 2 _ _ _)) ?_ rfl ⟨rfl, by repeat (first | exact Kept.refl _ _ | apply Kept.drew | apply Kept.alloc)⟩
            rw [unhide ES, unhide EM]
            simp [results, Try.results49, go_sem, PV]
          · cases lv
            · have ES := hide (renS2c sh tm c4)
              have EM := hide (renMc 2 mk tm (by omega) c2)
              go_enter Try.func49, Try.ntmps49
              go_wp2
              refine bodyPost_ret (v := PV 2 (renS 2 _ _ _ _) (renM 2 _ _ _)) ?_ rfl ⟨rfl, by repeat (first | exact Kept.refl _ _ | apply Kept.drew | apply Kept.alloc)⟩
              rw [unhide ES, unhide EM]
              simp [results, Try.results49, go_sem, PV]
            · have ES := hide (renS2d sh tm c4)
              have EM := hide (renMc 2 mk tm (by omega) c2)
              go_enter Try.func49, Try.ntmps49
              go_wp2
              refine bodyPost_ret (v := PV 2 (renS 2 _ _ _ _) (renM 2 _ _ _)) ?_ rfl ⟨rfl, by repeat (first | exact Kept.refl _ _ | apply Kept.drew | apply Kept.alloc)⟩
              rw [unhide ES, unhide EM]
              simp [results, Try.results49, go_sem, PV]
theorem refrenew_any (sh mk : Bool) (m : Int) (tm : Int) (kn lv : Bool) (w : World) (hm : m = 0 ∨ m = 1 ∨ m = 2) :
    Calls Try.prog 49 #[.agg #[.int .i64 m, .bool sh, .bool mk], .int .i64 tm, .bool kn, .bool lv] w fun e w' => e = .returned (PV m (renS m sh tm kn lv) (renM m mk tm kn)) ∧ Kept [] w w' := by
  rcases hm with rfl | rfl | rfl
  · exact refrenew0 sh mk tm kn lv w
  · exact refrenew1 sh mk tm kn lv w
  · exact refrenew2 sh mk tm kn lv w

set_option maxRecDepth 100000 in
set_option maxHeartbeats 1000000 in
theorem palike_any (sh mk : Bool) (m : Int) (g : Nat) (w : World) (h : w.heap[g]? = some (PolO sh mk m)) :
    Calls Try.prog 48 #[.pointer (some ⟨g, 0, none⟩), .agg #[.int .i64 m, .bool sh, .bool mk]] w (PHolds w true) := by
  have H := hide h
  clear h
  have h1 := fun n (w1 : World) (h1 : w1.heap[g]? = some (PolO sh mk m)) => quiet_left (w := w1) (fun W (hW : W.heap = w1.heap) => mode_any sh mk m g W (by rw [hW]; exact h1)) n
  have h2 := fun n (w1 : World) (h1 : w1.heap[g]? = some (PolO sh mk m)) => quiet_left (w := w1) (fun W (hW : W.heap = w1.heap) => shows_any sh mk m g W (by rw [hW]; exact h1)) n
  have h3 := fun n (w1 : World) (h1 : w1.heap[g]? = some (PolO sh mk m)) => quiet_left (w := w1) (fun W (hW : W.heap = w1.heap) => under_any sh mk m g W (by rw [hW]; exact h1)) n
  have H1 := hide h1
  have H2 := hide h2
  have H3 := hide h3
  clear h1 h2 h3
  cases sh <;> cases mk
  all_goals
    go_enter Try.func48, Try.ntmps48
    go_wp2_with fail
    go_quiet ((first
      | (go_at_call 52; exact unhide H1 _ _ (obj_alloc (unhide H) _))
      | (go_at_call 35; exact unhide H2 _ _ (obj_alloc (unhide H) _))
      | (go_at_call 37; exact unhide H3 _ _ (obj_alloc (unhide H) _))))
    go_wp2
    go_ret
    exact ⟨rfl, ((Kept.refl [] w).alloc _).drewN _⟩
end Go.Proofs.Ytpdabmbjnmpgbaa
