/-
  Renew, New and the chapter's example of package policy.
-/
import Derived.Test.YtpdabmbjnmpgbaaPol
namespace Go.Proofs.Ytpdabmbjnmpgbaa
open Go.RowKit
set_option linter.unusedVariables false

theorem k1 {w : World} {g i : Nat} {u : Value} : Kept [g] w (w.setCell ⟨g, i, none⟩ u) := (Kept.refl [g] w).setCell (.inl (by simp)) _
theorem k2 {w : World} {g i j : Nat} {u v : Value} : Kept [g] w ((w.setCell ⟨g, i, none⟩ u).setCell ⟨g, j, none⟩ v) := (k1 (i := i)).setCell (.inl (by simp)) _
theorem k3 {w : World} {g i j k : Nat} {u v x : Value} : Kept [g] w (((w.setCell ⟨g, i, none⟩ u).setCell ⟨g, j, none⟩ v).setCell ⟨g, k, none⟩ x) := (k2 (i := i) (j := j)).setCell (.inl (by simp)) _
theorem ren_v0 (sh mk : Bool) (tm : Int) (kn lv : Bool) : renS 0 sh tm kn lv = false ∧ renM 0 mk tm kn = false := ⟨rfl, rfl⟩
theorem renS1 (sh : Bool) (tm : Int) (kn lv : Bool) : renS 1 sh tm kn lv = true := rfl
theorem renS2u (sh : Bool) (tm : Int) (lv : Bool) : renS 2 sh tm false lv = sh := by simp [renS]
theorem renS2a (sh : Bool) (tm : Int) (lv : Bool) (h : 30 < tm) : renS 2 sh tm true lv = true := by simp [renS, h]
theorem renS2b (sh : Bool) (tm : Int) (lv : Bool) (h : tm ≤ 30) (h' : 20 < tm) : renS 2 sh tm true lv = sh := by
  unfold renS; rw [if_neg (by omega), if_neg (by omega), if_neg (by rintro ⟨_, h1⟩; omega), if_neg (by rintro ⟨_, h1, _⟩; omega)]
theorem renS2c (sh : Bool) (tm : Int) (h : tm ≤ 20) : renS 2 sh tm true false = false := by
  unfold renS; rw [if_neg (by omega), if_neg (by omega), if_neg (by rintro ⟨_, h1⟩; omega), if_pos ⟨rfl, h, rfl⟩]
theorem renS2d (sh : Bool) (tm : Int) (h : tm ≤ 20) : renS 2 sh tm true true = sh := by
  unfold renS; rw [if_neg (by omega), if_neg (by omega), if_neg (by rintro ⟨_, h1⟩; omega), if_neg (by rintro ⟨_, _, h1⟩; cases h1)]
theorem renMu (m : Int) (mk : Bool) (tm : Int) (h0 : m ≠ 0) : renM m mk tm false = mk := by simp [renM, h0]
theorem renMa (m : Int) (mk : Bool) (tm : Int) (h0 : m ≠ 0) (h : 80 < tm) : renM m mk tm true = true := by simp [renM, h0, h]
theorem renMb (m : Int) (mk : Bool) (tm : Int) (h0 : m ≠ 0) (h : tm ≤ 80) (h' : 50 < tm) : renM m mk tm true = mk := by
  unfold renM; rw [if_neg h0, if_neg (by rintro ⟨_, h1⟩; omega), if_neg (by rintro ⟨_, h1⟩; omega)]
theorem renMc (m : Int) (mk : Bool) (tm : Int) (h0 : m ≠ 0) (h : tm ≤ 50) : renM m mk tm true = false := by
  unfold renM; rw [if_neg h0, if_neg (by rintro ⟨_, h1⟩; omega), if_pos ⟨rfl, h⟩]

set_option maxHeartbeats 400000 in
theorem renew0 (sh mk : Bool) (tm : Int) (kn lv : Bool) (g : Nat) (w : World) (h : w.heap[g]? = some (PolO sh mk 0)) :
    Calls Try.prog 36 #[.pointer (some ⟨g, 0, none⟩), .int .i64 tm, .bool kn, .bool lv] w (PTurns w g (PolO (renS 0 sh tm kn lv) (renM 0 mk tm kn) 0)) := by
  obtain ⟨h0, h1, h2, hz⟩ := pol_cells h
  have H := hide h
  clear h
  have ES := hide ((ren_v0 sh mk tm kn lv).1)
  have EM := hide ((ren_v0 sh mk tm kn lv).2)
  go_enter Try.func36, Try.ntmps36
  go_wp2
  first | go_end0 | (refine bodyPost_ret (results_none rfl _ _ _) rfl ?_)
  rw [unhide ES, unhide EM]
  refine ⟨rfl, ?_, by first | with_reducible exact k1 | with_reducible exact k2 | with_reducible exact k3⟩
  first | with_reducible exact pol_set1 (pol_set0 (unhide H) _) _ | with_reducible exact pol_set0 (unhide H) _ | with_reducible exact pol_set1 (pol_set0 (pol_set0 (unhide H) _) _) _ | with_reducible exact pol_set0 (pol_set0 (unhide H) _) _
set_option maxHeartbeats 2000000 in
theorem renew1 (sh mk : Bool) (tm : Int) (kn lv : Bool) (g : Nat) (w : World) (h : w.heap[g]? = some (PolO sh mk 1)) :
    Calls Try.prog 36 #[.pointer (some ⟨g, 0, none⟩), .int .i64 tm, .bool kn, .bool lv] w (PTurns w g (PolO (renS 1 sh tm kn lv) (renM 1 mk tm kn) 1)) := by
  obtain ⟨h0, h1, h2, hz⟩ := pol_cells h
  have H := hide h
  clear h
  cases sh
  · cases kn
    · have ES := hide (renS1 false tm false lv)
      have EM := hide (renMu 1 mk tm (by omega))
      go_enter Try.func36, Try.ntmps36
      go_wp2
      first | go_end0 | (refine bodyPost_ret (results_none rfl _ _ _) rfl ?_)
      rw [unhide ES, unhide EM]
      refine ⟨rfl, ?_, by first | with_reducible exact k1 | with_reducible exact k2 | with_reducible exact k3⟩
      first | with_reducible exact pol_set1 (pol_set0 (unhide H) _) _ | with_reducible exact pol_set0 (unhide H) _ | with_reducible exact pol_set1 (pol_set0 (pol_set0 (unhide H) _) _) _ | with_reducible exact pol_set0 (pol_set0 (unhide H) _) _
    · rcases Int.lt_or_le 80 tm with c1 | c1
      · have ES := hide (renS1 false tm true lv)
        have EM := hide (renMa 1 mk tm (by omega) c1)
        go_enter Try.func36, Try.ntmps36
        go_wp2
        first | go_end0 | (refine bodyPost_ret (results_none rfl _ _ _) rfl ?_)
        rw [unhide ES, unhide EM]
        refine ⟨rfl, ?_, by first | with_reducible exact k1 | with_reducible exact k2 | with_reducible exact k3⟩
        first | with_reducible exact pol_set1 (pol_set0 (unhide H) _) _ | with_reducible exact pol_set0 (unhide H) _ | with_reducible exact pol_set1 (pol_set0 (pol_set0 (unhide H) _) _) _ | with_reducible exact pol_set0 (pol_set0 (unhide H) _) _
      · rcases Int.lt_or_le 50 tm with c2 | c2
        · have ES := hide (renS1 false tm true lv)
          have EM := hide (renMb 1 mk tm (by omega) c1 c2)
          go_enter Try.func36, Try.ntmps36
          go_wp2
          first | go_end0 | (refine bodyPost_ret (results_none rfl _ _ _) rfl ?_)
          rw [unhide ES, unhide EM]
          refine ⟨rfl, ?_, by first | with_reducible exact k1 | with_reducible exact k2 | with_reducible exact k3⟩
          first | with_reducible exact pol_set1 (pol_set0 (unhide H) _) _ | with_reducible exact pol_set0 (unhide H) _ | with_reducible exact pol_set1 (pol_set0 (pol_set0 (unhide H) _) _) _ | with_reducible exact pol_set0 (pol_set0 (unhide H) _) _
        · have ES := hide (renS1 false tm true lv)
          have EM := hide (renMc 1 mk tm (by omega) c2)
          go_enter Try.func36, Try.ntmps36
          go_wp2
          first | go_end0 | (refine bodyPost_ret (results_none rfl _ _ _) rfl ?_)
          rw [unhide ES, unhide EM]
          refine ⟨rfl, ?_, by first | with_reducible exact k1 | with_reducible exact k2 | with_reducible exact k3⟩
          first | with_reducible exact pol_set1 (pol_set0 (unhide H) _) _ | with_reducible exact pol_set0 (unhide H) _ | with_reducible exact pol_set1 (pol_set0 (pol_set0 (unhide H) _) _) _ | with_reducible exact pol_set0 (pol_set0 (unhide H) _) _
  · cases kn
    · have ES := hide (renS1 true tm false lv)
      have EM := hide (renMu 1 mk tm (by omega))
      go_enter Try.func36, Try.ntmps36
      go_wp2
      first | go_end0 | (refine bodyPost_ret (results_none rfl _ _ _) rfl ?_)
      rw [unhide ES, unhide EM]
      refine ⟨rfl, ?_, by first | with_reducible exact k1 | with_reducible exact k2 | with_reducible exact k3⟩
      first | with_reducible exact pol_set1 (pol_set0 (unhide H) _) _ | with_reducible exact pol_set0 (unhide H) _ | with_reducible exact pol_set1 (pol_set0 (pol_set0 (unhide H) _) _) _ | with_reducible exact pol_set0 (pol_set0 (unhide H) _) _
    · rcases Int.lt_or_le 80 tm with c1 | c1
      · have ES := hide (renS1 true tm true lv)
        have EM := hide (renMa 1 mk tm (by omega) c1)
        go_enter Try.func36, Try.ntmps36
        go_wp2
        first | go_end0 | (refine bodyPost_ret (results_none rfl _ _ _) rfl ?_)
        rw [unhide ES, unhide EM]
        refine ⟨rfl, ?_, by first | with_reducible exact k1 | with_reducible exact k2 | with_reducible exact k3⟩
        first | with_reducible exact pol_set1 (pol_set0 (unhide H) _) _ | with_reducible exact pol_set0 (unhide H) _ | with_reducible exact pol_set1 (pol_set0 (pol_set0 (unhide H) _) _) _ | with_reducible exact pol_set0 (pol_set0 (unhide H) _) _
      · rcases Int.lt_or_le 50 tm with c2 | c2
        · have ES := hide (renS1 true tm true lv)
          have EM := hide (renMb 1 mk tm (by omega) c1 c2)
          go_enter Try.func36, Try.ntmps36
          go_wp2
          first | go_end0 | (refine bodyPost_ret (results_none rfl _ _ _) rfl ?_)
          rw [unhide ES, unhide EM]
          refine ⟨rfl, ?_, by first | with_reducible exact k1 | with_reducible exact k2 | with_reducible exact k3⟩
          first | with_reducible exact pol_set1 (pol_set0 (unhide H) _) _ | with_reducible exact pol_set0 (unhide H) _ | with_reducible exact pol_set1 (pol_set0 (pol_set0 (unhide H) _) _) _ | with_reducible exact pol_set0 (pol_set0 (unhide H) _) _
        · have ES := hide (renS1 true tm true lv)
          have EM := hide (renMc 1 mk tm (by omega) c2)
          go_enter Try.func36, Try.ntmps36
          go_wp2
          first | go_end0 | (refine bodyPost_ret (results_none rfl _ _ _) rfl ?_)
          rw [unhide ES, unhide EM]
          refine ⟨rfl, ?_, by first | with_reducible exact k1 | with_reducible exact k2 | with_reducible exact k3⟩
          first | with_reducible exact pol_set1 (pol_set0 (unhide H) _) _ | with_reducible exact pol_set0 (unhide H) _ | with_reducible exact pol_set1 (pol_set0 (pol_set0 (unhide H) _) _) _ | with_reducible exact pol_set0 (pol_set0 (unhide H) _) _
set_option maxHeartbeats 4000000 in
theorem renew2 (sh mk : Bool) (tm : Int) (kn lv : Bool) (g : Nat) (w : World) (h : w.heap[g]? = some (PolO sh mk 2)) :
    Calls Try.prog 36 #[.pointer (some ⟨g, 0, none⟩), .int .i64 tm, .bool kn, .bool lv] w (PTurns w g (PolO (renS 2 sh tm kn lv) (renM 2 mk tm kn) 2)) := by
  obtain ⟨h0, h1, h2, hz⟩ := pol_cells h
  have H := hide h
  clear h
  cases sh
  · cases kn
    · have ES := hide (renS2u false tm lv)
      have EM := hide (renMu 2 mk tm (by omega))
      go_enter Try.func36, Try.ntmps36
      go_wp2
      first | go_end0 | (refine bodyPost_ret (results_none rfl _ _ _) rfl ?_)
      rw [unhide ES, unhide EM]
      refine ⟨rfl, ?_, by first | with_reducible exact k1 | with_reducible exact k2 | with_reducible exact k3⟩
      first | with_reducible exact pol_set1 (pol_set0 (unhide H) _) _ | with_reducible exact pol_set0 (unhide H) _ | with_reducible exact pol_set1 (pol_set0 (pol_set0 (unhide H) _) _) _ | with_reducible exact pol_set0 (pol_set0 (unhide H) _) _
    · rcases Int.lt_or_le 80 tm with c1 | c1
      · have c3 : 30 < tm := by omega
        have ES := hide (renS2a false tm lv c3)
        have EM := hide (renMa 2 mk tm (by omega) c1)
        go_enter Try.func36, Try.ntmps36
        go_wp2
        first | go_end0 | (refine bodyPost_ret (results_none rfl _ _ _) rfl ?_)
        rw [unhide ES, unhide EM]
        refine ⟨rfl, ?_, by first | with_reducible exact k1 | with_reducible exact k2 | with_reducible exact k3⟩
        first | with_reducible exact pol_set1 (pol_set0 (unhide H) _) _ | with_reducible exact pol_set0 (unhide H) _ | with_reducible exact pol_set1 (pol_set0 (pol_set0 (unhide H) _) _) _ | with_reducible exact pol_set0 (pol_set0 (unhide H) _) _
      · rcases Int.lt_or_le 50 tm with c2 | c2
        · have c3 : 30 < tm := by omega
          have ES := hide (renS2a false tm lv c3)
          have EM := hide (renMb 2 mk tm (by omega) c1 c2)
          go_enter Try.func36, Try.ntmps36
          go_wp2
          first | go_end0 | (refine bodyPost_ret (results_none rfl _ _ _) rfl ?_)
          rw [unhide ES, unhide EM]
          refine ⟨rfl, ?_, by first | with_reducible exact k1 | with_reducible exact k2 | with_reducible exact k3⟩
          first | with_reducible exact pol_set1 (pol_set0 (unhide H) _) _ | with_reducible exact pol_set0 (unhide H) _ | with_reducible exact pol_set1 (pol_set0 (pol_set0 (unhide H) _) _) _ | with_reducible exact pol_set0 (pol_set0 (unhide H) _) _
        · rcases Int.lt_or_le 30 tm with c3 | c3
          · have ES := hide (renS2a false tm lv c3)
            have EM := hide (renMc 2 mk tm (by omega) c2)
            go_enter Try.func36, Try.ntmps36
            go_wp2
            first | go_end0 | (refine bodyPost_ret (results_none rfl _ _ _) rfl ?_)
            rw [unhide ES, unhide EM]
            refine ⟨rfl, ?_, by first | with_reducible exact k1 | with_reducible exact k2 | with_reducible exact k3⟩
            first | with_reducible exact pol_set1 (pol_set0 (unhide H) _) _ | with_reducible exact pol_set0 (unhide H) _ | with_reducible exact pol_set1 (pol_set0 (pol_set0 (unhide H) _) _) _ | with_reducible exact pol_set0 (pol_set0 (unhide H) _) _
          · rcases Int.lt_or_le 20 tm with c4 | c4
            · have ES := hide (renS2b false tm lv c3 c4)
              have EM := hide (renMc 2 mk tm (by omega) c2)
              go_enter Try.func36, Try.ntmps36
              go_wp2
              first | go_end0 | (refine bodyPost_ret (results_none rfl _ _ _) rfl ?_)
              rw [unhide ES, unhide EM]
              refine ⟨rfl, ?_, by first | with_reducible exact k1 | with_reducible exact k2 | with_reducible exact k3⟩
              first | with_reducible exact pol_set1 (pol_set0 (unhide H) _) _ | with_reducible exact pol_set0 (unhide H) _ | with_reducible exact pol_set1 (pol_set0 (pol_set0 (unhide H) _) _) _ | with_reducible exact pol_set0 (pol_set0 (unhide H) _) _
            · cases lv
              · have ES := hide (renS2c false tm c4)
                have EM := hide (renMc 2 mk tm (by omega) c2)
                go_enter Try.func36, Try.ntmps36
                go_wp2
                first | go_end0 | (refine bodyPost_ret (results_none rfl _ _ _) rfl ?_)
                rw [unhide ES, unhide EM]
                refine ⟨rfl, ?_, by first | with_reducible exact k1 | with_reducible exact k2 | with_reducible exact k3⟩
                first | with_reducible exact pol_set1 (pol_set0 (unhide H) _) _ | with_reducible exact pol_set0 (unhide H) _ | with_reducible exact pol_set1 (pol_set0 (pol_set0 (unhide H) _) _) _ | with_reducible exact pol_set0 (pol_set0 (unhide H) _) _
              · have ES := hide (renS2d false tm c4)
                have EM := hide (renMc 2 mk tm (by omega) c2)
                go_enter Try.func36, Try.ntmps36
                go_wp2
                first | go_end0 | (refine bodyPost_ret (results_none rfl _ _ _) rfl ?_)
                rw [unhide ES, unhide EM]
                refine ⟨rfl, ?_, by first | with_reducible exact k1 | with_reducible exact k2 | with_reducible exact k3⟩
                first | with_reducible exact pol_set1 (pol_set0 (unhide H) _) _ | with_reducible exact pol_set0 (unhide H) _ | with_reducible exact pol_set1 (pol_set0 (pol_set0 (unhide H) _) _) _ | with_reducible exact pol_set0 (pol_set0 (unhide H) _) _
  · cases kn
    · have ES := hide (renS2u true tm lv)
      have EM := hide (renMu 2 mk tm (by omega))
      go_enter Try.func36, Try.ntmps36
      go_wp2
      first | go_end0 | (refine bodyPost_ret (results_none rfl _ _ _) rfl ?_)
      rw [unhide ES, unhide EM]
      refine ⟨rfl, ?_, by first | with_reducible exact k1 | with_reducible exact k2 | with_reducible exact k3⟩
      first | with_reducible exact pol_set1 (pol_set0 (unhide H) _) _ | with_reducible exact pol_set0 (unhide H) _ | with_reducible exact pol_set1 (pol_set0 (pol_set0 (unhide H) _) _) _ | with_reducible exact pol_set0 (pol_set0 (unhide H) _) _
    · rcases Int.lt_or_le 80 tm with c1 | c1
      · have c3 : 30 < tm := by omega
        have ES := hide (renS2a true tm lv c3)
        have EM := hide (renMa 2 mk tm (by omega) c1)
        go_enter Try.func36, Try.ntmps36
        go_wp2
        first | go_end0 | (refine bodyPost_ret (results_none rfl _ _ _) rfl ?_)
        rw [unhide ES, unhide EM]
        refine ⟨rfl, ?_, by first | with_reducible exact k1 | with_reducible exact k2 | with_reducible exact k3⟩
        first | with_reducible exact pol_set1 (pol_set0 (unhide H) _) _ | with_reducible exact pol_set0 (unhide H) _ | with_reducible exact pol_set1 (pol_set0 (pol_set0 (unhide H) _) _) _ | with_reducible exact pol_set0 (pol_set0 (unhide H) _) _
      · rcases Int.lt_or_le 50 tm with c2 | c2
        · have c3 : 30 < tm := by omega
          have ES := hide (renS2a true tm lv c3)
          have EM := hide (renMb 2 mk tm (by omega) c1 c2)
          go_enter Try.func36, Try.ntmps36
          go_wp2
          first | go_end0 | (refine bodyPost_ret (results_none rfl _ _ _) rfl ?_)
          rw [unhide ES, unhide EM]
          refine ⟨rfl, ?_, by first | with_reducible exact k1 | with_reducible exact k2 | with_reducible exact k3⟩
          first | with_reducible exact pol_set1 (pol_set0 (unhide H) _) _ | with_reducible exact pol_set0 (unhide H) _ | with_reducible exact pol_set1 (pol_set0 (pol_set0 (unhide H) _) _) _ | with_reducible exact pol_set0 (pol_set0 (unhide H) _) _
        · rcases Int.lt_or_le 30 tm with c3 | c3
          · have ES := hide (renS2a true tm lv c3)
            have EM := hide (renMc 2 mk tm (by omega) c2)
            go_enter Try.func36, Try.ntmps36
            go_wp2
            first | go_end0 | (refine bodyPost_ret (results_none rfl _ _ _) rfl ?_)
            rw [unhide ES, unhide EM]
            refine ⟨rfl, ?_, by first | with_reducible exact k1 | with_reducible exact k2 | with_reducible exact k3⟩
            first | with_reducible exact pol_set1 (pol_set0 (unhide H) _) _ | with_reducible exact pol_set0 (unhide H) _ | with_reducible exact pol_set1 (pol_set0 (pol_set0 (unhide H) _) _) _ | with_reducible exact pol_set0 (pol_set0 (unhide H) _) _
          · rcases Int.lt_or_le 20 tm with c4 | c4
            · have ES := hide (renS2b true tm lv c3 c4)
              have EM := hide (renMc 2 mk tm (by omega) c2)
              go_enter Try.func36, Try.ntmps36
              go_wp2
              first | go_end0 | (refine bodyPost_ret (results_none rfl _ _ _) rfl ?_)
              rw [unhide ES, unhide EM]
              refine ⟨rfl, ?_, by first | with_reducible exact k1 | with_reducible exact k2 | with_reducible exact k3⟩
              first | with_reducible exact pol_set1 (pol_set0 (unhide H) _) _ | with_reducible exact pol_set0 (unhide H) _ | with_reducible exact pol_set1 (pol_set0 (pol_set0 (unhide H) _) _) _ | with_reducible exact pol_set0 (pol_set0 (unhide H) _) _
            · cases lv
              · have ES := hide (renS2c true tm c4)
                have EM := hide (renMc 2 mk tm (by omega) c2)
                go_enter Try.func36, Try.ntmps36
                go_wp2
                first | go_end0 | (refine bodyPost_ret (results_none rfl _ _ _) rfl ?_)
                rw [unhide ES, unhide EM]
                refine ⟨rfl, ?_, by first | with_reducible exact k1 | with_reducible exact k2 | with_reducible exact k3⟩
                first | with_reducible exact pol_set1 (pol_set0 (unhide H) _) _ | with_reducible exact pol_set0 (unhide H) _ | with_reducible exact pol_set1 (pol_set0 (pol_set0 (unhide H) _) _) _ | with_reducible exact pol_set0 (pol_set0 (unhide H) _) _
              · have ES := hide (renS2d true tm c4)
                have EM := hide (renMc 2 mk tm (by omega) c2)
                go_enter Try.func36, Try.ntmps36
                go_wp2
                first | go_end0 | (refine bodyPost_ret (results_none rfl _ _ _) rfl ?_)
                rw [unhide ES, unhide EM]
                refine ⟨rfl, ?_, by first | with_reducible exact k1 | with_reducible exact k2 | with_reducible exact k3⟩
                first | with_reducible exact pol_set1 (pol_set0 (unhide H) _) _ | with_reducible exact pol_set0 (unhide H) _ | with_reducible exact pol_set1 (pol_set0 (pol_set0 (unhide H) _) _) _ | with_reducible exact pol_set0 (pol_set0 (unhide H) _) _
theorem renew_any (sh mk : Bool) (m : Int) (tm : Int) (kn lv : Bool) (g : Nat) (w : World) (h : w.heap[g]? = some (PolO sh mk m)) (hm : m = 0 ∨ m = 1 ∨ m = 2) :
    Calls Try.prog 36 #[.pointer (some ⟨g, 0, none⟩), .int .i64 tm, .bool kn, .bool lv] w (PTurns w g (PolO (renS m sh tm kn lv) (renM m mk tm kn) m)) := by
  rcases hm with rfl | rfl | rfl
  · exact renew0 sh mk tm kn lv g w h
  · exact renew1 sh mk tm kn lv g w h
  · exact renew2 sh mk tm kn lv g w h
end Go.Proofs.Ytpdabmbjnmpgbaa
