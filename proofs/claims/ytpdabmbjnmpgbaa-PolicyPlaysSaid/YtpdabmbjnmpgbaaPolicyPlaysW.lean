/-
  The walk of PolicyPlays.
-/
import Derived.Test.YtpdabmbjnmpgbaaPolicyPlaysV
import Derived.Test.YtpdabmbjnmpgbaaPolicyHoldsW
namespace Go.Proofs.Ytpdabmbjnmpgbaa
open Go.RowKit
set_option linter.unusedVariables false

def DocO (m : Int) (sh mk : Bool) : Obj := .cells #[.int .i64 m, .bool sh, .bool mk] 69 (0, 0)
/-- How the law's policy and the document's stand. -/
structure PSit (w wi : World) (g B : Nat) (sh mk : Bool) (m : Int) : Prop where
  pol : wi.heap[g]? = some (PolO sh mk m)
  doc : wi.heap[B]? = some (DocO m sh mk)
  gw : w.heap.size ≤ g
  Bw : w.heap.size ≤ B
  mode : m = 0 ∨ m = 1 ∨ m = 2
  kept : Kept [] w wi
section
variable {w wi wj : World} {g B : Nat} {sh mk sh' mk' : Bool} {m m' : Int}
theorem PSit.ne (h : PSit w wi g B sh mk m) : g ≠ B := by
  intro e
  have h1 := h.pol
  rw [e, h.doc] at h1
  simp [DocO, PolO] at h1
theorem PSit.next (h : PSit w wi g B sh mk m) (k : Kept [] wi wj) : PSit w wj g B sh mk m := ⟨k.obj h.pol (by simp), k.obj h.doc (by simp), h.gw, h.Bw, h.mode, h.kept.trans k (by simp)⟩
theorem PSit.cells (h : PSit w wi g B sh mk m) : wi.cell? ⟨B, 0, none⟩ = some (.int .i64 m) ∧ wi.cell? ⟨B, 1, none⟩ = some (.bool sh) ∧ wi.cell? ⟨B, 2, none⟩ = some (.bool mk) ∧ ∀ i, wi.frozen? ⟨B, i, none⟩ = false :=
  ⟨obj_cell h.doc 0, obj_cell h.doc 1, obj_cell h.doc 2, obj_frozen h.doc⟩
/-- The policy has turned, and the document's is stored. -/
theorem PSit.both {w5 w6 : World} (h : PSit w wi g B sh mk m) (ho : w5.heap[g]? = some (PolO sh' mk' m')) (k : Kept [g] wi w5) (k6 : Kept [] w5 w6) (hm : m' = 0 ∨ m' = 1 ∨ m' = 2) :
    PSit w (((w6.setCell ⟨B, 0, none⟩ (.int .i64 m')).setCell ⟨B, 1, none⟩ (.bool sh')).setCell ⟨B, 2, none⟩ (.bool mk')) g B sh' mk' m' := by
  have hne := h.ne
  have hg := h.gw
  have hB := h.Bw
  have h1 : w6.heap[g]? = some (PolO sh' mk' m') := k6.obj ho (by simp)
  have h2 : w6.heap[B]? = some (DocO m sh mk) := k6.obj (k.obj h.doc (by simp; omega)) (by simp)
  have h3 : Kept [] w w6 := (h.kept.trans k (by intro i hi hm; simp at hm; omega)).trans k6 (by simp)
  exact ⟨obj_far (obj_far (obj_far h1 hne _) hne _) hne _, obj_set (obj_set (obj_set h2 0 _) 1 _) 2 _, hg, hB, hm, ((h3.setCell (.inr hB) _).setCell (.inr hB) _).setCell (.inr hB) _⟩
/-- The copy takes the policy's place; the old one turns. -/
theorem PSit.swap {w3 : World} {c : Nat} (h : PSit w wi g B sh mk m) (hc : wi.heap[c]? = some (PolO sh mk m)) (hgc : g < c) (k : Kept [g] wi w3) : PSit w w3 c B sh mk m := by
  have hne := h.ne
  have hg := h.gw
  exact ⟨k.obj hc (by simp; omega), k.obj h.doc (by simp; omega), by omega, h.Bw, h.mode, h.kept.trans k (by intro i hi hm; simp at hm; omega)⟩
end
theorem pset_any (n : Int) (sh mk : Bool) (m : Int) (g : Nat) (w : World) (h : w.heap[g]? = some (PolO sh mk m)) (hm : m = 0 ∨ m = 1 ∨ m = 2) (hn : n = 2 - m) :
    Calls Try.prog 50 #[.pointer (some ⟨g, 0, none⟩), .int .i64 n] w fun e w' => e = .returned (.int .i64 0) ∧ w'.heap[g]? = some (PolO (setS n sh) (setM n mk) n) ∧ Kept [g] w w' := pset_yes n sh mk m g w h (by omega)

theorem refset_agg (n m : Int) (sh mk : Bool) (w : World) (hn : n = 0 ∨ n = 1 ∨ n = 2) :
    Calls Try.prog 47 #[.agg #[.int .i64 m, .bool sh, .bool mk], .int .i64 n] w fun e w' => e = .returned (.agg #[.int .i64 n, .bool (setS n sh), .bool (setM n mk)]) ∧ Kept [] w w' := refset_any n m sh mk w hn
theorem refrenew_agg (sh mk : Bool) (m : Int) (tm : Int) (kn lv : Bool) (w : World) (hm : m = 0 ∨ m = 1 ∨ m = 2) :
    Calls Try.prog 49 #[.agg #[.int .i64 m, .bool sh, .bool mk], .int .i64 tm, .bool kn, .bool lv] w fun e w' => e = .returned (.agg #[.int .i64 m, .bool (renS m sh tm kn lv), .bool (renM m mk tm kn)]) ∧ Kept [] w w' := refrenew_any sh mk m tm kn lv w hm
/-- A mode that is none. -/
theorem plays_no (w : World) (mode : Int) (A : Option Addr) (n c : Nat) (h : mode < 0 ∨ 2 < mode) : Calls Try.prog 9 #[.int .i64 mode, .slice A n c] w (PHolds w true) := by
  have HW := hide (fun W => word_no mode W h)
  have HN := hide (fun W => pnew_no mode W h)
  rcases h with h | h
  all_goals
    go_enter Try.func9, Try.ntmps9
    go_wp2_with fail
    refine (unhide HN _).mono ?_
    rintro e w1 ⟨rfl, hk⟩
    have HK := hide hk
    clear hk
    go_wp2_with (first
      | (go_at_call 39; refine (unhide HW _).mono ?_; rintro e w' ⟨rfl, rfl⟩)
      | (go_at_call 38; refine (known26 _).mono ?_; rintro e w2 ⟨rfl, hk2⟩))
    go_ret
    exact ⟨rfl, (unhide HK).trans hk2 (by simp)⟩

theorem word_any (n : Int) (W : World) (h : n = 0 ∨ n = 1 ∨ n = 2) : Calls Try.prog 39 #[.int .i64 n] W fun e w' => ∃ s : ByteArray, s.toList.isEmpty = false ∧ s.toList ≠ [] ∧ e = .returned (.string s) ∧ W = w' := by
  rcases h with rfl | rfl | rfl
  · exact (word0 W).mono fun e w' ⟨he, hw⟩ => ⟨_, by decide +kernel, by decide +kernel, he, hw⟩
  · exact (word1 W).mono fun e w' ⟨he, hw⟩ => ⟨_, by decide +kernel, by decide +kernel, he, hw⟩
  · exact (word2 W).mono fun e w' ⟨he, hw⟩ => ⟨_, by decide +kernel, by decide +kernel, he, hw⟩

set_option maxRecDepth 100000 in
set_option maxHeartbeats 4000000 in
theorem plays_yes (w : World) (mode : Int) (A : Option Addr) (n c : Nat) (hA : PActs w A n) (h : mode = 0 ∨ mode = 1 ∨ mode = 2) : Calls Try.prog 9 #[.int .i64 mode, .slice A n c] w (PHolds w true) := by
  have hl : n ≤ 9223372036854775807 := hA.1
  have HA := hide hA
  clear hA
  have HN := hide (fun W => pnew_yes mode W h)
  have HM := hide h
  have HS := hide (fun W => refset_agg mode 0 false false W h)
  have HW := hide (fun W => word_any mode W h)
  have hm0 : 0 ≤ mode := by omega
  have hm2 : mode ≤ 2 := by omega
  clear h
  go_enter Try.func9, Try.ntmps9
  go_wp2_with fail
  refine (unhide HN _).mono ?_
  rintro e w1 ⟨rfl, ho, hk⟩
  have HO := hide ho
  have HK := hide hk
  clear ho hk
  go_wp2_with fail
  refine (unhide HW _).mono ?_
  rintro e w' ⟨s, hs1, hs2, rfl, rfl⟩
  go_wp2_with fail
  clear hs1 hs2
  refine (unhide HS _).mono ?_
  rintro e w2 ⟨rfl, hk2⟩
  have e2 : setM mode false = false := by unfold setM; split <;> rfl
  have hsit : PSit w (w2.alloc (DocO mode (setS mode false) (setM mode false))) w.heap.size w2.heap.size (setS mode false) (setM mode false) mode :=
    ⟨by rw [e2]; exact obj_alloc (hk2.obj (unhide HO) (by simp)) _, obj_new w2 _, Nat.le_refl _, Nat.le_trans (unhide HK).size hk2.size, unhide HM, ((unhide HK).trans hk2 (by simp)).alloc _⟩
  have S0 := hide hsit
  clear hsit hk2 e2 HN HS HW HO HK HM hm0 hm2
  go_wp2_with fail
  go_loopw [5, 8] (fun p i wr => ∃ (k g : Nat) (sh mk : Bool) (m : Int), k ≤ n ∧ k ≤ 60 ∧ i = .int .i64 k ∧ p = .pointer (some ⟨g, 0, none⟩) ∧ PSit w wr g w2.heap.size sh mk m) (fun _ i _ => 60 - (intOf i).toNat)
  case atStart => exact ⟨0, _, _, _, _, by omega, by omega, rfl, rfl, unhide S0⟩
  case round =>
    obtain ⟨k, g, sh, mk, m, hkn, hk60, rfl, rfl, hsit⟩ := hrel
    have S1 := hide hsit
    clear hsit S0
    generalize w2.heap.size = B at *
    by_cases hlt : k < n ∧ k < 60
    · obtain ⟨hlt1, hlt2⟩ := hlt
      obtain ⟨m0, m1, m2, mz⟩ := (unhide S1).cells
      go_wp2_with fail
      refine (palike_any _ _ _ _ _ (unhide S1).pol).mono ?_
      rintro e w3 ⟨rfl, hk3⟩
      have S3 := hide ((unhide S1).next hk3)
      clear hk3 m0 m1 m2 mz
      obtain ⟨b, off, kd, x, kn, lv, rfl, hb, wm, c0, c1, c2, c3⟩ := ((unhide HA).kept (unhide S3).kept).2 k hlt1
      have S4 := hide ((unhide S3).next ((Kept.refl [] w3).alloc (.cells #[.int .i64 kd, .int .i64 x, .bool kn, .bool lv] 57)))
      have HX := hide (obj_new w3 (.cells #[.int .i64 kd, .int .i64 x, .bool kn, .bool lv] 57))
      clear wm
      by_cases hk0 : kd = 0
      · subst hk0
        go_wp2_with fail
        refine (renew_any _ _ _ _ _ _ _ _ (unhide S4).pol (unhide S4).mode).mono ?_
        rintro e w5 ⟨rfl, ho5, hk5⟩
        have hg4 := heap_lt (unhide S3).pol
        have HX5 := hide (hk5.obj (unhide HX) (by simp; omega))
        obtain ⟨x1, x2, x3⟩ : w5.cell? ⟨w3.heap.size, 1, none⟩ = some (.int .i64 x) ∧ w5.cell? ⟨w3.heap.size, 2, none⟩ = some (.bool kn) ∧ w5.cell? ⟨w3.heap.size, 3, none⟩ = some (.bool lv) := ⟨obj_cell (unhide HX5) 1, obj_cell (unhide HX5) 2, obj_cell (unhide HX5) 3⟩
        have HD5 := hide (hk5.obj (unhide S4).doc (by simp; exact fun e => (unhide S4).ne e.symm))
        obtain ⟨m0, m1, m2⟩ : w5.cell? ⟨B, 0, none⟩ = some (.int .i64 m) ∧ w5.cell? ⟨B, 1, none⟩ = some (.bool sh) ∧ w5.cell? ⟨B, 2, none⟩ = some (.bool mk) := ⟨obj_cell (unhide HD5) 0, obj_cell (unhide HD5) 1, obj_cell (unhide HD5) 2⟩
        have O5 := hide ho5
        have K5 := hide hk5
        clear ho5 hk5 c0 c1 c2 c3
        go_wp2_with fail
        refine (refrenew_agg _ _ _ _ _ _ _ (unhide S4).mode).mono ?_
        rintro e w6 ⟨rfl, hk6⟩
        have HD6 := hide (hk6.obj (unhide HD5) (by simp))
        clear m0 m1 m2 x1 x2 x3
        obtain ⟨m0, m1, m2, mz⟩ : w6.cell? ⟨B, 0, none⟩ = some (.int .i64 m) ∧ w6.cell? ⟨B, 1, none⟩ = some (.bool sh) ∧ w6.cell? ⟨B, 2, none⟩ = some (.bool mk) ∧ ∀ i, w6.frozen? ⟨B, i, none⟩ = false := ⟨obj_cell (unhide HD6) 0, obj_cell (unhide HD6) 1, obj_cell (unhide HD6) 2, obj_frozen (unhide HD6)⟩
        have S6 := hide ((unhide S4).both (unhide O5) (unhide K5) hk6 (unhide S4).mode (mk' := renM m mk x kn))
        clear hk6
        go_wp2_with fail
        exact ⟨⟨k + 1, _, _, _, _, by omega, by omega, by go_num, rfl, unhide S6⟩, by simp [intOf]; omega⟩
      · have b0 : (kd == 0) = false := by simpa using hk0
        clear hk0
        by_cases hk1 : kd = 1
        · subst hk1
          clear b0
          by_cases hx : x < 0 ∨ 2 < x
          · have hno := hide (pset_no x g (w3.alloc (.cells #[.int .i64 1, .int .i64 x, .bool kn, .bool lv] 57)) hx)
            rcases hx with hx | hx
            all_goals
              go_wp2_with (go_at_call 50; refine (unhide hno).mono ?_; rintro e w' ⟨rfl, rfl⟩)
              exact ⟨⟨k + 1, _, _, _, _, by omega, by omega, by go_num, rfl, unhide S4⟩, by simp [intOf]; omega⟩
          · have hx1 : 0 ≤ x := by omega
            have hx2 : x ≤ 2 := by omega
            have HX3 : Hid (x = 0 ∨ x = 1 ∨ x = 2) := hide (by omega)
            clear hx
            go_wp2_with fail
            refine (pset_yes _ _ _ _ _ _ (unhide S4).pol (unhide HX3)).mono ?_
            rintro e w5 ⟨rfl, ho5, hk5⟩
            have hg4 := heap_lt (unhide S3).pol
            have HX5 := hide (hk5.obj (unhide HX) (by simp; omega))
            obtain ⟨x1, x2, x3⟩ : w5.cell? ⟨w3.heap.size, 1, none⟩ = some (.int .i64 x) ∧ w5.cell? ⟨w3.heap.size, 2, none⟩ = some (.bool kn) ∧ w5.cell? ⟨w3.heap.size, 3, none⟩ = some (.bool lv) := ⟨obj_cell (unhide HX5) 1, obj_cell (unhide HX5) 2, obj_cell (unhide HX5) 3⟩
            have HD5 := hide (hk5.obj (unhide S4).doc (by simp; exact fun e => (unhide S4).ne e.symm))
            obtain ⟨m0, m1, m2⟩ : w5.cell? ⟨B, 0, none⟩ = some (.int .i64 m) ∧ w5.cell? ⟨B, 1, none⟩ = some (.bool sh) ∧ w5.cell? ⟨B, 2, none⟩ = some (.bool mk) := ⟨obj_cell (unhide HD5) 0, obj_cell (unhide HD5) 1, obj_cell (unhide HD5) 2⟩
            have O5 := hide ho5
            have K5 := hide hk5
            clear ho5 hk5 c0 c1 c2 c3
            go_wp2_with fail
            refine (refset_agg _ _ _ _ _ (unhide HX3)).mono ?_
            rintro e w6 ⟨rfl, hk6⟩
            have HD6 := hide (hk6.obj (unhide HD5) (by simp))
            clear m0 m1 m2 x1 x2 x3
            obtain ⟨m0, m1, m2, mz⟩ : w6.cell? ⟨B, 0, none⟩ = some (.int .i64 m) ∧ w6.cell? ⟨B, 1, none⟩ = some (.bool sh) ∧ w6.cell? ⟨B, 2, none⟩ = some (.bool mk) ∧ ∀ i, w6.frozen? ⟨B, i, none⟩ = false := ⟨obj_cell (unhide HD6) 0, obj_cell (unhide HD6) 1, obj_cell (unhide HD6) 2, obj_frozen (unhide HD6)⟩
            have S6 := hide ((unhide S4).both (unhide O5) (unhide K5) hk6 (unhide HX3) (mk' := setM x mk))
            clear hk6
            go_wp2_with fail
            exact ⟨⟨k + 1, _, _, _, _, by omega, by omega, by go_num, rfl, unhide S6⟩, by simp [intOf]; omega⟩
        · have b1 : (kd == 1) = false := by simpa using hk1
          clear hk1
          by_cases hk2 : kd = 2
          · subst hk2
            clear b0 b1
            go_wp2_with fail
            refine (pcopy_any _ _ _ _ _ (unhide S4).pol).mono ?_
            rintro e w5 ⟨rfl, ho5, hk5⟩
            have S5 := hide ((unhide S4).next hk5)
            have HX5 := hide (hk5.obj (unhide HX) (by simp))
            have hlt5 : g < w3.heap.size + 1 := by have := heap_lt (unhide S3).pol; omega
            have ho6 : w5.heap[w3.heap.size + 1]? = some (PolO sh mk m) := by simpa using ho5
            have L5 := hide hlt5
            have C5 := hide ho6
            clear ho5 ho6 hk5 c0 c1 c2 c3 hlt5
            obtain ⟨m0, m1, m2, mz⟩ := (unhide S5).cells
            go_wp2_with fail
            refine (palike_any _ _ _ _ _ (unhide C5)).mono ?_
            rintro e w6 ⟨rfl, hk6⟩
            have S6 := hide ((unhide S5).next hk6)
            have C6 := hide (hk6.obj (unhide C5) (by simp))
            have HX6 := hide (hk6.obj (unhide HX5) (by simp))
            clear hk6 m0 m1 m2 mz
            obtain ⟨m0, m1, m2, mz⟩ := (unhide S6).cells
            have hm1 : 0 ≤ m := by have := (unhide S6).mode; omega
            have hm2 : m ≤ 2 := by have := (unhide S6).mode; omega
            go_wp2_with fail
            refine (pset_any _ _ _ _ _ _ (unhide S6).pol (unhide S6).mode (by rfl)).mono ?_
            rintro e w7 ⟨rfl, ho7, hk7⟩
            have O7 := hide ho7
            have hgX : w3.heap.size ≠ g := by have := heap_lt (unhide S3).pol; omega
            have HX7 := hide (hk7.obj (unhide HX6) (by simpa using hgX))
            have x1 : w7.cell? ⟨w3.heap.size, 1, none⟩ = some (.int .i64 x) := obj_cell (unhide HX7) 1
            have K7 := hide hk7
            clear ho7 hk7 m0 m1 m2 mz
            go_wp2_with fail
            refine (renew_any _ _ _ _ _ _ _ _ (unhide O7) (by omega)).mono ?_
            rintro e w8 ⟨rfl, ho8, hk8⟩
            have S8 := hide ((unhide S6).swap (unhide C6) (unhide L5) ((unhide K7).trans hk8 (by simp)))
            clear ho8 hk8 x1
            go_wp2_with fail
            exact ⟨⟨k + 1, _, _, _, _, by omega, by omega, by go_num, rfl, unhide S8⟩, by simp [intOf]; omega⟩
          · have b2 : (kd == 2) = false := by simpa using hk2
            clear hk2
            go_wp2_with fail
            exact ⟨⟨k + 1, _, _, _, _, by omega, by omega, by go_num, rfl, unhide S4⟩, by simp [intOf]; omega⟩
    · have HX := hide hlt
      clear hlt
      by_cases hn : k < n
      · have h6 : ¬ k < 60 := fun h => unhide HX ⟨hn, h⟩
        go_wp2_with fail
        refine (known26 _).mono ?_
        rintro e w3 ⟨rfl, hk3⟩
        have S3 := hide ((unhide S1).next hk3)
        clear hk3
        obtain ⟨m0, m1, m2, mz⟩ := (unhide S3).cells
        go_wp2_with fail
        refine (palike_any _ _ _ _ _ (unhide S3).pol).mono ?_
        rintro e w4 ⟨rfl, hk4⟩
        have S4 := hide ((unhide S3).next hk4)
        clear hk4 m0 m1 m2 mz
        go_wp2_with fail
        go_ret
        exact ⟨rfl, (unhide S4).kept⟩
      · have h6 : ¬ k < n := hn
        go_wp2_with fail
        refine (known26 _).mono ?_
        rintro e w3 ⟨rfl, hk3⟩
        have S3 := hide ((unhide S1).next hk3)
        clear hk3
        obtain ⟨m0, m1, m2, mz⟩ := (unhide S3).cells
        go_wp2_with fail
        refine (palike_any _ _ _ _ _ (unhide S3).pol).mono ?_
        rintro e w4 ⟨rfl, hk4⟩
        have S4 := hide ((unhide S3).next hk4)
        clear hk4 m0 m1 m2 mz
        go_wp2_with fail
        go_ret
        exact ⟨rfl, (unhide S4).kept⟩

theorem walk_PolicyPlays (w : World) (mode : Int) (wm : (Lit.int .i64 mode).wf = true) (A : Option Addr) (n c : Nat) (u : Unit) (hA : PActs w A n) (hc : n ≤ c) :
    Calls Try.prog 9 #[.int .i64 mode, .slice A n c] w (PHolds w true) := by
  by_cases h : mode < 0 ∨ 2 < mode
  · exact plays_no w mode A n c h
  · exact plays_yes w mode A n c hA (by omega)
end Go.Proofs.Ytpdabmbjnmpgbaa
