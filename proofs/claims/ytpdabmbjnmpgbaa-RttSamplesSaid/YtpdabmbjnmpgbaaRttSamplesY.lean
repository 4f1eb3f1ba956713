/-
  The walk of RttSamples.
-/
import Derived.Test.YtpdabmbjnmpgbaaRttSamplesX
import Derived.StillTailTactics
namespace Go.Proofs.Ytpdabmbjnmpgbaa
open Go.RowKit
set_option linter.unusedVariables false

/-- The document's estimate in its block. -/
def RefO (e : Int × Int × Bool) : Obj := .cells #[.int .i64 e.1, .int .i64 e.2.1, .bool e.2.2] 46 (0, 0)
theorem refsample_trip (n : Int) (e : Int × Int × Bool) (w : World) (ho : EstOk e.1 e.2.1 e.2.2) :
    Calls Try.prog 33 #[.agg #[.int .i64 e.1, .int .i64 e.2.1, .bool e.2.2], .int .i64 n] w fun x w' => x = .returned (.agg #[.int .i64 (stepE e n).1, .int .i64 (stepE e n).2.1, .bool (stepE e n).2.2]) ∧ Kept [] w w' :=
  refsample_any n e.1 e.2.1 e.2.2 w ho
theorem ref_cells {w : World} {g : Nat} {e : Int × Int × Bool} (h : w.heap[g]? = some (RefO e)) :
    w.cell? ⟨g, 0, none⟩ = some (.int .i64 e.1) ∧ w.cell? ⟨g, 1, none⟩ = some (.int .i64 e.2.1) ∧ w.cell? ⟨g, 2, none⟩ = some (.bool e.2.2) ∧ ∀ i, w.frozen? ⟨g, i, none⟩ = false :=
  ⟨obj_cell h 0, obj_cell h 1, obj_cell h 2, obj_frozen h⟩

theorem obj_new2 (w : World) (o o' : Obj) : ((w.alloc o).alloc o').heap[w.heap.size + 1]? = some o' := by
  have := obj_new (w.alloc o) o'
  simpa using this
/-- How the law's own two variables stand. -/
structure Sit (w wi : World) (e m : Int × Int × Bool) : Prop where
  est : wi.heap[w.heap.size]? = some (TripO e)
  ref : wi.heap[w.heap.size + 1]? = some (RefO m)
  kept : Kept [] w wi
theorem Sit.next {w wi wj : World} {e m : Int × Int × Bool} (h : Sit w wi e m) (k : Kept [] wi wj) : Sit w wj e m := ⟨k.obj h.est (by simp), k.obj h.ref (by simp), h.kept.trans k (by simp)⟩
theorem Sit.cells {w wi : World} {e m : Int × Int × Bool} (h : Sit w wi e m) : wi.cell? ⟨w.heap.size + 1, 0, none⟩ = some (.int .i64 m.1) ∧ wi.cell? ⟨w.heap.size + 1, 1, none⟩ = some (.int .i64 m.2.1) ∧ wi.cell? ⟨w.heap.size + 1, 2, none⟩ = some (.bool m.2.2) ∧ ∀ i, wi.frozen? ⟨w.heap.size + 1, i, none⟩ = false := ref_cells h.ref
theorem Sit.turn {w wi wj : World} {e e' m : Int × Int × Bool} (h : Sit w wi e m) (ho : wj.heap[w.heap.size]? = some (TripO e')) (k : Kept [w.heap.size] wi wj) : Sit w wj e' m :=
  ⟨ho, k.obj h.ref (by simp), h.kept.trans k (by intro i hi hm; simp at hm; omega)⟩
theorem Sit.store {w wi : World} {e m : Int × Int × Bool} (h : Sit w wi e m) (m' : Int × Int × Bool) : Sit w (((wi.setCell ⟨w.heap.size + 1, 0, none⟩ (.int .i64 m'.1)).setCell ⟨w.heap.size + 1, 1, none⟩ (.int .i64 m'.2.1)).setCell ⟨w.heap.size + 1, 2, none⟩ (.bool m'.2.2)) e m' :=
  ⟨obj_far (obj_far (obj_far h.est (by simp) _) (by simp) _) (by simp) _, obj_set (obj_set (obj_set h.ref 0 _) 1 _) 2 _,
    ((h.kept.setCell (.inr (by simp)) _).setCell (.inr (by simp)) _).setCell (.inr (by simp)) _⟩

theorem sit_all {w wi wj : World} {e : Int × Int × Bool} {A : Option Addr} {n : Nat} {ys : List Int} (k : Kept [] wi wj) (h : Sit w wi e e) (hi : Ints wi A n ys) :
    Sit w wj e e ∧ Ints wj A n ys ∧ wj.cell? ⟨w.heap.size + 1, 0, none⟩ = some (.int .i64 e.1) ∧ wj.cell? ⟨w.heap.size + 1, 1, none⟩ = some (.int .i64 e.2.1) ∧ wj.cell? ⟨w.heap.size + 1, 2, none⟩ = some (.bool e.2.2) :=
  have h' := h.next k
  ⟨h', hi.kept k (by simp), h'.cells.1, h'.cells.2.1, h'.cells.2.2.1⟩
set_option maxRecDepth 100000 in
set_option maxHeartbeats 1000000 in
theorem walk_RttSamples (w : World) (A : Option Addr) (n c : Nat) (zs : List Int) (hI : Ints w A n zs) (wz : ∀ z ∈ zs, (Lit.int .i64 z).wf = true) (hnc : n ≤ c) :
    Calls Try.prog 5 #[.slice A n c] w (Holds w true) := by
  have H := hide hI
  have hl : n ≤ 9223372036854775807 := hI.2.1
  clear hI wz
  obtain ⟨M, hM⟩ : ∃ M : Nat, M = n ∧ n ≤ 60 ∨ M = 60 ∧ 60 < n := by
    by_cases h : n ≤ 60
    · exact ⟨n, .inl ⟨rfl, h⟩⟩
    · exact ⟨60, .inr ⟨rfl, by omega⟩⟩
  have hM60 : M ≤ 60 := by omega
  have hMn : M ≤ n := by omega
  have h1 := (unhide H).take hMn
  obtain ⟨ys, hys⟩ : ∃ ys, ys = zs.take M := ⟨_, rfl⟩
  rw [← hys] at h1
  have HM := hide hM
  have H1 := hide h1
  have hyl := hide h1.1
  clear hys h1 H hM
  rcases unhide HM with ⟨e1, e2⟩ | ⟨e1, e2⟩
  · have HIx : Hid (Ints w A n ys) := hide (e1 ▸ unhide H1)
    have E1 := hide e1
    clear e1
    go_enter Try.func5, Try.ntmps5
    go_wp2_with fail
    go_loopw [5] (fun i wr => ∃ k : Nat, k ≤ M ∧ i = .int .i64 k ∧ Sit w wr (foldE (ys.take k)) (foldE (ys.take k))) (fun i _ => M - (intOf i).toNat)
    case atStart => exact ⟨0, Nat.zero_le _, rfl, obj_alloc (obj_new w _) _, obj_new2 w _ _, ((Kept.refl [] w).alloc _).alloc _⟩
    case round =>
      obtain ⟨k, hk, rfl, hsit⟩ := hrel
      have S0 := hide hsit
      have hok := hide (foldE_ok (ys.take k))
      obtain ⟨m0, m1, m2, mz⟩ := hsit.cells
      clear hsit
      by_cases hlt : k < M
      · have hltn : k < n := by omega
        have hlt6 : k < 60 := by omega
        obtain ⟨b, off, rfl, hb, hc⟩ := (unhide H1).2.2 k hlt
        have hc0 := hide (hc k hlt)
        have hfold := take_snoc ys k 0 (by rw [unhide hyl]; omega)
        have hfold2 : foldE (ys.take (k + 1)) = stepE (foldE (ys.take k)) (ys.getD k 0) := by rw [hfold, foldE_snoc]
        have HF := hide hfold2
        clear hc hfold hfold2
        generalize foldE (ys.take k) = e0 at *
        generalize ys.getD k 0 = x at *
        go_wp2_with fail
        refine (alike_any _ _ _ _ _ (unhide S0).est (unhide hok)).mono ?_
        rintro e w1 ⟨rfl, hk1⟩
        have S1 := hide ((unhide S0).next hk1)
        clear hk1 m0 m1 m2 mz
        go_wp2_with fail
        refine (estcopy_any _ _ _ _ _ (unhide S1).est).mono ?_
        rintro e w2 ⟨rfl, hc2, hk2⟩
        have S2 := hide ((unhide S1).next hk2)
        have HC2 := hide hc2
        have lt2 : w.heap.size + 1 < w1.heap.size := heap_lt (unhide S1).ref
        have hcell : w2.cell? ⟨b, off + k, none⟩ = some (.int .i64 x) := ((unhide S2).kept.cell (p := ⟨b, off + k, none⟩) hb (by simp)).trans (unhide hc0)
        clear hc2 hk2
        go_wp2_with fail
        refine (sample_trip _ _ _ _ (unhide S2).est (unhide hok)).mono ?_
        rintro e w3 ⟨rfl, ho3, hk3⟩
        have S3 := hide ((unhide S2).turn ho3 hk3)
        have HC3 := hide (hk3.obj (unhide HC2) (by simp; omega))
        clear ho3 hk3 hcell
        obtain ⟨m0, m1, m2, mz⟩ := (unhide S3).cells
        go_wp2_with fail
        refine (alike_any _ _ _ _ _ (unhide HC3) (unhide hok)).mono ?_
        rintro e w4 ⟨rfl, hk4⟩
        have S4 := hide ((unhide S3).next hk4)
        clear hk4 m0 m1 m2 mz
        obtain ⟨m0, m1, m2, mz⟩ := (unhide S4).cells
        have hcell : w4.cell? ⟨b, off + k, none⟩ = some (.int .i64 x) := ((unhide S4).kept.cell (p := ⟨b, off + k, none⟩) hb (by simp)).trans (unhide hc0)
        go_wp2_with fail
        go_still_tail 5, (by kernel_rfl)
        change wpList _ _ _ _ _ w4.drew
        obtain ⟨w5, hw5⟩ : ∃ w5, w5 = w4.drew := ⟨_, rfl⟩
        rw [← hw5]
        have S5 := hide ((unhide S4).next (wj := w5) (by rw [hw5]; exact (Kept.refl [] w4).drew))
        clear hw5 m0 m1 m2 mz hcell
        obtain ⟨m0, m1, m2, mz⟩ := (unhide S5).cells
        have hcell : w5.cell? ⟨b, off + k, none⟩ = some (.int .i64 x) := ((unhide S5).kept.cell (p := ⟨b, off + k, none⟩) hb (by simp)).trans (unhide hc0)
        go_wp2_with fail
        refine (refsample_trip _ _ _ (unhide hok)).mono ?_
        rintro e w6 ⟨rfl, hk6⟩
        have S6 := hide ((unhide S5).next hk6)
        clear hk6 m0 m1 m2 mz hcell
        obtain ⟨m0, m1, m2, mz⟩ := (unhide S6).cells
        go_wp2
        refine ⟨⟨k + 1, by omega, by go_num, ?_⟩, by simp [intOf]; omega⟩
        rw [unhide HF]
        exact (unhide S6).store _
      · have hge := unhide E1
        have hnk : ¬ k < n := by omega
        have hk' : ys.take k = ys := List.take_of_length_le (by rw [unhide hyl]; omega)
        rw [hk'] at S0 hok m0 m1 m2
        clear hge hk'
        have HIw := hide ((unhide HIx).kept (unhide S0).kept (by simp))
        generalize hfe : foldE ys = e0 at *
        have HFE := hide hfe
        clear hfe
        have cA := hide (fun W (h : Sit w W e0 e0) => alike_any e0.1 e0.2.1 e0.2.2 w.heap.size W h.est (unhide hok))
        have cK := hide known16
        have cB := hide (fun W g (h : W.heap[g]? = some (TripO e0)) => alike_any e0.1 e0.2.1 e0.2.2 g W h (unhide hok))
        have cF0 : ∀ W, Ints W A n ys → Calls Try.prog 19 #[.slice A n c] W (Made W (TripO e0)) := fun W h => by
          have := fold_any A n c ys W h
          rwa [unhide HFE] at this
        have cF := hide cF0
        clear cF0
        go_wp2_with fail
        go_region_held3 (fun w' => Sit w w' e0 e0 ∧ Ints w' A n ys ∧ w'.cell? ⟨w.heap.size + 1, 0, none⟩ = some (.int .i64 e0.1) ∧ w'.cell? ⟨w.heap.size + 1, 1, none⟩ = some (.int .i64 e0.2.1) ∧ w'.cell? ⟨w.heap.size + 1, 2, none⟩ = some (.bool e0.2.2))
          (first
            | exact ⟨(unhide S0).next ((Kept.refl [] wr).drewN _), (unhide HIw).kept ((Kept.refl [] wr).drewN _) (by simp), m0, m1, m2⟩
            | (go_split_ands; exact sit_all (by assumption) (by assumption) (by assumption)))
          ((first
            | (go_at_call 18; refine (unhide cK _).mono ?_; rintro e w' ⟨rfl, hk⟩)
            | (go_at_call 31; go_split_ands; ((with_reducible refine (unhide cA _ (by assumption)).mono ?_); rintro e w' ⟨rfl, hk⟩))
            | (go_at_call 31; go_split_ands; ((with_reducible refine (unhide cB _ _ (by assumption)).mono ?_); rintro e w' ⟨rfl, hk⟩))
            | (go_at_call 19; go_split_ands; refine (unhide cF _ (by assumption)).mono ?_; rintro e w' ⟨rfl, ho, hk⟩)))
        go_wp2
        go_ret
        go_split_ands
        refine ⟨rfl, Sit.kept (e := e0) (m := e0) (by assumption)⟩
  · have HIx : Hid (Ints w A 60 ys) := hide (e1 ▸ unhide H1)
    have E1 := hide e1
    clear e1
    go_enter Try.func5, Try.ntmps5
    go_wp2_with fail
    go_loopw [5] (fun i wr => ∃ k : Nat, k ≤ M ∧ i = .int .i64 k ∧ Sit w wr (foldE (ys.take k)) (foldE (ys.take k))) (fun i _ => M - (intOf i).toNat)
    case atStart => exact ⟨0, Nat.zero_le _, rfl, obj_alloc (obj_new w _) _, obj_new2 w _ _, ((Kept.refl [] w).alloc _).alloc _⟩
    case round =>
      obtain ⟨k, hk, rfl, hsit⟩ := hrel
      have S0 := hide hsit
      have hok := hide (foldE_ok (ys.take k))
      obtain ⟨m0, m1, m2, mz⟩ := hsit.cells
      clear hsit
      by_cases hlt : k < M
      · have hltn : k < n := by omega
        have hlt6 : k < 60 := by omega
        obtain ⟨b, off, rfl, hb, hc⟩ := (unhide H1).2.2 k hlt
        have hc0 := hide (hc k hlt)
        have hfold := take_snoc ys k 0 (by rw [unhide hyl]; omega)
        have hfold2 : foldE (ys.take (k + 1)) = stepE (foldE (ys.take k)) (ys.getD k 0) := by rw [hfold, foldE_snoc]
        have HF := hide hfold2
        clear hc hfold hfold2
        generalize foldE (ys.take k) = e0 at *
        generalize ys.getD k 0 = x at *
        go_wp2_with fail
        refine (alike_any _ _ _ _ _ (unhide S0).est (unhide hok)).mono ?_
        rintro e w1 ⟨rfl, hk1⟩
        have S1 := hide ((unhide S0).next hk1)
        clear hk1 m0 m1 m2 mz
        go_wp2_with fail
        refine (estcopy_any _ _ _ _ _ (unhide S1).est).mono ?_
        rintro e w2 ⟨rfl, hc2, hk2⟩
        have S2 := hide ((unhide S1).next hk2)
        have HC2 := hide hc2
        have lt2 : w.heap.size + 1 < w1.heap.size := heap_lt (unhide S1).ref
        have hcell : w2.cell? ⟨b, off + k, none⟩ = some (.int .i64 x) := ((unhide S2).kept.cell (p := ⟨b, off + k, none⟩) hb (by simp)).trans (unhide hc0)
        clear hc2 hk2
        go_wp2_with fail
        refine (sample_trip _ _ _ _ (unhide S2).est (unhide hok)).mono ?_
        rintro e w3 ⟨rfl, ho3, hk3⟩
        have S3 := hide ((unhide S2).turn ho3 hk3)
        have HC3 := hide (hk3.obj (unhide HC2) (by simp; omega))
        clear ho3 hk3 hcell
        obtain ⟨m0, m1, m2, mz⟩ := (unhide S3).cells
        go_wp2_with fail
        refine (alike_any _ _ _ _ _ (unhide HC3) (unhide hok)).mono ?_
        rintro e w4 ⟨rfl, hk4⟩
        have S4 := hide ((unhide S3).next hk4)
        clear hk4 m0 m1 m2 mz
        obtain ⟨m0, m1, m2, mz⟩ := (unhide S4).cells
        have hcell : w4.cell? ⟨b, off + k, none⟩ = some (.int .i64 x) := ((unhide S4).kept.cell (p := ⟨b, off + k, none⟩) hb (by simp)).trans (unhide hc0)
        go_wp2_with fail
        go_still_tail 5, (by kernel_rfl)
        change wpList _ _ _ _ _ w4.drew
        obtain ⟨w5, hw5⟩ : ∃ w5, w5 = w4.drew := ⟨_, rfl⟩
        rw [← hw5]
        have S5 := hide ((unhide S4).next (wj := w5) (by rw [hw5]; exact (Kept.refl [] w4).drew))
        clear hw5 m0 m1 m2 mz hcell
        obtain ⟨m0, m1, m2, mz⟩ := (unhide S5).cells
        have hcell : w5.cell? ⟨b, off + k, none⟩ = some (.int .i64 x) := ((unhide S5).kept.cell (p := ⟨b, off + k, none⟩) hb (by simp)).trans (unhide hc0)
        go_wp2_with fail
        refine (refsample_trip _ _ _ (unhide hok)).mono ?_
        rintro e w6 ⟨rfl, hk6⟩
        have S6 := hide ((unhide S5).next hk6)
        clear hk6 m0 m1 m2 mz hcell
        obtain ⟨m0, m1, m2, mz⟩ := (unhide S6).cells
        go_wp2
        refine ⟨⟨k + 1, by omega, by go_num, ?_⟩, by simp [intOf]; omega⟩
        rw [unhide HF]
        exact (unhide S6).store _
      · have hge := unhide E1
        have hnk : ¬ k < 60 := by omega
        have hk' : ys.take k = ys := List.take_of_length_le (by rw [unhide hyl]; omega)
        rw [hk'] at S0 hok m0 m1 m2
        clear hge hk'
        have HIw := hide ((unhide HIx).kept (unhide S0).kept (by simp))
        generalize hfe : foldE ys = e0 at *
        have HFE := hide hfe
        clear hfe
        have cA := hide (fun W (h : Sit w W e0 e0) => alike_any e0.1 e0.2.1 e0.2.2 w.heap.size W h.est (unhide hok))
        have cK := hide known16
        have cB := hide (fun W g (h : W.heap[g]? = some (TripO e0)) => alike_any e0.1 e0.2.1 e0.2.2 g W h (unhide hok))
        have cF0 : ∀ W, Ints W A 60 ys → Calls Try.prog 19 #[(.slice A 60 c)] W (Made W (TripO e0)) := fun W h => by
          have := fold_any A 60 c ys W h
          rwa [unhide HFE] at this
        have cF := hide cF0
        clear cF0
        go_wp2_with fail
        go_region_held3 (fun w' => Sit w w' e0 e0 ∧ Ints w' A 60 ys ∧ w'.cell? ⟨w.heap.size + 1, 0, none⟩ = some (.int .i64 e0.1) ∧ w'.cell? ⟨w.heap.size + 1, 1, none⟩ = some (.int .i64 e0.2.1) ∧ w'.cell? ⟨w.heap.size + 1, 2, none⟩ = some (.bool e0.2.2))
          (first
            | exact ⟨(unhide S0).next ((Kept.refl [] wr).drewN _), (unhide HIw).kept ((Kept.refl [] wr).drewN _) (by simp), m0, m1, m2⟩
            | (go_split_ands; exact sit_all (by assumption) (by assumption) (by assumption)))
          ((first
            | (go_at_call 18; refine (unhide cK _).mono ?_; rintro e w' ⟨rfl, hk⟩)
            | (go_at_call 31; go_split_ands; ((with_reducible refine (unhide cA _ (by assumption)).mono ?_); rintro e w' ⟨rfl, hk⟩))
            | (go_at_call 31; go_split_ands; ((with_reducible refine (unhide cB _ _ (by assumption)).mono ?_); rintro e w' ⟨rfl, hk⟩))
            | (go_at_call 19; go_split_ands; refine (unhide cF _ (by assumption)).mono ?_; rintro e w' ⟨rfl, ho, hk⟩)))
        go_wp2
        go_ret
        go_split_ands
        refine ⟨rfl, Sit.kept (e := e0) (m := e0) (by assumption)⟩
end Go.Proofs.Ytpdabmbjnmpgbaa
