/-
  Package send: Copy.
-/
import Derived.Test.YtpdabmbjnmpgbaaKgr
namespace Go.Proofs.Ytpdabmbjnmpgbaa
open Go.Conc Go.RowKit
set_option linter.unusedVariables false

def SCopied (w : World) (sg qg qc : Nat) (ks : List ByteArray) (ty se ac : Nat) (la : Int) (be ask : Bool) (e : Ending) (w' : World) : Prop :=
  ∃ sg' qg' qc', e = .returned (.pointer (some ⟨sg', 0, none⟩)) ∧ SS w' sg' qg' qc' ks ty se ac la be ask ∧ SS w' sg qg qc ks ty se ac la be ask ∧ Kept [qc] w w' ∧ w.heap.size ≤ sg' ∧ w.heap.size ≤ qg' ∧ w.heap.size ≤ qc'
set_option maxRecDepth 100000 in
set_option maxHeartbeats 1000000 in
theorem scopy (sg qg qc : Nat) (ks : List ByteArray) (ty se ac : Nat) (la : Int) (be ask : Bool) (w : World) (h : SS w sg qg qc ks ty se ac la be ask) :
    Calls Try.prog 77 #[.pointer (some ⟨sg, 0, none⟩)] w (SCopied w sg qg qc ks ty se ac la be ask) := by
  obtain ⟨c0, c1, c2, c3, c4, c5, c6, cz, cl⟩ := h.cells
  have H := hide h
  clear h
  go_enter Try.func77, Try.ntmps77
  go_wp2_with fail
  have hk1 := fun o => (Kept.refl [] w).alloc o
  refine (qcopyS_any _ _ _ _ _ ((unhide H).q.next (hk1 _) (by simp) (by simp)) (unhide H).kl (by omega) (by omega)).mono ?_
  rintro e w2 ⟨g', c', rfl, hn, ho, hk, hg, hc⟩
  have hz : (w.alloc (SndO qg ty se ac la be ask)).heap.size = w.heap.size + 1 := by simp
  have hg2 : w.heap.size + 1 ≤ g' := by have := hg; simp at this; omega
  have hc2 : w.heap.size + 1 ≤ c' := by have := hc; simp at this; omega
  have hne := (unhide H).ne
  have hlq := (unhide H).q.lt
  have hob : w2.heap[w.heap.size]? = some (SndO qg ty se ac la be ask) := hk.obj (obj_new w _) (by simp; omega)
  have hol : w2.heap[sg]? = some (SndO qg ty se ac la be ask) := hk.obj (obj_alloc (unhide H).box _) (by simp; omega)
  have d0 : w2.cell? ⟨w.heap.size, 0, none⟩ = some (.pointer (some ⟨qg, 0, none⟩)) := obj_cell hob 0
  have dz : ∀ i, w2.frozen? ⟨w.heap.size, i, none⟩ = false := obj_frozen hob
  have HK := hide (((Kept.refl [qc] w).alloc (SndO qg ty se ac la be ask)).trans hk (by intro i _ hi; exact hi))
  have HN := hide hn
  have HO := hide ho
  have HB := hide hob
  have HL := hide hol
  clear hn ho hk hg hc hob hol hz c0 c1 c2 c3 c4 c5 c6 cz hk1
  go_wp2
  go_ret
  have K := fun u => (Kept.refl [w.heap.size] w2).setCell (p := ⟨w.heap.size, 0, none⟩) (.inl (by simp)) u
  refine ⟨w.heap.size, g', c', rfl, ⟨?_, (unhide HN).next (K _) (by simp; omega) (by simp; omega), (unhide H).kl, (unhide H).sum, (unhide H).ord, (unhide H).key⟩,
    ⟨(K _).obj (unhide HL) (by simp; omega), (unhide HO).next (K _) (by simp; omega) (by simp; omega), (unhide H).kl, (unhide H).sum, (unhide H).ord, (unhide H).key⟩, (unhide HK).trans (K _) (by intro i hi hm; simp at hm; omega), Nat.le_refl _, by omega, by omega⟩
  have := obj_set (unhide HB) 0 (.pointer (some ⟨g', 0, none⟩))
  simpa [SndO] using this
theorem scopy_nil (w : World) : Calls Try.prog 77 #[.pointer none] w fun e w' => e = .returned (.pointer none) ∧ w = w' := by
  go_enter Try.func77, Try.ntmps77
  go_wp2
  go_ret
  exact ⟨rfl, rfl⟩
end Go.Proofs.Ytpdabmbjnmpgbaa
