/-
  Copy of package queue at Int; what a row of the call's own reads as.
-/
import Derived.Test.YtpdabmbjnmpgbaaQuf
namespace Go.Proofs.Ytpdabmbjnmpgbaa
open Go.Conc Go.RowKit
set_option linter.unusedVariables false

/-- A slice that reads as the list xs. -/
def RdI (w : World) (A : Option Addr) (xs : List Int) : Prop :=
  ∀ i, i < xs.length → ∃ b off, A = some ⟨b, off, none⟩ ∧ b < w.heap.size ∧ ∀ j, j < xs.length → w.cell? ⟨b, off + j, none⟩ = some (.int .i64 (xs.getD j (0)))
theorem RdI.kept {S : List Nat} {w w' : World} {A : Option Addr} {xs : List Int} (h : RdI w A xs) (k : Kept S w w') (hs : ∀ a, A = some a → a.block ∉ S) : RdI w' A xs := fun i hi => by
  obtain ⟨b, off, rfl, hb, hc⟩ := h i hi
  exact ⟨b, off, rfl, Nat.lt_of_lt_of_le hb k.size, fun j hj => (k.cell (p := ⟨b, off + j, none⟩) hb (hs ⟨b, off, none⟩ rfl)).trans (hc j hj)⟩
theorem rdI_own {w : World} {base : Nat} {v : Value} {n : Nat} {xs : List Int} (h : w.ownsRow base 3 1 v n (xs.map (Value.int .i64))) :
    ∃ A cp, v = .slice A xs.length cp ∧ xs.length ≤ cp ∧ RdI w A xs ∧ ∀ a, A = some a → base ≤ a.block := by
  have hl : xs.length = n := by have := h.1; simpa using this
  have h0 := h
  rcases h.2 with ⟨rfl, h2⟩ | ⟨g, cap, cur, rfl, hb, hgg, hnc, hcm, hcs, htk⟩
  · exact ⟨none, 0, by rw [hl, h2], by omega, fun i hi => by omega, by simp⟩
  · refine ⟨some ⟨g, 0, none⟩, cap, by rw [hl], by omega, fun i hi => ⟨g, 0, rfl, heap_lt hgg, fun j hj => ?_⟩, by rintro a ⟨⟩; exact hb⟩
    have h3 := h0.cells (g := g) rfl j (.int .i64 (xs.getD j (0))) (by simp [List.getElem?_map, List.getD_eq_getElem?_getD, List.getElem?_eq_getElem hj])
    unfold Addr.add at h3
    by_cases hj0 : j = 0
    · subst hj0; simpa using h3
    · simpa [hj0] using h3

/-- What Copy answers: a queue of its own, which holds the same; the elder one holds what it held. -/
def CopiedI (w : World) (g c cap : Nat) (xs : List Int) (e : Ending) (w' : World) : Prop :=
  ∃ g' c', e = .returned (.pointer (some ⟨g', 0, none⟩)) ∧ QI w' g' c' cap xs ∧ QI w' g c cap xs ∧ Kept [c] w w' ∧ w.heap.size ≤ g' ∧ w.heap.size ≤ c'
set_option maxRecDepth 100000 in
set_option maxHeartbeats 1000000 in
theorem qcopyI_any (g c cap : Nat) (xs : List Int) (w : World) (h : QI w g c cap xs) (hn : xs.length ≤ cap) (h1 : 1 ≤ cap) (hcap : cap ≤ 256) :
    Calls Try.prog 58 #[.pointer (some ⟨g, 0, none⟩)] w (CopiedI w g c cap xs) := by
  have hlt := h.lt
  have h0 := h.cell
  obtain ⟨s, r, hc⟩ := h.chan
  have hlen := fun ty => run_cap_chan (P := Try.prog) 132 ty Try.underlying132 hc
  simp only [goInt] at hlen
  have hmk : ∀ W : World, (Instr.makeChan 132 (.int .i64 (cap : Int))).run Try.prog W = .ok (.chan (some W.heap.size)) (W.alloc (.chan cap #[] false 0 0 false)) := fun W => by
    have := mkchanI (cap : Int) (by omega) (by omega) W
    simpa using this
  have H := hide h
  have HN := hide hn
  have h256 : xs.length ≤ 256 := by omega
  clear h hc hn
  go_enter Try.func58, Try.ntmps58
  go_wp2_with fail
  refine (allI_any g c cap xs _ ((unhide H).next (S := []) (((Kept.refl [] w).alloc _).alloc _) (by simp) (by simp)) (unhide HN) hcap).mono ?_
  rintro e w1 ⟨v, rfl, hown, hq, hk⟩
  obtain ⟨A, cp, rfl, hcp, hrd, hA⟩ := rdI_own hown
  have HR := hide hrd
  have HA := hide hA
  have HQ := hide hq
  have HK := hide hk
  have hnew : QI w1 (w.heap.size + 1) w.heap.size cap [] := by
    have : QI ((w.alloc (CIO cap [] 0 0)).alloc (QIO w.heap.size)) (w.heap.size + 1) w.heap.size cap [] :=
      ⟨by have := obj_new (w.alloc (CIO cap [] 0 0)) (QIO w.heap.size); simpa using this, 0, 0, obj_alloc (obj_new w _) _⟩
    exact this.next hk (by simp; omega) (by simp; omega)
  have HW := hide hnew
  have hz : w.heap.size + 2 ≤ w1.heap.size := by have := hk.size; simpa using this
  clear hown hrd hA hq hk hnew
  go_wp2_with fail
  go_loopw [19] (fun i wr => ∃ k : Nat, k ≤ xs.length ∧ i = .int .i64 k ∧ QI wr (w.heap.size + 1) w.heap.size cap (xs.take k) ∧ Kept [w.heap.size] w1 wr) (fun i _ => xs.length - (intOf i).toNat)
  case atStart => exact ⟨0, Nat.zero_le _, rfl, by simpa using unhide HW, Kept.refl _ _⟩
  case round =>
    obtain ⟨k, hk, rfl, hq, hkw⟩ := hrel
    by_cases hlt2 : k < xs.length
    · have HRw := (unhide HR).kept hkw (by intro a ha; have := unhide HA a ha; simp at this; simp; omega)
      obtain ⟨b, off, rfl, hb, hcell0⟩ := HRw k hlt2
      have hcell := hcell0 k hlt2
      have HT : Hid (xs.take (k + 1) = xs.take k ++ [xs.getD k (0)]) := hide (by rw [List.take_succ_eq_append_getElem hlt2, List.getD_eq_getElem?_getD, List.getElem?_eq_getElem hlt2]; rfl)
      have HL : Hid ((xs.take k).length < cap) := hide (by have := unhide HN; simp; omega)
      have HQ1 := hide hq
      have HK1 := hide hkw
      clear hq hkw hcell0 HRw
      generalize xs.getD k (0) = x at *
      go_wp2_with fail
      refine (putI_yes _ _ _ _ _ _ (unhide HQ1) (unhide HL)).mono ?_
      rintro e w3 ⟨rfl, hq3, hk3⟩
      have HQ3 := hide hq3
      have HK3 := hide ((unhide HK1).trans hk3 (by simp))
      clear hq3 hk3
      go_wp2
      go_roundw
      case rel => exact ⟨k + 1, by omega, by go_num, by rw [unhide HT]; exact unhide HQ3, unhide HK3⟩
      case measure => simp [intOf]; omega
    · have e1 : xs.take k = xs := List.take_of_length_le (by omega)
      rw [e1] at hq
      have HQ1 := hide hq
      have HK1 := hide hkw
      clear hq hkw e1
      go_wp2
      go_ret
      refine ⟨w.heap.size + 1, w.heap.size, rfl, unhide HQ1, (unhide HQ).next (unhide HK1) (by simp; omega) (by simp; omega), ?_, by omega, by omega⟩
      exact ((((Kept.refl [c] w).alloc _).alloc _).trans (unhide HK) (by simp)).trans (unhide HK1) (by intro i hi hm; simp at hm; omega)
theorem qcopyI_nil (w : World) : Calls Try.prog 58 #[.pointer none] w fun e w' => e = .returned (.pointer none) ∧ w = w' := by
  go_enter Try.func58, Try.ntmps58
  go_wp2
  go_ret
  exact ⟨rfl, rfl⟩
end Go.Proofs.Ytpdabmbjnmpgbaa
