/-
  Copy of package queue at ByteArray; what a row of the call's own reads as.
-/
import Derived.Test.YtpdabmbjnmpgbaaQut
namespace Go.Proofs.Ytpdabmbjnmpgbaa
open Go.Conc Go.RowKit
set_option linter.unusedVariables false

/-- A slice that reads as the list xs. -/
def RdS (w : World) (A : Option Addr) (xs : List ByteArray) : Prop :=
  ∀ i, i < xs.length → ∃ b off, A = some ⟨b, off, none⟩ ∧ b < w.heap.size ∧ ∀ j, j < xs.length → w.cell? ⟨b, off + j, none⟩ = some (.string (xs.getD j (ByteArray.empty)))
theorem RdS.kept {S : List Nat} {w w' : World} {A : Option Addr} {xs : List ByteArray} (h : RdS w A xs) (k : Kept S w w') (hs : ∀ a, A = some a → a.block ∉ S) : RdS w' A xs := fun i hi => by
  obtain ⟨b, off, rfl, hb, hc⟩ := h i hi
  exact ⟨b, off, rfl, Nat.lt_of_lt_of_le hb k.size, fun j hj => (k.cell (p := ⟨b, off + j, none⟩) hb (hs ⟨b, off, none⟩ rfl)).trans (hc j hj)⟩
theorem rdS_own {w : World} {base : Nat} {v : Value} {n : Nat} {xs : List ByteArray} (h : w.ownsRow base 9 1 v n (xs.map (Value.string))) :
    ∃ A cp, v = .slice A xs.length cp ∧ xs.length ≤ cp ∧ RdS w A xs ∧ ∀ a, A = some a → base ≤ a.block := by
  have hl : xs.length = n := by have := h.1; simpa using this
  have h0 := h
  rcases h.2 with ⟨rfl, h2⟩ | ⟨g, cap, cur, rfl, hb, hgg, hnc, hcm, hcs, htk⟩
  · exact ⟨none, 0, by rw [hl, h2], by omega, fun i hi => by omega, by simp⟩
  · refine ⟨some ⟨g, 0, none⟩, cap, by rw [hl], by omega, fun i hi => ⟨g, 0, rfl, heap_lt hgg, fun j hj => ?_⟩, by rintro a ⟨⟩; exact hb⟩
    have h3 := h0.cells (g := g) rfl j (.string (xs.getD j (ByteArray.empty))) (by simp [List.getElem?_map, List.getD_eq_getElem?_getD, List.getElem?_eq_getElem hj])
    unfold Addr.add at h3
    by_cases hj0 : j = 0
    · subst hj0; simpa using h3
    · simpa [hj0] using h3

/-- What Copy answers: a queue of its own, which holds the same; the elder one holds what it held. -/
def CopiedS (w : World) (g c cap : Nat) (xs : List ByteArray) (e : Ending) (w' : World) : Prop :=
  ∃ g' c', e = .returned (.pointer (some ⟨g', 0, none⟩)) ∧ QS w' g' c' cap xs ∧ QS w' g c cap xs ∧ Kept [c] w w' ∧ w.heap.size ≤ g' ∧ w.heap.size ≤ c'
set_option maxRecDepth 100000 in
set_option maxHeartbeats 1000000 in
theorem qcopyS_any (g c cap : Nat) (xs : List ByteArray) (w : World) (h : QS w g c cap xs) (hn : xs.length ≤ cap) (h1 : 1 ≤ cap) (hcap : cap ≤ 256) :
    Calls Try.prog 95 #[.pointer (some ⟨g, 0, none⟩)] w (CopiedS w g c cap xs) := by
  have hlt := h.lt
  have h0 := h.cell
  obtain ⟨s, r, hc⟩ := h.chan
  have hlen := fun ty => run_cap_chan (P := Try.prog) 124 ty Try.underlying124 hc
  simp only [goInt] at hlen
  have hmk : ∀ W : World, (Instr.makeChan 124 (.int .i64 (cap : Int))).run Try.prog W = .ok (.chan (some W.heap.size)) (W.alloc (.chan cap #[] false 0 0 false)) := fun W => by
    have := mkchanS (cap : Int) (by omega) (by omega) W
    simpa using this
  have H := hide h
  have HN := hide hn
  have h256 : xs.length ≤ 256 := by omega
  clear h hc hn
  go_enter Try.func95, Try.ntmps95
  go_wp2_with fail
  refine (allS_any g c cap xs _ ((unhide H).next (S := []) (((Kept.refl [] w).alloc _).alloc _) (by simp) (by simp)) (unhide HN) hcap).mono ?_
  rintro e w1 ⟨v, rfl, hown, hq, hk⟩
  obtain ⟨A, cp, rfl, hcp, hrd, hA⟩ := rdS_own hown
  have HR := hide hrd
  have HA := hide hA
  have HQ := hide hq
  have HK := hide hk
  have hnew : QS w1 (w.heap.size + 1) w.heap.size cap [] := by
    have : QS ((w.alloc (CSO cap [] 0 0)).alloc (QSO w.heap.size)) (w.heap.size + 1) w.heap.size cap [] :=
      ⟨by have := obj_new (w.alloc (CSO cap [] 0 0)) (QSO w.heap.size); simpa using this, 0, 0, obj_alloc (obj_new w _) _⟩
    exact this.next hk (by simp; omega) (by simp; omega)
  have HW := hide hnew
  have hz : w.heap.size + 2 ≤ w1.heap.size := by have := hk.size; simpa using this
  clear hown hrd hA hq hk hnew
  go_wp2_with fail
  go_loopw [19] (fun i wr => ∃ k : Nat, k ≤ xs.length ∧ i = .int .i64 k ∧ QS wr (w.heap.size + 1) w.heap.size cap (xs.take k) ∧ Kept [w.heap.size] w1 wr) (fun i _ => xs.length - (intOf i).toNat)
  case atStart => exact ⟨0, Nat.zero_le _, rfl, by simpa using unhide HW, Kept.refl _ _⟩
  case round =>
    obtain ⟨k, hk, rfl, hq, hkw⟩ := hrel
    by_cases hlt2 : k < xs.length
    · have HRw := (unhide HR).kept hkw (by intro a ha; have := unhide HA a ha; simp at this; simp; omega)
      obtain ⟨b, off, rfl, hb, hcell0⟩ := HRw k hlt2
      have hcell := hcell0 k hlt2
      have HT : Hid (xs.take (k + 1) = xs.take k ++ [xs.getD k (ByteArray.empty)]) := hide (by rw [List.take_succ_eq_append_getElem hlt2, List.getD_eq_getElem?_getD, List.getElem?_eq_getElem hlt2]; rfl)
      have HL : Hid ((xs.take k).length < cap) := hide (by have := unhide HN; simp; omega)
      have HQ1 := hide hq
      have HK1 := hide hkw
      clear hq hkw hcell0 HRw
      generalize xs.getD k (ByteArray.empty) = x at *
      go_wp2_with fail
      refine (putS_yes _ _ _ _ _ _ (unhide HQ1) (unhide HL)).mono ?_
      rintro e w3 ⟨rfl, hq3, hk3⟩
      have HQ3 := hide hq3
      have HK3 := hide ((unhide HK1).trans hk3 (by simp))
      clear hq3 hk3
      go_wp2
      go_roundw
      case rel => exact ⟨k + 1, by omega, by go_num, by rw [unhide HT]; exact unhide HQ3, unhide HK3⟩
      case measure => simp [intOf]; omega
    · have e1 : xs.take k = xs := List.take_of_length_le (by omega)
      rw [e1] at hq
      have HQ1 := hide hq
      have HK1 := hide hkw
      clear hq hkw e1
      go_wp2
      go_ret
      refine ⟨w.heap.size + 1, w.heap.size, rfl, unhide HQ1, (unhide HQ).next (unhide HK1) (by simp; omega) (by simp; omega), ?_, by omega, by omega⟩
      exact ((((Kept.refl [c] w).alloc _).alloc _).trans (unhide HK) (by simp)).trans (unhide HK1) (by intro i hi hm; simp at hm; omega)
theorem qcopyS_nil (w : World) : Calls Try.prog 95 #[.pointer none] w fun e w' => e = .returned (.pointer none) ∧ w = w' := by
  go_enter Try.func95, Try.ntmps95
  go_wp2
  go_ret
  exact ⟨rfl, rfl⟩
end Go.Proofs.Ytpdabmbjnmpgbaa
