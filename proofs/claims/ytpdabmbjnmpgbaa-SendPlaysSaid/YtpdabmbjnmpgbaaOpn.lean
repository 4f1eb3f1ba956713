/-
  The arguments of a law, opened: what the walk is told of a slice that came in.
-/
import Derived.Test.YtpdabmbjnmpgbaaRtu
import Derived.ProofKit
import Derived.OpenShut
import Derived.SliceStrings
namespace Go.Proofs.Ytpdabmbjnmpgbaa
open Go.ChangeShapes Go.WideShapes Go.ChangeAt Go.RowKit
set_option linter.unusedVariables false

theorem addr_plain {w : World} {a : Addr} {v : Value} (h : w.cell? a = some v) : a = ⟨a.block, a.off, none⟩ := by
  obtain ⟨b, off, spot⟩ := a
  have : spot = none := by simpa using World.cell?_spot h
  subst this
  rfl
theorem add_plain (b off i : Nat) : (⟨b, off, none⟩ : Addr).add i = ⟨b, off + i, none⟩ := by
  unfold Addr.add
  by_cases h : i = 0 <;> simp [h]

section
variable {H : Type} {enc : TypeId × Value → H} {P : Program} {W : World} {base : Nat} {spare : Nat → Bool} {held : Bool}
theorem open_Ints {t e : TypeId} {a : Option Addr} {len cap : Nat} {d : DataW H} {p : List MemPlace} (ht : P.underlying t = some (.slice e)) (he : P.underlying e = some (.int .i64)) (hc : P.cellsOf e = 1)
    (h : DataW.Trod enc P W base spare held t (.slice a len cap) d p) : ∃ zs, Ints W a len zs ∧ (∀ z ∈ zs, (Lit.int .i64 z).wf = true) ∧ len ≤ cap := by
  obtain ⟨fuel, hf⟩ := h
  rcases open_ints ht he hc hf with ⟨hcs, _⟩ | ⟨x, l, c, zs, hcs, _, hl, hm, hz, _, hcell, hwz⟩
  · simp [Value.cells] at hcs
    obtain ⟨rfl, rfl, rfl⟩ := hcs
    exact ⟨[], ⟨rfl, by decide, fun i hi => by omega⟩, by simp, Nat.le_refl _⟩
  · simp [Value.cells] at hcs
    obtain ⟨rfl, rfl, rfl⟩ := hcs
    have hlz : len ≤ zs.length := by rw [hz]; split <;> omega
    refine ⟨zs.take len, ⟨by rw [List.length_take]; omega, by omega, fun i hi => ?_⟩, fun z hm => hwz z (List.mem_of_mem_take hm), hl⟩
    have h0 := hcell 0 (by omega)
    have hx : x = ⟨x.block, x.off, none⟩ := by
      have h0' : W.cell? x = some (.int .i64 (zs.getD 0 0)) := by simpa [Addr.add] using h0
      exact addr_plain h0'
    obtain ⟨b, off, spot⟩ := x
    simp only [Addr.mk.injEq, true_and] at hx
    subst hx
    refine ⟨b, off, rfl, ?_, fun j hj => ?_⟩
    · have := World.block_lt_of_cell? W _ h0
      rwa [add_plain] at this
    · have := hcell j (by omega)
      rw [add_plain] at this
      rw [this]
      simp [List.getD_eq_getElem?_getD, hj]
end
theorem laidOut : laidOutB Try.prog = true := by kernel_rfl
theorem own : ownKnob Try.prog.godebug = none := by kernel_rfl
end Go.Proofs.Ytpdabmbjnmpgbaa
