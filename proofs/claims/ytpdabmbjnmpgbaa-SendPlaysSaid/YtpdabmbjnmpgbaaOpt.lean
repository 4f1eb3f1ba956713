/-
  Slices of one-cell elements that came in (strings, bools, slices), opened.
-/
import Derived.Test.YtpdabmbjnmpgbaaOps
namespace Go.Proofs.Ytpdabmbjnmpgbaa
open Go.ChangeShapes Go.WideShapes Go.ChangeAt Go.RowKit Go.Deep
set_option linter.unusedVariables false

section
variable {H : Type} {enc : TypeId × Value → H} {P : Program} {W : World} {base : Nat} {spare : Nat → Bool} {held : Bool}
theorem open_ones {t e : TypeId} {a : Option Addr} {len cap : Nat} {d : DataW H} {p : List MemPlace} (ht : P.underlying t = some (.slice e)) (hC : P.cellsOf e = 1)
    (h : DataW.Trod enc P W base spare held t (.slice a len cap) d p) :
    len ≤ cap ∧ len ≤ maxLen ∧ ∀ i, i < len → ∃ b off, a = some ⟨b, off, none⟩ ∧ b < W.heap.size ∧
      ∃ (v : Value) (y : DataW H × List MemPlace) (n : Nat), W.cell? ⟨b, off + i, none⟩ = some v ∧ DataW.trod enc P W base spare held n e [v] = some y := by
  obtain ⟨fuel, hf⟩ := h
  rcases open_slice ht hf with ⟨hcs, _⟩ | ⟨x, l, c, m, n, D, Pl, hcs, _, hl, hm, hmm, _, hi⟩
  · simp [Value.cells] at hcs
    obtain ⟨rfl, rfl, rfl⟩ := hcs
    exact ⟨Nat.le_refl _, by decide, fun i hi => by omega⟩
  · simp [Value.cells] at hcs
    obtain ⟨rfl, rfl, rfl⟩ := hcs
    have hlm : len ≤ m := by rw [hmm]; split <;> omega
    have key : ∀ i, i < len → ∃ (v : Value) (y : DataW H × List MemPlace) (n : Nat), W.cell? (x.add i) = some v ∧ DataW.trod enc P W base spare held n e [v] = some y := by
      intro i hil
      obtain ⟨cs', hc, ht'⟩ := hi i (by omega)
      rw [hC, Nat.mul_one] at hc
      obtain ⟨_, hcl, hat⟩ := World.cells?_some hc
      match cs', hcl with
      | [v], _ =>
        refine ⟨v, _, n, ?_, ht'⟩
        have := hat 0 (by omega)
        simpa [Addr.add] using this
    refine ⟨hl, by omega, fun i hil => ?_⟩
    obtain ⟨v0, _, _, hv0, _⟩ := key 0 (by omega)
    have hx : x = ⟨x.block, x.off, none⟩ := by
      have h00 : W.cell? x = some v0 := by simpa [Addr.add] using hv0
      exact addr_plain h00
    obtain ⟨b, off, spot⟩ := x
    simp only [Addr.mk.injEq, true_and] at hx
    subst hx
    obtain ⟨v, y, n', h1, h2⟩ := key i hil
    rw [add_plain] at h1
    refine ⟨b, off, rfl, World.block_lt_of_cell? W _ h1, v, y, n', h1, h2⟩
theorem field_string {n : Nat} {t : TypeId} {v : Value} {y : DataW H × List MemPlace} (ht : P.underlying t = some .string) (h : DataW.trod enc P W base spare held n t [v] = some y) : ∃ s : ByteArray, v = .string s ∧ s.size ≤ maxLen := by
  obtain ⟨s, e0, _, hs⟩ := DataW.trod_string ht h
  simp at e0
  exact ⟨s, e0, hs⟩
end

def Strs (w : World) (A : Option Addr) (n : Nat) : Prop :=
  n ≤ maxLen ∧ ∀ i, i < n → ∃ b off s, A = some ⟨b, off, none⟩ ∧ b < w.heap.size ∧ ByteArray.size s ≤ maxLen ∧ w.cell? ⟨b, off + i, none⟩ = some (.string s)
def Bools (w : World) (A : Option Addr) (n : Nat) : Prop :=
  n ≤ maxLen ∧ ∀ i, i < n → ∃ b off s, A = some ⟨b, off, none⟩ ∧ b < w.heap.size ∧ w.cell? ⟨b, off + i, none⟩ = some (.bool s)
theorem Strs.kept {w w' : World} {A : Option Addr} {n : Nat} (h : Strs w A n) (k : Kept [] w w') : Strs w' A n :=
  ⟨h.1, fun i hi => by
    obtain ⟨b, off, s, rfl, hb, hs, hc⟩ := h.2 i hi
    exact ⟨b, off, s, rfl, Nat.lt_of_lt_of_le hb k.size, hs, (k.cell (p := ⟨b, _, none⟩) hb (by simp)).trans hc⟩⟩
theorem Bools.kept {w w' : World} {A : Option Addr} {n : Nat} (h : Bools w A n) (k : Kept [] w w') : Bools w' A n :=
  ⟨h.1, fun i hi => by
    obtain ⟨b, off, s, rfl, hb, hc⟩ := h.2 i hi
    exact ⟨b, off, s, rfl, Nat.lt_of_lt_of_le hb k.size, (k.cell (p := ⟨b, _, none⟩) hb (by simp)).trans hc⟩⟩
section
variable {H : Type} {enc : TypeId × Value → H} {W : World} {base : Nat} {spare : Nat → Bool} {held : Bool} {a : Option Addr} {len cap : Nat} {d : DataW H} {p : List MemPlace}
theorem open_Strs (h : DataW.Trod enc Try.prog W base spare held 30 (.slice a len cap) d p) : ∃ _u : Unit, Strs W a len ∧ len ≤ cap := by
  obtain ⟨h1, h2, h3⟩ := open_ones Try.underlying30 (by kernel_rfl) h
  refine ⟨(), ⟨h2, fun i hi => ?_⟩, h1⟩
  obtain ⟨b, off, rfl, hb, v, y, n, hc, ht⟩ := h3 i hi
  obtain ⟨s, rfl, hs⟩ := field_string Try.underlying9 ht
  exact ⟨b, off, s, rfl, hb, hs, hc⟩
theorem open_Bools (h : DataW.Trod enc Try.prog W base spare held 31 (.slice a len cap) d p) : ∃ _u : Unit, Bools W a len ∧ len ≤ cap := by
  obtain ⟨h1, h2, h3⟩ := open_ones Try.underlying31 (by kernel_rfl) h
  refine ⟨(), ⟨h2, fun i hi => ?_⟩, h1⟩
  obtain ⟨b, off, rfl, hb, v, y, n, hc, ht⟩ := h3 i hi
  obtain ⟨s, rfl⟩ := field_bool Try.underlying4 ht
  exact ⟨b, off, s, rfl, hb, hc⟩
end
end Go.Proofs.Ytpdabmbjnmpgbaa
