/-
  A slice of structs of one-cell fields that came in, opened: each field's cell, with its own reading.
-/
import Derived.Test.YtpdabmbjnmpgbaaOpn
import Derived.Deep.Slices
import Derived.Deep.Fields
import Derived.ChangeSame
namespace Go.Proofs.Ytpdabmbjnmpgbaa
open Go.ChangeShapes Go.WideShapes Go.ChangeAt Go.RowKit Go.Deep
set_option linter.unusedVariables false

section
variable {H : Type} {enc : TypeId × Value → H} {P : Program} {W : World} {base : Nat} {spare : Nat → Bool} {held : Bool}
theorem open_rows {t e : TypeId} {fs : Array Field} {a : Option Addr} {len cap : Nat} {d : DataW H} {p : List MemPlace} (ht : P.underlying t = some (.slice e)) (he : P.underlying e = some (.struct fs))
    (hone : oneCellFields P fs = true) (hC : P.cellsOf e = fs.size) (hpos : 0 < fs.size) (h : DataW.Trod enc P W base spare held t (.slice a len cap) d p) :
    len ≤ cap ∧ len ≤ maxLen ∧ ∀ i, i < len → ∃ b off, a = some ⟨b, off, none⟩ ∧ b < W.heap.size ∧
      ∀ (j : Nat) (f : Field), fs[j]? = some f → ∃ (v : Value) (y : DataW H × List MemPlace) (n : Nat), W.cell? ⟨b, off + (i * fs.size + j), none⟩ = some v ∧ DataW.trod enc P W base spare held n f.type [v] = some y := by
  obtain ⟨fuel, hf⟩ := h
  rcases open_slice ht hf with ⟨hcs, _⟩ | ⟨x, l, c, m, n, D, Pl, hcs, _, hl, hm, hmm, _, hi⟩
  · simp [Value.cells] at hcs
    obtain ⟨rfl, rfl, rfl⟩ := hcs
    exact ⟨Nat.le_refl _, by decide, fun i hi => by omega⟩
  · simp [Value.cells] at hcs
    obtain ⟨rfl, rfl, rfl⟩ := hcs
    have hlm : len ≤ m := by rw [hmm]; split <;> omega
    refine ⟨hl, by omega, fun i hil => ?_⟩
    have key : ∀ i, i < len → ∀ (j : Nat) (f : Field), fs[j]? = some f → ∃ (v : Value) (y : DataW H × List MemPlace) (n : Nat), W.cell? (x.add (i * fs.size + j)) = some v ∧ DataW.trod enc P W base spare held n f.type [v] = some y := by
      intro i hil j f hj
      obtain ⟨cs', hc, ht'⟩ := hi i (by omega)
      rw [hC] at hc
      obtain ⟨ys, n', hn', hy, hlen, hyl, hff⟩ := DataW.trod_struct he ht'
      obtain ⟨_, hcl, hat⟩ := World.cells?_some hc
      obtain ⟨ho, hk⟩ := hone_of hone j f hj
      have hjl : j < fs.size := (Array.getElem?_eq_some_iff.1 hj).1
      have hcell := hat j hjl
      have hv : cs'[j]? = some (cs'[j]'(by omega)) := List.getElem?_eq_getElem (by omega)
      have h1 := hff j f hj
      rw [ho, hk] at h1
      have hone' : (cs'.drop j).take 1 = [cs'[j]'(by omega)] := by
        rw [List.drop_eq_getElem_cons (by omega)]
        rfl
      rw [hone'] at h1
      have hys : ys[j]? = some (ys[j]'(by omega)) := List.getElem?_eq_getElem (by omega)
      refine ⟨_, _, _, ?_, h1.trans hys⟩
      rw [← Go.Deep.add_add, hcell, hv]
    obtain ⟨f0, hf0⟩ : ∃ f0, fs[0]? = some f0 := ⟨fs[0], Array.getElem?_eq_getElem hpos⟩
    obtain ⟨v0, _, _, hv0, _⟩ := key 0 (by omega) 0 f0 hf0
    have hx : x = ⟨x.block, x.off, none⟩ := by
      have h00 : W.cell? x = some v0 := by simpa [Addr.add] using hv0
      exact addr_plain h00
    obtain ⟨b, off, spot⟩ := x
    simp only [Addr.mk.injEq, true_and] at hx
    subst hx
    refine ⟨b, off, rfl, ?_, fun j f hj => ?_⟩
    · have := World.block_lt_of_cell? W _ hv0
      rwa [add_plain] at this
    · obtain ⟨v, y, n, h1, h2⟩ := key i hil j f hj
      rw [add_plain] at h1
      exact ⟨v, y, n, h1, h2⟩

/-- A field that is an integer, a bool. -/
theorem field_int {n : Nat} {t : TypeId} {k : IntKind} {v : Value} {y : DataW H × List MemPlace} (ht : P.underlying t = some (.int k)) (h : DataW.trod enc P W base spare held n t [v] = some y) : ∃ z, v = .int k z ∧ (Lit.int k z).wf = true := by
  obtain ⟨a, e0, _, wa⟩ := DataW.trod_int ht h
  simp at e0
  exact ⟨a, e0, wa⟩
theorem field_bool {n : Nat} {t : TypeId} {v : Value} {y : DataW H × List MemPlace} (ht : P.underlying t = some .bool) (h : DataW.trod enc P W base spare held n t [v] = some y) : ∃ z, v = .bool z := by
  obtain ⟨a, e0, _⟩ := DataW.trod_bool ht h
  simp at e0
  exact ⟨a, e0⟩
end

/-- The acts of a policy's law: Kind, N, Known, Live. -/
def PActs (w : World) (A : Option Addr) (n : Nat) : Prop :=
  n ≤ maxLen ∧ ∀ i, i < n → ∃ b off k m kn lv, A = some ⟨b, off, none⟩ ∧ b < w.heap.size ∧ (Lit.int .i64 m).wf = true ∧
    w.cell? ⟨b, off + i * 4, none⟩ = some (.int .i64 k) ∧ w.cell? ⟨b, off + i * 4 + 1, none⟩ = some (.int .i64 m) ∧ w.cell? ⟨b, off + i * 4 + 2, none⟩ = some (.bool kn) ∧ w.cell? ⟨b, off + i * 4 + 3, none⟩ = some (.bool lv)
theorem open_PActs {H : Type} {enc : TypeId × Value → H} {W : World} {base : Nat} {spare : Nat → Bool} {held : Bool} {a : Option Addr} {len cap : Nat} {d : DataW H} {p : List MemPlace}
    (h : DataW.Trod enc Try.prog W base spare held 52 (.slice a len cap) d p) : ∃ _u : Unit, PActs W a len ∧ len ≤ cap := by
  obtain ⟨h1, h2, h3⟩ := open_rows Try.underlying52 Try.underlying57 (by kernel_rfl) (by kernel_rfl) (by simp) h
  refine ⟨(), ⟨h2, fun i hi => ?_⟩, h1⟩
  obtain ⟨b, off, rfl, hb, hf⟩ := h3 i hi
  obtain ⟨v0, y0, n0, c0, t0⟩ := hf 0 _ rfl
  obtain ⟨v1, y1, n1, c1, t1⟩ := hf 1 _ rfl
  obtain ⟨v2, y2, n2, c2, t2⟩ := hf 2 _ rfl
  obtain ⟨v3, y3, n3, c3, t3⟩ := hf 3 _ rfl
  obtain ⟨z0, rfl, w0⟩ := field_int Try.underlying3 t0
  obtain ⟨z1, rfl, w1⟩ := field_int Try.underlying3 t1
  obtain ⟨z2, rfl⟩ := field_bool Try.underlying4 t2
  obtain ⟨z3, rfl⟩ := field_bool Try.underlying4 t3
  exact ⟨b, off, z0, z1, z2, z3, rfl, hb, w1, c0, c1, c2, c3⟩
end Go.Proofs.Ytpdabmbjnmpgbaa
