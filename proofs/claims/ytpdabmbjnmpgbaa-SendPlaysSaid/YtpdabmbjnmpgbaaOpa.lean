/-
  The arguments of the senders' laws, opened: an act by value, a slice of acts, a slice of byte slices.
-/
import Derived.Test.YtpdabmbjnmpgbaaOpt
import Derived.Test.YtpdabmbjnmpgbaaSkn
namespace Go.Proofs.Ytpdabmbjnmpgbaa
open Go.ChangeShapes Go.WideShapes Go.ChangeAt Go.RowKit Go.Deep
set_option linter.unusedVariables false

/-- Bytes that came in: their numbers, of a byte's range. -/
def ByIn (w : World) (A : Option Addr) (n c : Nat) (xs : List Int) : Prop := Byt w A n xs ∧ n ≤ c ∧ c ≤ maxLen ∧ ∀ x ∈ xs, 0 ≤ x ∧ x < 256
section
variable {H : Type} {enc : TypeId × Value → H} {W : World} {base : Nat} {spare : Nat → Bool} {held : Bool}
theorem field_bytes {n : Nat} {v : Value} {y : DataW H × List MemPlace} (h : DataW.trod enc Try.prog W base spare held n 96 [v] = some y) : ∃ A m c xs, v = .slice A m c ∧ ByIn W A m c xs := by
  rcases open_ints Try.underlying96 Try.underlying5 (by kernel_rfl) h with ⟨hcs, _⟩ | ⟨x, l, c, zs, hcs, _, hl, hm, hz, _, hcell, hwz⟩
  · simp at hcs
    exact ⟨none, 0, 0, [], hcs, ⟨rfl, .inl rfl⟩, Nat.le_refl _, by decide, by simp⟩
  · simp at hcs
    have hlz : l ≤ zs.length := by rw [hz]; split <;> omega
    have hw : ∀ z ∈ zs, 0 ≤ z ∧ z < 256 := fun z hm => by
      have := hwz z hm
      simp [Lit.wf] at this
      have e1 : IntKind.u8.min = 0 := by decide
      have e2 : IntKind.u8.max = 255 := by decide
      omega
    refine ⟨_, _, _, zs.take l, hcs, ⟨by rw [List.length_take]; omega, ?_⟩, hl, hm, fun z hm => hw z (List.mem_of_mem_take hm)⟩
    by_cases h0 : l = 0
    · exact .inl h0
    · right
      have h0 := hcell 0 (by omega)
      have hx : x = ⟨x.block, x.off, none⟩ := by
        have h0' : W.cell? x = some (.int .u8 (zs.getD 0 0)) := by simpa [Addr.add] using h0
        exact addr_plain h0'
      obtain ⟨b, off, spot⟩ := x
      simp only [Addr.mk.injEq, true_and] at hx
      subst hx
      refine ⟨b, off, rfl, ?_, fun j hj => ?_⟩
      · have := World.block_lt_of_cell? W _ h0
        rwa [add_plain] at this
      · have := hcell j (by omega)
        rw [add_plain] at this
        rw [this]
        simp [List.getD_eq_getElem?_getD, hj]
theorem field_u64 {n : Nat} {v : Value} {y : DataW H × List MemPlace} (h : DataW.trod enc Try.prog W base spare held n 27 [v] = some y) : ∃ z, v = .int .u64 z ∧ 0 ≤ z ∧ z < 18446744073709551616 := by
  obtain ⟨a, e0, _, wa⟩ := DataW.trod_int Try.underlying27 h
  simp at e0
  refine ⟨a, e0, ?_⟩
  simp [Lit.wf] at wa
  have e1 : IntKind.u64.min = 0 := by decide
  have e2 : IntKind.u64.max = 18446744073709551615 := by decide
  omega
theorem open_fields {P : Program} {t : TypeId} {fs : Array Field} {v : Value} {d : DataW H} {p : List MemPlace} {b0 : Nat} {r : Reach} (hs : P.underlying t = some (.struct fs)) (hone : oneCellFields P fs = true) (hC : P.cellsOf t = fs.size)
    (hv : Value.okWide P W r b0 t v) (h : DataW.Trod enc P W base spare held t v d p) :
    ∃ cs : Array Value, v = .agg cs ∧ cs.size = fs.size ∧ ∀ (j : Nat) (f : Field), fs[j]? = some f → ∃ (x : Value) (y : DataW H × List MemPlace) (n : Nat), cs[j]? = some x ∧ DataW.trod enc P W base spare held n f.type [x] = some y := by
  obtain ⟨cs, rfl, hsz⟩ := okWide_struct hs hv
  obtain ⟨fuel, hf⟩ := h
  obtain ⟨ys, n', hn', hy, hlen, hyl, hff⟩ := DataW.trod_struct hs hf
  refine ⟨cs, rfl, hsz.trans hC, fun j f hj => ?_⟩
  obtain ⟨ho, hk⟩ := hone_of hone j f hj
  have hjl : j < fs.size := (Array.getElem?_eq_some_iff.1 hj).1
  have h1 := hff j f hj
  rw [ho, hk] at h1
  have hl : j < (Value.cells (.agg cs)).toList.length := by rw [hlen, hC]; exact hjl
  have hone' : ((Value.cells (.agg cs)).toList.drop j).take 1 = [(Value.cells (.agg cs)).toList[j]'hl] := by
    rw [List.drop_eq_getElem_cons hl]
    rfl
  rw [hone'] at h1
  have hys : ys[j]? = some (ys[j]'(by omega)) := List.getElem?_eq_getElem (by omega)
  refine ⟨_, _, _, ?_, h1.trans hys⟩
  have hl2 : j < cs.size := by have := hsz.trans hC; omega
  rw [Array.getElem?_eq_getElem hl2]
  rfl
end
/-- An act of a sender's law. -/
structure SA where
  kind : Int
  A : Option Addr
  n : Nat
  c : Nat
  N : Int
  now : Int
  rows : Int
  cols : Int
  xs : List Int
def SA.val (z : SA) : Value := .agg #[.int .i64 z.kind, .slice z.A z.n z.c, .int .u64 z.N, .int .u64 z.now, .int .i64 z.rows, .int .i64 z.cols]
structure SA.ok (z : SA) (w : World) : Prop where
  by_ : ByIn w z.A z.n z.c z.xs
  N : 0 ≤ z.N ∧ z.N < 18446744073709551616
  now : 0 ≤ z.now ∧ z.now < 18446744073709551616
  kind : (Lit.int .i64 z.kind).wf = true
  rows : (Lit.int .i64 z.rows).wf = true
  cols : (Lit.int .i64 z.cols).wf = true
section
variable {H : Type} {enc : TypeId × Value → H} {W : World} {base : Nat} {spare : Nat → Bool} {held : Bool}
set_option maxRecDepth 100000 in
theorem open_SAct {v : Value} {d : DataW H} {p : List MemPlace} {b0 : Nat} {r : Reach} (hv : Value.okWide Try.prog W r b0 112 v) (h : DataW.Trod enc Try.prog W base spare held 112 v d p) : ∃ z : SA, v = z.val ∧ z.ok W := by
  obtain ⟨cs, rfl, hsz, hf⟩ := open_fields Try.underlying112 (by kernel_rfl) (by kernel_rfl) hv h
  obtain ⟨v0, y0, n0, c0, t0⟩ := hf 0 _ rfl
  obtain ⟨v1, y1, n1, c1, t1⟩ := hf 1 _ rfl
  obtain ⟨v2, y2, n2, c2, t2⟩ := hf 2 _ rfl
  obtain ⟨v3, y3, n3, c3, t3⟩ := hf 3 _ rfl
  obtain ⟨v4, y4, n4, c4, t4⟩ := hf 4 _ rfl
  obtain ⟨v5, y5, n5, c5, t5⟩ := hf 5 _ rfl
  obtain ⟨z0, rfl, w0⟩ := field_int Try.underlying3 t0
  obtain ⟨A, m, c, xs, rfl, hb⟩ := field_bytes t1
  obtain ⟨z2, rfl, w2⟩ := field_u64 t2
  obtain ⟨z3, rfl, w3⟩ := field_u64 t3
  obtain ⟨z4, rfl, w4⟩ := field_int Try.underlying3 t4
  obtain ⟨z5, rfl, w5⟩ := field_int Try.underlying3 t5
  refine ⟨⟨z0, A, m, c, z2, z3, z4, z5, xs⟩, ?_, hb, w2, w3, w0, w4, w5⟩
  unfold SA.val
  congr 1
  apply Array.ext
  · exact hsz
  · intro i h1 h2
    have hi : i < 6 := h2
    have key : ∀ x, cs[i]? = some x → cs[i] = x := fun x hx => by rw [Array.getElem?_eq_getElem h1] at hx; exact Option.some.inj hx
    have hcase : i = 0 ∨ i = 1 ∨ i = 2 ∨ i = 3 ∨ i = 4 ∨ i = 5 := by omega
    rcases hcase with rfl | rfl | rfl | rfl | rfl | rfl
    · exact key _ c0
    · exact key _ c1
    · exact key _ c2
    · exact key _ c3
    · exact key _ c4
    · exact key _ c5
end
/-- Acts that came in. -/
def SActs (w : World) (A : Option Addr) (n : Nat) : Prop :=
  n ≤ maxLen ∧ ∀ i, i < n → ∃ b off, ∃ z : SA, A = some ⟨b, off, none⟩ ∧ b < w.heap.size ∧ z.ok w ∧
    w.cell? ⟨b, off + i * 6, none⟩ = some (.int .i64 z.kind) ∧ w.cell? ⟨b, off + i * 6 + 1, none⟩ = some (.slice z.A z.n z.c) ∧ w.cell? ⟨b, off + i * 6 + 2, none⟩ = some (.int .u64 z.N) ∧ w.cell? ⟨b, off + i * 6 + 3, none⟩ = some (.int .u64 z.now) ∧
    w.cell? ⟨b, off + i * 6 + 4, none⟩ = some (.int .i64 z.rows) ∧ w.cell? ⟨b, off + i * 6 + 5, none⟩ = some (.int .i64 z.cols)
/-- Slices of bytes that came in. -/
def BRows (w : World) (A : Option Addr) (n : Nat) : Prop :=
  n ≤ maxLen ∧ ∀ i, i < n → ∃ b off B m c xs, A = some ⟨b, off, none⟩ ∧ b < w.heap.size ∧ ByIn w B m c xs ∧ w.cell? ⟨b, off + i, none⟩ = some (.slice B m c)
section
variable {H : Type} {enc : TypeId × Value → H} {W : World} {base : Nat} {spare : Nat → Bool} {held : Bool} {a : Option Addr} {len cap : Nat} {d : DataW H} {p : List MemPlace}
set_option maxRecDepth 100000 in
theorem open_SActs (h : DataW.Trod enc Try.prog W base spare held 110 (.slice a len cap) d p) : ∃ _u : Unit, SActs W a len ∧ len ≤ cap := by
  obtain ⟨h1, h2, h3⟩ := open_rows Try.underlying110 Try.underlying112 (by kernel_rfl) (by kernel_rfl) (by simp) h
  refine ⟨(), ⟨h2, fun i hi => ?_⟩, h1⟩
  obtain ⟨b, off, rfl, hb, hf⟩ := h3 i hi
  obtain ⟨v0, y0, n0, c0, t0⟩ := hf 0 _ rfl
  obtain ⟨v1, y1, n1, c1, t1⟩ := hf 1 _ rfl
  obtain ⟨v2, y2, n2, c2, t2⟩ := hf 2 _ rfl
  obtain ⟨v3, y3, n3, c3, t3⟩ := hf 3 _ rfl
  obtain ⟨v4, y4, n4, c4, t4⟩ := hf 4 _ rfl
  obtain ⟨v5, y5, n5, c5, t5⟩ := hf 5 _ rfl
  obtain ⟨z0, rfl, w0⟩ := field_int Try.underlying3 t0
  obtain ⟨A, m, c, xs, rfl, hbb⟩ := field_bytes t1
  obtain ⟨z2, rfl, w2⟩ := field_u64 t2
  obtain ⟨z3, rfl, w3⟩ := field_u64 t3
  obtain ⟨z4, rfl, w4⟩ := field_int Try.underlying3 t4
  obtain ⟨z5, rfl, w5⟩ := field_int Try.underlying3 t5
  exact ⟨b, off, ⟨z0, A, m, c, z2, z3, z4, z5, xs⟩, rfl, hb, ⟨hbb, w2, w3, w0, w4, w5⟩, c0, c1, c2, c3, c4, c5⟩
theorem open_BRows (h : DataW.Trod enc Try.prog W base spare held 98 (.slice a len cap) d p) : ∃ _u : Unit, BRows W a len ∧ len ≤ cap := by
  obtain ⟨h1, h2, h3⟩ := open_ones Try.underlying98 (by kernel_rfl) h
  refine ⟨(), ⟨h2, fun i hi => ?_⟩, h1⟩
  obtain ⟨b, off, rfl, hb, v, y, n, hc, ht⟩ := h3 i hi
  obtain ⟨A, m, c, xs, rfl, hbb⟩ := field_bytes ht
  exact ⟨b, off, A, m, c, xs, rfl, hb, hbb, hc⟩
end
theorem ByIn.kept {w w' : World} {A : Option Addr} {n c : Nat} {xs : List Int} (h : ByIn w A n c xs) (k : Kept [] w w') : ByIn w' A n c xs := ⟨h.1.kept k (by simp), h.2⟩
theorem SA.ok.kept {w w' : World} {z : SA} (h : z.ok w) (k : Kept [] w w') : z.ok w' := ⟨h.by_.kept k, h.N, h.now, h.kind, h.rows, h.cols⟩
theorem SActs.kept {w w' : World} {A : Option Addr} {n : Nat} (h : SActs w A n) (k : Kept [] w w') : SActs w' A n :=
  ⟨h.1, fun i hi => by
    obtain ⟨b, off, z, rfl, hb, hz, c0, c1, c2, c3, c4, c5⟩ := h.2 i hi
    exact ⟨b, off, z, rfl, Nat.lt_of_lt_of_le hb k.size, hz.kept k, (k.cell (p := ⟨b, _, none⟩) hb (by simp)).trans c0, (k.cell (p := ⟨b, _, none⟩) hb (by simp)).trans c1, (k.cell (p := ⟨b, _, none⟩) hb (by simp)).trans c2, (k.cell (p := ⟨b, _, none⟩) hb (by simp)).trans c3, (k.cell (p := ⟨b, _, none⟩) hb (by simp)).trans c4, (k.cell (p := ⟨b, _, none⟩) hb (by simp)).trans c5⟩⟩
theorem BRows.kept {w w' : World} {A : Option Addr} {n : Nat} (h : BRows w A n) (k : Kept [] w w') : BRows w' A n :=
  ⟨h.1, fun i hi => by
    obtain ⟨b, off, B, m, c, xs, rfl, hb, hz, c0⟩ := h.2 i hi
    exact ⟨b, off, B, m, c, xs, rfl, Nat.lt_of_lt_of_le hb k.size, hz.kept k, (k.cell (p := ⟨b, _, none⟩) hb (by simp)).trans c0⟩⟩
end Go.Proofs.Ytpdabmbjnmpgbaa
