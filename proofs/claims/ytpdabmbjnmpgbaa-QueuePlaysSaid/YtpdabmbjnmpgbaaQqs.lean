/-
  How the law's two queues and the document's two lists stand (QueuePlays).
-/
import Derived.Test.YtpdabmbjnmpgbaaQp
import Derived.Test.YtpdabmbjnmpgbaaOps
namespace Go.Proofs.Ytpdabmbjnmpgbaa
open Go.Conc Go.RowKit Go.ChangeShapes Go.WideShapes Go.ChangeAt Go.Deep
set_option linter.unusedVariables false

/-- The acts of a queue's law: Kind, N. -/
def QActs (w : World) (A : Option Addr) (n : Nat) : Prop :=
  n ≤ maxLen ∧ ∀ i, i < n → ∃ b off k m, A = some ⟨b, off, none⟩ ∧ b < w.heap.size ∧ (Lit.int .i64 k).wf = true ∧ (Lit.int .i64 m).wf = true ∧
    w.cell? ⟨b, off + i * 2, none⟩ = some (.int .i64 k) ∧ w.cell? ⟨b, off + i * 2 + 1, none⟩ = some (.int .i64 m)
theorem open_QActs {H : Type} {enc : TypeId × Value → H} {W : World} {base : Nat} {spare : Nat → Bool} {held : Bool} {a : Option Addr} {len cap : Nat} {d : DataW H} {p : List MemPlace}
    (h : DataW.Trod enc Try.prog W base spare held 75 (.slice a len cap) d p) : ∃ _u : Unit, QActs W a len ∧ len ≤ cap := by
  obtain ⟨h1, h2, h3⟩ := open_rows Try.underlying75 Try.underlying79 (by kernel_rfl) (by kernel_rfl) (by simp) h
  refine ⟨(), ⟨h2, fun i hi => ?_⟩, h1⟩
  obtain ⟨b, off, rfl, hb, hf⟩ := h3 i hi
  obtain ⟨v0, y0, n0, c0, t0⟩ := hf 0 _ rfl
  obtain ⟨v1, y1, n1, c1, t1⟩ := hf 1 _ rfl
  obtain ⟨z0, rfl, w0⟩ := field_int Try.underlying3 t0
  obtain ⟨z1, rfl, w1⟩ := field_int Try.underlying3 t1
  exact ⟨b, off, z0, z1, rfl, hb, w0, w1, c0, c1⟩

/-- The blocks that stay: the queues', their channels', the document's. -/
structure Sts where
  g1 : Nat
  c1 : Nat
  cap1 : Nat
  g2 : Nat
  c2 : Nat
  cap2 : Nat
  B1 : Nat
  B2 : Nat
structure QPS (w wr : World) (t : Sts) (xs ys us vs : List Int) (A : Option Addr) (n cp : Nat) (B : Option Addr) (m cq : Nat) : Prop where
  s : PoS w wr t.g1 t.c1 t.cap1 t.g2 t.c2 t.cap2 xs ys
  bm : wr.heap[t.B1]? = some (.cells #[.slice A n cp, .int .i64 t.cap1] 77)
  bn : wr.heap[t.B2]? = some (.cells #[.slice B m cq, .int .i64 t.cap2] 77)
  da : Doc wr A n cp us
  db : Doc wr B m cq vs
  sa : ∀ a, A = some a → t.B2 < a.block
  sb : ∀ a, B = some a → t.B2 < a.block
  lo : w.heap.size ≤ t.B1 ∧ t.g1 < t.B1 ∧ t.c1 < t.B1 ∧ t.g2 < t.B1 ∧ t.c2 < t.B1 ∧ t.B1 < t.B2
section
variable {w wr wj w2 : World} {t : Sts} {xs ys us vs xs2 ys2 us2 vs2 : List Int} {A B A2 B2 : Option Addr} {n cp m cq n2 cp2 m2 cq2 : Nat}
theorem QPS.kin (h : QPS w wr t xs ys us vs A n cp B m cq) (s : PoS w wj t.g1 t.c1 t.cap1 t.g2 t.c2 t.cap2 xs2 ys2) {S : List Nat} (k : Kept S wr wj) (hS : ∀ i ∈ S, i = t.c1 ∨ i = t.c2) : QPS w wj t xs2 ys2 us vs A n cp B m cq := by
  have hl := h.lo
  have hn : ∀ i, t.B1 ≤ i → i ∉ S := fun i hi hm => by have := hS i hm; omega
  exact ⟨s, k.obj h.bm (hn _ (by omega)), k.obj h.bn (hn _ (by omega)), h.da.kept k (fun a ha => hn _ (by have := h.sa a ha; omega)), h.db.kept k (fun a ha => hn _ (by have := h.sb a ha; omega)), h.sa, h.sb, h.lo⟩
theorem QPS.next (h : QPS w wr t xs ys us vs A n cp B m cq) (k : Kept [] wr wj) : QPS w wj t xs ys us vs A n cp B m cq := h.kin (h.s.next k) k (by simp)
theorem QPS.atp (h : QPS w wr t xs ys us vs A n cp B m cq) (hq : QI wj t.g1 t.c1 t.cap1 xs2) (hx : xs2.length ≤ t.cap1) (k : Kept [t.c1] wr wj) : QPS w wj t xs2 ys us vs A n cp B m cq := h.kin (h.s.atp hq hx k) k (by simp)
theorem QPS.atq (h : QPS w wr t xs ys us vs A n cp B m cq) (hq : QI wj t.g2 t.c2 t.cap2 ys2) (hx : ys2.length ≤ t.cap2) (k : Kept [t.c2] wr wj) : QPS w wj t xs ys2 us vs A n cp B m cq := h.kin (h.s.atq hq hx k) k (by simp)
theorem QPS.both (h : QPS w wr t xs ys us vs A n cp B m cq) (hp : QI wj t.g1 t.c1 t.cap1 xs2) (hq : QI wj t.g2 t.c2 t.cap2 ys2) (hx : xs2.length ≤ t.cap1) (hy : ys2.length ≤ t.cap2) {S : List Nat} (k : Kept S wr wj) (hS : ∀ i ∈ S, i = t.c1 ∨ i = t.c2) : QPS w wj t xs2 ys2 us vs A n cp B m cq :=
  h.kin (h.s.both hp hq hx hy k hS) k hS
/-- The document's two queues turn; the real ones do not yet. -/
theorem QPS.docs (h : QPS w wr t xs ys us vs A n cp B m cq) (k : Kept [t.B1, t.B2] wr wj) (hm : wj.heap[t.B1]? = some (.cells #[.slice A2 n2 cp2, .int .i64 t.cap1] 77)) (hn : wj.heap[t.B2]? = some (.cells #[.slice B2 m2 cq2, .int .i64 t.cap2] 77))
    (da : Doc wj A2 n2 cp2 us2) (db : Doc wj B2 m2 cq2 vs2) (sa : ∀ a, A2 = some a → t.B2 < a.block) (sb : ∀ a, B2 = some a → t.B2 < a.block) : QPS w wj t xs ys us2 vs2 A2 n2 cp2 B2 m2 cq2 := by
  have hl := h.lo
  have hlo := h.s.lo
  exact ⟨⟨h.s.p.next k (by simp; omega) (by simp; omega), h.s.q.next k (by simp; omega) (by simp; omega), h.s.gg, h.s.cc, h.s.lo, h.s.px, h.s.qx, h.s.kept.trans k (by intro i hi hm; simp at hm; omega)⟩, hm, hn, da, db, sa, sb, h.lo⟩
/-- .. the first alone, its value having come by a call (w2), a block laid for it. -/
theorem QPS.docm (h : QPS w wr t xs ys us vs A n cp B m cq) (hd : Doc w2 A2 n2 cp2 us2) (hk : Kept [] wr w2) (h2 : ∀ a, A2 = some a → A = some a ∨ wr.heap.size ≤ a.block) (o : Obj) :
    QPS w (((w2.setCell ⟨t.B1, 0, none⟩ (.slice A2 n2 cp2)).setCell ⟨t.B1, 1, none⟩ (.int .i64 t.cap1)).alloc o) t xs ys us2 vs A2 n2 cp2 B m cq := by
  have hl := h.lo
  have hz := heap_lt h.bn
  have hw : Kept [t.B1] w2 (((w2.setCell ⟨t.B1, 0, none⟩ (.slice A2 n2 cp2)).setCell ⟨t.B1, 1, none⟩ (.int .i64 t.cap1)).alloc o) :=
    ((((Kept.refl [t.B1] w2).setCell (.inl (by simp)) _).setCell (.inl (by simp)) _).alloc o)
  have hA : ∀ a, A2 = some a → t.B2 < a.block := fun a ha => by
    rcases h2 a ha with h3 | h3
    · exact h.sa a h3
    · omega
  refine h.docs ((hk.mono (by simp)).trans hw (by intro i _ hi; simp at hi ⊢; exact .inl hi)) ?_ ?_ (hd.kept hw (fun a ha => by have := hA a ha; simp; omega)) ((h.db.kept hk (by simp)).kept hw (fun a ha => by have := h.sb a ha; simp; omega)) hA h.sb
  · have h1 := obj_alloc (obj_set (obj_set (hk.obj h.bm (by simp)) 0 (.slice A2 n2 cp2)) 1 (.int .i64 t.cap1)) o
    simpa using h1
  · exact obj_alloc (obj_far (obj_far (hk.obj h.bn (by simp)) (by simp; omega) _) (by simp; omega) _) o
theorem QPS.cells (h : QPS w wr t xs ys us vs A n cp B m cq) : wr.cell? ⟨t.B1, 0, none⟩ = some (.slice A n cp) ∧ wr.cell? ⟨t.B1, 1, none⟩ = some (.int .i64 t.cap1) ∧ wr.cell? ⟨t.B2, 0, none⟩ = some (.slice B m cq) ∧ wr.cell? ⟨t.B2, 1, none⟩ = some (.int .i64 t.cap2) ∧
    (∀ i, wr.frozen? ⟨t.B1, i, none⟩ = false) ∧ (∀ i, wr.frozen? ⟨t.B2, i, none⟩ = false) ∧ t.B1 < wr.heap.size ∧ t.B2 < wr.heap.size :=
  ⟨obj_cell h.bm 0, obj_cell h.bm 1, obj_cell h.bn 0, obj_cell h.bn 1, obj_frozen h.bm, obj_frozen h.bn, heap_lt h.bm, heap_lt h.bn⟩
end
end Go.Proofs.Ytpdabmbjnmpgbaa
