/-
  Words of this seat's own: what a call leaves of memory ('Kept S w w'': every block that was there, but those of the list S, is as it was), blocks that are known whole, small laws on numbers. No condition.
-/
import Derived.Test.YtpdabmbjnmpgbaaChecked
import Derived.WalkKit
import Derived.WalkSpells
import Derived.WalkLawsBesides
import Derived.BigRegion
import Derived.BigQuiet
import Derived.Deep.QuietTactic
import Derived.Laws.Rows
import Derived.Conc.LoneCalls
namespace Go.Proofs.Ytpdabmbjnmpgbaa
open Go.RowKit
set_option linter.unusedVariables false

structure Kept (S : List Nat) (w w' : World) : Prop where
  os : w'.os = w.os
  tape : w'.tape = w.tape
  output : w'.output = w.output
  size : w.heap.size ≤ w'.heap.size
  block : ∀ i, i < w.heap.size → i ∉ S → w'.heap[i]? = w.heap[i]?

theorem heap_lt {w : World} {g : Nat} {o : Obj} (h : w.heap[g]? = some o) : g < w.heap.size := by
  rcases Nat.lt_or_ge g w.heap.size with hlt | hge
  · exact hlt
  · rw [Array.getElem?_eq_none hge] at h; cases h

section
variable {S T : List Nat} {a b c w w' : World}
theorem Kept.refl (S : List Nat) (w : World) : Kept S w w := ⟨rfl, rfl, rfl, Nat.le_refl _, fun _ _ _ => rfl⟩
theorem Kept.drew (h : Kept S a w) : Kept S a w.drew := ⟨h.os, h.tape, h.output, h.size, h.block⟩
theorem Kept.drewN (h : Kept S a w) (n : Nat) : Kept S a (w.drewN n) := ⟨h.os, h.tape, h.output, h.size, h.block⟩
theorem Kept.alloc (h : Kept S a w) (o : Obj) : Kept S a (w.alloc o) :=
  ⟨h.os, h.tape, h.output, Nat.le_trans h.size (by simp), fun i hi hn => (Below.heap_alloc w o i (Nat.lt_of_lt_of_le hi h.size)).trans (h.block i hi hn)⟩
theorem Kept.setCell (h : Kept S a w) {p : Addr} (hp : p.block ∈ S ∨ a.heap.size ≤ p.block) (u : Value) : Kept S a (w.setCell p u) :=
  ⟨h.os, h.tape, h.output, by simpa [World.setCell] using h.size, fun i hi hn => (Below.heap_setCell w p u i (by
    rintro rfl
    rcases hp with hp | hp
    · exact hn hp
    · omega)).trans (h.block i hi hn)⟩
theorem Kept.setChan (h : Kept S a w) {g : Nat} (hp : g ∈ S ∨ a.heap.size ≤ g) (cap : Nat) (buf : Array Value) (cl : Bool) (s r : Nat) (tm : Bool) : Kept S a (w.setChan g cap buf cl s r tm) :=
  ⟨h.os, h.tape, h.output, by simpa [World.setChan] using h.size, fun i hi hn => by
    have hne : g ≠ i := by
      rintro rfl
      rcases hp with hp | hp
      · exact hn hp
      · omega
    have : (w.setChan g cap buf cl s r tm).heap[i]? = w.heap[i]? := by
      simp only [World.setChan]
      rw [Array.getElem?_setIfInBounds_ne hne]
    exact this.trans (h.block i hi hn)⟩
theorem Kept.trans (h : Kept S a b) (k : Kept T b c) (hs : ∀ i, i < a.heap.size → i ∈ T → i ∈ S) : Kept S a c :=
  ⟨k.os.trans h.os, k.tape.trans h.tape, k.output.trans h.output, Nat.le_trans h.size k.size,
    fun i hi hn => (k.block i (Nat.lt_of_lt_of_le hi h.size) (fun hT => hn (hs i hi hT))).trans (h.block i hi hn)⟩
theorem Kept.mono (h : Kept S a b) (hs : ∀ i, i < a.heap.size → i ∈ S → i ∈ T) : Kept T a b :=
  ⟨h.os, h.tape, h.output, h.size, fun i hi hn => h.block i hi (fun hS => hn (hs i hi hS))⟩
theorem Kept.of_grown {row : Option Nat} (h : a.grownBy b row) (hs : ∀ g, row = some g → g ∈ S) : Kept S a b :=
  ⟨h.os, h.tape, h.output, h.size, fun i hi hn => h.block i hi (fun e => hn (hs i e.symm))⟩
theorem Kept.of_below (h : Below a.heap.size a b) : Kept S a b := ⟨h.os, h.tape, h.output, h.size, fun i hi _ => h.block i hi⟩
theorem Kept.below (h : Kept S a b) {B : Nat} (hB : B ≤ a.heap.size) (hs : ∀ i ∈ S, B ≤ i) : Below B a b :=
  ⟨h.os, h.tape, h.output, h.size, fun i hi => h.block i (Nat.lt_of_lt_of_le hi hB) (fun hS => by have := hs i hS; omega)⟩
theorem Kept.below0 (h : Kept [] a b) : Below a.heap.size a b := h.below (Nat.le_refl _) (by simp)
/-- A frame of the law's own: below B nothing has turned. -/
theorem Below.kept {B : Nat} (h : Below B a b) (k : Kept S b c) (hB : B ≤ b.heap.size) (hs : ∀ i ∈ S, B ≤ i) : Below B a c := h.trans (k.below hB hs)
theorem Kept.grown (h : Kept S a b) {row : Option Nat} (hg : b.grownBy c row) (hs : ∀ g, row = some g → g ∈ S ∨ a.heap.size ≤ g) : Kept S a c :=
  ⟨hg.os.trans h.os, hg.tape.trans h.tape, hg.output.trans h.output, Nat.le_trans h.size hg.size,
    fun i hi hn => (hg.block i (Nat.lt_of_lt_of_le hi h.size) (fun e => by
      rcases hs i e.symm with h1 | h1
      · exact hn h1
      · omega)).trans (h.block i hi hn)⟩
theorem Kept.obj (h : Kept S a b) {g : Nat} {o : Obj} (ho : a.heap[g]? = some o) (hg : g ∉ S) : b.heap[g]? = some o := (h.block g (heap_lt ho) hg).trans ho
theorem Kept.cell (h : Kept S a b) {p : Addr} (hp : p.block < a.heap.size) (hg : p.block ∉ S) : b.cell? p = a.cell? p := World.cell?_of_block (w := a) (h.block p.block hp hg)
theorem Kept.own (h : Kept S a b) {base : Nat} {e : TypeId} {size : Nat} {v : Value} {n : Nat} {xs : List Value} (ho : a.ownsRow base e size v n xs) (hs : ∀ g, v.ownBlock = some g → g ∉ S) : b.ownsRow base e size v n xs := by
  refine ⟨ho.1, ?_⟩
  rcases ho.2 with hn | ⟨g, cap, cur, rfl, hb, hgg, rest⟩
  · exact .inl hn
  · exact .inr ⟨g, cap, cur, rfl, hb, h.obj hgg (hs g rfl), rest⟩
end

theorem hide {p : Prop} (h : p) : Hid p := h
theorem unhide {p : Prop} (h : Hid p) : p := h

/-- A block's cells, once the block is known whole. -/
theorem obj_cell {w : World} {g : Nat} {cs : Array Value} {t : TypeId} (h : w.heap[g]? = some (.cells cs t (0, 0))) (i : Nat) : w.cell? ⟨g, i, none⟩ = cs[i]? := cell_of_row w g i cs t (0, 0) h
theorem obj_frozen {w : World} {g : Nat} {cs : Array Value} {t : TypeId} (h : w.heap[g]? = some (.cells cs t (0, 0))) (i : Nat) : w.frozen? ⟨g, i, none⟩ = false := by simp [World.frozen?, h]
theorem obj_set {w : World} {g : Nat} {cs : Array Value} {t : TypeId} (h : w.heap[g]? = some (.cells cs t (0, 0))) (i : Nat) (u : Value) : (w.setCell ⟨g, i, none⟩ u).heap[g]? = some (.cells (cs.setIfInBounds i u) t (0, 0)) := by
  simp [World.setCell, Array.getElem?_modify, h]
theorem obj_far {w : World} {g : Nat} {o : Obj} (h : w.heap[g]? = some o) {p : Addr} (hp : g ≠ p.block) (u : Value) : (w.setCell p u).heap[g]? = some o := (Below.heap_setCell w p u g hp).trans h
theorem obj_new (w : World) (o : Obj) : (w.alloc o).heap[w.heap.size]? = some o := heap_alloc_new w o
theorem obj_alloc {w : World} {g : Nat} {o : Obj} (h : w.heap[g]? = some o) (o' : Obj) : (w.alloc o').heap[g]? = some o := (Below.heap_alloc w o' g (heap_lt h)).trans h
theorem chan_same {w : World} {c : Nat} (hc : c < w.heap.size) (cap : Nat) (buf : Array Value) (cl : Bool) (s r : Nat) (tm : Bool) : (w.setChan c cap buf cl s r tm).heap[c]? = some (.chan cap buf cl s r tm) := by
  simp [World.setChan, hc]
theorem chan_far {w : World} {c g : Nat} {o : Obj} (h : w.heap[g]? = some o) (hne : c ≠ g) (cap : Nat) (buf : Array Value) (cl : Bool) (s r : Nat) (tm : Bool) : (w.setChan c cap buf cl s r tm).heap[g]? = some o := by
  simp only [World.setChan]
  rw [Array.getElem?_setIfInBounds_ne hne]
  exact h
theorem ret_int {k : IntKind} {a b : Int} (h : a = b) : Ending.returned (.int k a) = .returned (.int k b) := by rw [h]
end Go.Proofs.Ytpdabmbjnmpgbaa
