/-
  The document's sender: Type, Echoed, Due, Waiting.
-/
import Derived.Test.YtpdabmbjnmpgbaaDsa
namespace Go.Proofs.Ytpdabmbjnmpgbaa
open Go.Conc Go.RowKit
set_option linter.unusedVariables false
theorem DsO.get {w : World} {g : Nat} {A : Option Addr} {n cp se ac : Nat} {la : Int} {be ask : Bool} (h : w.heap[g]? = some (DsO A n cp se ac la be ask)) :
    w.cell? ⟨g, 0, none⟩ = some (.slice A n cp) ∧ w.cell? ⟨g, 1, none⟩ = some (.int .i64 (se : Int)) ∧ w.cell? ⟨g, 2, none⟩ = some (.int .i64 (ac : Int)) ∧ w.cell? ⟨g, 3, none⟩ = some (.int .u64 la) ∧ w.cell? ⟨g, 4, none⟩ = some (.bool be) ∧ w.cell? ⟨g, 5, none⟩ = some (.bool ask) ∧ (∀ i, w.frozen? ⟨g, i, none⟩ = false) ∧ g < w.heap.size :=
  ⟨obj_cell h 0, obj_cell h 1, obj_cell h 2, obj_cell h 3, obj_cell h 4, obj_cell h 5, obj_frozen h, heap_lt h⟩
/-- A refused Type: the sender as it was. -/
def RSame (w : World) (A : Option Addr) (n cp se ac : Nat) (la : Int) (be ask : Bool) (c : Int) (e : Ending) (w' : World) : Prop := e = .returned (.tuple #[dsV A n cp se ac la be ask, .int .i64 c]) ∧ Kept [] w w'
set_option maxRecDepth 100000 in
theorem rtype_empty (A : Option Addr) (n cp se ac : Nat) (la : Int) (be ask : Bool) (w : World) :
    Calls Try.prog 86 #[dsV A n cp se ac la be ask, .string ⟨#[]⟩] w (RSame w A n cp se ac la be ask 3) := by
  unfold dsV
  go_enter Try.func86, Try.ntmps86
  go_wp2
  refine bodyPost_ret (v := .tuple #[dsV A n cp se ac la be ask, .int .i64 3]) (by simp [results, Try.results86, go_sem, dsV]) rfl ?_
  exact ⟨rfl, ((Kept.refl [] w).alloc _).alloc _⟩
theorem obj_new2 (w : World) (X Y : Obj) : ((w.alloc X).alloc Y).heap[w.heap.size + 1]? = some Y := by
  have := obj_new (w.alloc X) Y
  simpa using this
theorem dput_kept {S : List Nat} {a w : World} {g h : Nat} (k : Kept S a w) (hg : g ∈ S) (hh : h ∈ S) (u0 v0 v1 v2 v3 v4 v5 : Value) : Kept S a (((((((w.setCell ⟨g, 0, none⟩ u0).setCell ⟨h, 0, none⟩ v0).setCell ⟨h, 1, none⟩ v1).setCell ⟨h, 2, none⟩ v2).setCell ⟨h, 3, none⟩ v3).setCell ⟨h, 4, none⟩ v4).setCell ⟨h, 5, none⟩ v5) :=
  ((((((k.setCell (.inl hg) _).setCell (.inl hh) _).setCell (.inl hh) _).setCell (.inl hh) _).setCell (.inl hh) _).setCell (.inl hh) _).setCell (.inl hh) _
theorem key_ne (key : ByteArray) (h : 0 < key.size) : key.toList.isEmpty = false := by
  rw [ByteArray.toList_eq]
  cases hk : key.data.toList with
  | nil =>
    have : key.data.toList.length = key.size := by rw [Array.length_toList]; rfl
    rw [hk] at this
    simp at this
    omega
  | cons x l => rfl
set_option maxRecDepth 100000 in
theorem rtype_long (A : Option Addr) (n cp se ac : Nat) (la : Int) (be ask : Bool) (key : ByteArray) (w : World) (h8 : 8 < key.size) (hm : key.size ≤ 1000) :
    Calls Try.prog 86 #[dsV A n cp se ac la be ask, .string key] w (RSame w A n cp se ac la be ask 2) := by
  have he : key.toList.isEmpty = false := key_ne key (by omega)
  unfold dsV
  go_enter Try.func86, Try.ntmps86
  go_wp2
  refine bodyPost_ret (v := .tuple #[dsV A n cp se ac la be ask, .int .i64 2]) (by simp [results, Try.results86, go_sem, dsV]) rfl ?_
  exact ⟨rfl, ((Kept.refl [] w).alloc _).alloc _⟩
set_option maxRecDepth 100000 in
theorem rtype_full (A : Option Addr) (n cp se ac : Nat) (la : Int) (be ask : Bool) (key : ByteArray) (w : World) (h1 : 0 < key.size) (h8 : key.size ≤ 8) (hn : n ≤ 1000) (hac : ac ≤ n) (hf : 64 ≤ n - ac) :
    Calls Try.prog 86 #[dsV A n cp se ac la be ask, .string key] w (RSame w A n cp se ac la be ask 8) := by
  have he : key.toList.isEmpty = false := key_ne key (by omega)
  have g1 : ¬ 8 < key.size := by omega
  have g2 : (64 : Int) ≤ (n : Int) - (ac : Int) := by omega
  unfold dsV
  go_enter Try.func86, Try.ntmps86
  go_wp2
  refine bodyPost_ret (v := .tuple #[dsV A n cp se ac la be ask, .int .i64 8]) (by simp [results, Try.results86, go_sem, dsV]) rfl ?_
  exact ⟨rfl, ((Kept.refl [] w).alloc _).alloc _⟩
def RTyped (w : World) (se ac : Nat) (la : Int) (be ask : Bool) (xs : List ByteArray) (e : Ending) (w' : World) : Prop :=
  ∃ A cp, e = .returned (.tuple #[dsV A xs.length cp se ac la be ask, .int .i64 0]) ∧ DocS w' A xs.length cp xs ∧ Kept [] w w' ∧ ∀ a, A = some a → w.heap.size ≤ a.block
set_option maxRecDepth 100000 in
set_option maxHeartbeats 1000000 in
theorem rtype_yes (A : Option Addr) (n cp se ac : Nat) (la : Int) (be ask : Bool) (xs : List ByteArray) (key : ByteArray) (w : World) (h : DocS w A n cp xs) (h1 : 0 < key.size) (h8 : key.size ≤ 8) (hn : n ≤ 1000) (hac : ac ≤ n) (hf : n - ac < 64) :
    Calls Try.prog 86 #[dsV A n cp se ac la be ask, .string key] w (RTyped w se ac la be ask (xs ++ [key])) := by
  have he : key.toList.isEmpty = false := key_ne key (by omega)
  have g1 : ¬ 8 < key.size := by omega
  have g2 : ¬ (64 : Int) ≤ (n : Int) - (ac : Int) := by omega
  have hn9 : n ≤ 9223372036854775807 := by omega
  have H := hide h
  have HL := hide h.1
  clear h
  unfold dsV
  go_enter Try.func86, Try.ntmps86
  go_wp2_with (at_builtin; refine wpList_append_docS rfl _ _ rfl (w.heap.size + 2) 0 _ [] rfl (own_lit9 _ _ _ (by simp) (by simp)) A n cp xs rfl ((unhide H).kept ((((Kept.refl [] w).alloc _).alloc _).alloc _) (by simp)) (by omega) (by simp) ?_)
  intro A1 c1 w1 o1 b1
  have D1 := hide b1
  have O1 := hide o1
  have z1 : w.heap.size + 3 ≤ w1.heap.size := by have := b1.size; simpa using this
  have f0 : w1.heap[w.heap.size]? = some (DsO A n cp se ac la be ask) := (b1.block _ (by omega)).trans (obj_alloc (obj_alloc (obj_new w _) _) _)
  have f1 : w1.heap[w.heap.size + 1]? = some (DsO none 0 0 0 0 0 false false) := (b1.block _ (by omega)).trans (obj_alloc (obj_new2 w (DsO A n cp se ac la be ask) (DsO none 0 0 0 0 0 false false)) _)
  have F0 := hide f0
  have F1 := hide f1
  clear o1 b1 f0 f1
  go_wp2_with (at_builtin; refine wpList_append_docS rfl _ _ rfl (w.heap.size + 2) n _ xs rfl (((Kept.refl [] w1).alloc _).own (unhide O1) (by simp)) (some ⟨w1.heap.size, 0, none⟩) 1 1 [key] rfl (docS_one _ _ _ rfl) (by omega) (by simp; omega) ?_)
  intro A2 c2 w2 o2 b2
  have O2 := hide o2
  have z2 := b2.size
  have f0 : w2.heap[w.heap.size]? = some (DsO A n cp se ac la be ask) := (b2.block _ (by omega)).trans (obj_alloc (unhide F0) _)
  have f1 : w2.heap[w.heap.size + 1]? = some (DsO none 0 0 0 0 0 false false) := (b2.block _ (by omega)).trans (obj_alloc (unhide F1) _)
  have F2 := hide f0
  have F3 := hide f1
  have K2 : Hid (Kept [] w w2) := hide ⟨b2.os.trans ((unhide D1).os), b2.tape.trans ((unhide D1).tape), b2.output.trans ((unhide D1).output), by simp at z2; omega, fun i hi hn => (b2.block i (by omega)).trans ((Below.heap_alloc w1 _ i (by omega)).trans (((unhide D1).block i (by omega)).trans ((((Kept.refl [] w).alloc _).alloc _).alloc _ |>.block i hi (by simp))))⟩
  obtain ⟨x0, x1, x2, x3, x4, x5, xz, xl⟩ := DsO.get f0
  obtain ⟨y0, y1, y2, y3, y4, y5, yz, yl⟩ := DsO.get f1
  clear o2 b2 f0 f1 F0 F1 O1 D1
  go_wp2
  refine bodyPost_ret (v := .tuple #[dsV A2 (n + 1) c2 se ac la be ask, .int .i64 0]) (by simp [results, Try.results86, go_sem, dsV, y0, y1, y2, y3, y4, y5]) rfl ?_
  obtain ⟨A3, cp3, hv, hd⟩ := docS_own (xs := xs ++ [key]) (by simpa using unhide O2)
  injection hv with hv1 hv2 hv3
  subst hv1 hv3
  have hlt : ∀ a, A2 = some a → w.heap.size + 2 ≤ a.block := by
    rintro a rfl
    exact ((unhide O2).lt _ rfl).1
  have e : (xs ++ [key]).length = n + 1 := by have := unhide HL; simp; omega
  unfold RTyped
  rw [e]
  have K := dput_kept (g := w.heap.size) (h := w.heap.size + 1) (Kept.refl [w.heap.size, w.heap.size + 1] w2) (by simp) (by simp) (.slice A2 (n + 1) c2) (.slice A2 (n + 1) c2) (.int .i64 (se : Int)) (.int .i64 (ac : Int)) (.int .u64 la) (.bool be) (.bool ask)
  exact ⟨A2, c2, rfl, hd.kept K (fun a ha => by have := hlt a ha; simp; omega), (unhide K2).trans K (by intro i hi hm; simp at hm; omega), fun a ha => by have := hlt a ha; omega⟩
end Go.Proofs.Ytpdabmbjnmpgbaa
