/-
  The document's queue: Drop and Pour.
-/
import Derived.Test.YtpdabmbjnmpgbaaQr
namespace Go.Proofs.Ytpdabmbjnmpgbaa
open Go.Conc Go.RowKit
set_option linter.unusedVariables false

def DDrop (w : World) (A0 : Option Addr) (room M : Nat) (xs : List Int) (e : Ending) (w' : World) : Prop :=
  ∃ A n cp, e = .returned (.tuple #[.agg #[.slice A n cp, .int .i64 room], .int .i64 (M : Int)]) ∧ Doc w' A n cp (xs.drop M) ∧ Kept [] w w' ∧ ∀ a, A = some a → A0 = some a ∨ w.heap.size ≤ a.block
/-- How the loop of Drop stands. -/
structure DrS (w wr : World) (A0 : Option Addr) (room k : Nat) (xs : List Int) (A : Option Addr) (n cp : Nat) : Prop where
  box : wr.heap[w.heap.size]? = some (.cells #[.slice A n cp, .int .i64 room] 77)
  res : wr.heap[w.heap.size + 1]? = some (.cells #[.slice none 0 0, .int .i64 0] 77)
  doc : Doc wr A n cp (xs.drop k)
  kept : Kept [] w wr
  at0 : ∀ a, A = some a → a.block ≠ w.heap.size ∧ a.block ≠ w.heap.size + 1 ∧ (A0 = some a ∨ w.heap.size ≤ a.block)
theorem DrS.step {w wr w2 : World} {A0 : Option Addr} {room k : Nat} {xs : List Int} {A A2 : Option Addr} {n cp n2 cp2 : Nat} {o : Obj} (h : DrS w wr A0 room k xs A n cp)
    (hd : Doc w2 A2 n2 cp2 (xs.drop (k + 1))) (hk : Kept [] wr w2) (h2 : ∀ a, A2 = some a → wr.heap.size ≤ a.block) :
    DrS w (((w2.setCell ⟨w.heap.size, 0, none⟩ (.slice A2 n2 cp2)).setCell ⟨w.heap.size, 1, none⟩ (.int .i64 room)).alloc o) A0 room (k + 1) xs A2 n2 cp2 := by
  have hz := heap_lt h.res
  have hw : Kept [w.heap.size] w2 (((w2.setCell ⟨w.heap.size, 0, none⟩ (.slice A2 n2 cp2)).setCell ⟨w.heap.size, 1, none⟩ (.int .i64 room)).alloc o) :=
    ((((Kept.refl [w.heap.size] w2).setCell (.inl (by simp)) _).setCell (.inl (by simp)) _).alloc o)
  refine ⟨?_, ?_, hd.kept hw (fun a ha => by have := h2 a ha; simp; omega), (h.kept.trans hk (by simp)).trans hw (by intro i hi hm; simp at hm; omega), fun a ha => by have := h2 a ha; omega⟩
  · have h1 := obj_alloc (obj_set (obj_set (hk.obj h.box (by simp)) 0 (.slice A2 n2 cp2)) 1 (.int .i64 room)) o
    simpa using h1
  · exact obj_alloc (obj_far (obj_far (hk.obj h.res (by simp)) (by simp) _) (by simp) _) o
set_option maxRecDepth 100000 in
set_option maxHeartbeats 1000000 in
theorem rdrop_any (A : Option Addr) (n cp room : Nat) (xs : List Int) (m : Int) (M : Nat) (w : World) (h : Doc w A n cp xs) (hn : n ≤ 256) (hM : M = min m.toNat n) :
    Calls Try.prog 56 #[.agg #[.slice A n cp, .int .i64 room], .int .i64 m] w (DDrop w A room M xs) := by
  have H := hide h
  have HM := hide hM
  have hl : xs.length = n := h.1
  have hM256 : M ≤ 256 := by omega
  clear h hM
  go_enter Try.func56, Try.ntmps56
  go_wp2_with fail
  go_loopw [6] (fun i wr => ∃ (k : Nat) (A1 : Option Addr) (n1 cp1 : Nat), k ≤ M ∧ i = .int .i64 k ∧ DrS w wr A room k xs A1 n1 cp1) (fun i _ => M + 1 - (intOf i).toNat)
  case atStart =>
    refine ⟨0, A, n, cp, Nat.zero_le _, rfl, obj_alloc (obj_new w _) _, ?_, ?_, ((Kept.refl [] w).alloc _).alloc _, ?_⟩
    · have := obj_new (w.alloc (.cells #[.slice A n cp, .int .i64 room] 77)) (.cells #[.slice none 0 0, .int .i64 0] 77); simpa using this
    · exact (unhide H).kept (((Kept.refl [] w).alloc _).alloc _) (by simp)
    · intro a ha
      have := (unhide H).lt a ha
      exact ⟨by omega, by omega, .inl ha⟩
  case round =>
    obtain ⟨k, A1, n1, cp1, hk, rfl, hs⟩ := hrel
    have S1 := hide hs
    have E1 : Hid (n1 = n - k) := hide (by have := hs.doc.1; simp at this; omega)
    have c00 := obj_cell hs.box 0
    have c01 := obj_cell hs.box 1
    have c10 := obj_cell hs.res 0
    have c11 := obj_cell hs.res 1
    have cz0 := obj_frozen hs.box
    have cz1 := obj_frozen hs.res
    have zz := heap_lt hs.res
    clear hs
    by_cases hkm : (k : Int) < m
    · by_cases hkn : k < n
      · have hx : k < xs.length := by omega
        have D1 := hide (unhide S1).doc
        rw [List.drop_eq_getElem_cons hx] at D1
        generalize xs[k] = x at *
        go_wp2_with fail
        refine (rtake_yes _ _ _ _ _ _ _ (unhide D1) (by have := unhide E1; omega)).mono ?_
        rintro e w2 ⟨A2, n2, cp2, rfl, hd, hk2, h2⟩
        have S2 := hide (fun o => (unhide S1).step (o := o) hd hk2 h2)
        have B2 := hide (hk2.obj (unhide S1).box (by simp))
        have z2 : w.heap.size < w2.heap.size := by have := hk2.size; omega
        have z3 : w.heap.size ≠ w2.heap.size := by omega
        have c0 := obj_cell (unhide B2) 0
        have c1 := obj_cell (unhide B2) 1
        have cz := obj_frozen (unhide B2)
        clear hd hk2 h2 c00 c01 c10 c11 cz0 cz1
        go_wp2
        exact ⟨⟨k + 1, A2, n2, cp2, by have := unhide HM; omega, by go_num, unhide S2 _⟩, by simp [intOf]; omega⟩
      · have hkM : k = M := by have := unhide HM; omega
        have hn0 : n1 = 0 := by have := unhide E1; omega
        subst hn0
        go_wp2_with fail
        refine (rtake_no _ _ _ _).mono ?_
        rintro e w2 ⟨rfl, hk2⟩
        have B2 := hide (hk2.obj (unhide S1).box (by simp))
        have R2 := hide (hk2.obj (unhide S1).res (by simp))
        have z2 : w.heap.size < w2.heap.size := by have := hk2.size; omega
        have z3 : w.heap.size + 1 < w2.heap.size := by have := hk2.size; omega
        have c0 := obj_cell (unhide B2) 0
        have c1 := obj_cell (unhide B2) 1
        have cz := obj_frozen (unhide B2)
        have d0 := obj_cell (unhide R2) 0
        have d1 := obj_cell (unhide R2) 1
        have dz := obj_frozen (unhide R2)
        have K2 := hide hk2
        clear hk2 c00 c01 c10 c11 cz0 cz1
        go_wp2
        refine bodyPost_ret (v := .tuple #[.agg #[.slice A1 0 cp1, .int .i64 room], .int .i64 (M : Int)]) (by simp [results, Try.results56, go_sem, z3, d0, d1]) rfl ?_
        have K : ∀ o u v, Kept [w.heap.size + 1] w2 (((w2.setCell ⟨w.heap.size + 1, 0, none⟩ u).setCell ⟨w.heap.size + 1, 1, none⟩ v).alloc o) := fun o u v => (((Kept.refl [w.heap.size + 1] w2).setCell (.inl (by simp)) u).setCell (.inl (by simp)) v).alloc o
        rw [hkM] at S1
        have hA := (unhide S1).at0
        exact ⟨A1, 0, cp1, rfl, ((unhide S1).doc.kept (unhide K2) (by simp)).kept (K _ _ _) (by intro a ha; have := hA a ha; simp; omega), ((unhide S1).kept.trans (unhide K2) (by simp)).trans (K _ _ _) (by intro i hi hm; simp at hm; omega), fun a ha => (hA a ha).2.2⟩
    · have hkM : k = M := by have := unhide HM; omega
      go_wp2
      refine bodyPost_ret (v := .tuple #[.agg #[.slice A1 n1 cp1, .int .i64 room], .int .i64 (M : Int)]) (by simp [results, Try.results56, go_sem, c10, c11]) rfl ?_
      have K : ∀ u v, Kept [w.heap.size + 1] wr ((wr.setCell ⟨w.heap.size + 1, 0, none⟩ u).setCell ⟨w.heap.size + 1, 1, none⟩ v) := fun u v => ((Kept.refl [w.heap.size + 1] wr).setCell (.inl (by simp)) u).setCell (.inl (by simp)) v
      rw [hkM] at S1
      have hA := (unhide S1).at0
      exact ⟨A1, n1, cp1, rfl, (unhide S1).doc.kept (K _ _) (by intro a ha; have := hA a ha; simp; omega), (unhide S1).kept.trans (K _ _) (by intro i hi hm; simp at hm; omega), fun a ha => (hA a ha).2.2⟩
end Go.Proofs.Ytpdabmbjnmpgbaa
