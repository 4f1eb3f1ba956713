/-
  The document's queue: Pour.
-/
import Derived.Test.YtpdabmbjnmpgbaaQd
namespace Go.Proofs.Ytpdabmbjnmpgbaa
open Go.Conc Go.RowKit
set_option linter.unusedVariables false

def DPour (w : World) (A0 B0 : Option Addr) (r1 r2 M : Nat) (xs ys : List Int) (e : Ending) (w' : World) : Prop :=
  ∃ A n cp B m cq, e = .returned (.tuple #[.agg #[.slice A n cp, .int .i64 r1], .agg #[.slice B m cq, .int .i64 r2], .int .i64 (M : Int)]) ∧ Doc w' A n cp (xs.drop M) ∧ Doc w' B m cq (ys ++ xs.take M) ∧ Kept [] w w' ∧
    (∀ a, A = some a → A0 = some a ∨ w.heap.size ≤ a.block) ∧ (∀ a, B = some a → B0 = some a ∨ w.heap.size ≤ a.block)
/-- How the loop of Pour stands. -/
structure PrS (w wr : World) (A0 B0 : Option Addr) (r1 r2 k : Nat) (xs ys : List Int) (A : Option Addr) (n cp : Nat) (B : Option Addr) (m cq : Nat) : Prop where
  a : wr.heap[w.heap.size]? = some (.cells #[.slice A n cp, .int .i64 r1] 77)
  b : wr.heap[w.heap.size + 1]? = some (.cells #[.slice B m cq, .int .i64 r2] 77)
  ra : wr.heap[w.heap.size + 2]? = some (.cells #[.slice none 0 0, .int .i64 0] 77)
  rb : wr.heap[w.heap.size + 3]? = some (.cells #[.slice none 0 0, .int .i64 0] 77)
  da : Doc wr A n cp (xs.drop k)
  db : Doc wr B m cq (ys ++ xs.take k)
  kept : Kept [] w wr
  ata : ∀ a, A = some a → (a.block < w.heap.size ∨ w.heap.size + 4 ≤ a.block) ∧ (A0 = some a ∨ w.heap.size ≤ a.block)
  atb : ∀ a, B = some a → (a.block < w.heap.size ∨ w.heap.size + 4 ≤ a.block) ∧ (B0 = some a ∨ w.heap.size ≤ a.block)
/-- .. midway: the first thing is gone of the one, and is not yet with the other. -/
structure PrM (w wr : World) (A0 B0 : Option Addr) (r1 r2 k : Nat) (xs ys : List Int) (A : Option Addr) (n cp : Nat) (B : Option Addr) (m cq : Nat) : Prop where
  a : wr.heap[w.heap.size]? = some (.cells #[.slice A n cp, .int .i64 r1] 77)
  b : wr.heap[w.heap.size + 1]? = some (.cells #[.slice B m cq, .int .i64 r2] 77)
  ra : wr.heap[w.heap.size + 2]? = some (.cells #[.slice none 0 0, .int .i64 0] 77)
  rb : wr.heap[w.heap.size + 3]? = some (.cells #[.slice none 0 0, .int .i64 0] 77)
  da : Doc wr A n cp (xs.drop (k + 1))
  db : Doc wr B m cq (ys ++ xs.take k)
  kept : Kept [] w wr
  ata : ∀ a, A = some a → (a.block < w.heap.size ∨ w.heap.size + 4 ≤ a.block) ∧ (A0 = some a ∨ w.heap.size ≤ a.block)
  atb : ∀ a, B = some a → (a.block < w.heap.size ∨ w.heap.size + 4 ≤ a.block) ∧ (B0 = some a ∨ w.heap.size ≤ a.block)
theorem PrS.mid {w wr w2 : World} {A0 B0 : Option Addr} {r1 r2 k : Nat} {xs ys : List Int} {A B A2 : Option Addr} {n cp m cq n2 cp2 : Nat} (h : PrS w wr A0 B0 r1 r2 k xs ys A n cp B m cq)
    (hd : Doc w2 A2 n2 cp2 (xs.drop (k + 1))) (hk : Kept [] wr w2) (h2 : ∀ a, A2 = some a → A = some a ∨ wr.heap.size ≤ a.block) :
    PrM w ((w2.setCell ⟨w.heap.size, 0, none⟩ (.slice A2 n2 cp2)).setCell ⟨w.heap.size, 1, none⟩ (.int .i64 r1)) A0 B0 r1 r2 k xs ys A2 n2 cp2 B m cq := by
  have hz := heap_lt h.rb
  have hw : Kept [w.heap.size] w2 ((w2.setCell ⟨w.heap.size, 0, none⟩ (.slice A2 n2 cp2)).setCell ⟨w.heap.size, 1, none⟩ (.int .i64 r1)) :=
    (((Kept.refl [w.heap.size] w2).setCell (.inl (by simp)) _).setCell (.inl (by simp)) _)
  have hA : ∀ a, A2 = some a → (a.block < w.heap.size ∨ w.heap.size + 4 ≤ a.block) ∧ (A0 = some a ∨ w.heap.size ≤ a.block) := fun a ha => by
    rcases h2 a ha with h3 | h3
    · exact h.ata a h3
    · exact ⟨.inr (by omega), .inr (by omega)⟩
  refine ⟨?_, obj_far (obj_far (hk.obj h.b (by simp)) (by simp) _) (by simp) _, obj_far (obj_far (hk.obj h.ra (by simp)) (by simp) _) (by simp) _, obj_far (obj_far (hk.obj h.rb (by simp)) (by simp) _) (by simp) _,
    hd.kept hw (fun a ha => by have := (hA a ha).1; simp; omega), (h.db.kept hk (by simp)).kept hw (fun a ha => by have := (h.atb a ha).1; simp; omega), (h.kept.trans hk (by simp)).trans hw (by intro i hi hm; simp at hm; omega), hA, h.atb⟩
  have h1 := obj_set (obj_set (hk.obj h.a (by simp)) 0 (.slice A2 n2 cp2)) 1 (.int .i64 r1)
  simpa using h1
theorem PrM.step {w wr w2 : World} {A0 B0 : Option Addr} {r1 r2 k : Nat} {xs ys : List Int} {A B B2 : Option Addr} {n cp m cq n2 cp2 : Nat} (h : PrM w wr A0 B0 r1 r2 k xs ys A n cp B m cq)
    (hd : Doc w2 B2 n2 cp2 (ys ++ xs.take (k + 1))) (hk : Kept [] wr w2) (h2 : ∀ a, B2 = some a → wr.heap.size ≤ a.block) :
    PrS w ((w2.setCell ⟨w.heap.size + 1, 0, none⟩ (.slice B2 n2 cp2)).setCell ⟨w.heap.size + 1, 1, none⟩ (.int .i64 r2)) A0 B0 r1 r2 (k + 1) xs ys A n cp B2 n2 cp2 := by
  have hz := heap_lt h.rb
  have hw : Kept [w.heap.size + 1] w2 ((w2.setCell ⟨w.heap.size + 1, 0, none⟩ (.slice B2 n2 cp2)).setCell ⟨w.heap.size + 1, 1, none⟩ (.int .i64 r2)) :=
    (((Kept.refl [w.heap.size + 1] w2).setCell (.inl (by simp)) _).setCell (.inl (by simp)) _)
  have hB : ∀ a, B2 = some a → (a.block < w.heap.size ∨ w.heap.size + 4 ≤ a.block) ∧ (B0 = some a ∨ w.heap.size ≤ a.block) := fun a ha => by
    have := h2 a ha
    exact ⟨.inr (by omega), .inr (by omega)⟩
  refine ⟨obj_far (obj_far (hk.obj h.a (by simp)) (by simp) _) (by simp) _, ?_, obj_far (obj_far (hk.obj h.ra (by simp)) (by simp) _) (by simp) _, obj_far (obj_far (hk.obj h.rb (by simp)) (by simp) _) (by simp) _,
    (h.da.kept hk (by simp)).kept hw (fun a ha => by have := (h.ata a ha).1; simp; omega), hd.kept hw (fun a ha => by have := (hB a ha).1; simp; omega), (h.kept.trans hk (by simp)).trans hw (by intro i hi hm; simp at hm; omega), h.ata, hB⟩
  have h1 := obj_set (obj_set (hk.obj h.b (by simp)) 0 (.slice B2 n2 cp2)) 1 (.int .i64 r2)
  simpa using h1
set_option maxRecDepth 100000 in
set_option maxHeartbeats 2000000 in
theorem rpour_any (A : Option Addr) (n cp r1 : Nat) (B : Option Addr) (m cq r2 : Nat) (xs ys : List Int) (M : Nat) (w : World) (ha : Doc w A n cp xs) (hb : Doc w B m cq ys) (hn : n ≤ 256) (hr : r2 ≤ 256) (hm : m ≤ r2) (hM : M = min n (r2 - m)) :
    Calls Try.prog 59 #[.agg #[.slice A n cp, .int .i64 r1], .agg #[.slice B m cq, .int .i64 r2]] w (DPour w A B r1 r2 M xs ys) := by
  have HA := hide ha
  have HB := hide hb
  have HM := hide hM
  have hl : xs.length = n := ha.1
  have hl2 : ys.length = m := hb.1
  have hM256 : M ≤ 256 := by omega
  clear ha hb hM
  go_enter Try.func59, Try.ntmps59
  go_wp2_with fail
  go_loopw [7] (fun i wr => ∃ (k : Nat) (A1 : Option Addr) (n1 cp1 : Nat) (B1 : Option Addr) (m1 cq1 : Nat), k ≤ M ∧ i = .int .i64 k ∧ PrS w wr A B r1 r2 k xs ys A1 n1 cp1 B1 m1 cq1) (fun i _ => M + 1 - (intOf i).toNat)
  case atStart =>
    refine ⟨0, A, n, cp, B, m, cq, Nat.zero_le _, rfl, obj_alloc (obj_alloc (obj_alloc (obj_new w _) _) _) _, obj_alloc (obj_alloc ?_ _) _, obj_alloc ?_ _, ?_, ?_, ?_, (((((Kept.refl [] w).alloc _).alloc _).alloc _).alloc _), ?_, ?_⟩
    · have := obj_new (w.alloc (.cells #[.slice A n cp, .int .i64 r1] 77)) (.cells #[.slice B m cq, .int .i64 r2] 77); simpa using this
    · have := obj_new ((w.alloc (.cells #[.slice A n cp, .int .i64 r1] 77)).alloc (.cells #[.slice B m cq, .int .i64 r2] 77)) (.cells #[.slice none 0 0, .int .i64 0] 77); simpa using this
    · have := obj_new (((w.alloc (.cells #[.slice A n cp, .int .i64 r1] 77)).alloc (.cells #[.slice B m cq, .int .i64 r2] 77)).alloc (.cells #[.slice none 0 0, .int .i64 0] 77)) (.cells #[.slice none 0 0, .int .i64 0] 77); simpa using this
    · exact (unhide HA).kept (((((Kept.refl [] w).alloc _).alloc _).alloc _).alloc _) (by simp)
    · simpa using (unhide HB).kept (((((Kept.refl [] w).alloc _).alloc _).alloc _).alloc _) (by simp)
    · intro a ha
      have := (unhide HA).lt a ha
      exact ⟨.inl this, .inl ha⟩
    · intro a ha
      have := (unhide HB).lt a ha
      exact ⟨.inl this, .inl ha⟩
  case round =>
    obtain ⟨k, A1, n1, cp1, B1, m1, cq1, hk, rfl, hs⟩ := hrel
    have S1 := hide hs
    have E1 : Hid (n1 = n - k) := hide (by have := hs.da.1; simp at this; omega)
    have E2 : Hid (m1 = m + k) := hide (by have h1 := hs.db.1; have h2 := unhide HM; simp at h1; omega)
    have hn9 : n1 ≤ 256 := by have := unhide E1; omega
    have hm9 : m1 ≤ 256 := by have := unhide E2; have := unhide HM; omega
    have hn99 : n1 ≤ 9223372036854775807 := by omega
    have hm99 : m1 ≤ 9223372036854775807 := by omega
    have c00 := obj_cell hs.a 0
    have c01 := obj_cell hs.a 1
    have c10 := obj_cell hs.b 0
    have c11 := obj_cell hs.b 1
    have c20 : wr.cell? ⟨w.heap.size + 1 + 1, 0, none⟩ = some (.slice none 0 0) := obj_cell hs.ra 0
    have c21 : wr.cell? ⟨w.heap.size + 1 + 1, 1, none⟩ = some (.int .i64 0) := obj_cell hs.ra 1
    have c30 : wr.cell? ⟨w.heap.size + 1 + 1 + 1, 0, none⟩ = some (.slice none 0 0) := obj_cell hs.rb 0
    have c31 : wr.cell? ⟨w.heap.size + 1 + 1 + 1, 1, none⟩ = some (.int .i64 0) := obj_cell hs.rb 1
    have cz0 := obj_frozen hs.a
    have cz1 := obj_frozen hs.b
    have cz2 : ∀ i, wr.frozen? ⟨w.heap.size + 1 + 1, i, none⟩ = false := obj_frozen hs.ra
    have cz3 : ∀ i, wr.frozen? ⟨w.heap.size + 1 + 1 + 1, i, none⟩ = false := obj_frozen hs.rb
    have zz := heap_lt hs.rb
    clear hs
    by_cases hkn : 0 < n1
    · by_cases hkm : m1 < r2
      · have hx : k < xs.length := by have := unhide E1; omega
        have D1 := hide (unhide S1).da
        have D2 := hide (unhide S1).da
        rw [List.drop_eq_getElem_cons hx] at D2
        have HT : Hid (xs.take (k + 1) = xs.take k ++ [xs[k]]) := hide (List.take_succ_eq_append_getElem hx)
        generalize xs[k] = x at *
        obtain ⟨b, off, rfl, hb, hc⟩ := (unhide D2).rd 0 (by simp)
        have hc0 : wr.cell? ⟨b, off, none⟩ = some (.int .i64 x) := by have := hc 0 (by simp); simpa using this
        clear hc
        go_wp2_with fail
        refine (rdrop_any _ _ _ _ _ 1 1 _ (unhide D1) (by omega) (by omega)).mono ?_
        rintro e w2 ⟨A2, n2, cp2, rfl, hd, hk2, h2⟩
        rw [List.drop_drop] at hd
        have S2 := hide ((unhide S1).mid hd hk2 h2)
        have B2 := hide (hk2.obj (unhide S1).a (by simp))
        have z2 : w.heap.size < w2.heap.size := by have := hk2.size; omega
        have c0 := obj_cell (unhide B2) 0
        have c1 := obj_cell (unhide B2) 1
        have cz := obj_frozen (unhide B2)
        have BB := hide (hk2.obj (unhide S1).b (by simp))
        have d0 := obj_cell (unhide BB) 0
        have d1 := obj_cell (unhide BB) 1
        have dz := obj_frozen (unhide BB)
        clear hd hk2 h2 c00 c01 c10 c11 c20 c21 c30 c31 cz0 cz1 cz2 cz3
        have E3 : Hid (m1 < r2) := hide hkm
        go_wp2_with fail
        refine (rput_yes _ _ _ _ _ x _ (unhide S2).db hkm hr).mono ?_
        rintro e w3 ⟨B3, m3, cq3, rfl, hd, hk3, h3⟩
        rw [List.append_assoc, ← unhide HT] at hd
        have S3 := hide ((unhide S2).step hd hk3 (fun a ha => by have := h3 a ha; simpa using this))
        have BB := hide (hk3.obj (unhide S2).b (by simp))
        have d0 := obj_cell (unhide BB) 0
        have d1 := obj_cell (unhide BB) 1
        have dz := obj_frozen (unhide BB)
        clear hd hk3 h3 c0 c1 cz
        go_wp2
        exact ⟨⟨k + 1, A2, n2, cp2, B3, m3, cq3, by have := unhide HM; have := unhide E1; have := unhide E2; have := unhide E3; omega, by go_num, unhide S3⟩, by simp [intOf]; omega⟩
      · have hkM : k = M := by have := unhide HM; have := unhide E1; have := unhide E2; omega
        go_wp2_with fail
        go_region
        go_wp2
        refine bodyPost_ret (v := .tuple #[.agg #[.slice A1 n1 cp1, .int .i64 r1], .agg #[.slice B1 m1 cq1, .int .i64 r2], .int .i64 (k : Int)]) (by simp [results, Try.results59, go_sem, c20, c21, c30, c31]) rfl ?_
        have K : ∀ u v y z, Kept [w.heap.size + 2, w.heap.size + 3] wr ((((wr.setCell ⟨w.heap.size + 1 + 1, 0, none⟩ u).setCell ⟨w.heap.size + 1 + 1, 1, none⟩ v).setCell ⟨w.heap.size + 1 + 1 + 1, 0, none⟩ y).setCell ⟨w.heap.size + 1 + 1 + 1, 1, none⟩ z).drew := fun u v y z => (((((Kept.refl [w.heap.size + 2, w.heap.size + 3] wr).setCell (.inl (by simp)) u).setCell (.inl (by simp)) v).setCell (.inl (by simp)) y).setCell (.inl (by simp)) z).drew
        subst hkM
        have hA := (unhide S1).ata
        have hB := (unhide S1).atb
        exact ⟨A1, n1, cp1, B1, m1, cq1, rfl, (unhide S1).da.kept (K _ _ _ _) (by intro a ha; have := (hA a ha).1; simp; omega), (unhide S1).db.kept (K _ _ _ _) (by intro a ha; have := (hB a ha).1; simp; omega), (unhide S1).kept.trans (K _ _ _ _) (by intro i hi hm; simp at hm; omega), fun a ha => (hA a ha).2, fun a ha => (hB a ha).2⟩
    · have hkM : k = M := by have := unhide HM; have := unhide E1; have := unhide E2; omega
      go_wp2_with fail
      go_region
      go_wp2
      refine bodyPost_ret (v := .tuple #[.agg #[.slice A1 n1 cp1, .int .i64 r1], .agg #[.slice B1 m1 cq1, .int .i64 r2], .int .i64 (k : Int)]) (by simp [results, Try.results59, go_sem, c20, c21, c30, c31]) rfl ?_
      have K : ∀ u v y z, Kept [w.heap.size + 2, w.heap.size + 3] wr ((((wr.setCell ⟨w.heap.size + 1 + 1, 0, none⟩ u).setCell ⟨w.heap.size + 1 + 1, 1, none⟩ v).setCell ⟨w.heap.size + 1 + 1 + 1, 0, none⟩ y).setCell ⟨w.heap.size + 1 + 1 + 1, 1, none⟩ z).drew := fun u v y z => (((((Kept.refl [w.heap.size + 2, w.heap.size + 3] wr).setCell (.inl (by simp)) u).setCell (.inl (by simp)) v).setCell (.inl (by simp)) y).setCell (.inl (by simp)) z).drew
      subst hkM
      have hA := (unhide S1).ata
      have hB := (unhide S1).atb
      exact ⟨A1, n1, cp1, B1, m1, cq1, rfl, (unhide S1).da.kept (K _ _ _ _) (by intro a ha; have := (hA a ha).1; simp; omega), (unhide S1).db.kept (K _ _ _ _) (by intro a ha; have := (hB a ha).1; simp; omega), (unhide S1).kept.trans (K _ _ _ _) (by intro i hi hm; simp at hm; omega), fun a ha => (hA a ha).2, fun a ha => (hB a ha).2⟩
end Go.Proofs.Ytpdabmbjnmpgbaa
