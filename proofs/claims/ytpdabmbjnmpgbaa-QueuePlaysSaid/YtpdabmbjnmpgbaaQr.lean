/-
  The document's queue (a list and its room): Put, Take, Drop and Pour of it.
-/
import Derived.Test.YtpdabmbjnmpgbaaQueuePoursW
namespace Go.Proofs.Ytpdabmbjnmpgbaa
open Go.Conc Go.RowKit
set_option linter.unusedVariables false

/-- A slice that is a list, whoever owns it. -/
def Doc (w : World) (A : Option Addr) (n cp : Nat) (xs : List Int) : Prop :=
  xs.length = n ∧ n ≤ cp ∧ ((A = none ∧ cp = 0) ∨ ∃ b off, A = some ⟨b, off, none⟩ ∧ b < w.heap.size ∧ ∀ j, j < n → w.cell? ⟨b, off + j, none⟩ = some (.int .i64 (xs.getD j 0)))
theorem Doc.kept {S : List Nat} {w w' : World} {A : Option Addr} {n cp : Nat} {xs : List Int} (h : Doc w A n cp xs) (k : Kept S w w') (hs : ∀ a, A = some a → a.block ∉ S) : Doc w' A n cp xs := by
  refine ⟨h.1, h.2.1, ?_⟩
  rcases h.2.2 with h1 | ⟨b, off, rfl, hb, hc⟩
  · exact .inl h1
  · exact .inr ⟨b, off, rfl, Nat.lt_of_lt_of_le hb k.size, fun j hj => (k.cell (p := ⟨b, off + j, none⟩) hb (hs ⟨b, off, none⟩ rfl)).trans (hc j hj)⟩
theorem Doc.rd {w : World} {A : Option Addr} {n cp : Nat} {xs : List Int} (h : Doc w A n cp xs) : RdI w A xs := fun i hi => by
  obtain ⟨h1, h2, h3⟩ := h
  rcases h3 with ⟨rfl, h4⟩ | ⟨b, off, rfl, hb, hc⟩
  · omega
  · exact ⟨b, off, rfl, hb, fun j hj => hc j (by omega)⟩
theorem Doc.lt {w : World} {A : Option Addr} {n cp : Nat} {xs : List Int} (h : Doc w A n cp xs) : ∀ a, A = some a → a.block < w.heap.size := fun a ha => by
  rcases h.2.2 with ⟨rfl, h4⟩ | ⟨b, off, rfl, hb, hc⟩
  · cases ha
  · injection ha with ha; rw [← ha]; exact hb
theorem Doc.nil (w : World) : Doc w none 0 0 [] := ⟨rfl, Nat.le_refl _, .inl ⟨rfl, rfl⟩⟩
theorem doc_own {w : World} {base n : Nat} {v : Value} {xs : List Int} (h : w.ownsRow base 3 1 v n (xs.map (Value.int .i64))) : ∃ A cp, v = .slice A n cp ∧ Doc w A n cp xs := by
  have hl : xs.length = n := by have := h.1; simpa using this
  have h0 := h
  rcases h.2 with ⟨rfl, h2⟩ | ⟨g, cap, cur, rfl, hb, hgg, hnc, hcm, hcs, htk⟩
  · exact ⟨none, 0, by rw [h2], hl, by omega, .inl ⟨rfl, rfl⟩⟩
  · refine ⟨some ⟨g, 0, none⟩, cap, rfl, hl, hnc, .inr ⟨g, 0, rfl, heap_lt hgg, fun j hj => ?_⟩⟩
    have h3 := h0.cells (g := g) rfl j (.int .i64 (xs.getD j (0))) (by simp [List.getElem?_map, List.getD_eq_getElem?_getD, List.getElem?_eq_getElem (show j < xs.length by omega)])
    unfold Addr.add at h3
    by_cases hj0 : j = 0
    · subst hj0; simpa using h3
    · simpa [hj0] using h3
theorem own_lit0 (w : World) (base B : Nat) (hB : B = w.heap.size) (hb : base ≤ B) : (w.alloc (.cells #[] 3)).ownsRow base 3 1 (.slice (some ⟨B, 0, none⟩) 0 0) 0 [] := by
  subst hB
  exact ⟨by simp, .inr ⟨w.heap.size, 0, #[], rfl, hb, obj_new w _, by omega, by unfold maxLen; omega, by simp, by simp⟩⟩
def DPut (w : World) (room : Nat) (xs : List Int) (ok : Bool) (e : Ending) (w' : World) : Prop :=
  ∃ A n cp, e = .returned (.tuple #[.agg #[.slice A n cp, .int .i64 room], .bool ok]) ∧ Doc w' A n cp xs ∧ Kept [] w w' ∧ ∀ a, A = some a → w.heap.size ≤ a.block
set_option maxRecDepth 100000 in
theorem rput_no (A : Option Addr) (n cp room : Nat) (x : Int) (w : World) (hn : n ≤ 256) (hl : room ≤ n) :
    Calls Try.prog 53 #[.agg #[.slice A n cp, .int .i64 room], .int .i64 x] w fun e w' => e = .returned (.tuple #[.agg #[.slice A n cp, .int .i64 room], .bool false]) ∧ Kept [] w w' := by
  have hl9 : n ≤ 9223372036854775807 := by omega
  go_enter Try.func53, Try.ntmps53
  go_wp2
  refine bodyPost_ret (v := .tuple #[.agg #[.slice A n cp, .int .i64 room], .bool false]) (by simp [results, Try.results53, go_sem]) rfl ?_
  have K := fun o p => ((Kept.refl [] w).alloc o).alloc p
  exact ⟨rfl, K _ _⟩
theorem wpList_append_doc {w : World} {ops : Array Oper} {rest : List Oper} {o : Oper} {a : Act} {Q : Exit → Act → World → Prop} (hgd : o.guard = none) (s x : Operand)
    (ho : o.op = .call { callee := .builtin .append, args := #[s, x], argTypes := #[22, 22] })
    (base n : Nat) (v : Value) (xs : List Int) (hs : a.eval s = v) (hown : w.ownsRow base 3 1 v n (xs.map (Value.int .i64)))
    (A : Option Addr) (m c : Nat) (ys : List Int) (hx : a.eval x = .slice A m c) (hd : Doc w A m c ys) (h63 : n + m ≤ 1024) (hbase : base ≤ w.heap.size)
    (h : ∀ A' c' w', w'.ownsRow base 3 1 (.slice A' (n + m) c') (n + m) ((xs ++ ys).map (Value.int .i64)) → Below base w w' → wpList Try.prog ops Q rest (a.put o.dst (.slice A' (n + m) c')) w') : wpList Try.prog ops Q (o :: rest) a w := by
  obtain ⟨i0, hi0, hz0, hz1, hz2⟩ := info_parts infoI
  rcases hd.2.2 with ⟨rfl, rfl⟩ | ⟨b, off, rfl, hb, hc⟩
  · have hm : m = 0 := by have := hd.2.1; omega
    subst hm
    have hy : ys = [] := List.length_eq_zero_iff.1 hd.1
    subst hy
    obtain ⟨A', c', rfl⟩ := own_formI hown
    exact wpList_append_own_none hgd s x 22 ho base 3 i0 1 Try.underlying22 hi0 _ n _ hs hown hx (h A' c' w (by simpa using hown) ⟨rfl, rfl, rfl, Nat.le_refl _, fun _ _ => rfl⟩)
  · refine wpList_append_own w hgd s x 22 ho base 3 i0 (.int .i64 0) 1 8 Try.underlying22 hi0 hz0 hz1 hz2 rfl (by decide) v n _ hs hown ⟨b, off, none⟩ m c (ys.map (Value.int .i64)) hx (by simp [hd.1]) ?_ (by simp [Value.oneCell']) (by unfold maxLen; omega) (by omega) hbase ?_
    · intro j u hj
      rw [List.getElem?_map] at hj
      have hl := hd.1
      by_cases hjl : j < ys.length
      · rw [List.getElem?_eq_getElem hjl] at hj
        simp only [Option.map_some, Option.some.injEq] at hj
        rw [← hj, add_plain, hc j (by omega)]
        simp [List.getD_eq_getElem?_getD, List.getElem?_eq_getElem hjl]
      · rw [List.getElem?_eq_none (by omega)] at hj; cases hj
    · intro v' w' h1 h2 _
      obtain ⟨A', c', rfl⟩ := own_formI h1
      exact h A' c' w' (by simpa using h1) ⟨h2.os, h2.tape, h2.output, h2.size, fun i hi => h2.block i (by omega) (fun e => by have := hown.lt i e.symm; omega)⟩
theorem doc_one (w : World) (x : Int) (B : Nat) (hB : B = w.heap.size) : Doc (w.alloc (.cells #[.int .i64 x] 3)) (some ⟨B, 0, none⟩) 1 1 [x] := by
  subst hB
  exact ⟨rfl, by omega, .inr ⟨w.heap.size, 0, rfl, by simp, fun j hj => by
    have : j = 0 := by omega
    subst this
    exact obj_cell (obj_new w _) 0⟩⟩
theorem Doc.below {w w' : World} {A : Option Addr} {n cp B : Nat} {xs : List Int} (h : Doc w A n cp xs) (k : Below B w w') (hs : ∀ a, A = some a → a.block < B) : Doc w' A n cp xs := by
  refine ⟨h.1, h.2.1, ?_⟩
  rcases h.2.2 with h1 | ⟨b, off, rfl, hb, hc⟩
  · exact .inl h1
  · exact .inr ⟨b, off, rfl, Nat.lt_of_lt_of_le hb k.size, fun j hj => (World.cell?_of_block (w := w) (a := ⟨b, off + j, none⟩) (k.block b (hs _ rfl))).trans (hc j hj)⟩
set_option maxRecDepth 100000 in
set_option maxHeartbeats 1000000 in
theorem rput_yes (A : Option Addr) (n cp room : Nat) (xs : List Int) (x : Int) (w : World) (h : Doc w A n cp xs) (hl : n < room) (h256 : room ≤ 256) :
    Calls Try.prog 53 #[.agg #[.slice A n cp, .int .i64 room], .int .i64 x] w (DPut w room (xs ++ [x]) true) := by
  have H := hide h
  have hn : n ≤ 9223372036854775807 := by omega
  clear h
  go_enter Try.func53, Try.ntmps53
  go_wp2_with (at_builtin; refine wpList_append_doc rfl _ _ rfl (w.heap.size + 2) 0 _ [] rfl (own_lit0 _ _ _ (by simp) (by omega)) A n cp xs rfl ((unhide H).kept ((((Kept.refl [] w).alloc _).alloc _).alloc _) (by simp)) (by omega) (by simp) ?_)
  intro A1 c1 w1 o1 b1
  have D1 := hide b1
  have O1 := hide o1
  have z1 : w.heap.size + 3 ≤ w1.heap.size := by have := b1.size; simpa using this
  have f0 : w1.heap[w.heap.size]? = some (.cells #[.slice A n cp, .int .i64 room] 77) := (b1.block _ (by omega)).trans (obj_alloc (obj_alloc (obj_new w _) _) _)
  have f1 : w1.heap[w.heap.size + 1]? = some (.cells #[.slice none 0 0, .int .i64 0] 77) := (b1.block _ (by omega)).trans (obj_alloc (by have := obj_new (w.alloc (.cells #[.slice A n cp, .int .i64 room] 77)) (.cells #[.slice none 0 0, .int .i64 0] 77); simpa using this) _)
  have F0 := hide f0
  have F1 := hide f1
  clear o1 b1 f0 f1
  go_wp2_with (at_builtin; refine wpList_append_doc rfl _ _ rfl (w.heap.size + 2) n _ xs rfl (((Kept.refl [] w1).alloc _).own (unhide O1) (by simp)) (some ⟨w1.heap.size, 0, none⟩) 1 1 [x] rfl (doc_one _ _ _ rfl) (by omega) (by simp; omega) ?_)
  intro A2 c2 w2 o2 b2
  have O2 := hide o2
  have z2 := b2.size
  have f0 : w2.heap[w.heap.size]? = some (.cells #[.slice A n cp, .int .i64 room] 77) := (b2.block _ (by omega)).trans (obj_alloc (unhide F0) _)
  have f1 : w2.heap[w.heap.size + 1]? = some (.cells #[.slice none 0 0, .int .i64 0] 77) := (b2.block _ (by omega)).trans (obj_alloc (unhide F1) _)
  have F2 := hide f0
  have F3 := hide f1
  have K2 : Hid (Kept [] w w2) := hide ⟨b2.os.trans ((unhide D1).os), b2.tape.trans ((unhide D1).tape), b2.output.trans ((unhide D1).output), by simp at z2; omega, fun i hi hn => (b2.block i (by omega)).trans ((Below.heap_alloc w1 _ i (by omega)).trans (((unhide D1).block i (by omega)).trans ((((Kept.refl [] w).alloc _).alloc _).alloc _ |>.block i hi (by simp))))⟩
  have c00 := obj_cell f0 0
  have c01 := obj_cell f0 1
  have c10 := obj_cell f1 0
  have c11 := obj_cell f1 1
  have c0z := obj_frozen f0
  have c1z := obj_frozen f1
  clear o2 b2 f0 f1 F0 F1 O1 D1
  go_wp2
  refine bodyPost_ret (v := .tuple #[.agg #[.slice A2 (n + 1) c2, .int .i64 room], .bool true]) (by simp [results, Try.results53, go_sem, c10, c11]) rfl ?_
  obtain ⟨A3, cp3, hv, hd⟩ := doc_own (xs := xs ++ [x]) (by simpa using unhide O2)
  injection hv with hv1 hv2 hv3
  subst hv1 hv3
  have hlt : ∀ a, A2 = some a → w.heap.size + 2 ≤ a.block := by
    rintro a rfl
    exact ((unhide O2).lt _ rfl).1
  have K : ∀ u v z, Kept [w.heap.size, w.heap.size + 1] w2 (((w2.setCell ⟨w.heap.size, 0, none⟩ u).setCell ⟨w.heap.size + 1, 0, none⟩ v).setCell ⟨w.heap.size + 1, 1, none⟩ z) := fun u v z =>
    (((Kept.refl [w.heap.size, w.heap.size + 1] w2).setCell (.inl (by simp)) u).setCell (.inl (by simp)) v).setCell (.inl (by simp)) z
  exact ⟨A2, n + 1, c2, rfl, hd.kept (K _ _ _) (fun a ha => by have := hlt a ha; simp; omega), (unhide K2).trans (K _ _ _) (by intro i hi hm; simp at hm; omega), fun a ha => by have := hlt a ha; omega⟩
def DTake (w : World) (room : Nat) (x : Int) (xs : List Int) (ok : Bool) (e : Ending) (w' : World) : Prop :=
  ∃ A n cp, e = .returned (.tuple #[.agg #[.slice A n cp, .int .i64 room], .int .i64 x, .bool ok]) ∧ Doc w' A n cp xs ∧ Kept [] w w' ∧ ∀ a, A = some a → w.heap.size ≤ a.block
set_option maxRecDepth 100000 in
theorem rtake_no (A : Option Addr) (cp : Nat) (room : Nat) (w : World) :
    Calls Try.prog 54 #[.agg #[.slice A 0 cp, .int .i64 room]] w fun e w' => e = .returned (.tuple #[.agg #[.slice A 0 cp, .int .i64 room], .int .i64 0, .bool false]) ∧ Kept [] w w' := by
  go_enter Try.func54, Try.ntmps54
  go_wp2
  refine bodyPost_ret (v := .tuple #[.agg #[.slice A 0 cp, .int .i64 room], .int .i64 0, .bool false]) (by simp [results, Try.results54, go_sem]) rfl ?_
  have K := fun o p => ((Kept.refl [] w).alloc o).alloc p
  exact ⟨rfl, K _ _⟩
set_option maxRecDepth 100000 in
set_option maxHeartbeats 1000000 in
theorem rtake_yes (A : Option Addr) (n cp room : Nat) (x : Int) (xs : List Int) (w : World) (h : Doc w A n cp (x :: xs)) (hn : n ≤ 256) :
    Calls Try.prog 54 #[.agg #[.slice A n cp, .int .i64 room]] w (DTake w room x xs true) := by
  have H := hide h
  obtain ⟨h1, h2, h3⟩ := h
  rcases h3 with ⟨rfl, h4⟩ | ⟨b, off, rfl, hb, hc⟩
  · simp at h1; omega
  have hpos : 0 < n := by simp at h1; omega
  have hne : n ≠ 0 := by omega
  have hc0 : w.cell? ⟨b, off, none⟩ = some (.int .i64 x) := hc 0 hpos
  have hl : n ≤ 9223372036854775807 := by omega
  have hT : Doc w (some ⟨b, off + 1, none⟩) (n - 1) (cp - 1) xs := ⟨by simp at h1; omega, by omega, .inr ⟨b, off + 1, rfl, hb, fun j hj => by
    have := hc (j + 1) (by omega)
    rw [show off + 1 + j = off + (j + 1) by omega, this]
    simp⟩⟩
  have hT0 : cp = 1 → Doc w (some ⟨b, off, none⟩) (n - 1) 0 xs := fun e => ⟨by simp at h1; omega, by omega, .inr ⟨b, off, rfl, hb, fun j hj => by omega⟩⟩
  have TT := hide hT
  have TZ := hide hT0
  have ht1 : n - 1 ≤ 9223372036854775807 := by omega
  have hnz : ((n : Int) == 0) = false := by simp; omega
  clear h1 hc hT hT0
  by_cases hcp : cp = 1
  · subst hcp
    have hn1 : n = 1 := by omega
    subst hn1
    go_enter Try.func54, Try.ntmps54
    go_wp2_with (at_builtin; refine wpList_append_doc rfl _ _ rfl (w.heap.size + 2) 0 _ [] rfl (own_lit0 _ _ _ (by simp) (by omega)) _ _ _ xs rfl ((unhide TZ rfl).kept ((((Kept.refl [] w).alloc _).alloc _).alloc _) (by simp)) (by omega) (by simp) ?_)
    intro A2 c2 w2 o2 b2
    have O2 := hide o2
    have z2 : w.heap.size + 3 ≤ w2.heap.size := by have := b2.size; simpa using this
    have f0 : w2.heap[w.heap.size]? = some (.cells #[.slice (some ⟨b, off, none⟩) 1 1, .int .i64 room] 77) := (b2.block _ (by omega)).trans (obj_alloc (obj_alloc (obj_new w _) _) _)
    have f1 : w2.heap[w.heap.size + 1]? = some (.cells #[.slice none 0 0, .int .i64 0] 77) := (b2.block _ (by omega)).trans (obj_alloc (by have := obj_new (w.alloc (.cells #[.slice (some ⟨b, off, none⟩) 1 1, .int .i64 room] 77)) (.cells #[.slice none 0 0, .int .i64 0] 77); simpa using this) _)
    have K2 : Hid (Kept [] w w2) := hide ⟨b2.os, b2.tape, b2.output, by omega, fun i hi hn => (b2.block i (by omega)).trans ((((Kept.refl [] w).alloc _).alloc _).alloc _ |>.block i hi (by simp))⟩
    have c00 := obj_cell f0 0
    have c01 := obj_cell f0 1
    have c10 := obj_cell f1 0
    have c11 := obj_cell f1 1
    have c0z := obj_frozen f0
    have c1z := obj_frozen f1
    clear o2 b2 f0 f1
    go_wp2
    refine bodyPost_ret (v := .tuple #[.agg #[.slice A2 0 c2, .int .i64 room], .int .i64 x, .bool true]) (by simp [results, Try.results54, go_sem, c10, c11]) rfl ?_
    obtain ⟨A3, cp3, hv, hd⟩ := doc_own (xs := xs) (unhide O2)
    injection hv with hv1 hv2 hv3
    subst hv1 hv3
    have hlt : ∀ a, A2 = some a → w.heap.size + 2 ≤ a.block := by
      rintro a rfl
      exact ((unhide O2).lt _ rfl).1
    have K : ∀ u v z, Kept [w.heap.size, w.heap.size + 1] w2 (((w2.setCell ⟨w.heap.size, 0, none⟩ u).setCell ⟨w.heap.size + 1, 0, none⟩ v).setCell ⟨w.heap.size + 1, 1, none⟩ z) := fun u v z =>
      (((Kept.refl [w.heap.size, w.heap.size + 1] w2).setCell (.inl (by simp)) u).setCell (.inl (by simp)) v).setCell (.inl (by simp)) z
    exact ⟨A2, 0, c2, rfl, hd.kept (K _ _ _) (fun a ha => by have := hlt a ha; simp; omega), (unhide K2).trans (K _ _ _) (by intro i hi hm; simp at hm; omega), fun a ha => by have := hlt a ha; omega⟩
  · go_enter Try.func54, Try.ntmps54
    go_wp2_with (at_builtin; refine wpList_append_doc rfl _ _ rfl (w.heap.size + 2) 0 _ [] rfl (own_lit0 _ _ _ (by simp) (by omega)) _ _ _ xs rfl ((unhide TT).kept ((((Kept.refl [] w).alloc _).alloc _).alloc _) (by simp)) (by omega) (by simp) ?_)
    intro A2 c2 w2 o2 b2
    have O2 := hide o2
    have z2 : w.heap.size + 3 ≤ w2.heap.size := by have := b2.size; simpa using this
    have f0 : w2.heap[w.heap.size]? = some (.cells #[.slice (some ⟨b, off, none⟩) n cp, .int .i64 room] 77) := (b2.block _ (by omega)).trans (obj_alloc (obj_alloc (obj_new w _) _) _)
    have f1 : w2.heap[w.heap.size + 1]? = some (.cells #[.slice none 0 0, .int .i64 0] 77) := (b2.block _ (by omega)).trans (obj_alloc (by have := obj_new (w.alloc (.cells #[.slice (some ⟨b, off, none⟩) n cp, .int .i64 room] 77)) (.cells #[.slice none 0 0, .int .i64 0] 77); simpa using this) _)
    have K2 : Hid (Kept [] w w2) := hide ⟨b2.os, b2.tape, b2.output, by omega, fun i hi hn => (b2.block i (by omega)).trans ((((Kept.refl [] w).alloc _).alloc _).alloc _ |>.block i hi (by simp))⟩
    have c00 := obj_cell f0 0
    have c01 := obj_cell f0 1
    have c10 := obj_cell f1 0
    have c11 := obj_cell f1 1
    have c0z := obj_frozen f0
    have c1z := obj_frozen f1
    clear o2 b2 f0 f1
    go_wp2
    refine bodyPost_ret (v := .tuple #[.agg #[.slice A2 (n - 1) c2, .int .i64 room], .int .i64 x, .bool true]) (by simp [results, Try.results54, go_sem, c10, c11]) rfl ?_
    obtain ⟨A3, cp3, hv, hd⟩ := doc_own (xs := xs) (unhide O2)
    injection hv with hv1 hv2 hv3
    subst hv1 hv3
    have hlt : ∀ a, A2 = some a → w.heap.size + 2 ≤ a.block := by
      rintro a rfl
      exact ((unhide O2).lt _ rfl).1
    have K : ∀ u v z, Kept [w.heap.size, w.heap.size + 1] w2 (((w2.setCell ⟨w.heap.size, 0, none⟩ u).setCell ⟨w.heap.size + 1, 0, none⟩ v).setCell ⟨w.heap.size + 1, 1, none⟩ z) := fun u v z =>
      (((Kept.refl [w.heap.size, w.heap.size + 1] w2).setCell (.inl (by simp)) u).setCell (.inl (by simp)) v).setCell (.inl (by simp)) z
    exact ⟨A2, (n - 1), c2, rfl, hd.kept (K _ _ _) (fun a ha => by have := hlt a ha; simp; omega), (unhide K2).trans (K _ _ _) (by intro i hi hm; simp at hm; omega), fun a ha => by have := hlt a ha; omega⟩
end Go.Proofs.Ytpdabmbjnmpgbaa
