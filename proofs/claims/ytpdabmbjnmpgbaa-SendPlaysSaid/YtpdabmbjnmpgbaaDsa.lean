/-
  The document's sender: its keys, a list of strings; Size, Add, Type, Echoed, Due, Waiting.
-/
import Derived.Test.YtpdabmbjnmpgbaaSlk
namespace Go.Proofs.Ytpdabmbjnmpgbaa
open Go.Conc Go.RowKit
set_option linter.unusedVariables false

/-- A slice of strings that is a list, whoever owns it. -/
def DocS (w : World) (A : Option Addr) (n cp : Nat) (xs : List ByteArray) : Prop :=
  xs.length = n ∧ n ≤ cp ∧ ((A = none ∧ cp = 0) ∨ ∃ b off, A = some ⟨b, off, none⟩ ∧ b < w.heap.size ∧ ∀ j, j < n → w.cell? ⟨b, off + j, none⟩ = some (.string (xs.getD j ByteArray.empty)))
theorem DocS.kept {S : List Nat} {w w' : World} {A : Option Addr} {n cp : Nat} {xs : List ByteArray} (h : DocS w A n cp xs) (k : Kept S w w') (hs : ∀ a, A = some a → a.block ∉ S) : DocS w' A n cp xs := by
  refine ⟨h.1, h.2.1, ?_⟩
  rcases h.2.2 with h1 | ⟨b, off, rfl, hb, hc⟩
  · exact .inl h1
  · exact .inr ⟨b, off, rfl, Nat.lt_of_lt_of_le hb k.size, fun j hj => (k.cell (p := ⟨b, off + j, none⟩) hb (hs ⟨b, off, none⟩ rfl)).trans (hc j hj)⟩
theorem DocS.rd {w : World} {A : Option Addr} {n cp : Nat} {xs : List ByteArray} (h : DocS w A n cp xs) {i : Nat} (hi : i < n) : ∃ b off, A = some ⟨b, off, none⟩ ∧ b < w.heap.size ∧ w.cell? ⟨b, off + i, none⟩ = some (.string (xs.getD i ByteArray.empty)) := by
  obtain ⟨h1, h2, h3⟩ := h
  rcases h3 with ⟨rfl, h4⟩ | ⟨b, off, rfl, hb, hc⟩
  · omega
  · exact ⟨b, off, rfl, hb, hc i hi⟩
theorem DocS.lt {w : World} {A : Option Addr} {n cp : Nat} {xs : List ByteArray} (h : DocS w A n cp xs) : ∀ a, A = some a → a.block < w.heap.size := fun a ha => by
  rcases h.2.2 with ⟨rfl, h4⟩ | ⟨b, off, rfl, hb, hc⟩
  · cases ha
  · injection ha with ha; rw [← ha]; exact hb
theorem DocS.nil (w : World) : DocS w none 0 0 [] := ⟨rfl, Nat.le_refl _, .inl ⟨rfl, rfl⟩⟩
theorem docS_own {w : World} {base n : Nat} {v : Value} {xs : List ByteArray} (h : w.ownsRow base 9 1 v n (xs.map Value.string)) : ∃ A cp, v = .slice A n cp ∧ DocS w A n cp xs := by
  have hl : xs.length = n := by have := h.1; simpa using this
  have h0 := h
  rcases h.2 with ⟨rfl, h2⟩ | ⟨g, cap, cur, rfl, hb, hgg, hnc, hcm, hcs, htk⟩
  · exact ⟨none, 0, by rw [h2], hl, by omega, .inl ⟨rfl, rfl⟩⟩
  · refine ⟨some ⟨g, 0, none⟩, cap, rfl, hl, hnc, .inr ⟨g, 0, rfl, heap_lt hgg, fun j hj => ?_⟩⟩
    have h3 := h0.cells (g := g) rfl j (.string (xs.getD j ByteArray.empty)) (by simp [List.getElem?_map, List.getD_eq_getElem?_getD, List.getElem?_eq_getElem (show j < xs.length by omega)])
    rwa [add_plain] at h3
theorem own_lit9 (w : World) (base B : Nat) (hB : B = w.heap.size) (hb : base ≤ B) : (w.alloc (.cells #[] 9)).ownsRow base 9 1 (.slice (some ⟨B, 0, none⟩) 0 0) 0 [] := by
  subst hB
  exact ⟨by simp, .inr ⟨w.heap.size, 0, #[], rfl, hb, obj_new w _, by omega, by unfold maxLen; omega, by simp, by simp⟩⟩
theorem wpList_append_docS {w : World} {ops : Array Oper} {rest : List Oper} {o : Oper} {a : Act} {Q : Exit → Act → World → Prop} (hgd : o.guard = none) (s x : Operand)
    (ho : o.op = .call { callee := .builtin .append, args := #[s, x], argTypes := #[30, 30] })
    (base n : Nat) (v : Value) (xs : List ByteArray) (hs : a.eval s = v) (hown : w.ownsRow base 9 1 v n (xs.map Value.string))
    (A : Option Addr) (m c : Nat) (ys : List ByteArray) (hx : a.eval x = .slice A m c) (hd : DocS w A m c ys) (h63 : n + m ≤ 1024) (hbase : base ≤ w.heap.size)
    (h : ∀ A' c' w', w'.ownsRow base 9 1 (.slice A' (n + m) c') (n + m) ((xs ++ ys).map Value.string) → Below base w w' → wpList Try.prog ops Q rest (a.put o.dst (.slice A' (n + m) c')) w') : wpList Try.prog ops Q (o :: rest) a w := by
  obtain ⟨i0, hi0, hz0, hz1, hz2⟩ := info_parts infoS
  rcases hd.2.2 with ⟨rfl, rfl⟩ | ⟨b, off, rfl, hb, hc⟩
  · have hm : m = 0 := by have := hd.2.1; omega
    subst hm
    have hy : ys = [] := List.length_eq_zero_iff.1 hd.1
    subst hy
    obtain ⟨A', c', rfl⟩ := own_form hown
    exact wpList_append_own_none hgd s x 30 ho base 9 i0 1 Try.underlying30 hi0 _ n _ hs hown hx (h A' c' w (by simpa using hown) ⟨rfl, rfl, rfl, Nat.le_refl _, fun _ _ => rfl⟩)
  · refine wpList_append_own w hgd s x 30 ho base 9 i0 (.string ⟨#[]⟩) 1 16 Try.underlying30 hi0 hz0 hz1 hz2 rfl (by decide) v n _ hs hown ⟨b, off, none⟩ m c (ys.map Value.string) hx (by simp [hd.1]) ?_ (by simp [Value.oneCell']) (by unfold maxLen; omega) (by omega) hbase ?_
    · intro j u hj
      rw [List.getElem?_map] at hj
      have hl := hd.1
      by_cases hjl : j < ys.length
      · rw [List.getElem?_eq_getElem hjl] at hj
        simp only [Option.map_some, Option.some.injEq] at hj
        rw [← hj, add_plain, hc j (by omega)]
        simp [List.getD_eq_getElem?_getD, List.getElem?_eq_getElem hjl]
      · rw [List.getElem?_eq_none (by omega)] at hj; cases hj
    · intro v' w' h1 h2 _
      obtain ⟨A', c', rfl⟩ := own_form h1
      exact h A' c' w' (by simpa using h1) ⟨h2.os, h2.tape, h2.output, h2.size, fun i hi => h2.block i (by omega) (fun e => by have := hown.lt i e.symm; omega)⟩
theorem docS_one (w : World) (x : ByteArray) (B : Nat) (hB : B = w.heap.size) : DocS (w.alloc (.cells #[.string x] 9)) (some ⟨B, 0, none⟩) 1 1 [x] := by
  subst hB
  exact ⟨rfl, by omega, .inr ⟨w.heap.size, 0, rfl, by simp, fun j hj => by
    have : j = 0 := by omega
    subst this
    exact obj_cell (obj_new w _) 0⟩⟩
theorem DocS.below {w w' : World} {A : Option Addr} {n cp B : Nat} {xs : List ByteArray} (h : DocS w A n cp xs) (k : Below B w w') (hs : ∀ a, A = some a → a.block < B) : DocS w' A n cp xs := by
  refine ⟨h.1, h.2.1, ?_⟩
  rcases h.2.2 with h1 | ⟨b, off, rfl, hb, hc⟩
  · exact .inl h1
  · exact .inr ⟨b, off, rfl, Nat.lt_of_lt_of_le hb k.size, fun j hj => (World.cell?_of_block (w := w) (a := ⟨b, off + j, none⟩) (k.block b (hs _ rfl))).trans (hc j hj)⟩
/-- The document's sender, as a value. -/
def dsV (A : Option Addr) (n cp se ac : Nat) (la : Int) (be ask : Bool) : Value := .agg #[.slice A n cp, .int .i64 (se : Int), .int .i64 (ac : Int), .int .u64 la, .bool be, .bool ask]
def DsO (A : Option Addr) (n cp se ac : Nat) (la : Int) (be ask : Bool) : Obj := .cells #[.slice A n cp, .int .i64 (se : Int), .int .i64 (ac : Int), .int .u64 la, .bool be, .bool ask] 117 (0, 0)
theorem rsize_any (r c : Int) (w : World) : Calls Try.prog 96 #[.int .i64 r, .int .i64 c] w fun e w' => e = .returned (.bool (okSide r && okSide c)) ∧ w = w' := by
  by_cases h1 : 1 ≤ r
  rotate_left
  · have hb : (okSide r && okSide c) = false := by simp [okSide, h1]
    rw [hb]
    clear hb
    go_enter Try.func96, Try.ntmps96
    go_wp2
    go_ret
    exact ⟨by simp, rfl⟩
  by_cases h2 : r ≤ 512
  rotate_left
  · have hb : (okSide r && okSide c) = false := by simp [okSide, h2]
    rw [hb]
    clear hb
    go_enter Try.func96, Try.ntmps96
    go_wp2
    go_ret
    exact ⟨by simp, rfl⟩
  by_cases h3 : 1 ≤ c
  rotate_left
  · have hb : (okSide r && okSide c) = false := by simp [okSide, h3]
    rw [hb]
    clear hb
    go_enter Try.func96, Try.ntmps96
    go_wp2
    go_ret
    exact ⟨by simp, rfl⟩
  by_cases h4 : c ≤ 512
  · have hb : (okSide r && okSide c) = true := by simp [okSide, h1, h2, h3, h4]
    rw [hb]
    clear hb
    go_enter Try.func96, Try.ntmps96
    go_wp2
    go_ret
    exact ⟨by simp, rfl⟩
  · have hb : (okSide r && okSide c) = false := by simp [okSide, h4]
    rw [hb]
    clear hb
    go_enter Try.func96, Try.ntmps96
    go_wp2
    go_ret
    exact ⟨by simp, rfl⟩
theorem radd_one (a : Int) (w : World) (h0 : 0 ≤ a) (h1 : a < 18446744073709551616) : Calls Try.prog 97 #[.int .u64 a, .int .u64 1] w fun e w' => e = .returned (.int .u64 (sat a 1)) ∧ w = w' := by
  by_cases h2 : a = 18446744073709551615
  · have hw : IntKind.u64.wrap (a + 1) = 0 := by have e := IntKind.wrap_u64 (a + 1); omega
    have e : sat a 1 = 18446744073709551615 := by simp [sat]; omega
    have hl : (0 : Int) < a := by omega
    rw [e]
    clear e h2
    go_enter Try.func97, Try.ntmps97
    go_wp2
    go_ret
    exact ⟨rfl, rfl⟩
  · have e : sat a 1 = a + 1 := by simp [sat]; omega
    have hw2 : IntKind.u64.wrap (a + 1) = a + 1 := by have e := IntKind.wrap_u64 (a + 1); omega
    rw [e]
    clear e
    go_enter Try.func97, Try.ntmps97
    go_wp2
    go_ret
    exact ⟨rfl, rfl⟩
end Go.Proofs.Ytpdabmbjnmpgbaa
