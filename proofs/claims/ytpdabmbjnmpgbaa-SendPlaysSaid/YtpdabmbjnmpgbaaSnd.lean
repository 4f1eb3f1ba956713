/-
  Package send: how a sender stands; New, of, Typed, Sent, Acked, Ask.
-/
import Derived.Test.YtpdabmbjnmpgbaaQuu
namespace Go.Proofs.Ytpdabmbjnmpgbaa
open Go.Conc Go.RowKit
set_option linter.unusedVariables false

def SndO (qg ty se ac : Nat) (la : Int) (be ask : Bool) : Obj :=
  .cells #[.pointer (some ⟨qg, 0, none⟩), .int .u64 (ty : Int), .int .u64 (se : Int), .int .u64 (ac : Int), .int .u64 la, .bool be, .bool ask] 140 (0, 0)
structure SS (w : World) (sg qg qc : Nat) (ks : List ByteArray) (ty se ac : Nat) (la : Int) (be ask : Bool) : Prop where
  box : w.heap[sg]? = some (SndO qg ty se ac la be ask)
  q : QS w qg qc 64 ks
  kl : ks.length ≤ 64
  sum : ty = ac + ks.length
  ord : ac ≤ se ∧ se ≤ ty
  key : ∀ k ∈ ks, 1 ≤ ByteArray.size k ∧ ByteArray.size k ≤ 8
section
variable {w w' : World} {sg qg qc ty se ac : Nat} {ks : List ByteArray} {la : Int} {be ask : Bool}
theorem SS.ne (h : SS w sg qg qc ks ty se ac la be ask) : sg ≠ qg ∧ sg ≠ qc := by
  have hb := h.box
  refine ⟨?_, ?_⟩
  · rintro rfl
    have := h.q.box
    rw [hb] at this
    simp [SndO, QSO] at this
  · rintro rfl
    obtain ⟨s, r, hc⟩ := h.q.chan
    rw [hb] at hc
    simp [SndO, CSO] at hc
theorem SS.next {S : List Nat} (h : SS w sg qg qc ks ty se ac la be ask) (k : Kept S w w') (h1 : sg ∉ S) (h2 : qg ∉ S) (h3 : qc ∉ S) : SS w' sg qg qc ks ty se ac la be ask :=
  ⟨k.obj h.box h1, h.q.next k h2 h3, h.kl, h.sum, h.ord, h.key⟩
theorem SS.cells (h : SS w sg qg qc ks ty se ac la be ask) : w.cell? ⟨sg, 0, none⟩ = some (.pointer (some ⟨qg, 0, none⟩)) ∧ w.cell? ⟨sg, 1, none⟩ = some (.int .u64 (ty : Int)) ∧ w.cell? ⟨sg, 2, none⟩ = some (.int .u64 (se : Int)) ∧
    w.cell? ⟨sg, 3, none⟩ = some (.int .u64 (ac : Int)) ∧ w.cell? ⟨sg, 4, none⟩ = some (.int .u64 la) ∧ w.cell? ⟨sg, 5, none⟩ = some (.bool be) ∧ w.cell? ⟨sg, 6, none⟩ = some (.bool ask) ∧ (∀ i, w.frozen? ⟨sg, i, none⟩ = false) ∧ sg < w.heap.size :=
  ⟨obj_cell h.box 0, obj_cell h.box 1, obj_cell h.box 2, obj_cell h.box 3, obj_cell h.box 4, obj_cell h.box 5, obj_cell h.box 6, obj_frozen h.box, heap_lt h.box⟩
end
theorem field138_0 (a b c : Int) (w : World) : (Instr.field 138 (.agg #[.int .u64 a, .int .u64 b, .int .u64 c]) 0).run Try.prog w = .ok (.int .u64 a) w := by kernel_rfl
theorem field138_1 (a b c : Int) (w : World) : (Instr.field 138 (.agg #[.int .u64 a, .int .u64 b, .int .u64 c]) 1).run Try.prog w = .ok (.int .u64 b) w := by kernel_rfl
theorem field138_2 (a b c : Int) (w : World) : (Instr.field 138 (.agg #[.int .u64 a, .int .u64 b, .int .u64 c]) 2).run Try.prog w = .ok (.int .u64 c) w := by kernel_rfl
def SNew (w : World) (e : Ending) (w' : World) : Prop :=
  ∃ sg, e = .returned (.pointer (some ⟨sg, 0, none⟩)) ∧ SS w' sg (w.heap.size + 1) w.heap.size [] 0 0 0 0 false false ∧ Kept [] w w' ∧ w.heap.size + 2 ≤ sg
set_option maxRecDepth 100000 in
theorem snew (w : World) : Calls Try.prog 60 #[] w (SNew w) := by
  go_enter Try.func60, Try.ntmps60
  go_wp2_with fail
  refine (newS_yes 64 _ (by omega) (by omega)).mono ?_
  rintro e w1 ⟨rfl, hq, hk⟩
  go_wp2
  go_ret
  have hl := hq.lt
  exact ⟨w1.heap.size, rfl, ⟨obj_new w1 _, hq.next (S := []) ((Kept.refl [] w1).alloc _) (by simp) (by simp), by simp, by simp, by omega, by simp⟩, hk.alloc _, by omega⟩
def SOf (w : World) (ty se ac : Nat) (e : Ending) (w' : World) : Prop := e = .returned (.agg #[.int .u64 (ty : Int), .int .u64 (se : Int), .int .u64 (ac : Int)]) ∧ Kept [] w w'
theorem sof (sg qg qc : Nat) (ks : List ByteArray) (ty se ac : Nat) (la : Int) (be ask : Bool) (w : World) (h : SS w sg qg qc ks ty se ac la be ask) :
    Calls Try.prog 80 #[.pointer (some ⟨sg, 0, none⟩)] w (SOf w ty se ac) := by
  obtain ⟨c0, c1, c2, c3, c4, c5, c6, cz, cl⟩ := h.cells
  clear h
  go_enter Try.func80, Try.ntmps80
  go_wp2
  refine bodyPost_ret (v := .agg #[.int .u64 (ty : Int), .int .u64 (se : Int), .int .u64 (ac : Int)]) (by simp [results, Try.results80, go_sem]) rfl ?_
  exact ⟨rfl, (Kept.refl [] w).alloc _⟩
theorem sof_nil (w : World) : Calls Try.prog 80 #[.pointer none] w (SOf w 0 0 0) := by
  go_enter Try.func80, Try.ntmps80
  go_wp2
  refine bodyPost_ret (v := .agg #[.int .u64 0, .int .u64 0, .int .u64 0]) (by simp [results, Try.results80, go_sem]) rfl ?_
  exact ⟨rfl, (Kept.refl [] w).alloc _⟩
set_option maxRecDepth 100000 in
theorem styped (sg qg qc : Nat) (ks : List ByteArray) (ty se ac : Nat) (la : Int) (be ask : Bool) (w : World) (h : SS w sg qg qc ks ty se ac la be ask) :
    Calls Try.prog 62 #[.pointer (some ⟨sg, 0, none⟩)] w fun e w' => e = .returned (.int .u64 (ty : Int)) ∧ Kept [] w w' := by
  have H := hide h
  have hf := fun w => field138_0 ty se ac w
  clear h
  go_enter Try.func62, Try.ntmps62
  go_wp2_with fail
  refine (sof _ _ _ _ _ _ _ _ _ _ _ (unhide H)).mono ?_
  rintro e w1 ⟨rfl, hk⟩
  go_wp2
  go_ret
  exact ⟨rfl, hk⟩
set_option maxRecDepth 100000 in
theorem styped_nil (w : World) : Calls Try.prog 62 #[.pointer none] w fun e w' => e = .returned (.int .u64 0) ∧ Kept [] w w' := by
  have hf := fun w => field138_0 0 0 0 w
  go_enter Try.func62, Try.ntmps62
  go_wp2_with fail
  refine (sof_nil w).mono ?_
  rintro e w1 ⟨rfl, hk⟩
  go_wp2
  go_ret
  exact ⟨rfl, hk⟩
set_option maxRecDepth 100000 in
theorem ssent (sg qg qc : Nat) (ks : List ByteArray) (ty se ac : Nat) (la : Int) (be ask : Bool) (w : World) (h : SS w sg qg qc ks ty se ac la be ask) :
    Calls Try.prog 73 #[.pointer (some ⟨sg, 0, none⟩)] w fun e w' => e = .returned (.int .u64 (se : Int)) ∧ Kept [] w w' := by
  have H := hide h
  have hf := fun w => field138_1 ty se ac w
  clear h
  go_enter Try.func73, Try.ntmps73
  go_wp2_with fail
  refine (sof _ _ _ _ _ _ _ _ _ _ _ (unhide H)).mono ?_
  rintro e w1 ⟨rfl, hk⟩
  go_wp2
  go_ret
  exact ⟨rfl, hk⟩
set_option maxRecDepth 100000 in
theorem ssent_nil (w : World) : Calls Try.prog 73 #[.pointer none] w fun e w' => e = .returned (.int .u64 0) ∧ Kept [] w w' := by
  have hf := fun w => field138_1 0 0 0 w
  go_enter Try.func73, Try.ntmps73
  go_wp2_with fail
  refine (sof_nil w).mono ?_
  rintro e w1 ⟨rfl, hk⟩
  go_wp2
  go_ret
  exact ⟨rfl, hk⟩
set_option maxRecDepth 100000 in
theorem sacked (sg qg qc : Nat) (ks : List ByteArray) (ty se ac : Nat) (la : Int) (be ask : Bool) (w : World) (h : SS w sg qg qc ks ty se ac la be ask) :
    Calls Try.prog 69 #[.pointer (some ⟨sg, 0, none⟩)] w fun e w' => e = .returned (.int .u64 (ac : Int)) ∧ Kept [] w w' := by
  have H := hide h
  have hf := fun w => field138_2 ty se ac w
  clear h
  go_enter Try.func69, Try.ntmps69
  go_wp2_with fail
  refine (sof _ _ _ _ _ _ _ _ _ _ _ (unhide H)).mono ?_
  rintro e w1 ⟨rfl, hk⟩
  go_wp2
  go_ret
  exact ⟨rfl, hk⟩
set_option maxRecDepth 100000 in
theorem sacked_nil (w : World) : Calls Try.prog 69 #[.pointer none] w fun e w' => e = .returned (.int .u64 0) ∧ Kept [] w w' := by
  have hf := fun w => field138_2 0 0 0 w
  go_enter Try.func69, Try.ntmps69
  go_wp2_with fail
  refine (sof_nil w).mono ?_
  rintro e w1 ⟨rfl, hk⟩
  go_wp2
  go_ret
  exact ⟨rfl, hk⟩
theorem sask (sg qg qc : Nat) (ks : List ByteArray) (ty se ac : Nat) (la : Int) (be ask : Bool) (w : World) (h : SS w sg qg qc ks ty se ac la be ask) :
    Calls Try.prog 70 #[.pointer (some ⟨sg, 0, none⟩)] w fun e w' => e = .returned (.tuple #[]) ∧ SS w' sg qg qc ks ty se ac la be true ∧ Kept [sg] w w' := by
  obtain ⟨c0, c1, c2, c3, c4, c5, c6, cz, cl⟩ := h.cells
  have H := hide h
  clear h
  go_enter Try.func70, Try.ntmps70
  go_wp2
  first | go_end0 | (refine bodyPost_ret (results_none rfl _ _ _) rfl ?_)
  have K := fun u => (Kept.refl [sg] w).setCell (p := ⟨sg, 6, none⟩) (.inl (by simp)) u
  have hne := (unhide H).ne
  exact ⟨rfl, ⟨by have := obj_set (unhide H).box 6 (.bool true); simpa [SndO] using this, (unhide H).q.next (K _) (by simp; omega) (by simp; omega), (unhide H).kl, (unhide H).sum, (unhide H).ord, (unhide H).key⟩, K _⟩
theorem sask_nil (w : World) : Calls Try.prog 70 #[.pointer none] w fun e w' => e = .returned (.tuple #[]) ∧ w = w' := by
  go_enter Try.func70, Try.ntmps70
  go_wp2
  first | go_end0 | (refine bodyPost_ret (results_none rfl _ _ _) rfl ?_)
  exact ⟨rfl, rfl⟩
end Go.Proofs.Ytpdabmbjnmpgbaa
