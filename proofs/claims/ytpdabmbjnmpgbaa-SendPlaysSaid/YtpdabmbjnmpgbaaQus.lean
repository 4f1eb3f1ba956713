/-
  The contracts of package queue at ByteArray: a queue is a channel that is never waited for.
-/
import Derived.Test.YtpdabmbjnmpgbaaKw
import Derived.Conc.LoneCalls
import Derived.Conc.LoneSelect
import Derived.Conc.LoneSelectN
namespace Go.Proofs.Ytpdabmbjnmpgbaa
open Go.Conc Go.RowKit
set_option linter.unusedVariables false

/-- A queue's block, its channel's, and both: what a queue at g holds. -/
def QSO (c : Nat) : Obj := .cells #[.chan (some c)] 126 (0, 0)
def CSO (cap : Nat) (xs : List ByteArray) (s r : Nat) : Obj := .chan cap (xs.map (Value.string)).toArray false s r false
structure QS (w : World) (g c cap : Nat) (xs : List ByteArray) : Prop where
  box : w.heap[g]? = some (QSO c)
  chan : ∃ s r, w.heap[c]? = some (CSO cap xs s r)
theorem QS.ne {w : World} {g c cap : Nat} {xs : List ByteArray} (h : QS w g c cap xs) : c ≠ g := by
  intro e
  obtain ⟨s, r, hc⟩ := h.chan
  have hb := h.box
  rw [← e, hc] at hb
  simp [QSO, CSO] at hb
theorem QS.cell {w : World} {g c cap : Nat} {xs : List ByteArray} (h : QS w g c cap xs) : w.cell? ⟨g, 0, none⟩ = some (.chan (some c)) := obj_cell h.box 0
theorem QS.next {S : List Nat} {w w' : World} {g c cap : Nat} {xs : List ByteArray} (h : QS w g c cap xs) (k : Kept S w w') (hg : g ∉ S) (hc : c ∉ S) : QS w' g c cap xs := by
  obtain ⟨s, r, hc'⟩ := h.chan
  exact ⟨k.obj h.box hg, s, r, k.obj hc' hc⟩
theorem QS.lt {w : World} {g c cap : Nat} {xs : List ByteArray} (h : QS w g c cap xs) : g < w.heap.size ∧ c < w.heap.size := by
  obtain ⟨s, r, hc'⟩ := h.chan
  exact ⟨heap_lt h.box, heap_lt hc'⟩
theorem QS.turn {w : World} {g c cap : Nat} {xs : List ByteArray} (h : QS w g c cap xs) (ys : List ByteArray) (s r : Nat) : QS (w.setChan c cap (ys.map (Value.string)).toArray false s r false) g c cap ys :=
  ⟨chan_far h.box h.ne _ _ _ _ _ _, s, r, chan_same h.lt.2 _ _ _ _ _ _⟩

set_option maxRecDepth 100000 in
theorem putS_yes (g c cap : Nat) (x : ByteArray) (xs : List ByteArray) (w : World) (h : QS w g c cap xs) (hr : xs.length < cap) :
    Calls Try.prog 26 #[.pointer (some ⟨g, 0, none⟩), .string x] w fun e w' => e = .returned (.bool true) ∧ QS w' g c cap (xs ++ [x]) ∧ Kept [c] w w' := by
  have h0 := h.cell
  obtain ⟨s, r, hc⟩ := h.chan
  have H := hide h
  clear h
  refine calls_of_loneTo fun cs => ?_
  have e : Frame.enter Try.prog 26 #[.pointer (some ⟨g, 0, none⟩), .string x] .normal = (base 26).at ⟨#[.pointer (some ⟨g, 0, none⟩), .string x, undef, undef, undef, undef, undef, undef, undef, undef, undef, undef, undef, undef, undef], []⟩ [.code (Try.f26.body.getD .skip)] := by
    simp [Frame.enter, Frame.at, Try.func26, base, Try.f26]
  rw [e]
  clear e
  refine LoneTo.goes (n := 60) ?_
  simp only [Try.f26, Option.getD_some]
  repeat (first | s_op | s_c stepG_seq | s_reg | s_c stepG_region_end | s_c stepG_block | s_c stepG_skip | s_cond false | s_cond true | s_c stepG_ret')
  s_stop
  refine LoneTo.step (step_lone_select_send_room (c := c) (v := .string x) (z' := .string ⟨#[]⟩) (cap := cap) (buf := (xs.map (Value.string)).toArray) (s := s) (r := r) (tm := false)
    (stepG_comm (cases := #[scase c (.string x) (.string ⟨#[]⟩)]) (blocking := false) (shape := .select) (w' := w) rfl rfl (by decide) (by simp [go_sem, execOp, scase, Act.eval])) hc (by simpa using hr)) ?_
  rw [Frame.finish_at]
  walk_nrm
  refine LoneTo.goes (n := 60) ?_
  repeat (first | s_op | s_c stepG_seq | s_reg | s_c stepG_region_end | s_c stepG_block | s_c stepG_skip | s_cond false | s_cond true | s_c stepG_ret')
  s_stop
  refine LoneTo.done ⟨.returned (.bool true), _, rfl, ⟨rfl, ?_, (Kept.refl [c] w).setChan (.inl (by simp)) _ _ _ _ _ _⟩, rfl, rfl, rfl, rfl, _, Try.func26, by simp [results, Try.f26, Frame.at]⟩
  have := (unhide H).turn (xs ++ [x]) (s + 1) r
  simpa using this

set_option maxRecDepth 100000 in
theorem putS_no (g c cap : Nat) (x : ByteArray) (xs : List ByteArray) (w : World) (h : QS w g c cap xs) (hr : cap ≤ xs.length) :
    Calls Try.prog 26 #[.pointer (some ⟨g, 0, none⟩), .string x] w fun e w' => e = .returned (.bool false) ∧ w = w' := by
  have h0 := h.cell
  obtain ⟨s, r, hc⟩ := h.chan
  clear h
  refine calls_of_loneTo fun cs => ?_
  have e : Frame.enter Try.prog 26 #[.pointer (some ⟨g, 0, none⟩), .string x] .normal = (base 26).at ⟨#[.pointer (some ⟨g, 0, none⟩), .string x, undef, undef, undef, undef, undef, undef, undef, undef, undef, undef, undef, undef, undef], []⟩ [.code (Try.f26.body.getD .skip)] := by
    simp [Frame.enter, Frame.at, Try.func26, base, Try.f26]
  rw [e]
  clear e
  refine LoneTo.goes (n := 60) ?_
  simp only [Try.f26, Option.getD_some]
  repeat (first | s_op | s_c stepG_seq | s_reg | s_c stepG_region_end | s_c stepG_block | s_c stepG_skip | s_cond false | s_cond true | s_c stepG_ret')
  s_stop
  refine LoneTo.step (step_lone_select_send_full (c := c) (v := .string x) (z' := .string ⟨#[]⟩) (cap := cap) (buf := (xs.map (Value.string)).toArray) (s := s) (r := r) (tm := false)
    (stepG_comm (cases := #[scase c (.string x) (.string ⟨#[]⟩)]) (blocking := false) (shape := .select) (w' := w) rfl rfl (by decide) (by simp [go_sem, execOp, scase, Act.eval])) hc (by simpa using hr)) ?_
  rw [Frame.finish_at]
  walk_nrm
  refine LoneTo.goes (n := 60) ?_
  repeat (first | s_op | s_c stepG_seq | s_reg | s_c stepG_region_end | s_c stepG_block | s_c stepG_skip | s_cond false | s_cond true | s_c stepG_ret')
  s_stop
  exact LoneTo.done ⟨.returned (.bool false), _, rfl, ⟨rfl, rfl⟩, rfl, rfl, rfl, rfl, _, Try.func26, by simp [results, Try.f26, Frame.at]⟩

theorem putS_nil (x : ByteArray) (w : World) : Calls Try.prog 26 #[.pointer none, .string x] w fun e w' => e = .returned (.bool false) ∧ w = w' := by
  go_enter Try.func26, Try.ntmps26
  go_wp2
  go_ret
  exact ⟨rfl, rfl⟩

set_option maxRecDepth 100000 in
theorem takeS_yes (g c cap : Nat) (x : ByteArray) (xs : List ByteArray) (w : World) (h : QS w g c cap (x :: xs)) :
    Calls Try.prog 28 #[.pointer (some ⟨g, 0, none⟩)] w fun e w' => e = .returned (.tuple #[.string x, .bool true]) ∧ QS w' g c cap xs ∧ Kept [c] w w' := by
  have h0 := h.cell
  obtain ⟨s, r, hc⟩ := h.chan
  have H := hide h
  clear h
  refine calls_of_loneTo fun cs => ?_
  have e : Frame.enter Try.prog 28 #[.pointer (some ⟨g, 0, none⟩)] .normal = (base 28).at ⟨#[.pointer (some ⟨g, 0, none⟩), undef, undef, undef, undef, undef, undef, undef, undef, undef, undef, undef, undef, undef, undef, undef, undef, undef, undef], []⟩ [.code (Try.f28.body.getD .skip)] := by
    simp [Frame.enter, Frame.at, Try.func28, base, Try.f28]
  rw [e]
  clear e
  refine LoneTo.goes (n := 60) ?_
  simp only [Try.f28, Option.getD_some]
  repeat (first | s_op | s_c stepG_seq | s_reg | s_c stepG_region_end | s_c stepG_block | s_c stepG_skip | s_cond false | s_cond true | s_c stepG_ret')
  s_stop
  refine LoneTo.step (step_lone_select_recv_buf (c := c) (z := .string ⟨#[]⟩) (cap := cap) (buf := ((x :: xs).map (Value.string)).toArray) (closed := false) (s := s) (r := r) (tm := false)
    (stepG_comm (cases := #[rcase c (.string ⟨#[]⟩)]) (blocking := false) (shape := .select) (w' := w) rfl rfl (by decide) (by simp [go_sem, execOp, rcase, Act.eval])) hc (by simp)) ?_
  rw [Frame.finish_at]
  walk_nrm
  refine LoneTo.goes (n := 60) ?_
  repeat (first | s_op | s_c stepG_seq | s_reg | s_c stepG_region_end | s_c stepG_block | s_c stepG_skip | s_cond false | s_cond true | s_c stepG_ret')
  s_stop
  refine LoneTo.done ⟨.returned (.tuple #[.string x, .bool true]), _, rfl, ⟨rfl, ?_, (Kept.refl [c] w).setChan (.inl (by simp)) _ _ _ _ _ _⟩, rfl, rfl, rfl, rfl, _, Try.func28, by simp [results, Try.f28, Frame.at]⟩
  have := (unhide H).turn xs s (r + 1)
  simpa [List.take_of_length_le] using this

set_option maxRecDepth 100000 in
theorem takeS_no (g c cap : Nat) (w : World) (h : QS w g c cap []) :
    Calls Try.prog 28 #[.pointer (some ⟨g, 0, none⟩)] w fun e w' => e = .returned (.tuple #[.string ⟨#[]⟩, .bool false]) ∧ w = w' := by
  have h0 := h.cell
  obtain ⟨s, r, hc⟩ := h.chan
  clear h
  refine calls_of_loneTo fun cs => ?_
  have e : Frame.enter Try.prog 28 #[.pointer (some ⟨g, 0, none⟩)] .normal = (base 28).at ⟨#[.pointer (some ⟨g, 0, none⟩), undef, undef, undef, undef, undef, undef, undef, undef, undef, undef, undef, undef, undef, undef, undef, undef, undef, undef], []⟩ [.code (Try.f28.body.getD .skip)] := by
    simp [Frame.enter, Frame.at, Try.func28, base, Try.f28]
  rw [e]
  clear e
  refine LoneTo.goes (n := 60) ?_
  simp only [Try.f28, Option.getD_some]
  repeat (first | s_op | s_c stepG_seq | s_reg | s_c stepG_region_end | s_c stepG_block | s_c stepG_skip | s_cond false | s_cond true | s_c stepG_ret')
  s_stop
  refine LoneTo.step (step_lone_select_default (c := c) (z := .string ⟨#[]⟩) (cap := cap) (s := s) (r := r) (tm := false)
    (stepG_comm (cases := #[rcase c (.string ⟨#[]⟩)]) (blocking := false) (shape := .select) (w' := w) rfl rfl (by decide) (by simp [go_sem, execOp, rcase, Act.eval])) hc) ?_
  rw [Frame.finish_at]
  walk_nrm
  refine LoneTo.goes (n := 60) ?_
  repeat (first | s_op | s_c stepG_seq | s_reg | s_c stepG_region_end | s_c stepG_block | s_c stepG_skip | s_cond false | s_cond true | s_c stepG_ret')
  s_stop
  exact LoneTo.done ⟨.returned (.tuple #[.string ⟨#[]⟩, .bool false]), _, rfl, ⟨rfl, rfl⟩, rfl, rfl, rfl, rfl, _, Try.func28, by simp [results, Try.f28, Frame.at]⟩

theorem takeS_nil (w : World) : Calls Try.prog 28 #[.pointer none] w fun e w' => e = .returned (.tuple #[.string ⟨#[]⟩, .bool false]) ∧ w = w' := by
  go_enter Try.func28, Try.ntmps28
  go_wp2
  go_ret2
  exact ⟨rfl, rfl⟩

theorem lenS_any (g c cap : Nat) (xs : List ByteArray) (w : World) (h : QS w g c cap xs) :
    Calls Try.prog 27 #[.pointer (some ⟨g, 0, none⟩)] w fun e w' => e = .returned (.int .i64 xs.length) ∧ w = w' := by
  have h0 := h.cell
  obtain ⟨s, r, hc⟩ := h.chan
  have hlen := fun ty => run_len_chan (P := Try.prog) 124 ty Try.underlying124 hc
  simp only [goInt, List.size_toArray, List.length_map] at hlen
  clear h hc
  go_enter Try.func27, Try.ntmps27
  go_wp2
  go_ret
  exact ⟨rfl, rfl⟩
theorem lenS_nil (w : World) : Calls Try.prog 27 #[.pointer none] w fun e w' => e = .returned (.int .i64 0) ∧ w = w' := by
  go_enter Try.func27, Try.ntmps27
  go_wp2
  go_ret
  exact ⟨rfl, rfl⟩
theorem mkchanS (n : Int) (h1 : 1 ≤ n) (h2 : n ≤ 256) (w : World) : (Instr.makeChan 124 (.int .i64 n)).run Try.prog w = .ok (.chan (some w.heap.size)) (w.alloc (.chan n.toNat #[] false 0 0 false)) := by
  have h : (Try.prog.info? 9).map (fun i => decide (i.bytes ≤ 16)) = some true := by kernel_rfl
  obtain ⟨i, hi, hb⟩ := Option.map_eq_some_iff.1 h
  have hb' : i.bytes ≤ 16 := by simpa using hb
  have hm : (i.bytes : Int) * ((n.toNat : Nat) : Int) ≤ 281474976710544 := by
    have h3 : i.bytes * n.toNat ≤ 16 * 256 := Nat.mul_le_mul hb' (by omega)
    have h4 : ((i.bytes * n.toNat : Nat) : Int) ≤ 4096 := by omega
    rw [Int.natCast_mul] at h4
    omega
  have hr := run_makeChan (P := Try.prog) (w := w) Try.underlying124 hi .i64 n.toNat (by omega) hm
  rwa [Int.toNat_of_nonneg (by omega)] at hr
theorem newS_yes (n : Int) (w : World) (h1 : 1 ≤ n) (h2 : n ≤ 256) :
    Calls Try.prog 25 #[.int .i64 n] w fun e w' => e = .returned (.tuple #[.pointer (some ⟨w.heap.size + 1, 0, none⟩), .int .i64 0]) ∧ QS w' (w.heap.size + 1) w.heap.size n.toNat [] ∧ Kept [] w w' := by
  have hm := fun W => mkchanS n h1 h2 W
  go_enter Try.func25, Try.ntmps25
  go_wp2
  go_ret2
  refine ⟨rfl, ⟨?_, 0, 0, ?_⟩, ((Kept.refl [] w).alloc _).alloc _⟩
  · have := obj_new (w.alloc (CSO n.toNat [] 0 0)) (QSO w.heap.size)
    simpa [QSO, CSO] using this
  · exact obj_alloc (obj_new w _) _
theorem newS_no (n : Int) (w : World) (h : n < 1 ∨ 256 < n) :
    Calls Try.prog 25 #[.int .i64 n] w fun e w' => e = .returned (.tuple #[.pointer none, .int .i64 5]) ∧ w = w' := by
  rcases h with h | h
  all_goals
    go_enter Try.func25, Try.ntmps25
    go_wp2
    go_ret2
    exact ⟨rfl, rfl⟩
end Go.Proofs.Ytpdabmbjnmpgbaa
