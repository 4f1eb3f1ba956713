/-
  The contracts of package queue at Int: a queue is a channel that is never waited for.
-/
import Derived.Test.YtpdabmbjnmpgbaaKw
import Derived.Conc.LoneCalls
import Derived.Conc.LoneSelect
import Derived.Conc.LoneSelectN
namespace Go.Proofs.Ytpdabmbjnmpgbaa
open Go.Conc Go.RowKit
set_option linter.unusedVariables false

/-- A queue's block, its channel's, and both: what a queue at g holds. -/
def QIO (c : Nat) : Obj := .cells #[.chan (some c)] 134 (0, 0)
def CIO (cap : Nat) (xs : List Int) (s r : Nat) : Obj := .chan cap (xs.map (Value.int .i64)).toArray false s r false
structure QI (w : World) (g c cap : Nat) (xs : List Int) : Prop where
  box : w.heap[g]? = some (QIO c)
  chan : ∃ s r, w.heap[c]? = some (CIO cap xs s r)
theorem QI.ne {w : World} {g c cap : Nat} {xs : List Int} (h : QI w g c cap xs) : c ≠ g := by
  intro e
  obtain ⟨s, r, hc⟩ := h.chan
  have hb := h.box
  rw [← e, hc] at hb
  simp [QIO, CIO] at hb
theorem QI.cell {w : World} {g c cap : Nat} {xs : List Int} (h : QI w g c cap xs) : w.cell? ⟨g, 0, none⟩ = some (.chan (some c)) := obj_cell h.box 0
theorem QI.next {S : List Nat} {w w' : World} {g c cap : Nat} {xs : List Int} (h : QI w g c cap xs) (k : Kept S w w') (hg : g ∉ S) (hc : c ∉ S) : QI w' g c cap xs := by
  obtain ⟨s, r, hc'⟩ := h.chan
  exact ⟨k.obj h.box hg, s, r, k.obj hc' hc⟩
theorem QI.lt {w : World} {g c cap : Nat} {xs : List Int} (h : QI w g c cap xs) : g < w.heap.size ∧ c < w.heap.size := by
  obtain ⟨s, r, hc'⟩ := h.chan
  exact ⟨heap_lt h.box, heap_lt hc'⟩
theorem QI.turn {w : World} {g c cap : Nat} {xs : List Int} (h : QI w g c cap xs) (ys : List Int) (s r : Nat) : QI (w.setChan c cap (ys.map (Value.int .i64)).toArray false s r false) g c cap ys :=
  ⟨chan_far h.box h.ne _ _ _ _ _ _, s, r, chan_same h.lt.2 _ _ _ _ _ _⟩

set_option maxRecDepth 100000 in
theorem putI_yes (g c cap : Nat) (x : Int) (xs : List Int) (w : World) (h : QI w g c cap xs) (hr : xs.length < cap) :
    Calls Try.prog 41 #[.pointer (some ⟨g, 0, none⟩), .int .i64 x] w fun e w' => e = .returned (.bool true) ∧ QI w' g c cap (xs ++ [x]) ∧ Kept [c] w w' := by
  have h0 := h.cell
  obtain ⟨s, r, hc⟩ := h.chan
  have H := hide h
  clear h
  refine calls_of_loneTo fun cs => ?_
  have e : Frame.enter Try.prog 41 #[.pointer (some ⟨g, 0, none⟩), .int .i64 x] .normal = (base 41).at ⟨#[.pointer (some ⟨g, 0, none⟩), .int .i64 x, undef, undef, undef, undef, undef, undef, undef, undef, undef, undef, undef, undef, undef], []⟩ [.code (Try.f41.body.getD .skip)] := by
    simp [Frame.enter, Frame.at, Try.func41, base, Try.f41]
  rw [e]
  clear e
  refine LoneTo.goes (n := 60) ?_
  simp only [Try.f41, Option.getD_some]
  repeat (first | s_op | s_c stepG_seq | s_reg | s_c stepG_region_end | s_c stepG_block | s_c stepG_skip | s_cond false | s_cond true | s_c stepG_ret')
  s_stop
  refine LoneTo.step (step_lone_select_send_room (c := c) (v := .int .i64 x) (z' := .int .i64 0) (cap := cap) (buf := (xs.map (Value.int .i64)).toArray) (s := s) (r := r) (tm := false)
    (stepG_comm (cases := #[scase c (.int .i64 x) (.int .i64 0)]) (blocking := false) (shape := .select) (w' := w) rfl rfl (by decide) (by simp [go_sem, execOp, scase, Act.eval])) hc (by simpa using hr)) ?_
  rw [Frame.finish_at]
  walk_nrm
  refine LoneTo.goes (n := 60) ?_
  repeat (first | s_op | s_c stepG_seq | s_reg | s_c stepG_region_end | s_c stepG_block | s_c stepG_skip | s_cond false | s_cond true | s_c stepG_ret')
  s_stop
  refine LoneTo.done ⟨.returned (.bool true), _, rfl, ⟨rfl, ?_, (Kept.refl [c] w).setChan (.inl (by simp)) _ _ _ _ _ _⟩, rfl, rfl, rfl, rfl, _, Try.func41, by simp [results, Try.f41, Frame.at]⟩
  have := (unhide H).turn (xs ++ [x]) (s + 1) r
  simpa using this

set_option maxRecDepth 100000 in
theorem putI_no (g c cap : Nat) (x : Int) (xs : List Int) (w : World) (h : QI w g c cap xs) (hr : cap ≤ xs.length) :
    Calls Try.prog 41 #[.pointer (some ⟨g, 0, none⟩), .int .i64 x] w fun e w' => e = .returned (.bool false) ∧ w = w' := by
  have h0 := h.cell
  obtain ⟨s, r, hc⟩ := h.chan
  clear h
  refine calls_of_loneTo fun cs => ?_
  have e : Frame.enter Try.prog 41 #[.pointer (some ⟨g, 0, none⟩), .int .i64 x] .normal = (base 41).at ⟨#[.pointer (some ⟨g, 0, none⟩), .int .i64 x, undef, undef, undef, undef, undef, undef, undef, undef, undef, undef, undef, undef, undef], []⟩ [.code (Try.f41.body.getD .skip)] := by
    simp [Frame.enter, Frame.at, Try.func41, base, Try.f41]
  rw [e]
  clear e
  refine LoneTo.goes (n := 60) ?_
  simp only [Try.f41, Option.getD_some]
  repeat (first | s_op | s_c stepG_seq | s_reg | s_c stepG_region_end | s_c stepG_block | s_c stepG_skip | s_cond false | s_cond true | s_c stepG_ret')
  s_stop
  refine LoneTo.step (step_lone_select_send_full (c := c) (v := .int .i64 x) (z' := .int .i64 0) (cap := cap) (buf := (xs.map (Value.int .i64)).toArray) (s := s) (r := r) (tm := false)
    (stepG_comm (cases := #[scase c (.int .i64 x) (.int .i64 0)]) (blocking := false) (shape := .select) (w' := w) rfl rfl (by decide) (by simp [go_sem, execOp, scase, Act.eval])) hc (by simpa using hr)) ?_
  rw [Frame.finish_at]
  walk_nrm
  refine LoneTo.goes (n := 60) ?_
  repeat (first | s_op | s_c stepG_seq | s_reg | s_c stepG_region_end | s_c stepG_block | s_c stepG_skip | s_cond false | s_cond true | s_c stepG_ret')
  s_stop
  exact LoneTo.done ⟨.returned (.bool false), _, rfl, ⟨rfl, rfl⟩, rfl, rfl, rfl, rfl, _, Try.func41, by simp [results, Try.f41, Frame.at]⟩

theorem putI_nil (x : Int) (w : World) : Calls Try.prog 41 #[.pointer none, .int .i64 x] w fun e w' => e = .returned (.bool false) ∧ w = w' := by
  go_enter Try.func41, Try.ntmps41
  go_wp2
  go_ret
  exact ⟨rfl, rfl⟩

set_option maxRecDepth 100000 in
theorem takeI_yes (g c cap : Nat) (x : Int) (xs : List Int) (w : World) (h : QI w g c cap (x :: xs)) :
    Calls Try.prog 55 #[.pointer (some ⟨g, 0, none⟩)] w fun e w' => e = .returned (.tuple #[.int .i64 x, .bool true]) ∧ QI w' g c cap xs ∧ Kept [c] w w' := by
  have h0 := h.cell
  obtain ⟨s, r, hc⟩ := h.chan
  have H := hide h
  clear h
  refine calls_of_loneTo fun cs => ?_
  have e : Frame.enter Try.prog 55 #[.pointer (some ⟨g, 0, none⟩)] .normal = (base 55).at ⟨#[.pointer (some ⟨g, 0, none⟩), undef, undef, undef, undef, undef, undef, undef, undef, undef, undef, undef, undef, undef, undef, undef, undef, undef, undef], []⟩ [.code (Try.f55.body.getD .skip)] := by
    simp [Frame.enter, Frame.at, Try.func55, base, Try.f55]
  rw [e]
  clear e
  refine LoneTo.goes (n := 60) ?_
  simp only [Try.f55, Option.getD_some]
  repeat (first | s_op | s_c stepG_seq | s_reg | s_c stepG_region_end | s_c stepG_block | s_c stepG_skip | s_cond false | s_cond true | s_c stepG_ret')
  s_stop
  refine LoneTo.step (step_lone_select_recv_buf (c := c) (z := .int .i64 0) (cap := cap) (buf := ((x :: xs).map (Value.int .i64)).toArray) (closed := false) (s := s) (r := r) (tm := false)
    (stepG_comm (cases := #[rcase c (.int .i64 0)]) (blocking := false) (shape := .select) (w' := w) rfl rfl (by decide) (by simp [go_sem, execOp, rcase, Act.eval])) hc (by simp)) ?_
  rw [Frame.finish_at]
  walk_nrm
  refine LoneTo.goes (n := 60) ?_
  repeat (first | s_op | s_c stepG_seq | s_reg | s_c stepG_region_end | s_c stepG_block | s_c stepG_skip | s_cond false | s_cond true | s_c stepG_ret')
  s_stop
  refine LoneTo.done ⟨.returned (.tuple #[.int .i64 x, .bool true]), _, rfl, ⟨rfl, ?_, (Kept.refl [c] w).setChan (.inl (by simp)) _ _ _ _ _ _⟩, rfl, rfl, rfl, rfl, _, Try.func55, by simp [results, Try.f55, Frame.at]⟩
  have := (unhide H).turn xs s (r + 1)
  simpa [List.take_of_length_le] using this

set_option maxRecDepth 100000 in
theorem takeI_no (g c cap : Nat) (w : World) (h : QI w g c cap []) :
    Calls Try.prog 55 #[.pointer (some ⟨g, 0, none⟩)] w fun e w' => e = .returned (.tuple #[.int .i64 0, .bool false]) ∧ w = w' := by
  have h0 := h.cell
  obtain ⟨s, r, hc⟩ := h.chan
  clear h
  refine calls_of_loneTo fun cs => ?_
  have e : Frame.enter Try.prog 55 #[.pointer (some ⟨g, 0, none⟩)] .normal = (base 55).at ⟨#[.pointer (some ⟨g, 0, none⟩), undef, undef, undef, undef, undef, undef, undef, undef, undef, undef, undef, undef, undef, undef, undef, undef, undef, undef], []⟩ [.code (Try.f55.body.getD .skip)] := by
    simp [Frame.enter, Frame.at, Try.func55, base, Try.f55]
  rw [e]
  clear e
  refine LoneTo.goes (n := 60) ?_
  simp only [Try.f55, Option.getD_some]
  repeat (first | s_op | s_c stepG_seq | s_reg | s_c stepG_region_end | s_c stepG_block | s_c stepG_skip | s_cond false | s_cond true | s_c stepG_ret')
  s_stop
  refine LoneTo.step (step_lone_select_default (c := c) (z := .int .i64 0) (cap := cap) (s := s) (r := r) (tm := false)
    (stepG_comm (cases := #[rcase c (.int .i64 0)]) (blocking := false) (shape := .select) (w' := w) rfl rfl (by decide) (by simp [go_sem, execOp, rcase, Act.eval])) hc) ?_
  rw [Frame.finish_at]
  walk_nrm
  refine LoneTo.goes (n := 60) ?_
  repeat (first | s_op | s_c stepG_seq | s_reg | s_c stepG_region_end | s_c stepG_block | s_c stepG_skip | s_cond false | s_cond true | s_c stepG_ret')
  s_stop
  exact LoneTo.done ⟨.returned (.tuple #[.int .i64 0, .bool false]), _, rfl, ⟨rfl, rfl⟩, rfl, rfl, rfl, rfl, _, Try.func55, by simp [results, Try.f55, Frame.at]⟩

theorem takeI_nil (w : World) : Calls Try.prog 55 #[.pointer none] w fun e w' => e = .returned (.tuple #[.int .i64 0, .bool false]) ∧ w = w' := by
  go_enter Try.func55, Try.ntmps55
  go_wp2
  go_ret2
  exact ⟨rfl, rfl⟩

theorem lenI_any (g c cap : Nat) (xs : List Int) (w : World) (h : QI w g c cap xs) :
    Calls Try.prog 46 #[.pointer (some ⟨g, 0, none⟩)] w fun e w' => e = .returned (.int .i64 xs.length) ∧ w = w' := by
  have h0 := h.cell
  obtain ⟨s, r, hc⟩ := h.chan
  have hlen := fun ty => run_len_chan (P := Try.prog) 132 ty Try.underlying132 hc
  simp only [goInt, List.size_toArray, List.length_map] at hlen
  clear h hc
  go_enter Try.func46, Try.ntmps46
  go_wp2
  go_ret
  exact ⟨rfl, rfl⟩
theorem lenI_nil (w : World) : Calls Try.prog 46 #[.pointer none] w fun e w' => e = .returned (.int .i64 0) ∧ w = w' := by
  go_enter Try.func46, Try.ntmps46
  go_wp2
  go_ret
  exact ⟨rfl, rfl⟩
theorem roomI_any (g c cap : Nat) (xs : List Int) (w : World) (h : QI w g c cap xs) :
    Calls Try.prog 44 #[.pointer (some ⟨g, 0, none⟩)] w fun e w' => e = .returned (.int .i64 cap) ∧ w = w' := by
  have h0 := h.cell
  obtain ⟨s, r, hc⟩ := h.chan
  have hlen := fun ty => run_cap_chan (P := Try.prog) 132 ty Try.underlying132 hc
  simp only [goInt] at hlen
  clear h hc
  go_enter Try.func44, Try.ntmps44
  go_wp2
  go_ret
  exact ⟨rfl, rfl⟩
theorem roomI_nil (w : World) : Calls Try.prog 44 #[.pointer none] w fun e w' => e = .returned (.int .i64 0) ∧ w = w' := by
  go_enter Try.func44, Try.ntmps44
  go_wp2
  go_ret
  exact ⟨rfl, rfl⟩

theorem mkchanI (n : Int) (h1 : 1 ≤ n) (h2 : n ≤ 256) (w : World) : (Instr.makeChan 132 (.int .i64 n)).run Try.prog w = .ok (.chan (some w.heap.size)) (w.alloc (.chan n.toNat #[] false 0 0 false)) := by
  have h : (Try.prog.info? 3).map (fun i => decide (i.bytes ≤ 16)) = some true := by kernel_rfl
  obtain ⟨i, hi, hb⟩ := Option.map_eq_some_iff.1 h
  have hb' : i.bytes ≤ 16 := by simpa using hb
  have hm : (i.bytes : Int) * ((n.toNat : Nat) : Int) ≤ 281474976710544 := by
    have h3 : i.bytes * n.toNat ≤ 16 * 256 := Nat.mul_le_mul hb' (by omega)
    have h4 : ((i.bytes * n.toNat : Nat) : Int) ≤ 4096 := by omega
    rw [Int.natCast_mul] at h4
    omega
  have hr := run_makeChan (P := Try.prog) (w := w) Try.underlying132 hi .i64 n.toNat (by omega) hm
  rwa [Int.toNat_of_nonneg (by omega)] at hr
theorem newI_yes (n : Int) (w : World) (h1 : 1 ≤ n) (h2 : n ≤ 256) :
    Calls Try.prog 40 #[.int .i64 n] w fun e w' => e = .returned (.tuple #[.pointer (some ⟨w.heap.size + 1, 0, none⟩), .int .i64 0]) ∧ QI w' (w.heap.size + 1) w.heap.size n.toNat [] ∧ Kept [] w w' := by
  have hm := fun W => mkchanI n h1 h2 W
  go_enter Try.func40, Try.ntmps40
  go_wp2
  go_ret2
  refine ⟨rfl, ⟨?_, 0, 0, ?_⟩, ((Kept.refl [] w).alloc _).alloc _⟩
  · have := obj_new (w.alloc (CIO n.toNat [] 0 0)) (QIO w.heap.size)
    simpa [QIO, CIO] using this
  · exact obj_alloc (obj_new w _) _
theorem newI_no (n : Int) (w : World) (h : n < 1 ∨ 256 < n) :
    Calls Try.prog 40 #[.int .i64 n] w fun e w' => e = .returned (.tuple #[.pointer none, .int .i64 5]) ∧ w = w' := by
  rcases h with h | h
  all_goals
    go_enter Try.func40, Try.ntmps40
    go_wp2
    go_ret2
    exact ⟨rfl, rfl⟩
end Go.Proofs.Ytpdabmbjnmpgbaa
