/-
  A communication among the operations of a region, for the walk by parts: what the machine of one does at a select or a send of one case, said as the walk's own condition.
-/
import Derived.Test.YtpdabmbjnmpgbaaKw
import Derived.Conc.LoneCalls
import Derived.Conc.LoneSelect
import Derived.Conc.LoneSelectN
import Derived.Deep.Cut
namespace Go.Proofs.Ytpdabmbjnmpgbaa
open Go.Conc Go.RowKit
set_option linter.unusedVariables false

/-- The region's operations of the list l, from here on: they come to an end of which Q holds. -/
def OpsSem (P : Program) (ops : Array Oper) (Q : Exit → Act → World → Prop) (l : List Nat) (a : Act) (w : World) : Prop :=
  ∀ (b : Frame) (k : List Item) (cs : List Frame), ∃ e a' w', Q e a' w' ∧ Arrives P (lone (b.at a (.inRegion ops l :: k)) cs w) b k cs e a' w'
section
variable {P : Program} {ops : Array Oper} {Q : Exit → Act → World → Prop} {a : Act} {w w' : World} {i : Nat} {rest : List Nat} {o : Oper} {v : Value}
theorem wp_region_sem {id : Nat} (h : OpsSem P ops Q (List.range ops.size) a w) : (Code.region id ops false).wp P Q a w :=
  fun b k cs => let ⟨e, a', w', q, r⟩ := h b k cs; ⟨e, a', w', q, .of_steps (.one step_region) r⟩
theorem sem_end (h : Q .normal a w) : OpsSem P ops Q [] a w := fun b k cs => ⟨.normal, a, w, h, .one step_region_end⟩
theorem sem_value (ho : ops[i]? = some o) (hw : Region.wanted o (yielded ops a.tmps) = true) (hr : (execOp a.eval o).run P w = .ok (.value v) w') (h : OpsSem P ops Q rest (a.put o.dst v) w') : OpsSem P ops Q (i :: rest) a w := fun b k cs => by
  obtain ⟨e, a', w'', hq, harr⟩ := h b k cs
  have hg := stepG_op (P := P) (b := b) (k := k) (cs := cs) (w := w) (rest := rest) ho hw
  have hfin : ∀ v, (b.at a (.inRegion ops (i :: rest) :: k)).finish v = b.at (a.put o.dst v) (.inRegion ops rest :: k) := by intro v; rw [Frame.finish_at, ho]; rfl
  refine ⟨e, a', w'', hq, .of_steps (.one (step_lone_go ?_)) harr⟩
  rw [hg, ← hfin]
  simp [stepG.apply, hr]
/-- A step of the machine's that ends the operation. -/
theorem sem_step (ho : ops[i]? = some o) (hs : ∀ (b : Frame) (k : List Item) (cs : List Frame), step P (solo (G (b.at a (.inRegion ops (i :: rest) :: k)) cs) w) = .next (solo (G ((b.at a (.inRegion ops (i :: rest) :: k)).finish v) cs) w'))
    (h : OpsSem P ops Q rest (a.put o.dst v) w') : OpsSem P ops Q (i :: rest) a w := fun b k cs => by
  obtain ⟨e, a', w'', hq, harr⟩ := h b k cs
  have hfin : (b.at a (.inRegion ops (i :: rest) :: k)).finish v = b.at (a.put o.dst v) (.inRegion ops rest :: k) := by rw [Frame.finish_at, ho]; rfl
  have h1 := hs b k cs
  rw [hfin] at h1
  exact ⟨e, a', w'', hq, .of_steps (.one h1) harr⟩
theorem comm_any {cases : Array CommCase} {blocking : Bool} {shape : CommShape} (ho : ops[i]? = some o) (hw : Region.wanted o (yielded ops a.tmps) = true) (hr : (execOp a.eval o).run P w = .ok (.comm cases blocking shape) w') (b : Frame) (k : List Item) (cs : List Frame) :
    ∃ es, stepG P true (G (b.at a (.inRegion ops (i :: rest) :: k)) cs) w = .comm (G (b.at a (.inRegion ops (i :: rest) :: k)) cs) cases blocking shape w' es := by
  rw [stepG_oper ho hw]
  simp [stepG.apply, hr, G, Frame.at, GStep.after]
/-- A select of one receive with a default, the buffer holding something. -/
theorem sem_select_recv {c cap s r : Nat} {buf : Array Value} {z : Value} (ho : ops[i]? = some o) (hw : Region.wanted o (yielded ops a.tmps) = true) (hr : (execOp a.eval o).run P w = .ok (.comm #[rcase c z] false .select) w)
    (hc : w.heap[c]? = some (.chan cap buf false s r false)) (hsome : 0 < buf.size)
    (h : OpsSem P ops Q rest (a.put o.dst (.tuple #[goInt 0, .bool true, buf.getD 0 undef])) (w.setChan c cap (buf.extract 1 buf.size) false s (r + 1) false)) : OpsSem P ops Q (i :: rest) a w :=
  sem_step ho (fun b k cs => by
    obtain ⟨es, hes⟩ := comm_any (rest := rest) ho hw hr b k cs
    exact step_lone_select_recv_buf hes hc hsome) h
/-- .. nothing being there: the default. -/
theorem sem_select_none {c cap s r : Nat} {z : Value} (ho : ops[i]? = some o) (hw : Region.wanted o (yielded ops a.tmps) = true) (hr : (execOp a.eval o).run P w = .ok (.comm #[rcase c z] false .select) w)
    (hc : w.heap[c]? = some (.chan cap #[] false s r false))
    (h : OpsSem P ops Q rest (a.put o.dst (.tuple #[goInt (-1), .bool false, z])) w) : OpsSem P ops Q (i :: rest) a w :=
  sem_step ho (fun b k cs => by
    obtain ⟨es, hes⟩ := comm_any (rest := rest) ho hw hr b k cs
    exact step_lone_select_default hes hc) h
/-- A send, the buffer having room. -/
theorem sem_send {c cap s r : Nat} {buf : Array Value} {u z : Value} (ho : ops[i]? = some o) (hw : Region.wanted o (yielded ops a.tmps) = true) (hr : (execOp a.eval o).run P w = .ok (.comm #[scase c u z] true .send) w)
    (hc : w.heap[c]? = some (.chan cap buf false s r false)) (hroom : buf.size < cap)
    (h : OpsSem P ops Q rest (a.put o.dst undef) (w.setChan c cap (buf.push u) false (s + 1) r false)) : OpsSem P ops Q (i :: rest) a w :=
  sem_step ho (fun b k cs => by
    obtain ⟨es, hes⟩ := comm_any (rest := rest) ho hw hr b k cs
    exact step_lone_send_room hes hc hroom) h
end
end Go.Proofs.Ytpdabmbjnmpgbaa
