/-
  Pour at int: things go from one queue to another one.
-/
import Derived.Test.YtpdabmbjnmpgbaaQuh
import Derived.Test.YtpdabmbjnmpgbaaCom
import Derived.LaidEqlPtr
namespace Go.Proofs.Ytpdabmbjnmpgbaa
open Go.Conc Go.RowKit
set_option linter.unusedVariables false

theorem eq_ptr (g1 g2 c1 c2 : Nat) (w : World) (hne : g1 ≠ g2) (h1 : w.heap[g1]? = some (QIO c1)) (h2 : w.heap[g2]? = some (QIO c2)) :
    (binOp .eql 61 (.pointer (some ⟨g1, 0, none⟩)) (.pointer (some ⟨g2, 0, none⟩))).run Try.prog w = .ok (.bool false) w := by
  have h : (Try.prog.info? 134).map (fun i => i.size) = some 1 := by kernel_rfl
  obtain ⟨j, hj, hs⟩ := Option.map_eq_some_iff.1 h
  exact run_eql_ptr_other w Try.underlying61 hj (by omega) (by intro e; injection e with e; exact hne e) h1 h2
theorem QI.cross {w : World} {g1 c1 cap1 g2 c2 cap2 : Nat} {xs ys : List Int} (h1 : QI w g1 c1 cap1 xs) (h2 : QI w g2 c2 cap2 ys) : c1 ≠ g2 := by
  intro e
  obtain ⟨s, r, hc⟩ := h1.chan
  have hb := h2.box
  rw [← e, hc] at hb
  simp [QIO, CIO] at hb
theorem sem_pure {P : Program} {ops : Array Oper} {Q : Exit → Act → World → Prop} {a : Act} {w : World} {i : Nat} {rest : List Nat} {o : Oper} {v : Value} (ho : ops[i]? = some o) (hw : Region.wanted o (yielded ops a.tmps) = true)
    (hr : (execOp a.eval o).run P w = .ok (.value v) w) (h : OpsSem P ops Q rest (a.put o.dst v) w) : OpsSem P ops Q (i :: rest) a w := sem_value ho hw hr h
theorem sem_takeI {P : Program} {ops : Array Oper} {Q : Exit → Act → World → Prop} {a : Act} {w : World} {i : Nat} {rest : List Nat} {o : Oper} {g c cap : Nat} {z : Value} {x : Int} {xs : List Int} (ho : ops[i]? = some o) (hw : Region.wanted o (yielded ops a.tmps) = true)
    (hr : (execOp a.eval o).run P w = .ok (.comm #[rcase c z] false .select) w) (hq : QI w g c cap (x :: xs))
    (h : ∀ w5, QI w5 g c cap xs → Kept [c] w w5 → OpsSem P ops Q rest (a.put o.dst (.tuple #[goInt 0, .bool true, .int .i64 x])) w5) : OpsSem P ops Q (i :: rest) a w := by
  obtain ⟨s, r, hc⟩ := hq.chan
  refine sem_select_recv ho hw hr hc (by simp) ?_
  have e : (((x :: xs).map (Value.int .i64)).toArray.extract 1 ((x :: xs).map (Value.int .i64)).toArray.size) = (xs.map (Value.int .i64)).toArray := by simp [List.take_of_length_le]
  rw [e]
  have := h _ (hq.turn xs s (r + 1)) ((Kept.refl [c] w).setChan (.inl (by simp)) _ _ _ _ _ _)
  simpa using this
theorem sem_noneI {P : Program} {ops : Array Oper} {Q : Exit → Act → World → Prop} {a : Act} {w : World} {i : Nat} {rest : List Nat} {o : Oper} {g c cap : Nat} {z : Value} (ho : ops[i]? = some o) (hw : Region.wanted o (yielded ops a.tmps) = true)
    (hr : (execOp a.eval o).run P w = .ok (.comm #[rcase c z] false .select) w) (hq : QI w g c cap [])
    (h : OpsSem P ops Q rest (a.put o.dst (.tuple #[goInt (-1), .bool false, z])) w) : OpsSem P ops Q (i :: rest) a w := by
  obtain ⟨s, r, hc⟩ := hq.chan
  exact sem_select_none ho hw hr hc h
theorem sem_putI {P : Program} {ops : Array Oper} {Q : Exit → Act → World → Prop} {a : Act} {w : World} {i : Nat} {rest : List Nat} {o : Oper} {g c cap : Nat} {z : Value} {x : Int} {xs : List Int} (ho : ops[i]? = some o) (hw : Region.wanted o (yielded ops a.tmps) = true)
    (hr : (execOp a.eval o).run P w = .ok (.comm #[scase c (.int .i64 x) z] true .send) w) (hq : QI w g c cap xs) (hroom : xs.length < cap)
    (h : ∀ w5, QI w5 g c cap (xs ++ [x]) → Kept [c] w w5 → OpsSem P ops Q rest (a.put o.dst undef) w5) : OpsSem P ops Q (i :: rest) a w := by
  obtain ⟨s, r, hc⟩ := hq.chan
  refine sem_send ho hw hr hc (by simpa using hroom) ?_
  have := h _ (hq.turn (xs ++ [x]) (s + 1) r) ((Kept.refl [c] w).setChan (.inl (by simp)) _ _ _ _ _ _)
  simpa using this
/-- What Pour answers. -/
def Poured (w : World) (g1 c1 cap1 g2 c2 cap2 m : Nat) (xs ys : List Int) (e : Ending) (w' : World) : Prop :=
  e = .returned (.int .i64 (m : Int)) ∧ QI w' g1 c1 cap1 (xs.drop m) ∧ QI w' g2 c2 cap2 (ys ++ xs.take m) ∧ Kept [c1, c2] w w'

set_option maxRecDepth 100000 in
set_option maxHeartbeats 2000000 in
theorem pour_any (g1 c1 cap1 g2 c2 cap2 m : Nat) (xs ys : List Int) (w : World) (h1 : QI w g1 c1 cap1 xs) (h2 : QI w g2 c2 cap2 ys) (hg : g1 ≠ g2) (hc : c1 ≠ c2) (hm : m = min xs.length (cap2 - ys.length)) (hc2 : cap2 ≤ 256) (hy : ys.length ≤ cap2) :
    Calls Try.prog 43 #[.pointer (some ⟨g1, 0, none⟩), .pointer (some ⟨g2, 0, none⟩)] w (Poured w g1 c1 cap1 g2 c2 cap2 m xs ys) := by
  have hp := eq_ptr g1 g2 c1 c2 w hg h1.box h2.box
  have H1 := hide h1
  have H2 := hide h2
  have HG := hide hg
  have HC := hide hc
  have HM := hide hm
  have hm256 : m ≤ 256 := by omega
  have HY := hide hy
  clear h1 h2 hg hc hm hy
  go_enter Try.func43, Try.ntmps43
  go_wp2_with fail
  go_step3
  go_wp2_with fail
  go_step3
  go_wp2_with fail
  clear hp
  go_loopw [5] (fun i wr => ∃ k : Nat, k ≤ m ∧ i = .int .i64 k ∧ QI wr g1 c1 cap1 (xs.drop k) ∧ QI wr g2 c2 cap2 (ys ++ xs.take k) ∧ Kept [c1, c2] w wr) (fun i _ => m + 1 - (intOf i).toNat)
  case atStart => exact ⟨0, Nat.zero_le _, rfl, by simpa using unhide H1, by simpa using unhide H2, Kept.refl _ _⟩
  case round =>
    obtain ⟨k, hk, rfl, hq1, hq2, hkw⟩ := hrel
    have Q1 := hide hq1
    have Q2 := hide hq2
    have K1 := hide hkw
    have p1 := hq1.cell
    have p2 := hq2.cell
    obtain ⟨s2, r2, hch2⟩ := hq2.chan
    have hlen := fun n ty => run_len_chan (P := Try.prog) (w := wr.drewN n) 132 ty Try.underlying132 hch2
    have hcap := fun n ty => run_cap_chan (P := Try.prog) (w := wr.drewN n) 132 ty Try.underlying132 hch2
    have el : (ys ++ xs.take k).length = ys.length + k := by have := unhide HM; simp; omega
    simp only [goInt, List.size_toArray, List.length_map, el] at hlen
    simp only [goInt] at hcap
    clear hq1 hq2 hkw hch2 el
    by_cases hroom : ys.length + k < cap2
    · by_cases hx : k < xs.length
      · have hq1 := unhide Q1
        rw [List.drop_eq_getElem_cons hx] at hq1
        have hx1 : xs.take (k + 1) = xs.take k ++ [xs[k]] := List.take_succ_eq_append_getElem hx
        have HX1 := hide hx1
        generalize xs[k] = x at *
        have Q1' := hide hq1
        clear hq1 hx1
        go_wp2_with fail
        go_quiet (fail)
        go_upto_region 6 with (fail)
        refine wp_region_sem ?_
        refine sem_takeI (g := g1) (c := c1) (cap := cap1) (x := x) (xs := xs.drop (k + 1)) (z := .int .i64 0) rfl (by simp [Region.wanted]) (by simp [go_sem, execOp, rcase, Act.eval]) ((unhide Q1').next (S := []) ((Kept.refl [] wr).drewN _) (by simp) (by simp)) ?_
        intro w5 hq5 hk5
        have Q5 := hide hq5
        have K5 := hide ((unhide K1).trans (((Kept.refl [c1] wr).drewN _).trans hk5 (by simp)) (by intro i _ hm; simp at hm ⊢; exact .inl hm))
        have P5 := hide ((unhide Q2).next ((((Kept.refl [c1] wr).drewN _).trans hk5 (by simp))) (by simp; exact fun e => (unhide Q1).cross (unhide Q2) e.symm) (by simp; exact fun e => unhide HC e.symm))
        clear hq5 hk5 hlen hcap p1 p2
        have p2 := (unhide P5).cell
        refine sem_pure (v := .int .i64 0) rfl (by simp [Region.wanted]) (by simp [go_sem, execOp, Act.eval, Act.put, goInt]) ?_
        refine sem_pure (v := .bool true) rfl (by simp [Region.wanted]) (by simp [go_sem, execOp, Act.eval, Act.put, goInt]) ?_
        refine sem_end ?_
        go_upto_region 8 with (fail)
        refine wp_region_sem ?_
        refine sem_pure (v := .pointer (some ⟨g2, 0, none⟩)) rfl (by simp [Region.wanted]) (by simp [go_sem, execOp, Act.eval]) ?_
        refine sem_pure (v := .pointer (some ⟨g2, 0, none⟩)) rfl (by simp [Region.wanted]) (by simp [go_sem, execOp, Act.eval, Act.put]) ?_
        refine sem_pure (v := .pointer (some ⟨g2, 0, none⟩)) rfl (by simp [Region.wanted]) (by simp [go_sem, execOp, Act.eval, Act.put]) ?_
        refine sem_pure (v := .chan (some c2)) rfl (by simp [Region.wanted]) (by simp [go_sem, execOp, Act.eval, Act.put, p2]) ?_
        refine sem_pure (v := .int .i64 x) rfl (by simp [Region.wanted]) (by simp [go_sem, execOp, Act.eval, Act.put]) ?_
        refine sem_putI (g := g2) (c := c2) (cap := cap2) (x := x) (xs := ys ++ xs.take k) (z := .tuple #[]) rfl (by simp [Region.wanted]) (by simp [go_sem, execOp, scase, Act.eval]) (unhide P5) (by have := unhide HM; simp; omega) ?_
        intro w6 hq6 hk6
        refine sem_end ?_
        go_wp2
        refine ⟨⟨k + 1, by have := unhide HM; omega, by go_num, (unhide Q5).next hk6 (by simp; exact fun e => (unhide P5).cross (unhide Q5) e.symm) (by simp; exact unhide HC), ?_, (unhide K5).trans hk6 (by intro i _ hm; simp at hm ⊢; exact .inr hm)⟩, by simp [intOf]; omega⟩
        rw [unhide HX1, ← List.append_assoc]
        exact hq6
      · have hkm : k = m := by have := unhide HM; omega
        subst hkm
        have hq1 := unhide Q1
        rw [List.drop_of_length_le (by omega)] at hq1
        have QE := hide hq1
        clear hq1
        go_wp2_with fail
        go_quiet (fail)
        go_upto_region 6 with (fail)
        refine wp_region_sem ?_
        refine sem_noneI (g := g1) (c := c1) (cap := cap1) (z := .int .i64 0) rfl (by simp [Region.wanted]) (by simp [go_sem, execOp, rcase, Act.eval]) ((unhide QE).next (S := []) ((Kept.refl [] wr).drewN _) (by simp) (by simp)) ?_
        refine sem_pure (v := .int .i64 (-1)) rfl (by simp [Region.wanted]) (by simp [go_sem, execOp, Act.eval, Act.put, goInt]) ?_
        refine sem_pure (v := .bool false) rfl (by simp [Region.wanted]) (by simp [go_sem, execOp, Act.eval, Act.put, goInt]) ?_
        refine sem_end ?_
        go_wp2
        try rw [Exit.noGoto_ret]
        go_ret
        exact ⟨rfl, (unhide Q1).next (S := []) ((Kept.refl [] wr).drewN _) (by simp) (by simp), (unhide Q2).next (S := []) ((Kept.refl [] wr).drewN _) (by simp) (by simp), (unhide K1).drewN _⟩
    · have hkm : k = m := by have h1 := unhide HM; have h2 := unhide HY; omega
      subst hkm
      go_wp2_with fail
      go_quiet (fail)
      go_wp2
      try rw [Exit.noGoto_ret]
      go_ret
      exact ⟨rfl, (unhide Q1).next (S := []) ((Kept.refl [] wr).drewN _) (by simp) (by simp), (unhide Q2).next (S := []) ((Kept.refl [] wr).drewN _) (by simp) (by simp), (unhide K1).drewN _⟩

theorem pour_self (g c cap : Nat) (xs : List Int) (w : World) (h : QI w g c cap xs) : Calls Try.prog 43 #[.pointer (some ⟨g, 0, none⟩), .pointer (some ⟨g, 0, none⟩)] w fun e w' => e = .returned (.int .i64 0) ∧ w = w' := by
  have hp : (binOp .eql 61 (.pointer (some ⟨g, 0, none⟩)) (.pointer (some ⟨g, 0, none⟩))).run Try.prog w = .ok (.bool true) w := by
    have h9 : (Try.prog.info? 134).map (fun i => i.size) = some 1 := by kernel_rfl
    obtain ⟨j, hj, _⟩ := Option.map_eq_some_iff.1 h9
    exact run_eql_ptr_same w _ Try.underlying61 hj
  clear h
  go_enter Try.func43, Try.ntmps43
  go_wp2_with fail
  go_step3
  go_wp2
  try rw [Exit.noGoto_ret]
  go_ret
  exact ⟨rfl, rfl⟩
end Go.Proofs.Ytpdabmbjnmpgbaa
