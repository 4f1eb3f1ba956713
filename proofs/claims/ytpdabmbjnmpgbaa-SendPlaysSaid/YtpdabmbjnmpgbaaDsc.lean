/-
  The document's sender: Echoed, Due, Waiting.
-/
import Derived.Test.YtpdabmbjnmpgbaaDsb
namespace Go.Proofs.Ytpdabmbjnmpgbaa
open Go.Conc Go.RowKit
set_option linter.unusedVariables false
set_option maxRecDepth 100000 in
set_option maxHeartbeats 1000000 in
theorem rechoed_no (A : Option Addr) (n cp se ac : Nat) (la : Int) (be ask : Bool) (N : Int) (w : World) (hse : se ≤ 1000) (hac : ac ≤ 1000) (hn : (se : Int) < N ∨ N < (ac : Int)) :
    Calls Try.prog 87 #[dsV A n cp se ac la be ask, .int .u64 N] w (RSame w A n cp se ac la be ask 16) := by
  have w1 : IntKind.u64.wrap (se : Int) = (se : Int) := by have e := IntKind.wrap_u64 (se : Int); omega
  have w2 : IntKind.u64.wrap (ac : Int) = (ac : Int) := by have e := IntKind.wrap_u64 (ac : Int); omega
  by_cases h1 : (se : Int) < N
  · clear hn
    unfold dsV
    go_enter Try.func87, Try.ntmps87
    go_wp2
    refine bodyPost_ret (v := .tuple #[dsV A n cp se ac la be ask, .int .i64 16]) (by simp [results, Try.results87, go_sem, dsV]) rfl ?_
    exact ⟨rfl, ((Kept.refl [] w).alloc _).alloc _⟩
  · have h2 : N < (ac : Int) := by omega
    clear hn
    unfold dsV
    go_enter Try.func87, Try.ntmps87
    go_wp2
    refine bodyPost_ret (v := .tuple #[dsV A n cp se ac la be ask, .int .i64 16]) (by simp [results, Try.results87, go_sem, dsV]) rfl ?_
    exact ⟨rfl, ((Kept.refl [] w).alloc _).alloc _⟩
set_option maxRecDepth 100000 in
set_option maxHeartbeats 1000000 in
theorem rechoed_yes (A : Option Addr) (n cp se ac N : Nat) (la : Int) (be ask : Bool) (w : World) (hse : se ≤ 1000) (h1 : ac ≤ N) (h2 : N ≤ se) :
    Calls Try.prog 87 #[dsV A n cp se ac la be ask, .int .u64 (N : Int)] w (RSame w A n cp se N la be ask 0) := by
  have w1 : IntKind.u64.wrap (se : Int) = (se : Int) := by have e := IntKind.wrap_u64 (se : Int); omega
  have w2 : IntKind.u64.wrap (ac : Int) = (ac : Int) := by have e := IntKind.wrap_u64 (ac : Int); omega
  have w3 : IntKind.i64.wrap (N : Int) = (N : Int) := by have e := IntKind.wrap_i64 (N : Int); omega
  have g1 : ¬ se < N := by omega
  have g2 : ¬ N < ac := by omega
  unfold dsV
  go_enter Try.func87, Try.ntmps87
  go_wp2
  refine bodyPost_ret (v := .tuple #[dsV A n cp se N la be ask, .int .i64 0]) (by simp [results, Try.results87, go_sem, dsV]) rfl ?_
  exact ⟨rfl, ((Kept.refl [] w).alloc _).alloc _⟩

set_option maxRecDepth 100000 in
set_option maxHeartbeats 1000000 in
theorem rdue_any (A : Option Addr) (n cp se ac : Nat) (la : Int) (be ask : Bool) (now wait : Int) (w : World) (hn : n ≤ 1000) (hse : se ≤ n) (hac : ac ≤ n) (hla : 0 ≤ la ∧ la < 18446744073709551616) (hno : 0 ≤ now ∧ now < 18446744073709551616) :
    Calls Try.prog 88 #[dsV A n cp se ac la be ask, .int .u64 now, .int .u64 wait] w fun e w' => e = .returned (.bool (dueB (n - ac) n se la be ask now wait)) ∧ Kept [] w w' := by
  obtain ⟨b, hb⟩ : ∃ b, b = dueB (n - ac) n se la be ask now wait := ⟨_, rfl⟩
  rw [← hb]
  have HB := hide hb
  clear hb
  have hn9 : n ≤ 9223372036854775807 := by omega
  have hw : la ≤ now → IntKind.u64.wrap (now - la) = now - la := by intro h; have e := IntKind.wrap_u64 (now - la); omega
  have HW := hide hw
  have HSE := hide hse
  clear hw hla hno hse
  unfold dsV
  have K := fun o => (Kept.refl [] w).alloc o
  by_cases h1 : se < n
  · obtain rfl : b = true := (unhide HB).trans (by simp [dueB, h1])
    go_enter Try.func88, Try.ntmps88
    go_wp2
    go_ret
    exact ⟨rfl, K _⟩
  · cases ask
    · by_cases h2 : ac < n
      · cases be
        · obtain rfl : b = true := (unhide HB).trans (by simp [dueB, lateB]; omega)
          go_enter Try.func88, Try.ntmps88
          go_wp2
          go_ret
          exact ⟨by simp, K _⟩
        · by_cases h3 : la ≤ now
          · have h4 := unhide HW h3
            by_cases h5 : wait ≤ now - la
            · obtain rfl : b = true := (unhide HB).trans (by simp [dueB, lateB, h3, h5]; omega)
              go_enter Try.func88, Try.ntmps88
              go_wp2
              go_ret
              exact ⟨by simp, K _⟩
            · obtain rfl : b = false := (unhide HB).trans (by simp [dueB, lateB, h3, h5]; omega)
              go_enter Try.func88, Try.ntmps88
              go_wp2
              go_ret
              exact ⟨by simp, K _⟩
          · obtain rfl : b = false := (unhide HB).trans (by simp [dueB, lateB, h3]; omega)
            have h3f : decide (la ≤ now) = false := by simpa using h3
            go_enter Try.func88, Try.ntmps88
            go_wp2
            go_ret
            exact ⟨by simp, K _⟩
      · obtain rfl : b = false := (unhide HB).trans (by simp [dueB]; omega)
        go_enter Try.func88, Try.ntmps88
        go_wp2
        go_ret
        exact ⟨by simp, K _⟩
    · obtain rfl : b = true := (unhide HB).trans (by simp [dueB])
      go_enter Try.func88, Try.ntmps88
      go_wp2
      go_ret
      exact ⟨by simp, K _⟩
/-- What stands behind the first ac of a list, as a slice. -/
theorem DocS.drop {w : World} {b off n cp ac : Nat} {xs : List ByteArray} (h : DocS w (some ⟨b, off, none⟩) n cp xs) (hac : ac ≤ n) : DocS w (some ⟨b, off + ac, none⟩) (n - ac) (cp - ac) (xs.drop ac) := by
  obtain ⟨h1, h2, h3⟩ := h
  rcases h3 with ⟨hA, _⟩ | ⟨b2, off2, hA, hb, hc⟩
  · cases hA
  · injection hA with hA
    injection hA with e1 e2
    subst e1 e2
    refine ⟨by simp; omega, by omega, .inr ⟨_, _, rfl, hb, fun j hj => ?_⟩⟩
    have := hc (ac + j) (by omega)
    rw [show off + ac + j = off + (ac + j) by omega, this]
    rw [List.getD_eq_getElem?_getD, List.getD_eq_getElem?_getD, List.getElem?_drop]
theorem DocS.empty {w : World} {b off c : Nat} (h : b < w.heap.size) : DocS w (some ⟨b, off, none⟩) 0 c [] := ⟨rfl, Nat.zero_le _, .inr ⟨b, off, rfl, h, fun j hj => by omega⟩⟩
/-- Below a base that lies among the blocks of a world's own: nothing older has turned. -/
theorem kept_below {w w' w2 : World} {B : Nat} (k : Kept [] w w') (b : Below B w' w2) (hB : w.heap.size ≤ B) : Kept [] w w2 :=
  ⟨b.os.trans k.os, b.tape.trans k.tape, b.output.trans k.output, Nat.le_trans k.size b.size, fun i hi hn => (b.block i (by omega)).trans (k.block i hi hn)⟩
def RWait (w : World) (xs : List ByteArray) (e : Ending) (w' : World) : Prop :=
  ∃ A cp, e = .returned (.slice A xs.length cp) ∧ DocS w' A xs.length cp xs ∧ Kept [] w w' ∧ ∀ a, A = some a → w.heap.size ≤ a.block
set_option maxRecDepth 100000 in
set_option maxHeartbeats 1000000 in
theorem rwaiting (A : Option Addr) (n cp se ac : Nat) (la : Int) (be ask : Bool) (xs : List ByteArray) (w : World) (h : DocS w A n cp xs) (hn : n ≤ 1000) (hac : ac ≤ n) :
    Calls Try.prog 92 #[dsV A n cp se ac la be ask] w (RWait w (xs.drop ac)) := by
  have H := hide h
  have hcp := h.2.1
  have hl : (xs.drop ac).length = n - ac := by have := h.1; simp; omega
  have HL := hide hl
  have hn9 : n ≤ 9223372036854775807 := by omega
  clear h hl
  unfold dsV
  rcases (unhide H).2.2 with ⟨rfl, rfl⟩ | ⟨b, off, rfl, hb, _⟩
  · have hn0 : n = 0 := by omega
    have hac0 : ac = 0 := by omega
    subst hn0 hac0
    have hx : xs = [] := List.length_eq_zero_iff.1 (unhide H).1
    subst hx
    go_enter Try.func92, Try.ntmps92
    go_wp2_with fail
    go_ret
    exact ⟨_, _, rfl, DocS.empty (by simp), ((Kept.refl [] w).alloc _).alloc _, by rintro a ⟨⟩; simp⟩
  · by_cases hc : ac = cp
    · have hacn : ac = n := by omega
      have hx : xs.drop ac = [] := List.length_eq_zero_iff.1 (by have := unhide HL; omega)
      rw [hx]
      subst hc
      subst hacn
      clear hx
      go_enter Try.func92, Try.ntmps92
      go_wp2_with fail
      go_ret
      exact ⟨_, _, rfl, DocS.empty (by simp), ((Kept.refl [] w).alloc _).alloc _, by rintro a ⟨⟩; simp⟩
    · have hlt : ac < cp := by omega
      obtain ⟨ds, hds⟩ : ∃ ds, ds = xs.drop ac := ⟨_, rfl⟩
      have hdl : ds.length = n - ac := by rw [hds]; exact unhide HL
      have HD := hide (show DocS w (some ⟨b, off + ac, none⟩) (n - ac) (cp - ac) ds by rw [hds]; exact (unhide H).drop hac)
      rw [← hds]
      have HDL := hide hdl
      clear hds hdl
      by_cases h0 : ac = 0
      · subst h0
        have HD2 : Hid (DocS w (some ⟨b, off, none⟩) n cp ds) := hide (by have := unhide HD; simpa using this)
        go_enter Try.func92, Try.ntmps92
        go_wp2_with (at_builtin; refine wpList_append_docS rfl _ _ rfl (w.heap.size + 1) 0 _ [] rfl (own_lit9 _ _ _ (by simp) (by simp)) (some ⟨b, off, none⟩) n cp ds rfl ((unhide HD2).kept (((Kept.refl [] w).alloc _).alloc _) (by simp)) (by omega) (by simp) ?_)
        intro A1 c1 w1 o1 b1
        have hlen : n = ds.length := by have := unhide HDL; omega
        have HLEN := hide hlen
        rw [hlen] at o1
        obtain ⟨A3, cp3, hv, hd⟩ := docS_own (xs := ds) (by simpa using o1)
        injection hv with hv1 hv2 hv3
        subst hv1 hv3
        clear hv2
        have hA1 : ∀ a, A1 = some a → w.heap.size ≤ a.block := by rintro a rfl; have := (o1.lt _ rfl).1; omega
        have hk : Kept [] w w1 := kept_below (((Kept.refl [] w).alloc _).alloc _) b1 (by omega)
        have HF := hide (And.intro hd (And.intro hk hA1))
        clear o1 b1 hd hk hA1 hlen
        go_wp2
        go_ret
        exact ⟨A1, c1, by (simp; exact unhide HLEN), (unhide HF).1, (unhide HF).2.1, (unhide HF).2.2⟩
      · go_enter Try.func92, Try.ntmps92
        go_wp2_with (at_builtin; refine wpList_append_docS rfl _ _ rfl (w.heap.size + 1) 0 _ [] rfl (own_lit9 _ _ _ (by simp) (by simp)) (some ⟨b, off + ac, none⟩) (n - ac) (cp - ac) ds rfl ((unhide HD).kept (((Kept.refl [] w).alloc _).alloc _) (by simp)) (by omega) (by simp) ?_)
        intro A1 c1 w1 o1 b1
        have hlen : n - ac = ds.length := by have := unhide HDL; omega
        have HLEN := hide hlen
        rw [hlen] at o1
        obtain ⟨A3, cp3, hv, hd⟩ := docS_own (xs := ds) (by simpa using o1)
        injection hv with hv1 hv2 hv3
        subst hv1 hv3
        clear hv2
        have hA1 : ∀ a, A1 = some a → w.heap.size ≤ a.block := by rintro a rfl; have := (o1.lt _ rfl).1; omega
        have hk : Kept [] w w1 := kept_below (((Kept.refl [] w).alloc _).alloc _) b1 (by omega)
        have HF := hide (And.intro hd (And.intro hk hA1))
        clear o1 b1 hd hk hA1 hlen
        go_wp2
        go_ret
        exact ⟨A1, c1, by (simp; exact unhide HLEN), (unhide HF).1, (unhide HF).2.1, (unhide HF).2.2⟩
end Go.Proofs.Ytpdabmbjnmpgbaa
