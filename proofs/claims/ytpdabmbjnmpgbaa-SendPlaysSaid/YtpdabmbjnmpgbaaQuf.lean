/-
  All, Drop and Copy of package queue at Int.
-/
import Derived.Test.YtpdabmbjnmpgbaaQue
import Derived.LoopTactic
import Derived.OwnWalk
namespace Go.Proofs.Ytpdabmbjnmpgbaa
open Go.RowKit
set_option linter.unusedVariables false

theorem QI.notin {w w' : World} {g c cap : Nat} {xs : List Int} (h : QI w g c cap xs) {row : Option Nat} (k : w.grownBy w' row) (hg : row ≠ some g) (hc : row ≠ some c) : QI w' g c cap xs := by
  obtain ⟨s, r, hc'⟩ := h.chan
  exact ⟨(k.block g h.lt.1 (fun e => hg e.symm)).trans h.box, s, r, (k.block c h.lt.2 (fun e => hc e.symm)).trans hc'⟩
theorem rotI (xs : List Int) (k : Nat) (h : k < xs.length) : xs.drop k ++ xs.take k = xs.getD k (0) :: (xs.drop (k + 1) ++ xs.take k) := by
  rw [List.drop_eq_getElem_cons h, List.getD_eq_getElem?_getD, List.getElem?_eq_getElem h]; rfl
theorem rotI' (xs : List Int) (k : Nat) (h : k < xs.length) : (xs.drop (k + 1) ++ xs.take k) ++ [xs.getD k (0)] = xs.drop (k + 1) ++ xs.take (k + 1) := by
  rw [List.take_succ_eq_append_getElem h, List.getD_eq_getElem?_getD, List.getElem?_eq_getElem h]; simp
theorem infoI : (Try.prog.info? 3).map (fun i => (i.zero, i.size, i.bytes)) = some (some (.int .i64 0), 1, 8) := by kernel_rfl

set_option maxRecDepth 100000 in
set_option maxHeartbeats 1000000 in
theorem allI_any (g c cap : Nat) (xs : List Int) (w : World) (h : QI w g c cap xs) (hn : xs.length ≤ cap) (hcap : cap ≤ 256) :
    Calls Try.prog 42 #[.pointer (some ⟨g, 0, none⟩)] w fun e w' => ∃ v, e = .returned v ∧ w'.ownsRow w.heap.size 3 1 v xs.length (xs.map (Value.int .i64)) ∧ QI w' g c cap xs ∧ Kept [c] w w' := by
  obtain ⟨i0, hi0, hz0, hz1, hz2⟩ := info_parts infoI
  have hlt := h.lt
  have H := hide h
  have h256 : xs.length ≤ 256 := by omega
  have HN := hide hn
  obtain ⟨n, hnn⟩ : ∃ n, n = xs.length := ⟨_, rfl⟩
  have HL := hide (lenI_any g c cap xs w h)
  have HNN := hide hnn
  have hn256 : n ≤ 256 := by omega
  rw [← hnn] at HL
  clear h hn hnn h256
  go_enter Try.func42, Try.ntmps42
  go_wp2_with (go_at_call 46; refine (unhide HL).mono ?_; rintro e w' ⟨rfl, rfl⟩)
  go_loopw [3, 8] (fun v i wr => ∃ k : Nat, k ≤ n ∧ i = .int .i64 k ∧ QI wr g c cap (xs.drop k ++ xs.take k) ∧ wr.ownsRow w.heap.size 3 1 v k ((xs.take k).map (Value.int .i64)) ∧ Kept [c] w wr) (fun _ i _ => n - (intOf i).toNat)
  case atStart => exact ⟨0, Nat.zero_le _, rfl, by simpa using unhide H, by simpa using World.ownsRow_nil w w.heap.size 3 1, Kept.refl _ _⟩
  case round =>
    obtain ⟨k, hk, rfl, hq, hown, hkw⟩ := hrel
    by_cases hlt2 : k < n
    · have hkx : k < xs.length := by have := unhide HNN; omega
      have HKX := hide hkx
      rw [rotI xs k hkx] at hq
      have HR := hide (rotI' xs k hkx)
      have HT : Hid (xs.take (k + 1) = xs.take k ++ [xs.getD k (0)]) := hide (by rw [List.take_succ_eq_append_getElem hkx, List.getD_eq_getElem?_getD, List.getElem?_eq_getElem hkx]; rfl)
      have hl1 : (xs.drop (k + 1) ++ xs.take k).length < cap := by have := unhide HN; simp; omega
      generalize xs.getD k (0) = x at *
      have Q0 := hide hq
      have O0 := hide hown
      have K0 := hide hkw
      have L1 := hide hl1
      clear hq hown hkw hkx hl1
      go_wp2_with fail
      refine (takeI_yes _ _ _ _ _ _ (unhide Q0)).mono ?_
      rintro e w1 ⟨rfl, hq1, hk1⟩
      have Q1 := hide hq1
      have K1 := hide ((unhide K0).trans hk1 (by simp))
      have O1 := hide (hk1.own (unhide O0) (by intro b hb; have := (unhide O0).lt b hb; simp; omega))
      clear hq1 hk1
      go_wp2_with fail
      refine (putI_yes _ _ _ _ _ _ (unhide Q1) (unhide L1)).mono ?_
      rintro e w2 ⟨rfl, hq2, hk2⟩
      rw [unhide HR] at hq2
      have Q2 := hide hq2
      have K2 := hide ((unhide K1).trans hk2 (by simp))
      have O2 := hide (hk2.own (unhide O1) (by intro b hb; have := (unhide O1).lt b hb; simp; omega))
      clear hq2 hk2
      go_wp2_with (at_builtin; refine wpList_append_own _ rfl _ _ 22 rfl w.heap.size 3 i0 (.int .i64 0) 1 8 Try.underlying22 hi0 hz0 hz1 hz2 rfl (by decide) _ _ _ rfl ((unhide O2).alloc _) ⟨w2.heap.size, 0, none⟩ 1 1 [.int .i64 x] rfl rfl ?c1 ?c2 ?c3 ?c4 ?c5 ?_)
      case c1 => exact cell_one_new _ _ _
      case c2 => simp [Value.oneCell']
      case c3 => unfold maxLen; omega
      case c4 => omega
      case c5 => have := (unhide K2).size; simp; omega
      intro v' w3 hown3 hgrow _
      go_wp2
      go_roundw
      case rel =>
        refine ⟨k + 1, by omega, by go_num, ?_, ?_, ?_⟩
        · refine ((unhide Q2).next ((Kept.refl [] w2).alloc _) (by simp) (by simp)).notin hgrow ?_ ?_
          · intro e; have := (unhide O2).lt _ e; omega
          · intro e; have := (unhide O2).lt _ e; omega
        · rw [unhide HT, List.map_append, List.map_take]; exact hown3
        · exact ((unhide K2).alloc _).grown hgrow (fun b hb => .inr ((unhide O2).lt b hb).1)
      case measure => simp [intOf]; omega
    · have hkn : xs.length ≤ k := by have := unhide HNN; omega
      have e1 : xs.drop k ++ xs.take k = xs := by rw [List.drop_of_length_le hkn, List.take_of_length_le hkn]; rfl
      have e2 : xs.take k = xs := List.take_of_length_le hkn
      have e3 : k = xs.length := by have := unhide HNN; omega
      rw [e1] at hq
      rw [e2, e3] at hown
      have Q0 := hide hq
      have O0 := hide hown
      have K0 := hide hkw
      clear hq hown hkw e1 e2 e3 hkn
      go_wp2
      go_ret
      exact ⟨_, rfl, unhide O0, unhide Q0, unhide K0⟩

theorem allI_nil (w : World) : Calls Try.prog 42 #[.pointer none] w fun e w' => e = .returned (.slice none 0 0) ∧ w = w' := by
  go_enter Try.func42, Try.ntmps42
  go_wp2_with (go_at_call 46; refine (lenI_nil w).mono ?_; rintro e w' ⟨rfl, rfl⟩)
  refine wp_loop_rounds 1 ?_
  rw [rounds_succ]
  go_wp2
  go_ret
  exact ⟨rfl, rfl⟩

set_option maxRecDepth 100000 in
set_option maxHeartbeats 1000000 in
theorem dropI_any (g c cap : Nat) (xs : List Int) (m : Int) (w : World) (h : QI w g c cap xs) (hn : xs.length ≤ cap) (hcap : cap ≤ 256) :
    Calls Try.prog 57 #[.pointer (some ⟨g, 0, none⟩), .int .i64 m] w fun e w' => e = .returned (.int .i64 ((min m.toNat xs.length : Nat) : Int)) ∧ QI w' g c cap (xs.drop (min m.toNat xs.length)) ∧ Kept [c] w w' := by
  have H := hide h
  have h256 : xs.length ≤ 256 := by omega
  have HL := hide (lenI_any g c cap xs w h)
  obtain ⟨M, hM⟩ : ∃ M, min m.toNat xs.length = M := ⟨_, rfl⟩
  have hcase : m ≤ 0 ∧ M = 0 ∨ 0 < m ∧ m ≤ xs.length ∧ m = M ∨ (xs.length : Int) < m ∧ 0 < xs.length ∧ M = xs.length ∨ 0 < m ∧ xs = [] ∧ M = 0 := by
    by_cases hx : xs = []
    · subst hx; simp at hM; simp; omega
    · have := List.length_pos_iff.2 hx; simp [hx]; omega
  have HM := hide hM
  rw [hM]
  have hMl : M ≤ 256 := by omega
  have HML : Hid (M ≤ xs.length) := hide (by omega)
  have HC := hide hcase
  clear h hn hM hcase
  go_enter Try.func57, Try.ntmps57
  go_wp2_with fail
  go_step3
  go_wp2_with fail
  go_step3
  go_wp2_with fail
  refine (unhide HL).mono ?_
  rintro e w' ⟨rfl, rfl⟩
  rcases unhide HC with ⟨c1, c2⟩ | ⟨c1, c2, c3⟩ | ⟨c1, c0, c2⟩ | ⟨c1, c0, c2⟩
  · have C2 := hide c2
    clear c2
    go_wp2_with fail
    go_loopw [5, 13] (fun gone i wr => ∃ k : Nat, k ≤ M ∧ gone = .int .i64 k ∧ i = .int .i64 k ∧ QI wr g c cap (xs.drop k) ∧ Kept [c] w wr) (fun _ i _ => M - (intOf i).toNat)
    case atStart => exact ⟨0, Nat.zero_le _, rfl, rfl, by simpa using unhide H, Kept.refl _ _⟩
    case round =>
      obtain ⟨k, hk, rfl, rfl, hq, hkw⟩ := hrel
      by_cases hlt2 : k < M
      · have hkx : k < xs.length := by have := unhide HML; omega
        rw [List.drop_eq_getElem_cons hkx] at hq
        have Q0 := hide hq
        have K0 := hide hkw
        exfalso
        have := unhide C2
        omega
      · have hkM : k = M := by omega
        have Q0 := hide hq
        have K0 := hide hkw
        have hge : ¬ (k : Int) < 0 := by omega
        clear hq hkw
        go_wp2
        try rw [Exit.noGoto_ret]
        go_ret
        rw [hkM] at Q0
        refine ⟨?_, unhide Q0, unhide K0⟩
        first | rfl | exact ret_int (by omega)
  · have C3 := hide c3
    clear c3
    go_wp2_with fail
    go_loopw [5, 13] (fun gone i wr => ∃ k : Nat, k ≤ M ∧ gone = .int .i64 k ∧ i = .int .i64 k ∧ QI wr g c cap (xs.drop k) ∧ Kept [c] w wr) (fun _ i _ => M - (intOf i).toNat)
    case atStart => exact ⟨0, Nat.zero_le _, rfl, rfl, by simpa using unhide H, Kept.refl _ _⟩
    case round =>
      obtain ⟨k, hk, rfl, rfl, hq, hkw⟩ := hrel
      by_cases hlt2 : k < M
      · have hkx : k < xs.length := by have := unhide HML; omega
        rw [List.drop_eq_getElem_cons hkx] at hq
        have Q0 := hide hq
        have K0 := hide hkw
        have hlt3 : (k : Int) < m := by have := unhide C3; omega
        clear hq hkw
        go_wp2_with fail
        refine (takeI_yes _ _ _ _ _ _ (unhide Q0)).mono ?_
        rintro e w1 ⟨rfl, hq1, hk1⟩
        have Q1 := hide hq1
        have K1 := hide ((unhide K0).trans hk1 (by simp))
        clear hq1 hk1
        go_wp2
        go_roundw
        case rel => exact ⟨k + 1, by omega, by go_num, by go_num, unhide Q1, unhide K1⟩
        case measure => simp [intOf]; omega
      · have hkM : k = M := by omega
        have Q0 := hide hq
        have K0 := hide hkw
        have hge : ¬ (k : Int) < m := by have := unhide C3; omega
        clear hq hkw
        go_wp2
        try rw [Exit.noGoto_ret]
        go_ret
        rw [hkM] at Q0
        refine ⟨?_, unhide Q0, unhide K0⟩
        first | rfl | exact ret_int (by omega)
  · have C3 := hide c2
    clear c2
    go_wp2_with fail
    go_loopw [5, 13] (fun gone i wr => ∃ k : Nat, k ≤ M ∧ gone = .int .i64 k ∧ i = .int .i64 k ∧ QI wr g c cap (xs.drop k) ∧ Kept [c] w wr) (fun _ i _ => M - (intOf i).toNat)
    case atStart => exact ⟨0, Nat.zero_le _, rfl, rfl, by simpa using unhide H, Kept.refl _ _⟩
    case round =>
      obtain ⟨k, hk, rfl, rfl, hq, hkw⟩ := hrel
      by_cases hlt2 : k < M
      · have hkx : k < xs.length := by have := unhide HML; omega
        rw [List.drop_eq_getElem_cons hkx] at hq
        have Q0 := hide hq
        have K0 := hide hkw
        have hlt3 : k < xs.length := hkx
        clear hq hkw
        go_wp2_with fail
        refine (takeI_yes _ _ _ _ _ _ (unhide Q0)).mono ?_
        rintro e w1 ⟨rfl, hq1, hk1⟩
        have Q1 := hide hq1
        have K1 := hide ((unhide K0).trans hk1 (by simp))
        clear hq1 hk1
        go_wp2
        go_roundw
        case rel => exact ⟨k + 1, by omega, by go_num, by go_num, unhide Q1, unhide K1⟩
        case measure => simp [intOf]; omega
      · have hkM : k = M := by omega
        have Q0 := hide hq
        have K0 := hide hkw
        have hge : ¬ k < xs.length := by have := unhide C3; omega
        clear hq hkw
        go_wp2
        try rw [Exit.noGoto_ret]
        go_ret
        rw [hkM] at Q0
        refine ⟨?_, unhide Q0, unhide K0⟩
        first | rfl | exact ret_int (by omega)
  · have C2 := hide c2
    clear c2
    have c9 : xs.length = 0 := by rw [c0]; rfl
    clear c0
    go_wp2_with fail
    go_loopw [5, 13] (fun gone i wr => ∃ k : Nat, k ≤ M ∧ gone = .int .i64 k ∧ i = .int .i64 k ∧ QI wr g c cap (xs.drop k) ∧ Kept [c] w wr) (fun _ i _ => M - (intOf i).toNat)
    case atStart => exact ⟨0, Nat.zero_le _, rfl, rfl, by simpa using unhide H, Kept.refl _ _⟩
    case round =>
      obtain ⟨k, hk, rfl, rfl, hq, hkw⟩ := hrel
      by_cases hlt2 : k < M
      · have hkx : k < xs.length := by have := unhide HML; omega
        rw [List.drop_eq_getElem_cons hkx] at hq
        have Q0 := hide hq
        have K0 := hide hkw
        exfalso
        have := unhide C2
        omega
      · have hkM : k = M := by omega
        have Q0 := hide hq
        have K0 := hide hkw
        have hge : ¬ (k : Int) < 0 := by omega
        clear hq hkw
        go_wp2
        try rw [Exit.noGoto_ret]
        go_ret
        rw [hkM] at Q0
        refine ⟨?_, unhide Q0, unhide K0⟩
        first | rfl | exact ret_int (by omega)
end Go.Proofs.Ytpdabmbjnmpgbaa
