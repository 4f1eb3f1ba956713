/-
  keygram.Check of a gram whose keys are well.
-/
import Derived.Test.YtpdabmbjnmpgbaaKgr
namespace Go.Proofs.Ytpdabmbjnmpgbaa
open Go.Conc Go.RowKit
set_option linter.unusedVariables false

/-- Keys whose lengths are well. -/
def KLen (w : World) (A : Option Addr) (n : Nat) : Prop :=
  ∀ i, i < n → ∃ b off p m c, A = some ⟨b, off, none⟩ ∧ b < w.heap.size ∧ w.cell? ⟨b, off + i, none⟩ = some (.slice p m c) ∧ 1 ≤ m ∧ m ≤ 8
theorem KLen.kept {w w' : World} {A : Option Addr} {n : Nat} (h : KLen w A n) (k : Kept [] w w') : KLen w' A n := fun i hi => by
  obtain ⟨b, off, p, m, c, rfl, hb, hc, h1, h8⟩ := h i hi
  exact ⟨b, off, p, m, c, rfl, Nat.lt_of_lt_of_le hb k.size, (k.cell (p := ⟨b, off + i, none⟩) hb (by simp)).trans hc, h1, h8⟩
set_option maxRecDepth 100000 in
set_option maxHeartbeats 1000000 in
theorem check_size (ack stamp rows cols first : Int) (A : Option Addr) (n cp : Nat) (w : World) (hs : (okSide rows && okSide cols) = false) :
    Calls Try.prog 71 #[.agg #[.int .u64 ack, .int .u64 stamp, .int .i64 rows, .int .i64 cols, .int .u64 first, .slice A n cp]] w fun e w' => e = .returned (.int .i64 11) ∧ Kept [] w w' := by
  generalize hr : okSide rows = r at *
  generalize hc : okSide cols = c at *
  have HR := hide (fun W => side_any rows W)
  have HC := hide (fun W => side_any cols W)
  rw [hr] at HR
  rw [hc] at HC
  clear hr hc
  cases r
  · go_enter Try.func71, Try.ntmps71
    go_wp2_with fail
    refine (unhide HR _).mono ?_
    rintro e w' ⟨rfl, rfl⟩
    go_wp2
    try rw [Exit.noGoto_ret]
    go_ret
    exact ⟨rfl, (Kept.refl [] w).alloc _⟩
  · have hcf : c = false := by simpa using hs
    subst hcf
    go_enter Try.func71, Try.ntmps71
    go_wp2_with fail
    refine (unhide HR _).mono ?_
    rintro e w' ⟨rfl, rfl⟩
    go_wp2_with fail
    refine (unhide HC _).mono ?_
    rintro e w' ⟨rfl, rfl⟩
    go_wp2
    try rw [Exit.noGoto_ret]
    go_ret
    exact ⟨rfl, (Kept.refl [] w).alloc _⟩
set_option maxRecDepth 100000 in
set_option maxHeartbeats 1000000 in
theorem check_ok (ack stamp rows cols : Int) (first : Nat) (A : Option Addr) (n cp : Nat) (w : World) (hr : okSide rows = true) (hc : okSide cols = true) (h1 : 1 ≤ first) (h2 : first ≤ 1000000) (hn : n ≤ 64) (hk : KLen w A n) :
    Calls Try.prog 71 #[.agg #[.int .u64 ack, .int .u64 stamp, .int .i64 rows, .int .i64 cols, .int .u64 (first : Int), .slice A n cp]] w fun e w' => e = .returned (.int .i64 0) ∧ Kept [] w w' := by
  have HR := hide (fun W => side_any rows W)
  have HC := hide (fun W => side_any cols W)
  rw [hr] at HR
  rw [hc] at HC
  have HK := hide hk
  have f0 : ((first : Int) == 0) = false := by simp; omega
  have n9 : n ≤ 9223372036854775807 := by omega
  have n64 : ¬ 64 < n := by omega
  clear hr hc hk
  go_enter Try.func71, Try.ntmps71
  go_wp2_with fail
  refine (unhide HR _).mono ?_
  rintro e w' ⟨rfl, rfl⟩
  go_wp2_with fail
  refine (unhide HC _).mono ?_
  rintro e w' ⟨rfl, rfl⟩
  go_wp2_with fail
  have hA : Hid (KLen (w.alloc (.cells #[.int .u64 ack, .int .u64 stamp, .int .i64 rows, .int .i64 cols, .int .u64 (first : Int), .slice A n cp] 100)) A n) := hide ((unhide HK).kept ((Kept.refl [] w).alloc _))
  have K0 : Hid (Kept [] w (w.alloc (.cells #[.int .u64 ack, .int .u64 stamp, .int .i64 rows, .int .i64 cols, .int .u64 (first : Int), .slice A n cp] 100))) := hide ((Kept.refl [] w).alloc _)
  have hob : (w.alloc (.cells #[.int .u64 ack, .int .u64 stamp, .int .i64 rows, .int .i64 cols, .int .u64 (first : Int), .slice A n cp] 100)).heap[w.heap.size]? = some (.cells #[.int .u64 ack, .int .u64 stamp, .int .i64 rows, .int .i64 cols, .int .u64 (first : Int), .slice A n cp] 100) := obj_new w _
  have hc4 := obj_cell hob 4
  have hc5 := obj_cell hob 5
  clear hob
  generalize w.alloc (.cells #[.int .u64 ack, .int .u64 stamp, .int .i64 rows, .int .i64 cols, .int .u64 (first : Int), .slice A n cp] 100) = wA at *
  generalize w.heap.size = G at *
  go_loopw [29] (fun i wr => ∃ k : Nat, k ≤ n ∧ i = .int .i64 k ∧ wr = wA) (fun i _ => n - (intOf i).toNat)
  case atStart => exact ⟨0, Nat.zero_le _, rfl, rfl⟩
  case round =>
    obtain ⟨k, hkn, rfl, rfl⟩ := hrel
    by_cases hlt : k < n
    · obtain ⟨b, off, p, m, c, rfl, hb, hcell, hm1, hm8⟩ := unhide hA k hlt
      have g1 : ((m : Int) == 0) = false := by simp; omega
      have g2 : ¬ 8 < m := by omega
      have g3 : m ≤ 9223372036854775807 := by omega
      go_wp2
      exact ⟨⟨k + 1, by omega, by go_num, by first | rfl | trivial⟩, by simp [intOf]; omega⟩
    · have hkn2 : k = n := by omega
      subst hkn2
      by_cases h0 : 0 < k
      · have w1 : IntKind.u64.wrap ((k : Int) - 1) = ((k - 1 : Nat) : Int) := by rw [IntKind.wrap_u64]; omega
        have w2 : IntKind.u64.wrap (18446744073709551615 - ((k - 1 : Nat) : Int)) = 18446744073709551615 - ((k - 1 : Nat) : Int) := by rw [IntKind.wrap_u64]; omega
        have w3 : ¬ (18446744073709551615 - ((k - 1 : Nat) : Int)) < (first : Int) := by omega
        have w4 : IntKind.u64.wrap (k : Int) = (k : Int) := by rw [IntKind.wrap_u64]; omega
        go_wp2
        try rw [Exit.noGoto_ret]
        go_ret
        exact ⟨rfl, unhide K0⟩
      · have hk0 : k = 0 := by omega
        subst hk0
        go_wp2
        try rw [Exit.noGoto_ret]
        go_ret
        exact ⟨rfl, unhide K0⟩
end Go.Proofs.Ytpdabmbjnmpgbaa
