/-
  Package send: Due.
-/
import Derived.Test.YtpdabmbjnmpgbaaSdu
import Derived.Test.YtpdabmbjnmpgbaaPour
import Derived.Deep.CutRange
import Derived.Deep.CutBlock
import Derived.Deep.DeepCutAuto
namespace Go.Proofs.Ytpdabmbjnmpgbaa
open Go.Conc Go.RowKit
set_option linter.unusedVariables false
def dueB (n ty se : Nat) (la : Int) (be ask : Bool) (now wait : Int) : Bool := decide (se < ty) || (ask || (decide (0 < n) && lateB be la now wait))
theorem due_nil (now wait : Int) (w : World) : Calls Try.prog 72 #[.pointer none, .int .u64 now, .int .u64 wait] w fun e w' => e = .returned (.bool false) ∧ Kept [] w w' := by
  go_enter Try.func72, Try.ntmps72
  go_upto_region 1 with (fail)
  have hK : Kept [] w ((((w.alloc (.cells #[.pointer none] 93)).alloc (.cells #[.int .u64 now] 27)).alloc (.cells #[.int .u64 wait] 27))) := (((Kept.refl [] w).alloc _).alloc _).alloc _
  go_wp2
  go_ret
  exact ⟨rfl, hK⟩
set_option maxRecDepth 100000 in
set_option maxHeartbeats 2000000 in
theorem due_any (sg qg qc : Nat) (ks : List ByteArray) (ty se ac : Nat) (la : Int) (be ask : Bool) (now wait : Int) (w : World) (h : SS w sg qg qc ks ty se ac la be ask)
    (hla : 0 ≤ la ∧ la < 18446744073709551616) (hno : 0 ≤ now ∧ now < 18446744073709551616) :
    Calls Try.prog 72 #[.pointer (some ⟨sg, 0, none⟩), .int .u64 now, .int .u64 wait] w fun e w' => e = .returned (.bool (dueB ks.length ty se la be ask now wait)) ∧ Kept [] w w' := by
  obtain ⟨b, hb⟩ : ∃ b, b = dueB ks.length ty se la be ask now wait := ⟨_, rfl⟩
  rw [← hb]
  have HBB := hide hb
  clear hb
  have H := hide h
  have HLA := hide hla
  have HNO := hide hno
  clear h hla hno
  go_enter Try.func72, Try.ntmps72
  go_upto_region 1 with (fail)
  have h3 : ((((w.alloc (.cells #[.pointer (some ⟨sg, 0, none⟩)] 93)).alloc (.cells #[.int .u64 now] 27)).alloc (.cells #[.int .u64 wait] 27))).heap[w.heap.size]? = some (.cells #[.pointer (some ⟨sg, 0, none⟩)] 93) := obj_alloc (obj_alloc (obj_new _ _) _) _
  have h4 : ((((w.alloc (.cells #[.pointer (some ⟨sg, 0, none⟩)] 93)).alloc (.cells #[.int .u64 now] 27)).alloc (.cells #[.int .u64 wait] 27))).heap[w.heap.size + 1]? = some (.cells #[.int .u64 now] 27) := obj_alloc (by simpa using obj_new ((w.alloc (.cells #[.pointer (some ⟨sg, 0, none⟩)] 93))) (.cells #[.int .u64 now] 27)) _
  have h5 : ((((w.alloc (.cells #[.pointer (some ⟨sg, 0, none⟩)] 93)).alloc (.cells #[.int .u64 now] 27)).alloc (.cells #[.int .u64 wait] 27))).heap[w.heap.size + 1 + 1]? = some (.cells #[.int .u64 wait] 27) := by simpa using obj_new (((w.alloc (.cells #[.pointer (some ⟨sg, 0, none⟩)] 93))).alloc (.cells #[.int .u64 now] 27)) (.cells #[.int .u64 wait] 27)
  have hK : Kept [] w ((((w.alloc (.cells #[.pointer (some ⟨sg, 0, none⟩)] 93)).alloc (.cells #[.int .u64 now] 27)).alloc (.cells #[.int .u64 wait] 27))) := (((Kept.refl [] w).alloc _).alloc _).alloc _
  generalize ((((w.alloc (.cells #[.pointer (some ⟨sg, 0, none⟩)] 93)).alloc (.cells #[.int .u64 now] 27)).alloc (.cells #[.int .u64 wait] 27))) = wA at *
  generalize hg5 : w.heap.size + 1 + 1 = b5 at *
  generalize hg4 : w.heap.size + 1 = b4 at *
  generalize hg3 : w.heap.size = b3 at *
  have HA := hide ((unhide H).next hK (by simp) (by simp) (by simp))
  have HK := hide hK
  have d3 := obj_cell h3 0
  have d4 := obj_cell h4 0
  have d5 := obj_cell h5 0
  have H3 := hide h3
  have H4 := hide h4
  have H5 := hide h5
  clear h3 h4 h5 hg5 hg4 hg3 hK H
  obtain ⟨c0, c1, c2, c3, c4, c5, c6, cz, cl⟩ := (unhide HA).cells
  have hsum := (unhide HA).sum
  have hord := (unhide HA).ord
  have hkl := (unhide HA).kl
  generalize hn : ks.length = n at *
  have HN := hide hn
  have HSUM := hide hsum
  have HORD := hide hord
  clear hn hsum hord
  have hlen : ∀ m, Calls Try.prog 27 #[.pointer (some ⟨qg, 0, none⟩)] (wA.drewN m) fun e w' => e = .returned (.int .i64 n) ∧ w' = wA.drewN m := fun m => by
    have hl := lenS_any qg qc 64 ks (wA.drewN m) ((unhide HA).q.next (S := []) ((Kept.refl [] _).drewN _) (by simp) (by simp))
    rw [unhide HN] at hl
    exact hl.mono fun _ _ ⟨x, y⟩ => ⟨x, y.symm⟩
  have hlate : ∀ m, Calls Try.prog 85 #[.pointer (some ⟨b3, 0, none⟩), .pointer (some ⟨b4, 0, none⟩), .pointer (some ⟨b5, 0, none⟩)] (wA.drewN m) fun e w' => e = .returned (.bool (lateB be la now wait)) ∧ ∃ k, w' = (wA.drewN m).drewN k := fun m => 
    due_late sg qg qc ks ty se ac la be ask b3 b4 b5 now wait (wA.drewN m) ((unhide HA).next (S := []) ((Kept.refl [] _).drewN _) (by simp) (by simp) (by simp)) (unhide H3) (unhide H4) (unhide H5) (unhide HLA) (unhide HNO)
  by_cases h0 : se < ty
  · have h0' : ((ty : Int) == 0) = false := by simp; omega
    have h1 : decide (se < ty) = true := by simp [h0]
    obtain rfl : b = true := (unhide HBB).trans (by simp [dueB, h0])
    go_wp2_with fail
    go_quiet (fail)
    go_wp2
    go_ret
    exact ⟨rfl, (unhide HK).drewN _⟩
  · have hts : ty = se := by have := unhide HORD; omega
    have h1 : decide (se < ty) = false := by simp [h0]
    subst hts
    cases ask
    · by_cases h0n : n = 0
      · have hac : ac = ty := by have := unhide HSUM; omega
        subst hac
        obtain rfl : b = false := (unhide HBB).trans (by simp [dueB, h0n])
        by_cases ht : ac = 0
        · subst ht
          go_wp2_with fail
          go_ret
          exact ⟨rfl, unhide HK⟩
        · have h0' : ((ac : Int) == 0) = false := by simp; omega
          have h2 : decide (0 < n) = false := by simp [h0n]
          go_wp2_with fail
          go_quiet ((go_at_call 27; exact Calls.quiet_of_same (hlen _)))
          go_wp2
          go_ret
          exact ⟨rfl, (unhide HK).drewN _⟩
      · have h0' : ((ty : Int) == 0) = false := by have := unhide HSUM; simp; omega
        have h2 : decide (0 < n) = true := by simp; omega
        obtain rfl : b = lateB be la now wait := (unhide HBB).trans (by simp [dueB]; omega)
        go_wp2_with fail
        go_quiet ((first | (go_at_call 27; exact Calls.quiet_of_same (hlen _)) | (go_at_call 85; exact Calls.quiet_of (hlate _))))
        go_wp2
        go_ret
        exact ⟨rfl, (unhide HK).drewN _⟩
    · obtain rfl : b = true := (unhide HBB).trans (by simp [dueB])
      by_cases ht : ty = 0
      · subst ht
        have hac : ac = 0 := by have := unhide HSUM; omega
        subst hac
        go_wp2_with fail
        go_quiet (fail)
        go_wp2
        go_ret
        exact ⟨rfl, (unhide HK).drewN _⟩
      · have h0' : ((ty : Int) == 0) = false := by simp; omega
        go_wp2_with fail
        go_quiet (fail)
        go_wp2
        go_ret
        exact ⟨rfl, (unhide HK).drewN _⟩
end Go.Proofs.Ytpdabmbjnmpgbaa
