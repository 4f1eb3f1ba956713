/-
  The chapter's example of the senders.
-/
import Derived.Test.YtpdabmbjnmpgbaaSdv
import Derived.Test.YtpdabmbjnmpgbaaSgr
import Derived.Lib.SlBytesConst
namespace Go.Proofs.Ytpdabmbjnmpgbaa
open Go.Conc Go.RowKit
set_option linter.unusedVariables false
theorem knext {S : List Nat} {a b c : World} (h : Kept [] a b) (k : Kept S b c) (hs : ∀ i ∈ S, a.heap.size ≤ i) : Kept [] a c := h.trans k (by intro i hi hm; have := hs i hm; omega)
def SHolds (w : World) (b : Bool) (e : Ending) (w' : World) : Prop := e = .returned (.bool b) ∧ Kept [] w w'
theorem byt_one (w : World) (b : Nat) (c : Int) (f : Nat × Nat) (h : w.heap[b]? = some (.cells #[.int .u8 c] 5 f)) : Byt w (some ⟨b, 0, none⟩) 1 [c] :=
  ⟨rfl, .inr ⟨b, 0, rfl, heap_lt h, fun j hj => by have : j = 0 := by omega
                                                   subst this
                                                   exact cell_of_row w b 0 _ _ _ h⟩⟩
set_option maxRecDepth 100000 in
set_option maxHeartbeats 2000000 in
theorem known19 (w : World) : Calls Try.prog 64 #[] w (SHolds w true) := by
  go_enter Try.func64, Try.ntmps64
  go_wp2_with fail
  refine (snew _).mono ?_
  rintro e w1 ⟨sg, rfl, hs1, hk1, hsz⟩
  have S1 := hide hs1
  have K1 := hide hk1
  have HZ := hide hsz
  clear hs1 hk1 hsz
  have kc := fun (w : World) (C : Array Value) (n c : Nat) => Lib.run_convert_bytes_const (P := Try.prog) w 96 5 C n c Try.underlying96 Try.underlying5
  go_wp2_with fail
  have bb : Hid (Byt (w1.alloc (.cells #[.int .u8 97] 5 (1, 2))) (some ⟨w1.heap.size, 0, none⟩) 1 [97]) := hide (byt_one _ _ _ _ (obj_new _ _))
  have ka : Kept [] w1 (w1.alloc (.cells #[.int .u8 97] 5 (1, 2))) := (Kept.refl [] w1).alloc _
  have K2 := hide ((unhide K1).trans ka (by simp))
  have S2 := hide ((unhide S1).next ka (by simp) (by simp) (by simp))
  clear ka S1 K1
  refine (stype_yes sg _ _ _ _ _ _ _ _ _ _ _ _ _ _ (unhide S2) (unhide bb) (by omega) (by omega) (by simp) (by omega)).mono ?_
  rintro e w3 ⟨rfl, hs3, hk3⟩
  have hz2 : w.heap.size + 2 ≤ sg := unhide HZ
  have S3 := hide hs3
  have K3 := hide (knext (unhide K2) hk3 (by simp; omega))
  clear hs3 hk3 bb K2 S2 hz2
  go_wp2_with fail
  have bb : Hid (Byt (w3.alloc (.cells #[.int .u8 98] 5 (1, 2))) (some ⟨w3.heap.size, 0, none⟩) 1 [98]) := hide (byt_one _ _ _ _ (obj_new _ _))
  have ka : Kept [] w3 (w3.alloc (.cells #[.int .u8 98] 5 (1, 2))) := (Kept.refl [] w3).alloc _
  have K4 := hide ((unhide K3).trans ka (by simp))
  have S4 := hide ((unhide S3).next ka (by simp) (by simp) (by simp))
  clear ka S3 K3
  refine (stype_yes sg _ _ _ _ _ _ _ _ _ _ _ _ _ _ (unhide S4) (unhide bb) (by omega) (by omega) (by simp) (by omega)).mono ?_
  rintro e w5 ⟨rfl, hs5, hk5⟩
  have hz2 : w.heap.size + 2 ≤ sg := unhide HZ
  have hlk : ([] ++ [strOfNums [97]] ++ [strOfNums [98]] : List ByteArray).length = 2 := rfl
  generalize ([] ++ [strOfNums [97]] ++ [strOfNums [98]] : List ByteArray) = ks at *
  have HLK := hide hlk
  have S5 := hide hs5
  have K5 := hide (knext (unhide K4) hk5 (by simp; omega))
  clear hs5 hk5 bb K4 S4 hz2 hlk
  go_wp2_with fail
  refine (due_any sg _ _ _ _ _ _ _ _ _ 5 50 _ (unhide S5) (by omega) (by omega)).mono ?_
  rw [unhide HLK, show dueB 2 2 0 0 false false 5 50 = true from rfl]
  rintro e w6 ⟨rfl, hk6⟩
  have S6 := hide ((unhide S5).next hk6 (by simp) (by simp) (by simp))
  have K6 := hide ((unhide K5).trans hk6 (by simp))
  clear hk6 S5 K5
  go_wp2_with fail
  refine (gram_any sg _ _ _ _ _ _ _ _ _ 5 0 1 1 _ (unhide S6) (by omega) (by omega) (by rfl) (by rfl)).mono ?_
  rintro e w7 ⟨A, cp, rfl, hkr, hs7, hk7⟩
  rw [show sat 5 1 = 6 from rfl, unhide HLK]
  have hz2 : w.heap.size + 2 ≤ sg := unhide HZ
  have S7 := hide hs7
  have K7 := hide (knext (unhide K6) hk7 (by simp; omega))
  clear hs7 hk7 hkr K6 S6 hz2
  go_wp2_with fail
  have ka : Kept [] w7 (w7.alloc (GmO 0 6 1 1 1 A 2 cp)) := (Kept.refl [] w7).alloc _
  have K8 := hide ((unhide K7).trans ka (by simp))
  have S8 := hide ((unhide S7).next ka (by simp) (by simp) (by simp))
  clear ka S7 K7
  refine (due_any sg _ _ _ _ _ _ _ _ _ 6 50 _ (unhide S8) (by omega) (by omega)).mono ?_
  rw [unhide HLK, show dueB 2 2 2 5 true false 6 50 = false from rfl]
  rintro e w9 ⟨rfl, hk9⟩
  have S9 := hide ((unhide S8).next hk9 (by simp) (by simp) (by simp))
  have K9 := hide ((unhide K8).trans hk9 (by simp))
  clear hk9 S8 K8
  go_wp2_with fail
  refine (due_any sg _ _ _ _ _ _ _ _ _ 55 50 _ (unhide S9) (by omega) (by omega)).mono ?_
  rw [unhide HLK, show dueB 2 2 2 5 true false 55 50 = true from rfl]
  rintro e w10 ⟨rfl, hk10⟩
  have S10 := hide ((unhide S9).next hk10 (by simp) (by simp) (by simp))
  have K10 := hide ((unhide K9).trans hk10 (by simp))
  clear hk10 S9 K9
  go_wp2_with fail
  refine (sechoed_yes sg _ _ _ _ _ _ 2 _ _ _ _ (unhide S10) (by omega) (by omega) (by omega)).mono ?_
  rintro e w11 ⟨rfl, hs11, hk11⟩
  have hz2 : w.heap.size + 2 ≤ sg := unhide HZ
  have S11 := hide hs11
  have K11 := hide (knext (unhide K10) hk11 (by simp; omega))
  clear hs11 hk11 K10 S10 hz2
  go_wp2_with fail
  refine (due_any sg _ _ _ _ _ _ _ _ _ 500 50 _ (unhide S11) (by omega) (by omega)).mono ?_
  rw [show (List.drop (2 - 0) ks).length = 0 by have := unhide HLK; simp; omega, show dueB 0 2 2 5 true false 500 50 = false from rfl]
  rintro e w12 ⟨rfl, hk12⟩
  have K12 := hide ((unhide K11).trans hk12 (by simp))
  clear hk12 S11 K11
  go_wp2
  go_ret
  exact ⟨rfl, unhide K12⟩
end Go.Proofs.Ytpdabmbjnmpgbaa
