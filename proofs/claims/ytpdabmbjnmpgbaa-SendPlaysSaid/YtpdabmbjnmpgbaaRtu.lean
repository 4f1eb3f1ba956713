/-
  rtt.Fold, by a loop over its samples, and the chapter's example.
-/
import Derived.Test.YtpdabmbjnmpgbaaRtt
import Derived.LoopTactic
namespace Go.Proofs.Ytpdabmbjnmpgbaa
open Go.RowKit
set_option linter.unusedVariables false

/-- A slice of integers that is only read: its elements. -/
def Ints (w : World) (A : Option Addr) (n : Nat) (zs : List Int) : Prop :=
  zs.length = n ∧ n ≤ maxLen ∧ ∀ i, i < n → ∃ b off, A = some ⟨b, off, none⟩ ∧ b < w.heap.size ∧ ∀ j, j < n → w.cell? ⟨b, off + j, none⟩ = some (.int .i64 (zs.getD j 0))
theorem Ints.kept {S : List Nat} {w w' : World} {A : Option Addr} {n : Nat} {zs : List Int} (h : Ints w A n zs) (k : Kept S w w') (hs : ∀ a, A = some a → a.block ∉ S) : Ints w' A n zs :=
  ⟨h.1, h.2.1, fun i hi => by
    obtain ⟨b, off, rfl, hb, hc⟩ := h.2.2 i hi
    exact ⟨b, off, rfl, Nat.lt_of_lt_of_le hb k.size, fun j hj => (k.cell (p := ⟨b, off + j, none⟩) hb (hs ⟨b, off, none⟩ rfl)).trans (hc j hj)⟩⟩
theorem Ints.take {w : World} {A : Option Addr} {n : Nat} {zs : List Int} (h : Ints w A n zs) {m : Nat} (hm : m ≤ n) : Ints w A m (zs.take m) :=
  ⟨by rw [List.length_take, h.1]; omega, Nat.le_trans hm h.2.1, fun i hi => by
    obtain ⟨b, off, rfl, hb, hc⟩ := h.2.2 i (by omega)
    exact ⟨b, off, rfl, hb, fun j hj => by rw [hc j (by omega)]; simp [List.getD_eq_getElem?_getD, hj]⟩⟩

def stepE (e : Int × Int × Bool) (n : Int) : Int × Int × Bool := (smpT e.1 e.2.2 n, smpS e.1 e.2.1 e.2.2 n, true)
def foldE (l : List Int) : Int × Int × Bool := l.foldl stepE (0, 0, false)
theorem foldE_snoc (l : List Int) (x : Int) : foldE (l ++ [x]) = stepE (foldE l) x := by simp [foldE]
theorem foldE_ok (l : List Int) : EstOk (foldE l).1 (foldE l).2.1 (foldE l).2.2 := by
  unfold foldE
  suffices h : ∀ (l : List Int) (e : Int × Int × Bool), EstOk e.1 e.2.1 e.2.2 → EstOk (l.foldl stepE e).1 (l.foldl stepE e).2.1 (l.foldl stepE e).2.2 from
    h l (0, 0, false) ⟨by decide, by decide, by decide, by decide, fun _ => ⟨rfl, rfl⟩⟩
  intro l
  induction l with
  | nil => intro e h; exact h
  | cons x l ih => intro e h; exact ih _ (smp_ok x h)
theorem take_snoc {α : Type} (l : List α) (k : Nat) (d : α) (h : k < l.length) : l.take (k + 1) = l.take k ++ [l.getD k d] := by
  rw [List.take_succ_eq_append_getElem h, List.getD_eq_getElem?_getD, List.getElem?_eq_getElem h]; rfl

/-- The block of an estimate, by its triple. -/
def TripO (e : Int × Int × Bool) : Obj := EstO e.1 e.2.1 e.2.2
theorem sample_trip (n : Int) (e : Int × Int × Bool) (g : Nat) (w : World) (h : w.heap[g]? = some (TripO e)) (ho : EstOk e.1 e.2.1 e.2.2) :
    Calls Try.prog 24 #[.pointer (some ⟨g, 0, none⟩), .int .i64 n] w (Turns w g (TripO (stepE e n))) := sample_any n e.1 e.2.1 e.2.2 g w h ho

def Made (w : World) (o : Obj) (e : Ending) (w' : World) : Prop := e = .returned (.pointer (some ⟨w.heap.size, 0, none⟩)) ∧ w'.heap[w.heap.size]? = some o ∧ Kept [] w w'

set_option maxHeartbeats 400000 in
theorem fold_any (A : Option Addr) (n c : Nat) (zs : List Int) (w : World) (h : Ints w A n zs) :
    Calls Try.prog 19 #[.slice A n c] w (Made w (TripO (foldE zs))) := by
  have hl : n ≤ 9223372036854775807 := h.2.1
  have H := hide h
  clear h
  go_enter Try.func19, Try.ntmps19
  go_wp2
  go_loopw [10] (fun i wr => ∃ k : Nat, k ≤ n ∧ i = .int .i64 k ∧ wr.heap[w.heap.size]? = some (TripO (foldE (zs.take k))) ∧ Kept [] w wr) (fun i _ => n - (intOf i).toNat)
  case atStart => exact ⟨0, Nat.zero_le _, rfl, obj_new w _, (Kept.refl [] w).alloc _⟩
  case round =>
    obtain ⟨k, hk, rfl, ho, hkept⟩ := hrel
    have HO := hide ho
    have HK := hide hkept
    clear ho hkept
    by_cases hlt : k < n
    · obtain ⟨b, off, rfl, hb, hc⟩ := (unhide H).2.2 k hlt
      have hc1 := (hide (unhide HK)).out.cell (p := ⟨b, off + k, none⟩) hb (by simp)
      rw [hc k hlt] at hc1
      have hcell := hc1
      clear hc hc1
      go_wp2_with (go_at_call 24; refine (sample_trip (zs.getD k 0) (foldE (zs.take k)) _ _ (unhide HO) (foldE_ok _)).mono ?_; rintro e w1 ⟨rfl, ho1, hk1⟩)
      have hz : k < zs.length := by have := (unhide H).1; omega
      go_roundw
      case rel =>
        refine ⟨k + 1, by omega, by go_num, ?_, (unhide HK).trans hk1 ?_⟩
        · rw [take_snoc zs k 0 hz, foldE_snoc]; exact ho1
        · intro i hi hm; simp at hm; omega
      case measure => simp [intOf]; omega
    · go_wp2
      go_ret
      have hk' : k = n := by omega
      refine ⟨rfl, ?_, unhide HK⟩
      rw [← (List.take_of_length_le (i := k) (by rw [(unhide H).1]; omega) : zs.take k = zs)]
      exact unhide HO
/-- What a law's part answers: it holds, and nothing that was there has turned. -/
def Holds (w : World) (b : Bool) (e : Ending) (w' : World) : Prop := e = .returned (.bool b) ∧ Kept [] w w'

theorem ints_new (w : World) (zs : List Int) (t : TypeId) (hl : zs.length ≤ maxLen) : Ints (w.alloc (.cells (zs.map (Value.int .i64)).toArray t)) (some ⟨w.heap.size, 0, none⟩) zs.length zs :=
  ⟨rfl, hl, fun i hi => ⟨w.heap.size, 0, rfl, by simp, fun j hj => by
    rw [obj_cell (obj_new w _) (0 + j)]
    simp [List.getD_eq_getElem?_getD, List.getElem?_eq_getElem hj]⟩⟩

theorem ex16 : TripO (foldE [100, 60]) = EstO 760 190 true := by
  have h : foldE [100, 60] = (760, 190, true) := by decide
  rw [h]; rfl
theorem ok16 : EstOk 760 190 true := ⟨by omega, by omega, by omega, by omega, fun h => by cases h⟩
set_option maxHeartbeats 400000 in
set_option maxRecDepth 100000 in
theorem known16 (w : World) : Calls Try.prog 18 #[] w (Holds w true) := by
  have hI := hide (ints_new w [100, 60] 3 (by decide))
  go_enter Try.func18, Try.ntmps18
  go_wp2_with (go_at_call 19; refine (fold_any _ 2 2 [100, 60] _ (unhide hI)).mono ?_; rintro e w1 ⟨rfl, ho1, hk1⟩)
  have ho2 : w1.heap[w.heap.size + 1]? = some (EstO 760 190 true) := by rw [← ex16]; simpa using ho1
  have HO := hide ho2
  have HK := hide hk1
  have h1 := hide (known_any _ _ _ _ _ (unhide HO))
  have h2 := hide (time_any _ _ _ _ _ (unhide HO) ok16)
  have h3 := hide (spread_any _ _ _ _ _ (unhide HO) ok16)
  have h4' := wait_yes _ _ _ _ (unhide HO) ok16
  rw [show waitS 760 190 true = 285 from by decide] at h4'
  have h4 := hide h4'
  clear h4'
  clear ho1 ho2 hk1
  go_wp2_with (first
    | (go_at_call 21; refine (unhide h1).mono ?_; rintro e w' ⟨rfl, rfl⟩)
    | (go_at_call 22; refine (unhide h2).mono ?_; rintro e w' ⟨rfl, rfl⟩)
    | (go_at_call 23; refine (unhide h3).mono ?_; rintro e w' ⟨rfl, rfl⟩)
    | (go_at_call 20; refine (unhide h4).mono ?_; rintro e w' ⟨rfl, nq, rfl⟩))
  go_ret
  exact ⟨rfl, ((((Kept.refl [] w).alloc _).trans (unhide HK) (by simp)).drewN _)⟩
end Go.Proofs.Ytpdabmbjnmpgbaa
