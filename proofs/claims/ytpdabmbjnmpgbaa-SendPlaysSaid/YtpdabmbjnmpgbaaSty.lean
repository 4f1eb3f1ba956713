/-
  Package send: Type.
-/
import Derived.Test.YtpdabmbjnmpgbaaSnd
import Derived.Laws.BytesArg
import Derived.Deep.RegionHeld3
namespace Go.Proofs.Ytpdabmbjnmpgbaa
open Go.Conc Go.RowKit
set_option linter.unusedVariables false

/-- Bytes: a slice that reads as the numbers xs. -/
def Byt (w : World) (A : Option Addr) (n : Nat) (xs : List Int) : Prop :=
  xs.length = n ∧ (n = 0 ∨ ∃ b off, A = some ⟨b, off, none⟩ ∧ b < w.heap.size ∧ ∀ j, j < n → w.cell? ⟨b, off + j, none⟩ = some (.int .u8 (xs.getD j 0)))
theorem Byt.kept {S : List Nat} {w w' : World} {A : Option Addr} {n : Nat} {xs : List Int} (h : Byt w A n xs) (k : Kept S w w') (hs : ∀ a, A = some a → a.block ∉ S) : Byt w' A n xs := by
  refine ⟨h.1, ?_⟩
  rcases h.2 with h1 | ⟨b, off, rfl, hb, hc⟩
  · exact .inl h1
  · exact .inr ⟨b, off, rfl, Nat.lt_of_lt_of_le hb k.size, fun j hj => (k.cell (p := ⟨b, off + j, none⟩) hb (hs ⟨b, off, none⟩ rfl)).trans (hc j hj)⟩
theorem conv_byt {w : World} {A : Option Addr} {n c : Nat} {xs : List Int} (h : Byt w A n xs) (hn : 0 < n) : (convert 96 9 (.slice A n c)).run Try.prog w = .ok (.string (strOfNums xs)) w := by
  rcases h.2 with h1 | ⟨b, off, rfl, hb, hc⟩
  · omega
  · exact run_convert_bytes_arg w 96 5 Try.underlying96 Try.underlying5 b off n c xs h.1 hc 9 Try.underlying9
theorem strOfNums_size (xs : List Int) : (strOfNums xs).size = xs.length := by simp [strOfNums, ByteArray.size]
theorem SS.push {w w' : World} {sg qg qc ty se ac : Nat} {ks : List ByteArray} {la : Int} {be ask : Bool} {k : ByteArray} (h : SS w sg qg qc ks ty se ac la be ask) (hq : QS w' qg qc 64 (ks ++ [k])) (hk : Kept [qc] w w') (hl : ks.length < 64) (h1 : 1 ≤ k.size) (h8 : k.size ≤ 8) :
    SS (w'.setCell ⟨sg, 1, none⟩ (.int .u64 ((ty + 1 : Nat) : Int))) sg qg qc (ks ++ [k]) (ty + 1) se ac la be ask := by
  have hne := h.ne
  have K : Kept [sg] w' (w'.setCell ⟨sg, 1, none⟩ (.int .u64 ((ty + 1 : Nat) : Int))) := (Kept.refl [sg] w').setCell (.inl (by simp)) _
  refine ⟨by have := obj_set (hk.obj h.box (by simp; omega)) 1 (.int .u64 ((ty + 1 : Nat) : Int)); simpa [SndO] using this, hq.next K (by simp; omega) (by simp; omega), by simp; omega, by have := h.sum; simp; omega, by have := h.ord; omega, ?_⟩
  intro x hx
  rw [List.mem_append] at hx
  rcases hx with hx | hx
  · exact h.key x hx
  · rw [List.mem_singleton] at hx
    subst hx
    exact ⟨h1, h8⟩
theorem byt_chan {w : World} {A : Option Addr} {n : Nat} {xs : List Int} {qg qc cap : Nat} {ks : List ByteArray} (hb : Byt w A n xs) (hq : QS w qg qc cap ks) (h1 : 0 < n) : ∀ a, A = some a → a.block ≠ qc := by
  rintro a rfl e
  rcases hb.2 with h2 | ⟨b, off, hA, hlt, hc⟩
  · omega
  · injection hA with hA
    subst hA
    have h3 := hc 0 h1
    obtain ⟨s, r, hch⟩ := hq.chan
    simp only at e
    subst e
    simp [World.cell?, hch, CSO] at h3
theorem conv_after {w w5 : World} {A : Option Addr} {n c : Nat} {xs : List Int} {key : ByteArray} {qg qc cap : Nat} {ks : List ByteArray} (hb : Byt w A n xs) (hk : key = strOfNums xs) (hq : QS w qg qc cap ks) (h1 : 0 < n) (k : Kept [qc] w.drew w5) : (convert 96 9 (.slice A n c)).run Try.prog w5 = .ok (.string key) w5 := by
  subst hk
  have hn := byt_chan hb hq h1
  exact conv_byt ((hb.kept ((Kept.refl [] w).drew) (by simp)).kept k (fun a ha => by have := hn a ha; simp; omega)) h1
theorem sg_cell {w w' : World} {sg qg qc ty se ac : Nat} {ks : List ByteArray} {la : Int} {be ask : Bool} (h : SS w sg qg qc ks ty se ac la be ask) (hk : Kept [qc] w.drew w') : w'.cell? ⟨sg, 0, none⟩ = some (.pointer (some ⟨qg, 0, none⟩)) := by
  have hne := h.ne
  have k2 : Kept [qc] w w' := ((Kept.refl [qc] w).drew).trans hk (by simp)
  exact obj_cell (k2.obj h.box (by simp; omega)) 0
def STyped (w : World) (sg qg qc : Nat) (ks : List ByteArray) (ty se ac : Nat) (la : Int) (be ask : Bool) (e : Ending) (w' : World) : Prop :=
  e = .returned (.int .i64 0) ∧ SS w' sg qg qc ks ty se ac la be ask ∧ Kept [sg, qc] w w'
set_option maxRecDepth 100000 in
set_option maxHeartbeats 1000000 in
theorem stype_yes (sg qg qc : Nat) (ks : List ByteArray) (ty se ac : Nat) (la : Int) (be ask : Bool) (A : Option Addr) (n c : Nat) (xs : List Int) (w : World) (h : SS w sg qg qc ks ty se ac la be ask) (hb : Byt w A n xs) (h1 : 1 ≤ n) (h8 : n ≤ 8) (hl : ks.length < 64) (hty : ty ≤ 1000000) :
    Calls Try.prog 61 #[.pointer (some ⟨sg, 0, none⟩), .slice A n c] w (STyped w sg qg qc (ks ++ [strOfNums xs]) (ty + 1) se ac la be ask) := by
  obtain ⟨c0, c1, c2, c3, c4, c5, c6, cz, cl⟩ := h.cells
  have HB := hide hb
  have H := hide h
  have hc0 : (convert 96 9 (.slice A n c)).run Try.prog w = .ok (.string (strOfNums xs)) w := conv_byt hb (by omega)
  have hc1 : (convert 96 9 (.slice A n c)).run Try.prog w.drew = .ok (.string (strOfNums xs)) w.drew := conv_byt (hb.kept ((Kept.refl [] w).drew) (by simp)) (by omega)
  have hn : ((n : Int) == 0) = false := by simp; omega
  have hn8 : ¬ 8 < n := by omega
  have hn9 : n ≤ 9223372036854775807 := by omega
  have hs : (strOfNums xs).size = n := by rw [strOfNums_size]; exact hb.1
  have HS := hide hs
  clear h hb hs
  generalize hkey : strOfNums xs = key at *
  have HKEY := hide hkey.symm
  clear hkey
  go_enter Try.func61, Try.ntmps61
  go_wp2_with fail
  go_region_held3 (fun w' => w'.cell? ⟨sg, 0, none⟩ = some (.pointer (some ⟨qg, 0, none⟩)) ∧ (convert 96 9 (.slice A n c)).run Try.prog w' = .ok (.string key) w')
    (first
      | exact ⟨c0, hc1⟩
      | (rename_i hk5; exact ⟨sg_cell (unhide H) hk5, conv_after (unhide HB) (unhide HKEY) (unhide H).q (by omega) hk5⟩))
    ((first
      | (go_at_call 26; refine (putS_yes _ _ _ _ _ _ ((unhide H).q.next (S := []) ((Kept.refl [] w).drew) (by simp) (by simp)) hl).mono ?_; rintro e w5 ⟨rfl, hq5, hk5⟩)))
  have HQ := hide hq5
  have HK := hide (((Kept.refl [qc] w).drew).trans hk5 (by simp))
  have hne := (unhide H).ne
  have hob := (unhide HK).obj (unhide H).box (by simp; omega)
  have d1 : w5.cell? ⟨sg, 1, none⟩ = some (.int .u64 (ty : Int)) := obj_cell hob 1
  have dz : ∀ i, w5.frozen? ⟨sg, i, none⟩ = false := obj_frozen hob
  clear hq5 hk5 c0 c1 c2 c3 c4 c5 c6 cz hc0 hc1 hob hne
  go_wp2
  try rw [Exit.noGoto_ret]
  go_ret
  have hpush := (unhide H).push (unhide HQ) (unhide HK) hl (by have := unhide HS; omega) (by have := unhide HS; omega)
  refine ⟨rfl, hpush, ?_⟩
  exact ((unhide HK).mono (T := [sg, qc]) (by intro i _ hi; simp at hi ⊢; exact .inr hi)).trans ((Kept.refl [sg, qc] w5).setCell (.inl (by simp)) _) (by intro i _ hi; exact hi)
set_option maxRecDepth 100000 in
set_option maxHeartbeats 1000000 in
theorem stype_full (sg qg qc : Nat) (ks : List ByteArray) (ty se ac : Nat) (la : Int) (be ask : Bool) (A : Option Addr) (n c : Nat) (xs : List Int) (w : World) (h : SS w sg qg qc ks ty se ac la be ask) (hb : Byt w A n xs) (h1 : 1 ≤ n) (h8 : n ≤ 8) (hl : 64 ≤ ks.length) :
    Calls Try.prog 61 #[.pointer (some ⟨sg, 0, none⟩), .slice A n c] w fun e w' => e = .returned (.int .i64 8) ∧ Kept [] w w' := by
  obtain ⟨c0, c1, c2, c3, c4, c5, c6, cz, cl⟩ := h.cells
  have H := hide h
  have hc0 : (convert 96 9 (.slice A n c)).run Try.prog w = .ok (.string (strOfNums xs)) w := conv_byt hb (by omega)
  have hc1 : (convert 96 9 (.slice A n c)).run Try.prog w.drew = .ok (.string (strOfNums xs)) w.drew := conv_byt (hb.kept ((Kept.refl [] w).drew) (by simp)) (by omega)
  have hn : ((n : Int) == 0) = false := by simp; omega
  have hn8 : ¬ 8 < n := by omega
  have hn9 : n ≤ 9223372036854775807 := by omega
  have HB := hide hb
  clear h hb
  generalize hkey : strOfNums xs = key at *
  have HKEY := hide hkey.symm
  clear hkey
  go_enter Try.func61, Try.ntmps61
  go_wp2_with fail
  go_region_held3 (fun w' => w'.cell? ⟨sg, 0, none⟩ = some (.pointer (some ⟨qg, 0, none⟩)) ∧ (convert 96 9 (.slice A n c)).run Try.prog w' = .ok (.string key) w')
    (first
      | exact ⟨c0, hc1⟩)
    ((first
      | (go_at_call 26; refine (putS_no _ _ _ _ _ _ ((unhide H).q.next (S := []) ((Kept.refl [] w).drew) (by simp) (by simp)) hl).mono ?_; rintro e w5 ⟨rfl, rfl⟩)))
  go_wp2
  try rw [Exit.noGoto_ret]
  go_ret
  exact ⟨rfl, (Kept.refl [] w).drew⟩
set_option maxRecDepth 100000 in
theorem stype_long (sg : Nat) (A : Option Addr) (n c : Nat) (w : World) (h8 : 8 < n) (hm : n ≤ maxLen) :
    Calls Try.prog 61 #[.pointer (some ⟨sg, 0, none⟩), .slice A n c] w fun e w' => e = .returned (.int .i64 2) ∧ w = w' := by
  have hn : ((n : Int) == 0) = false := by simp; omega
  have hn9 : n ≤ 9223372036854775807 := by unfold maxLen at hm; omega
  clear hm
  go_enter Try.func61, Try.ntmps61
  go_wp2
  try rw [Exit.noGoto_ret]
  go_ret
  exact ⟨rfl, rfl⟩
set_option maxRecDepth 100000 in
theorem stype_none (sg : Nat) (A : Option Addr) (c : Nat) (w : World) :
    Calls Try.prog 61 #[.pointer (some ⟨sg, 0, none⟩), .slice A 0 c] w fun e w' => e = .returned (.int .i64 3) ∧ w = w' := by
  go_enter Try.func61, Try.ntmps61
  go_wp2
  try rw [Exit.noGoto_ret]
  go_ret
  exact ⟨rfl, rfl⟩
set_option maxRecDepth 100000 in
theorem stype_nil (A : Option Addr) (n c : Nat) (w : World) :
    Calls Try.prog 61 #[.pointer none, .slice A n c] w fun e w' => e = .returned (.int .i64 1) ∧ w = w' := by
  go_enter Try.func61, Try.ntmps61
  go_wp2
  try rw [Exit.noGoto_ret]
  go_ret
  exact ⟨rfl, rfl⟩
end Go.Proofs.Ytpdabmbjnmpgbaa
