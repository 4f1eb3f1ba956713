/-
  Package send: Echoed.
-/
import Derived.Test.YtpdabmbjnmpgbaaSty
import Derived.Test.YtpdabmbjnmpgbaaQut
namespace Go.Proofs.Ytpdabmbjnmpgbaa
open Go.Conc Go.RowKit
set_option linter.unusedVariables false

theorem SS.drop {w w' : World} {sg qg qc ty se ac N : Nat} {ks : List ByteArray} {la : Int} {be ask : Bool} (h : SS w sg qg qc ks ty se ac la be ask) (hq : QS w' qg qc 64 (ks.drop (N - ac))) (hk : Kept [qc] w w') (h1 : ac ≤ N) (h2 : N ≤ se) :
    SS (w'.setCell ⟨sg, 3, none⟩ (.int .u64 (N : Int))) sg qg qc (ks.drop (N - ac)) ty se N la be ask := by
  have hne := h.ne
  have K : Kept [sg] w' (w'.setCell ⟨sg, 3, none⟩ (.int .u64 (N : Int))) := (Kept.refl [sg] w').setCell (.inl (by simp)) _
  have hkl := h.kl
  have hsum := h.sum
  have hord := h.ord
  exact ⟨by have := obj_set (hk.obj h.box (by simp; omega)) 3 (.int .u64 (N : Int)); simpa [SndO] using this, hq.next K (by simp; omega) (by simp; omega), by simp; omega, by simp; omega, by omega, fun x hx => h.key x (List.mem_of_mem_drop hx)⟩
theorem sg_cell3 {w w' : World} {sg qg qc ty se ac : Nat} {ks : List ByteArray} {la : Int} {be ask : Bool} (h : SS w sg qg qc ks ty se ac la be ask) (hk : Kept [qc] w.drew w') : w'.cell? ⟨sg, 3, none⟩ = some (.int .u64 (ac : Int)) := by
  have hne := h.ne
  have k2 : Kept [qc] w w' := ((Kept.refl [qc] w).drew).trans hk (by simp)
  exact obj_cell (k2.obj h.box (by simp; omega)) 3
def SEchoed (w : World) (sg qg qc : Nat) (ks : List ByteArray) (ty se ac : Nat) (la : Int) (be ask : Bool) (e : Ending) (w' : World) : Prop :=
  e = .returned (.int .i64 0) ∧ SS w' sg qg qc ks ty se ac la be ask ∧ Kept [sg, qc] w w'
set_option maxRecDepth 100000 in
theorem sechoed_no (sg qg qc : Nat) (ks : List ByteArray) (ty se ac : Nat) (la : Int) (be ask : Bool) (n : Int) (w : World) (h : SS w sg qg qc ks ty se ac la be ask) (hn : (se : Int) < n ∨ n < (ac : Int)) :
    Calls Try.prog 65 #[.pointer (some ⟨sg, 0, none⟩), .int .u64 n] w fun e w' => e = .returned (.int .i64 16) ∧ w = w' := by
  obtain ⟨c0, c1, c2, c3, c4, c5, c6, cz, cl⟩ := h.cells
  clear h
  by_cases h1 : (se : Int) < n
  · clear hn
    go_enter Try.func65, Try.ntmps65
    go_wp2
    try rw [Exit.noGoto_ret]
    go_ret
    exact ⟨rfl, rfl⟩
  · have h2 : n < (ac : Int) := by omega
    clear hn
    go_enter Try.func65, Try.ntmps65
    go_wp2
    try rw [Exit.noGoto_ret]
    go_ret
    exact ⟨rfl, rfl⟩
set_option maxRecDepth 100000 in
theorem sechoed_nil (n : Int) (w : World) : Calls Try.prog 65 #[.pointer none, .int .u64 n] w fun e w' => e = .returned (.int .i64 1) ∧ w = w' := by
  go_enter Try.func65, Try.ntmps65
  go_wp2
  try rw [Exit.noGoto_ret]
  go_ret
  exact ⟨rfl, rfl⟩
set_option maxRecDepth 100000 in
set_option maxHeartbeats 1000000 in
theorem sechoed_yes (sg qg qc : Nat) (ks : List ByteArray) (ty se ac N : Nat) (la : Int) (be ask : Bool) (w : World) (h : SS w sg qg qc ks ty se ac la be ask) (h1 : ac ≤ N) (h2 : N ≤ se) (hty : ty ≤ 1000000) :
    Calls Try.prog 65 #[.pointer (some ⟨sg, 0, none⟩), .int .u64 (N : Int)] w (SEchoed w sg qg qc (ks.drop (N - ac)) ty se N la be ask) := by
  obtain ⟨c0, c1, c2, c3, c4, c5, c6, cz, cl⟩ := h.cells
  have H := hide h
  have g1 : ¬ (se : Int) < (N : Int) := by omega
  have g2 : ¬ (N : Int) < (ac : Int) := by omega
  have hsum := h.sum
  have hord := h.ord
  have hM : min (((N - ac : Nat) : Int)).toNat ks.length = N - ac := by omega
  have hW : IntKind.u64.wrap ((N : Int) - (ac : Int)) = ((N - ac : Nat) : Int) := by
    have e : ((N - ac : Nat) : Int) = (N : Int) - (ac : Int) := by omega
    rw [e, IntKind.wrap_u64]
    omega
  have hW2 : IntKind.i64.wrap (((N - ac : Nat) : Int)) = ((N - ac : Nat) : Int) := by rw [IntKind.wrap_i64]; omega
  have HM := hide hM
  clear h hsum hM
  generalize hMM : N - ac = M at *
  go_enter Try.func65, Try.ntmps65
  go_wp2_with fail
  have HD := fun W hq => dropS_any qg qc 64 ks (M : Int) W hq (unhide H).kl (by omega)
  rw [unhide HM] at HD
  go_region_held3 (fun w' => w'.cell? ⟨sg, 0, none⟩ = some (.pointer (some ⟨qg, 0, none⟩)) ∧ w'.cell? ⟨sg, 3, none⟩ = some (.int .u64 (ac : Int)))
    (first
      | exact ⟨c0, c3⟩
      | (rename_i hk5; exact ⟨sg_cell (unhide H) hk5, sg_cell3 (unhide H) hk5⟩))
    ((first
      | (go_at_call 82; refine (HD _ ((unhide H).q.next (S := []) ((Kept.refl [] w).drew) (by simp) (by simp))).mono ?_; rintro e w5 ⟨rfl, hq5, hk5⟩)))
  have HQ := hide hq5
  have HK := hide (((Kept.refl [qc] w).drew).trans hk5 (by simp))
  have hne := (unhide H).ne
  have hob := (unhide HK).obj (unhide H).box (by simp; omega)
  have d3 : w5.cell? ⟨sg, 3, none⟩ = some (.int .u64 (ac : Int)) := obj_cell hob 3
  have dz : ∀ i, w5.frozen? ⟨sg, i, none⟩ = false := obj_frozen hob
  clear hq5 hk5 c0 c1 c2 c3 c4 c5 c6 cz hob hne HD
  go_wp2
  try rw [Exit.noGoto_ret]
  go_ret
  subst hMM
  exact ⟨rfl, (unhide H).drop (unhide HQ) (unhide HK) h1 h2, ((unhide HK).mono (T := [sg, qc]) (by intro i _ hi; simp at hi ⊢; exact .inr hi)).trans ((Kept.refl [sg, qc] w5).setCell (.inl (by simp)) _) (by intro i _ hi; exact hi)⟩
end Go.Proofs.Ytpdabmbjnmpgbaa
