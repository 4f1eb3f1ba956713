/-
  bytes.Clone of a key, keygram.Last, keygram.Key.
-/
import Derived.Test.YtpdabmbjnmpgbaaOpa
namespace Go.Proofs.Ytpdabmbjnmpgbaa
open Go.Conc Go.RowKit
set_option linter.unusedVariables false
theorem info5 : (Try.prog.info? 5).map (fun i => (i.zero, i.size, i.bytes)) = some (some (.int .u8 0), 1, 1) := by kernel_rfl
theorem own_lit5 (w : World) (base B : Nat) (hB : B = w.heap.size) (hb : base ≤ B) : (w.alloc (.cells #[] 5)).ownsRow base 5 1 (.slice (some ⟨B, 0, none⟩) 0 0) 0 [] := by
  subst hB
  exact ⟨by simp, .inr ⟨w.heap.size, 0, #[], rfl, hb, obj_new w _, by omega, by unfold maxLen; omega, by simp, by simp⟩⟩
theorem byt_own {w : World} {base n : Nat} {v : Value} {xs : List Int} (h : w.ownsRow base 5 1 v n (xs.map (Value.int .u8))) : ∃ A cp, v = .slice A n cp ∧ Byt w A n xs ∧ ∀ a, A = some a → base ≤ a.block := by
  have hl : xs.length = n := by have := h.1; simpa using this
  have h0 := h
  rcases h.2 with ⟨rfl, h2⟩ | ⟨g, cap, cur, rfl, hb, hgg, hnc, hcm, hcs, htk⟩
  · exact ⟨none, 0, by rw [h2], ⟨hl, .inl h2⟩, by simp⟩
  · refine ⟨some ⟨g, 0, none⟩, cap, rfl, ⟨hl, .inr ⟨g, 0, rfl, heap_lt hgg, fun j hj => ?_⟩⟩, by rintro a ⟨⟩; exact hb⟩
    have h3 := h0.cells (g := g) rfl j (.int .u8 (xs.getD j (0))) (by simp [List.getElem?_map, List.getD_eq_getElem?_getD, List.getElem?_eq_getElem (show j < xs.length by omega)])
    rwa [add_plain] at h3
/-- What comes of a clone: the bytes, in a block of their own. -/
def Cloned (w : World) (n : Nat) (xs : List Int) (e : Ending) (w' : World) : Prop := ∃ A cp, e = .returned (.slice A n cp) ∧ Byt w' A n xs ∧ Kept [] w w'
set_option maxRecDepth 100000 in
set_option maxHeartbeats 1000000 in
theorem clone_yes (b off : Nat) (n c : Nat) (xs : List Int) (w : World) (h : Byt w (some ⟨b, off, none⟩) n xs) (h1 : 1 ≤ n) (h8 : n ≤ 64) :
    Calls Try.prog 83 #[.slice (some ⟨b, off, none⟩) n c] w (Cloned w n xs) := by
  obtain ⟨i0, hi0, hz0, hz1, hz2⟩ := info_parts info5
  have H := hide h
  clear h
  have hnil := fun W a n c n' c' => Lib.run_eql_slice_nil (P := Try.prog) W 96 5 a n c n' c' Try.underlying96
  go_enter Try.func83, Try.ntmps83
  go_wp2_with (at_builtin; refine wpList_append_own _ rfl _ _ 96 rfl w.heap.size 5 i0 (.int .u8 0) 1 1 Try.underlying96 hi0 hz0 hz1 hz2 rfl (by decide) _ 0 [] rfl (own_lit5 w _ _ rfl (Nat.le_refl _)) ⟨b, off, none⟩ n c (xs.map (Value.int .u8)) rfl ?c0 ?c1 ?c2 ?c3 ?c4 ?c5 ?_)
  case c0 => simp [(unhide H).1]
  case c1 =>
    intro j u hj
    have hb := (unhide H).kept ((Kept.refl [] w).alloc (.cells #[] 5)) (by simp)
    rcases hb.2 with h2 | ⟨b2, off2, hA, hlt, hc⟩
    · omega
    · injection hA with hA
      injection hA with e1 e2 e3
      subst e1 e2
      rw [List.getElem?_map] at hj
      have hl := hb.1
      by_cases hjl : j < xs.length
      · rw [List.getElem?_eq_getElem hjl] at hj
        simp only [Option.map_some, Option.some.injEq] at hj
        rw [← hj, add_plain, hc j (by omega)]
        simp [List.getD_eq_getElem?_getD, List.getElem?_eq_getElem hjl]
      · rw [List.getElem?_eq_none (by omega)] at hj; cases hj
  case c2 => simp [Value.oneCell']
  case c3 => unfold maxLen; omega
  case c4 => omega
  case c5 => simp
  intro v1 w1 hown hgrow _
  obtain ⟨A1, cp1, rfl, hby, hA1⟩ := byt_own (xs := xs) (by simpa using hown)
  have hk : Kept [] w w1 := ((Kept.refl [] w).alloc _).grown hgrow (fun g hg => .inr (by simp [Value.ownBlock] at hg; omega))
  have BY := hide hby
  have HK := hide hk
  clear hown hgrow hby hk hA1
  go_wp2
  go_ret
  exact ⟨A1, cp1, by simp, unhide BY, unhide HK⟩
set_option maxRecDepth 100000 in
theorem last_ok (ack stamp rows cols first : Int) (A : Option Addr) (n cp : Nat) (w : World) (hr : okSide rows = true) (hc : okSide cols = true) (h1 : 1 ≤ first) (h2 : first ≤ 1000000) (hn : n ≤ 64) (hk : KLen w A n) :
    Calls Try.prog 67 #[.agg #[.int .u64 ack, .int .u64 stamp, .int .i64 rows, .int .i64 cols, .int .u64 first, .slice A n cp]] w fun e w' => e = .returned (.int .u64 (first - 1 + n)) ∧ Kept [] w w' := by
  have HR := hide hr
  have HC := hide hc
  have HK := hide hk
  have hn9 : n ≤ 9223372036854775807 := by omega
  have w1 : IntKind.u64.wrap (first - 1) = first - 1 := by have e := IntKind.wrap_u64 (first - 1); omega
  have w2 : IntKind.u64.wrap (first - 1 + (n : Int)) = first - 1 + (n : Int) := by have e := IntKind.wrap_u64 (first - 1 + (n : Int)); omega
  have w3 : IntKind.u64.wrap (n : Int) = (n : Int) := by have e := IntKind.wrap_u64 (n : Int); omega
  clear hr hc hk
  go_enter Try.func67, Try.ntmps67
  go_wp2_with fail
  have ho : (w.alloc (GmO ack stamp rows cols first A n cp)).heap[w.heap.size]? = some (GmO ack stamp rows cols first A n cp) := obj_new _ _
  have ka : Kept [] w (w.alloc (GmO ack stamp rows cols first A n cp)) := (Kept.refl [] w).alloc _
  change Calls _ _ _ (w.alloc (GmO ack stamp rows cols first A n cp)) _
  generalize w.alloc (GmO ack stamp rows cols first A n cp) = wa at *
  refine (check_okI _ _ _ _ _ _ _ _ _ (unhide HR) (unhide HC) h1 h2 hn ((unhide HK).kept ka)).mono ?_
  rintro e w5 ⟨rfl, hk5⟩
  have ho5 := hk5.obj ho (by simp)
  have c4 := obj_cell ho5 4
  have c5 := obj_cell ho5 5
  have K5 := hide (ka.trans hk5 (by simp))
  clear ho ka hk5 ho5
  go_wp2
  go_ret
  exact ⟨rfl, unhide K5⟩
/-- What Key answers: the key's bytes. -/
def KeyYes (w : World) (k : ByteArray) (e : Ending) (w' : World) : Prop := ∃ A cp, e = .returned (.tuple #[.slice A k.size cp, .bool true]) ∧ Byt w' A k.size (numsOf k) ∧ Kept [] w w'
set_option maxRecDepth 100000 in
set_option maxHeartbeats 1000000 in
theorem key_no (ack stamp rows cols first N : Int) (A : Option Addr) (n cp : Nat) (w : World) (hr : okSide rows = true) (hc : okSide cols = true) (h1 : 1 ≤ first) (h2 : first ≤ 1000000) (hn : n ≤ 64) (hk : KLen w A n) (hN : N < first) :
    Calls Try.prog 68 #[.agg #[.int .u64 ack, .int .u64 stamp, .int .i64 rows, .int .i64 cols, .int .u64 first, .slice A n cp], .int .u64 N] w fun e w' => e = .returned (.tuple #[.slice none 0 0, .bool false]) ∧ Kept [] w w' := by
  have HR := hide hr
  have HC := hide hc
  have HK := hide hk
  have hn9 : n ≤ 9223372036854775807 := by omega
  clear hr hc hk
  go_enter Try.func68, Try.ntmps68
  go_wp2_with fail
  have ho : (w.alloc (GmO ack stamp rows cols first A n cp)).heap[w.heap.size]? = some (GmO ack stamp rows cols first A n cp) := obj_new _ _
  have ka : Kept [] w (w.alloc (GmO ack stamp rows cols first A n cp)) := (Kept.refl [] w).alloc _
  change Calls _ _ _ (w.alloc (GmO ack stamp rows cols first A n cp)) _
  generalize w.alloc (GmO ack stamp rows cols first A n cp) = wa at *
  refine (check_okI _ _ _ _ _ _ _ _ _ (unhide HR) (unhide HC) h1 h2 hn ((unhide HK).kept ka)).mono ?_
  rintro e w5 ⟨rfl, hk5⟩
  have ho5 := hk5.obj ho (by simp)
  have c4 := obj_cell ho5 4
  have c5 := obj_cell ho5 5
  have K5 := hide (ka.trans hk5 (by simp))
  clear ho ka hk5 ho5
  go_wp2
  go_ret2
  exact ⟨rfl, unhide K5⟩
set_option maxRecDepth 100000 in
set_option maxHeartbeats 1000000 in
theorem key_yes (ack stamp rows cols first : Int) (A : Option Addr) (ks : List ByteArray) (cp base j : Nat) (w : World) (hr : okSide rows = true) (hc : okSide cols = true) (h1 : 1 ≤ first) (h2 : first ≤ 1000000) (hn : ks.length ≤ 64) (hk : KRows w base A ks) (hl : ∀ k ∈ ks, 1 ≤ ByteArray.size k ∧ ByteArray.size k ≤ 8) (hj : j < ks.length) (N : Int) (hN : N = first + (j : Int)) :
    Calls Try.prog 68 #[.agg #[.int .u64 ack, .int .u64 stamp, .int .i64 rows, .int .i64 cols, .int .u64 first, .slice A ks.length cp], .int .u64 N] w (KeyYes w (ks.getD j ByteArray.empty)) := by
  have HR := hide hr
  have HC := hide hc
  have HK := hide hk
  have HL := hide hl
  have hsz := hl (ks.getD j ByteArray.empty) (by rw [List.getD_eq_getElem?_getD, List.getElem?_eq_getElem hj]; exact List.getElem_mem hj)
  have hn9 : ks.length ≤ 9223372036854775807 := by omega
  have g1 : ¬ N < first := by omega
  have w1 : IntKind.u64.wrap (N - first) = (j : Int) := by have e := IntKind.wrap_u64 (N - first); omega
  have w3 : IntKind.u64.wrap (ks.length : Int) = (ks.length : Int) := by have e := IntKind.wrap_u64 (ks.length : Int); omega
  have g2 : ¬ ks.length ≤ j := by omega
  clear hr hc hk hl hN
  go_enter Try.func68, Try.ntmps68
  go_wp2_with fail
  have ho : (w.alloc (GmO ack stamp rows cols first A ks.length cp)).heap[w.heap.size]? = some (GmO ack stamp rows cols first A ks.length cp) := obj_new _ _
  have ka : Kept [] w (w.alloc (GmO ack stamp rows cols first A ks.length cp)) := (Kept.refl [] w).alloc _
  change Calls _ _ _ (w.alloc (GmO ack stamp rows cols first A ks.length cp)) _
  generalize w.alloc (GmO ack stamp rows cols first A ks.length cp) = wa at *
  refine (check_okI _ _ _ _ _ _ _ _ _ (unhide HR) (unhide HC) h1 h2 hn ((klen_krows (unhide HK) (unhide HL)).kept ka)).mono ?_
  rintro e w5 ⟨rfl, hk5⟩
  have ho5 := hk5.obj ho (by simp)
  have c4 := obj_cell ho5 4
  have c5 := obj_cell ho5 5
  have hk0 := ka.trans hk5 (by simp)
  obtain ⟨b, off, v, rfl, hb1, hb2, hb3, bk, cpk, rfl, h4, h5, h6, h7⟩ := (unhide HK) j hj
  have c6 := (hk0.cell (p := ⟨b, off + j, none⟩) hb2 (by simp)).trans hb3
  have BY := hide (h7.kept hk0 (by simp))
  have K5 := hide hk0
  clear ho ka hk5 ho5 hk0 hb1 hb2 hb3 h4 h5 h6 h7
  generalize ks.getD j ByteArray.empty = key at *
  go_wp2_with fail
  refine (clone_yes bk 0 _ _ _ _ (unhide BY) (by omega) (by omega)).mono ?_
  rintro e w6 ⟨A6, cp6, rfl, hby6, hk6⟩
  have BY6 := hide hby6
  have K6 := hide ((unhide K5).trans hk6 (by simp))
  clear hby6 hk6
  go_wp2
  go_ret2
  exact ⟨A6, cp6, by simp, unhide BY6, unhide K6⟩
end Go.Proofs.Ytpdabmbjnmpgbaa
