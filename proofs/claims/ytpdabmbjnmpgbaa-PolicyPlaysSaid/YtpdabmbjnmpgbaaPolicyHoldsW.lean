/-
  The walk of PolicyHolds.
-/
import Derived.Test.YtpdabmbjnmpgbaaPon
import Derived.Test.YtpdabmbjnmpgbaaOps
import Derived.Deep.RegionWith
namespace Go.Proofs.Ytpdabmbjnmpgbaa
open Go.RowKit
set_option linter.unusedVariables false

theorem PActs.kept {w w' : World} {A : Option Addr} {n : Nat} (h : PActs w A n) (k : Kept [] w w') : PActs w' A n :=
  ⟨h.1, fun i hi => by
    obtain ⟨b, off, k', m, kn, lv, rfl, hb, wm, c0, c1, c2, c3⟩ := h.2 i hi
    exact ⟨b, off, k', m, kn, lv, rfl, Nat.lt_of_lt_of_le hb k.size, wm, (k.cell (p := ⟨b, _, none⟩) hb (by simp)).trans c0, (k.cell (p := ⟨b, _, none⟩) hb (by simp)).trans c1, (k.cell (p := ⟨b, _, none⟩) hb (by simp)).trans c2, (k.cell (p := ⟨b, _, none⟩) hb (by simp)).trans c3⟩⟩
theorem rem3 (n : Int) : wrap64 ((IntKind.u64.wrap n).tmod 3) = 0 ∨ wrap64 ((IntKind.u64.wrap n).tmod 3) = 1 ∨ wrap64 ((IntKind.u64.wrap n).tmod 3) = 2 := by
  have h0 : 0 ≤ IntKind.u64.wrap n := by simp only [IntKind.wrap, IntKind.signed]; simp; omega
  have h1 : (IntKind.u64.wrap n).tmod 3 = IntKind.u64.wrap n % 3 := Int.tmod_eq_emod_of_nonneg h0
  rw [h1]
  unfold wrap64
  omega
theorem ren_twiceS (m : Int) (sh : Bool) (tm : Int) (kn lv : Bool) : renS m (renS m sh tm kn lv) tm kn lv = renS m sh tm kn lv := by
  unfold renS
  (repeat' split) <;> simp_all
theorem ren_twiceM (m : Int) (mk : Bool) (tm : Int) (kn : Bool) : renM m (renM m mk tm kn) tm kn = renM m mk tm kn := by
  unfold renM
  (repeat' split) <;> simp_all
theorem ren_live (sh : Bool) (tm : Int) (kn : Bool) (h : sh = true) (m : Int) (hm : m ≠ 0) : renS m sh tm kn true = true := by
  unfold renS
  (repeat' split) <;> simp_all

def InvSh (mm : Int) (sh : Bool) : Prop := mm = 0 → sh = false
theorem kcell {S : List Nat} {a b : World} (h : Kept [] a b) : ∀ (bl o : Nat), bl < a.heap.size → b.cell? ⟨bl, o, none⟩ = a.cell? ⟨bl, o, none⟩ := fun bl o hl => h.cell (p := ⟨bl, o, none⟩) hl (by simp)

set_option maxRecDepth 100000 in
set_option maxHeartbeats 4000000 in
theorem holds_mode0 (w : World) (mode : Int) (A : Option Addr) (n c : Nat) (hA : PActs w A n) (hM : wrap64 ((IntKind.u64.wrap mode).tmod 3) = 0) :
    Calls Try.prog 7 #[.int .i64 mode, .slice A n c] w (PHolds w true) := by
  have hl : n ≤ 9223372036854775807 := hA.1
  have HA := hide hA
  clear hA
  go_enter Try.func7, Try.ntmps7
  go_wp2_with fail
  refine (pnew_yes 0 _ (by omega)).mono ?_
  rintro e w1 ⟨rfl, ho, hk⟩
  have HO := hide ho
  have HK := hide hk
  clear ho hk
  go_wp2_with fail
  go_loopw [7] (fun i wr => ∃ (k : Nat) (sh mk : Bool), k ≤ n ∧ k ≤ 60 ∧ i = .int .i64 k ∧ wr.heap[w.heap.size]? = some (PolO sh mk 0) ∧ Kept [] w wr ∧ InvSh 0 sh) (fun i _ => 60 - (intOf i).toNat)
  case atStart => exact ⟨0, _, _, by omega, by omega, rfl, unhide HO, unhide HK, fun h => rfl⟩
  case round =>
    obtain ⟨k, sh, mk, hkn, hk60, rfl, ho, hk, hsh⟩ := hrel
    have HO1 := hide ho
    have HK1 := hide hk
    have HSH := hide hsh
    clear ho hk hsh
    by_cases hlt : k < n ∧ k < 60
    · obtain ⟨hlt1, hlt2⟩ := hlt
      obtain ⟨b, off, kd, m, kn, lv, rfl, hb, wm, c0, c1, c2, c3⟩ := ((unhide HA).kept (unhide HK1)).2 k hlt1
      clear wm
      go_wp2_with fail
      refine (shows_any _ _ _ _ _ (obj_alloc (unhide HO1) _)).mono ?_
      rintro e w' ⟨rfl, rfl⟩
      go_wp2_with fail
      refine (renew_any _ _ _ _ _ _ _ _ (obj_alloc (unhide HO1) _) (by omega)).mono ?_
      rintro e w2 ⟨rfl, ho2, hk2⟩
      have hlt3 := heap_lt (unhide HO1)
      have HO2 := hide ho2
      have HK2 := hide (kept_next ((unhide HK1).alloc _) hk2 (by simp))
      have HX := hide (hk2.obj (obj_new wr _) (by simp; omega))
      clear ho2 hk2
      obtain ⟨x1, x2, x3⟩ : w2.cell? ⟨wr.heap.size, 1, none⟩ = some (.int .i64 m) ∧ w2.cell? ⟨wr.heap.size, 2, none⟩ = some (.bool kn) ∧ w2.cell? ⟨wr.heap.size, 3, none⟩ = some (.bool lv) := ⟨obj_cell (unhide HX) 1, obj_cell (unhide HX) 2, obj_cell (unhide HX) 3⟩
      go_wp2_with fail
      refine (shows_any _ _ _ _ _ (unhide HO2)).mono ?_
      rintro e w' ⟨rfl, rfl⟩
      go_wp2_with fail
      refine (under_any _ _ _ _ _ (unhide HO2)).mono ?_
      rintro e w' ⟨rfl, rfl⟩
      go_wp2_with fail
      refine (renew_any _ _ _ _ _ _ _ _ (unhide HO2) (by omega)).mono ?_
      rintro e w3 ⟨rfl, ho3, hk3⟩
      rw [ren_twiceS, ren_twiceM] at ho3
      have HO3 := hide ho3
      have HK3 := hide (kept_next (unhide HK2) hk3 (by simp))
      have HX3 := hide (hk3.obj (unhide HX) (by simp; omega))
      clear ho3 hk3 x1 x2 x3 HO2
      have x3 : w3.cell? ⟨wr.heap.size, 3, none⟩ = some (.bool lv) := obj_cell (unhide HX3) 3
      have hsh := unhide HSH
      clear HSH HX HX3 c0 c1 c2 c3
      have hs1 : renS 0 sh m kn lv = false := rfl
      generalize renS 0 sh m kn lv = s1 at *
      generalize renM 0 mk m kn = m1 at *
      subst s1
      obtain rfl : sh = false := hsh rfl
      rcases lv with _ | _ <;> rcases m1 with _ | _
      all_goals
        clear hsh
        go_wp2_with (first
          | (go_at_call 35; refine (shows_any _ _ _ _ _ (unhide HO3)).mono ?_; rintro e w' ⟨rfl, rfl⟩)
          | (go_at_call 37; refine (under_any _ _ _ _ _ (unhide HO3)).mono ?_; rintro e w' ⟨rfl, rfl⟩))
        exact ⟨⟨k + 1, _, _, by omega, by omega, by go_num, unhide HO3, unhide HK3, fun h => rfl⟩, by simp [intOf]; omega⟩
    · have HX : Hid (¬ (k < n ∧ k < 60)) := hide hlt
      clear hlt
      by_cases hn : k < n
      · have h6 : ¬ k < 60 := fun h => unhide HX ⟨hn, h⟩
        go_wp2_with fail
        go_region_with ((first
          | (go_at_call 38; refine (known26 _).mono ?_; rintro e w5 ⟨rfl, hk5⟩; have hc5 := kcell (S := []) hk5)
          | (go_at_call 39; refine (word0 _).mono ?_; rintro e w' ⟨rfl, rfl⟩)))
        all_goals
          go_wp2
          go_ret
          refine ⟨rfl, ?_⟩
          repeat (first | exact (Kept.trans (by repeat (first | exact unhide HK1 | apply Kept.drewN | apply Kept.drew | apply Kept.alloc)) hk5 (by simp)) | apply Kept.drewN | apply Kept.drew | apply Kept.alloc)
      · have h6 : ¬ k < n := hn
        go_wp2_with fail
        go_region_with ((first
          | (go_at_call 38; refine (known26 _).mono ?_; rintro e w5 ⟨rfl, hk5⟩; have hc5 := kcell (S := []) hk5)
          | (go_at_call 39; refine (word0 _).mono ?_; rintro e w' ⟨rfl, rfl⟩)))
        all_goals
          go_wp2
          go_ret
          refine ⟨rfl, ?_⟩
          repeat (first | exact (Kept.trans (by repeat (first | exact unhide HK1 | apply Kept.drewN | apply Kept.drew | apply Kept.alloc)) hk5 (by simp)) | apply Kept.drewN | apply Kept.drew | apply Kept.alloc)
end Go.Proofs.Ytpdabmbjnmpgbaa
