/-
  The walk of QueuePlays.
-/
import Derived.Test.YtpdabmbjnmpgbaaQqs
import Derived.Test.YtpdabmbjnmpgbaaQueueOrderW
import Derived.Deep.CutRange
import Derived.Deep.CutBlock
import Derived.Deep.DeepCutAuto
import Derived.Deep.RegionHeld3
namespace Go.Proofs.Ytpdabmbjnmpgbaa
open Go.Conc Go.RowKit
set_option linter.unusedVariables false
set_option maxRecDepth 100000 in
set_option maxHeartbeats 1000000 in
theorem qplays_no (w : World) (room other : Int) (A : Option Addr) (n c : Nat) (h : room < 1 ∨ 256 < room) :
    Calls Try.prog 11 #[.int .i64 room, .int .i64 other, .slice A n c] w (QHolds [] w true) := by
  rcases h with h | h
  all_goals
    go_enter Try.func11, Try.ntmps11
    go_wp2_with fail
    refine (newI_no _ _ (by omega)).mono ?_
    rintro e w' ⟨rfl, rfl⟩
    go_wp2_with fail
    refine (known15 _).mono ?_
    rintro e w1 ⟨rfl, hk⟩
    go_wp2
    go_ret
    exact ⟨rfl, hk⟩
theorem QPS.docs2 {w wr w2 : World} {t : Sts} {xs ys us vs us2 vs2 : List Int} {A B A2 B2 : Option Addr} {n cp m cq n2 cp2 m2 cq2 : Nat} (h : QPS w wr t xs ys us vs A n cp B m cq) (hk : Kept [] wr w2) (hd : Doc w2 A2 n2 cp2 us2) (he : Doc w2 B2 m2 cq2 vs2)
    (ha : ∀ a, A2 = some a → A = some a ∨ wr.heap.size ≤ a.block) (hb : ∀ a, B2 = some a → B = some a ∨ wr.heap.size ≤ a.block) (o1 o2 : Obj) :
    QPS w ((((((w2.setCell ⟨t.B1, 0, none⟩ (.slice A2 n2 cp2)).setCell ⟨t.B1, 1, none⟩ (.int .i64 t.cap1)).setCell ⟨t.B2, 0, none⟩ (.slice B2 m2 cq2)).setCell ⟨t.B2, 1, none⟩ (.int .i64 t.cap2)).alloc o1).alloc o2).drew t xs ys us2 vs2 A2 n2 cp2 B2 m2 cq2 := by
  have hl := h.lo
  have hz := heap_lt h.bn
  have hw : Kept [t.B1, t.B2] w2 ((((((w2.setCell ⟨t.B1, 0, none⟩ (.slice A2 n2 cp2)).setCell ⟨t.B1, 1, none⟩ (.int .i64 t.cap1)).setCell ⟨t.B2, 0, none⟩ (.slice B2 m2 cq2)).setCell ⟨t.B2, 1, none⟩ (.int .i64 t.cap2)).alloc o1).alloc o2).drew :=
    (((((((Kept.refl [t.B1, t.B2] w2).setCell (.inl (by simp)) _).setCell (.inl (by simp)) _).setCell (.inl (by simp)) _).setCell (.inl (by simp)) _).alloc o1).alloc o2).drew
  have hA : ∀ a, A2 = some a → t.B2 < a.block := fun a h1 => by
    rcases ha a h1 with h3 | h3
    · exact h.sa a h3
    · omega
  have hB : ∀ a, B2 = some a → t.B2 < a.block := fun a h1 => by
    rcases hb a h1 with h3 | h3
    · exact h.sb a h3
    · omega
  refine h.docs ((hk.mono (by simp)).trans hw (by intro i _ hi; exact hi)) ?_ ?_ (hd.kept hw (fun a h1 => by have := hA a h1; simp; omega)) (he.kept hw (fun a h1 => by have := hB a h1; simp; omega)) hA hB
  · have h1 := obj_alloc (obj_alloc (obj_far (obj_far (obj_set (obj_set (hk.obj h.bm (by simp)) 0 (.slice A2 n2 cp2)) 1 (.int .i64 t.cap1)) (p := ⟨t.B2, 0, none⟩) (by simp; omega) (.slice B2 m2 cq2)) (p := ⟨t.B2, 1, none⟩) (by simp; omega) (.int .i64 t.cap2)) o1) o2
    have h2 := ((Kept.refl [] _).drew).obj h1 (by simp)
    simpa using h2
  · have h0 := obj_far (obj_far (hk.obj h.bn (by simp)) (p := ⟨t.B1, 0, none⟩) (by simp; omega) (.slice A2 n2 cp2)) (p := ⟨t.B1, 1, none⟩) (by simp; omega) (.int .i64 t.cap1)
    have h1 := obj_alloc (obj_alloc (obj_set (obj_set h0 0 (.slice B2 m2 cq2)) 1 (.int .i64 t.cap2)) o1) o2
    have h2 := ((Kept.refl [] _).drew).obj h1 (by simp)
    simpa using h2
section
variable {w wr wj : World} {t : Sts} {xs ys us vs : List Int} {A B : Option Addr} {n cp m cq : Nat}
theorem qps_S (h : QPS w wr t xs ys us vs A n cp B m cq) : wr.cell? ⟨t.B1, 0, none⟩ = some (.slice A n cp) ∧ wr.cell? ⟨t.B2, 0, none⟩ = some (.slice B m cq) ∧ QPS w wr t xs ys us vs A n cp B m cq := ⟨h.cells.1, h.cells.2.2.1, h⟩
theorem qps_len (h : QPS w wr t xs ys us vs A n cp B m cq) : Calls Try.prog 46 #[.pointer (some ⟨t.g1, 0, none⟩)] wr fun e w' => e = .returned (.int .i64 xs.length) ∧ wr = w' := lenI_any _ _ _ _ _ h.s.p
theorem qps_room (h : QPS w wr t xs ys us vs A n cp B m cq) : Calls Try.prog 44 #[.pointer (some ⟨t.g1, 0, none⟩)] wr fun e w' => e = .returned (.int .i64 t.cap1) ∧ wr = w' := roomI_any _ _ _ _ _ h.s.p
theorem qps_roomq (h : QPS w wr t xs ys us vs A n cp B m cq) : Calls Try.prog 44 #[.pointer (some ⟨t.g2, 0, none⟩)] wr fun e w' => e = .returned (.int .i64 t.cap2) ∧ wr = w' := roomI_any _ _ _ _ _ h.s.q
theorem qps_self (h : QPS w wr t xs ys us vs A n cp B m cq) : Calls Try.prog 43 #[.pointer (some ⟨t.g1, 0, none⟩), .pointer (some ⟨t.g1, 0, none⟩)] wr fun e w' => e = .returned (.int .i64 0) ∧ wr = w' := pour_self _ _ _ _ _ h.s.p
/-- What All answers of a queue in this law. -/
def AllP (w : World) (t : Sts) (xs ys us vs : List Int) (A : Option Addr) (n cp : Nat) (B : Option Addr) (m cq : Nat) (zs : List Int) (e : Ending) (w' : World) : Prop :=
  ∃ Ap cpp, e = .returned (.slice Ap zs.length cpp) ∧ RdI w' Ap zs ∧ QPS w w' t xs ys us vs A n cp B m cq
theorem qps_allp (h : QPS w wr t xs ys us vs A n cp B m cq) (t1 : t.cap1 ≤ 256) : Calls Try.prog 42 #[.pointer (some ⟨t.g1, 0, none⟩)] wr (AllP w t xs ys us vs A n cp B m cq xs) := by
  refine (allI_any _ _ _ _ _ h.s.p h.s.px t1).mono ?_
  rintro e w3 ⟨v, rfl, hown, hq, hk⟩
  obtain ⟨Ap, cpp, rfl, _, hr, _⟩ := rdI_own hown
  exact ⟨Ap, cpp, rfl, hr, h.atp hq h.s.px hk⟩
theorem qps_allq (h : QPS w wr t xs ys us vs A n cp B m cq) (t2 : t.cap2 ≤ 256) : Calls Try.prog 42 #[.pointer (some ⟨t.g2, 0, none⟩)] wr (AllP w t xs ys us vs A n cp B m cq ys) := by
  refine (allI_any _ _ _ _ _ h.s.q h.s.qx t2).mono ?_
  rintro e w3 ⟨v, rfl, hown, hq, hk⟩
  obtain ⟨Ap, cpp, rfl, _, hr, _⟩ := rdI_own hown
  exact ⟨Ap, cpp, rfl, hr, h.atq hq h.s.qx hk⟩
/-- A copy, and what it was copied of: while the copy is asked. -/
structure Cop (w w3 wr : World) (t : Sts) (xs ys us vs : List Int) (A : Option Addr) (n cp : Nat) (B : Option Addr) (m cq : Nat) (g' c' : Nat) (zs : List Int) : Prop where
  was : QPS w w3 t xs ys us vs A n cp B m cq
  new : QI wr g' c' t.cap1 zs
  old : QI wr t.g1 t.c1 t.cap1 xs
  kept : Kept [t.c1] w3 wr
  gl : w3.heap.size ≤ g'
  cl : w3.heap.size ≤ c'
theorem Cop.now {g' c' : Nat} {zs : List Int} (h : Cop w wj wr t xs ys us vs A n cp B m cq g' c' zs) : QPS w wr t xs ys us vs A n cp B m cq := h.was.atp h.old h.was.s.px h.kept
theorem Cop.next {g' c' : Nat} {zs : List Int} {w5 : World} (h : Cop w wj wr t xs ys us vs A n cp B m cq g' c' zs) (k : Kept [] wr w5) : Cop w wj w5 t xs ys us vs A n cp B m cq g' c' zs :=
  ⟨h.was, h.new.next k (by simp) (by simp), h.old.next k (by simp) (by simp), h.kept.trans k (by simp), h.gl, h.cl⟩
theorem Cop.turn {g' c' : Nat} {zs ws : List Int} {w5 : World} (h : Cop w wj wr t xs ys us vs A n cp B m cq g' c' zs) (hq : QI w5 g' c' t.cap1 ws) (k : Kept [c'] wr w5) : Cop w wj w5 t xs ys us vs A n cp B m cq g' c' ws := by
  have h1 := h.was.s.p.lt
  have h2 := h.cl
  exact ⟨h.was, hq, h.old.next k (by simp; omega) (by simp; omega), h.kept.trans k (by intro i hi hm; simp at hm; omega), h.gl, h.cl⟩
theorem cop_S {g' c' : Nat} {zs : List Int} (h : Cop w wj wr t xs ys us vs A n cp B m cq g' c' zs) : wr.cell? ⟨t.B1, 0, none⟩ = some (.slice A n cp) ∧ Doc wr A n cp us ∧ Cop w wj wr t xs ys us vs A n cp B m cq g' c' zs := ⟨h.now.cells.1, h.now.da, h⟩
theorem cop_room {g' c' : Nat} {zs : List Int} (h : Cop w wj wr t xs ys us vs A n cp B m cq g' c' zs) : Calls Try.prog 44 #[.pointer (some ⟨g', 0, none⟩)] wr fun e w' => e = .returned (.int .i64 t.cap1) ∧ wr = w' := roomI_any _ _ _ _ _ h.new
def CopAll (w w3 : World) (t : Sts) (xs ys us vs : List Int) (A : Option Addr) (n cp : Nat) (B : Option Addr) (m cq : Nat) (g' c' : Nat) (k : Nat) (zs : List Int) (e : Ending) (w' : World) : Prop :=
  ∃ Ap cpp, e = .returned (.slice Ap k cpp) ∧ RdI w' Ap zs ∧ Cop w w3 w' t xs ys us vs A n cp B m cq g' c' zs
theorem cop_all {g' c' k : Nat} {zs : List Int} (h : Cop w wj wr t xs ys us vs A n cp B m cq g' c' zs) (t1 : t.cap1 ≤ 256) (hz : zs.length ≤ t.cap1) (hk : zs.length = k) : Calls Try.prog 42 #[.pointer (some ⟨g', 0, none⟩)] wr (CopAll w wj t xs ys us vs A n cp B m cq g' c' k zs) := by
  subst hk
  refine (allI_any _ _ _ _ _ h.new hz t1).mono ?_
  rintro e w3 ⟨v, rfl, hown, hq, hk⟩
  obtain ⟨Ap, cpp, rfl, _, hr, _⟩ := rdI_own hown
  exact ⟨Ap, cpp, rfl, hr, h.turn hq hk⟩
theorem cop_same {g' c' : Nat} {zs ws : List Int} {Ap Bx : Option Addr} {k ca cb : Nat} (h : Cop w wj wr t xs ys us vs A n cp B m cq g' c' zs) (hr : RdI wr Ap ws) (hd : Doc wr Bx k cb ws) (hu : k ≤ 256) : Calls Try.prog 45 #[.slice Ap k ca, .slice Bx k cb] wr fun e w' => e = .returned (.bool true) ∧ Cop w wj w' t xs ys us vs A n cp B m cq g' c' zs :=
  (same_n _ _ _ _ _ ws _ hr hd.rd hd.1 hu).mono (by rintro e w3 ⟨rfl, hk⟩; exact ⟨rfl, h.next hk⟩)
def CopPut (w w3 : World) (t : Sts) (xs ys us vs : List Int) (A : Option Addr) (n cp : Nat) (B : Option Addr) (m cq : Nat) (g' c' : Nat) (e : Ending) (w' : World) : Prop :=
  ∃ ok x zs, e = .returned (.bool ok) ∧ Cop w w3 w' t xs ys us vs A n cp B m cq g' c' (x :: zs)
theorem cop_put {g' c' : Nat} {zs : List Int} {z : Int} (h : Cop w wj wr t xs ys us vs A n cp B m cq g' c' zs) (t3 : 1 ≤ t.cap1) : Calls Try.prog 41 #[.pointer (some ⟨g', 0, none⟩), .int .i64 z] wr (CopPut w wj t xs ys us vs A n cp B m cq g' c') := by
  by_cases hl : zs.length < t.cap1
  · refine (putI_yes _ _ _ _ _ _ h.new hl).mono ?_
    rintro e w3 ⟨rfl, hq, hk⟩
    rcases zs with _ | ⟨x, zs⟩
    · exact ⟨true, z, [], rfl, h.turn hq hk⟩
    · exact ⟨true, x, zs ++ [z], rfl, h.turn hq hk⟩
  · refine (putI_no _ _ _ _ _ _ h.new (by omega)).mono ?_
    rintro e w3 ⟨rfl, rfl⟩
    rcases zs with _ | ⟨x, zs⟩
    · simp at hl; omega
    · exact ⟨false, x, zs, rfl, h⟩
theorem cop_take {g' c' : Nat} {x : Int} {zs : List Int} (h : Cop w wj wr t xs ys us vs A n cp B m cq g' c' (x :: zs)) : Calls Try.prog 55 #[.pointer (some ⟨g', 0, none⟩)] wr fun e w' => e = .returned (.tuple #[.int .i64 x, .bool true]) ∧ QPS w w' t xs ys us vs A n cp B m cq := by
  refine (takeI_yes _ _ _ _ _ _ h.new).mono ?_
  rintro e w3 ⟨rfl, hq, hk⟩
  exact ⟨rfl, (h.turn hq hk).now⟩
theorem qps_D (h : QPS w wr t xs ys us vs A n cp B m cq) : wr.cell? ⟨t.B1, 0, none⟩ = some (.slice A n cp) ∧ wr.cell? ⟨t.B2, 0, none⟩ = some (.slice B m cq) ∧ Doc wr A n cp us ∧ Doc wr B m cq vs ∧ QPS w wr t xs ys us vs A n cp B m cq := ⟨h.cells.1, h.cells.2.2.1, h.da, h.db, h⟩
theorem qps_same {Ap Bx : Option Addr} {k ca cb : Nat} {zs : List Int} (h : QPS w wr t xs ys us vs A n cp B m cq) (hr : RdI wr Ap zs) (hd : Doc wr Bx k cb zs) (hu : k ≤ 256) : Calls Try.prog 45 #[.slice Ap k ca, .slice Bx k cb] wr fun e w' => e = .returned (.bool true) ∧ QPS w w' t xs ys us vs A n cp B m cq :=
  (same_n _ _ _ _ _ zs _ hr hd.rd hd.1 hu).mono (by rintro e w3 ⟨rfl, hk⟩; exact ⟨rfl, h.next hk⟩)
theorem qps_samep {Ap : Option Addr} {cpp : Nat} (h : QPS w wr t us vs us vs A us.length cp B m cq) (hr : RdI wr Ap us) (hu : us.length ≤ 256) : Calls Try.prog 45 #[.slice Ap us.length cpp, .slice A us.length cp] wr fun e w' => e = .returned (.bool true) ∧ QPS w w' t us vs us vs A us.length cp B m cq :=
  (same_n _ _ _ _ _ us _ hr h.da.rd rfl hu).mono (by rintro e w3 ⟨rfl, hk⟩; exact ⟨rfl, h.next hk⟩)
theorem qps_sameq {Ap : Option Addr} {cpp : Nat} (h : QPS w wr t us vs us vs A n cp B vs.length cq) (hr : RdI wr Ap vs) (hu : vs.length ≤ 256) : Calls Try.prog 45 #[.slice Ap vs.length cpp, .slice B vs.length cq] wr fun e w' => e = .returned (.bool true) ∧ QPS w w' t us vs us vs A n cp B vs.length cq :=
  (same_n _ _ _ _ _ vs _ hr h.db.rd rfl hu).mono (by rintro e w3 ⟨rfl, hk⟩; exact ⟨rfl, h.next hk⟩)
end
set_option maxRecDepth 100000 in
set_option maxHeartbeats 4000000 in
theorem qplays_yes (w : World) (room other : Int) (A0 : Option Addr) (n c : Nat) (hA : QActs w A0 n) (h1 : 1 ≤ room) (h2 : room ≤ 256) :
    Calls Try.prog 11 #[.int .i64 room, .int .i64 other, .slice A0 n c] w (QHolds [] w true) := by
  have hl : n ≤ 9223372036854775807 := hA.1
  have HA := hide hA
  obtain ⟨r1, r2⟩ := rem_bd other 256 (by omega) (by omega)
  obtain ⟨cap1, rfl⟩ : ∃ cap1 : Nat, room = (cap1 : Int) := ⟨room.toNat, (Int.toNat_of_nonneg (by omega)).symm⟩
  have a1 : 1 ≤ cap1 := by omega
  have a2 : cap1 ≤ 256 := by omega
  have b1 : ¬ (cap1 : Int) < 1 := by omega
  clear hA h2
  go_enter Try.func11, Try.ntmps11
  go_wp2_with fail
  refine (newI_yes _ _ (by omega) (by omega)).mono ?_
  rintro e w1 ⟨rfl, hq, hk⟩
  rw [Int.toNat_natCast] at hq
  have Q1 := hide hq
  have K1 := hide hk
  clear hq hk
  go_wp2_with fail
  obtain ⟨cap2, hcap2⟩ : ∃ cap : Nat, 1 + wrap64 ((IntKind.u64.wrap other).tmod 256) = (cap : Int) := ⟨_, (Int.toNat_of_nonneg (by omega)).symm⟩
  rw [hcap2]
  have HC2 := hide hcap2
  have b1 : 1 ≤ cap2 := by omega
  have b2 : cap2 ≤ 256 := by omega
  clear hcap2 r1 r2
  refine (newI_yes (cap2 : Int) _ (by omega) (by omega)).mono ?_
  rintro e w2 ⟨rfl, hq, hk⟩
  rw [Int.toNat_natCast] at hq
  have hz := (unhide K1).size
  have hl1 := (unhide Q1).lt
  have hl2 := hq.lt
  have hs : PoS w w2 (w.heap.size + 1) w.heap.size cap1 (w1.heap.size + 1) w1.heap.size cap2 [] [] :=
    ⟨(unhide Q1).next hk (by simp) (by simp), hq, by omega, by omega, by omega, by simp, by simp, (unhide K1).trans hk (by simp)⟩
  have S0 := hide hs
  clear hq hk hs
  go_wp2_with fail
  refine (roomI_any _ _ _ _ _ (unhide S0).q).mono ?_
  rintro e w' ⟨rfl, rfl⟩
  obtain ⟨t, ht⟩ : ∃ t : Sts, t = ⟨w.heap.size + 1, w.heap.size, cap1, w1.heap.size + 1, w1.heap.size, cap2, w2.heap.size, w2.heap.size + 1⟩ := ⟨_, rfl⟩
  have hqp : QPS w ((w2.alloc (.cells #[.slice none 0 0, .int .i64 cap1] 77)).alloc (.cells #[.slice none 0 0, .int .i64 cap2] 77)) t [] [] [] [] none 0 0 none 0 0 := by
    subst ht
    exact ⟨(unhide S0).next (((Kept.refl [] w2).alloc _).alloc _), obj_alloc (obj_new w2 _) _, (by have := obj_new (w2.alloc (.cells #[.slice none 0 0, .int .i64 cap1] 77)) (.cells #[.slice none 0 0, .int .i64 cap2] 77); simpa using this), Doc.nil _, Doc.nil _, by simp, by simp, by simp; omega, by simp; omega, by simp; omega, by simp; omega, by simp; omega, by simp⟩
  have P0 := hide hqp
  have e1 : w.heap.size + 1 = t.g1 := by rw [ht]
  have e2 : w.heap.size = t.c1 := by rw [ht]
  have e3 : cap1 = t.cap1 := by rw [ht]
  have e4 : w1.heap.size + 1 = t.g2 := by rw [ht]
  have e5 : w1.heap.size = t.c2 := by rw [ht]
  have e6 : cap2 = t.cap2 := by rw [ht]
  have e7 : w2.heap.size = t.B1 := by rw [ht]
  have e8 : w2.heap.size + 1 = t.B2 := by rw [ht]
  have E1 := hide e1
  have E3 := hide e3
  have E4 := hide e4
  have E6 := hide e6
  have E7 := hide e7
  have E8 := hide e8
  clear hqp ht e1 e2 e3 e4 e5 e6 e7 e8 hz hl1 hl2 S0 Q1 K1
  go_wp2_with fail
  rw [unhide E8, unhide E7, unhide E4, unhide E1, unhide E3, unhide E6]
  have t1 : t.cap1 ≤ 256 := by have := unhide E3; omega
  have t2 : t.cap2 ≤ 256 := by have := unhide E6; omega
  have t3 : 1 ≤ t.cap1 := by have := unhide E3; omega
  clear E1 E4 E7 E8
  go_loopw [13] (fun i wr => ∃ (k : Nat) (xs ys : List Int) (A : Option Addr) (na cp : Nat) (B : Option Addr) (nb cq : Nat), k ≤ n ∧ k ≤ 60 ∧ i = .int .i64 k ∧ QPS w wr t xs ys xs ys A na cp B nb cq) (fun i _ => 60 - (intOf i).toNat)
  case atStart => exact ⟨0, [], [], none, 0, 0, none, 0, 0, by omega, by omega, rfl, by simpa only [unhide E3, unhide E6] using unhide P0⟩
  case round =>
    obtain ⟨k, xs, ys, A, na, cp, B, nb, cq, hkn, hk60, rfl, hs⟩ := hrel
    have S1 := hide hs
    clear hs P0
    by_cases hlt : k < n ∧ k < 60
    · obtain ⟨hlt1, hlt2⟩ := hlt
      obtain ⟨b, off, kd, nn, rfl, hb, wk, wn, hc0, hc1⟩ := (unhide HA).2 k hlt1
      have hc0' : wr.cell? ⟨b, off + k * 2, none⟩ = some (.int .i64 kd) := ((unhide S1).s.kept.cell (p := ⟨b, off + k * 2, none⟩) hb (by simp)).trans hc0
      have hc1' : wr.cell? ⟨b, off + k * 2 + 1, none⟩ = some (.int .i64 nn) := ((unhide S1).s.kept.cell (p := ⟨b, off + k * 2 + 1, none⟩) hb (by simp)).trans hc1
      clear hc0 hc1
      go_upto_block 2 with (fail)
      go_cut [] (fun wx => ∃ (xs ys : List Int) (A : Option Addr) (na cp : Nat) (B : Option Addr) (nb cq : Nat), QPS w wx t xs ys xs ys A na cp B nb cq)
      case first =>
        clear hb
        have hW : QPS w (wr.alloc (.cells #[.int .i64 kd, .int .i64 nn] 79)) t xs ys xs ys A na cp B nb cq := (unhide S1).next ((Kept.refl [] wr).alloc _)
        have hX : (wr.alloc (.cells #[.int .i64 kd, .int .i64 nn] 79)).heap[wr.heap.size]? = some (.cells #[.int .i64 kd, .int .i64 nn] 79) := obj_new wr _
        have hx1 : t.B1 ≠ wr.heap.size := by have := (unhide S1).cells; omega
        have hx2 : t.B2 ≠ wr.heap.size := by have := (unhide S1).cells; omega
        have hx3 : wr.heap.size ≠ t.B1 := fun e => hx1 e.symm
        have hx4 : wr.heap.size ≠ t.B2 := fun e => hx2 e.symm
        have hx5 : wr.heap.size ∉ [t.c1] := by have := (unhide S1).s.p.lt; simp; omega
        have hx6 : wr.heap.size ∉ [t.c2] := by have := (unhide S1).s.q.lt; simp; omega
        have S2 := hide hW
        have HX := hide hX
        have X5 := hide hx5
        have X6 := hide hx6
        clear hW hX hx5 hx6 hc0' hc1' S1
        generalize wr.alloc (.cells #[.int .i64 kd, .int .i64 nn] 79) = w3 at *
        generalize wr.heap.size = bx at *
        obtain ⟨m0, m1, m2, m3, mz0, mz1, mb0, mb1⟩ := (unhide S2).cells
        have x0 : w3.cell? ⟨bx, 0, none⟩ = some (.int .i64 kd) := obj_cell (unhide HX) 0
        have x1 : w3.cell? ⟨bx, 1, none⟩ = some (.int .i64 nn) := obj_cell (unhide HX) 1
        have nl1 : na ≤ 256 := by have h1 := (unhide S2).da.1; have h2 := (unhide S2).s.px; omega
        have nl2 : nb ≤ 256 := by have h1 := (unhide S2).db.1; have h2 := (unhide S2).s.qx; omega
        have nl3 : xs.length = na := (unhide S2).da.1
        have nl4 : ys.length = nb := (unhide S2).db.1
        have NL3 := hide nl3
        have NL4 := hide nl4
        clear nl3 nl4
        by_cases hk0 : kd = 0
        · as_aux_lemma =>
            subst hk0
            by_cases hroom : na < t.cap1
            · have HR := hide hroom
              clear hroom
              go_wp2_with fail
              refine (rput_yes _ _ _ _ _ _ _ (unhide S2).da (unhide HR) (by omega)).mono ?_
              rintro e w4 ⟨A4, n4, cp4, rfl, hd4, hk4, ha4⟩
              have S4 := hide (fun o => (unhide S2).docm hd4 hk4 (fun a ha => .inr (ha4 a ha)) o)
              have X4 := hide (hk4.obj (unhide HX) (by simp))
              have T4 := hide ((unhide S2).next hk4)
              clear hd4 hk4 ha4 m0 m1 m2 m3 mz0 mz1 mb0 mb1 x0 x1
              obtain ⟨m0, m1, m2, m3, mz0, mz1, mb0, mb1⟩ := (unhide T4).cells
              have xb : bx < w4.heap.size := heap_lt (unhide X4)
              have x1 : w4.cell? ⟨bx, 1, none⟩ = some (.int .i64 nn) := obj_cell (unhide X4) 1
              go_wp2_with fail
              refine (putI_yes _ _ _ _ _ _ (unhide S4 _).s.p (by have h1 := unhide HR; have h2 := unhide NL3; omega)).mono ?_
              rintro e w5 ⟨rfl, hq5, hk5⟩
              have S5 := hide ((unhide S4 _).atp hq5 (by have h1 := unhide HR; have h2 := unhide NL3; simp; omega) hk5)
              clear hq5 hk5 x1 m0 m1 m2 m3 mz0 mz1
              go_wp2_with fail
              go_meet
              exact ⟨_, _, _, _, _, _, _, _, unhide S5⟩
            · have HR : Hid (t.cap1 ≤ na) := hide (by omega)
              clear hroom
              go_wp2_with fail
              refine (rput_no _ _ _ _ _ _ nl1 (unhide HR)).mono ?_
              rintro e w4 ⟨rfl, hk4⟩
              have S4 := hide (fun o => (unhide S2).docm ((unhide S2).da.kept hk4 (by simp)) hk4 (fun a ha => .inl ha) o)
              have X4 := hide (hk4.obj (unhide HX) (by simp))
              have T4 := hide ((unhide S2).next hk4)
              clear hk4 m0 m1 m2 m3 mz0 mz1 mb0 mb1 x0 x1
              obtain ⟨m0, m1, m2, m3, mz0, mz1, mb0, mb1⟩ := (unhide T4).cells
              have xb : bx < w4.heap.size := heap_lt (unhide X4)
              have x1 : w4.cell? ⟨bx, 1, none⟩ = some (.int .i64 nn) := obj_cell (unhide X4) 1
              go_wp2_with fail
              refine (putI_no _ _ _ _ _ _ (unhide S4 _).s.p (by have h1 := unhide HR; have h2 := unhide NL3; omega)).mono ?_
              rintro e w' ⟨rfl, rfl⟩
              go_wp2_with fail
              go_meet
              exact ⟨_, _, _, _, _, _, _, _, unhide S4 _⟩
        · have b0 : (kd == 0) = false := by simpa using hk0
          clear hk0
          by_cases hk1 : kd = 1
          · as_aux_lemma =>
              subst hk1
              rcases xs with _ | ⟨x, xs⟩
              · have hz : na = 0 := by have := unhide NL3; simp at this; omega
                subst hz
                go_wp2_with fail
                refine (rtake_no _ _ _ _).mono ?_
                rintro e w4 ⟨rfl, hk4⟩
                have S4 := hide (fun o => (unhide S2).docm ((unhide S2).da.kept hk4 (by simp)) hk4 (fun a ha => .inl ha) o)
                have T4 := hide ((unhide S2).next hk4)
                clear hk4 m0 m1 m2 m3 mz0 mz1 mb0 mb1 x0 x1
                obtain ⟨m0, m1, m2, m3, mz0, mz1, mb0, mb1⟩ := (unhide T4).cells
                go_wp2_with fail
                refine (takeI_no _ _ _ _ (unhide S4 _).s.p).mono ?_
                rintro e w' ⟨rfl, rfl⟩
                go_wp2_with fail
                go_meet
                exact ⟨_, _, _, _, _, _, _, _, unhide S4 _⟩
              · go_wp2_with fail
                refine (rtake_yes _ _ _ _ _ _ _ (unhide S2).da nl1).mono ?_
                rintro e w4 ⟨A4, n4, cp4, rfl, hd4, hk4, ha4⟩
                have S4 := hide (fun o => (unhide S2).docm hd4 hk4 (fun a ha => .inr (ha4 a ha)) o)
                have T4 := hide ((unhide S2).next hk4)
                clear hd4 hk4 ha4 m0 m1 m2 m3 mz0 mz1 mb0 mb1 x0 x1
                obtain ⟨m0, m1, m2, m3, mz0, mz1, mb0, mb1⟩ := (unhide T4).cells
                go_wp2_with fail
                refine (takeI_yes _ _ _ _ _ _ (unhide S4 _).s.p).mono ?_
                rintro e w5 ⟨rfl, hq5, hk5⟩
                have S5 := hide ((unhide S4 _).atp hq5 (by have := (unhide S2).s.px; simp at this; omega) hk5)
                clear hq5 hk5 m0 m1 m2 m3 mz0 mz1
                go_wp2_with fail
                go_meet
                exact ⟨_, _, _, _, _, _, _, _, unhide S5⟩
          · have b1 : (kd == 1) = false := by simpa using hk1
            clear hk1
            by_cases hk2 : kd = 2
            · as_aux_lemma =>
                subst hk2
                obtain ⟨M, hM⟩ : ∃ M, M = min nn.toNat xs.length := ⟨_, rfl⟩
                have HM := hide hM
                have hM2 : M ≤ xs.length := by omega
                have HM2 := hide hM2
                have HM3 : Hid (M = min nn.toNat na) := hide (by have := unhide NL3; omega)
                clear hM hM2
                go_wp2_with fail
                refine (rdrop_any _ _ _ _ _ _ _ _ (unhide S2).da nl1 (unhide HM3)).mono ?_
                rintro e w4 ⟨A4, n4, cp4, rfl, hd4, hk4, ha4⟩
                have S4 := hide (fun o => (unhide S2).docm hd4 hk4 ha4 o)
                have X4 := hide (hk4.obj (unhide HX) (by simp))
                have T4 := hide ((unhide S2).next hk4)
                clear hd4 hk4 ha4 m0 m1 m2 m3 mz0 mz1 mb0 mb1 x0 x1
                obtain ⟨m0, m1, m2, m3, mz0, mz1, mb0, mb1⟩ := (unhide T4).cells
                have xb : bx < w4.heap.size := heap_lt (unhide X4)
                have x1 : w4.cell? ⟨bx, 1, none⟩ = some (.int .i64 nn) := obj_cell (unhide X4) 1
                go_wp2_with fail
                have HD := dropI_any _ _ _ _ nn _ (unhide S4 (.cells #[.slice A4 n4 cp4, .int .i64 t.cap1] 77)).s.p (unhide S4 (.cells #[.slice A4 n4 cp4, .int .i64 t.cap1] 77)).s.px t1
                rw [← unhide HM] at HD
                refine HD.mono ?_
                rintro e w5 ⟨rfl, hq5, hk5⟩
                have S5 := hide ((unhide S4 _).atp hq5 (by have := (unhide S2).s.px; simp; omega) hk5)
                clear hq5 hk5 m0 m1 m2 m3 mz0 mz1 x1 HD
                go_wp2_with fail
                go_meet
                exact ⟨_, _, _, _, _, _, _, _, unhide S5⟩
            · have b2 : (kd == 2) = false := by simpa using hk2
              clear hk2
              by_cases hk3 : kd = 3
              · as_aux_lemma =>
                  subst hk3
                  go_wp2_with fail
                  refine (qcopyI_any _ _ _ _ _ (unhide S2).s.p (unhide S2).s.px t3 t1).mono ?_
                  rintro e w4 ⟨g', c', rfl, hn4, ho4, hk4, hg4, hc4⟩
                  have hC : Cop w w3 w4 t xs ys xs ys A na cp B nb cq g' c' xs := ⟨unhide S2, hn4, ho4, hk4, hg4, hc4⟩
                  have hz4 : xs.length ≤ t.cap1 := (unhide S2).s.px
                  have hl4 : xs.length = na := unhide NL3
                  have hn9 : na ≤ 9223372036854775807 := by omega
                  have C4 := hide hC
                  have m0' : w4.cell? ⟨t.B1, 0, none⟩ = some (.slice A na cp) := hC.now.cells.1
                  clear hn4 ho4 hk4 hg4 hc4 m0 m1 m2 m3 mz0 mz1 mb0 mb1 x0 x1
                  have HZ4 := hide hz4
                  have HL4 := hide hl4
                  clear hl4 hz4 hC
                  go_wp2_with fail
                  go_region_held3 (fun w' => w'.cell? ⟨t.B1, 0, none⟩ = some (.slice A na cp) ∧ Doc w' A na cp xs ∧ Cop w w3 w' t xs ys xs ys A na cp B nb cq g' c' xs)
                    (first
                      | exact cop_S (unhide C4)
                      | (rename_i hq; exact cop_S hq)
                      | exact cop_S ((unhide C4).next ((Kept.refl [] _).drew))
                      | exact cop_S ((unhide C4).next ((Kept.refl [] _).drewN _)))
                    ((first
                      | (go_at_call 44; try go_split_ands; refine (cop_room (by assumption)).mono ?_; rintro e w' ⟨rfl, rfl⟩)
                      | (go_at_call 42; try go_split_ands; refine (cop_all (by assumption) t1 (unhide HZ4) (unhide HL4)).mono ?_; rintro e w5 ⟨Ap, cpp, rfl, hrp, hq⟩)
                      | (go_at_call 45; try go_split_ands; refine (cop_same (by assumption) (by assumption) (by assumption) (by assumption)).mono ?_; rintro e w5 ⟨rfl, hq⟩)))
                  go_split_ands
                  go_wp2_with fail
                  refine (cop_put (by assumption) t3).mono ?_
                  rintro e w8 ⟨ok, x8, z8, rfl, hq8⟩
                  go_wp2_with fail
                  refine (cop_take hq8).mono ?_
                  rintro e w9 ⟨rfl, hq9⟩
                  go_wp2_with fail
                  go_meet
                  exact ⟨_, _, _, _, _, _, _, _, hq9⟩
              · have b3 : (kd == 3) = false := by simpa using hk3
                clear hk3
                by_cases hk4 : kd = 4
                · as_aux_lemma =>
                    subst hk4
                    obtain ⟨M, hM⟩ : ∃ M, M = min na (t.cap2 - nb) := ⟨_, rfl⟩
                    have HM := hide hM
                    clear hM
                    have hb2 : nb ≤ t.cap2 := by have h1 := unhide NL4; have h2 := (unhide S2).s.qx; omega
                    go_wp2_with fail
                    refine (rpour_any _ _ _ _ _ _ _ _ _ _ M _ (unhide S2).da (unhide S2).db nl1 t2 hb2 (unhide HM)).mono ?_
                    rintro e w4 ⟨A4, n4, cp4, B4, m4, cq4, rfl, hda, hdb, hk4, ha4, hb4⟩
                    have DA := hide hda
                    have DB := hide hdb
                    have K4 := hide hk4
                    have AA := hide ha4
                    have AB := hide hb4
                    have T4 := hide ((unhide S2).next hk4)
                    clear hda hdb hk4 ha4 hb4 m0 m1 m2 m3 mz0 mz1 mb0 mb1 x0 x1
                    obtain ⟨m0, m1, m2, m3, mz0, mz1, mb0, mb1⟩ := (unhide T4).cells
                    have q12 : t.B1 ≠ t.B2 := by have := (unhide S2).lo; omega
                    have q21 : t.B2 ≠ t.B1 := fun e => q12 e.symm
                    go_wp2_with fail
                    go_region
                    go_wp2_with fail
                    have S5 := hide (fun o1 o2 => (unhide S2).docs2 (unhide K4) (unhide DA) (unhide DB) (unhide AA) (unhide AB) o1 o2)
                    have hm5 : M = min xs.length (t.cap2 - ys.length) := by have h1 := unhide HM; have h2 := unhide NL3; have h3 := unhide NL4; omega
                    have HM5 := hide hm5
                    clear hm5 m0 m1 m2 m3 mz0 mz1 mb0 mb1
                    refine (pour_any _ _ _ _ _ _ M xs ys _ (unhide S5 _ _).s.p (unhide S5 _ _).s.q (unhide S5 (.cells #[] 0) (.cells #[] 0)).s.gg (unhide S5 (.cells #[] 0) (.cells #[] 0)).s.cc (unhide HM5) t2 (unhide S5 (.cells #[] 0) (.cells #[] 0)).s.qx).mono ?_
                    rintro e w5 ⟨rfl, hp5, hq5, hk5⟩
                    have S6 := hide ((unhide S5 _ _).both hp5 hq5 (by have := (unhide S2).s.px; simp; omega) (by have h1 := unhide HM5; have h2 := (unhide S2).s.qx; simp; omega) hk5 (by simp))
                    clear hp5 hq5 hk5
                    go_wp2_with fail
                    go_meet
                    exact ⟨_, _, _, _, _, _, _, _, unhide S6⟩
                · have b4 : (kd == 4) = false := by simpa using hk4
                  clear hk4
                  by_cases hk5 : kd = 5
                  · as_aux_lemma =>
                      subst hk5
                      obtain ⟨M, hM⟩ : ∃ M, M = min nb (t.cap1 - na) := ⟨_, rfl⟩
                      have HM := hide hM
                      clear hM
                      have hb2 : na ≤ t.cap1 := by have h1 := unhide NL3; have h2 := (unhide S2).s.px; omega
                      have q12 : t.B1 ≠ t.B2 := by have := (unhide S2).lo; omega
                      have q21 : t.B2 ≠ t.B1 := fun e => q12 e.symm
                      go_wp2_with fail
                      refine (rpour_any _ _ _ _ _ _ _ _ _ _ M _ (unhide S2).db (unhide S2).da nl2 t1 hb2 (unhide HM)).mono ?_
                      rintro e w4 ⟨B4, m4, cq4, A4, n4, cp4, rfl, hdb, hda, hk4, hb4, ha4⟩
                      have DA := hide hda
                      have DB := hide hdb
                      have K4 := hide hk4
                      have AA := hide ha4
                      have AB := hide hb4
                      have T4 := hide ((unhide S2).next hk4)
                      clear hda hdb hk4 ha4 hb4 m0 m1 m2 m3 mz0 mz1 mb0 mb1 x0 x1
                      obtain ⟨m0, m1, m2, m3, mz0, mz1, mb0, mb1⟩ := (unhide T4).cells
                      go_wp2_with fail
                      go_region
                      go_wp2_with fail
                      have S5 := hide (fun o1 o2 => (unhide S2).docs2 (unhide K4) (unhide DA) (unhide DB) (unhide AA) (unhide AB) o1 o2)
                      have hm5 : M = min ys.length (t.cap1 - xs.length) := by have h1 := unhide HM; have h2 := unhide NL3; have h3 := unhide NL4; omega
                      have HM5 := hide hm5
                      clear hm5 m0 m1 m2 m3 mz0 mz1 mb0 mb1
                      refine (pour_any _ _ _ _ _ _ M ys xs _ (unhide S5 _ _).s.q (unhide S5 _ _).s.p (fun e => (unhide S5 (.cells #[] 0) (.cells #[] 0)).s.gg e.symm) (fun e => (unhide S5 (.cells #[] 0) (.cells #[] 0)).s.cc e.symm) (unhide HM5) t1 (unhide S5 (.cells #[] 0) (.cells #[] 0)).s.px).mono ?_
                      rintro e w5 ⟨rfl, hq5, hp5, hk5⟩
                      have S6 := hide ((unhide S5 _ _).both hp5 hq5 (by have h1 := unhide HM5; have h2 := (unhide S2).s.px; simp; omega) (by have := (unhide S2).s.qx; simp; omega) hk5 (by intro i hi; simp at hi; omega))
                      clear hp5 hq5 hk5
                      go_wp2_with fail
                      go_meet
                      exact ⟨_, _, _, _, _, _, _, _, unhide S6⟩
                  · have b5 : (kd == 5) = false := by simpa using hk5
                    clear hk5
                    as_aux_lemma =>
                      go_wp2_with fail
                      go_meet
                      exact ⟨_, _, _, _, _, _, _, _, unhide S2⟩
      case rest =>
        as_aux_lemma =>
          obtain ⟨us, vs, A2, na2, cp2, B2, nb2, cq2, hcq⟩ := hcut
          clear S1 hc0' hc1'
          have hqa : us.length = na2 := hcq.da.1
          have hqb : vs.length = nb2 := hcq.db.1
          subst hqa hqb
          have S2 := hide hcq
          have u1 : us.length ≤ 256 := by have := hcq.s.px; omega
          have u2 : vs.length ≤ 256 := by have := hcq.s.qx; omega
          have u3 : us.length ≤ 9223372036854775807 := by omega
          obtain ⟨m0, m1, m2, m3, mz0, mz1, mb0, mb1⟩ := hcq.cells
          clear m1 m3 mz0 mz1 mb0 mb1
          go_wp2_with fail
          go_region_held3 (fun w' => w'.cell? ⟨t.B1, 0, none⟩ = some (.slice A2 us.length cp2) ∧ w'.cell? ⟨t.B2, 0, none⟩ = some (.slice B2 vs.length cq2) ∧ Doc w' A2 us.length cp2 us ∧ Doc w' B2 vs.length cq2 vs ∧ QPS w w' t us vs us vs A2 us.length cp2 B2 vs.length cq2)
            (first
              | exact qps_D hcq
              | (rename_i hq; exact qps_D hq)
              | exact qps_D (hcq.next ((Kept.refl [] _).drew))
              | exact qps_D (hcq.next ((Kept.refl [] _).drewN _)))
            ((first
              | (go_at_call 46; try go_split_ands; refine (qps_len (by assumption)).mono ?_; rintro e w' ⟨rfl, rfl⟩)
              | (go_at_call 44; try go_split_ands; refine (qps_room (by assumption)).mono ?_; rintro e w' ⟨rfl, rfl⟩)
              | (go_at_call_of 42 (Value.pointer (some (⟨t.g1, 0, none⟩ : Addr))); try go_split_ands; refine (qps_allp (by assumption) t1).mono ?_; rintro e w5 ⟨Ap, cpp, rfl, hrp, hq⟩)
              | (go_at_call_of 42 (Value.pointer (some (⟨t.g2, 0, none⟩ : Addr))); try go_split_ands; refine (qps_allq (by assumption) t2).mono ?_; rintro e w5 ⟨Ap, cpp, rfl, hrp, hq⟩)
              | (go_at_call 45; try go_split_ands; refine (qps_same (by assumption) (by assumption) (by assumption) (by assumption)).mono ?_; rintro e w5 ⟨rfl, hq⟩)
              | (go_at_call 43; try go_split_ands; refine (qps_self (by assumption)).mono ?_; rintro e w' ⟨rfl, rfl⟩)))
          go_split_ands
          go_wp2_with fail
          exact ⟨⟨k + 1, us, vs, A2, us.length, cp2, B2, vs.length, cq2, by omega, by omega, by go_num, by assumption⟩, by simp [intOf]; omega⟩
    · as_aux_lemma =>
        have hcase : (k < n ∧ ¬ k < 60) ∨ ¬ k < n := by omega
        have hcr : 1 + wrap64 ((IntKind.u64.wrap other).tmod 256) = (t.cap2 : Int) := by have h1 := unhide HC2; have h2 := unhide E6; omega
        clear hlt
        rcases hcase with ⟨hx1, hx2⟩ | hx1
        all_goals
          go_wp2_with fail
          refine (known15 _).mono ?_
          rintro e w5 ⟨rfl, hk5⟩
          have S5 := hide ((unhide S1).next hk5)
          clear hk5
          go_wp2_with fail
          refine (qps_roomq (unhide S5)).mono ?_
          rintro e w' ⟨rfl, rfl⟩
          go_wp2_with fail
          go_ret
          refine ⟨?_, (unhide S5).s.kept⟩
          simp
theorem walk_QueuePlays (w : World) (room : Int) (wr : (Lit.int .i64 room).wf = true) (other : Int) (wo : (Lit.int .i64 other).wf = true) (A : Option Addr) (n c : Nat) (u : Unit) (hA : QActs w A n) (hc : n ≤ c) :
    Calls Try.prog 11 #[.int .i64 room, .int .i64 other, .slice A n c] w (QHolds [] w true) := by
  by_cases h : room < 1 ∨ 256 < room
  · exact qplays_no w room other A n c h
  · exact qplays_yes w room other A n c hA (by omega) (by omega)
end Go.Proofs.Ytpdabmbjnmpgbaa
