/-
  A call of both senders (Do).
-/
import Derived.Test.YtpdabmbjnmpgbaaDal
import Derived.Lib.SlBytesConst
namespace Go.Proofs.Ytpdabmbjnmpgbaa
open Go.Conc Go.RowKit
set_option linter.unusedVariables false
/-- What Do leaves: it says yes, and the two stand alike. -/
def DoOk (w : World) (base ty sg0 qc0 : Nat) (e : Ending) (w' : World) : Prop :=
  ∃ sg qg qc ks ty' se ac la be ask A cp xs S, e = .returned (.tuple #[.pointer (some ⟨sg, 0, none⟩), dsV A ty' cp se ac la be ask, .bool true]) ∧ Pair w' sg qg qc ks ty' se ac la be ask A cp xs ∧ ty' ≤ ty + 1 ∧ (base ≤ sg ∧ base ≤ qg ∧ base ≤ qc) ∧ Kept S w w' ∧ ∀ i ∈ S, i = sg0 ∨ i = qc0
/-- The blocks of Do's own: the document's sender b4, the act b5, the answer b7. -/
structure DoW (w wr : World) (b4 b5 b7 : Nat) (sg qg qc : Nat) (ks : List ByteArray) (ty se ac : Nat) (la : Int) (be ask : Bool) (A : Option Addr) (cp : Nat) (xs : List ByteArray) (z : SA) : Prop where
  p : Pair wr sg qg qc ks ty se ac la be ask A cp xs
  o4 : wr.heap[b4]? = some (DsO A ty cp se ac la be ask)
  o5 : wr.heap[b5]? = some (.cells #[.int .i64 z.kind, .slice z.A z.n z.c, .int .u64 z.N, .int .u64 z.now, .int .i64 z.rows, .int .i64 z.cols] 112 (0, 0))
  o7 : wr.heap[b7]? = some (DsO none 0 0 0 0 0 false false)
  kept : Kept [] w wr
  z : z.ok wr
  lo : w.heap.size ≤ b4 ∧ b4 < b5 ∧ b5 < b7
theorem DoW.next {w wr wj : World} {b4 b5 b7 sg qg qc : Nat} {ks : List ByteArray} {ty se ac : Nat} {la : Int} {be ask : Bool} {A : Option Addr} {cp : Nat} {xs : List ByteArray} {z : SA} (h : DoW w wr b4 b5 b7 sg qg qc ks ty se ac la be ask A cp xs z) (k : Kept [] wr wj) : DoW w wj b4 b5 b7 sg qg qc ks ty se ac la be ask A cp xs z :=
  ⟨h.p.next k, k.obj h.o4 (by simp), k.obj h.o5 (by simp), k.obj h.o7 (by simp), h.kept.trans k (by simp), h.z.kept k, h.lo⟩
theorem DoW.cells {w wr : World} {b4 b5 b7 sg qg qc : Nat} {ks : List ByteArray} {ty se ac : Nat} {la : Int} {be ask : Bool} {A : Option Addr} {cp : Nat} {xs : List ByteArray} {z : SA} (h : DoW w wr b4 b5 b7 sg qg qc ks ty se ac la be ask A cp xs z) :
    wr.cell? ⟨b5, 0, none⟩ = some (.int .i64 z.kind) ∧ wr.cell? ⟨b5, 1, none⟩ = some (.slice z.A z.n z.c) ∧ wr.cell? ⟨b5, 2, none⟩ = some (.int .u64 z.N) ∧ wr.cell? ⟨b5, 3, none⟩ = some (.int .u64 z.now) ∧ wr.cell? ⟨b5, 4, none⟩ = some (.int .i64 z.rows) ∧ wr.cell? ⟨b5, 5, none⟩ = some (.int .i64 z.cols) ∧ b5 < wr.heap.size :=
  ⟨obj_cell h.o5 0, obj_cell h.o5 1, obj_cell h.o5 2, obj_cell h.o5 3, obj_cell h.o5 4, obj_cell h.o5 5, heap_lt h.o5⟩
theorem byt_take {w : World} {A : Option Addr} {n k : Nat} {xs : List Int} (h : Byt w A n xs) (hk : k ≤ n) : Byt w A k (xs.take k) := by
  refine ⟨by rw [List.length_take]; have := h.1; omega, ?_⟩
  by_cases h0 : k = 0
  · exact .inl h0
  · rcases h.2 with h1 | ⟨b, off, rfl, hb, hc⟩
    · omega
    · refine .inr ⟨b, off, rfl, hb, fun j hj => ?_⟩
      rw [hc j (by omega)]
      simp [List.getD_eq_getElem?_getD, hj]
theorem conv_empty (A : Option Addr) (c : Nat) (w : World) : (convert 96 9 (.slice A 0 c)).run Try.prog w = .ok (.string ⟨#[]⟩) w := by
  cases A with
  | none => kernel_rfl
  | some a => kernel_rfl
theorem Pair.far {w w' : World} {sg qg qc b : Nat} {ks : List ByteArray} {ty se ac : Nat} {la : Int} {be ask : Bool} {A : Option Addr} {cp : Nat} {xs : List ByteArray} (h : Pair w sg qg qc ks ty se ac la be ask A cp xs) (k : Kept [b] w w') (hb : b ≠ sg ∧ b ≠ qg ∧ b ≠ qc) (hA : ∀ a, A = some a → a.block ≠ b) : Pair w' sg qg qc ks ty se ac la be ask A cp xs :=
  ⟨h.s.next k (by simp; omega) (by simp; omega) (by simp; omega), h.d.kept k (fun a ha => by have := hA a ha; simp; omega), h.eq, h.sep, h.la⟩
theorem Pair.off {w w' : World} {sg qg qc : Nat} {ks : List ByteArray} {ty se ac : Nat} {la : Int} {be ask : Bool} {A : Option Addr} {cp : Nat} {xs : List ByteArray} {S : List Nat} (h : Pair w sg qg qc ks ty se ac la be ask A cp xs) (k : Kept S w w') (hS : ∀ i ∈ S, (i ≠ sg ∧ i ≠ qg ∧ i ≠ qc) ∧ ∀ a, A = some a → a.block ≠ i) : Pair w' sg qg qc ks ty se ac la be ask A cp xs :=
  ⟨h.s.next k (fun hm => ((hS _ hm).1.1) rfl) (fun hm => ((hS _ hm).1.2.1) rfl) (fun hm => ((hS _ hm).1.2.2) rfl), h.d.kept k (fun a ha hm => (hS _ hm).2 a ha rfl), h.eq, h.sep, h.la⟩
theorem do_end {w w3 : World} {base ty sg0 qc0 : Nat} {sg qg qc b7 : Nat} {ks : List ByteArray} {ty' se ac : Nat} {la : Int} {be ask : Bool} {A : Option Addr} {cp : Nat} {xs : List ByteArray} {S : List Nat} (hp : Pair w3 sg qg qc ks ty' se ac la be ask A cp xs) (hk : Kept S w w3) (hS : ∀ i ∈ S, i = sg0 ∨ i = qc0) (hty : ty' ≤ ty + 1) (hb : base ≤ sg ∧ base ≤ qg ∧ base ≤ qc) (h7 : w.heap.size ≤ b7) (hne : b7 ≠ sg ∧ b7 ≠ qg ∧ b7 ≠ qc) (hA : ∀ a, A = some a → a.block ≠ b7) :
    DoOk w base ty sg0 qc0 (.returned (.tuple #[.pointer (some ⟨sg, 0, none⟩), dsV A ty' cp se ac la be ask, .bool true])) (dput w3 b7 A ty' cp se ac la be ask) := by
  have kp : Kept [b7] w3 (dput w3 b7 A ty' cp se ac la be ask) := dputs_kept (Kept.refl _ _) (.inl (by simp)) _ _ _ _ _ _ _ _
  exact ⟨sg, qg, qc, ks, ty', se, ac, la, be, ask, A, cp, xs, S, rfl, hp.far kp hne hA, hty, hb, hk.trans kp (by intro i hi hm; simp at hm; omega), hS⟩
theorem DoOk.drew {w w' : World} {base ty sg0 qc0 : Nat} {e : Ending} (h : DoOk w base ty sg0 qc0 e w') : DoOk w base ty sg0 qc0 e w'.drew := by
  obtain ⟨sg, qg, qc, ks, ty', se, ac, la, be, ask, A, cp, xs, S, he, hp, h1, h2, hk, hS⟩ := h
  exact ⟨sg, qg, qc, ks, ty', se, ac, la, be, ask, A, cp, xs, S, he, hp.next ((Kept.refl [] w').drew), h1, h2, hk.drew, hS⟩
set_option maxRecDepth 100000 in
set_option maxHeartbeats 1500000 in
theorem do_k1 (base sg qg qc : Nat) (ks : List ByteArray) (ty se ac : Nat) (la : Int) (be ask : Bool) (A : Option Addr) (cp : Nat) (xs : List ByteArray) (z : SA) (w : World) (h : Pair w sg qg qc ks ty se ac la be ask A cp xs) (hz : z.ok w) (hty : ty ≤ 500) (hb : base ≤ sg ∧ base ≤ qg ∧ base ≤ qc) (hkk : z.kind = 1) :
     Calls Try.prog 74 #[.pointer (some ⟨sg, 0, none⟩), dsV A ty cp se ac la be ask, z.val] w (DoOk w base ty sg qc) := by
  have HKIND := hide hkk
  clear hkk
  have H := hide h
  have HZ := hide hz
  have HB := hide hb
  have HLT : Hid (sg < w.heap.size ∧ qg < w.heap.size ∧ qc < w.heap.size) := hide ⟨heap_lt h.s.box, h.s.q.lt.1, h.s.q.lt.2⟩
  have HALT : Hid (∀ a, A = some a → a.block < w.heap.size) := hide h.d.lt
  have hcm := hz.by_.2.2.1
  have hm9 : z.n ≤ 9223372036854775807 := by have := hz.by_.2.1; unfold maxLen at hcm; omega
  have hnc : z.n ≤ z.c := hz.by_.2.1
  have hnc1 : (z.n : Int) ≤ (z.c : Int) := by omega
  clear h hz hb hcm
  unfold dsV SA.val
  go_enter Try.func74, Try.ntmps74
  go_upto_region 1 with (fail)
  have h4 : ((((w.alloc (DsO A ty cp se ac la be ask)).alloc (.cells #[.int .i64 z.kind, .slice z.A z.n z.c, .int .u64 z.N, .int .u64 z.now, .int .i64 z.rows, .int .i64 z.cols] 112)).alloc (DsO none 0 0 0 0 0 false false))).heap[w.heap.size]? = some (DsO A ty cp se ac la be ask) := obj_alloc (obj_alloc (obj_new _ _) _) _
  have h5 : ((((w.alloc (DsO A ty cp se ac la be ask)).alloc (.cells #[.int .i64 z.kind, .slice z.A z.n z.c, .int .u64 z.N, .int .u64 z.now, .int .i64 z.rows, .int .i64 z.cols] 112)).alloc (DsO none 0 0 0 0 0 false false))).heap[w.heap.size + 1]? = some (.cells #[.int .i64 z.kind, .slice z.A z.n z.c, .int .u64 z.N, .int .u64 z.now, .int .i64 z.rows, .int .i64 z.cols] 112 (0, 0)) := obj_alloc (obj_new2 _ _ _) _
  have h7 : ((((w.alloc (DsO A ty cp se ac la be ask)).alloc (.cells #[.int .i64 z.kind, .slice z.A z.n z.c, .int .u64 z.N, .int .u64 z.now, .int .i64 z.rows, .int .i64 z.cols] 112)).alloc (DsO none 0 0 0 0 0 false false))).heap[w.heap.size + 1 + 1]? = some (DsO none 0 0 0 0 0 false false) := obj_new3 _ _ _ _
  have hK : Kept [] w ((((w.alloc (DsO A ty cp se ac la be ask)).alloc (.cells #[.int .i64 z.kind, .slice z.A z.n z.c, .int .u64 z.N, .int .u64 z.now, .int .i64 z.rows, .int .i64 z.cols] 112)).alloc (DsO none 0 0 0 0 0 false false))) := (((Kept.refl [] w).alloc _).alloc _).alloc _
  change Code.wp _ _ _ _ ((((w.alloc (DsO A ty cp se ac la be ask)).alloc (.cells #[.int .i64 z.kind, .slice z.A z.n z.c, .int .u64 z.N, .int .u64 z.now, .int .i64 z.rows, .int .i64 z.cols] 112)).alloc (DsO none 0 0 0 0 0 false false)))
  generalize ((((w.alloc (DsO A ty cp se ac la be ask)).alloc (.cells #[.int .i64 z.kind, .slice z.A z.n z.c, .int .u64 z.N, .int .u64 z.now, .int .i64 z.rows, .int .i64 z.cols] 112)).alloc (DsO none 0 0 0 0 0 false false))) = wA at *
  generalize hb7 : w.heap.size + 1 + 1 = b7 at *
  generalize hb5 : w.heap.size + 1 = b5 at *
  generalize hb4 : w.heap.size = b4 at *
  have D := hide (DoW.mk ((unhide H).next hK) h4 h5 h7 hK ((unhide HZ).kept hK) (⟨by omega, by omega, by omega⟩ : w.heap.size ≤ b4 ∧ b4 < b5 ∧ b5 < b7))
  have HB4 := hide hb4
  have HTY1 : Hid (ty ≤ 1000) := hide (by omega)
  have HORD := hide (unhide H).s.ord
  have HAC : Hid (ac ≤ ty) := hide (by have := (unhide H).s.ord; omega)
  have HTY6 : Hid (ty ≤ 1000000) := hide (by omega)
  have HN5 : Hid (b5 ∉ [sg, qc]) := hide (by have := unhide HLT; simp; omega)
  have HN7 : Hid (b7 ∉ [sg, qc]) := hide (by have := unhide HLT; simp; omega)
  clear h4 h5 h7 hK hb4 hb5 hb7 H HZ
  obtain ⟨x0, x1, x2, x3, x4, x5, xl⟩ := (unhide D).cells
  obtain ⟨k, hk⟩ : ∃ k, k = min z.n 20 := ⟨_, rfl⟩
  have HKK := hide hk
  clear hk
  go_cut [9] (fun s9 wx => s9 = .slice z.A k z.c ∧ wx = wA)
  case first =>
    by_cases h20 : z.n ≤ 20
    · go_wp2_with fail
      go_meet
      exact ⟨by rw [show k = z.n by have := unhide HKK; omega], rfl⟩
    · have im4 : (20 : Int) ≤ (z.c : Int) := by omega
      go_wp2_with fail
      go_meet
      exact ⟨by rw [show k = 20 by have := unhide HKK; omega], rfl⟩
  case rest =>
    obtain ⟨rfl, rfl⟩ := hcut
    rw [unhide HKIND] at x0
    obtain ⟨y0, y1, y2, y3, y4, y5, yz, yl⟩ := DsO.get (unhide D).o4
    obtain ⟨N, hN⟩ : ∃ N : Nat, z.N = (N : Int) := ⟨z.N.toNat, by have := (unhide D).z.N; omega⟩
    rw [hN] at x2
    by_cases hy : ac ≤ N ∧ N ≤ se
    · have HY := hide hy
      clear hy
      go_wp2_with fail
      refine (rechoed_yes A ty cp se ac N la be ask _ (by have := (unhide D).p.s.ord; omega) (unhide HY).1 (unhide HY).2).mono ?_
      rintro e w1 ⟨rfl, hk1⟩
      unfold dsV
      have D1 := hide ((unhide D).next hk1)
      clear hk1 x0 x1 x2 x3 x4 x5 xl y0 y1 y2 y3 y4 y5 yz yl
      obtain ⟨x0, x1, x2, x3, x4, x5, xl⟩ := (unhide D1).cells
      rw [hN] at x2
      go_upto_region 8 with (fail)
      have kz : Kept [] w1 (w1.alloc (DsO A ty cp se N la be ask)) := (Kept.refl [] w1).alloc _
      have h12 : (w1.alloc (DsO A ty cp se N la be ask)).heap[w1.heap.size]? = some (DsO A ty cp se N la be ask) := obj_new _ _
      change Code.wp _ _ _ _ (w1.alloc (DsO A ty cp se N la be ask))
      generalize w1.alloc (DsO A ty cp se N la be ask) = w2 at *
      have hge : w.heap.size ≤ w1.heap.size := (unhide D1).kept.size
      have h7l : b7 < w1.heap.size := heap_lt (unhide D1).o7
      generalize w1.heap.size = b12 at *
      have D2 := hide ((unhide D1).next kz)
      have H12 := hide h12
      have HGE := hide hge
      have HN12 : Hid (b12 ∉ [sg, qc]) := hide (by have := unhide HLT; have := unhide HB4; simp; omega)
      have n57 : ¬ b5 = b7 := by have := (unhide D1).lo; omega
      have n75 : ¬ b7 = b5 := by omega
      have n127 : ¬ b12 = b7 := by omega
      have n712 : ¬ b7 = b12 := by omega
      clear kz h12 hge h7l D1 D x0 x1 x2 x3 x4 x5 xl
      obtain ⟨x0, x1, x2, x3, x4, x5, xl⟩ := (unhide D2).cells
      rw [hN] at x2
      obtain ⟨y0, y1, y2, y3, y4, y5, yz, yl⟩ := DsO.get (unhide H12)
      clear yz yl x0 x1 x3 x4 x5 xl
      go_region_held3 (fun w' => w'.cell? ⟨b5, 2, none⟩ = some (.int .u64 (N : Int)) ∧ w'.cell? ⟨b12, 0, none⟩ = some (.slice A ty cp) ∧ w'.cell? ⟨b12, 1, none⟩ = some (.int .i64 (se : Int)) ∧ w'.cell? ⟨b12, 2, none⟩ = some (.int .i64 (N : Int)) ∧ w'.cell? ⟨b12, 3, none⟩ = some (.int .u64 la) ∧ w'.cell? ⟨b12, 4, none⟩ = some (.bool be) ∧ w'.cell? ⟨b12, 5, none⟩ = some (.bool ask)) (go_keep)
        (first
          | (go_at_call 65; refine (sechoed_yes sg _ _ _ _ _ _ N _ _ _ _ ((unhide D2).p.s.next ((Kept.refl [] _).drew) (by simp) (by simp) (by simp)) (unhide HY).1 (unhide HY).2 (unhide HTY6)).mono ?_; rintro e w3 ⟨rfl, hs3, hk3⟩; have kk3 : Kept [sg, qc] w2 w3 := ((Kept.refl [sg, qc] w2).drew).trans hk3 (by intro i _ hi; exact hi); have ho12 := kk3.obj (unhide H12) (unhide HN12); have ho5 := kk3.obj (unhide D2).o5 (unhide HN5); have ho7 := kk3.obj (unhide D2).o7 (unhide HN7); obtain ⟨z0, z1, z2, z3, z4, z5, zz, zl⟩ := DsO.get ho12; have q2 := obj_cell ho5 2; rw [hN] at q2; obtain ⟨p0, p1, p2, p3, p4, p5, pz, pl⟩ := DsO.get ho7; have KK3 := hide kk3; have HS3 := hide hs3; clear hs3 hk3 kk3 ho12 ho5 ho7 zz zl pl))
      have hb := unhide HB
      have hlt := unhide HLT
      have hb4 := unhide HB4
      have hl2 := (unhide D2).lo
      go_wp2
      refine bodyPost_ret (v := .tuple #[.pointer (some ⟨sg, 0, none⟩), dsV A ty cp se N la be ask, .bool true]) (by simp [results, Try.results74, go_sem, dsV, p0, p1, p2, p3, p4, p5]) rfl ?_
      have hpair : Pair w3 sg qg qc (ks.drop (N - ac)) ty se N la be ask A cp xs :=
        ⟨unhide HS3, (unhide D2).p.d.kept (unhide KK3) (fun a ha => by have := (unhide D2).p.sep a ha; simp; omega), by have hy := unhide HY; rw [(unhide D2).p.eq, List.drop_drop, show ac + (N - ac) = N by omega], (unhide D2).p.sep, (unhide D2).p.la⟩
      exact do_end hpair ((((unhide D2).kept).mono (T := [sg, qc]) (by simp)).trans (unhide KK3) (by intro i _ hi; exact hi)) (by intro i hi; simp at hi; omega) (by omega) hb (by omega) ⟨by omega, by omega, by omega⟩ (fun a ha => by have := unhide HALT a ha; omega)
    · have hno : (se : Int) < (N : Int) ∨ (N : Int) < (ac : Int) := by omega
      have HNO := hide hno
      clear hy hno
      go_wp2_with fail
      refine (rechoed_no A ty cp se ac la be ask _ _ (by have := (unhide D).p.s.ord; omega) (by have := (unhide D).p.s.ord; omega) (unhide HNO)).mono ?_

      rintro e w1 ⟨rfl, hk1⟩
      unfold dsV
      have D1 := hide ((unhide D).next hk1)
      clear hk1 x0 x1 x2 x3 x4 x5 xl y0 y1 y2 y3 y4 y5 yz yl
      obtain ⟨x0, x1, x2, x3, x4, x5, xl⟩ := (unhide D1).cells
      rw [hN] at x2

      go_upto_region 8 with (fail)
      have kz : Kept [] w1 (w1.alloc (DsO A ty cp se ac la be ask)) := (Kept.refl [] w1).alloc _
      have h12 : (w1.alloc (DsO A ty cp se ac la be ask)).heap[w1.heap.size]? = some (DsO A ty cp se ac la be ask) := obj_new _ _
      change Code.wp _ _ _ _ (w1.alloc (DsO A ty cp se ac la be ask))
      generalize w1.alloc (DsO A ty cp se ac la be ask) = w2 at *
      have hge : w.heap.size ≤ w1.heap.size := (unhide D1).kept.size
      have h7l : b7 < w1.heap.size := heap_lt (unhide D1).o7
      generalize w1.heap.size = b12 at *
      have D2 := hide ((unhide D1).next kz)
      have H12 := hide h12
      have HGE := hide hge
      have HN12 : Hid (b12 ∉ [sg, qc]) := hide (by have := unhide HLT; have := unhide HB4; simp; omega)
      have n57 : ¬ b5 = b7 := by have := (unhide D1).lo; omega
      have n75 : ¬ b7 = b5 := by omega
      have n127 : ¬ b12 = b7 := by omega
      have n712 : ¬ b7 = b12 := by omega
      clear h12 hge h7l D1 D x0 x1 x2 x3 x4 x5 xl
      obtain ⟨x0, x1, x2, x3, x4, x5, xl⟩ := (unhide D2).cells
      rw [hN] at x2
      obtain ⟨y0, y1, y2, y3, y4, y5, yz, yl⟩ := DsO.get (unhide H12)
      obtain ⟨p0, p1, p2, p3, p4, p5, pz, pl⟩ := DsO.get (unhide D2).o7

      go_region_held3 (fun w' => w'.cell? ⟨b5, 2, none⟩ = some (.int .u64 (N : Int)) ∧ w'.cell? ⟨b12, 0, none⟩ = some (.slice A ty cp) ∧ w'.cell? ⟨b12, 1, none⟩ = some (.int .i64 (se : Int)) ∧ w'.cell? ⟨b12, 2, none⟩ = some (.int .i64 (ac : Int)) ∧ w'.cell? ⟨b12, 3, none⟩ = some (.int .u64 la) ∧ w'.cell? ⟨b12, 4, none⟩ = some (.bool be) ∧ w'.cell? ⟨b12, 5, none⟩ = some (.bool ask)) (go_keep)
        (first
          | (go_at_call 65; refine (sechoed_no sg _ _ _ _ _ _ _ _ _ _ _ ((unhide D2).p.s.next ((Kept.refl [] _).drew) (by simp) (by simp) (by simp)) (unhide HNO)).mono ?_; rintro e w3 ⟨rfl, rfl⟩))

      have hb := unhide HB
      have hlt := unhide HLT
      have hb4 := unhide HB4
      have hl2 := (unhide D2).lo
      go_wp2
      refine bodyPost_ret (v := .tuple #[.pointer (some ⟨sg, 0, none⟩), dsV A ty cp se ac la be ask, .bool true]) (by simp [results, Try.results74, go_sem, dsV, p0, p1, p2, p3, p4, p5]) rfl ?_
      exact (do_end (unhide D2).p (unhide D2).kept (by simp) (by omega) hb (by omega) ⟨by omega, by omega, by omega⟩ (fun a ha => by have := unhide HALT a ha; omega)).drew
set_option maxRecDepth 100000 in
set_option maxHeartbeats 1500000 in
theorem do_k2 (base sg qg qc : Nat) (ks : List ByteArray) (ty se ac : Nat) (la : Int) (be ask : Bool) (A : Option Addr) (cp : Nat) (xs : List ByteArray) (z : SA) (w : World) (h : Pair w sg qg qc ks ty se ac la be ask A cp xs) (hz : z.ok w) (hty : ty ≤ 500) (hb : base ≤ sg ∧ base ≤ qg ∧ base ≤ qc) (hkk : z.kind = 2) :
     Calls Try.prog 74 #[.pointer (some ⟨sg, 0, none⟩), dsV A ty cp se ac la be ask, z.val] w (DoOk w base ty sg qc) := by
  have HKIND := hide hkk
  clear hkk
  have H := hide h
  have HZ := hide hz
  have HB := hide hb
  have HLT : Hid (sg < w.heap.size ∧ qg < w.heap.size ∧ qc < w.heap.size) := hide ⟨heap_lt h.s.box, h.s.q.lt.1, h.s.q.lt.2⟩
  have HALT : Hid (∀ a, A = some a → a.block < w.heap.size) := hide h.d.lt
  have hcm := hz.by_.2.2.1
  have hm9 : z.n ≤ 9223372036854775807 := by have := hz.by_.2.1; unfold maxLen at hcm; omega
  have hnc : z.n ≤ z.c := hz.by_.2.1
  have hnc1 : (z.n : Int) ≤ (z.c : Int) := by omega
  clear h hz hb hcm
  unfold dsV SA.val
  go_enter Try.func74, Try.ntmps74
  go_upto_region 1 with (fail)
  have h4 : ((((w.alloc (DsO A ty cp se ac la be ask)).alloc (.cells #[.int .i64 z.kind, .slice z.A z.n z.c, .int .u64 z.N, .int .u64 z.now, .int .i64 z.rows, .int .i64 z.cols] 112)).alloc (DsO none 0 0 0 0 0 false false))).heap[w.heap.size]? = some (DsO A ty cp se ac la be ask) := obj_alloc (obj_alloc (obj_new _ _) _) _
  have h5 : ((((w.alloc (DsO A ty cp se ac la be ask)).alloc (.cells #[.int .i64 z.kind, .slice z.A z.n z.c, .int .u64 z.N, .int .u64 z.now, .int .i64 z.rows, .int .i64 z.cols] 112)).alloc (DsO none 0 0 0 0 0 false false))).heap[w.heap.size + 1]? = some (.cells #[.int .i64 z.kind, .slice z.A z.n z.c, .int .u64 z.N, .int .u64 z.now, .int .i64 z.rows, .int .i64 z.cols] 112 (0, 0)) := obj_alloc (obj_new2 _ _ _) _
  have h7 : ((((w.alloc (DsO A ty cp se ac la be ask)).alloc (.cells #[.int .i64 z.kind, .slice z.A z.n z.c, .int .u64 z.N, .int .u64 z.now, .int .i64 z.rows, .int .i64 z.cols] 112)).alloc (DsO none 0 0 0 0 0 false false))).heap[w.heap.size + 1 + 1]? = some (DsO none 0 0 0 0 0 false false) := obj_new3 _ _ _ _
  have hK : Kept [] w ((((w.alloc (DsO A ty cp se ac la be ask)).alloc (.cells #[.int .i64 z.kind, .slice z.A z.n z.c, .int .u64 z.N, .int .u64 z.now, .int .i64 z.rows, .int .i64 z.cols] 112)).alloc (DsO none 0 0 0 0 0 false false))) := (((Kept.refl [] w).alloc _).alloc _).alloc _
  change Code.wp _ _ _ _ ((((w.alloc (DsO A ty cp se ac la be ask)).alloc (.cells #[.int .i64 z.kind, .slice z.A z.n z.c, .int .u64 z.N, .int .u64 z.now, .int .i64 z.rows, .int .i64 z.cols] 112)).alloc (DsO none 0 0 0 0 0 false false)))
  generalize ((((w.alloc (DsO A ty cp se ac la be ask)).alloc (.cells #[.int .i64 z.kind, .slice z.A z.n z.c, .int .u64 z.N, .int .u64 z.now, .int .i64 z.rows, .int .i64 z.cols] 112)).alloc (DsO none 0 0 0 0 0 false false))) = wA at *
  generalize hb7 : w.heap.size + 1 + 1 = b7 at *
  generalize hb5 : w.heap.size + 1 = b5 at *
  generalize hb4 : w.heap.size = b4 at *
  have D := hide (DoW.mk ((unhide H).next hK) h4 h5 h7 hK ((unhide HZ).kept hK) (⟨by omega, by omega, by omega⟩ : w.heap.size ≤ b4 ∧ b4 < b5 ∧ b5 < b7))
  have HB4 := hide hb4
  have HTY1 : Hid (ty ≤ 1000) := hide (by omega)
  have HORD := hide (unhide H).s.ord
  have HAC : Hid (ac ≤ ty) := hide (by have := (unhide H).s.ord; omega)
  have HTY6 : Hid (ty ≤ 1000000) := hide (by omega)
  have HN5 : Hid (b5 ∉ [sg, qc]) := hide (by have := unhide HLT; simp; omega)
  have HN7 : Hid (b7 ∉ [sg, qc]) := hide (by have := unhide HLT; simp; omega)
  clear h4 h5 h7 hK hb4 hb5 hb7 H HZ
  obtain ⟨x0, x1, x2, x3, x4, x5, xl⟩ := (unhide D).cells
  obtain ⟨k, hk⟩ : ∃ k, k = min z.n 20 := ⟨_, rfl⟩
  have HKK := hide hk
  clear hk
  go_cut [9] (fun s9 wx => s9 = .slice z.A k z.c ∧ wx = wA)
  case first =>
    by_cases h20 : z.n ≤ 20
    · go_wp2_with fail
      go_meet
      exact ⟨by rw [show k = z.n by have := unhide HKK; omega], rfl⟩
    · have im4 : (20 : Int) ≤ (z.c : Int) := by omega
      go_wp2_with fail
      go_meet
      exact ⟨by rw [show k = 20 by have := unhide HKK; omega], rfl⟩
  case rest =>
    obtain ⟨rfl, rfl⟩ := hcut
    rw [unhide HKIND] at x0
    obtain ⟨y0, y1, y2, y3, y4, y5, yz, yl⟩ := DsO.get (unhide D).o4
    go_wp2_with fail
    refine (sask sg _ _ _ _ _ _ _ _ _ _ (unhide D).p.s).mono ?_
    rintro e w1 ⟨rfl, hs1, hk1⟩
    have HN4 : b4 ∉ [sg] := by have := unhide HLT; have := unhide HB4; simp; omega
    have ho4 := hk1.obj (unhide D).o4 HN4
    have ho7 := hk1.obj (unhide D).o7 (by have := unhide HN7; simp at this ⊢; omega)
    clear x0 x1 x2 x3 x4 x5 xl y0 y1 y2 y3 y4 y5 yz yl
    obtain ⟨y0, y1, y2, y3, y4, y5, yz, yl⟩ := DsO.get ho4
    have kp : Kept [b4] w1 (w1.setCell ⟨b4, 5, none⟩ (.bool true)) := (Kept.refl _ _).setCell (.inl (by simp)) _
    have h4s : (w1.setCell ⟨b4, 5, none⟩ (.bool true)).heap[b4]? = some (DsO A ty cp se ac la be true) := by have := obj_set ho4 5 (.bool true); simpa [DsO] using this
    have HS := hide hs1
    have HK := hide hk1
    have hl := (unhide D).lo
    have h7s := kp.obj ho7 (by simp; omega)
    go_upto_region 27 with (fail)
    generalize w1.setCell ⟨b4, 5, none⟩ (.bool true) = w2 at *
    have H4s := hide h4s
    have KP := hide kp
    clear y0 y1 y2 y3 y4 y5 yz yl hs1 hk1 kp ho4 ho7 HN4
    obtain ⟨y0, y1, y2, y3, y4, y5, yz, yl⟩ := DsO.get h4s
    obtain ⟨p0, p1, p2, p3, p4, p5, pz, pl⟩ := DsO.get h7s
    clear h4s h7s
    go_region
    go_wp2
    have hb := unhide HB
    have hlt := unhide HLT
    have hb4 := unhide HB4
    refine bodyPost_ret (v := .tuple #[.pointer (some ⟨sg, 0, none⟩), dsV A ty cp se ac la be true, .bool true]) (by simp [results, Try.results74, go_sem, dsV, p0, p1, p2, p3, p4, p5]) rfl ?_
    have hp1 : Pair w1 sg qg qc ks ty se ac la be true A cp xs := ⟨unhide HS, (unhide D).p.d.kept (unhide HK) (fun a ha => by have := (unhide D).p.sep a ha; simp; omega), (unhide D).p.eq, (unhide D).p.sep, (unhide D).p.la⟩
    have hp2 := hp1.far (unhide KP) ⟨by omega, by omega, by omega⟩ (fun a ha => by have := unhide HALT a ha; omega)
    have hk2 : Kept [sg] w w2 := (((unhide D).kept.mono (T := [sg]) (by simp)).trans (unhide HK) (by intro i _ hi; exact hi)).trans (unhide KP) (by intro i hi hm; simp at hm; omega)
    exact (do_end hp2 hk2 (by intro i hi; simp at hi; omega) (by omega) hb (by omega) ⟨by omega, by omega, by omega⟩ (fun a ha => by have := unhide HALT a ha; omega)).drew
set_option maxRecDepth 100000 in
set_option maxHeartbeats 1500000 in
theorem do_k3 (base sg qg qc : Nat) (ks : List ByteArray) (ty se ac : Nat) (la : Int) (be ask : Bool) (A : Option Addr) (cp : Nat) (xs : List ByteArray) (z : SA) (w : World) (h : Pair w sg qg qc ks ty se ac la be ask A cp xs) (hz : z.ok w) (hty : ty ≤ 500) (hb : base ≤ sg ∧ base ≤ qg ∧ base ≤ qc) (hkk : z.kind = 3) :
     Calls Try.prog 74 #[.pointer (some ⟨sg, 0, none⟩), dsV A ty cp se ac la be ask, z.val] w (DoOk w base ty sg qc) := by
  have HKIND := hide hkk
  clear hkk
  have H := hide h
  have HZ := hide hz
  have HB := hide hb
  have HLT : Hid (sg < w.heap.size ∧ qg < w.heap.size ∧ qc < w.heap.size) := hide ⟨heap_lt h.s.box, h.s.q.lt.1, h.s.q.lt.2⟩
  have HALT : Hid (∀ a, A = some a → a.block < w.heap.size) := hide h.d.lt
  have hcm := hz.by_.2.2.1
  have hm9 : z.n ≤ 9223372036854775807 := by have := hz.by_.2.1; unfold maxLen at hcm; omega
  have hnc : z.n ≤ z.c := hz.by_.2.1
  have hnc1 : (z.n : Int) ≤ (z.c : Int) := by omega
  clear h hz hb hcm
  unfold dsV SA.val
  go_enter Try.func74, Try.ntmps74
  go_upto_region 1 with (fail)
  have h4 : ((((w.alloc (DsO A ty cp se ac la be ask)).alloc (.cells #[.int .i64 z.kind, .slice z.A z.n z.c, .int .u64 z.N, .int .u64 z.now, .int .i64 z.rows, .int .i64 z.cols] 112)).alloc (DsO none 0 0 0 0 0 false false))).heap[w.heap.size]? = some (DsO A ty cp se ac la be ask) := obj_alloc (obj_alloc (obj_new _ _) _) _
  have h5 : ((((w.alloc (DsO A ty cp se ac la be ask)).alloc (.cells #[.int .i64 z.kind, .slice z.A z.n z.c, .int .u64 z.N, .int .u64 z.now, .int .i64 z.rows, .int .i64 z.cols] 112)).alloc (DsO none 0 0 0 0 0 false false))).heap[w.heap.size + 1]? = some (.cells #[.int .i64 z.kind, .slice z.A z.n z.c, .int .u64 z.N, .int .u64 z.now, .int .i64 z.rows, .int .i64 z.cols] 112 (0, 0)) := obj_alloc (obj_new2 _ _ _) _
  have h7 : ((((w.alloc (DsO A ty cp se ac la be ask)).alloc (.cells #[.int .i64 z.kind, .slice z.A z.n z.c, .int .u64 z.N, .int .u64 z.now, .int .i64 z.rows, .int .i64 z.cols] 112)).alloc (DsO none 0 0 0 0 0 false false))).heap[w.heap.size + 1 + 1]? = some (DsO none 0 0 0 0 0 false false) := obj_new3 _ _ _ _
  have hK : Kept [] w ((((w.alloc (DsO A ty cp se ac la be ask)).alloc (.cells #[.int .i64 z.kind, .slice z.A z.n z.c, .int .u64 z.N, .int .u64 z.now, .int .i64 z.rows, .int .i64 z.cols] 112)).alloc (DsO none 0 0 0 0 0 false false))) := (((Kept.refl [] w).alloc _).alloc _).alloc _
  change Code.wp _ _ _ _ ((((w.alloc (DsO A ty cp se ac la be ask)).alloc (.cells #[.int .i64 z.kind, .slice z.A z.n z.c, .int .u64 z.N, .int .u64 z.now, .int .i64 z.rows, .int .i64 z.cols] 112)).alloc (DsO none 0 0 0 0 0 false false)))
  generalize ((((w.alloc (DsO A ty cp se ac la be ask)).alloc (.cells #[.int .i64 z.kind, .slice z.A z.n z.c, .int .u64 z.N, .int .u64 z.now, .int .i64 z.rows, .int .i64 z.cols] 112)).alloc (DsO none 0 0 0 0 0 false false))) = wA at *
  generalize hb7 : w.heap.size + 1 + 1 = b7 at *
  generalize hb5 : w.heap.size + 1 = b5 at *
  generalize hb4 : w.heap.size = b4 at *
  have D := hide (DoW.mk ((unhide H).next hK) h4 h5 h7 hK ((unhide HZ).kept hK) (⟨by omega, by omega, by omega⟩ : w.heap.size ≤ b4 ∧ b4 < b5 ∧ b5 < b7))
  have HB4 := hide hb4
  have HTY1 : Hid (ty ≤ 1000) := hide (by omega)
  have HORD := hide (unhide H).s.ord
  have HAC : Hid (ac ≤ ty) := hide (by have := (unhide H).s.ord; omega)
  have HTY6 : Hid (ty ≤ 1000000) := hide (by omega)
  have HN5 : Hid (b5 ∉ [sg, qc]) := hide (by have := unhide HLT; simp; omega)
  have HN7 : Hid (b7 ∉ [sg, qc]) := hide (by have := unhide HLT; simp; omega)
  clear h4 h5 h7 hK hb4 hb5 hb7 H HZ
  obtain ⟨x0, x1, x2, x3, x4, x5, xl⟩ := (unhide D).cells
  obtain ⟨k, hk⟩ : ∃ k, k = min z.n 20 := ⟨_, rfl⟩
  have HKK := hide hk
  clear hk
  go_cut [9] (fun s9 wx => s9 = .slice z.A k z.c ∧ wx = wA)
  case first =>
    by_cases h20 : z.n ≤ 20
    · go_wp2_with fail
      go_meet
      exact ⟨by rw [show k = z.n by have := unhide HKK; omega], rfl⟩
    · have im4 : (20 : Int) ≤ (z.c : Int) := by omega
      go_wp2_with fail
      go_meet
      exact ⟨by rw [show k = 20 by have := unhide HKK; omega], rfl⟩
  case rest =>
    obtain ⟨rfl, rfl⟩ := hcut
    rw [unhide HKIND] at x0
    obtain ⟨y0, y1, y2, y3, y4, y5, yz, yl⟩ := DsO.get (unhide D).o4
    obtain ⟨p0, p1, p2, p3, p4, p5, pz, pl⟩ := DsO.get (unhide D).o7
    have HKL : Hid (ks.length = ty - ac) := hide (by have := (unhide D).p.s.sum; omega)
    have n57 : ¬ b5 = b7 := by have := (unhide D).lo; omega
    have n75 : ¬ b7 = b5 := by omega
    have n47 : ¬ b4 = b7 := by have := (unhide D).lo; omega
    have n74 : ¬ b7 = b4 := by omega
    obtain ⟨bd, hbd⟩ : ∃ bd, bd = dueB (ty - ac) ty se la be ask z.now z.N := ⟨_, rfl⟩
    have HBD := hide hbd.symm
    clear hbd
    go_upto_region 13 with (fail)
    go_region_held3 (fun w' => w'.cell? ⟨b5, 2, none⟩ = some (.int .u64 z.N) ∧ w'.cell? ⟨b5, 3, none⟩ = some (.int .u64 z.now) ∧ w'.cell? ⟨b4, 0, none⟩ = some (.slice A ty cp) ∧ w'.cell? ⟨b4, 1, none⟩ = some (.int .i64 (se : Int)) ∧ w'.cell? ⟨b4, 2, none⟩ = some (.int .i64 (ac : Int)) ∧ w'.cell? ⟨b4, 3, none⟩ = some (.int .u64 la) ∧ w'.cell? ⟨b4, 4, none⟩ = some (.bool be) ∧ w'.cell? ⟨b4, 5, none⟩ = some (.bool ask)) (go_keep)
      (first
        | (go_at_call 72; refine (due_any sg _ _ _ _ _ _ _ _ _ _ _ _ ((unhide D).next ((Kept.refl [] _).drew)).p.s (unhide D).p.la (unhide D).z.now).mono ?_; rw [unhide HKL, unhide HBD]; rintro e wv1 ⟨rfl, hk⟩; have DV1 := hide ((unhide D).next (((Kept.refl [] _).drew).trans hk (by simp))); obtain ⟨u0, u1, u2, u3, u4, u5, ul⟩ := (unhide DV1).cells; obtain ⟨v0, v1, v2, v3, v4, v5, vz, vl⟩ := DsO.get (unhide DV1).o4; clear hk)
        | (go_at_call 88; refine (rdue_any A ty cp se ac la be ask _ _ _ (unhide HTY1) (unhide HORD).2 (unhide HAC) (unhide D).p.la (unhide D).z.now).mono ?_; rw [unhide HBD]; rintro e wv2 ⟨rfl, hk⟩; have DV2 := hide ((unhide DV1).next hk); obtain ⟨m0, m1, m2, m3, m4, m5, ml⟩ := (unhide DV2).cells; obtain ⟨g0, g1, g2, g3, g4, g5, gz, gl⟩ := DsO.get (unhide DV2).o4; obtain ⟨q0, q1, q2, q3, q4, q5, qz, ql⟩ := DsO.get (unhide DV2).o7; clear hk))
    have hb := unhide HB
    have hlt := unhide HLT
    have hb4 := unhide HB4
    have hl2 := (unhide D).lo
    go_wp2
    refine bodyPost_ret (v := .tuple #[.pointer (some ⟨sg, 0, none⟩), dsV A ty cp se ac la be ask, .bool true]) (by simp [results, Try.results74, go_sem, dsV, q0, q1, q2, q3, q4, q5]) rfl ?_
    exact do_end (unhide DV2).p (unhide DV2).kept (by simp) (by omega) hb (by omega) ⟨by omega, by omega, by omega⟩ (fun a ha => by have := unhide HALT a ha; omega)
set_option maxRecDepth 100000 in
set_option maxHeartbeats 1500000 in
theorem do_ko (base sg qg qc : Nat) (ks : List ByteArray) (ty se ac : Nat) (la : Int) (be ask : Bool) (A : Option Addr) (cp : Nat) (xs : List ByteArray) (z : SA) (w : World) (h : Pair w sg qg qc ks ty se ac la be ask A cp xs) (hz : z.ok w) (hty : ty ≤ 500) (hb : base ≤ sg ∧ base ≤ qg ∧ base ≤ qc) (hkk : ¬ z.kind = 0 ∧ ¬ z.kind = 1 ∧ ¬ z.kind = 2 ∧ ¬ z.kind = 3 ∧ ¬ z.kind = 4 ∧ ¬ z.kind = 5) :
     Calls Try.prog 74 #[.pointer (some ⟨sg, 0, none⟩), dsV A ty cp se ac la be ask, z.val] w (DoOk w base ty sg qc) := by
  have HKIND := hide hkk
  clear hkk
  have H := hide h
  have HZ := hide hz
  have HB := hide hb
  have HLT : Hid (sg < w.heap.size ∧ qg < w.heap.size ∧ qc < w.heap.size) := hide ⟨heap_lt h.s.box, h.s.q.lt.1, h.s.q.lt.2⟩
  have HALT : Hid (∀ a, A = some a → a.block < w.heap.size) := hide h.d.lt
  have hcm := hz.by_.2.2.1
  have hm9 : z.n ≤ 9223372036854775807 := by have := hz.by_.2.1; unfold maxLen at hcm; omega
  have hnc : z.n ≤ z.c := hz.by_.2.1
  have hnc1 : (z.n : Int) ≤ (z.c : Int) := by omega
  clear h hz hb hcm
  unfold dsV SA.val
  go_enter Try.func74, Try.ntmps74
  go_upto_region 1 with (fail)
  have h4 : ((((w.alloc (DsO A ty cp se ac la be ask)).alloc (.cells #[.int .i64 z.kind, .slice z.A z.n z.c, .int .u64 z.N, .int .u64 z.now, .int .i64 z.rows, .int .i64 z.cols] 112)).alloc (DsO none 0 0 0 0 0 false false))).heap[w.heap.size]? = some (DsO A ty cp se ac la be ask) := obj_alloc (obj_alloc (obj_new _ _) _) _
  have h5 : ((((w.alloc (DsO A ty cp se ac la be ask)).alloc (.cells #[.int .i64 z.kind, .slice z.A z.n z.c, .int .u64 z.N, .int .u64 z.now, .int .i64 z.rows, .int .i64 z.cols] 112)).alloc (DsO none 0 0 0 0 0 false false))).heap[w.heap.size + 1]? = some (.cells #[.int .i64 z.kind, .slice z.A z.n z.c, .int .u64 z.N, .int .u64 z.now, .int .i64 z.rows, .int .i64 z.cols] 112 (0, 0)) := obj_alloc (obj_new2 _ _ _) _
  have h7 : ((((w.alloc (DsO A ty cp se ac la be ask)).alloc (.cells #[.int .i64 z.kind, .slice z.A z.n z.c, .int .u64 z.N, .int .u64 z.now, .int .i64 z.rows, .int .i64 z.cols] 112)).alloc (DsO none 0 0 0 0 0 false false))).heap[w.heap.size + 1 + 1]? = some (DsO none 0 0 0 0 0 false false) := obj_new3 _ _ _ _
  have hK : Kept [] w ((((w.alloc (DsO A ty cp se ac la be ask)).alloc (.cells #[.int .i64 z.kind, .slice z.A z.n z.c, .int .u64 z.N, .int .u64 z.now, .int .i64 z.rows, .int .i64 z.cols] 112)).alloc (DsO none 0 0 0 0 0 false false))) := (((Kept.refl [] w).alloc _).alloc _).alloc _
  change Code.wp _ _ _ _ ((((w.alloc (DsO A ty cp se ac la be ask)).alloc (.cells #[.int .i64 z.kind, .slice z.A z.n z.c, .int .u64 z.N, .int .u64 z.now, .int .i64 z.rows, .int .i64 z.cols] 112)).alloc (DsO none 0 0 0 0 0 false false)))
  generalize ((((w.alloc (DsO A ty cp se ac la be ask)).alloc (.cells #[.int .i64 z.kind, .slice z.A z.n z.c, .int .u64 z.N, .int .u64 z.now, .int .i64 z.rows, .int .i64 z.cols] 112)).alloc (DsO none 0 0 0 0 0 false false))) = wA at *
  generalize hb7 : w.heap.size + 1 + 1 = b7 at *
  generalize hb5 : w.heap.size + 1 = b5 at *
  generalize hb4 : w.heap.size = b4 at *
  have D := hide (DoW.mk ((unhide H).next hK) h4 h5 h7 hK ((unhide HZ).kept hK) (⟨by omega, by omega, by omega⟩ : w.heap.size ≤ b4 ∧ b4 < b5 ∧ b5 < b7))
  have HB4 := hide hb4
  have HTY1 : Hid (ty ≤ 1000) := hide (by omega)
  have HORD := hide (unhide H).s.ord
  have HAC : Hid (ac ≤ ty) := hide (by have := (unhide H).s.ord; omega)
  have HTY6 : Hid (ty ≤ 1000000) := hide (by omega)
  have HN5 : Hid (b5 ∉ [sg, qc]) := hide (by have := unhide HLT; simp; omega)
  have HN7 : Hid (b7 ∉ [sg, qc]) := hide (by have := unhide HLT; simp; omega)
  clear h4 h5 h7 hK hb4 hb5 hb7 H HZ
  obtain ⟨x0, x1, x2, x3, x4, x5, xl⟩ := (unhide D).cells
  obtain ⟨k, hk⟩ : ∃ k, k = min z.n 20 := ⟨_, rfl⟩
  have HKK := hide hk
  clear hk
  go_cut [9] (fun s9 wx => s9 = .slice z.A k z.c ∧ wx = wA)
  case first =>
    by_cases h20 : z.n ≤ 20
    · go_wp2_with fail
      go_meet
      exact ⟨by rw [show k = z.n by have := unhide HKK; omega], rfl⟩
    · have im4 : (20 : Int) ≤ (z.c : Int) := by omega
      go_wp2_with fail
      go_meet
      exact ⟨by rw [show k = 20 by have := unhide HKK; omega], rfl⟩
  case rest =>
    obtain ⟨rfl, rfl⟩ := hcut
    obtain ⟨k0, k1, k2, k3, k4, k5⟩ := unhide HKIND
    have e0 : (z.kind == 0) = false := by simpa using k0
    have e1 : (z.kind == 1) = false := by simpa using k1
    have e2 : (z.kind == 2) = false := by simpa using k2
    have e3 : (z.kind == 3) = false := by simpa using k3
    have e4 : (z.kind == 4) = false := by simpa using k4
    have e5 : (z.kind == 5) = false := by simpa using k5
    clear k0 k1 k2 k3 k4 k5
    obtain ⟨y0, y1, y2, y3, y4, y5, yz, yl⟩ := DsO.get (unhide D).o4
    obtain ⟨p0, p1, p2, p3, p4, p5, pz, pl⟩ := DsO.get (unhide D).o7
    have n47 : ¬ b4 = b7 := by have := (unhide D).lo; omega
    have n74 : ¬ b7 = b4 := by omega
    go_upto_region 27 with (fail)
    go_region
    have hb := unhide HB
    have hlt := unhide HLT
    have hb4 := unhide HB4
    have hl2 := (unhide D).lo
    go_wp2
    refine bodyPost_ret (v := .tuple #[.pointer (some ⟨sg, 0, none⟩), dsV A ty cp se ac la be ask, .bool true]) (by simp [results, Try.results74, go_sem, dsV, p0, p1, p2, p3, p4, p5]) rfl ?_
    exact (do_end (unhide D).p (unhide D).kept (by simp) (by omega) hb (by omega) ⟨by omega, by omega, by omega⟩ (fun a ha => by have := unhide HALT a ha; omega)).drew
set_option maxRecDepth 100000 in
set_option maxHeartbeats 1500000 in
theorem do_TYPE0 (base sg qg qc : Nat) (ks : List ByteArray) (ty se ac : Nat) (la : Int) (be ask : Bool) (A : Option Addr) (cp : Nat) (xs : List ByteArray) (z : SA) (w : World) (h : Pair w sg qg qc ks ty se ac la be ask A cp xs) (hz : z.ok w) (hty : ty ≤ 500) (hb : base ≤ sg ∧ base ≤ qg ∧ base ≤ qc) (hkk : z.kind = 0 ∧ z.n = 0) :
     Calls Try.prog 74 #[.pointer (some ⟨sg, 0, none⟩), dsV A ty cp se ac la be ask, z.val] w (DoOk w base ty sg qc) := by
  have HKIND := hide hkk
  clear hkk
  have H := hide h
  have HZ := hide hz
  have HB := hide hb
  have HLT : Hid (sg < w.heap.size ∧ qg < w.heap.size ∧ qc < w.heap.size) := hide ⟨heap_lt h.s.box, h.s.q.lt.1, h.s.q.lt.2⟩
  have HALT : Hid (∀ a, A = some a → a.block < w.heap.size) := hide h.d.lt
  have hcm := hz.by_.2.2.1
  have hm9 : z.n ≤ 9223372036854775807 := by have := hz.by_.2.1; unfold maxLen at hcm; omega
  have hnc : z.n ≤ z.c := hz.by_.2.1
  have hnc1 : (z.n : Int) ≤ (z.c : Int) := by omega
  clear h hz hb hcm
  unfold dsV SA.val
  go_enter Try.func74, Try.ntmps74
  go_upto_region 1 with (fail)
  have h4 : ((((w.alloc (DsO A ty cp se ac la be ask)).alloc (.cells #[.int .i64 z.kind, .slice z.A z.n z.c, .int .u64 z.N, .int .u64 z.now, .int .i64 z.rows, .int .i64 z.cols] 112)).alloc (DsO none 0 0 0 0 0 false false))).heap[w.heap.size]? = some (DsO A ty cp se ac la be ask) := obj_alloc (obj_alloc (obj_new _ _) _) _
  have h5 : ((((w.alloc (DsO A ty cp se ac la be ask)).alloc (.cells #[.int .i64 z.kind, .slice z.A z.n z.c, .int .u64 z.N, .int .u64 z.now, .int .i64 z.rows, .int .i64 z.cols] 112)).alloc (DsO none 0 0 0 0 0 false false))).heap[w.heap.size + 1]? = some (.cells #[.int .i64 z.kind, .slice z.A z.n z.c, .int .u64 z.N, .int .u64 z.now, .int .i64 z.rows, .int .i64 z.cols] 112 (0, 0)) := obj_alloc (obj_new2 _ _ _) _
  have h7 : ((((w.alloc (DsO A ty cp se ac la be ask)).alloc (.cells #[.int .i64 z.kind, .slice z.A z.n z.c, .int .u64 z.N, .int .u64 z.now, .int .i64 z.rows, .int .i64 z.cols] 112)).alloc (DsO none 0 0 0 0 0 false false))).heap[w.heap.size + 1 + 1]? = some (DsO none 0 0 0 0 0 false false) := obj_new3 _ _ _ _
  have hK : Kept [] w ((((w.alloc (DsO A ty cp se ac la be ask)).alloc (.cells #[.int .i64 z.kind, .slice z.A z.n z.c, .int .u64 z.N, .int .u64 z.now, .int .i64 z.rows, .int .i64 z.cols] 112)).alloc (DsO none 0 0 0 0 0 false false))) := (((Kept.refl [] w).alloc _).alloc _).alloc _
  change Code.wp _ _ _ _ ((((w.alloc (DsO A ty cp se ac la be ask)).alloc (.cells #[.int .i64 z.kind, .slice z.A z.n z.c, .int .u64 z.N, .int .u64 z.now, .int .i64 z.rows, .int .i64 z.cols] 112)).alloc (DsO none 0 0 0 0 0 false false)))
  generalize ((((w.alloc (DsO A ty cp se ac la be ask)).alloc (.cells #[.int .i64 z.kind, .slice z.A z.n z.c, .int .u64 z.N, .int .u64 z.now, .int .i64 z.rows, .int .i64 z.cols] 112)).alloc (DsO none 0 0 0 0 0 false false))) = wA at *
  generalize hb7 : w.heap.size + 1 + 1 = b7 at *
  generalize hb5 : w.heap.size + 1 = b5 at *
  generalize hb4 : w.heap.size = b4 at *
  have D := hide (DoW.mk ((unhide H).next hK) h4 h5 h7 hK ((unhide HZ).kept hK) (⟨by omega, by omega, by omega⟩ : w.heap.size ≤ b4 ∧ b4 < b5 ∧ b5 < b7))
  have HB4 := hide hb4
  have HTY1 : Hid (ty ≤ 1000) := hide (by omega)
  have HORD := hide (unhide H).s.ord
  have HAC : Hid (ac ≤ ty) := hide (by have := (unhide H).s.ord; omega)
  have HTY6 : Hid (ty ≤ 1000000) := hide (by omega)
  have HN5 : Hid (b5 ∉ [sg, qc]) := hide (by have := unhide HLT; simp; omega)
  have HN7 : Hid (b7 ∉ [sg, qc]) := hide (by have := unhide HLT; simp; omega)
  clear h4 h5 h7 hK hb4 hb5 hb7 H HZ
  obtain ⟨x0, x1, x2, x3, x4, x5, xl⟩ := (unhide D).cells
  obtain ⟨k, hk⟩ : ∃ k, k = min z.n 20 := ⟨_, rfl⟩
  have HKK := hide hk
  clear hk
  go_cut [9] (fun s9 wx => s9 = .slice z.A k z.c ∧ wx = wA)
  case first =>
    by_cases h20 : z.n ≤ 20
    · go_wp2_with fail
      go_meet
      exact ⟨by rw [show k = z.n by have := unhide HKK; omega], rfl⟩
    · have im4 : (20 : Int) ≤ (z.c : Int) := by omega
      go_wp2_with fail
      go_meet
      exact ⟨by rw [show k = 20 by have := unhide HKK; omega], rfl⟩
  case rest =>
    obtain ⟨rfl, rfl⟩ := hcut
    rw [(unhide HKIND).1] at x0
    have hk00 : k = 0 := by have h1 := unhide HKK; have h2 := (unhide HKIND).2; omega
    subst hk00
    obtain ⟨y0, y1, y2, y3, y4, y5, yz, yl⟩ := DsO.get (unhide D).o4
    have hcv := fun W => conv_empty z.A z.c W
    go_wp2_with fail
    refine (rtype_empty A ty cp se ac la be ask _).mono ?_

    rintro e w1 ⟨rfl, hk1⟩
    unfold dsV
    have D1 := hide ((unhide D).next hk1)
    clear hk1 hcv x0 x1 x2 x3 x4 x5 xl y0 y1 y2 y3 y4 y5 yz yl
    obtain ⟨x0, x1, x2, x3, x4, x5, xl⟩ := (unhide D1).cells

    go_upto_region 5 with (fail)
    have kz : Kept [] w1 (w1.alloc (DsO A ty cp se ac la be ask)) := (Kept.refl [] w1).alloc _
    have h12 : (w1.alloc (DsO A ty cp se ac la be ask)).heap[w1.heap.size]? = some (DsO A ty cp se ac la be ask) := obj_new _ _
    change Code.wp _ _ _ _ (w1.alloc (DsO A ty cp se ac la be ask))
    generalize w1.alloc (DsO A ty cp se ac la be ask) = w2 at *
    have hge : w.heap.size ≤ w1.heap.size := (unhide D1).kept.size
    have h7l : b7 < w1.heap.size := heap_lt (unhide D1).o7
    generalize w1.heap.size = b12 at *
    have D2 := hide ((unhide D1).next kz)
    have H12 := hide h12
    have HGE := hide hge
    have HN12 : Hid (b12 ∉ [sg, qc]) := hide (by have := unhide HLT; have := unhide HB4; simp; omega)
    have n57 : ¬ b5 = b7 := by have := (unhide D1).lo; omega
    have n75 : ¬ b7 = b5 := by omega
    have n127 : ¬ b12 = b7 := by omega
    have n712 : ¬ b7 = b12 := by omega
    clear h12 hge h7l D1 D x0 x1 x2 x3 x4 x5 xl
    obtain ⟨x0, x1, x2, x3, x4, x5, xl⟩ := (unhide D2).cells

    obtain ⟨y0, y1, y2, y3, y4, y5, yz, yl⟩ := DsO.get (unhide H12)
    obtain ⟨p0, p1, p2, p3, p4, p5, pz, pl⟩ := DsO.get (unhide D2).o7

    go_region_held3 (fun w' => w'.cell? ⟨b12, 0, none⟩ = some (.slice A ty cp) ∧ w'.cell? ⟨b12, 1, none⟩ = some (.int .i64 (se : Int)) ∧ w'.cell? ⟨b12, 2, none⟩ = some (.int .i64 (ac : Int)) ∧ w'.cell? ⟨b12, 3, none⟩ = some (.int .u64 la) ∧ w'.cell? ⟨b12, 4, none⟩ = some (.bool be) ∧ w'.cell? ⟨b12, 5, none⟩ = some (.bool ask)) (go_keep)
      (first
        | (go_at_call 61; refine (stype_none sg _ _ _).mono ?_; rintro e w3 ⟨rfl, rfl⟩))

    have hb := unhide HB
    have hlt := unhide HLT
    have hb4 := unhide HB4
    have hl2 := (unhide D2).lo
    go_wp2
    refine bodyPost_ret (v := .tuple #[.pointer (some ⟨sg, 0, none⟩), dsV A ty cp se ac la be ask, .bool true]) (by simp [results, Try.results74, go_sem, dsV, p0, p1, p2, p3, p4, p5]) rfl ?_
    exact (do_end (unhide D2).p (unhide D2).kept (by simp) (by omega) hb (by omega) ⟨by omega, by omega, by omega⟩ (fun a ha => by have := unhide HALT a ha; omega)).drew
set_option maxRecDepth 100000 in
set_option maxHeartbeats 1500000 in
theorem do_TYPEY (base sg qg qc : Nat) (ks : List ByteArray) (ty se ac : Nat) (la : Int) (be ask : Bool) (A : Option Addr) (cp : Nat) (xs : List ByteArray) (z : SA) (w : World) (h : Pair w sg qg qc ks ty se ac la be ask A cp xs) (hz : z.ok w) (hty : ty ≤ 500) (hb : base ≤ sg ∧ base ≤ qg ∧ base ≤ qc) (hkk : z.kind = 0 ∧ 1 ≤ z.n ∧ z.n ≤ 8 ∧ ks.length < 64) :
     Calls Try.prog 74 #[.pointer (some ⟨sg, 0, none⟩), dsV A ty cp se ac la be ask, z.val] w (DoOk w base ty sg qc) := by
  have HKIND := hide hkk
  clear hkk
  have H := hide h
  have HZ := hide hz
  have HB := hide hb
  have HLT : Hid (sg < w.heap.size ∧ qg < w.heap.size ∧ qc < w.heap.size) := hide ⟨heap_lt h.s.box, h.s.q.lt.1, h.s.q.lt.2⟩
  have HALT : Hid (∀ a, A = some a → a.block < w.heap.size) := hide h.d.lt
  have hcm := hz.by_.2.2.1
  have hm9 : z.n ≤ 9223372036854775807 := by have := hz.by_.2.1; unfold maxLen at hcm; omega
  have hnc : z.n ≤ z.c := hz.by_.2.1
  have hnc1 : (z.n : Int) ≤ (z.c : Int) := by omega
  clear h hz hb hcm
  unfold dsV SA.val
  go_enter Try.func74, Try.ntmps74
  go_upto_region 1 with (fail)
  have h4 : ((((w.alloc (DsO A ty cp se ac la be ask)).alloc (.cells #[.int .i64 z.kind, .slice z.A z.n z.c, .int .u64 z.N, .int .u64 z.now, .int .i64 z.rows, .int .i64 z.cols] 112)).alloc (DsO none 0 0 0 0 0 false false))).heap[w.heap.size]? = some (DsO A ty cp se ac la be ask) := obj_alloc (obj_alloc (obj_new _ _) _) _
  have h5 : ((((w.alloc (DsO A ty cp se ac la be ask)).alloc (.cells #[.int .i64 z.kind, .slice z.A z.n z.c, .int .u64 z.N, .int .u64 z.now, .int .i64 z.rows, .int .i64 z.cols] 112)).alloc (DsO none 0 0 0 0 0 false false))).heap[w.heap.size + 1]? = some (.cells #[.int .i64 z.kind, .slice z.A z.n z.c, .int .u64 z.N, .int .u64 z.now, .int .i64 z.rows, .int .i64 z.cols] 112 (0, 0)) := obj_alloc (obj_new2 _ _ _) _
  have h7 : ((((w.alloc (DsO A ty cp se ac la be ask)).alloc (.cells #[.int .i64 z.kind, .slice z.A z.n z.c, .int .u64 z.N, .int .u64 z.now, .int .i64 z.rows, .int .i64 z.cols] 112)).alloc (DsO none 0 0 0 0 0 false false))).heap[w.heap.size + 1 + 1]? = some (DsO none 0 0 0 0 0 false false) := obj_new3 _ _ _ _
  have hK : Kept [] w ((((w.alloc (DsO A ty cp se ac la be ask)).alloc (.cells #[.int .i64 z.kind, .slice z.A z.n z.c, .int .u64 z.N, .int .u64 z.now, .int .i64 z.rows, .int .i64 z.cols] 112)).alloc (DsO none 0 0 0 0 0 false false))) := (((Kept.refl [] w).alloc _).alloc _).alloc _
  change Code.wp _ _ _ _ ((((w.alloc (DsO A ty cp se ac la be ask)).alloc (.cells #[.int .i64 z.kind, .slice z.A z.n z.c, .int .u64 z.N, .int .u64 z.now, .int .i64 z.rows, .int .i64 z.cols] 112)).alloc (DsO none 0 0 0 0 0 false false)))
  generalize ((((w.alloc (DsO A ty cp se ac la be ask)).alloc (.cells #[.int .i64 z.kind, .slice z.A z.n z.c, .int .u64 z.N, .int .u64 z.now, .int .i64 z.rows, .int .i64 z.cols] 112)).alloc (DsO none 0 0 0 0 0 false false))) = wA at *
  generalize hb7 : w.heap.size + 1 + 1 = b7 at *
  generalize hb5 : w.heap.size + 1 = b5 at *
  generalize hb4 : w.heap.size = b4 at *
  have D := hide (DoW.mk ((unhide H).next hK) h4 h5 h7 hK ((unhide HZ).kept hK) (⟨by omega, by omega, by omega⟩ : w.heap.size ≤ b4 ∧ b4 < b5 ∧ b5 < b7))
  have HB4 := hide hb4
  have HTY1 : Hid (ty ≤ 1000) := hide (by omega)
  have HORD := hide (unhide H).s.ord
  have HAC : Hid (ac ≤ ty) := hide (by have := (unhide H).s.ord; omega)
  have HTY6 : Hid (ty ≤ 1000000) := hide (by omega)
  have HN5 : Hid (b5 ∉ [sg, qc]) := hide (by have := unhide HLT; simp; omega)
  have HN7 : Hid (b7 ∉ [sg, qc]) := hide (by have := unhide HLT; simp; omega)
  clear h4 h5 h7 hK hb4 hb5 hb7 H HZ
  obtain ⟨x0, x1, x2, x3, x4, x5, xl⟩ := (unhide D).cells
  obtain ⟨k, hk⟩ : ∃ k, k = min z.n 20 := ⟨_, rfl⟩
  have HKK := hide hk
  clear hk
  go_cut [9] (fun s9 wx => s9 = .slice z.A k z.c ∧ wx = wA)
  case first =>
    by_cases h20 : z.n ≤ 20
    · go_wp2_with fail
      go_meet
      exact ⟨by rw [show k = z.n by have := unhide HKK; omega], rfl⟩
    · have im4 : (20 : Int) ≤ (z.c : Int) := by omega
      go_wp2_with fail
      go_meet
      exact ⟨by rw [show k = 20 by have := unhide HKK; omega], rfl⟩
  case rest =>
    obtain ⟨rfl, rfl⟩ := hcut
    rw [(unhide HKIND).1] at x0
    have hk9 : 1 ≤ k ∧ k ≤ 8 ∧ k ≤ z.n := by have h1 := unhide HKK; have h2 := (unhide HKIND).2; omega
    have HKN : Hid (k ≤ z.n) := hide hk9.2.2
    have HK1 : Hid (1 ≤ k) := hide hk9.1
    have HK8 : Hid (k ≤ 8) := hide hk9.2.1
    obtain ⟨hk9a, hk9b, _⟩ := hk9
    obtain ⟨y0, y1, y2, y3, y4, y5, yz, yl⟩ := DsO.get (unhide D).o4

    obtain ⟨key, hkey⟩ : ∃ key, key = strOfNums (z.xs.take k) := ⟨_, rfl⟩
    have hcv := conv_byt (c := z.c) (byt_take (unhide D).z.by_.1 (unhide HKN)) (by omega)
    rw [← hkey] at hcv
    have hks : key.size = k := by rw [hkey, strOfNums_size, List.length_take]; have h1 := (unhide D).z.by_.1.1; have h2 := unhide HKN; omega
    have HKEY := hide hkey
    have HKSZ := hide hks
    clear hkey hks

    have HL64 : Hid (ks.length < 64) := hide (unhide HKIND).2.2.2
    go_wp2_with fail
    refine (rtype_yes A ty cp se ac la be ask xs key _ (unhide D).p.d (by have := unhide HKSZ; omega) (by have := unhide HKSZ; omega) (unhide HTY1) (unhide HAC) (by have h1 := (unhide D).p.s.sum; have h2 := unhide HL64; omega)).mono ?_
    have hxl : (xs ++ [key]).length = ty + 1 := by have := (unhide D).p.d.1; simp; omega
    rintro e w1 ⟨A1, cp1, rfl, hd1, hk1, hf1⟩
    unfold dsV
    rw [hxl] at hd1 ⊢
    have D1 := hide ((unhide D).next hk1)
    have HF2 : Hid (∀ a, A1 = some a → (a.block ≠ sg ∧ a.block ≠ qg ∧ a.block ≠ qc) ∧ a.block ≠ b7) := hide (fun a ha => by have h1 := hf1 a ha; have h2 := heap_lt (unhide D).o7; have h3 := heap_lt (unhide D).p.s.box; have h4 := (unhide D).p.s.q.lt; omega)
    have HD1 := hide hd1
    have HXL : Hid (ac ≤ xs.length) := hide (by have h1 := (unhide D).p.d.1; have h2 := unhide HAC; omega)
    clear hk1 hf1 hd1 hxl hcv x0 x1 x2 x3 x4 x5 xl y0 y1 y2 y3 y4 y5 yz yl
    obtain ⟨x0, x1, x2, x3, x4, x5, xl⟩ := (unhide D1).cells

    go_upto_region 5 with (fail)
    have kz : Kept [] w1 (w1.alloc (DsO A1 (ty + 1) cp1 se ac la be ask)) := (Kept.refl [] w1).alloc _
    have h12 : (w1.alloc (DsO A1 (ty + 1) cp1 se ac la be ask)).heap[w1.heap.size]? = some (DsO A1 (ty + 1) cp1 se ac la be ask) := obj_new _ _
    change Code.wp _ _ _ _ (w1.alloc (DsO A1 (ty + 1) cp1 se ac la be ask))
    generalize w1.alloc (DsO A1 (ty + 1) cp1 se ac la be ask) = w2 at *
    have hge : w.heap.size ≤ w1.heap.size := (unhide D1).kept.size
    have h7l : b7 < w1.heap.size := heap_lt (unhide D1).o7
    generalize w1.heap.size = b12 at *
    have D2 := hide ((unhide D1).next kz)
    have H12 := hide h12
    have HGE := hide hge
    have HN12 : Hid (b12 ∉ [sg, qc]) := hide (by have := unhide HLT; have := unhide HB4; simp; omega)
    have n57 : ¬ b5 = b7 := by have := (unhide D1).lo; omega
    have n75 : ¬ b7 = b5 := by omega
    have n127 : ¬ b12 = b7 := by omega
    have n712 : ¬ b7 = b12 := by omega
    clear h12 hge h7l D1 D x0 x1 x2 x3 x4 x5 xl
    obtain ⟨x0, x1, x2, x3, x4, x5, xl⟩ := (unhide D2).cells

    obtain ⟨y0, y1, y2, y3, y4, y5, yz, yl⟩ := DsO.get (unhide H12)
    obtain ⟨p0, p1, p2, p3, p4, p5, pz, pl⟩ := DsO.get (unhide D2).o7

    have HD2 := hide ((unhide HD1).kept kz (by simp))
    go_region_held3 (fun w' => w'.cell? ⟨b12, 0, none⟩ = some (.slice A1 (ty + 1) cp1) ∧ w'.cell? ⟨b12, 1, none⟩ = some (.int .i64 (se : Int)) ∧ w'.cell? ⟨b12, 2, none⟩ = some (.int .i64 (ac : Int)) ∧ w'.cell? ⟨b12, 3, none⟩ = some (.int .u64 la) ∧ w'.cell? ⟨b12, 4, none⟩ = some (.bool be) ∧ w'.cell? ⟨b12, 5, none⟩ = some (.bool ask)) (go_keep)
      (first
        | (go_at_call 61; refine (stype_yes sg _ _ _ _ _ _ _ _ _ z.A k z.c (z.xs.take k) _ ((unhide D2).p.s.next ((Kept.refl [] _).drew) (by simp) (by simp) (by simp)) (byt_take ((unhide D2).z.by_.1.kept ((Kept.refl [] _).drew) (by simp)) (unhide HKN)) (unhide HK1) (unhide HK8) (unhide HL64) (unhide HTY6)).mono ?_; rw [← unhide HKEY]; rintro e w3 ⟨rfl, hs3, hk3⟩; have kk3 : Kept [sg, qc] w2 w3 := ((Kept.refl [sg, qc] w2).drew).trans hk3 (by intro i _ hi; exact hi); have ho12 := kk3.obj (unhide H12) (unhide HN12); have ho5 := kk3.obj (unhide D2).o5 (unhide HN5); have ho7 := kk3.obj (unhide D2).o7 (unhide HN7); obtain ⟨z0, z1, z2, z3, z4, z5, zz, zl⟩ := DsO.get ho12; obtain ⟨r0, r1, r2, r3, r4, r5, rz, rl⟩ := DsO.get ho7; have KK3 := hide kk3; have HS3 := hide hs3; clear hs3 hk3 kk3 ho12 ho5 ho7))

    have hb := unhide HB
    have hlt := unhide HLT
    have hb4 := unhide HB4
    have hl2 := (unhide D2).lo
    go_wp2
    refine bodyPost_ret (v := .tuple #[.pointer (some ⟨sg, 0, none⟩), dsV A1 (ty + 1) cp1 se ac la be ask, .bool true]) (by simp [results, Try.results74, go_sem, dsV, r0, r1, r2, r3, r4, r5]) rfl ?_
    have hpair : Pair w3 sg qg qc (ks ++ [key]) (ty + 1) se ac la be ask A1 cp1 (xs ++ [key]) :=
      ⟨unhide HS3, (unhide HD2).kept (unhide KK3) (fun a ha => by have := unhide HF2 a ha; simp; omega), by rw [List.drop_append_of_le_length (unhide HXL), (unhide D2).p.eq], fun a ha => (unhide HF2 a ha).1, (unhide D2).p.la⟩
    exact do_end hpair ((((unhide D2).kept).mono (T := [sg, qc]) (by simp)).trans (unhide KK3) (by intro i _ hi; exact hi)) (by intro i hi; simp at hi; omega) (by omega) hb (by omega) ⟨by omega, by omega, by omega⟩ (fun a ha => (unhide HF2 a ha).2)
set_option maxRecDepth 100000 in
set_option maxHeartbeats 1500000 in
theorem do_TYPEF (base sg qg qc : Nat) (ks : List ByteArray) (ty se ac : Nat) (la : Int) (be ask : Bool) (A : Option Addr) (cp : Nat) (xs : List ByteArray) (z : SA) (w : World) (h : Pair w sg qg qc ks ty se ac la be ask A cp xs) (hz : z.ok w) (hty : ty ≤ 500) (hb : base ≤ sg ∧ base ≤ qg ∧ base ≤ qc) (hkk : z.kind = 0 ∧ 1 ≤ z.n ∧ z.n ≤ 8 ∧ 64 ≤ ks.length) :
     Calls Try.prog 74 #[.pointer (some ⟨sg, 0, none⟩), dsV A ty cp se ac la be ask, z.val] w (DoOk w base ty sg qc) := by
  have HKIND := hide hkk
  clear hkk
  have H := hide h
  have HZ := hide hz
  have HB := hide hb
  have HLT : Hid (sg < w.heap.size ∧ qg < w.heap.size ∧ qc < w.heap.size) := hide ⟨heap_lt h.s.box, h.s.q.lt.1, h.s.q.lt.2⟩
  have HALT : Hid (∀ a, A = some a → a.block < w.heap.size) := hide h.d.lt
  have hcm := hz.by_.2.2.1
  have hm9 : z.n ≤ 9223372036854775807 := by have := hz.by_.2.1; unfold maxLen at hcm; omega
  have hnc : z.n ≤ z.c := hz.by_.2.1
  have hnc1 : (z.n : Int) ≤ (z.c : Int) := by omega
  clear h hz hb hcm
  unfold dsV SA.val
  go_enter Try.func74, Try.ntmps74
  go_upto_region 1 with (fail)
  have h4 : ((((w.alloc (DsO A ty cp se ac la be ask)).alloc (.cells #[.int .i64 z.kind, .slice z.A z.n z.c, .int .u64 z.N, .int .u64 z.now, .int .i64 z.rows, .int .i64 z.cols] 112)).alloc (DsO none 0 0 0 0 0 false false))).heap[w.heap.size]? = some (DsO A ty cp se ac la be ask) := obj_alloc (obj_alloc (obj_new _ _) _) _
  have h5 : ((((w.alloc (DsO A ty cp se ac la be ask)).alloc (.cells #[.int .i64 z.kind, .slice z.A z.n z.c, .int .u64 z.N, .int .u64 z.now, .int .i64 z.rows, .int .i64 z.cols] 112)).alloc (DsO none 0 0 0 0 0 false false))).heap[w.heap.size + 1]? = some (.cells #[.int .i64 z.kind, .slice z.A z.n z.c, .int .u64 z.N, .int .u64 z.now, .int .i64 z.rows, .int .i64 z.cols] 112 (0, 0)) := obj_alloc (obj_new2 _ _ _) _
  have h7 : ((((w.alloc (DsO A ty cp se ac la be ask)).alloc (.cells #[.int .i64 z.kind, .slice z.A z.n z.c, .int .u64 z.N, .int .u64 z.now, .int .i64 z.rows, .int .i64 z.cols] 112)).alloc (DsO none 0 0 0 0 0 false false))).heap[w.heap.size + 1 + 1]? = some (DsO none 0 0 0 0 0 false false) := obj_new3 _ _ _ _
  have hK : Kept [] w ((((w.alloc (DsO A ty cp se ac la be ask)).alloc (.cells #[.int .i64 z.kind, .slice z.A z.n z.c, .int .u64 z.N, .int .u64 z.now, .int .i64 z.rows, .int .i64 z.cols] 112)).alloc (DsO none 0 0 0 0 0 false false))) := (((Kept.refl [] w).alloc _).alloc _).alloc _
  change Code.wp _ _ _ _ ((((w.alloc (DsO A ty cp se ac la be ask)).alloc (.cells #[.int .i64 z.kind, .slice z.A z.n z.c, .int .u64 z.N, .int .u64 z.now, .int .i64 z.rows, .int .i64 z.cols] 112)).alloc (DsO none 0 0 0 0 0 false false)))
  generalize ((((w.alloc (DsO A ty cp se ac la be ask)).alloc (.cells #[.int .i64 z.kind, .slice z.A z.n z.c, .int .u64 z.N, .int .u64 z.now, .int .i64 z.rows, .int .i64 z.cols] 112)).alloc (DsO none 0 0 0 0 0 false false))) = wA at *
  generalize hb7 : w.heap.size + 1 + 1 = b7 at *
  generalize hb5 : w.heap.size + 1 = b5 at *
  generalize hb4 : w.heap.size = b4 at *
  have D := hide (DoW.mk ((unhide H).next hK) h4 h5 h7 hK ((unhide HZ).kept hK) (⟨by omega, by omega, by omega⟩ : w.heap.size ≤ b4 ∧ b4 < b5 ∧ b5 < b7))
  have HB4 := hide hb4
  have HTY1 : Hid (ty ≤ 1000) := hide (by omega)
  have HORD := hide (unhide H).s.ord
  have HAC : Hid (ac ≤ ty) := hide (by have := (unhide H).s.ord; omega)
  have HTY6 : Hid (ty ≤ 1000000) := hide (by omega)
  have HN5 : Hid (b5 ∉ [sg, qc]) := hide (by have := unhide HLT; simp; omega)
  have HN7 : Hid (b7 ∉ [sg, qc]) := hide (by have := unhide HLT; simp; omega)
  clear h4 h5 h7 hK hb4 hb5 hb7 H HZ
  obtain ⟨x0, x1, x2, x3, x4, x5, xl⟩ := (unhide D).cells
  obtain ⟨k, hk⟩ : ∃ k, k = min z.n 20 := ⟨_, rfl⟩
  have HKK := hide hk
  clear hk
  go_cut [9] (fun s9 wx => s9 = .slice z.A k z.c ∧ wx = wA)
  case first =>
    by_cases h20 : z.n ≤ 20
    · go_wp2_with fail
      go_meet
      exact ⟨by rw [show k = z.n by have := unhide HKK; omega], rfl⟩
    · have im4 : (20 : Int) ≤ (z.c : Int) := by omega
      go_wp2_with fail
      go_meet
      exact ⟨by rw [show k = 20 by have := unhide HKK; omega], rfl⟩
  case rest =>
    obtain ⟨rfl, rfl⟩ := hcut
    rw [(unhide HKIND).1] at x0
    have hk9 : 1 ≤ k ∧ k ≤ 8 ∧ k ≤ z.n := by have h1 := unhide HKK; have h2 := (unhide HKIND).2; omega
    have HKN : Hid (k ≤ z.n) := hide hk9.2.2
    have HK1 : Hid (1 ≤ k) := hide hk9.1
    have HK8 : Hid (k ≤ 8) := hide hk9.2.1
    obtain ⟨hk9a, hk9b, _⟩ := hk9
    obtain ⟨y0, y1, y2, y3, y4, y5, yz, yl⟩ := DsO.get (unhide D).o4

    obtain ⟨key, hkey⟩ : ∃ key, key = strOfNums (z.xs.take k) := ⟨_, rfl⟩
    have hcv := conv_byt (c := z.c) (byt_take (unhide D).z.by_.1 (unhide HKN)) (by omega)
    rw [← hkey] at hcv
    have hks : key.size = k := by rw [hkey, strOfNums_size, List.length_take]; have h1 := (unhide D).z.by_.1.1; have h2 := unhide HKN; omega
    have HKEY := hide hkey
    have HKSZ := hide hks
    clear hkey hks

    have HL64 : Hid (64 ≤ ks.length) := hide (unhide HKIND).2.2.2
    go_wp2_with fail
    refine (rtype_full A ty cp se ac la be ask key _ (by have := unhide HKSZ; omega) (by have := unhide HKSZ; omega) (unhide HTY1) (unhide HAC) (by have h1 := (unhide D).p.s.sum; have h2 := unhide HL64; omega)).mono ?_

    rintro e w1 ⟨rfl, hk1⟩
    unfold dsV
    have D1 := hide ((unhide D).next hk1)
    clear hk1 hcv x0 x1 x2 x3 x4 x5 xl y0 y1 y2 y3 y4 y5 yz yl
    obtain ⟨x0, x1, x2, x3, x4, x5, xl⟩ := (unhide D1).cells

    go_upto_region 5 with (fail)
    have kz : Kept [] w1 (w1.alloc (DsO A ty cp se ac la be ask)) := (Kept.refl [] w1).alloc _
    have h12 : (w1.alloc (DsO A ty cp se ac la be ask)).heap[w1.heap.size]? = some (DsO A ty cp se ac la be ask) := obj_new _ _
    change Code.wp _ _ _ _ (w1.alloc (DsO A ty cp se ac la be ask))
    generalize w1.alloc (DsO A ty cp se ac la be ask) = w2 at *
    have hge : w.heap.size ≤ w1.heap.size := (unhide D1).kept.size
    have h7l : b7 < w1.heap.size := heap_lt (unhide D1).o7
    generalize w1.heap.size = b12 at *
    have D2 := hide ((unhide D1).next kz)
    have H12 := hide h12
    have HGE := hide hge
    have HN12 : Hid (b12 ∉ [sg, qc]) := hide (by have := unhide HLT; have := unhide HB4; simp; omega)
    have n57 : ¬ b5 = b7 := by have := (unhide D1).lo; omega
    have n75 : ¬ b7 = b5 := by omega
    have n127 : ¬ b12 = b7 := by omega
    have n712 : ¬ b7 = b12 := by omega
    clear h12 hge h7l D1 D x0 x1 x2 x3 x4 x5 xl
    obtain ⟨x0, x1, x2, x3, x4, x5, xl⟩ := (unhide D2).cells

    obtain ⟨y0, y1, y2, y3, y4, y5, yz, yl⟩ := DsO.get (unhide H12)
    obtain ⟨p0, p1, p2, p3, p4, p5, pz, pl⟩ := DsO.get (unhide D2).o7

    go_region_held3 (fun w' => w'.cell? ⟨b12, 0, none⟩ = some (.slice A ty cp) ∧ w'.cell? ⟨b12, 1, none⟩ = some (.int .i64 (se : Int)) ∧ w'.cell? ⟨b12, 2, none⟩ = some (.int .i64 (ac : Int)) ∧ w'.cell? ⟨b12, 3, none⟩ = some (.int .u64 la) ∧ w'.cell? ⟨b12, 4, none⟩ = some (.bool be) ∧ w'.cell? ⟨b12, 5, none⟩ = some (.bool ask)) (go_keep)
      (first
        | (go_at_call 61; refine (stype_full sg _ _ _ _ _ _ _ _ _ z.A k z.c (z.xs.take k) _ ((unhide D2).p.s.next ((Kept.refl [] _).drew) (by simp) (by simp) (by simp)) (byt_take ((unhide D2).z.by_.1.kept ((Kept.refl [] _).drew) (by simp)) (unhide HKN)) (unhide HK1) (unhide HK8) (unhide HL64)).mono ?_; rintro e w3 ⟨rfl, hk3⟩; have kk3 : Kept [] w2 w3 := ((Kept.refl [] w2).drew).trans hk3 (by simp); have D3 := hide ((unhide D2).next kk3); have ho12 := kk3.obj (unhide H12) (by simp); obtain ⟨z0, z1, z2, z3, z4, z5, zz, zl⟩ := DsO.get ho12; obtain ⟨r0, r1, r2, r3, r4, r5, rz, rl⟩ := DsO.get (unhide D3).o7; clear hk3 kk3 ho12))

    have hb := unhide HB
    have hlt := unhide HLT
    have hb4 := unhide HB4
    have hl2 := (unhide D2).lo
    go_wp2
    refine bodyPost_ret (v := .tuple #[.pointer (some ⟨sg, 0, none⟩), dsV A ty cp se ac la be ask, .bool true]) (by simp [results, Try.results74, go_sem, dsV, r0, r1, r2, r3, r4, r5]) rfl ?_
    exact (do_end (unhide D3).p (unhide D3).kept (by simp) (by omega) hb (by omega) ⟨by omega, by omega, by omega⟩ (fun a ha => by have := unhide HALT a ha; omega))
set_option maxRecDepth 100000 in
set_option maxHeartbeats 1500000 in
theorem do_TYPEL (base sg qg qc : Nat) (ks : List ByteArray) (ty se ac : Nat) (la : Int) (be ask : Bool) (A : Option Addr) (cp : Nat) (xs : List ByteArray) (z : SA) (w : World) (h : Pair w sg qg qc ks ty se ac la be ask A cp xs) (hz : z.ok w) (hty : ty ≤ 500) (hb : base ≤ sg ∧ base ≤ qg ∧ base ≤ qc) (hkk : z.kind = 0 ∧ 8 < z.n) :
     Calls Try.prog 74 #[.pointer (some ⟨sg, 0, none⟩), dsV A ty cp se ac la be ask, z.val] w (DoOk w base ty sg qc) := by
  have HKIND := hide hkk
  clear hkk
  have H := hide h
  have HZ := hide hz
  have HB := hide hb
  have HLT : Hid (sg < w.heap.size ∧ qg < w.heap.size ∧ qc < w.heap.size) := hide ⟨heap_lt h.s.box, h.s.q.lt.1, h.s.q.lt.2⟩
  have HALT : Hid (∀ a, A = some a → a.block < w.heap.size) := hide h.d.lt
  have hcm := hz.by_.2.2.1
  have hm9 : z.n ≤ 9223372036854775807 := by have := hz.by_.2.1; unfold maxLen at hcm; omega
  have hnc : z.n ≤ z.c := hz.by_.2.1
  have hnc1 : (z.n : Int) ≤ (z.c : Int) := by omega
  clear h hz hb hcm
  unfold dsV SA.val
  go_enter Try.func74, Try.ntmps74
  go_upto_region 1 with (fail)
  have h4 : ((((w.alloc (DsO A ty cp se ac la be ask)).alloc (.cells #[.int .i64 z.kind, .slice z.A z.n z.c, .int .u64 z.N, .int .u64 z.now, .int .i64 z.rows, .int .i64 z.cols] 112)).alloc (DsO none 0 0 0 0 0 false false))).heap[w.heap.size]? = some (DsO A ty cp se ac la be ask) := obj_alloc (obj_alloc (obj_new _ _) _) _
  have h5 : ((((w.alloc (DsO A ty cp se ac la be ask)).alloc (.cells #[.int .i64 z.kind, .slice z.A z.n z.c, .int .u64 z.N, .int .u64 z.now, .int .i64 z.rows, .int .i64 z.cols] 112)).alloc (DsO none 0 0 0 0 0 false false))).heap[w.heap.size + 1]? = some (.cells #[.int .i64 z.kind, .slice z.A z.n z.c, .int .u64 z.N, .int .u64 z.now, .int .i64 z.rows, .int .i64 z.cols] 112 (0, 0)) := obj_alloc (obj_new2 _ _ _) _
  have h7 : ((((w.alloc (DsO A ty cp se ac la be ask)).alloc (.cells #[.int .i64 z.kind, .slice z.A z.n z.c, .int .u64 z.N, .int .u64 z.now, .int .i64 z.rows, .int .i64 z.cols] 112)).alloc (DsO none 0 0 0 0 0 false false))).heap[w.heap.size + 1 + 1]? = some (DsO none 0 0 0 0 0 false false) := obj_new3 _ _ _ _
  have hK : Kept [] w ((((w.alloc (DsO A ty cp se ac la be ask)).alloc (.cells #[.int .i64 z.kind, .slice z.A z.n z.c, .int .u64 z.N, .int .u64 z.now, .int .i64 z.rows, .int .i64 z.cols] 112)).alloc (DsO none 0 0 0 0 0 false false))) := (((Kept.refl [] w).alloc _).alloc _).alloc _
  change Code.wp _ _ _ _ ((((w.alloc (DsO A ty cp se ac la be ask)).alloc (.cells #[.int .i64 z.kind, .slice z.A z.n z.c, .int .u64 z.N, .int .u64 z.now, .int .i64 z.rows, .int .i64 z.cols] 112)).alloc (DsO none 0 0 0 0 0 false false)))
  generalize ((((w.alloc (DsO A ty cp se ac la be ask)).alloc (.cells #[.int .i64 z.kind, .slice z.A z.n z.c, .int .u64 z.N, .int .u64 z.now, .int .i64 z.rows, .int .i64 z.cols] 112)).alloc (DsO none 0 0 0 0 0 false false))) = wA at *
  generalize hb7 : w.heap.size + 1 + 1 = b7 at *
  generalize hb5 : w.heap.size + 1 = b5 at *
  generalize hb4 : w.heap.size = b4 at *
  have D := hide (DoW.mk ((unhide H).next hK) h4 h5 h7 hK ((unhide HZ).kept hK) (⟨by omega, by omega, by omega⟩ : w.heap.size ≤ b4 ∧ b4 < b5 ∧ b5 < b7))
  have HB4 := hide hb4
  have HTY1 : Hid (ty ≤ 1000) := hide (by omega)
  have HORD := hide (unhide H).s.ord
  have HAC : Hid (ac ≤ ty) := hide (by have := (unhide H).s.ord; omega)
  have HTY6 : Hid (ty ≤ 1000000) := hide (by omega)
  have HN5 : Hid (b5 ∉ [sg, qc]) := hide (by have := unhide HLT; simp; omega)
  have HN7 : Hid (b7 ∉ [sg, qc]) := hide (by have := unhide HLT; simp; omega)
  clear h4 h5 h7 hK hb4 hb5 hb7 H HZ
  obtain ⟨x0, x1, x2, x3, x4, x5, xl⟩ := (unhide D).cells
  obtain ⟨k, hk⟩ : ∃ k, k = min z.n 20 := ⟨_, rfl⟩
  have HKK := hide hk
  clear hk
  go_cut [9] (fun s9 wx => s9 = .slice z.A k z.c ∧ wx = wA)
  case first =>
    by_cases h20 : z.n ≤ 20
    · go_wp2_with fail
      go_meet
      exact ⟨by rw [show k = z.n by have := unhide HKK; omega], rfl⟩
    · have im4 : (20 : Int) ≤ (z.c : Int) := by omega
      go_wp2_with fail
      go_meet
      exact ⟨by rw [show k = 20 by have := unhide HKK; omega], rfl⟩
  case rest =>
    obtain ⟨rfl, rfl⟩ := hcut
    rw [(unhide HKIND).1] at x0
    have hk9 : 8 < k ∧ k ≤ 20 ∧ k ≤ z.n := by have h1 := unhide HKK; have h2 := (unhide HKIND).2; omega
    have HKN : Hid (k ≤ z.n) := hide hk9.2.2
    obtain ⟨hk9a, hk9b, _⟩ := hk9
    obtain ⟨y0, y1, y2, y3, y4, y5, yz, yl⟩ := DsO.get (unhide D).o4

    obtain ⟨key, hkey⟩ : ∃ key, key = strOfNums (z.xs.take k) := ⟨_, rfl⟩
    have hcv := conv_byt (c := z.c) (byt_take (unhide D).z.by_.1 (unhide HKN)) (by omega)
    rw [← hkey] at hcv
    have hks : key.size = k := by rw [hkey, strOfNums_size, List.length_take]; have h1 := (unhide D).z.by_.1.1; have h2 := unhide HKN; omega
    have HKEY := hide hkey
    have HKSZ := hide hks
    clear hkey hks

    go_wp2_with fail
    refine (rtype_long A ty cp se ac la be ask key _ (by have := unhide HKSZ; omega) (by have := unhide HKSZ; omega)).mono ?_

    rintro e w1 ⟨rfl, hk1⟩
    unfold dsV
    have D1 := hide ((unhide D).next hk1)
    clear hk1 hcv x0 x1 x2 x3 x4 x5 xl y0 y1 y2 y3 y4 y5 yz yl
    obtain ⟨x0, x1, x2, x3, x4, x5, xl⟩ := (unhide D1).cells

    go_upto_region 5 with (fail)
    have kz : Kept [] w1 (w1.alloc (DsO A ty cp se ac la be ask)) := (Kept.refl [] w1).alloc _
    have h12 : (w1.alloc (DsO A ty cp se ac la be ask)).heap[w1.heap.size]? = some (DsO A ty cp se ac la be ask) := obj_new _ _
    change Code.wp _ _ _ _ (w1.alloc (DsO A ty cp se ac la be ask))
    generalize w1.alloc (DsO A ty cp se ac la be ask) = w2 at *
    have hge : w.heap.size ≤ w1.heap.size := (unhide D1).kept.size
    have h7l : b7 < w1.heap.size := heap_lt (unhide D1).o7
    generalize w1.heap.size = b12 at *
    have D2 := hide ((unhide D1).next kz)
    have H12 := hide h12
    have HGE := hide hge
    have HN12 : Hid (b12 ∉ [sg, qc]) := hide (by have := unhide HLT; have := unhide HB4; simp; omega)
    have n57 : ¬ b5 = b7 := by have := (unhide D1).lo; omega
    have n75 : ¬ b7 = b5 := by omega
    have n127 : ¬ b12 = b7 := by omega
    have n712 : ¬ b7 = b12 := by omega
    clear h12 hge h7l D1 D x0 x1 x2 x3 x4 x5 xl
    obtain ⟨x0, x1, x2, x3, x4, x5, xl⟩ := (unhide D2).cells

    obtain ⟨y0, y1, y2, y3, y4, y5, yz, yl⟩ := DsO.get (unhide H12)
    obtain ⟨p0, p1, p2, p3, p4, p5, pz, pl⟩ := DsO.get (unhide D2).o7

    go_region_held3 (fun w' => w'.cell? ⟨b12, 0, none⟩ = some (.slice A ty cp) ∧ w'.cell? ⟨b12, 1, none⟩ = some (.int .i64 (se : Int)) ∧ w'.cell? ⟨b12, 2, none⟩ = some (.int .i64 (ac : Int)) ∧ w'.cell? ⟨b12, 3, none⟩ = some (.int .u64 la) ∧ w'.cell? ⟨b12, 4, none⟩ = some (.bool be) ∧ w'.cell? ⟨b12, 5, none⟩ = some (.bool ask)) (go_keep)
      (first
        | (go_at_call 61; refine (stype_long sg _ _ _ _ hk9a (by unfold maxLen; omega)).mono ?_; rintro e w3 ⟨rfl, rfl⟩))

    have hb := unhide HB
    have hlt := unhide HLT
    have hb4 := unhide HB4
    have hl2 := (unhide D2).lo
    go_wp2
    refine bodyPost_ret (v := .tuple #[.pointer (some ⟨sg, 0, none⟩), dsV A ty cp se ac la be ask, .bool true]) (by simp [results, Try.results74, go_sem, dsV, p0, p1, p2, p3, p4, p5]) rfl ?_
    exact (do_end (unhide D2).p (unhide D2).kept (by simp) (by omega) hb (by omega) ⟨by omega, by omega, by omega⟩ (fun a ha => by have := unhide HALT a ha; omega)).drew
set_option maxRecDepth 100000 in
set_option maxHeartbeats 1500000 in
theorem do_GRAMB (base sg qg qc : Nat) (ks : List ByteArray) (ty se ac : Nat) (la : Int) (be ask : Bool) (A : Option Addr) (cp : Nat) (xs : List ByteArray) (z : SA) (w : World) (h : Pair w sg qg qc ks ty se ac la be ask A cp xs) (hz : z.ok w) (hty : ty ≤ 500) (hb : base ≤ sg ∧ base ≤ qg ∧ base ≤ qc) (hkk : z.kind = 4 ∧ (okSide z.rows && okSide z.cols) = false) :
     Calls Try.prog 74 #[.pointer (some ⟨sg, 0, none⟩), dsV A ty cp se ac la be ask, z.val] w (DoOk w base ty sg qc) := by
  have HKIND := hide hkk
  clear hkk
  have H := hide h
  have HZ := hide hz
  have HB := hide hb
  have HLT : Hid (sg < w.heap.size ∧ qg < w.heap.size ∧ qc < w.heap.size) := hide ⟨heap_lt h.s.box, h.s.q.lt.1, h.s.q.lt.2⟩
  have HALT : Hid (∀ a, A = some a → a.block < w.heap.size) := hide h.d.lt
  have hcm := hz.by_.2.2.1
  have hm9 : z.n ≤ 9223372036854775807 := by have := hz.by_.2.1; unfold maxLen at hcm; omega
  have hnc : z.n ≤ z.c := hz.by_.2.1
  have hnc1 : (z.n : Int) ≤ (z.c : Int) := by omega
  clear h hz hb hcm
  unfold dsV SA.val
  go_enter Try.func74, Try.ntmps74
  go_upto_region 1 with (fail)
  have h4 : ((((w.alloc (DsO A ty cp se ac la be ask)).alloc (.cells #[.int .i64 z.kind, .slice z.A z.n z.c, .int .u64 z.N, .int .u64 z.now, .int .i64 z.rows, .int .i64 z.cols] 112)).alloc (DsO none 0 0 0 0 0 false false))).heap[w.heap.size]? = some (DsO A ty cp se ac la be ask) := obj_alloc (obj_alloc (obj_new _ _) _) _
  have h5 : ((((w.alloc (DsO A ty cp se ac la be ask)).alloc (.cells #[.int .i64 z.kind, .slice z.A z.n z.c, .int .u64 z.N, .int .u64 z.now, .int .i64 z.rows, .int .i64 z.cols] 112)).alloc (DsO none 0 0 0 0 0 false false))).heap[w.heap.size + 1]? = some (.cells #[.int .i64 z.kind, .slice z.A z.n z.c, .int .u64 z.N, .int .u64 z.now, .int .i64 z.rows, .int .i64 z.cols] 112 (0, 0)) := obj_alloc (obj_new2 _ _ _) _
  have h7 : ((((w.alloc (DsO A ty cp se ac la be ask)).alloc (.cells #[.int .i64 z.kind, .slice z.A z.n z.c, .int .u64 z.N, .int .u64 z.now, .int .i64 z.rows, .int .i64 z.cols] 112)).alloc (DsO none 0 0 0 0 0 false false))).heap[w.heap.size + 1 + 1]? = some (DsO none 0 0 0 0 0 false false) := obj_new3 _ _ _ _
  have hK : Kept [] w ((((w.alloc (DsO A ty cp se ac la be ask)).alloc (.cells #[.int .i64 z.kind, .slice z.A z.n z.c, .int .u64 z.N, .int .u64 z.now, .int .i64 z.rows, .int .i64 z.cols] 112)).alloc (DsO none 0 0 0 0 0 false false))) := (((Kept.refl [] w).alloc _).alloc _).alloc _
  change Code.wp _ _ _ _ ((((w.alloc (DsO A ty cp se ac la be ask)).alloc (.cells #[.int .i64 z.kind, .slice z.A z.n z.c, .int .u64 z.N, .int .u64 z.now, .int .i64 z.rows, .int .i64 z.cols] 112)).alloc (DsO none 0 0 0 0 0 false false)))
  generalize ((((w.alloc (DsO A ty cp se ac la be ask)).alloc (.cells #[.int .i64 z.kind, .slice z.A z.n z.c, .int .u64 z.N, .int .u64 z.now, .int .i64 z.rows, .int .i64 z.cols] 112)).alloc (DsO none 0 0 0 0 0 false false))) = wA at *
  generalize hb7 : w.heap.size + 1 + 1 = b7 at *
  generalize hb5 : w.heap.size + 1 = b5 at *
  generalize hb4 : w.heap.size = b4 at *
  have D := hide (DoW.mk ((unhide H).next hK) h4 h5 h7 hK ((unhide HZ).kept hK) (⟨by omega, by omega, by omega⟩ : w.heap.size ≤ b4 ∧ b4 < b5 ∧ b5 < b7))
  have HB4 := hide hb4
  have HTY1 : Hid (ty ≤ 1000) := hide (by omega)
  have HORD := hide (unhide H).s.ord
  have HAC : Hid (ac ≤ ty) := hide (by have := (unhide H).s.ord; omega)
  have HTY6 : Hid (ty ≤ 1000000) := hide (by omega)
  have HN5 : Hid (b5 ∉ [sg, qc]) := hide (by have := unhide HLT; simp; omega)
  have HN7 : Hid (b7 ∉ [sg, qc]) := hide (by have := unhide HLT; simp; omega)
  clear h4 h5 h7 hK hb4 hb5 hb7 H HZ
  obtain ⟨x0, x1, x2, x3, x4, x5, xl⟩ := (unhide D).cells
  obtain ⟨k, hk⟩ : ∃ k, k = min z.n 20 := ⟨_, rfl⟩
  have HKK := hide hk
  clear hk
  go_cut [9] (fun s9 wx => s9 = .slice z.A k z.c ∧ wx = wA)
  case first =>
    by_cases h20 : z.n ≤ 20
    · go_wp2_with fail
      go_meet
      exact ⟨by rw [show k = z.n by have := unhide HKK; omega], rfl⟩
    · have im4 : (20 : Int) ≤ (z.c : Int) := by omega
      go_wp2_with fail
      go_meet
      exact ⟨by rw [show k = 20 by have := unhide HKK; omega], rfl⟩
  case rest =>
    obtain ⟨rfl, rfl⟩ := hcut
    rw [(unhide HKIND).1] at x0
    obtain ⟨y0, y1, y2, y3, y4, y5, yz, yl⟩ := DsO.get (unhide D).o4
    go_wp2_with fail

    refine (rgram_bad A ty cp se ac la be ask _ _ _ _ _ (unhide HKIND).2).mono ?_
    rintro e w1 ⟨rfl, hk1⟩
    unfold dsV gV
    have D1 := hide ((unhide D).next hk1)
    clear hk1 x0 x1 x2 x3 x4 x5 xl y0 y1 y2 y3 y4 y5 yz yl
    obtain ⟨x0, x1, x2, x3, x4, x5, xl⟩ := (unhide D1).cells
    go_upto_region 16 with (fail)

    have kz : Kept [] w1 ((w1.alloc (DsO A ty cp se ac la be ask)).alloc (GdO 0 0 0 0 0 none 0 0)) := ((Kept.refl [] w1).alloc _).alloc _
    have h14 : ((w1.alloc (DsO A ty cp se ac la be ask)).alloc (GdO 0 0 0 0 0 none 0 0)).heap[w1.heap.size]? = some (DsO A ty cp se ac la be ask) := obj_alloc (obj_new _ _) _
    have h15 : ((w1.alloc (DsO A ty cp se ac la be ask)).alloc (GdO 0 0 0 0 0 none 0 0)).heap[w1.heap.size + 1]? = some (GdO 0 0 0 0 0 none 0 0) := obj_new2 _ _ _
    change Code.wp _ _ _ _ ((w1.alloc (DsO A ty cp se ac la be ask)).alloc (GdO 0 0 0 0 0 none 0 0))
    generalize ((w1.alloc (DsO A ty cp se ac la be ask)).alloc (GdO 0 0 0 0 0 none 0 0)) = w2 at *
    have hge : w.heap.size ≤ w1.heap.size := (unhide D1).kept.size
    have h7l : b7 < w1.heap.size := heap_lt (unhide D1).o7
    generalize hb15 : w1.heap.size + 1 = b15 at *
    generalize w1.heap.size = b14 at *
    have D2 := hide ((unhide D1).next kz)
    have H14 := hide h14
    have H15 := hide h15
    have n1415 : b14 < b15 := by omega
    have HB14 : Hid (w.heap.size ≤ b14 ∧ b7 < b14 ∧ b14 < b15) := hide ⟨hge, h7l, n1415⟩
    clear h14 h15 hge h7l n1415 hb15 D1 D x0 x1 x2 x3 x4 x5 xl
    obtain ⟨x0, x1, x2, x3, x4, x5, xl⟩ := (unhide D2).cells

    go_wp2_with fail
    refine (gram_size sg _ _ _ _ _ _ _ _ _ _ _ _ _ _ (unhide D2).p.s (unhide D2).z.now (by have := unhide HTY1; omega) (unhide HKIND).2).mono ?_
    rintro e w3 ⟨rfl, hs3, hk3⟩
    have kk3 : Kept [sg, qc] w2 w3 := hk3.mono (by intro i _ hi; simp at hi ⊢; exact .inr hi)
    have HS3 := hide hs3
    clear hs3 hk3

    have hlt := unhide HLT
    have hb4 := unhide HB4
    have hb14 := unhide HB14
    have hN14 : b14 ∉ [sg, qc] := by simp; omega
    have hN15 : b15 ∉ [sg, qc] := by simp; omega
    have D3o5 := hide (kk3.obj (unhide D2).o5 (unhide HN5))
    have D3o7 := hide (kk3.obj (unhide D2).o7 (unhide HN7))
    have D3o14 := hide (kk3.obj (unhide H14) hN14)
    have D3o15 := hide (kk3.obj (unhide H15) hN15)
    have DOC3 := hide ((unhide D2).p.d.kept kk3 (fun a ha => by have := (unhide D2).p.sep a ha; simp; omega))
    have KK3 := hide ((((unhide D2).kept).mono (T := [sg, qc]) (by simp)).trans kk3 (by intro i _ hi; exact hi))
    have hz3 := kk3.size
    have hl15 : b15 < w3.heap.size := heap_lt (unhide D3o15)
    clear kk3 hN14 hN15 x0 x1 x2 x3 x4 x5 xl
    go_upto_region 17 with (fail)
    have kz3 : Kept [] w3 (w3.alloc (GmO 0 0 0 0 0 none 0 0)) := (Kept.refl [] w3).alloc _
    have h17 : (w3.alloc (GmO 0 0 0 0 0 none 0 0)).heap[w3.heap.size]? = some (GmO 0 0 0 0 0 none 0 0) := obj_new _ _
    change Code.wp _ _ _ _ (w3.alloc (GmO 0 0 0 0 0 none 0 0))
    generalize w3.alloc (GmO 0 0 0 0 0 none 0 0) = w4 at *
    generalize w3.heap.size = b17 at *
    have H17 := hide h17
    have o7 := kz3.obj (unhide D3o7) (by simp)
    have o14 := kz3.obj (unhide D3o14) (by simp)
    have o15 := kz3.obj (unhide D3o15) (by simp)
    have O7 := hide o7
    have O14 := hide o14
    have O15 := hide o15
    obtain ⟨y0, y1, y2, y3, y4, y5, yz, yl⟩ := DsO.get o14
    obtain ⟨g0, g1, g2, g3, g4, g5, gz, gl⟩ := GdO.get o15
    have m0 := obj_cell h17 0
    have m1 := obj_cell h17 1
    have m2 := obj_cell h17 2
    have m3 := obj_cell h17 3
    have m4 := obj_cell h17 4
    have m5 := obj_cell h17 5
    obtain ⟨p0, p1, p2, p3, p4, p5, pz, pl⟩ := DsO.get o7
    have e1 : ¬ b14 = b7 := by omega
    have e2 : ¬ b7 = b14 := by omega
    have e3 : ¬ b15 = b7 := by omega
    have e4 : ¬ b7 = b15 := by omega
    have e5 : ¬ b17 = b7 := by omega
    have e6 : ¬ b7 = b17 := by omega
    clear h17 o7 o14 o15 yz yl gz gl pl
    go_region_held3 (fun w' => w'.cell? ⟨b14, 0, none⟩ = some (.slice A ty cp) ∧ w'.cell? ⟨b14, 1, none⟩ = some (.int .i64 (se : Int)) ∧ w'.cell? ⟨b14, 2, none⟩ = some (.int .i64 (ac : Int)) ∧ w'.cell? ⟨b14, 3, none⟩ = some (.int .u64 la) ∧ w'.cell? ⟨b14, 4, none⟩ = some (.bool be) ∧ w'.cell? ⟨b14, 5, none⟩ = some (.bool ask) ∧ w'.cell? ⟨b15, 0, none⟩ = some (.int .u64 0) ∧ w'.cell? ⟨b15, 1, none⟩ = some (.int .u64 0) ∧ w'.cell? ⟨b15, 2, none⟩ = some (.int .i64 0) ∧ w'.cell? ⟨b15, 3, none⟩ = some (.int .i64 0) ∧ w'.cell? ⟨b15, 4, none⟩ = some (.int .u64 0) ∧ w'.cell? ⟨b15, 5, none⟩ = some (.slice none 0 0) ∧ w'.cell? ⟨b17, 0, none⟩ = some (.int .u64 0) ∧ w'.cell? ⟨b17, 1, none⟩ = some (.int .u64 0) ∧ w'.cell? ⟨b17, 2, none⟩ = some (.int .i64 0) ∧ w'.cell? ⟨b17, 3, none⟩ = some (.int .i64 0) ∧ w'.cell? ⟨b17, 4, none⟩ = some (.int .u64 0) ∧ w'.cell? ⟨b17, 5, none⟩ = some (.slice none 0 0)) (go_keep)
      (first
        | (go_at_call 91; refine (of14 0 0 0 0 0 none 0 0 [] w4.drew (by intro i hi; simp at hi) (by simp) (by simp)).mono ?_; rintro e w5 ⟨B5, cq5, rfl, hd5, hk5⟩; have kk5 : Kept [] w4 w5 := ((Kept.refl [] w4).drew).trans hk5 (by simp); have t7 := kk5.obj (unhide O7) (by simp); have t14 := kk5.obj (unhide O14) (by simp); have t15 := kk5.obj (unhide O15) (by simp); have t17 := kk5.obj (unhide H17) (by simp); obtain ⟨a0, a1, a2, a3, a4, a5, az, al⟩ := DsO.get t14; obtain ⟨c0, c1, c2, c3, c4, c5, cz, cl⟩ := GdO.get t15; have d0 := obj_cell t17 0; have d1 := obj_cell t17 1; have d2 := obj_cell t17 2; have d3 := obj_cell t17 3; have d4 := obj_cell t17 4; have d5 := obj_cell t17 5; have KK5 := hide kk5; have HD5 := hide hd5; clear hk5 hd5 kk5 t7 t14 t15 t17 az al cz cl)
        | (go_at_call 90; refine (same14 0 0 0 0 0 B5 none cq5 0 [] w5 (unhide HD5) (DocS.nil _) (by simp)).mono ?_; rintro e w6 ⟨rfl, hk6⟩; have kk6 : Kept [] w4 w6 := (unhide KK5).trans hk6 (by simp); have t7 := kk6.obj (unhide O7) (by simp); have t14 := kk6.obj (unhide O14) (by simp); have t15 := kk6.obj (unhide O15) (by simp); have t17 := kk6.obj (unhide H17) (by simp); obtain ⟨h0, h1, h2, h3, h4, h5, hz, hl⟩ := DsO.get t14; obtain ⟨i0, i1, i2, i3, i4, i5, iz, il⟩ := GdO.get t15; have j0 := obj_cell t17 0; have j1 := obj_cell t17 1; have j2 := obj_cell t17 2; have j3 := obj_cell t17 3; have j4 := obj_cell t17 4; have j5 := obj_cell t17 5; obtain ⟨r0, r1, r2, r3, r4, r5, rz, rl⟩ := DsO.get t7; have KK6 := hide kk6; clear hk6 kk6 t7 t14 t15 t17 hz hl iz il rl))

    have hb := unhide HB
    have hl2 := (unhide D2).lo
    go_wp2
    refine bodyPost_ret (v := .tuple #[.pointer (some ⟨sg, 0, none⟩), dsV A ty cp se ac la be ask, .bool true]) (by simp [results, Try.results74, go_sem, dsV, r0, r1, r2, r3, r4, r5]) rfl ?_
    have hp3 : Pair w3 sg qg qc ks ty se ac la be ask A cp xs := ⟨unhide HS3, unhide DOC3, (unhide D2).p.eq, (unhide D2).p.sep, (unhide D2).p.la⟩
    exact do_end (hp3.next (kz3.trans (unhide KK6) (by simp))) ((unhide KK3).trans (kz3.trans (unhide KK6) (by simp)) (by simp)) (by intro i hi; simp at hi; omega) (by omega) hb (by omega) ⟨by omega, by omega, by omega⟩ (fun a ha => by have := unhide HALT a ha; omega)
set_option maxRecDepth 100000 in
set_option maxHeartbeats 1500000 in
theorem do_GRAMY (base sg qg qc : Nat) (ks : List ByteArray) (ty se ac : Nat) (la : Int) (be ask : Bool) (A : Option Addr) (cp : Nat) (xs : List ByteArray) (z : SA) (w : World) (h : Pair w sg qg qc ks ty se ac la be ask A cp xs) (hz : z.ok w) (hty : ty ≤ 500) (hb : base ≤ sg ∧ base ≤ qg ∧ base ≤ qc) (hkk : z.kind = 4 ∧ (okSide z.rows && okSide z.cols) = true) :
     Calls Try.prog 74 #[.pointer (some ⟨sg, 0, none⟩), dsV A ty cp se ac la be ask, z.val] w (DoOk w base ty sg qc) := by
  have HKIND := hide hkk
  clear hkk
  have H := hide h
  have HZ := hide hz
  have HB := hide hb
  have HLT : Hid (sg < w.heap.size ∧ qg < w.heap.size ∧ qc < w.heap.size) := hide ⟨heap_lt h.s.box, h.s.q.lt.1, h.s.q.lt.2⟩
  have HALT : Hid (∀ a, A = some a → a.block < w.heap.size) := hide h.d.lt
  have hcm := hz.by_.2.2.1
  have hm9 : z.n ≤ 9223372036854775807 := by have := hz.by_.2.1; unfold maxLen at hcm; omega
  have hnc : z.n ≤ z.c := hz.by_.2.1
  have hnc1 : (z.n : Int) ≤ (z.c : Int) := by omega
  clear h hz hb hcm
  unfold dsV SA.val
  go_enter Try.func74, Try.ntmps74
  go_upto_region 1 with (fail)
  have h4 : ((((w.alloc (DsO A ty cp se ac la be ask)).alloc (.cells #[.int .i64 z.kind, .slice z.A z.n z.c, .int .u64 z.N, .int .u64 z.now, .int .i64 z.rows, .int .i64 z.cols] 112)).alloc (DsO none 0 0 0 0 0 false false))).heap[w.heap.size]? = some (DsO A ty cp se ac la be ask) := obj_alloc (obj_alloc (obj_new _ _) _) _
  have h5 : ((((w.alloc (DsO A ty cp se ac la be ask)).alloc (.cells #[.int .i64 z.kind, .slice z.A z.n z.c, .int .u64 z.N, .int .u64 z.now, .int .i64 z.rows, .int .i64 z.cols] 112)).alloc (DsO none 0 0 0 0 0 false false))).heap[w.heap.size + 1]? = some (.cells #[.int .i64 z.kind, .slice z.A z.n z.c, .int .u64 z.N, .int .u64 z.now, .int .i64 z.rows, .int .i64 z.cols] 112 (0, 0)) := obj_alloc (obj_new2 _ _ _) _
  have h7 : ((((w.alloc (DsO A ty cp se ac la be ask)).alloc (.cells #[.int .i64 z.kind, .slice z.A z.n z.c, .int .u64 z.N, .int .u64 z.now, .int .i64 z.rows, .int .i64 z.cols] 112)).alloc (DsO none 0 0 0 0 0 false false))).heap[w.heap.size + 1 + 1]? = some (DsO none 0 0 0 0 0 false false) := obj_new3 _ _ _ _
  have hK : Kept [] w ((((w.alloc (DsO A ty cp se ac la be ask)).alloc (.cells #[.int .i64 z.kind, .slice z.A z.n z.c, .int .u64 z.N, .int .u64 z.now, .int .i64 z.rows, .int .i64 z.cols] 112)).alloc (DsO none 0 0 0 0 0 false false))) := (((Kept.refl [] w).alloc _).alloc _).alloc _
  change Code.wp _ _ _ _ ((((w.alloc (DsO A ty cp se ac la be ask)).alloc (.cells #[.int .i64 z.kind, .slice z.A z.n z.c, .int .u64 z.N, .int .u64 z.now, .int .i64 z.rows, .int .i64 z.cols] 112)).alloc (DsO none 0 0 0 0 0 false false)))
  generalize ((((w.alloc (DsO A ty cp se ac la be ask)).alloc (.cells #[.int .i64 z.kind, .slice z.A z.n z.c, .int .u64 z.N, .int .u64 z.now, .int .i64 z.rows, .int .i64 z.cols] 112)).alloc (DsO none 0 0 0 0 0 false false))) = wA at *
  generalize hb7 : w.heap.size + 1 + 1 = b7 at *
  generalize hb5 : w.heap.size + 1 = b5 at *
  generalize hb4 : w.heap.size = b4 at *
  have D := hide (DoW.mk ((unhide H).next hK) h4 h5 h7 hK ((unhide HZ).kept hK) (⟨by omega, by omega, by omega⟩ : w.heap.size ≤ b4 ∧ b4 < b5 ∧ b5 < b7))
  have HB4 := hide hb4
  have HTY1 : Hid (ty ≤ 1000) := hide (by omega)
  have HORD := hide (unhide H).s.ord
  have HAC : Hid (ac ≤ ty) := hide (by have := (unhide H).s.ord; omega)
  have HTY6 : Hid (ty ≤ 1000000) := hide (by omega)
  have HN5 : Hid (b5 ∉ [sg, qc]) := hide (by have := unhide HLT; simp; omega)
  have HN7 : Hid (b7 ∉ [sg, qc]) := hide (by have := unhide HLT; simp; omega)
  clear h4 h5 h7 hK hb4 hb5 hb7 H HZ
  obtain ⟨x0, x1, x2, x3, x4, x5, xl⟩ := (unhide D).cells
  obtain ⟨k, hk⟩ : ∃ k, k = min z.n 20 := ⟨_, rfl⟩
  have HKK := hide hk
  clear hk
  go_cut [9] (fun s9 wx => s9 = .slice z.A k z.c ∧ wx = wA)
  case first =>
    by_cases h20 : z.n ≤ 20
    · go_wp2_with fail
      go_meet
      exact ⟨by rw [show k = z.n by have := unhide HKK; omega], rfl⟩
    · have im4 : (20 : Int) ≤ (z.c : Int) := by omega
      go_wp2_with fail
      go_meet
      exact ⟨by rw [show k = 20 by have := unhide HKK; omega], rfl⟩
  case rest =>
    obtain ⟨rfl, rfl⟩ := hcut
    rw [(unhide HKIND).1] at x0
    obtain ⟨y0, y1, y2, y3, y4, y5, yz, yl⟩ := DsO.get (unhide D).o4
    go_wp2_with fail

    refine (rgram_yes A ty cp se ac la be ask _ _ _ _ xs _ (unhide D).p.d (unhide HTY1) (unhide HAC) (unhide D).z.now (unhide HKIND).2).mono ?_
    rw [← (unhide D).p.eq]
    rintro e w1 ⟨B1, cq1, rfl, hd1, hk1, hf1⟩
    unfold dsV gV
    have D1 := hide ((unhide D).next hk1)
    have HD1 := hide hd1
    have HF2 : Hid (∀ a, B1 = some a → a.block ≠ sg ∧ a.block ≠ qg ∧ a.block ≠ qc) := hide (fun a ha => by have h1 := hf1 a ha; have h3 := heap_lt (unhide D).p.s.box; have h4 := (unhide D).p.s.q.lt; omega)
    generalize hst : sat z.now 1 = st at *
    have HST := hide hst
    clear hk1 hd1 hf1 hst x0 x1 x2 x3 x4 x5 xl y0 y1 y2 y3 y4 y5 yz yl
    obtain ⟨x0, x1, x2, x3, x4, x5, xl⟩ := (unhide D1).cells
    go_upto_region 16 with (fail)

    have kz : Kept [] w1 ((w1.alloc (DsO A ty cp ty ac z.now true false)).alloc (GdO z.N st z.rows z.cols ((ac : Int) + 1) B1 ks.length cq1)) := ((Kept.refl [] w1).alloc _).alloc _
    have h14 : ((w1.alloc (DsO A ty cp ty ac z.now true false)).alloc (GdO z.N st z.rows z.cols ((ac : Int) + 1) B1 ks.length cq1)).heap[w1.heap.size]? = some (DsO A ty cp ty ac z.now true false) := obj_alloc (obj_new _ _) _
    have h15 : ((w1.alloc (DsO A ty cp ty ac z.now true false)).alloc (GdO z.N st z.rows z.cols ((ac : Int) + 1) B1 ks.length cq1)).heap[w1.heap.size + 1]? = some (GdO z.N st z.rows z.cols ((ac : Int) + 1) B1 ks.length cq1) := obj_new2 _ _ _
    change Code.wp _ _ _ _ ((w1.alloc (DsO A ty cp ty ac z.now true false)).alloc (GdO z.N st z.rows z.cols ((ac : Int) + 1) B1 ks.length cq1))
    generalize ((w1.alloc (DsO A ty cp ty ac z.now true false)).alloc (GdO z.N st z.rows z.cols ((ac : Int) + 1) B1 ks.length cq1)) = w2 at *
    have hge : w.heap.size ≤ w1.heap.size := (unhide D1).kept.size
    have h7l : b7 < w1.heap.size := heap_lt (unhide D1).o7
    generalize hb15 : w1.heap.size + 1 = b15 at *
    generalize w1.heap.size = b14 at *
    have D2 := hide ((unhide D1).next kz)
    have H14 := hide h14
    have H15 := hide h15
    have n1415 : b14 < b15 := by omega
    have HB14 : Hid (w.heap.size ≤ b14 ∧ b7 < b14 ∧ b14 < b15) := hide ⟨hge, h7l, n1415⟩
    clear h14 h15 hge h7l n1415 hb15 D1 D x0 x1 x2 x3 x4 x5 xl
    obtain ⟨x0, x1, x2, x3, x4, x5, xl⟩ := (unhide D2).cells

    have HOK : Hid (okSide z.rows = true ∧ okSide z.cols = true) := hide (by have := (unhide HKIND).2; simpa using this)
    have HD2 := hide ((unhide HD1).kept kz (by simp))
    go_wp2_with fail
    refine (gram_any sg _ _ _ _ _ _ _ _ _ _ _ _ _ _ (unhide D2).p.s (unhide D2).z.now (unhide HTY1) (unhide HOK).1 (unhide HOK).2).mono ?_
    rintro e w3 ⟨A5, cp5, rfl, hkr3, hs3, hk3⟩
    rw [unhide HST]
    have kk3 : Kept [sg, qc] w2 w3 := hk3
    have HS3 := hide hs3
    have HKR3 := hide hkr3
    have HB3 := hide ((unhide HD2).kept kk3 (fun a ha => by have := unhide HF2 a ha; simp; omega))
    clear hs3 hk3 hkr3

    have hlt := unhide HLT
    have hb4 := unhide HB4
    have hb14 := unhide HB14
    have hN14 : b14 ∉ [sg, qc] := by simp; omega
    have hN15 : b15 ∉ [sg, qc] := by simp; omega
    have D3o5 := hide (kk3.obj (unhide D2).o5 (unhide HN5))
    have D3o7 := hide (kk3.obj (unhide D2).o7 (unhide HN7))
    have D3o14 := hide (kk3.obj (unhide H14) hN14)
    have D3o15 := hide (kk3.obj (unhide H15) hN15)
    have DOC3 := hide ((unhide D2).p.d.kept kk3 (fun a ha => by have := (unhide D2).p.sep a ha; simp; omega))
    have KK3 := hide ((((unhide D2).kept).mono (T := [sg, qc]) (by simp)).trans kk3 (by intro i _ hi; exact hi))
    have hz3 := kk3.size
    have hl15 : b15 < w3.heap.size := heap_lt (unhide D3o15)
    clear kk3 hN14 hN15 x0 x1 x2 x3 x4 x5 xl
    go_upto_region 17 with (fail)
    have kz3 : Kept [] w3 (w3.alloc (GmO z.N st z.rows z.cols ((ac : Int) + 1) A5 ks.length cp5)) := (Kept.refl [] w3).alloc _
    have h17 : (w3.alloc (GmO z.N st z.rows z.cols ((ac : Int) + 1) A5 ks.length cp5)).heap[w3.heap.size]? = some (GmO z.N st z.rows z.cols ((ac : Int) + 1) A5 ks.length cp5) := obj_new _ _
    change Code.wp _ _ _ _ (w3.alloc (GmO z.N st z.rows z.cols ((ac : Int) + 1) A5 ks.length cp5))
    generalize w3.alloc (GmO z.N st z.rows z.cols ((ac : Int) + 1) A5 ks.length cp5) = w4 at *
    generalize w3.heap.size = b17 at *
    have H17 := hide h17
    have o7 := kz3.obj (unhide D3o7) (by simp)
    have o14 := kz3.obj (unhide D3o14) (by simp)
    have o15 := kz3.obj (unhide D3o15) (by simp)
    have O7 := hide o7
    have O14 := hide o14
    have O15 := hide o15
    obtain ⟨y0, y1, y2, y3, y4, y5, yz, yl⟩ := DsO.get o14
    obtain ⟨g0, g1, g2, g3, g4, g5, gz, gl⟩ := GdO.get o15
    have m0 := obj_cell h17 0
    have m1 := obj_cell h17 1
    have m2 := obj_cell h17 2
    have m3 := obj_cell h17 3
    have m4 := obj_cell h17 4
    have m5 := obj_cell h17 5
    obtain ⟨p0, p1, p2, p3, p4, p5, pz, pl⟩ := DsO.get o7
    have e1 : ¬ b14 = b7 := by omega
    have e2 : ¬ b7 = b14 := by omega
    have e3 : ¬ b15 = b7 := by omega
    have e4 : ¬ b7 = b15 := by omega
    have e5 : ¬ b17 = b7 := by omega
    have e6 : ¬ b7 = b17 := by omega
    clear h17 o7 o14 o15 yz yl gz gl pl
    go_region_held3 (fun w' => w'.cell? ⟨b14, 0, none⟩ = some (.slice A ty cp) ∧ w'.cell? ⟨b14, 1, none⟩ = some (.int .i64 (ty : Int)) ∧ w'.cell? ⟨b14, 2, none⟩ = some (.int .i64 (ac : Int)) ∧ w'.cell? ⟨b14, 3, none⟩ = some (.int .u64 z.now) ∧ w'.cell? ⟨b14, 4, none⟩ = some (.bool true) ∧ w'.cell? ⟨b14, 5, none⟩ = some (.bool false) ∧ w'.cell? ⟨b15, 0, none⟩ = some (.int .u64 z.N) ∧ w'.cell? ⟨b15, 1, none⟩ = some (.int .u64 st) ∧ w'.cell? ⟨b15, 2, none⟩ = some (.int .i64 z.rows) ∧ w'.cell? ⟨b15, 3, none⟩ = some (.int .i64 z.cols) ∧ w'.cell? ⟨b15, 4, none⟩ = some (.int .u64 ((ac : Int) + 1)) ∧ w'.cell? ⟨b15, 5, none⟩ = some (.slice B1 ks.length cq1) ∧ w'.cell? ⟨b17, 0, none⟩ = some (.int .u64 z.N) ∧ w'.cell? ⟨b17, 1, none⟩ = some (.int .u64 st) ∧ w'.cell? ⟨b17, 2, none⟩ = some (.int .i64 z.rows) ∧ w'.cell? ⟨b17, 3, none⟩ = some (.int .i64 z.cols) ∧ w'.cell? ⟨b17, 4, none⟩ = some (.int .u64 ((ac : Int) + 1)) ∧ w'.cell? ⟨b17, 5, none⟩ = some (.slice A5 ks.length cp5)) (go_keep)
      (first
        | (go_at_call 91; refine (of14 z.N st z.rows z.cols ((ac : Int) + 1) A5 cp5 _ ks w4.drew (((unhide HKR3).next kz3 (Nat.le_refl _) (by simp)).next ((Kept.refl [] w4).drew) (Nat.le_refl _) (by simp)) (unhide HS3).kl (unhide HS3).key).mono ?_; rintro e w5 ⟨B5, cq5, rfl, hd5, hk5⟩; have kk5 : Kept [] w4 w5 := ((Kept.refl [] w4).drew).trans hk5 (by simp); have t7 := kk5.obj (unhide O7) (by simp); have t14 := kk5.obj (unhide O14) (by simp); have t15 := kk5.obj (unhide O15) (by simp); have t17 := kk5.obj (unhide H17) (by simp); obtain ⟨a0, a1, a2, a3, a4, a5, az, al⟩ := DsO.get t14; obtain ⟨c0, c1, c2, c3, c4, c5, cz, cl⟩ := GdO.get t15; have d0 := obj_cell t17 0; have d1 := obj_cell t17 1; have d2 := obj_cell t17 2; have d3 := obj_cell t17 3; have d4 := obj_cell t17 4; have d5 := obj_cell t17 5; have KK5 := hide kk5; have HD5 := hide hd5; clear hk5 hd5 kk5 t7 t14 t15 t17 az al cz cl)
        | (go_at_call 90; refine (same14 z.N st z.rows z.cols ((ac : Int) + 1) B5 B1 cq5 cq1 ks w5 (unhide HD5) (((unhide HB3).kept kz3 (by simp)).kept (unhide KK5) (by simp)) (by have := (unhide HS3).kl; omega)).mono ?_; rintro e w6 ⟨rfl, hk6⟩; have kk6 : Kept [] w4 w6 := (unhide KK5).trans hk6 (by simp); have t7 := kk6.obj (unhide O7) (by simp); have t14 := kk6.obj (unhide O14) (by simp); have t15 := kk6.obj (unhide O15) (by simp); have t17 := kk6.obj (unhide H17) (by simp); obtain ⟨h0, h1, h2, h3, h4, h5, hz, hl⟩ := DsO.get t14; obtain ⟨i0, i1, i2, i3, i4, i5, iz, il⟩ := GdO.get t15; have j0 := obj_cell t17 0; have j1 := obj_cell t17 1; have j2 := obj_cell t17 2; have j3 := obj_cell t17 3; have j4 := obj_cell t17 4; have j5 := obj_cell t17 5; obtain ⟨r0, r1, r2, r3, r4, r5, rz, rl⟩ := DsO.get t7; have KK6 := hide kk6; clear hk6 kk6 t7 t14 t15 t17 hz hl iz il rl))

    have hb := unhide HB
    have hl2 := (unhide D2).lo
    go_wp2
    refine bodyPost_ret (v := .tuple #[.pointer (some ⟨sg, 0, none⟩), dsV A ty cp ty ac z.now true false, .bool true]) (by simp [results, Try.results74, go_sem, dsV, r0, r1, r2, r3, r4, r5]) rfl ?_
    have hp3 : Pair w3 sg qg qc ks ty ty ac z.now true false A cp xs := ⟨unhide HS3, unhide DOC3, (unhide D2).p.eq, (unhide D2).p.sep, (unhide D2).z.now⟩
    exact do_end (hp3.next (kz3.trans (unhide KK6) (by simp))) ((unhide KK3).trans (kz3.trans (unhide KK6) (by simp)) (by simp)) (by intro i hi; simp at hi; omega) (by omega) hb (by omega) ⟨by omega, by omega, by omega⟩ (fun a ha => by have := unhide HALT a ha; omega)
set_option maxRecDepth 100000 in
set_option maxHeartbeats 1500000 in
theorem do_COPYY (base sg qg qc : Nat) (ks : List ByteArray) (ty se ac : Nat) (la : Int) (be ask : Bool) (A : Option Addr) (cp : Nat) (xs : List ByteArray) (z : SA) (w : World) (h : Pair w sg qg qc ks ty se ac la be ask A cp xs) (hz : z.ok w) (hty : ty ≤ 500) (hb : base ≤ sg ∧ base ≤ qg ∧ base ≤ qc) (hkk : z.kind = 5 ∧ ks.length < 64) :
     Calls Try.prog 74 #[.pointer (some ⟨sg, 0, none⟩), dsV A ty cp se ac la be ask, z.val] w (DoOk w base ty sg qc) := by
  have HKIND := hide hkk
  clear hkk
  have H := hide h
  have HZ := hide hz
  have HB := hide hb
  have HLT : Hid (sg < w.heap.size ∧ qg < w.heap.size ∧ qc < w.heap.size) := hide ⟨heap_lt h.s.box, h.s.q.lt.1, h.s.q.lt.2⟩
  have HALT : Hid (∀ a, A = some a → a.block < w.heap.size) := hide h.d.lt
  have hcm := hz.by_.2.2.1
  have hm9 : z.n ≤ 9223372036854775807 := by have := hz.by_.2.1; unfold maxLen at hcm; omega
  have hnc : z.n ≤ z.c := hz.by_.2.1
  have hnc1 : (z.n : Int) ≤ (z.c : Int) := by omega
  clear h hz hb hcm
  unfold dsV SA.val
  go_enter Try.func74, Try.ntmps74
  go_upto_region 1 with (fail)
  have h4 : ((((w.alloc (DsO A ty cp se ac la be ask)).alloc (.cells #[.int .i64 z.kind, .slice z.A z.n z.c, .int .u64 z.N, .int .u64 z.now, .int .i64 z.rows, .int .i64 z.cols] 112)).alloc (DsO none 0 0 0 0 0 false false))).heap[w.heap.size]? = some (DsO A ty cp se ac la be ask) := obj_alloc (obj_alloc (obj_new _ _) _) _
  have h5 : ((((w.alloc (DsO A ty cp se ac la be ask)).alloc (.cells #[.int .i64 z.kind, .slice z.A z.n z.c, .int .u64 z.N, .int .u64 z.now, .int .i64 z.rows, .int .i64 z.cols] 112)).alloc (DsO none 0 0 0 0 0 false false))).heap[w.heap.size + 1]? = some (.cells #[.int .i64 z.kind, .slice z.A z.n z.c, .int .u64 z.N, .int .u64 z.now, .int .i64 z.rows, .int .i64 z.cols] 112 (0, 0)) := obj_alloc (obj_new2 _ _ _) _
  have h7 : ((((w.alloc (DsO A ty cp se ac la be ask)).alloc (.cells #[.int .i64 z.kind, .slice z.A z.n z.c, .int .u64 z.N, .int .u64 z.now, .int .i64 z.rows, .int .i64 z.cols] 112)).alloc (DsO none 0 0 0 0 0 false false))).heap[w.heap.size + 1 + 1]? = some (DsO none 0 0 0 0 0 false false) := obj_new3 _ _ _ _
  have hK : Kept [] w ((((w.alloc (DsO A ty cp se ac la be ask)).alloc (.cells #[.int .i64 z.kind, .slice z.A z.n z.c, .int .u64 z.N, .int .u64 z.now, .int .i64 z.rows, .int .i64 z.cols] 112)).alloc (DsO none 0 0 0 0 0 false false))) := (((Kept.refl [] w).alloc _).alloc _).alloc _
  change Code.wp _ _ _ _ ((((w.alloc (DsO A ty cp se ac la be ask)).alloc (.cells #[.int .i64 z.kind, .slice z.A z.n z.c, .int .u64 z.N, .int .u64 z.now, .int .i64 z.rows, .int .i64 z.cols] 112)).alloc (DsO none 0 0 0 0 0 false false)))
  generalize ((((w.alloc (DsO A ty cp se ac la be ask)).alloc (.cells #[.int .i64 z.kind, .slice z.A z.n z.c, .int .u64 z.N, .int .u64 z.now, .int .i64 z.rows, .int .i64 z.cols] 112)).alloc (DsO none 0 0 0 0 0 false false))) = wA at *
  generalize hb7 : w.heap.size + 1 + 1 = b7 at *
  generalize hb5 : w.heap.size + 1 = b5 at *
  generalize hb4 : w.heap.size = b4 at *
  have D := hide (DoW.mk ((unhide H).next hK) h4 h5 h7 hK ((unhide HZ).kept hK) (⟨by omega, by omega, by omega⟩ : w.heap.size ≤ b4 ∧ b4 < b5 ∧ b5 < b7))
  have HB4 := hide hb4
  have HTY1 : Hid (ty ≤ 1000) := hide (by omega)
  have HORD := hide (unhide H).s.ord
  have HAC : Hid (ac ≤ ty) := hide (by have := (unhide H).s.ord; omega)
  have HTY6 : Hid (ty ≤ 1000000) := hide (by omega)
  have HN5 : Hid (b5 ∉ [sg, qc]) := hide (by have := unhide HLT; simp; omega)
  have HN7 : Hid (b7 ∉ [sg, qc]) := hide (by have := unhide HLT; simp; omega)
  clear h4 h5 h7 hK hb4 hb5 hb7 H HZ
  obtain ⟨x0, x1, x2, x3, x4, x5, xl⟩ := (unhide D).cells
  obtain ⟨k, hk⟩ : ∃ k, k = min z.n 20 := ⟨_, rfl⟩
  have HKK := hide hk
  clear hk
  go_cut [9] (fun s9 wx => s9 = .slice z.A k z.c ∧ wx = wA)
  case first =>
    by_cases h20 : z.n ≤ 20
    · go_wp2_with fail
      go_meet
      exact ⟨by rw [show k = z.n by have := unhide HKK; omega], rfl⟩
    · have im4 : (20 : Int) ≤ (z.c : Int) := by omega
      go_wp2_with fail
      go_meet
      exact ⟨by rw [show k = 20 by have := unhide HKK; omega], rfl⟩
  case rest =>
    obtain ⟨rfl, rfl⟩ := hcut
    rw [(unhide HKIND).1] at x0
    obtain ⟨y0, y1, y2, y3, y4, y5, yz, yl⟩ := DsO.get (unhide D).o4
    have kc := fun (w : World) (C : Array Value) (n c : Nat) => Lib.run_convert_bytes_const (P := Try.prog) w 96 5 C n c Try.underlying96 Try.underlying5
    go_wp2_with fail
    refine (scopy sg qg qc ks ty se ac la be ask _ (unhide D).p.s).mono ?_
    rintro e w1 ⟨sg', qg', qc', rfl, hsn, hso, hk1, hge1, hge2, hge3⟩
    obtain ⟨wX, hwX⟩ : ∃ wX : World, Hid (DoW w wX b4 b5 b7 sg qg qc ks ty se ac la be ask A cp xs z) ∧ Kept [qc] wX w1 ∧ wX.heap.size ≤ sg' ∧ wX.heap.size ≤ qg' ∧ wX.heap.size ≤ qc' := ⟨_, D, hk1, hge1, hge2, hge3⟩
    obtain ⟨DX, hkX, hs', hg', hc'⟩ := hwX
    have hl4 := heap_lt (unhide DX).o4
    have hl7 := heap_lt (unhide DX).o7
    have hlt1 := heap_lt (unhide DX).p.s.box
    have hlt2 := (unhide DX).p.s.q.lt
    have hA := (unhide DX).p.d.lt
    have hsep := (unhide DX).p.sep
    have HOFF : Hid (∀ i ∈ [sg, qc], (i ≠ sg' ∧ i ≠ qg' ∧ i ≠ qc') ∧ ∀ a, A = some a → a.block ≠ i) := hide (by
      intro i hi
      simp at hi
      refine ⟨by omega, fun a ha => ?_⟩
      have := hsep a ha
      omega)
    have HOFF1 : Hid (∀ i ∈ [sg], (i ≠ sg' ∧ i ≠ qg' ∧ i ≠ qc') ∧ ∀ a, A = some a → a.block ≠ i) := hide (fun i hi => unhide HOFF i (by simp at hi ⊢; omega))
    have pc1 : Pair w1 sg' qg' qc' ks ty se ac la be ask A cp xs := ⟨hsn, (unhide DX).p.d.kept hkX (fun a ha => by have := hsep a ha; simp; omega), (unhide DX).p.eq, fun a ha => by have := hA a ha; omega, (unhide DX).p.la⟩
    have o41 := hkX.obj (unhide DX).o4 (by have h1 := unhide HLT; have h2 := unhide HB4; simp; omega)
    have PC1 := hide pc1
    have HSO := hide hso
    have HKX := hide hkX
    have HNN : Hid (sg ≠ qc' ∧ qg ≠ qc' ∧ qc ≠ qc' ∧ b4 ≠ qc' ∧ b7 ≠ qc' ∧ b4 ≠ sg ∧ b4 ≠ qc ∧ b7 ≠ sg ∧ b7 ≠ qc ∧ b7 ≠ sg' ∧ b7 ≠ qg' ∧ b7 ≠ qc') := hide (by have h1 := unhide HLT; have h2 := unhide HB4; have h3 := (unhide DX).lo; omega)
    have HGE : Hid (w.heap.size ≤ sg' ∧ w.heap.size ≤ qg' ∧ w.heap.size ≤ qc') := hide (by have := (unhide DX).kept.size; omega)
    clear hk1 hge1 hge2 hge3 hsn hso hkX pc1 hs' hg' hc' hl4 hl7 hlt1 hlt2 hA hsep x0 x1 x2 x3 x4 x5 xl y0 y1 y2 y3 y4 y5 yz yl D
    obtain ⟨y0, y1, y2, y3, y4, y5, yz, yl⟩ := DsO.get o41
    go_wp2_with fail
    refine (alike_yes sg' qg' qc' ks ty se ac la be ask A cp xs _ (unhide PC1) (unhide HTY1)).mono ?_
    rintro e w2 ⟨rfl, hp2, hk2⟩
    have hnn := unhide HNN
    have hs2 := (unhide HSO).next hk2 (by simp; omega) (by simp; omega) (by simp; omega)
    have hk02 : Kept [sg, qc, qc'] wX w2 := ((unhide HKX).mono (T := [sg, qc, qc']) (by intro i _ hi; simp at hi ⊢; omega)).trans hk2 (by intro i _ hi; simp at hi ⊢; omega)
    have P2 := hide hp2
    have S2 := hide hs2
    have K2 := hide hk02
    clear hp2 hs2 hk02 hk2 hnn o41 y0 y1 y2 y3 y4 y5 yz yl PC1 HSO HKX
    go_wp2_with fail
    have hbz3 : Byt (w2.alloc (.cells #[.int .u8 122] 5 (1, 2))) (some ⟨w2.heap.size, 0, none⟩) 1 [122] := byt_one _ _ _ _ (obj_new _ _)
    have ka : Kept [] w2 (w2.alloc (.cells #[.int .u8 122] 5 (1, 2))) := (Kept.refl [] w2).alloc _
    have hs3 := (unhide S2).next ka (by simp) (by simp) (by simp)
    have pc3 := (unhide P2).next ka
    have kx3 := (unhide K2).trans ka (by simp)

    refine (stype_yes sg _ _ _ _ _ _ _ _ _ _ _ _ _ _ (hs3) hbz3 (by omega) (by omega) (unhide HKIND).2 (unhide HTY6)).mono ?_
    rintro e w4 ⟨rfl, hs4, hk4⟩
    have kk4 : Kept [sg, qc, qc'] wX w4 := kx3.trans hk4 (by intro i _ hi; simp at hi ⊢; omega)
    have pc4 := pc3.off hk4 (unhide HOFF)
    obtain ⟨ks4, hks4⟩ : ∃ ks4, ks4 = ks ++ [strOfNums [122]] := ⟨_, rfl⟩
    rw [← hks4] at hs4

    have S4 := hide hs4
    have P4 := hide pc4
    have K4 := hide kk4
    clear hks4
    clear hs4 pc4 kk4 hk4 hbz3 ka hs3 pc3 kx3 S2 P2 K2
    go_wp2_with fail
    refine (sask sg _ _ _ _ _ _ _ _ _ _ (unhide S4)).mono ?_
    rintro e w5 ⟨rfl, hs5, hk5⟩
    have S5 := hide hs5
    have P5 := hide ((unhide P4).off hk5 (unhide HOFF1))
    have K5 := hide ((unhide K4).trans hk5 (by intro i _ hi; simp at hi ⊢; omega))
    clear hs5 hk5 S4 P4 K4
    go_wp2_with fail
    refine (gram_any sg _ _ _ _ _ _ _ _ _ 1 1 1 1 _ (unhide S5) (by omega) (by omega) (by rfl) (by rfl)).mono ?_
    rintro e w6 ⟨A6, cp6, rfl, hkr6, hs6, hk6⟩
    have S6 := hide hs6
    have P6 := hide ((unhide P5).off hk6 (unhide HOFF))
    have K6 := hide ((unhide K5).trans hk6 (by intro i _ hi; simp at hi ⊢; omega))
    clear hs6 hk6 hkr6 S5 P5 K5
    go_wp2_with fail
    refine (ssent sg _ _ _ _ _ _ _ _ _ _ (unhide S6)).mono ?_
    rintro e w7 ⟨rfl, hk7⟩
    have S7 := hide ((unhide S6).next hk7 (by simp) (by simp) (by simp))
    have P7 := hide ((unhide P6).next hk7)
    have K7 := hide ((unhide K6).trans hk7 (by simp))
    clear hk7 S6 P6 K6
    go_wp2_with fail
    refine (sechoed_yes sg _ _ _ _ _ _ (ty + 1) _ _ _ _ (unhide S7) (by have := (unhide S7).ord; omega) (Nat.le_refl _) (by omega)).mono ?_
    rintro e w8 ⟨rfl, hs8, hk8⟩
    have P8 := hide ((unhide P7).off hk8 (unhide HOFF))
    have hk08 := (unhide K7).trans (S := [sg, qc, qc']) hk8 (by intro i _ hi; simp at hi ⊢; omega)
    have hnn := unhide HNN
    have o48 := hk08.obj (unhide DX).o4 (by simp; omega)
    have o78 := hk08.obj (unhide DX).o7 (by simp; omega)
    have K8 := hide hk08
    obtain ⟨y0, y1, y2, y3, y4, y5, yz, yl⟩ := DsO.get o48
    obtain ⟨p0, p1, p2, p3, p4, p5, pz, pl⟩ := DsO.get o78
    have n47 : ¬ b4 = b7 := by have := (unhide DX).lo; omega
    have n74 : ¬ b7 = b4 := by omega
    clear hs8 hk8 hk08 o48 o78 hnn S7 P7 K7
    go_upto_region 26 with (fail)
    go_region
    go_wp2
    refine bodyPost_ret (v := .tuple #[.pointer (some ⟨sg', 0, none⟩), dsV A ty cp se ac la be ask, .bool true]) (by simp [results, Try.results74, go_sem, dsV, p0, p1, p2, p3, p4, p5]) rfl ?_
    have hb := unhide HB
    have hb4 := unhide HB4
    have hge := unhide HGE
    have hnn := unhide HNN
    have hlt := unhide HLT
    have hl2 := (unhide DX).lo
    have kw : Kept [sg, qc] w w8 := (unhide DX).kept.mono (T := [sg, qc]) (by simp) |>.trans (unhide K8) (by intro i hi hm; simp at hm ⊢; omega)
    exact (do_end (unhide P8) kw (by intro i hi; simp at hi; omega) (by omega) ⟨by omega, by omega, by omega⟩ (by omega) ⟨by omega, by omega, by omega⟩ (fun a ha => by have := unhide HALT a ha; omega)).drew
set_option maxRecDepth 100000 in
set_option maxHeartbeats 1500000 in
theorem do_COPYF (base sg qg qc : Nat) (ks : List ByteArray) (ty se ac : Nat) (la : Int) (be ask : Bool) (A : Option Addr) (cp : Nat) (xs : List ByteArray) (z : SA) (w : World) (h : Pair w sg qg qc ks ty se ac la be ask A cp xs) (hz : z.ok w) (hty : ty ≤ 500) (hb : base ≤ sg ∧ base ≤ qg ∧ base ≤ qc) (hkk : z.kind = 5 ∧ 64 ≤ ks.length) :
     Calls Try.prog 74 #[.pointer (some ⟨sg, 0, none⟩), dsV A ty cp se ac la be ask, z.val] w (DoOk w base ty sg qc) := by
  have HKIND := hide hkk
  clear hkk
  have H := hide h
  have HZ := hide hz
  have HB := hide hb
  have HLT : Hid (sg < w.heap.size ∧ qg < w.heap.size ∧ qc < w.heap.size) := hide ⟨heap_lt h.s.box, h.s.q.lt.1, h.s.q.lt.2⟩
  have HALT : Hid (∀ a, A = some a → a.block < w.heap.size) := hide h.d.lt
  have hcm := hz.by_.2.2.1
  have hm9 : z.n ≤ 9223372036854775807 := by have := hz.by_.2.1; unfold maxLen at hcm; omega
  have hnc : z.n ≤ z.c := hz.by_.2.1
  have hnc1 : (z.n : Int) ≤ (z.c : Int) := by omega
  clear h hz hb hcm
  unfold dsV SA.val
  go_enter Try.func74, Try.ntmps74
  go_upto_region 1 with (fail)
  have h4 : ((((w.alloc (DsO A ty cp se ac la be ask)).alloc (.cells #[.int .i64 z.kind, .slice z.A z.n z.c, .int .u64 z.N, .int .u64 z.now, .int .i64 z.rows, .int .i64 z.cols] 112)).alloc (DsO none 0 0 0 0 0 false false))).heap[w.heap.size]? = some (DsO A ty cp se ac la be ask) := obj_alloc (obj_alloc (obj_new _ _) _) _
  have h5 : ((((w.alloc (DsO A ty cp se ac la be ask)).alloc (.cells #[.int .i64 z.kind, .slice z.A z.n z.c, .int .u64 z.N, .int .u64 z.now, .int .i64 z.rows, .int .i64 z.cols] 112)).alloc (DsO none 0 0 0 0 0 false false))).heap[w.heap.size + 1]? = some (.cells #[.int .i64 z.kind, .slice z.A z.n z.c, .int .u64 z.N, .int .u64 z.now, .int .i64 z.rows, .int .i64 z.cols] 112 (0, 0)) := obj_alloc (obj_new2 _ _ _) _
  have h7 : ((((w.alloc (DsO A ty cp se ac la be ask)).alloc (.cells #[.int .i64 z.kind, .slice z.A z.n z.c, .int .u64 z.N, .int .u64 z.now, .int .i64 z.rows, .int .i64 z.cols] 112)).alloc (DsO none 0 0 0 0 0 false false))).heap[w.heap.size + 1 + 1]? = some (DsO none 0 0 0 0 0 false false) := obj_new3 _ _ _ _
  have hK : Kept [] w ((((w.alloc (DsO A ty cp se ac la be ask)).alloc (.cells #[.int .i64 z.kind, .slice z.A z.n z.c, .int .u64 z.N, .int .u64 z.now, .int .i64 z.rows, .int .i64 z.cols] 112)).alloc (DsO none 0 0 0 0 0 false false))) := (((Kept.refl [] w).alloc _).alloc _).alloc _
  change Code.wp _ _ _ _ ((((w.alloc (DsO A ty cp se ac la be ask)).alloc (.cells #[.int .i64 z.kind, .slice z.A z.n z.c, .int .u64 z.N, .int .u64 z.now, .int .i64 z.rows, .int .i64 z.cols] 112)).alloc (DsO none 0 0 0 0 0 false false)))
  generalize ((((w.alloc (DsO A ty cp se ac la be ask)).alloc (.cells #[.int .i64 z.kind, .slice z.A z.n z.c, .int .u64 z.N, .int .u64 z.now, .int .i64 z.rows, .int .i64 z.cols] 112)).alloc (DsO none 0 0 0 0 0 false false))) = wA at *
  generalize hb7 : w.heap.size + 1 + 1 = b7 at *
  generalize hb5 : w.heap.size + 1 = b5 at *
  generalize hb4 : w.heap.size = b4 at *
  have D := hide (DoW.mk ((unhide H).next hK) h4 h5 h7 hK ((unhide HZ).kept hK) (⟨by omega, by omega, by omega⟩ : w.heap.size ≤ b4 ∧ b4 < b5 ∧ b5 < b7))
  have HB4 := hide hb4
  have HTY1 : Hid (ty ≤ 1000) := hide (by omega)
  have HORD := hide (unhide H).s.ord
  have HAC : Hid (ac ≤ ty) := hide (by have := (unhide H).s.ord; omega)
  have HTY6 : Hid (ty ≤ 1000000) := hide (by omega)
  have HN5 : Hid (b5 ∉ [sg, qc]) := hide (by have := unhide HLT; simp; omega)
  have HN7 : Hid (b7 ∉ [sg, qc]) := hide (by have := unhide HLT; simp; omega)
  clear h4 h5 h7 hK hb4 hb5 hb7 H HZ
  obtain ⟨x0, x1, x2, x3, x4, x5, xl⟩ := (unhide D).cells
  obtain ⟨k, hk⟩ : ∃ k, k = min z.n 20 := ⟨_, rfl⟩
  have HKK := hide hk
  clear hk
  go_cut [9] (fun s9 wx => s9 = .slice z.A k z.c ∧ wx = wA)
  case first =>
    by_cases h20 : z.n ≤ 20
    · go_wp2_with fail
      go_meet
      exact ⟨by rw [show k = z.n by have := unhide HKK; omega], rfl⟩
    · have im4 : (20 : Int) ≤ (z.c : Int) := by omega
      go_wp2_with fail
      go_meet
      exact ⟨by rw [show k = 20 by have := unhide HKK; omega], rfl⟩
  case rest =>
    obtain ⟨rfl, rfl⟩ := hcut
    rw [(unhide HKIND).1] at x0
    obtain ⟨y0, y1, y2, y3, y4, y5, yz, yl⟩ := DsO.get (unhide D).o4
    have kc := fun (w : World) (C : Array Value) (n c : Nat) => Lib.run_convert_bytes_const (P := Try.prog) w 96 5 C n c Try.underlying96 Try.underlying5
    go_wp2_with fail
    refine (scopy sg qg qc ks ty se ac la be ask _ (unhide D).p.s).mono ?_
    rintro e w1 ⟨sg', qg', qc', rfl, hsn, hso, hk1, hge1, hge2, hge3⟩
    obtain ⟨wX, hwX⟩ : ∃ wX : World, Hid (DoW w wX b4 b5 b7 sg qg qc ks ty se ac la be ask A cp xs z) ∧ Kept [qc] wX w1 ∧ wX.heap.size ≤ sg' ∧ wX.heap.size ≤ qg' ∧ wX.heap.size ≤ qc' := ⟨_, D, hk1, hge1, hge2, hge3⟩
    obtain ⟨DX, hkX, hs', hg', hc'⟩ := hwX
    have hl4 := heap_lt (unhide DX).o4
    have hl7 := heap_lt (unhide DX).o7
    have hlt1 := heap_lt (unhide DX).p.s.box
    have hlt2 := (unhide DX).p.s.q.lt
    have hA := (unhide DX).p.d.lt
    have hsep := (unhide DX).p.sep
    have HOFF : Hid (∀ i ∈ [sg, qc], (i ≠ sg' ∧ i ≠ qg' ∧ i ≠ qc') ∧ ∀ a, A = some a → a.block ≠ i) := hide (by
      intro i hi
      simp at hi
      refine ⟨by omega, fun a ha => ?_⟩
      have := hsep a ha
      omega)
    have HOFF1 : Hid (∀ i ∈ [sg], (i ≠ sg' ∧ i ≠ qg' ∧ i ≠ qc') ∧ ∀ a, A = some a → a.block ≠ i) := hide (fun i hi => unhide HOFF i (by simp at hi ⊢; omega))
    have pc1 : Pair w1 sg' qg' qc' ks ty se ac la be ask A cp xs := ⟨hsn, (unhide DX).p.d.kept hkX (fun a ha => by have := hsep a ha; simp; omega), (unhide DX).p.eq, fun a ha => by have := hA a ha; omega, (unhide DX).p.la⟩
    have o41 := hkX.obj (unhide DX).o4 (by have h1 := unhide HLT; have h2 := unhide HB4; simp; omega)
    have PC1 := hide pc1
    have HSO := hide hso
    have HKX := hide hkX
    have HNN : Hid (sg ≠ qc' ∧ qg ≠ qc' ∧ qc ≠ qc' ∧ b4 ≠ qc' ∧ b7 ≠ qc' ∧ b4 ≠ sg ∧ b4 ≠ qc ∧ b7 ≠ sg ∧ b7 ≠ qc ∧ b7 ≠ sg' ∧ b7 ≠ qg' ∧ b7 ≠ qc') := hide (by have h1 := unhide HLT; have h2 := unhide HB4; have h3 := (unhide DX).lo; omega)
    have HGE : Hid (w.heap.size ≤ sg' ∧ w.heap.size ≤ qg' ∧ w.heap.size ≤ qc') := hide (by have := (unhide DX).kept.size; omega)
    clear hk1 hge1 hge2 hge3 hsn hso hkX pc1 hs' hg' hc' hl4 hl7 hlt1 hlt2 hA hsep x0 x1 x2 x3 x4 x5 xl y0 y1 y2 y3 y4 y5 yz yl D
    obtain ⟨y0, y1, y2, y3, y4, y5, yz, yl⟩ := DsO.get o41
    go_wp2_with fail
    refine (alike_yes sg' qg' qc' ks ty se ac la be ask A cp xs _ (unhide PC1) (unhide HTY1)).mono ?_
    rintro e w2 ⟨rfl, hp2, hk2⟩
    have hnn := unhide HNN
    have hs2 := (unhide HSO).next hk2 (by simp; omega) (by simp; omega) (by simp; omega)
    have hk02 : Kept [sg, qc, qc'] wX w2 := ((unhide HKX).mono (T := [sg, qc, qc']) (by intro i _ hi; simp at hi ⊢; omega)).trans hk2 (by intro i _ hi; simp at hi ⊢; omega)
    have P2 := hide hp2
    have S2 := hide hs2
    have K2 := hide hk02
    clear hp2 hs2 hk02 hk2 hnn o41 y0 y1 y2 y3 y4 y5 yz yl PC1 HSO HKX
    go_wp2_with fail
    have hbz3 : Byt (w2.alloc (.cells #[.int .u8 122] 5 (1, 2))) (some ⟨w2.heap.size, 0, none⟩) 1 [122] := byt_one _ _ _ _ (obj_new _ _)
    have ka : Kept [] w2 (w2.alloc (.cells #[.int .u8 122] 5 (1, 2))) := (Kept.refl [] w2).alloc _
    have hs3 := (unhide S2).next ka (by simp) (by simp) (by simp)
    have pc3 := (unhide P2).next ka
    have kx3 := (unhide K2).trans ka (by simp)

    refine (stype_full sg _ _ _ _ _ _ _ _ _ _ _ _ _ _ (hs3) hbz3 (by omega) (by omega) (unhide HKIND).2).mono ?_
    rintro e w4 ⟨rfl, hk4⟩
    have hs4 := hs3.next hk4 (by simp) (by simp) (by simp)
    have kk4 : Kept [sg, qc, qc'] wX w4 := kx3.trans hk4 (by simp)
    have pc4 := pc3.next hk4
    obtain ⟨ks4, hks4, hty4⟩ : ∃ ks4, ks4 = ks ∧ ty ≤ ty := ⟨_, rfl, Nat.le_refl _⟩
    rw [← hks4] at hs4

    have S4 := hide hs4
    have P4 := hide pc4
    have K4 := hide kk4
    clear hks4 hty4
    clear hs4 pc4 kk4 hk4 hbz3 ka hs3 pc3 kx3 S2 P2 K2
    go_wp2_with fail
    refine (sask sg _ _ _ _ _ _ _ _ _ _ (unhide S4)).mono ?_
    rintro e w5 ⟨rfl, hs5, hk5⟩
    have S5 := hide hs5
    have P5 := hide ((unhide P4).off hk5 (unhide HOFF1))
    have K5 := hide ((unhide K4).trans hk5 (by intro i _ hi; simp at hi ⊢; omega))
    clear hs5 hk5 S4 P4 K4
    go_wp2_with fail
    refine (gram_any sg _ _ _ _ _ _ _ _ _ 1 1 1 1 _ (unhide S5) (by omega) (by omega) (by rfl) (by rfl)).mono ?_
    rintro e w6 ⟨A6, cp6, rfl, hkr6, hs6, hk6⟩
    have S6 := hide hs6
    have P6 := hide ((unhide P5).off hk6 (unhide HOFF))
    have K6 := hide ((unhide K5).trans hk6 (by intro i _ hi; simp at hi ⊢; omega))
    clear hs6 hk6 hkr6 S5 P5 K5
    go_wp2_with fail
    refine (ssent sg _ _ _ _ _ _ _ _ _ _ (unhide S6)).mono ?_
    rintro e w7 ⟨rfl, hk7⟩
    have S7 := hide ((unhide S6).next hk7 (by simp) (by simp) (by simp))
    have P7 := hide ((unhide P6).next hk7)
    have K7 := hide ((unhide K6).trans hk7 (by simp))
    clear hk7 S6 P6 K6
    go_wp2_with fail
    refine (sechoed_yes sg _ _ _ _ _ _ ty _ _ _ _ (unhide S7) (by have := (unhide S7).ord; omega) (Nat.le_refl _) (by omega)).mono ?_
    rintro e w8 ⟨rfl, hs8, hk8⟩
    have P8 := hide ((unhide P7).off hk8 (unhide HOFF))
    have hk08 := (unhide K7).trans (S := [sg, qc, qc']) hk8 (by intro i _ hi; simp at hi ⊢; omega)
    have hnn := unhide HNN
    have o48 := hk08.obj (unhide DX).o4 (by simp; omega)
    have o78 := hk08.obj (unhide DX).o7 (by simp; omega)
    have K8 := hide hk08
    obtain ⟨y0, y1, y2, y3, y4, y5, yz, yl⟩ := DsO.get o48
    obtain ⟨p0, p1, p2, p3, p4, p5, pz, pl⟩ := DsO.get o78
    have n47 : ¬ b4 = b7 := by have := (unhide DX).lo; omega
    have n74 : ¬ b7 = b4 := by omega
    clear hs8 hk8 hk08 o48 o78 hnn S7 P7 K7
    go_upto_region 26 with (fail)
    go_region
    go_wp2
    refine bodyPost_ret (v := .tuple #[.pointer (some ⟨sg', 0, none⟩), dsV A ty cp se ac la be ask, .bool true]) (by simp [results, Try.results74, go_sem, dsV, p0, p1, p2, p3, p4, p5]) rfl ?_
    have hb := unhide HB
    have hb4 := unhide HB4
    have hge := unhide HGE
    have hnn := unhide HNN
    have hlt := unhide HLT
    have hl2 := (unhide DX).lo
    have kw : Kept [sg, qc] w w8 := (unhide DX).kept.mono (T := [sg, qc]) (by simp) |>.trans (unhide K8) (by intro i hi hm; simp at hm ⊢; omega)
    exact (do_end (unhide P8) kw (by intro i hi; simp at hi; omega) (by omega) ⟨by omega, by omega, by omega⟩ (by omega) ⟨by omega, by omega, by omega⟩ (fun a ha => by have := unhide HALT a ha; omega)).drew
theorem do_any (base sg qg qc : Nat) (ks : List ByteArray) (ty se ac : Nat) (la : Int) (be ask : Bool) (A : Option Addr) (cp : Nat) (xs : List ByteArray) (z : SA) (w : World) (h : Pair w sg qg qc ks ty se ac la be ask A cp xs) (hz : z.ok w) (hty : ty ≤ 500) (hb : base ≤ sg ∧ base ≤ qg ∧ base ≤ qc) :
    Calls Try.prog 74 #[.pointer (some ⟨sg, 0, none⟩), dsV A ty cp se ac la be ask, z.val] w (DoOk w base ty sg qc) := by
  by_cases k0 : z.kind = 0
  · by_cases n0 : z.n = 0
    · exact do_TYPE0 base sg qg qc ks ty se ac la be ask A cp xs z w h hz hty hb ⟨k0, n0⟩
    · by_cases n8 : z.n ≤ 8
      · by_cases h64 : ks.length < 64
        · exact do_TYPEY base sg qg qc ks ty se ac la be ask A cp xs z w h hz hty hb ⟨k0, by omega, n8, h64⟩
        · exact do_TYPEF base sg qg qc ks ty se ac la be ask A cp xs z w h hz hty hb ⟨k0, by omega, n8, by omega⟩
      · exact do_TYPEL base sg qg qc ks ty se ac la be ask A cp xs z w h hz hty hb ⟨k0, by omega⟩
  by_cases k1 : z.kind = 1
  · exact do_k1 base sg qg qc ks ty se ac la be ask A cp xs z w h hz hty hb k1
  by_cases k2 : z.kind = 2
  · exact do_k2 base sg qg qc ks ty se ac la be ask A cp xs z w h hz hty hb k2
  by_cases k3 : z.kind = 3
  · exact do_k3 base sg qg qc ks ty se ac la be ask A cp xs z w h hz hty hb k3
  by_cases k4 : z.kind = 4
  · cases hk : (okSide z.rows && okSide z.cols)
    · exact do_GRAMB base sg qg qc ks ty se ac la be ask A cp xs z w h hz hty hb ⟨k4, hk⟩
    · exact do_GRAMY base sg qg qc ks ty se ac la be ask A cp xs z w h hz hty hb ⟨k4, hk⟩
  by_cases k5 : z.kind = 5
  · by_cases h64 : ks.length < 64
    · exact do_COPYY base sg qg qc ks ty se ac la be ask A cp xs z w h hz hty hb ⟨k5, h64⟩
    · exact do_COPYF base sg qg qc ks ty se ac la be ask A cp xs z w h hz hty hb ⟨k5, by omega⟩
  exact do_ko base sg qg qc ks ty se ac la be ask A cp xs z w h hz hty hb ⟨k0, k1, k2, k3, k4, k5⟩
end Go.Proofs.Ytpdabmbjnmpgbaa
