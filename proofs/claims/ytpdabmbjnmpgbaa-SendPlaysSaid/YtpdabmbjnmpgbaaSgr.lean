/-
  Package send: Gram.
-/
import Derived.Test.YtpdabmbjnmpgbaaSdu
import Derived.Test.YtpdabmbjnmpgbaaKch
import Derived.Test.YtpdabmbjnmpgbaaSwa
import Derived.Deep.RegionHeld3
import Derived.Deep.CutRange
import Derived.Deep.CutBlock
import Derived.Deep.DeepCutAuto
namespace Go.Proofs.Ytpdabmbjnmpgbaa
open Go.Conc Go.RowKit
set_option linter.unusedVariables false
def GmO (ack stamp rows cols first : Int) (A : Option Addr) (n cp : Nat) : Obj := .cells #[.int .u64 ack, .int .u64 stamp, .int .i64 rows, .int .i64 cols, .int .u64 first, .slice A n cp] 100 (0, 0)
theorem KRows.next {S : List Nat} {w w' : World} {base base' : Nat} {A : Option Addr} {ks : List ByteArray} (h : KRows w base A ks) (k : Kept S w w') (hb : base' ≤ base) (hs : ∀ b ∈ S, b < base) : KRows w' base' A ks := fun i hi => by
  obtain ⟨b, off, v, rfl, h1, h2, h3, bk, cp, rfl, h4, h5, h6, h7⟩ := h i hi
  have n1 : b ∉ S := fun hm => by have := hs b hm; omega
  have n2 : bk ∉ S := fun hm => by have := hs bk hm; omega
  exact ⟨b, off, _, rfl, by omega, Nat.lt_of_lt_of_le h2 k.size, (k.cell (p := ⟨b, off + i, none⟩) h2 n1).trans h3, bk, cp, rfl, by omega, Nat.lt_of_lt_of_le h5 k.size, h6, h7.kept k (by rintro a ⟨⟩; exact n2)⟩
def gput (w : World) (G : Nat) (ack stamp rows cols first : Int) (A : Option Addr) (n cp : Nat) : World :=
  (((((w.setCell ⟨G, 0, none⟩ (.int .u64 ack)).setCell ⟨G, 1, none⟩ (.int .u64 stamp)).setCell ⟨G, 2, none⟩ (.int .i64 rows)).setCell ⟨G, 3, none⟩ (.int .i64 cols)).setCell ⟨G, 4, none⟩ (.int .u64 first)).setCell ⟨G, 5, none⟩ (.slice A n cp)
theorem gput_obj {w : World} {G : Nat} {a0 b0 c0 d0 e0 : Int} {A0 : Option Addr} {n0 cp0 : Nat} (h : w.heap[G]? = some (GmO a0 b0 c0 d0 e0 A0 n0 cp0)) (ack stamp rows cols first : Int) (A : Option Addr) (n cp : Nat) : (gput w G ack stamp rows cols first A n cp).heap[G]? = some (GmO ack stamp rows cols first A n cp) := by
  have h0 := obj_set h 0 (.int .u64 ack)
  have h1 := obj_set h0 1 (.int .u64 stamp)
  have h2 := obj_set h1 2 (.int .i64 rows)
  have h3 := obj_set h2 3 (.int .i64 cols)
  have h4 := obj_set h3 4 (.int .u64 first)
  have h5 := obj_set h4 5 (.slice A n cp)
  simpa [GmO, gput] using h5
theorem gput_kept {S : List Nat} {a w : World} {G : Nat} (h : Kept S a w) (hg : G ∈ S ∨ a.heap.size ≤ G) (ack stamp rows cols first : Int) (A : Option Addr) (n cp : Nat) : Kept S a (gput w G ack stamp rows cols first A n cp) :=
  (((((h.setCell hg _).setCell hg _).setCell hg _).setCell hg _).setCell hg _).setCell hg _
theorem klen_krows {w : World} {base : Nat} {A : Option Addr} {ks : List ByteArray} (h : KRows w base A ks) (hk : ∀ k ∈ ks, 1 ≤ ByteArray.size k ∧ ByteArray.size k ≤ 8) : KLen w A ks.length := fun i hi => by
  obtain ⟨b, off, v, rfl, h1, h2, h3, bk, cp, rfl, h4, h5, h6, h7⟩ := h i hi
  have hm := hk (ks.getD i ByteArray.empty) (by rw [List.getD_eq_getElem?_getD, List.getElem?_eq_getElem hi]; exact List.getElem_mem hi)
  exact ⟨b, off, _, _, _, rfl, h2, h3, hm.1, hm.2⟩
theorem check_okI (ack stamp rows cols first : Int) (A : Option Addr) (n cp : Nat) (w : World) (hr : okSide rows = true) (hc : okSide cols = true) (h1 : 1 ≤ first) (h2 : first ≤ 1000000) (hn : n ≤ 64) (hk : KLen w A n) :
    Calls Try.prog 71 #[.agg #[.int .u64 ack, .int .u64 stamp, .int .i64 rows, .int .i64 cols, .int .u64 first, .slice A n cp]] w fun e w' => e = .returned (.int .i64 0) ∧ Kept [] w w' := by
  obtain ⟨f, rfl⟩ := Int.eq_ofNat_of_zero_le (show 0 ≤ first by omega)
  exact check_ok ack stamp rows cols f A n cp w hr hc (by omega) (by omega) hn hk
theorem SS.gram {w : World} {sg qg qc ty se ac : Nat} {ks : List ByteArray} {la : Int} {be ask : Bool} (h : SS w sg qg qc ks ty se ac la be ask) (now : Int) :
    SS ((((w.setCell ⟨sg, 2, none⟩ (.int .u64 (ty : Int))).setCell ⟨sg, 4, none⟩ (.int .u64 now)).setCell ⟨sg, 5, none⟩ (.bool true)).setCell ⟨sg, 6, none⟩ (.bool false)) sg qg qc ks ty ty ac now true false := by
  have hne := h.ne
  have K : Kept [sg] w ((((w.setCell ⟨sg, 2, none⟩ (.int .u64 (ty : Int))).setCell ⟨sg, 4, none⟩ (.int .u64 now)).setCell ⟨sg, 5, none⟩ (.bool true)).setCell ⟨sg, 6, none⟩ (.bool false)) :=
    ((((Kept.refl [sg] w).setCell (.inl (by simp)) _).setCell (.inl (by simp)) _).setCell (.inl (by simp)) _).setCell (.inl (by simp)) _
  have h2 := obj_set h.box 2 (.int .u64 (ty : Int))
  have h4 := obj_set h2 4 (.int .u64 now)
  have h5 := obj_set h4 5 (.bool true)
  have h6 := obj_set h5 6 (.bool false)
  exact ⟨by simpa [SndO] using h6, h.q.next K (by simp; omega) (by simp; omega), h.kl, h.sum, ⟨by have := h.ord; omega, Nat.le_refl _⟩, h.key⟩
def GramOk (w : World) (sg qg qc : Nat) (ks : List ByteArray) (ty ac : Nat) (now ack rows cols : Int) (e : Ending) (w' : World) : Prop :=
  ∃ A cp, e = .returned (.tuple #[.agg #[.int .u64 ack, .int .u64 (sat now 1), .int .i64 rows, .int .i64 cols, .int .u64 ((ac : Int) + 1), .slice A ks.length cp], .int .i64 0]) ∧ KRows w' w.heap.size A ks ∧ SS w' sg qg qc ks ty ty ac now true false ∧ Kept [sg, qc] w w'
def gset (w : World) (sg : Nat) (ty : Nat) (now : Int) : World := (((w.setCell ⟨sg, 2, none⟩ (.int .u64 (ty : Int))).setCell ⟨sg, 4, none⟩ (.int .u64 now)).setCell ⟨sg, 5, none⟩ (.bool true)).setCell ⟨sg, 6, none⟩ (.bool false)
theorem gset_kept {S : List Nat} {a w : World} {sg : Nat} (h : Kept S a w) (hg : sg ∈ S ∨ a.heap.size ≤ sg) (ty : Nat) (now : Int) : Kept S a (gset w sg ty now) := (((h.setCell hg _).setCell hg _).setCell hg _).setCell hg _
theorem gram_close {w wA wc w6 : World} {sg qg qc ty se ac b10 : Nat} {ks : List ByteArray} {la : Int} {be ask : Bool} {A : Option Addr} (now ack st rows cols first : Int) (n cp : Nat)
    (hK : Kept [] w wA) (hKK : Kept [qc] wA wc) (hK6 : Kept [] wc w6) (hkr : KRows wc wA.heap.size A ks) (hss : SS w6 sg qg qc ks ty se ac la be ask) (hb : w.heap.size = b10) (hb2 : b10 < wA.heap.size) (hlt : sg < b10 ∧ qc < b10 ∧ qg < b10) :
    KRows (gput (gset w6 sg ty now) b10 ack st rows cols first A n cp) w.heap.size A ks ∧ SS (gput (gset w6 sg ty now) b10 ack st rows cols first A n cp) sg qg qc ks ty ty ac now true false ∧ Kept [sg, qc] w (gput (gset w6 sg ty now) b10 ack st rows cols first A n cp) := by
  have k1 := hK.size
  have k2 := hKK.size
  have k3 := hK6.size
  have kg : Kept [sg, b10] w6 (gput (gset w6 sg ty now) b10 ack st rows cols first A n cp) := gput_kept (gset_kept (Kept.refl _ _) (.inl (by simp)) ty now) (.inl (by simp)) _ _ _ _ _ _ _ _
  have kp : Kept [b10] (gset w6 sg ty now) (gput (gset w6 sg ty now) b10 ack st rows cols first A n cp) := gput_kept (Kept.refl _ _) (.inl (by simp)) _ _ _ _ _ _ _ _
  refine ⟨(hkr.next hK6 (Nat.le_refl _) (by simp)).next kg (by omega) (by simp; omega), (hss.gram now).next kp (by simp; omega) (by simp; omega) (by simp; omega), ?_⟩
  exact (((hK.mono (T := [sg, qc]) (by simp)).trans hKK (by intro i _ hi; simp at hi ⊢; exact .inr hi)).trans hK6 (by simp)).trans kg (by intro i hi hm; simp at hm ⊢; omega)
theorem gram_nil (now ack rows cols : Int) (w : World) : Calls Try.prog 63 #[.pointer none, .int .u64 now, .int .u64 ack, .int .i64 rows, .int .i64 cols] w fun e w' => e = .returned (.tuple #[.agg #[.int .u64 0, .int .u64 0, .int .i64 0, .int .i64 0, .int .u64 0, .slice none 0 0], .int .i64 1]) ∧ Kept [] w w' := by
  go_enter Try.func63, Try.ntmps63
  go_wp2
  refine bodyPost_ret (v := .tuple #[.agg #[.int .u64 0, .int .u64 0, .int .i64 0, .int .i64 0, .int .u64 0, .slice none 0 0], .int .i64 1]) (by simp [results, Try.results63, go_sem]) rfl ?_
  exact ⟨rfl, (Kept.refl [] w).alloc _⟩
set_option maxRecDepth 100000 in
set_option maxHeartbeats 2000000 in
theorem gram_any (sg qg qc : Nat) (ks : List ByteArray) (ty se ac : Nat) (la : Int) (be ask : Bool) (now ack rows cols : Int) (w : World) (h : SS w sg qg qc ks ty se ac la be ask)
    (hno : 0 ≤ now ∧ now < 18446744073709551616) (hty : ty ≤ 1000) (hr : okSide rows = true) (hc : okSide cols = true) :
    Calls Try.prog 63 #[.pointer (some ⟨sg, 0, none⟩), .int .u64 now, .int .u64 ack, .int .i64 rows, .int .i64 cols] w (GramOk w sg qg qc ks ty ac now ack rows cols) := by
  have H := hide h
  have HTY := hide hty
  have HNO := hide hno
  have HRC := hide (And.intro hr hc)
  clear h hty hno hr hc
  go_enter Try.func63, Try.ntmps63
  go_upto_region 1 with (fail)
  have h10 : (w.alloc (GmO 0 0 0 0 0 none 0 0)).heap[w.heap.size]? = some (GmO 0 0 0 0 0 none 0 0) := obj_new _ _
  have hK : Kept [] w (w.alloc (GmO 0 0 0 0 0 none 0 0)) := (Kept.refl [] w).alloc _
  have HLT : Hid (sg < w.heap.size ∧ qc < w.heap.size ∧ qg < w.heap.size) := hide ⟨heap_lt (unhide H).box, (unhide H).q.lt.2, (unhide H).q.lt.1⟩
  change Code.wp _ _ _ _ (w.alloc (GmO 0 0 0 0 0 none 0 0))
  generalize w.alloc (GmO 0 0 0 0 0 none 0 0) = wA at *
  generalize hb10 : w.heap.size = b10 at *
  have HB10 := hide hb10
  clear hb10
  have H10 := hide h10
  have HK := hide hK
  have HA := hide ((unhide H).next hK (by simp) (by simp) (by simp))
  clear h10 hK H
  obtain ⟨c0, c1, c2, c3, c4, c5, c6, cz, cl⟩ := (unhide HA).cells
  clear c0 c1 c2 c4 c5 c6 cz
  have hA3 : IntKind.u64.wrap ((ac : Int) + 1) = (ac : Int) + 1 := by
    have := (unhide HA).ord
    have := unhide HTY
    rw [IntKind.wrap_u64]; omega
  have hng : ¬ sg = wA.heap.size := by omega
  have hng2 : ¬ wA.heap.size = sg := by omega
  go_upto_region 3 with (fail)
  go_cut [12] (fun s12 wx => ∃ (G : Nat) (A : Option Addr) (cp : Nat), s12 = .pointer (some ⟨G, 0, none⟩) ∧ wA.heap.size ≤ G ∧ wx.heap[G]? = some (GmO ack (sat now 1) rows cols ((ac : Int) + 1) A ks.length cp) ∧ KRows wx wA.heap.size A ks ∧ SS wx sg qg qc ks ty se ac la be ask ∧ Kept [qc] wA wx)
  case first =>
    go_region_held3 (fun w' => w'.cell? ⟨sg, 3, none⟩ = some (.int .u64 (ac : Int))) (go_keep)
      (first
        | (go_at_call 81; refine (nadd_one now _ (unhide HNO).1 (unhide HNO).2).mono ?_; rintro e w' ⟨rfl, rfl⟩)
        | (go_at_call 66; refine (swaiting sg qg qc ks ty se ac la be ask _ ((unhide HA).next (S := []) (by first | exact (Kept.refl [] _).drew | exact ((Kept.refl [] _).drew).alloc _) (by simp) (by simp) (by simp))).mono ?_; rintro e w5 ⟨A5, cp5, rfl, hr5, hs5, hk5⟩; have d3 := hs5.cells.2.2.2.1; (first | (have hG5 : w5.heap[wA.heap.size]? = some (GmO 0 0 0 0 0 none 0 0) := hk5.obj (obj_new wA.drew _) (by have := (unhide HA).q.lt; simp; omega); have g0 := obj_cell hG5 0; have g1 := obj_cell hG5 1; have g2 := obj_cell hG5 2; have g3 := obj_cell hG5 3; have g4 := obj_cell hG5 4; have g5 := obj_cell hG5 5; have gz := obj_frozen hG5; have HG5 := hide hG5; clear hG5) | skip); have HR5 := hide hr5; have HS5 := hide hs5; have HK5 := hide hk5; clear hr5 hs5 hk5))
    · go_wp2_with fail
      go_meet
      have hk5 := unhide HK5
      have kk : Kept [] w5 (w5.alloc (GmO ack (sat now 1) rows cols ((ac : Int) + 1) A5 ks.length cp5)) := (Kept.refl [] w5).alloc _
      exact ⟨w5.heap.size, A5, cp5, rfl, hk5.size, obj_new _ _, (unhide HR5).next kk (Nat.le_refl _) (by simp), (unhide HS5).next kk (by simp) (by simp) (by simp), (((Kept.refl [qc] wA).drew).trans hk5 (by simp)).trans kk (by simp)⟩
    all_goals
      go_wp2_with fail
      go_meet
      have hk5 := unhide HK5
      have kk : Kept [wA.heap.size] w5 (gput w5 wA.heap.size ack (sat now 1) rows cols ((ac : Int) + 1) A5 ks.length cp5) := gput_kept (Kept.refl _ w5) (.inl (by simp)) _ _ _ _ _ _ _ _
      have hlq := (unhide HA).q.lt
      exact ⟨wA.heap.size, A5, cp5, rfl, Nat.le_refl _, gput_obj (unhide HG5) _ _ _ _ _ _ _ _, (unhide HR5).next kk (by simp) (by simp), (unhide HS5).next kk (by simp; omega) (by simp; omega) (by simp; omega), gput_kept ((((Kept.refl [qc] wA).drew).alloc _).trans hk5 (by simp)) (.inr (Nat.le_refl _)) _ _ _ _ _ _ _ _⟩
  case rest =>
    obtain ⟨G, A, cp, rfl, hG, hob, hkr, hss, hkk⟩ := hcut
    have HKR := hide hkr
    have HSS := hide hss
    have HKK := hide hkk
    have HOB := hide hob
    have e0 := obj_cell hob 0
    have e1 := obj_cell hob 1
    have e2 := obj_cell hob 2
    have e3 := obj_cell hob 3
    have e4 := obj_cell hob 4
    have e5 := obj_cell hob 5
    clear hkr hss hkk hob c3 hA3
    go_wp2_with fail
    refine (check_okI ack _ rows cols _ A ks.length cp wc (unhide HRC).1 (unhide HRC).2 (by omega) (by have := (unhide HSS).ord; have := unhide HTY; omega) (unhide HSS).kl (klen_krows (unhide HKR) (unhide HSS).key)).mono ?_
    rintro e w6 ⟨rfl, hk6⟩
    have HK6 := hide hk6
    have hss6 := (unhide HSS).next hk6 (by simp) (by simp) (by simp)
    obtain ⟨d0, d1, d2, d3, d4, d5, d6, dz, dl⟩ := hss6.cells
    have hob6 := hk6.obj (unhide HOB) (by simp)
    have f0 := obj_cell hob6 0
    have f1 := obj_cell hob6 1
    have f2 := obj_cell hob6 2
    have f3 := obj_cell hob6 3
    have f4 := obj_cell hob6 4
    have f5 := obj_cell hob6 5
    have h10 : w6.heap[b10]? = some (GmO 0 0 0 0 0 none 0 0) := hk6.obj ((unhide HKK).obj (unhide H10) (by have := unhide HLT; simp; omega)) (by simp)
    have i0 := obj_cell h10 0
    have i1 := obj_cell h10 1
    have i2 := obj_cell h10 2
    have i3 := obj_cell h10 3
    have i4 := obj_cell h10 4
    have i5 := obj_cell h10 5
    have iz := obj_frozen h10
    have hl10 : b10 < wA.heap.size := heap_lt (unhide H10)
    have hn1 : ¬ b10 = sg := by have := unhide HLT; omega
    have hn2 : ¬ sg = b10 := by omega
    have hn3 : ¬ G = sg := by omega
    have hn4 : ¬ sg = G := by omega
    have hn5 : ¬ G = b10 := by omega
    have hn6 : ¬ b10 = G := by omega
    have HSS6 := hide hss6
    have H106 := hide h10
    clear e0 e1 e2 e3 e4 e5 hk6 hss6 hob6 h10 d0 d3
    go_wp2
    refine bodyPost_ret (v := .tuple #[.agg #[.int .u64 ack, .int .u64 (sat now 1), .int .i64 rows, .int .i64 cols, .int .u64 ((ac : Int) + 1), .slice A ks.length cp], .int .i64 0]) (by simp [results, Try.results63, go_sem, i0, i1, i2, i3, i4, i5]) rfl ?_
    exact ⟨A, cp, rfl, gram_close now ack (sat now 1) rows cols ((ac : Int) + 1) ks.length cp (unhide HK) (unhide HKK) (unhide HK6) (unhide HKR) (unhide HSS6) (unhide HB10) hl10 (unhide HLT)⟩
set_option maxRecDepth 100000 in
set_option maxHeartbeats 2000000 in
theorem gram_size (sg qg qc : Nat) (ks : List ByteArray) (ty se ac : Nat) (la : Int) (be ask : Bool) (now ack rows cols : Int) (w : World) (h : SS w sg qg qc ks ty se ac la be ask)
    (hno : 0 ≤ now ∧ now < 18446744073709551616) (hty : ty ≤ 1000) (hr : (okSide rows && okSide cols) = false) :
    Calls Try.prog 63 #[.pointer (some ⟨sg, 0, none⟩), .int .u64 now, .int .u64 ack, .int .i64 rows, .int .i64 cols] w fun e w' => e = .returned (.tuple #[.agg #[.int .u64 0, .int .u64 0, .int .i64 0, .int .i64 0, .int .u64 0, .slice none 0 0], .int .i64 11]) ∧ SS w' sg qg qc ks ty se ac la be ask ∧ Kept [qc] w w' := by
  have H := hide h
  have HTY := hide hty
  have HNO := hide hno
  have HRC := hide hr
  clear h hty hno hr
  go_enter Try.func63, Try.ntmps63
  go_upto_region 1 with (fail)
  have h10 : (w.alloc (GmO 0 0 0 0 0 none 0 0)).heap[w.heap.size]? = some (GmO 0 0 0 0 0 none 0 0) := obj_new _ _
  have hK : Kept [] w (w.alloc (GmO 0 0 0 0 0 none 0 0)) := (Kept.refl [] w).alloc _
  have HLT : Hid (sg < w.heap.size ∧ qc < w.heap.size ∧ qg < w.heap.size) := hide ⟨heap_lt (unhide H).box, (unhide H).q.lt.2, (unhide H).q.lt.1⟩
  change Code.wp _ _ _ _ (w.alloc (GmO 0 0 0 0 0 none 0 0))
  generalize w.alloc (GmO 0 0 0 0 0 none 0 0) = wA at *
  generalize hb10 : w.heap.size = b10 at *
  have HB10 := hide hb10
  clear hb10
  have H10 := hide h10
  have HK := hide hK
  have HA := hide ((unhide H).next hK (by simp) (by simp) (by simp))
  clear h10 hK H
  obtain ⟨c0, c1, c2, c3, c4, c5, c6, cz, cl⟩ := (unhide HA).cells
  clear c0 c1 c2 c4 c5 c6 cz
  have hA3 : IntKind.u64.wrap ((ac : Int) + 1) = (ac : Int) + 1 := by
    have := (unhide HA).ord
    have := unhide HTY
    rw [IntKind.wrap_u64]; omega
  have hng : ¬ sg = wA.heap.size := by omega
  have hng2 : ¬ wA.heap.size = sg := by omega
  go_upto_region 3 with (fail)
  go_cut [12] (fun s12 wx => ∃ (G : Nat) (A : Option Addr) (cp : Nat), s12 = .pointer (some ⟨G, 0, none⟩) ∧ wA.heap.size ≤ G ∧ wx.heap[G]? = some (GmO ack (sat now 1) rows cols ((ac : Int) + 1) A ks.length cp) ∧ KRows wx wA.heap.size A ks ∧ SS wx sg qg qc ks ty se ac la be ask ∧ Kept [qc] wA wx)
  case first =>
    go_region_held3 (fun w' => w'.cell? ⟨sg, 3, none⟩ = some (.int .u64 (ac : Int))) (go_keep)
      (first
        | (go_at_call 81; refine (nadd_one now _ (unhide HNO).1 (unhide HNO).2).mono ?_; rintro e w' ⟨rfl, rfl⟩)
        | (go_at_call 66; refine (swaiting sg qg qc ks ty se ac la be ask _ ((unhide HA).next (S := []) (by first | exact (Kept.refl [] _).drew | exact ((Kept.refl [] _).drew).alloc _) (by simp) (by simp) (by simp))).mono ?_; rintro e w5 ⟨A5, cp5, rfl, hr5, hs5, hk5⟩; have d3 := hs5.cells.2.2.2.1; (first | (have hG5 : w5.heap[wA.heap.size]? = some (GmO 0 0 0 0 0 none 0 0) := hk5.obj (obj_new wA.drew _) (by have := (unhide HA).q.lt; simp; omega); have g0 := obj_cell hG5 0; have g1 := obj_cell hG5 1; have g2 := obj_cell hG5 2; have g3 := obj_cell hG5 3; have g4 := obj_cell hG5 4; have g5 := obj_cell hG5 5; have gz := obj_frozen hG5; have HG5 := hide hG5; clear hG5) | skip); have HR5 := hide hr5; have HS5 := hide hs5; have HK5 := hide hk5; clear hr5 hs5 hk5))
    · go_wp2_with fail
      go_meet
      have hk5 := unhide HK5
      have kk : Kept [] w5 (w5.alloc (GmO ack (sat now 1) rows cols ((ac : Int) + 1) A5 ks.length cp5)) := (Kept.refl [] w5).alloc _
      exact ⟨w5.heap.size, A5, cp5, rfl, hk5.size, obj_new _ _, (unhide HR5).next kk (Nat.le_refl _) (by simp), (unhide HS5).next kk (by simp) (by simp) (by simp), (((Kept.refl [qc] wA).drew).trans hk5 (by simp)).trans kk (by simp)⟩
    all_goals
      go_wp2_with fail
      go_meet
      have hk5 := unhide HK5
      have kk : Kept [wA.heap.size] w5 (gput w5 wA.heap.size ack (sat now 1) rows cols ((ac : Int) + 1) A5 ks.length cp5) := gput_kept (Kept.refl _ w5) (.inl (by simp)) _ _ _ _ _ _ _ _
      have hlq := (unhide HA).q.lt
      exact ⟨wA.heap.size, A5, cp5, rfl, Nat.le_refl _, gput_obj (unhide HG5) _ _ _ _ _ _ _ _, (unhide HR5).next kk (by simp) (by simp), (unhide HS5).next kk (by simp; omega) (by simp; omega) (by simp; omega), gput_kept ((((Kept.refl [qc] wA).drew).alloc _).trans hk5 (by simp)) (.inr (Nat.le_refl _)) _ _ _ _ _ _ _ _⟩
  case rest =>
    obtain ⟨G, A, cp, rfl, hG, hob, hkr, hss, hkk⟩ := hcut
    have HKR := hide hkr
    have HSS := hide hss
    have HKK := hide hkk
    have HOB := hide hob
    have e0 := obj_cell hob 0
    have e1 := obj_cell hob 1
    have e2 := obj_cell hob 2
    have e3 := obj_cell hob 3
    have e4 := obj_cell hob 4
    have e5 := obj_cell hob 5
    clear hkr hss hkk hob c3 hA3
    go_wp2_with fail
    refine (check_size ack _ rows cols _ A ks.length cp wc (unhide HRC)).mono ?_
    rintro e w6 ⟨rfl, hk6⟩
    have HK6 := hide hk6
    have hss6 := (unhide HSS).next hk6 (by simp) (by simp) (by simp)
    obtain ⟨d0, d1, d2, d3, d4, d5, d6, dz, dl⟩ := hss6.cells
    have hob6 := hk6.obj (unhide HOB) (by simp)
    have f0 := obj_cell hob6 0
    have f1 := obj_cell hob6 1
    have f2 := obj_cell hob6 2
    have f3 := obj_cell hob6 3
    have f4 := obj_cell hob6 4
    have f5 := obj_cell hob6 5
    have h10 : w6.heap[b10]? = some (GmO 0 0 0 0 0 none 0 0) := hk6.obj ((unhide HKK).obj (unhide H10) (by have := unhide HLT; simp; omega)) (by simp)
    have i0 := obj_cell h10 0
    have i1 := obj_cell h10 1
    have i2 := obj_cell h10 2
    have i3 := obj_cell h10 3
    have i4 := obj_cell h10 4
    have i5 := obj_cell h10 5
    have iz := obj_frozen h10
    have hl10 : b10 < wA.heap.size := heap_lt (unhide H10)
    have hn1 : ¬ b10 = sg := by have := unhide HLT; omega
    have hn2 : ¬ sg = b10 := by omega
    have hn3 : ¬ G = sg := by omega
    have hn4 : ¬ sg = G := by omega
    have hn5 : ¬ G = b10 := by omega
    have hn6 : ¬ b10 = G := by omega
    have HSS6 := hide hss6
    have H106 := hide h10
    clear e0 e1 e2 e3 e4 e5 hk6 hss6 hob6 h10 d0 d3
    go_wp2
    refine bodyPost_ret (v := .tuple #[.agg #[.int .u64 0, .int .u64 0, .int .i64 0, .int .i64 0, .int .u64 0, .slice none 0 0], .int .i64 11]) (by simp [results, Try.results63, go_sem, i0, i1, i2, i3, i4, i5]) rfl ?_
    have kp := gput_kept (G := b10) (Kept.refl [b10] w6) (.inl (by simp)) 0 0 0 0 0 none 0 0
    have k1 := (unhide HK).size
    have k2 := (unhide HKK).size
    have hlt := unhide HLT
    have hb10 := unhide HB10
    exact ⟨rfl, (unhide HSS6).next kp (by simp; omega) (by simp; omega) (by simp; omega), (((((unhide HK).mono (T := [qc]) (by simp)).trans (unhide HKK) (by intro i _ hi; exact hi)).trans (unhide HK6) (by simp)).trans kp (by intro i hi hm; simp at hm; omega))⟩
end Go.Proofs.Ytpdabmbjnmpgbaa
