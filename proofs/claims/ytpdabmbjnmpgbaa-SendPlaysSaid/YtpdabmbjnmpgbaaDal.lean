/-
  The document's grams: Same. Are a sender and the document's alike.
-/
import Derived.Test.YtpdabmbjnmpgbaaDof
namespace Go.Proofs.Ytpdabmbjnmpgbaa
open Go.Conc Go.RowKit
set_option linter.unusedVariables false
set_option maxRecDepth 100000 in
set_option maxHeartbeats 2000000 in
theorem same14 (ack st r c first : Int) (A B : Option Addr) (cp cq : Nat) (xs : List ByteArray) (w : World) (hA : DocS w A xs.length cp xs) (hB : DocS w B xs.length cq xs) (hl : xs.length ≤ 1000) :
    Calls Try.prog 90 #[gV ack st r c first A xs.length cp, gV ack st r c first B xs.length cq] w fun e w' => e = .returned (.bool true) ∧ Kept [] w w' := by
  have HA := hide hA
  have HB := hide hB
  have hn9 : xs.length ≤ 9223372036854775807 := by omega
  clear hA hB
  unfold gV
  go_enter Try.func90, Try.ntmps90
  go_upto_region 1 with (fail)
  have h2 : ((w.alloc (GdO ack st r c first A xs.length cp)).alloc (GdO ack st r c first B xs.length cq)).heap[w.heap.size]? = some (GdO ack st r c first A xs.length cp) := obj_alloc (obj_new _ _) _
  have h3 : ((w.alloc (GdO ack st r c first A xs.length cp)).alloc (GdO ack st r c first B xs.length cq)).heap[w.heap.size + 1]? = some (GdO ack st r c first B xs.length cq) := obj_new2 _ _ _
  have hK : Kept [] w ((w.alloc (GdO ack st r c first A xs.length cp)).alloc (GdO ack st r c first B xs.length cq)) := ((Kept.refl [] w).alloc _).alloc _
  change Code.wp _ _ _ _ ((w.alloc (GdO ack st r c first A xs.length cp)).alloc (GdO ack st r c first B xs.length cq))
  generalize ((w.alloc (GdO ack st r c first A xs.length cp)).alloc (GdO ack st r c first B xs.length cq)) = wA at *
  generalize hb3 : w.heap.size + 1 = b3 at *
  generalize hb2 : w.heap.size = b2 at *
  clear hb3 hb2
  have KA := hide ((unhide HA).kept hK (by simp))
  have KB := hide ((unhide HB).kept hK (by simp))
  have HK := hide hK
  obtain ⟨g0, g1, g2, g3, g4, g5, gz, gl⟩ := GdO.get h2
  obtain ⟨z0, z1, z2, z3, z4, z5, zz, zl⟩ := GdO.get h3
  clear h2 h3 hK HA HB gz zz gl zl
  go_wp2_with fail
  go_loopw [5] (fun i wr => ∃ (j q : Nat), j ≤ xs.length ∧ i = .int .i64 j ∧ wr = wA.drewN q) (fun i _ => xs.length - (intOf i).toNat)
  case atStart => exact ⟨0, 0, Nat.zero_le _, rfl, rfl⟩
  case round =>
    obtain ⟨j, q, hj, rfl, rfl⟩ := hrel
    by_cases hlt : j < xs.length
    · obtain ⟨b, off, rfl, hb, hc⟩ := (unhide KA).rd hlt
      obtain ⟨b', off', rfl, hb', hc'⟩ := (unhide KB).rd hlt
      generalize xs.getD j ByteArray.empty = key at *
      go_wp2_with fail
      go_quiet (fail)
      go_wp2
      exact ⟨⟨j + 1, q + nq, by omega, by go_num, by first | rfl | rw [World.drewN_drewN]⟩, by simp [intOf]; omega⟩
    · have hjk : j = xs.length := by omega
      subst hjk
      go_wp2
      go_ret
      exact ⟨rfl, (unhide HK).drewN _⟩
theorem byt_convs {w : World} {A : Option Addr} {n c : Nat} {xs : List Int} {k : ByteArray} (h : Byt w A n xs) (hn : 0 < n) (hk : strOfNums xs = k) (q : Nat) : (convert 96 9 (.slice A n c)).run Try.prog (w.drewN q) = .ok (.string k) (w.drewN q) := by
  subst hk
  exact conv_byt (h.kept ((Kept.refl [] w).drewN q) (by simp)) hn
/-- What stands of a law's sender and the document's: the same keys, the same counts. -/
structure Pair (w : World) (sg qg qc : Nat) (ks : List ByteArray) (ty se ac : Nat) (la : Int) (be ask : Bool) (A : Option Addr) (cp : Nat) (xs : List ByteArray) : Prop where
  s : SS w sg qg qc ks ty se ac la be ask
  d : DocS w A ty cp xs
  eq : ks = xs.drop ac
  sep : ∀ a, A = some a → a.block ≠ sg ∧ a.block ≠ qg ∧ a.block ≠ qc
  la : 0 ≤ la ∧ la < 18446744073709551616
theorem Pair.next {w w' : World} {sg qg qc : Nat} {ks : List ByteArray} {ty se ac : Nat} {la : Int} {be ask : Bool} {A : Option Addr} {cp : Nat} {xs : List ByteArray} (h : Pair w sg qg qc ks ty se ac la be ask A cp xs) (k : Kept [] w w') : Pair w' sg qg qc ks ty se ac la be ask A cp xs :=
  ⟨h.s.next k (by simp) (by simp) (by simp), h.d.kept k (by simp), h.eq, h.sep, h.la⟩
theorem Pair.turn {w w' : World} {sg qg qc : Nat} {ks : List ByteArray} {ty se ac : Nat} {la : Int} {be ask : Bool} {A : Option Addr} {cp : Nat} {xs : List ByteArray} (h : Pair w sg qg qc ks ty se ac la be ask A cp xs) (hs : SS w' sg qg qc ks ty se ac la be ask) (k : Kept [qc] w w') : Pair w' sg qg qc ks ty se ac la be ask A cp xs :=
  ⟨hs, h.d.kept k (fun a ha => by have := h.sep a ha; simp; omega), h.eq, h.sep, h.la⟩
set_option maxRecDepth 100000 in
set_option maxHeartbeats 4000000 in
theorem alike_yes (sg qg qc : Nat) (ks : List ByteArray) (ty se ac : Nat) (la : Int) (be ask : Bool) (A : Option Addr) (cp : Nat) (xs : List ByteArray) (w : World) (h : Pair w sg qg qc ks ty se ac la be ask A cp xs) (hty : ty ≤ 1000) :
    Calls Try.prog 75 #[.pointer (some ⟨sg, 0, none⟩), dsV A ty cp se ac la be ask] w fun e w' => e = .returned (.bool true) ∧ Pair w' sg qg qc ks ty se ac la be ask A cp xs ∧ Kept [qc] w w' := by
  have H := hide h
  have HTY := hide hty
  have hord := h.s.ord
  have hsum := h.s.sum
  have hkl := h.s.kl
  have hac : ac ≤ ty := by omega
  have HAC := hide hac
  have HORD := hide hord
  have HSUM := hide hsum
  have heq := h.eq
  have HEQ := hide heq
  have hty9 : ty ≤ 9223372036854775807 := by omega
  have w1 : IntKind.u64.wrap (ty : Int) = (ty : Int) := by have e := IntKind.wrap_u64 (ty : Int); omega
  have w2 : IntKind.u64.wrap (se : Int) = (se : Int) := by have e := IntKind.wrap_u64 (se : Int); omega
  have w3 : IntKind.u64.wrap (ac : Int) = (ac : Int) := by have e := IntKind.wrap_u64 (ac : Int); omega
  clear h hty hord hsum heq hac
  unfold dsV
  go_enter Try.func75, Try.ntmps75
  go_upto_region 1 with (fail)
  have h3 : (w.alloc (DsO A ty cp se ac la be ask)).heap[w.heap.size]? = some (DsO A ty cp se ac la be ask) := obj_new _ _
  have hK : Kept [] w (w.alloc (DsO A ty cp se ac la be ask)) := (Kept.refl [] w).alloc _
  change Code.wp _ _ _ _ (w.alloc (DsO A ty cp se ac la be ask))
  generalize w.alloc (DsO A ty cp se ac la be ask) = wA at *
  generalize hb3 : w.heap.size = b3 at *
  have HBQ : Hid (¬ b3 = qc) := hide (by have := (unhide H).s.q.lt.2; omega)
  have HP := hide ((unhide H).next hK)
  have HK := hide hK
  have H3 := hide h3
  obtain ⟨x0, x1, x2, x3, x4, x5, xz, xl⟩ := DsO.get h3
  clear h3 hK xz xl hb3
  go_cut [5, 6] (fun s5 s6 wx => ∃ (A5 B6 : Option Addr) (cp5 cq6 base : Nat), s5 = .slice A5 ks.length cp5 ∧ s6 = .slice B6 ks.length cq6 ∧ KRows wx base A5 ks ∧ DocS wx B6 ks.length cq6 ks ∧ SS wx sg qg qc ks ty se ac la be ask ∧ Kept [qc] wA wx)
  case first =>
    go_region_held3 (fun w' => w'.cell? ⟨b3, 0, none⟩ = some (.slice A ty cp) ∧ w'.cell? ⟨b3, 1, none⟩ = some (.int .i64 (se : Int)) ∧ w'.cell? ⟨b3, 2, none⟩ = some (.int .i64 (ac : Int)) ∧ w'.cell? ⟨b3, 3, none⟩ = some (.int .u64 la) ∧ w'.cell? ⟨b3, 4, none⟩ = some (.bool be) ∧ w'.cell? ⟨b3, 5, none⟩ = some (.bool ask)) (go_keep)
      (first
        | (go_at_call 66; refine (swaiting sg qg qc ks ty se ac la be ask _ (by first | exact (unhide HP).s.next (S := []) ((Kept.refl [] _).drew) (by simp) (by simp) (by simp) | exact (unhide HP).s.next (S := []) (unhide KD) (by simp) (by simp) (by simp))).mono ?_; rintro e w5 ⟨A5, cp5, rfl, hkr5, hs5, hk5⟩; have kk5 : Kept [qc] wA w5 := (by first | exact ((Kept.refl [qc] wA).drew).trans hk5 (by intro i _ hi; exact hi) | exact ((unhide KD).mono (T := [qc]) (by simp)).trans hk5 (by intro i _ hi; exact hi)); have hob5 := kk5.obj (unhide H3) (by have := unhide HBQ; simp; omega); obtain ⟨z0, z1, z2, z3, z4, z5, zz, zl⟩ := DsO.get hob5; have KS := hide kk5; have HKR := hide hkr5; have HSS := hide hs5; have HK5 := hide hk5; clear hkr5 hs5 hk5 kk5 hob5 zz zl)
        | (go_at_call 92; refine (rwaiting A ty cp se ac la be ask xs _ (by first | exact (unhide HP).d.kept ((Kept.refl [] _).drew) (by simp) | exact (unhide HP).d.kept (unhide KS) (fun a ha => by have := (unhide HP).sep a ha; simp; omega)) (unhide HTY) (unhide HAC)).mono ?_; rw [← unhide HEQ]; rintro e w6 ⟨B6, cq6, rfl, hd6, hk6, hf6⟩; have kk6 : Kept [qc] wA w6 := (by first | exact ((Kept.refl [qc] wA).drew).trans hk6 (by simp) | exact (unhide KS).trans hk6 (by simp)); have hob6 := kk6.obj (unhide H3) (by have := unhide HBQ; simp; omega); obtain ⟨y0, y1, y2, y3, y4, y5, yz, yl⟩ := DsO.get hob6; (first | have KD : Hid (Kept [] wA w6) := hide (((Kept.refl [] wA).drew).trans hk6 (by simp)) | skip); have KT := hide kk6; have HD6 := hide hd6; have HK6 := hide hk6; have HF6 := hide hf6; clear hd6 hk6 hf6 kk6 hob6 yz yl))
    go_wp2_with fail
    go_meet
    exact ⟨A5, B6, cp5, cq6, _, rfl, rfl, (unhide HKR).next (unhide HK6) (Nat.le_refl _) (by simp), unhide HD6, (unhide HSS).next (unhide HK6) (by simp) (by simp) (by simp), unhide KT⟩
  case rest =>
    obtain ⟨A5, B6, cp5, cq6, base, rfl, rfl, hkr, hd6, hss, hkc⟩ := hcut
    have hl9 : ks.length ≤ 9223372036854775807 := by omega
    have HKR := hide hkr
    have HD6 := hide hd6
    have HSS := hide hss
    have HKC := hide hkc
    have hob := hkc.obj (unhide H3) (by have := unhide HBQ; simp; omega)
    have HSm : Hid (∀ w', Kept [] wc w' → (Kept [] wc w' ∧ w'.cell? ⟨b3, 0, none⟩ = some (.slice A ty cp) ∧ w'.cell? ⟨b3, 1, none⟩ = some (.int .i64 (se : Int)) ∧ w'.cell? ⟨b3, 2, none⟩ = some (.int .i64 (ac : Int)) ∧ w'.cell? ⟨b3, 3, none⟩ = some (.int .u64 la) ∧ w'.cell? ⟨b3, 4, none⟩ = some (.bool be) ∧ w'.cell? ⟨b3, 5, none⟩ = some (.bool ask))) :=
      hide fun w' k => ⟨k, (DsO.get (k.obj hob (by simp))).1, (DsO.get (k.obj hob (by simp))).2.1, (DsO.get (k.obj hob (by simp))).2.2.1, (DsO.get (k.obj hob (by simp))).2.2.2.1, (DsO.get (k.obj hob (by simp))).2.2.2.2.1, (DsO.get (k.obj hob (by simp))).2.2.2.2.2.1⟩
    clear hkr hd6 hss hkc hob x0 x1 x2 x3 x4 x5
    go_upto_region 2 with (fail)
    go_region_held3 (fun w' => Kept [] wc w' ∧ w'.cell? ⟨b3, 0, none⟩ = some (.slice A ty cp) ∧ w'.cell? ⟨b3, 1, none⟩ = some (.int .i64 (se : Int)) ∧ w'.cell? ⟨b3, 2, none⟩ = some (.int .i64 (ac : Int)) ∧ w'.cell? ⟨b3, 3, none⟩ = some (.int .u64 la) ∧ w'.cell? ⟨b3, 4, none⟩ = some (.bool be) ∧ w'.cell? ⟨b3, 5, none⟩ = some (.bool ask))
      (first | exact (unhide HSm) _ ((Kept.refl [] _).drew) | exact (unhide HSm) _ (by assumption))
      (first
        | (go_at_call 62; refine (styped sg _ _ _ _ _ _ _ _ _ _ ((unhide HSS).next ((Kept.refl [] _).drew) (by simp) (by simp) (by simp))).mono ?_; rintro e wv1 ⟨rfl, hk⟩; have kk1 := ((Kept.refl [] wc).drew).trans hk (by simp); clear hk)
        | (go_at_call 73; refine (ssent sg _ _ _ _ _ _ _ _ _ _ ((unhide HSS).next kk1 (by simp) (by simp) (by simp))).mono ?_; rintro e wv2 ⟨rfl, hk⟩; have kk2 := kk1.trans hk (by simp); clear hk)
        | (go_at_call 69; refine (sacked sg _ _ _ _ _ _ _ _ _ _ ((unhide HSS).next kk2 (by simp) (by simp) (by simp))).mono ?_; rintro e wv3 ⟨rfl, hk⟩; have kk3 := kk2.trans hk (by simp); clear hk))
    have P3 := hide ((unhide HP).turn (unhide HSS) (unhide HKC))
    have P4 := hide ((unhide P3).next kk3)
    have R4 := hide ((unhide HKR).next kk3 (Nat.le_refl _) (by simp))
    have D4 := hide ((unhide HD6).kept kk3 (by simp))
    have K4 := hide ((((unhide HK).mono (T := [qc]) (by simp)).trans (unhide HKC) (by intro i _ hi; exact hi)).trans kk3 (by simp))
    have KEYS := hide (unhide HSS).key
    clear kk1 kk2 kk3 HSm HKR HD6 HSS P3
    go_wp2_with fail
    go_loopw [7] (fun i wr => ∃ (j q : Nat), j ≤ ks.length ∧ i = .int .i64 j ∧ wr = wv3.drewN q) (fun i _ => ks.length - (intOf i).toNat)
    case atStart => exact ⟨0, 0, Nat.zero_le _, rfl, rfl⟩
    case round =>
      obtain ⟨j, q, hj, rfl, rfl⟩ := hrel
      by_cases hlt : j < ks.length
      · obtain ⟨b, off, v, rfl, hb1, hb2, hb3, bk, cpk, rfl, h4, h5, h6, h7⟩ := (unhide R4) j hlt
        obtain ⟨b', off', rfl, hb', hc'⟩ := (unhide D4).rd hlt
        have hks := (unhide KEYS) (ks.getD j ByteArray.empty) (by rw [List.getD_eq_getElem?_getD, List.getElem?_eq_getElem hlt]; exact List.getElem_mem hlt)
        generalize ks.getD j ByteArray.empty = key at *
        have hcv := byt_convs (c := cpk) h7 (by omega) (str_nums key)
        clear hb1 h4 h5 h6 h7
        go_wp2_with fail
        go_quiet (fail)
        go_wp2
        exact ⟨⟨j + 1, q + nq, by omega, by go_num, by first | rfl | rw [World.drewN_drewN]⟩, by simp [intOf]; omega⟩
      · have hjk : j = ks.length := by omega
        subst hjk
        go_wp2
        go_ret
        exact ⟨rfl, (unhide P4).next ((Kept.refl [] wv3).drewN _), (unhide K4).drewN _⟩
end Go.Proofs.Ytpdabmbjnmpgbaa
