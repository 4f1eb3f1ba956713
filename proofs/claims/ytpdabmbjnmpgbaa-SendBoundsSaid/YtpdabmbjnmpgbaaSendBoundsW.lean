/-
  The walk of SendBounds.
-/
import Derived.Test.YtpdabmbjnmpgbaaSlk
namespace Go.Proofs.Ytpdabmbjnmpgbaa
open Go.Conc Go.RowKit
set_option linter.unusedVariables false
/-- How the sender stands behind j acts. -/
structure BdR (W wr : World) (sg qg qc j : Nat) (ks : List ByteArray) (ty se ac : Nat) (la : Int) (be ask : Bool) : Prop where
  kept : Kept [] W wr
  s : SS wr sg qg qc ks ty se ac la be ask
  la : 0 ≤ la ∧ la < 18446744073709551616
  ty : ty ≤ j
def BdE (W wr : World) (sg qg qc j : Nat) : Prop := ∃ ks ty se ac la be ask, BdR W wr sg qg qc j ks ty se ac la be ask
theorem BdR.next {W wr wj : World} {sg qg qc j : Nat} {ks : List ByteArray} {ty se ac : Nat} {la : Int} {be ask : Bool} (h : BdR W wr sg qg qc j ks ty se ac la be ask) (k : Kept [] wr wj) : BdR W wj sg qg qc j ks ty se ac la be ask :=
  ⟨h.kept.trans k (by simp), h.s.next k (by simp) (by simp) (by simp), h.la, h.ty⟩
theorem BdR.upto {W wr : World} {sg qg qc j : Nat} {ks : List ByteArray} {ty se ac : Nat} {la : Int} {be ask : Bool} (h : BdR W wr sg qg qc j ks ty se ac la be ask) : BdR W wr sg qg qc (j + 1) ks ty se ac la be ask :=
  ⟨h.kept, h.s, h.la, by have := h.ty; omega⟩
theorem BdR.typed {W wr wj : World} {sg j : Nat} {ks ks' : List ByteArray} {ty se ac : Nat} {la : Int} {be ask : Bool} (h : BdR W wr sg (W.heap.size + 1) W.heap.size j ks ty se ac la be ask) (hs : SS wj sg (W.heap.size + 1) W.heap.size ks' (ty + 1) se ac la be ask) (hk : Kept [sg, W.heap.size] wr wj) (hz : W.heap.size + 2 ≤ sg) : BdR W wj sg (W.heap.size + 1) W.heap.size (j + 1) ks' (ty + 1) se ac la be ask :=
  ⟨knext h.kept hk (by simp; omega), hs, h.la, by have := h.ty; omega⟩
set_option maxRecDepth 100000 in
set_option maxHeartbeats 2000000 in
theorem walk_SendBounds (W : World) (A : Option Addr) (n c : Nat) (u : Unit) (hA : SActs W A n) (hnc : n ≤ c) :
    Calls Try.prog 15 #[.slice A n c] W (SHolds W true) := by
  have hn9 : n ≤ 9223372036854775807 := by have := hA.1; unfold maxLen at this; omega
  have HA := hide hA
  clear hA hnc
  go_enter Try.func15, Try.ntmps15
  go_wp2_with fail
  refine (snew _).mono ?_
  rintro e w1 ⟨sg, rfl, hs1, hk1, hsz⟩
  have S1 := hide hs1
  have K1 := hide hk1
  have HZ := hide hsz
  clear hs1 hk1 hsz
  go_upto_block 0 with (fail)
  go_cut [] (fun wx => BdE W wx sg (W.heap.size + 1) W.heap.size 200)
  case first =>
    go_wp2_with fail
    go_loopw [4, 5, 6, 7, 8, 9] (fun i a b c d e wr => ∃ j : Nat, j ≤ n ∧ j ≤ 200 ∧ i = .int .i64 j ∧ BdE W wr sg (W.heap.size + 1) W.heap.size j) (fun i _ _ _ _ _ _ => n - (intOf i).toNat)
    case atStart => exact ⟨0, by omega, by omega, rfl, [], 0, 0, 0, 0, false, false, unhide K1, unhide S1, by omega, by omega⟩
    case round =>
      obtain ⟨j, hjn, hj2, rfl, hE⟩ := hrel
      have HE := hide hE
      clear hE
      by_cases hlt : j < n
      · by_cases hl2 : j < 200
        · obtain ⟨b, off, z, hAe, hb, hz, c0, c1, c2, c3, c4, c5⟩ := (unhide HA).2 j hlt
          subst hAe
          obtain ⟨ks, ty, se, ac, la, be, ask, hR⟩ := unhide HE
          have k0 := hR.kept
          have d0 := (k0.cell (p := ⟨b, _, none⟩) hb (by simp)).trans c0
          have d1 := (k0.cell (p := ⟨b, _, none⟩) hb (by simp)).trans c1
          have d2 := (k0.cell (p := ⟨b, _, none⟩) hb (by simp)).trans c2
          have d3 := (k0.cell (p := ⟨b, _, none⟩) hb (by simp)).trans c3
          have d4 := (k0.cell (p := ⟨b, _, none⟩) hb (by simp)).trans c4
          have d5 := (k0.cell (p := ⟨b, _, none⟩) hb (by simp)).trans c5
          have HR := hide hR
          have HZZ := hide hz
          clear c0 c1 c2 c3 c4 c5 k0 hR hz
          go_upto_region 8 with (fail)
          have ha0 : (wr.alloc (.cells #[.int .i64 z.kind, .slice z.A z.n z.c, .int .u64 z.N, .int .u64 z.now, .int .i64 z.rows, .int .i64 z.cols] 112)).heap[wr.heap.size]? = some (.cells #[.int .i64 z.kind, .slice z.A z.n z.c, .int .u64 z.N, .int .u64 z.now, .int .i64 z.rows, .int .i64 z.cols] 112 (0, 0)) := obj_new _ _
          have ka : Kept [] wr (wr.alloc (.cells #[.int .i64 z.kind, .slice z.A z.n z.c, .int .u64 z.N, .int .u64 z.now, .int .i64 z.rows, .int .i64 z.cols] 112)) := (Kept.refl [] wr).alloc _
          have hbq : sg < wr.heap.size ∧ W.heap.size < wr.heap.size := ⟨heap_lt (unhide HR).s.box, (unhide HR).s.q.lt.2⟩
          generalize wr.alloc (.cells #[.int .i64 z.kind, .slice z.A z.n z.c, .int .u64 z.N, .int .u64 z.now, .int .i64 z.rows, .int .i64 z.cols] 112) = wq at *
          generalize wr.heap.size = bq at *
          have HBQ := hide hbq
          clear hbq
          have RQ := hide ((unhide HR).next ka)
          have OQ := hide ha0
          have hzz := unhide HZZ
          have ZQ := hide (hzz.kept ((unhide HR).kept.trans ka (by simp)))
          have x0 := obj_cell ha0 0
          have x1 := obj_cell ha0 1
          have x2 := obj_cell ha0 2
          have x3 := obj_cell ha0 3
          have x4 := obj_cell ha0 4
          have x5 := obj_cell ha0 5
          clear d0 d1 d2 d3 d4 d5 ka ha0 HR HZZ hzz HE hb
          go_upto_block 2 with (fail)
          go_cut [] from 13 to 141 (fun wx => BdE W wx sg (W.heap.size + 1) W.heap.size (j + 1))
          case first =>
            by_cases k0 : z.kind = 0
            · as_aux_lemma =>
                rw [k0] at x0
                go_wp2_with fail
                refine (styped _ _ _ _ _ _ _ _ _ _ _ (unhide RQ).s).mono ?_
                rintro e wt1 ⟨rfl, hk⟩
                have RT := hide ((unhide RQ).next hk)
                have o1 := hk.obj (unhide OQ) (by simp)
                have zt := (unhide ZQ).kept hk
                clear hk RQ OQ ZQ x0 x1 x2 x3 x4 x5
                have OT := hide o1
                have ZT := hide zt
                have x1 := obj_cell o1 1
                clear o1 zt
                go_wp2_with fail
                refine (sacked _ _ _ _ _ _ _ _ _ _ _ (unhide RT).s).mono ?_
                rintro e wt2 ⟨rfl, hk⟩
                have RU := hide ((unhide RT).next hk)
                have o1 := hk.obj (unhide OT) (by simp)
                have zt := (unhide ZT).kept hk
                clear hk RT OT ZT x1
                have ZU := hide zt
                have x1 := obj_cell o1 1
                clear o1 zt
                have hord := (unhide RU).s.ord
                have hsum := (unhide RU).s.sum
                have hty := (unhide RU).ty
                have hkl := (unhide RU).s.kl
                have g3 : IntKind.u64.wrap ((ty : Int) - (ac : Int)) = (ks.length : Int) := by have e := IntKind.wrap_u64 ((ty : Int) - (ac : Int)); omega
                have HSUM := hide hsum
                have HORD := hide hord
                clear hsum hord
                have hcb := (unhide ZU).by_.2.1
                have hcm := (unhide ZU).by_.2.2.1
                have hm9 : z.n ≤ 9223372036854775807 := by unfold maxLen at hcm; omega
                have HCM := hide hcm
                clear hcm
                by_cases h20 : z.n ≤ 20
                · go_wp2_with fail
                  by_cases h0 : z.n = 0
                  · rw [h0]
                    refine (stype_none sg _ _ _).mono ?_
                    rintro e wt3 ⟨rfl, rfl⟩
                    have RV := hide ((unhide RU).upto)
                    clear RU
                    by_cases hf : ks.length = 64
                    · have g6 : ((ks.length : Int) == 64) = true := by simp; omega
                      go_wp2_with fail
                      go_meet
                      exact ⟨_, _, _, _, _, _, _, unhide RV⟩
                    · have g6 : ((ks.length : Int) == 64) = false := by simp; omega
                      go_wp2_with fail
                      go_meet
                      exact ⟨_, _, _, _, _, _, _, unhide RV⟩
                  · by_cases h8 : z.n ≤ 8
                    · by_cases h64 : ks.length < 64
                      · refine (stype_yes sg _ _ _ _ _ _ _ _ _ _ _ _ _ _ (unhide RU).s (unhide ZU).by_.1 (by omega) h8 h64 (by omega)).mono ?_
                        rintro e wt3 ⟨rfl, hs, hk⟩
                        have RV := hide (BdR.typed (unhide RU) hs hk (unhide HZ))
                        clear RU
                        have g6 : ((ks.length : Int) == 64) = false := by simp; omega
                        go_wp2_with fail
                        go_meet
                        exact ⟨_, _, _, _, _, _, _, unhide RV⟩
                      · refine (stype_full sg _ _ _ _ _ _ _ _ _ _ _ _ _ _ (unhide RU).s (unhide ZU).by_.1 (by omega) h8 (by omega)).mono ?_
                        rintro e wt3 ⟨rfl, hk⟩
                        have RV := hide (((unhide RU).next hk).upto)
                        clear RU
                        by_cases hf : ks.length = 64
                        · have g6 : ((ks.length : Int) == 64) = true := by simp; omega
                          go_wp2_with fail
                          go_meet
                          exact ⟨_, _, _, _, _, _, _, unhide RV⟩
                        · have g6 : ((ks.length : Int) == 64) = false := by simp; omega
                          go_wp2_with fail
                          go_meet
                          exact ⟨_, _, _, _, _, _, _, unhide RV⟩
                    · refine (stype_long sg _ _ _ _ (by omega) (by unfold maxLen; omega)).mono ?_
                      rintro e wt3 ⟨rfl, rfl⟩
                      have RV := hide ((unhide RU).upto)
                      clear RU
                      by_cases hf : ks.length = 64
                      · have g6 : ((ks.length : Int) == 64) = true := by simp; omega
                        go_wp2_with fail
                        go_meet
                        exact ⟨_, _, _, _, _, _, _, unhide RV⟩
                      · have g6 : ((ks.length : Int) == 64) = false := by simp; omega
                        go_wp2_with fail
                        go_meet
                        exact ⟨_, _, _, _, _, _, _, unhide RV⟩
                · have im4 : (20 : Int) ≤ (z.c : Int) := by omega
                  go_wp2_with fail
                  refine (stype_long sg _ _ _ _ (by omega) (by unfold maxLen; omega)).mono ?_
                  rintro e wt3 ⟨rfl, rfl⟩
                  have RV := hide ((unhide RU).upto)
                  clear RU
                  by_cases hf : ks.length = 64
                  · have g6 : ((ks.length : Int) == 64) = true := by simp; omega
                    go_wp2_with fail
                    go_meet
                    exact ⟨_, _, _, _, _, _, _, unhide RV⟩
                  · have g6 : ((ks.length : Int) == 64) = false := by simp; omega
                    go_wp2_with fail
                    go_meet
                    exact ⟨_, _, _, _, _, _, _, unhide RV⟩
            · by_cases k5 : z.kind = 5
              · as_aux_lemma =>
                  rw [k5] at x0
                  go_wp2_with fail
                  refine (styped _ _ _ _ _ _ _ _ _ _ _ (unhide RQ).s).mono ?_
                  rintro e wt1 ⟨rfl, hk⟩
                  have RT := hide ((unhide RQ).next hk)
                  have o1 := hk.obj (unhide OQ) (by simp)
                  have zt := (unhide ZQ).kept hk
                  clear hk RQ OQ ZQ x0 x1 x2 x3 x4 x5
                  have OT := hide o1
                  have ZT := hide zt
                  have x1 := obj_cell o1 1
                  clear o1 zt
                  go_wp2_with fail
                  refine (sacked _ _ _ _ _ _ _ _ _ _ _ (unhide RT).s).mono ?_
                  rintro e wt2 ⟨rfl, hk⟩
                  have RU := hide ((unhide RT).next hk)
                  have o1 := hk.obj (unhide OT) (by simp)
                  have zt := (unhide ZT).kept hk
                  clear hk RT OT ZT x1
                  have ZU := hide zt
                  have x1 := obj_cell o1 1
                  clear o1 zt
                  have hord := (unhide RU).s.ord
                  have hsum := (unhide RU).s.sum
                  have hty := (unhide RU).ty
                  have hkl := (unhide RU).s.kl
                  have g3 : IntKind.u64.wrap ((ty : Int) - (ac : Int)) = (ks.length : Int) := by have e := IntKind.wrap_u64 ((ty : Int) - (ac : Int)); omega
                  have HSUM := hide hsum
                  have HORD := hide hord
                  clear hsum hord
                  have hcb := (unhide ZU).by_.2.1
                  have hcm := (unhide ZU).by_.2.2.1
                  have hm9 : z.n ≤ 9223372036854775807 := by unfold maxLen at hcm; omega
                  have HCM := hide hcm
                  clear hcm
                  by_cases h20 : z.n ≤ 20
                  · go_wp2_with fail
                    by_cases h0 : z.n = 0
                    · rw [h0]
                      refine (stype_none sg _ _ _).mono ?_
                      rintro e wt3 ⟨rfl, rfl⟩
                      have RV := hide ((unhide RU).upto)
                      clear RU
                      by_cases hf : ks.length = 64
                      · have g6 : ((ks.length : Int) == 64) = true := by simp; omega
                        go_wp2_with fail
                        go_meet
                        exact ⟨_, _, _, _, _, _, _, unhide RV⟩
                      · have g6 : ((ks.length : Int) == 64) = false := by simp; omega
                        go_wp2_with fail
                        go_meet
                        exact ⟨_, _, _, _, _, _, _, unhide RV⟩
                    · by_cases h8 : z.n ≤ 8
                      · by_cases h64 : ks.length < 64
                        · refine (stype_yes sg _ _ _ _ _ _ _ _ _ _ _ _ _ _ (unhide RU).s (unhide ZU).by_.1 (by omega) h8 h64 (by omega)).mono ?_
                          rintro e wt3 ⟨rfl, hs, hk⟩
                          have RV := hide (BdR.typed (unhide RU) hs hk (unhide HZ))
                          clear RU
                          have g6 : ((ks.length : Int) == 64) = false := by simp; omega
                          go_wp2_with fail
                          go_meet
                          exact ⟨_, _, _, _, _, _, _, unhide RV⟩
                        · refine (stype_full sg _ _ _ _ _ _ _ _ _ _ _ _ _ _ (unhide RU).s (unhide ZU).by_.1 (by omega) h8 (by omega)).mono ?_
                          rintro e wt3 ⟨rfl, hk⟩
                          have RV := hide (((unhide RU).next hk).upto)
                          clear RU
                          by_cases hf : ks.length = 64
                          · have g6 : ((ks.length : Int) == 64) = true := by simp; omega
                            go_wp2_with fail
                            go_meet
                            exact ⟨_, _, _, _, _, _, _, unhide RV⟩
                          · have g6 : ((ks.length : Int) == 64) = false := by simp; omega
                            go_wp2_with fail
                            go_meet
                            exact ⟨_, _, _, _, _, _, _, unhide RV⟩
                      · refine (stype_long sg _ _ _ _ (by omega) (by unfold maxLen; omega)).mono ?_
                        rintro e wt3 ⟨rfl, rfl⟩
                        have RV := hide ((unhide RU).upto)
                        clear RU
                        by_cases hf : ks.length = 64
                        · have g6 : ((ks.length : Int) == 64) = true := by simp; omega
                          go_wp2_with fail
                          go_meet
                          exact ⟨_, _, _, _, _, _, _, unhide RV⟩
                        · have g6 : ((ks.length : Int) == 64) = false := by simp; omega
                          go_wp2_with fail
                          go_meet
                          exact ⟨_, _, _, _, _, _, _, unhide RV⟩
                  · have im4 : (20 : Int) ≤ (z.c : Int) := by omega
                    go_wp2_with fail
                    refine (stype_long sg _ _ _ _ (by omega) (by unfold maxLen; omega)).mono ?_
                    rintro e wt3 ⟨rfl, rfl⟩
                    have RV := hide ((unhide RU).upto)
                    clear RU
                    by_cases hf : ks.length = 64
                    · have g6 : ((ks.length : Int) == 64) = true := by simp; omega
                      go_wp2_with fail
                      go_meet
                      exact ⟨_, _, _, _, _, _, _, unhide RV⟩
                    · have g6 : ((ks.length : Int) == 64) = false := by simp; omega
                      go_wp2_with fail
                      go_meet
                      exact ⟨_, _, _, _, _, _, _, unhide RV⟩
              · by_cases k1 : z.kind = 1
                · as_aux_lemma =>
                    rw [k1] at x0
                    obtain ⟨N, hN, hNb⟩ : ∃ N : Nat, z.N = (N : Int) ∧ True := ⟨z.N.toNat, by have := (unhide ZQ).N; omega, trivial⟩
                    clear hNb
                    rw [hN] at x2
                    have hord := (unhide RQ).s.ord
                    have hsum := (unhide RQ).s.sum
                    have hty := (unhide RQ).ty
                    by_cases hy : ac ≤ N ∧ N ≤ se
                    · obtain ⟨hy1, hy2⟩ := hy
                      have HY1 := hide hy1
                      have HY2 := hide hy2
                      have HTY : Hid (ty ≤ 1000000) := hide (by omega)
                      clear hN hord hsum hty hy1 hy2
                      go_wp2_with fail
                      refine (sechoed_yes sg _ _ _ _ _ _ N _ _ _ _ (unhide RQ).s (unhide HY1) (unhide HY2) (unhide HTY)).mono ?_
                      rintro e wt1 ⟨rfl, hs, hk⟩
                      have RV := hide (BdR.mk (j := j + 1) (knext (unhide RQ).kept hk (by have := unhide HZ; simp; omega)) hs (unhide RQ).la (by have := (unhide RQ).ty; omega))
                      clear hs hk RQ
                      go_wp2_with fail
                      go_meet
                      exact ⟨_, _, _, _, _, _, _, unhide RV⟩
                    · have hno : (se : Int) < (N : Int) ∨ (N : Int) < (ac : Int) := by omega
                      have HNO := hide hno
                      clear hN hord hsum hty hy hno
                      go_wp2_with fail
                      refine (sechoed_no sg _ _ _ _ _ _ _ _ _ _ _ (unhide RQ).s (unhide HNO)).mono ?_
                      rintro e wt1 ⟨rfl, rfl⟩
                      have RV := hide (unhide RQ).upto
                      clear RQ
                      go_wp2_with fail
                      go_meet
                      exact ⟨_, _, _, _, _, _, _, unhide RV⟩
                · by_cases k2 : z.kind = 2
                  · as_aux_lemma =>
                      rw [k2] at x0
                      go_wp2_with fail
                      refine (sask sg _ _ _ _ _ _ _ _ _ _ (unhide RQ).s).mono ?_
                      rintro e wt1 ⟨rfl, hs, hk⟩
                      have RV := hide (BdR.mk (j := j + 1) (knext (unhide RQ).kept hk (by have := unhide HZ; simp; omega)) hs (unhide RQ).la (by have := (unhide RQ).ty; omega))
                      clear hs hk RQ
                      go_wp2_with fail
                      go_meet
                      exact ⟨_, _, _, _, _, _, _, unhide RV⟩
                  · by_cases k34 : z.kind = 3 ∨ z.kind = 4
                    · rcases k34 with k3 | k3
                      · as_aux_lemma =>
                          rw [k3] at x0
                          have HNO := hide (unhide ZQ).now
                          have HNN := hide (unhide ZQ).N
                          have HTY : Hid (ty ≤ 200) := hide (by have := (unhide RQ).ty; omega)
                          by_cases hok : (okSide z.rows && okSide z.cols) = true
                          · have hok2 : okSide z.rows = true ∧ okSide z.cols = true := by simpa using hok
                            have HOK := hide hok2
                            clear hok hok2
                            go_wp2_with fail
                            refine (gram_any sg _ _ _ _ _ _ _ _ _ _ _ _ _ _ (unhide RQ).s (unhide HNO) (by have := unhide HTY; omega) (unhide HOK).1 (unhide HOK).2).mono ?_
                            rintro e wt1 ⟨A5, cp5, rfl, hkr, hs, hk⟩
                            have hz := unhide HZ
                            have R1 := hide (BdR.mk (j := j + 1) (knext (unhide RQ).kept hk (by simp; omega)) hs (unhide HNO) (by have := (unhide RQ).ty; omega))
                            have hbq := heap_lt (unhide OQ)
                            have o1 := hk.obj (unhide OQ) (by have h1 := (unhide RQ).kept.size; have h2 := unhide HBQ; simp; omega)
                            have KL1 := hide (klen_krows hkr hs.key)
                            clear hk hkr hs hz RQ OQ ZQ x0 x1 x2 x3 x4 x5 hbq
                            go_upto_region 22 with (fail)
                            generalize hst : sat z.now 1 = st at *
                            have ka : Kept [] wt1 (wt1.alloc (GmO z.N st z.rows z.cols ((ac : Int) + 1) A5 ks.length cp5)) := (Kept.refl [] wt1).alloc _
                            have hg : (wt1.alloc (GmO z.N st z.rows z.cols ((ac : Int) + 1) A5 ks.length cp5)).heap[wt1.heap.size]? = some (GmO z.N st z.rows z.cols ((ac : Int) + 1) A5 ks.length cp5) := obj_new _ _
                            change Code.wp _ _ _ _ (wt1.alloc (GmO z.N st z.rows z.cols ((ac : Int) + 1) A5 ks.length cp5))
                            generalize wt1.alloc (GmO z.N st z.rows z.cols ((ac : Int) + 1) A5 ks.length cp5) = wu at *
                            generalize wt1.heap.size = b8 at *
                            have RU := hide ((unhide R1).next ka)
                            have KLU := hide ((unhide KL1).kept ka)
                            have o2 := ka.obj o1 (by simp)
                            have HSm : Hid (∀ w', Kept [] wu w' → (Kept [] wu w' ∧ w'.cell? ⟨bq, 2, none⟩ = some (.int .u64 z.N) ∧ w'.cell? ⟨bq, 3, none⟩ = some (.int .u64 z.now) ∧ w'.cell? ⟨b8, 0, none⟩ = some (.int .u64 z.N) ∧ w'.cell? ⟨b8, 1, none⟩ = some (.int .u64 st) ∧ w'.cell? ⟨b8, 2, none⟩ = some (.int .i64 z.rows) ∧ w'.cell? ⟨b8, 3, none⟩ = some (.int .i64 z.cols) ∧ w'.cell? ⟨b8, 4, none⟩ = some (.int .u64 ((ac : Int) + 1)) ∧ w'.cell? ⟨b8, 5, none⟩ = some (.slice A5 ks.length cp5))) :=
                              hide fun w' k => ⟨k, obj_cell (k.obj o2 (by simp)) 2, obj_cell (k.obj o2 (by simp)) 3, obj_cell (k.obj hg (by simp)) 0, obj_cell (k.obj hg (by simp)) 1, obj_cell (k.obj hg (by simp)) 2, obj_cell (k.obj hg (by simp)) 3, obj_cell (k.obj hg (by simp)) 4, obj_cell (k.obj hg (by simp)) 5⟩
                            clear ka hg o1 o2 R1 KL1 hst
                            have hord := (unhide RU).s.ord
                            have hsum := (unhide RU).s.sum
                            have hkl := (unhide RU).s.kl
                            have hr0 : 0 ≤ z.N.tmod 100 ∧ z.N.tmod 100 < 100 := by
                              have h0 := (unhide HNN).1
                              rw [Int.tmod_eq_emod_of_nonneg h0]
                              omega
                            obtain ⟨q, hq⟩ : ∃ q, q = z.N.tmod 100 := ⟨_, rfl⟩
                            rw [← hq] at hr0
                            have hq2 : z.N.tmod 100 = q := hq.symm
                            have w1 : IntKind.u64.wrap (1 + q) = 1 + q := by have e := IntKind.wrap_u64 (1 + q); omega
                            have w2 : IntKind.u64.wrap ((ac : Int) + 1) = (ac : Int) + 1 := by have e := IntKind.wrap_u64 ((ac : Int) + 1); have := unhide HTY; omega
                            have hdue : dueB ks.length ty ty z.now true false z.now (1 + q) = false := by simp [dueB, lateB]; intros; omega
                            have hlast : (ac : Int) + 1 - 1 + (ks.length : Int) = (ty : Int) := by omega
                            have HO1 : Hid (1 ≤ (ac : Int) + 1) := hide (by omega)
                            have HO2 : Hid ((ac : Int) + 1 ≤ 1000000) := hide (by have := unhide HTY; omega)
                            have HLA := hide hlast
                            have HDUE := hide hdue
                            have HORD := hide hord
                            have HSUM := hide hsum
                            have HR0 := hide hr0
                            clear hlast hdue hord hsum hr0 hq
                            go_region_held3 (fun w' => Kept [] wu w' ∧ w'.cell? ⟨bq, 2, none⟩ = some (.int .u64 z.N) ∧ w'.cell? ⟨bq, 3, none⟩ = some (.int .u64 z.now) ∧ w'.cell? ⟨b8, 0, none⟩ = some (.int .u64 z.N) ∧ w'.cell? ⟨b8, 1, none⟩ = some (.int .u64 st) ∧ w'.cell? ⟨b8, 2, none⟩ = some (.int .i64 z.rows) ∧ w'.cell? ⟨b8, 3, none⟩ = some (.int .i64 z.cols) ∧ w'.cell? ⟨b8, 4, none⟩ = some (.int .u64 ((ac : Int) + 1)) ∧ w'.cell? ⟨b8, 5, none⟩ = some (.slice A5 ks.length cp5))
                              (first | exact (unhide HSm) _ ((Kept.refl [] _).drew) | exact (unhide HSm) _ (by assumption))
                              (first
                                | (go_at_call 71; refine (check_okI _ _ _ _ _ _ _ _ _ (unhide HOK).1 (unhide HOK).2 (unhide HO1) (unhide HO2) hkl ((unhide KLU).kept ((Kept.refl [] _).drew))).mono ?_; rintro e wv1 ⟨rfl, hk⟩; have kk1 := ((Kept.refl [] wu).drew).trans hk (by simp); clear hk)
                                | (go_at_call 72; refine (due_any sg _ _ _ _ _ _ _ _ _ _ _ _ ((unhide RU).next kk1).s (unhide HNO) (unhide HNO)).mono ?_; rw [unhide HDUE]; rintro e wv2 ⟨rfl, hk⟩; have kk2 := kk1.trans hk (by simp); clear hk)
                                | (go_at_call 69; refine (sacked sg _ _ _ _ _ _ _ _ _ _ ((unhide RU).next kk2).s).mono ?_; rintro e wv3 ⟨rfl, hk⟩; have kk3 := kk2.trans hk (by simp); clear hk)
                                | (go_at_call 67; (first | refine (last_ok _ _ _ _ _ _ _ _ _ (unhide HOK).1 (unhide HOK).2 (unhide HO1) (unhide HO2) hkl ((unhide KLU).kept kk5)).mono ?_ | refine (last_ok _ _ _ _ _ _ _ _ _ (unhide HOK).1 (unhide HOK).2 (unhide HO1) (unhide HO2) hkl ((unhide KLU).kept kk3)).mono ?_); rw [unhide HLA]; rintro e wv4 ⟨rfl, hk⟩; (first | have kk4 := kk5.trans hk (by simp) | have kk4 := kk3.trans hk (by simp)); clear hk)
                                | (go_at_call 62; (first | refine (styped sg _ _ _ _ _ _ _ _ _ _ ((unhide RU).next kk4).s).mono ?_ | refine (styped sg _ _ _ _ _ _ _ _ _ _ ((unhide RU).next kk3).s).mono ?_); rintro e wv5 ⟨rfl, hk⟩; (first | have kk5 := kk4.trans hk (by simp) | have kk5 := kk3.trans hk (by simp)); clear hk))
                            · have RV := hide ((unhide RU).next kk5)
                              go_wp2_with fail
                              go_meet
                              exact ⟨_, _, _, _, _, _, _, unhide RV⟩
                          · have hok2 : (okSide z.rows && okSide z.cols) = false := by simpa using hok
                            have HOK := hide hok2
                            clear hok hok2
                            go_wp2_with fail
                            refine (gram_size sg _ _ _ _ _ _ _ _ _ _ _ _ _ _ (unhide RQ).s (unhide HNO) (by have := unhide HTY; omega) (unhide HOK)).mono ?_
                            rintro e wt1 ⟨rfl, hs, hk⟩
                            have RV := hide (BdR.mk (j := j + 1) (knext (unhide RQ).kept hk (by simp)) hs (unhide RQ).la (by have := (unhide RQ).ty; omega))
                            clear hs hk RQ OQ ZQ x0 x1 x2 x3 x4 x5
                            go_upto_region 22 with (fail)
                            have ka := fun o => (Kept.refl [] wt1).alloc o
                            have RW := hide ((unhide RV).next (ka (GmO 0 0 0 0 0 none 0 0)))
                            change Code.wp _ _ _ _ (wt1.alloc (GmO 0 0 0 0 0 none 0 0))
                            generalize wt1.alloc (GmO 0 0 0 0 0 none 0 0) = wu at *
                            clear ka RV
                            go_quiet (fail)
                            have RX := hide ((unhide RW).next ((Kept.refl [] wu).drewN nq))
                            go_wp2_with fail
                            go_meet
                            exact ⟨_, _, _, _, _, _, _, unhide RX⟩
                      · as_aux_lemma =>
                          rw [k3] at x0
                          have HNO := hide (unhide ZQ).now
                          have HNN := hide (unhide ZQ).N
                          have HTY : Hid (ty ≤ 200) := hide (by have := (unhide RQ).ty; omega)
                          by_cases hok : (okSide z.rows && okSide z.cols) = true
                          · have hok2 : okSide z.rows = true ∧ okSide z.cols = true := by simpa using hok
                            have HOK := hide hok2
                            clear hok hok2
                            go_wp2_with fail
                            refine (gram_any sg _ _ _ _ _ _ _ _ _ _ _ _ _ _ (unhide RQ).s (unhide HNO) (by have := unhide HTY; omega) (unhide HOK).1 (unhide HOK).2).mono ?_
                            rintro e wt1 ⟨A5, cp5, rfl, hkr, hs, hk⟩
                            have hz := unhide HZ
                            have R1 := hide (BdR.mk (j := j + 1) (knext (unhide RQ).kept hk (by simp; omega)) hs (unhide HNO) (by have := (unhide RQ).ty; omega))
                            have hbq := heap_lt (unhide OQ)
                            have o1 := hk.obj (unhide OQ) (by have h1 := (unhide RQ).kept.size; have h2 := unhide HBQ; simp; omega)
                            have KL1 := hide (klen_krows hkr hs.key)
                            clear hk hkr hs hz RQ OQ ZQ x0 x1 x2 x3 x4 x5 hbq
                            go_upto_region 22 with (fail)
                            generalize hst : sat z.now 1 = st at *
                            have ka : Kept [] wt1 (wt1.alloc (GmO z.N st z.rows z.cols ((ac : Int) + 1) A5 ks.length cp5)) := (Kept.refl [] wt1).alloc _
                            have hg : (wt1.alloc (GmO z.N st z.rows z.cols ((ac : Int) + 1) A5 ks.length cp5)).heap[wt1.heap.size]? = some (GmO z.N st z.rows z.cols ((ac : Int) + 1) A5 ks.length cp5) := obj_new _ _
                            change Code.wp _ _ _ _ (wt1.alloc (GmO z.N st z.rows z.cols ((ac : Int) + 1) A5 ks.length cp5))
                            generalize wt1.alloc (GmO z.N st z.rows z.cols ((ac : Int) + 1) A5 ks.length cp5) = wu at *
                            generalize wt1.heap.size = b8 at *
                            have RU := hide ((unhide R1).next ka)
                            have KLU := hide ((unhide KL1).kept ka)
                            have o2 := ka.obj o1 (by simp)
                            have HSm : Hid (∀ w', Kept [] wu w' → (Kept [] wu w' ∧ w'.cell? ⟨bq, 2, none⟩ = some (.int .u64 z.N) ∧ w'.cell? ⟨bq, 3, none⟩ = some (.int .u64 z.now) ∧ w'.cell? ⟨b8, 0, none⟩ = some (.int .u64 z.N) ∧ w'.cell? ⟨b8, 1, none⟩ = some (.int .u64 st) ∧ w'.cell? ⟨b8, 2, none⟩ = some (.int .i64 z.rows) ∧ w'.cell? ⟨b8, 3, none⟩ = some (.int .i64 z.cols) ∧ w'.cell? ⟨b8, 4, none⟩ = some (.int .u64 ((ac : Int) + 1)) ∧ w'.cell? ⟨b8, 5, none⟩ = some (.slice A5 ks.length cp5))) :=
                              hide fun w' k => ⟨k, obj_cell (k.obj o2 (by simp)) 2, obj_cell (k.obj o2 (by simp)) 3, obj_cell (k.obj hg (by simp)) 0, obj_cell (k.obj hg (by simp)) 1, obj_cell (k.obj hg (by simp)) 2, obj_cell (k.obj hg (by simp)) 3, obj_cell (k.obj hg (by simp)) 4, obj_cell (k.obj hg (by simp)) 5⟩
                            clear ka hg o1 o2 R1 KL1 hst
                            have hord := (unhide RU).s.ord
                            have hsum := (unhide RU).s.sum
                            have hkl := (unhide RU).s.kl
                            have hr0 : 0 ≤ z.N.tmod 100 ∧ z.N.tmod 100 < 100 := by
                              have h0 := (unhide HNN).1
                              rw [Int.tmod_eq_emod_of_nonneg h0]
                              omega
                            obtain ⟨q, hq⟩ : ∃ q, q = z.N.tmod 100 := ⟨_, rfl⟩
                            rw [← hq] at hr0
                            have hq2 : z.N.tmod 100 = q := hq.symm
                            have w1 : IntKind.u64.wrap (1 + q) = 1 + q := by have e := IntKind.wrap_u64 (1 + q); omega
                            have w2 : IntKind.u64.wrap ((ac : Int) + 1) = (ac : Int) + 1 := by have e := IntKind.wrap_u64 ((ac : Int) + 1); have := unhide HTY; omega
                            have hdue : dueB ks.length ty ty z.now true false z.now (1 + q) = false := by simp [dueB, lateB]; intros; omega
                            have hlast : (ac : Int) + 1 - 1 + (ks.length : Int) = (ty : Int) := by omega
                            have HO1 : Hid (1 ≤ (ac : Int) + 1) := hide (by omega)
                            have HO2 : Hid ((ac : Int) + 1 ≤ 1000000) := hide (by have := unhide HTY; omega)
                            have HLA := hide hlast
                            have HDUE := hide hdue
                            have HORD := hide hord
                            have HSUM := hide hsum
                            have HR0 := hide hr0
                            clear hlast hdue hord hsum hr0 hq
                            go_region_held3 (fun w' => Kept [] wu w' ∧ w'.cell? ⟨bq, 2, none⟩ = some (.int .u64 z.N) ∧ w'.cell? ⟨bq, 3, none⟩ = some (.int .u64 z.now) ∧ w'.cell? ⟨b8, 0, none⟩ = some (.int .u64 z.N) ∧ w'.cell? ⟨b8, 1, none⟩ = some (.int .u64 st) ∧ w'.cell? ⟨b8, 2, none⟩ = some (.int .i64 z.rows) ∧ w'.cell? ⟨b8, 3, none⟩ = some (.int .i64 z.cols) ∧ w'.cell? ⟨b8, 4, none⟩ = some (.int .u64 ((ac : Int) + 1)) ∧ w'.cell? ⟨b8, 5, none⟩ = some (.slice A5 ks.length cp5))
                              (first | exact (unhide HSm) _ ((Kept.refl [] _).drew) | exact (unhide HSm) _ (by assumption))
                              (first
                                | (go_at_call 71; refine (check_okI _ _ _ _ _ _ _ _ _ (unhide HOK).1 (unhide HOK).2 (unhide HO1) (unhide HO2) hkl ((unhide KLU).kept ((Kept.refl [] _).drew))).mono ?_; rintro e wv1 ⟨rfl, hk⟩; have kk1 := ((Kept.refl [] wu).drew).trans hk (by simp); clear hk)
                                | (go_at_call 72; refine (due_any sg _ _ _ _ _ _ _ _ _ _ _ _ ((unhide RU).next kk1).s (unhide HNO) (unhide HNO)).mono ?_; rw [unhide HDUE]; rintro e wv2 ⟨rfl, hk⟩; have kk2 := kk1.trans hk (by simp); clear hk)
                                | (go_at_call 69; refine (sacked sg _ _ _ _ _ _ _ _ _ _ ((unhide RU).next kk2).s).mono ?_; rintro e wv3 ⟨rfl, hk⟩; have kk3 := kk2.trans hk (by simp); clear hk)
                                | (go_at_call 67; (first | refine (last_ok _ _ _ _ _ _ _ _ _ (unhide HOK).1 (unhide HOK).2 (unhide HO1) (unhide HO2) hkl ((unhide KLU).kept kk5)).mono ?_ | refine (last_ok _ _ _ _ _ _ _ _ _ (unhide HOK).1 (unhide HOK).2 (unhide HO1) (unhide HO2) hkl ((unhide KLU).kept kk3)).mono ?_); rw [unhide HLA]; rintro e wv4 ⟨rfl, hk⟩; (first | have kk4 := kk5.trans hk (by simp) | have kk4 := kk3.trans hk (by simp)); clear hk)
                                | (go_at_call 62; (first | refine (styped sg _ _ _ _ _ _ _ _ _ _ ((unhide RU).next kk4).s).mono ?_ | refine (styped sg _ _ _ _ _ _ _ _ _ _ ((unhide RU).next kk3).s).mono ?_); rintro e wv5 ⟨rfl, hk⟩; (first | have kk5 := kk4.trans hk (by simp) | have kk5 := kk3.trans hk (by simp)); clear hk))
                            · have RV := hide ((unhide RU).next kk5)
                              go_wp2_with fail
                              go_meet
                              exact ⟨_, _, _, _, _, _, _, unhide RV⟩
                          · have hok2 : (okSide z.rows && okSide z.cols) = false := by simpa using hok
                            have HOK := hide hok2
                            clear hok hok2
                            go_wp2_with fail
                            refine (gram_size sg _ _ _ _ _ _ _ _ _ _ _ _ _ _ (unhide RQ).s (unhide HNO) (by have := unhide HTY; omega) (unhide HOK)).mono ?_
                            rintro e wt1 ⟨rfl, hs, hk⟩
                            have RV := hide (BdR.mk (j := j + 1) (knext (unhide RQ).kept hk (by simp)) hs (unhide RQ).la (by have := (unhide RQ).ty; omega))
                            clear hs hk RQ OQ ZQ x0 x1 x2 x3 x4 x5
                            go_upto_region 22 with (fail)
                            have ka := fun o => (Kept.refl [] wt1).alloc o
                            have RW := hide ((unhide RV).next (ka (GmO 0 0 0 0 0 none 0 0)))
                            change Code.wp _ _ _ _ (wt1.alloc (GmO 0 0 0 0 0 none 0 0))
                            generalize wt1.alloc (GmO 0 0 0 0 0 none 0 0) = wu at *
                            clear ka RV
                            go_quiet (fail)
                            have RX := hide ((unhide RW).next ((Kept.refl [] wu).drewN nq))
                            go_wp2_with fail
                            go_meet
                            exact ⟨_, _, _, _, _, _, _, unhide RX⟩
                    · as_aux_lemma =>
                        have b0 : (z.kind == 0) = false := by simpa using k0
                        have b1 : (z.kind == 1) = false := by simpa using k1
                        have b2 : (z.kind == 2) = false := by simpa using k2
                        have b3 : (z.kind == 3) = false := by simp; omega
                        have b4 : (z.kind == 4) = false := by simp; omega
                        have b5 : (z.kind == 5) = false := by simpa using k5
                        clear k0 k1 k2 k34 k5
                        go_wp2_with fail
                        go_meet
                        exact ⟨_, _, _, _, _, _, _, (unhide RQ).upto⟩
          case rest =>
            as_aux_lemma =>
              clear x0 x1 x2 x3 x4 x5 RQ OQ ZQ
              obtain ⟨ks, ty, se, ac, la, be, ask, hR⟩ := hcut
              have hs := hR.s
              have KK := hide hR.kept
              have LA := hide hR.la
              have TY := hide hR.ty
              have hord := hs.ord
              have hsum := hs.sum
              have hkl := hs.kl
              have g1 : ¬ se < ac := by omega
              have g2 : ¬ ty < se := by omega
              have hTJ := hR.ty
              have g3 : IntKind.u64.wrap ((ty : Int) - (ac : Int)) = (ks.length : Int) := by have e := IntKind.wrap_u64 ((ty : Int) - (ac : Int)); omega
              have g4 : ¬ 64 < ks.length := by omega
              have g5 : IntKind.u64.wrap (ks.length : Int) = (ks.length : Int) := by have e := IntKind.wrap_u64 (ks.length : Int); omega
              have HORD := hide hord
              have HSUM := hide hsum
              have S0 := hide hs
              clear hR hs hord hsum hTJ
              go_wp2_with fail
              refine (sacked _ _ _ _ _ _ _ _ _ _ _ (unhide S0)).mono ?_
              rintro e wy1 ⟨rfl, hk⟩
              have S1 := hide ((unhide S0).next hk (by simp) (by simp) (by simp))
              have K1 := hide ((unhide KK).trans hk (by simp))
              clear hk KK S0
              go_wp2_with fail
              refine (ssent _ _ _ _ _ _ _ _ _ _ _ (unhide S1)).mono ?_
              rintro e wy2 ⟨rfl, hk⟩
              have S2 := hide ((unhide S1).next hk (by simp) (by simp) (by simp))
              have K2 := hide ((unhide K1).trans hk (by simp))
              clear hk K1 S1
              go_wp2_with fail
              refine (ssent _ _ _ _ _ _ _ _ _ _ _ (unhide S2)).mono ?_
              rintro e wy3 ⟨rfl, hk⟩
              have S3 := hide ((unhide S2).next hk (by simp) (by simp) (by simp))
              have K3 := hide ((unhide K2).trans hk (by simp))
              clear hk K2 S2
              go_wp2_with fail
              refine (styped _ _ _ _ _ _ _ _ _ _ _ (unhide S3)).mono ?_
              rintro e wy4 ⟨rfl, hk⟩
              have S4 := hide ((unhide S3).next hk (by simp) (by simp) (by simp))
              have K4 := hide ((unhide K3).trans hk (by simp))
              clear hk K3 S3
              go_wp2_with fail
              refine (styped _ _ _ _ _ _ _ _ _ _ _ (unhide S4)).mono ?_
              rintro e wy5 ⟨rfl, hk⟩
              have S5 := hide ((unhide S4).next hk (by simp) (by simp) (by simp))
              have K5 := hide ((unhide K4).trans hk (by simp))
              clear hk K4 S4
              go_wp2_with fail
              refine (sacked _ _ _ _ _ _ _ _ _ _ _ (unhide S5)).mono ?_
              rintro e wy6 ⟨rfl, hk⟩
              have S6 := hide ((unhide S5).next hk (by simp) (by simp) (by simp))
              have K6 := hide ((unhide K5).trans hk (by simp))
              clear hk K5 S5
              go_wp2_with fail
              refine (swaiting sg _ _ _ _ _ _ _ _ _ _ (unhide S6)).mono ?_
              rintro e wy7 ⟨A5, cp5, rfl, hkr, hs, hk⟩
              have S7 := hide hs
              have K7 := hide (knext (unhide K6) hk (by simp))
              clear hkr hs hk K6 S6
              go_wp2_with fail
              refine (styped _ _ _ _ _ _ _ _ _ _ _ (unhide S7)).mono ?_
              rintro e wy8 ⟨rfl, hk⟩
              have S8 := hide ((unhide S7).next hk (by simp) (by simp) (by simp))
              have K8 := hide ((unhide K7).trans hk (by simp))
              clear hk K7 S7
              go_wp2_with fail
              refine (sacked _ _ _ _ _ _ _ _ _ _ _ (unhide S8)).mono ?_
              rintro e wy9 ⟨rfl, hk⟩
              have S9 := hide ((unhide S8).next hk (by simp) (by simp) (by simp))
              have K9 := hide ((unhide K8).trans hk (by simp))
              clear hk K8 S8
              go_wp2
              exact ⟨⟨j + 1, by omega, by omega, by go_num, ks, ty, se, ac, la, be, ask, unhide K9, unhide S9, unhide LA, unhide TY⟩, by simp [intOf]; omega⟩
        · go_wp2_with fail
          go_meet
          obtain ⟨ks, ty, se, ac, la, be, ask, hR⟩ := unhide HE
          exact ⟨ks, ty, se, ac, la, be, ask, hR.kept, hR.s, hR.la, by have := hR.ty; omega⟩
      · go_wp2_with fail
        go_meet
        obtain ⟨ks, ty, se, ac, la, be, ask, hR⟩ := unhide HE
        exact ⟨ks, ty, se, ac, la, be, ask, hR.kept, hR.s, hR.la, by have := hR.ty; omega⟩
  case rest =>
    obtain ⟨ks, ty, se, ac, la, be, ask, hR⟩ := hcut
    have K9 := hide hR.kept
    clear hR
    go_wp2_with fail
    refine (known19 _).mono ?_
    rintro e w9 ⟨rfl, hk9⟩
    have K10 := hide ((unhide K9).trans hk9 (by simp))
    clear hk9
    go_wp2
    go_ret
    exact ⟨rfl, unhide K10⟩
end Go.Proofs.Ytpdabmbjnmpgbaa
