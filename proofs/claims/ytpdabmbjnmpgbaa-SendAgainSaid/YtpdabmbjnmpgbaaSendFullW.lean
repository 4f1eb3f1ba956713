/-
  The walk of SendFull.
-/
import Derived.Test.YtpdabmbjnmpgbaaSkn
namespace Go.Proofs.Ytpdabmbjnmpgbaa
open Go.Conc Go.RowKit
set_option linter.unusedVariables false
set_option maxRecDepth 100000 in
theorem rem_nat (a : Int) (n : Nat) (hn : 0 < n) (h : n ≤ 1000) : ∃ k : Nat, wrap64 ((IntKind.u64.wrap a).tmod (n : Int)) = (k : Int) ∧ k < n := by
  have h0 : 0 ≤ IntKind.u64.wrap a := by have e := IntKind.wrap_u64 a; have := Int.emod_nonneg a (show (18446744073709551616 : Int) ≠ 0 by decide); omega
  rw [Int.tmod_eq_emod_of_nonneg h0]
  have h1 := Int.emod_nonneg (IntKind.u64.wrap a) (show (n : Int) ≠ 0 by omega)
  have h2 := Int.emod_lt_of_pos (IntKind.u64.wrap a) (show (0 : Int) < (n : Int) by omega)
  generalize IntKind.u64.wrap a % (n : Int) = r at *
  obtain ⟨k, rfl⟩ := Int.eq_ofNat_of_zero_le h1
  have hk : k < n := by omega
  exact ⟨k, by unfold wrap64; omega, hk⟩
/-- What a sender's loop of typed keys keeps. -/
structure FullR (W wr : World) (sg qg qc : Nat) (j : Nat) : Prop where
  kept : Kept [] W wr
  s : ∃ ks : List ByteArray, ks.length = min j 64 ∧ SS wr sg qg qc ks (min j 64) 0 0 0 false false
set_option maxRecDepth 100000 in
set_option maxHeartbeats 2000000 in
theorem walk_SendFull (W : World) (a0 : Int) (wa0 : (Lit.int .i64 a0).wf = true) (a1 : Int) (wa1 : (Lit.int .i64 a1).wf = true) : Calls Try.prog 13 #[.int .i64 a0, .int .i64 a1] W (SHolds W true) := by
  clear wa0 wa1
  obtain ⟨k, hk, hk70⟩ := rem_nat a0 71 (by omega) (by omega)
  simp only [Int.cast_ofNat_Int] at hk
  go_enter Try.func13, Try.ntmps13
  go_wp2_with fail
  refine (snew _).mono ?_
  rintro e w1 ⟨sg, rfl, hs1, hk1, hsz⟩
  have S1 := hide hs1
  have K1 := hide hk1
  have HZ := hide hsz
  clear hs1 hk1 hsz
  go_wp2_with fail
  simp only [hk]
  have HK := hide hk
  clear hk
  go_loopw [7, 8] (fun i e wr => ∃ j : Nat, j ≤ k ∧ i = .int .i64 j ∧ FullR W wr sg (W.heap.size + 1) W.heap.size j) (fun i _ _ => k - (intOf i).toNat)
  case atStart => exact ⟨0, Nat.zero_le _, rfl, ⟨unhide K1, [], rfl, unhide S1⟩⟩
  case round =>
    obtain ⟨j, hjk, rfl, hR⟩ := hrel
    have HR := hide hR
    clear hR
    by_cases hlt : j < k
    · by_cases h64 : j < 64
      · go_wp2_with fail
        obtain ⟨hkr, ks, hks, hss⟩ := unhide HR
        have kc : Kept [] wr (wr.alloc (.cells #[.int .u8 120] 5)) := (Kept.refl [] wr).alloc _
        refine (stype_yes sg _ _ _ _ _ _ _ _ _ _ _ _ _ _ (hss.next kc (by simp) (by simp) (by simp)) (byt_one _ _ _ _ (obj_new _ _)) (by omega) (by omega) (by omega) (by omega)).mono ?_
        rintro e w3 ⟨rfl, hs3, hk3⟩
        have hz := unhide HZ
        have R3 : Hid (FullR W w3 sg (W.heap.size + 1) W.heap.size (j + 1)) := hide ⟨knext (hkr.trans kc (by simp)) hk3 (by simp; omega), ks ++ [strOfNums [120]], by simp; omega, by rw [show min (j + 1) 64 = min j 64 + 1 by omega]; exact hs3⟩
        clear hs3 hk3 kc hss hks hkr hz
        go_wp2
        exact ⟨⟨j + 1, by omega, by go_num, unhide R3⟩, by simp [intOf]; omega⟩
      · go_wp2_with fail
        obtain ⟨hkr, ks, hks, hss⟩ := unhide HR
        have kc : Kept [] wr (wr.alloc (.cells #[.int .u8 120] 5)) := (Kept.refl [] wr).alloc _
        refine (stype_full sg _ _ _ _ _ _ _ _ _ _ _ _ _ _ (hss.next kc (by simp) (by simp) (by simp)) (byt_one _ _ _ _ (obj_new _ _)) (by omega) (by omega) (by omega)).mono ?_
        rintro e w3 ⟨rfl, hk3⟩
        have R3 : Hid (FullR W w3 sg (W.heap.size + 1) W.heap.size (j + 1)) := hide ⟨(hkr.trans kc (by simp)).trans hk3 (by simp), ks, by omega, by rw [show min (j + 1) 64 = min j 64 by omega]; exact (hss.next kc (by simp) (by simp) (by simp)).next hk3 (by simp) (by simp) (by simp)⟩
        clear hk3 kc hss hks hkr
        go_wp2
        exact ⟨⟨j + 1, by omega, by go_num, unhide R3⟩, by simp [intOf]; omega⟩
    · have hjk2 : j = k := by omega
      subst hjk2
      obtain ⟨hkr, ks, hks, hss⟩ := unhide HR
      obtain ⟨d, hd⟩ : ∃ d, d = min j 64 := ⟨_, rfl⟩
      rw [← hd] at hks hss
      have h64 : d ≤ 64 := by omega
      have HKR := hide hkr
      have HSS := hide hss
      have HKS := hide hks
      have HD := hide hd
      clear hkr hss hks hd HR
      go_upto_region 11 with (fail)
      go_cut [9] (fun s9 wx => s9 = .int .i64 (d : Int) ∧ wx = wr)
      case first =>
        by_cases hj : j ≤ 64
        · go_wp2_with fail
          go_meet
          exact ⟨by have := unhide HD; rw [show d = j by omega], rfl⟩
        · go_wp2_with fail
          go_meet
          exact ⟨by have := unhide HD; rw [show d = 64 by omega]; rfl, rfl⟩
      case rest =>
        obtain ⟨rfl, rfl⟩ := hcut
        clear HD hjk hlt hk70
        have hdw : IntKind.u64.wrap (d : Int) = (d : Int) := by have e := IntKind.wrap_u64 (d : Int); omega
        have HDW := hide hdw
        go_wp2_with fail
        refine (styped _ _ _ _ _ _ _ _ _ _ _ (unhide HSS)).mono ?_
        rintro e w2 ⟨rfl, hk2⟩
        have S2 := hide ((unhide HSS).next hk2 (by simp) (by simp) (by simp))
        have K2 := hide ((unhide HKR).trans hk2 (by simp))
        clear hk2 HSS HKR
        go_wp2_with fail
        refine (gram_any sg _ _ _ _ _ _ _ _ _ 1 0 1 1 _ (unhide S2) (by omega) (by omega) (by rfl) (by rfl)).mono ?_
        rintro e w7 ⟨A, cp, rfl, hkr, hs7, hk7⟩
        have hz := unhide HZ
        have S7 := hide hs7
        have K7 := hide (knext (unhide K2) hk7 (by simp; omega))
        clear hs7 hk7 hkr K2 S2 hz hdw
        go_upto_region 15 with (fail)
        obtain ⟨m, hm, hmd⟩ := rem_nat a1 (d + 1) (by omega) (by omega)
        have hdw : IntKind.u64.wrap ((d : Int) + 1) = (d : Int) + 1 := by have e := IntKind.wrap_u64 ((d : Int) + 1); omega
        go_upto_region 16 with (fail)
        rw [Int.natCast_add, Int.cast_ofNat_Int] at hm
        simp only [hm]
        have HM := hide hm
        clear hm hdw
        have hmw : IntKind.u64.wrap (m : Int) = (m : Int) := by have e := IntKind.wrap_u64 (m : Int); omega
        go_wp2_with fail
        refine (known19 _).mono ?_
        rintro e w8 ⟨rfl, hk8⟩
        have S8 := hide ((unhide S7).next hk8 (by simp) (by simp) (by simp))
        have K8 := hide ((unhide K7).trans hk8 (by simp))
        clear hk8 S7 K7
        go_wp2_with fail
        refine (sechoed_yes sg _ _ _ _ _ _ m _ _ _ _ (unhide S8) (by omega) (by omega) (by omega)).mono ?_
        rintro e w9 ⟨rfl, hs9, hk9⟩
        have hz := unhide HZ
        have S9 := hide hs9
        have K9 := hide (knext (unhide K8) hk9 (by simp; omega))
        clear hs9 hk9 K8 S8 hz
        go_wp2_with fail
        refine (swaiting sg _ _ _ _ _ _ _ _ _ _ (unhide S9)).mono ?_
        rintro e w10 ⟨A2, cp2, rfl, hkr, hs10, hk10⟩
        have hlen : (ks.drop (m - 0)).length = d - m := by have := unhide HKS; simp; omega
        rw [hlen]
        have HLEN := hide hlen
        have S10 := hide hs10
        have K10 := hide (knext (unhide K9) hk10 (by simp))
        clear hs10 hk10 K9 S9 hkr hlen
        have hsub : ((d - m : Nat) : Int) = (d : Int) - (m : Int) := by omega
        by_cases h6 : d - m < 64
        · have h7 : (d : Int) - (m : Int) < 64 := by omega
          have hdec : decide ((d : Int) - (m : Int) < 64) = true := by simp [h7]
          go_wp2_with fail
          have kc : Kept [] w10 (w10.alloc (.cells #[.int .u8 121] 5)) := (Kept.refl [] w10).alloc _
          refine (stype_yes sg _ _ _ _ _ _ _ _ _ _ _ _ _ _ ((unhide S10).next kc (by simp) (by simp) (by simp)) (byt_one _ _ _ _ (obj_new _ _)) (by omega) (by omega) (by have := unhide HLEN; omega) (by omega)).mono ?_
          rintro e w11 ⟨rfl, hs11, hk11⟩
          have hz := unhide HZ
          have K11 := hide (knext ((unhide K10).trans kc (by simp)) hk11 (by simp; omega))
          clear hs11 hk11 kc K10 S10 hz
          go_wp2
          go_ret
          exact ⟨by simp, unhide K11⟩
        · have h7 : ¬ (d : Int) - (m : Int) < 64 := by omega
          have hdec : decide ((d : Int) - (m : Int) < 64) = false := by simp [h7]
          go_wp2_with fail
          have kc : Kept [] w10 (w10.alloc (.cells #[.int .u8 121] 5)) := (Kept.refl [] w10).alloc _
          refine (stype_full sg _ _ _ _ _ _ _ _ _ _ _ _ _ _ ((unhide S10).next kc (by simp) (by simp) (by simp)) (byt_one _ _ _ _ (obj_new _ _)) (by omega) (by omega) (by have := unhide HLEN; omega)).mono ?_
          rintro e w11 ⟨rfl, hk11⟩
          have K11 := hide (((unhide K10).trans kc (by simp)).trans hk11 (by simp))
          clear hk11 kc K10 S10
          go_wp2
          go_ret
          exact ⟨by simp, unhide K11⟩
end Go.Proofs.Ytpdabmbjnmpgbaa
