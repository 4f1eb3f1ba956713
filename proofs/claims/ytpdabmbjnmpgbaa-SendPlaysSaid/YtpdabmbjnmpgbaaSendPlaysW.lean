/-
  The walk of SendPlays.
-/
import Derived.Test.YtpdabmbjnmpgbaaDdo
namespace Go.Proofs.Ytpdabmbjnmpgbaa
open Go.Conc Go.RowKit
set_option linter.unusedVariables false
theorem ds_ne {w : World} {sg qg qc b : Nat} {ks : List ByteArray} {ty se ac : Nat} {la : Int} {be ask : Bool} {A : Option Addr} {n cp se' ac' : Nat} {la' : Int} {be' ask' : Bool} (h : SS w sg qg qc ks ty se ac la be ask) (o : w.heap[b]? = some (DsO A n cp se' ac' la' be' ask')) : b ≠ sg ∧ b ≠ qg ∧ b ≠ qc := by
  refine ⟨?_, ?_, ?_⟩
  · rintro rfl
    have := h.box
    rw [o] at this
    simp [SndO, DsO] at this
  · rintro rfl
    have := h.q.box
    rw [o] at this
    simp [QSO, DsO] at this
  · rintro rfl
    obtain ⟨s, r, hc⟩ := h.q.chan
    rw [o] at hc
    simp [CSO, DsO] at hc
theorem Pair.put {w : World} {sg qg qc b : Nat} {ks : List ByteArray} {ty se ac : Nat} {la : Int} {be ask : Bool} {A : Option Addr} {cp : Nat} {xs : List ByteArray} {A' : Option Addr} {n' cp' se' ac' : Nat} {la' : Int} {be' ask' : Bool} (h : Pair w sg qg qc ks ty se ac la be ask A cp xs) (o : w.heap[b]? = some (DsO A' n' cp' se' ac' la' be' ask')) :
    Pair (dput w b A ty cp se ac la be ask) sg qg qc ks ty se ac la be ask A cp xs := by
  have hne := ds_ne h.s o
  have kp : Kept [b] w (dput w b A ty cp se ac la be ask) := dputs_kept (Kept.refl _ _) (.inl (by simp)) _ _ _ _ _ _ _ _
  refine ⟨h.s.next kp (by simp; omega) (by simp; omega) (by simp; omega), ?_, h.eq, h.sep, h.la⟩
  obtain ⟨h1, h2, h3⟩ := h.d
  refine ⟨h1, h2, ?_⟩
  rcases h3 with h4 | ⟨b2, off, hA, hb, hc⟩
  · exact .inl h4
  · refine .inr ⟨b2, off, hA, Nat.lt_of_lt_of_le hb kp.size, fun j hj => ?_⟩
    have hcj := hc j hj
    by_cases hbb : b2 = b
    · subst hbb
      exfalso
      rw [obj_cell o] at hcj
      generalize off + j = i at hcj
      have key : ∀ s : ByteArray, (#[Value.slice A' n' cp', Value.int .i64 (se' : Int), Value.int .i64 (ac' : Int), Value.int .u64 la', Value.bool be', Value.bool ask'] : Array Value)[i]? ≠ some (.string s) := by
        intro s hs
        have hm := Array.mem_of_getElem? hs
        simp at hm
      exact key _ hcj
    · exact (kp.cell (p := ⟨b2, off + j, none⟩) hb (by simp; exact hbb)).trans hcj
/-- How the two senders stand behind j acts. -/
structure PlR (W wr : World) (b4 j : Nat) (sg qg qc : Nat) (ks : List ByteArray) (ty se ac : Nat) (la : Int) (be ask : Bool) (A : Option Addr) (cp : Nat) (xs : List ByteArray) : Prop where
  p : Pair wr sg qg qc ks ty se ac la be ask A cp xs
  o4 : wr.heap[b4]? = some (DsO A ty cp se ac la be ask)
  kept : Kept [] W wr
  lo : W.heap.size ≤ sg ∧ W.heap.size ≤ qg ∧ W.heap.size ≤ qc ∧ W.heap.size ≤ b4
  ty : ty ≤ j
theorem PlR.next {W wr wj : World} {b4 j sg qg qc : Nat} {ks : List ByteArray} {ty se ac : Nat} {la : Int} {be ask : Bool} {A : Option Addr} {cp : Nat} {xs : List ByteArray} (h : PlR W wr b4 j sg qg qc ks ty se ac la be ask A cp xs) (k : Kept [] wr wj) : PlR W wj b4 j sg qg qc ks ty se ac la be ask A cp xs :=
  ⟨h.p.next k, k.obj h.o4 (by simp), h.kept.trans k (by simp), h.lo, h.ty⟩
def PlE (W wr : World) (b4 j : Nat) (v3 : Value) : Prop := ∃ sg qg qc ks ty se ac la be ask A cp xs, v3 = .pointer (some ⟨sg, 0, none⟩) ∧ PlR W wr b4 j sg qg qc ks ty se ac la be ask A cp xs
set_option maxRecDepth 100000 in
set_option maxHeartbeats 2000000 in
theorem walk_SendPlays (W : World) (A : Option Addr) (n c : Nat) (u : Unit) (hA : SActs W A n) (hnc : n ≤ c) :
    Calls Try.prog 16 #[.slice A n c] W (SHolds W true) := by
  have hn9 : n ≤ 9223372036854775807 := by have := hA.1; unfold maxLen at this; omega
  have HA := hide hA
  clear hA hnc
  go_enter Try.func16, Try.ntmps16
  go_wp2_with fail
  refine (snew _).mono ?_
  rintro e w1 ⟨sg, rfl, hs1, hk1, hsz⟩
  have S1 := hide hs1
  have K1 := hide hk1
  have HZ := hide hsz
  clear hs1 hk1 hsz
  go_upto_block 0 with (fail)
  have ho : (w1.alloc (DsO none 0 0 0 0 0 false false)).heap[w1.heap.size]? = some (DsO none 0 0 0 0 0 false false) := obj_new _ _
  have ka : Kept [] w1 (w1.alloc (DsO none 0 0 0 0 0 false false)) := (Kept.refl [] w1).alloc _
  change Code.wp _ _ _ _ (w1.alloc (DsO none 0 0 0 0 0 false false))
  have R1 : Hid (PlR W (w1.alloc (DsO none 0 0 0 0 0 false false)) w1.heap.size 0 sg (W.heap.size + 1) W.heap.size [] 0 0 0 0 false false none 0 []) := hide (by
    have h1 := heap_lt (unhide S1).box
    have h2 := (unhide S1).q.lt
    have h3 := unhide HZ
    have h4 := (unhide K1).size
    exact ⟨⟨(unhide S1).next ka (by simp) (by simp) (by simp), DocS.nil _, rfl, by simp, by omega⟩, ho, (unhide K1).trans ka (by simp), by omega, Nat.le_refl _⟩)
  generalize w1.alloc (DsO none 0 0 0 0 0 false false) = w2 at *
  generalize w1.heap.size = b4 at *
  clear ho ka
  go_cut [] (fun wx => Kept [] W wx)
  case first =>
    go_wp2_with fail
    go_loopw [3, 5, 6] (fun v i b wr => ∃ j : Nat, j ≤ n ∧ j ≤ 200 ∧ i = .int .i64 j ∧ PlE W wr b4 j v) (fun _ i _ _ => n - (intOf i).toNat)
    case atStart => exact ⟨0, by omega, by omega, rfl, _, _, _, _, _, _, _, _, _, _, _, _, _, rfl, unhide R1⟩
    case round =>
      obtain ⟨j, hjn, hj2, rfl, sg', qg', qc', ks, ty, se, ac, la, be, ask, B, cp, xs, rfl, hR⟩ := hrel
      have HR := hide hR
      clear hR
      by_cases hlt : j < n
      · by_cases hl2 : j < 200
        · obtain ⟨b, off, z, hAe, hb, hz, c0, c1, c2, c3, c4, c5⟩ := (unhide HA).2 j hlt
          subst hAe
          have k0 := (unhide HR).kept
          have d0 := (k0.cell (p := ⟨b, _, none⟩) hb (by simp)).trans c0
          have d1 := (k0.cell (p := ⟨b, _, none⟩) hb (by simp)).trans c1
          have d2 := (k0.cell (p := ⟨b, _, none⟩) hb (by simp)).trans c2
          have d3 := (k0.cell (p := ⟨b, _, none⟩) hb (by simp)).trans c3
          have d4 := (k0.cell (p := ⟨b, _, none⟩) hb (by simp)).trans c4
          have d5 := (k0.cell (p := ⟨b, _, none⟩) hb (by simp)).trans c5
          have hzr := hz.kept k0
          have HZR := hide hzr
          obtain ⟨y0, y1, y2, y3, y4, y5, yz, yl⟩ := DsO.get (unhide HR).o4
          clear c0 c1 c2 c3 c4 c5 k0 hz hzr
          have hne := ds_ne (unhide HR).p.s (unhide HR).o4
          have hlo := (unhide HR).lo
          have nb4 : ¬ b = b4 := by omega
          have n4b : ¬ b4 = b := by omega
          have HNE := hide hne
          have HNB : Hid (b ≠ sg' ∧ b ≠ qg' ∧ b ≠ qc') := hide (by omega)
          have HLO := hide hlo
          have HBW := hide hb
          clear hne hlo hb
          go_upto_region 8 with (fail)
          go_region_with
            (first
              | (go_at_call 74; refine (do_any W.heap.size sg' qg' qc' ks ty se ac la be ask B cp xs z _ ((unhide HR).p.next ((Kept.refl [] _).drew)) ((unhide HZR).kept ((Kept.refl [] _).drew)) (by have := (unhide HR).ty; omega) ⟨(unhide HLO).1, (unhide HLO).2.1, (unhide HLO).2.2.1⟩).mono ?_; rintro e w3 ⟨sg2, qg2, qc2, ks2, ty2, se2, ac2, la2, be2, ask2, A2, cp2, xs2, S2, rfl, hp2, hty2, hb2, hk2, hS2⟩; have kk2 : Kept S2 wr w3 := (((Kept.refl S2 wr).drew).trans hk2 (by intro i _ hi; exact hi)); have o42 := kk2.obj (unhide HR).o4 (fun hm => by have h1 := hS2 _ hm; have h2 := unhide HNE; omega); have hbS : b ∉ S2 := (fun hm => by have h1 := hS2 _ hm; have h2 := unhide HNB; omega); have hbr : b < wr.heap.size := (by have h1 := (unhide HR).kept.size; have h2 := unhide HBW; omega); have q0 := (kk2.cell (p := ⟨b, off + j * 6, none⟩) hbr hbS).trans d0; have q1 := (kk2.cell (p := ⟨b, off + j * 6 + 1, none⟩) hbr hbS).trans d1; have q2 := (kk2.cell (p := ⟨b, off + j * 6 + 2, none⟩) hbr hbS).trans d2; have q3 := (kk2.cell (p := ⟨b, off + j * 6 + 3, none⟩) hbr hbS).trans d3; have q4 := (kk2.cell (p := ⟨b, off + j * 6 + 4, none⟩) hbr hbS).trans d4; have q5 := (kk2.cell (p := ⟨b, off + j * 6 + 5, none⟩) hbr hbS).trans d5; obtain ⟨r0, r1, r2, r3, r4, r5, rz, rl⟩ := DsO.get o42; have HP2 := hide hp2; have HTY2 := hide hty2; have HB2 := hide hb2; have HKK2 := hide kk2; have HS2 := hide hS2; have HO42 := hide o42; unfold dsV; clear hp2 hty2 hb2 hk2 hS2 kk2 o42 hbS hbr))
          all_goals
            have P4 := hide ((unhide HP2).put (unhide HO42))
            have O4 := hide (dput_obj (A' := A2) (n' := ty2) (cp' := cp2) (se' := se2) (ac' := ac2) (la' := la2) (be' := be2) (ask' := ask2) (unhide HO42))
            have hlo := unhide HLO
            have hb2 := unhide HB2
            have hrt := (unhide HR).ty
            have ht2 := unhide HTY2
            have K3 : Kept [] W w3 := (unhide HR).kept.trans (unhide HKK2) (by intro i hi hm; have := unhide HS2 i hm; omega)
            have K4 := hide (K3.trans (S := []) (T := [b4]) (dputs_kept (b := b4) (Kept.refl [b4] w3) (.inl (by simp)) A2 ty2 cp2 se2 ac2 la2 be2 ask2) (by intro i hi hm; simp at hm; omega))
            clear K3 q0 q1 q2 q3 q4 q5 d0 d1 d2 d3 d4 d5 y0 y1 y2 y3 y4 y5 yz yl
            go_wp2_with fail
            refine (alike_yes sg2 qg2 qc2 ks2 ty2 se2 ac2 la2 be2 ask2 A2 cp2 xs2 _ (unhide P4) (by omega)).mono ?_
            rintro e w5 ⟨rfl, hp5, hk5⟩
            have hne5 := ds_ne (unhide P4).s (unhide O4)
            have R5 : Hid (PlR W w5 b4 (j + 1) sg2 qg2 qc2 ks2 ty2 se2 ac2 la2 be2 ask2 A2 cp2 xs2) := hide ⟨hp5, hk5.obj (unhide O4) (by simp; omega), (unhide K4).trans hk5 (by intro i hi hm; simp at hm; omega), ⟨hb2.1, hb2.2.1, hb2.2.2, hlo.2.2.2⟩, by omega⟩
            clear hp5 hk5 hne5 r0 r1 r2 r3 r4 r5 rz rl hlo hb2 hrt ht2
            go_wp2
            exact ⟨⟨j + 1, by omega, by omega, by go_num, sg2, qg2, qc2, ks2, ty2, se2, ac2, la2, be2, ask2, A2, cp2, xs2, rfl, unhide R5⟩, by simp [intOf]; omega⟩
        · go_wp2_with fail
          go_meet
          exact (unhide HR).kept
      · go_wp2_with fail
        go_meet
        exact (unhide HR).kept
  case rest =>
    have K9 := hide hcut
    clear hcut
    go_wp2_with fail
    refine (known19 _).mono ?_
    rintro e w9 ⟨rfl, hk9⟩
    have K10 := hide ((unhide K9).trans hk9 (by simp))
    clear hk9
    go_wp2
    go_ret
    exact ⟨rfl, unhide K10⟩
end Go.Proofs.Ytpdabmbjnmpgbaa
