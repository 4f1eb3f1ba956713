/-
  The walk of SendAgain.
-/
import Derived.Test.YtpdabmbjnmpgbaaSlk
import Derived.Test.YtpdabmbjnmpgbaaSendFullW
namespace Go.Proofs.Ytpdabmbjnmpgbaa
open Go.Conc Go.RowKit
set_option linter.unusedVariables false
/-- The accepted keys, kept in a slice of slices: each one's bytes lie in the argument. -/
structure AgR (W wr : World) (base sg qg qc : Nat) (ks : List ByteArray) (vals : List Value) (v : Value) : Prop where
  kept : Kept [] W wr
  lo : base ≤ wr.heap.size
  s : SS wr sg qg qc ks ks.length 0 0 0 false false
  own : wr.ownsRow base 96 1 v ks.length vals
  row : ∀ i, i < ks.length → ∃ B c xs, vals.getD i undef = .slice B (ks.getD i ByteArray.empty).size c ∧ Byt W B (ks.getD i ByteArray.empty).size xs ∧ strOfNums xs = ks.getD i ByteArray.empty
theorem AgR.next {W wr wj : World} {base sg qg qc : Nat} {ks : List ByteArray} {vals : List Value} {v : Value} (h : AgR W wr base sg qg qc ks vals v) (k : Kept [] wr wj) : AgR W wj base sg qg qc ks vals v :=
  ⟨h.kept.trans k (by simp), Nat.le_trans h.lo k.size, h.s.next k (by simp) (by simp) (by simp), k.own h.own (by simp), h.row⟩
set_option maxRecDepth 100000 in
theorem rem_natu (a : Int) (n : Nat) (hn : 0 < n) : ∃ k : Nat, (IntKind.u64.wrap a).tmod (n : Int) = (k : Int) ∧ k < n := by
  have h0 : 0 ≤ IntKind.u64.wrap a := by have e := IntKind.wrap_u64 a; have := Int.emod_nonneg a (show (18446744073709551616 : Int) ≠ 0 by decide); omega
  rw [Int.tmod_eq_emod_of_nonneg h0]
  have h1 := Int.emod_nonneg (IntKind.u64.wrap a) (show (n : Int) ≠ 0 by omega)
  have h2 := Int.emod_lt_of_pos (IntKind.u64.wrap a) (show (0 : Int) < (n : Int) by omega)
  generalize IntKind.u64.wrap a % (n : Int) = r at *
  obtain ⟨k, rfl⟩ := Int.eq_ofNat_of_zero_le h1
  exact ⟨k, rfl, by omega⟩
structure AgF (W w : World) (base b1 b2 : Nat) (ks ds : List ByteArray) (vals : List Value) (t m b11 b14 : Nat) (A1 A2 A9 : Option Addr) (cp1 cp2 c9 : Nat) : Prop where
  kept : Kept [] W w
  own : w.ownsRow base 96 1 (.slice A9 ks.length c9) ks.length vals
  r1 : KRows w b1 A1 ks
  r2 : KRows w b2 A2 ds
  g1 : w.heap[b11]? = some (GmO 3 ((t : Int) + 1) 2 2 1 A1 ks.length cp1)
  g2 : w.heap[b14]? = some (GmO 3 ((t : Int) + 8) 2 2 ((m : Int) + 1) A2 ds.length cp2)
theorem AgF.next {W w w' : World} {base b1 b2 : Nat} {ks ds : List ByteArray} {vals : List Value} {t m b11 b14 : Nat} {A1 A2 A9 : Option Addr} {cp1 cp2 c9 : Nat} (h : AgF W w base b1 b2 ks ds vals t m b11 b14 A1 A2 A9 cp1 cp2 c9) (k : Kept [] w w') : AgF W w' base b1 b2 ks ds vals t m b11 b14 A1 A2 A9 cp1 cp2 c9 :=
  ⟨h.kept.trans k (by simp), k.own h.own (by simp), h.r1.next k (Nat.le_refl _) (by simp), h.r2.next k (Nat.le_refl _) (by simp), k.obj h.g1 (by simp), k.obj h.g2 (by simp)⟩
theorem AgF.cells {W w : World} {base b1 b2 : Nat} {ks ds : List ByteArray} {vals : List Value} {t m b11 b14 : Nat} {A1 A2 A9 : Option Addr} {cp1 cp2 c9 : Nat} (h : AgF W w base b1 b2 ks ds vals t m b11 b14 A1 A2 A9 cp1 cp2 c9) :
    w.cell? ⟨b11, 0, none⟩ = some (.int .u64 3) ∧ w.cell? ⟨b11, 1, none⟩ = some (.int .u64 ((t : Int) + 1)) ∧ w.cell? ⟨b11, 2, none⟩ = some (.int .i64 2) ∧ w.cell? ⟨b11, 3, none⟩ = some (.int .i64 2) ∧ w.cell? ⟨b11, 4, none⟩ = some (.int .u64 1) ∧ w.cell? ⟨b11, 5, none⟩ = some (.slice A1 ks.length cp1) ∧
    w.cell? ⟨b14, 0, none⟩ = some (.int .u64 3) ∧ w.cell? ⟨b14, 1, none⟩ = some (.int .u64 ((t : Int) + 8)) ∧ w.cell? ⟨b14, 2, none⟩ = some (.int .i64 2) ∧ w.cell? ⟨b14, 3, none⟩ = some (.int .i64 2) ∧ w.cell? ⟨b14, 4, none⟩ = some (.int .u64 ((m : Int) + 1)) ∧ w.cell? ⟨b14, 5, none⟩ = some (.slice A2 ds.length cp2) :=
  ⟨obj_cell h.g1 0, obj_cell h.g1 1, obj_cell h.g1 2, obj_cell h.g1 3, obj_cell h.g1 4, obj_cell h.g1 5, obj_cell h.g2 0, obj_cell h.g2 1, obj_cell h.g2 2, obj_cell h.g2 3, obj_cell h.g2 4, obj_cell h.g2 5⟩
theorem byt_conv_all {w : World} {A : Option Addr} {n c : Nat} {xs : List Int} {k : ByteArray} (h : Byt w A n xs) (hn : 0 < n) (hk : strOfNums xs = k) (q : Nat) : (convert 96 9 (.slice A n c)).run Try.prog (w.drewN q) = .ok (.string k) (w.drewN q) := by
  subst hk
  exact conv_byt (h.kept ((Kept.refl [] w).drewN q) (by simp)) hn
theorem own_row {w : World} {base n c : Nat} {A : Option Addr} {vals : List Value} (h : w.ownsRow base 96 1 (.slice A n c) n vals) {j : Nat} (hj : j < n) : ∃ g, A = some ⟨g, 0, none⟩ ∧ w.cell? ⟨g, j, none⟩ = some (vals.getD j undef) := by
  have hvl : vals.length = n := by have := h.1; omega
  rcases h.2 with ⟨_, h0⟩ | ⟨g, cap, cur, hv, hb, hgg, _⟩
  · omega
  · injection hv with hv1 hv2 hv3
    subst hv1
    have h3 := h.cells (g := g) rfl j (vals.getD j undef) (by simp [List.getD_eq_getElem?_getD, List.getElem?_eq_getElem (show j < vals.length by omega)])
    rw [add_plain, Nat.zero_add] at h3
    exact ⟨g, rfl, h3⟩
theorem getD_push {α : Type} (l : List α) (x d : α) (i : Nat) : (l ++ [x]).getD i d = if i < l.length then l.getD i d else if i = l.length then x else d := by
  rw [List.getD_eq_getElem?_getD, List.getD_eq_getElem?_getD]
  by_cases h : i < l.length
  · rw [if_pos h, List.getElem?_append_left h]
  · rw [if_neg h, List.getElem?_append_right (by omega)]
    by_cases h2 : i = l.length
    · subst h2; simp
    · rw [if_neg h2]
      have : (i - l.length) ≠ 0 := by omega
      rw [List.getElem?_eq_none (by simp; omega)]
      rfl
theorem AgR.push {W wr w3 w4 : World} {base sg qg qc m cb : Nat} {ks : List ByteArray} {vals : List Value} {v v' : Value} {B : Option Addr} {xs : List Int} (h : AgR W wr base sg qg qc ks vals v) (hk : Kept [] W w3) (hs : SS w3 sg qg qc (ks ++ [strOfNums xs]) (ks.length + 1) 0 0 0 false false)
    (k4 : Kept [] W w4) (hlo : base ≤ w4.heap.size) (k34 : Kept [] w3 w4 ∨ SS w4 sg qg qc (ks ++ [strOfNums xs]) (ks.length + 1) 0 0 0 false false) (ho : w4.ownsRow base 96 1 v' (ks.length + 1) (vals ++ [.slice B m cb])) (hb : Byt W B m xs) : AgR W w4 base sg qg qc (ks ++ [strOfNums xs]) (vals ++ [.slice B m cb]) v' := by
  have hl : (ks ++ [strOfNums xs]).length = ks.length + 1 := by simp
  have hvl : vals.length = ks.length := by have := h.own.1; omega
  refine ⟨k4, hlo, by rw [hl]; rcases k34 with k | k; exact hs.next k (by simp) (by simp) (by simp); exact k, by rw [hl]; exact ho, fun i hi => ?_⟩
  rw [hl] at hi
  rw [getD_push, getD_push]
  by_cases h1 : i < ks.length
  · rw [if_pos (by omega), if_pos h1]
    exact h.row i h1
  · rw [if_neg (by omega), if_neg h1, if_pos (by omega), if_pos (by omega)]
    have e : (strOfNums xs).size = m := by rw [strOfNums_size]; exact hb.1
    exact ⟨B, cb, xs, by rw [e], by rw [e]; exact hb, rfl⟩
set_option maxRecDepth 100000 in
set_option maxHeartbeats 2000000 in
theorem walk_SendAgain (W : World) (A : Option Addr) (n c : Nat) (u : Unit) (hA : BRows W A n) (hnc : n ≤ c) (a1 : Int) (wa1 : (Lit.int .i64 a1).wf = true) (a2 : Int) (wa2 : (Lit.int .u64 a2).wf = true) :
    Calls Try.prog 14 #[.slice A n c, .int .i64 a1, .int .u64 a2] W (SHolds W true) := by
  obtain ⟨i0, hi0, hz0, hz1, hz2⟩ := info_parts info96
  have hnow : ∃ t : Nat, a2.tmod 1000000 = (t : Int) ∧ t < 1000000 := by
    simp [Lit.wf] at wa2
    have e1 : IntKind.u64.min = 0 := by decide
    have h0 : 0 ≤ a2 := by omega
    rw [Int.tmod_eq_emod_of_nonneg h0]
    exact ⟨(a2 % 1000000).toNat, by omega, by omega⟩
  have hn9 : n ≤ 9223372036854775807 := by have := hA.1; unfold maxLen at this; omega
  have HA := hide hA
  clear wa1 wa2 hA hnc
  obtain ⟨t, ht, ht6⟩ := hnow
  have HT := hide ht
  go_enter Try.func14, Try.ntmps14
  go_wp2_with fail
  refine (snew _).mono ?_
  rintro e w1 ⟨sg, rfl, hs1, hk1, hsz⟩
  have S1 := hide hs1
  have K1 := hide hk1
  have HZ := hide hsz
  clear hs1 hk1 hsz
  go_upto_block 0 with (fail)
  clear ht HT
  go_cut [8] (fun v wx => ∃ (ks : List ByteArray) (vals : List Value), ks.length ≤ 60 ∧ AgR W wx w1.heap.size sg (W.heap.size + 1) W.heap.size ks vals v)
  case first =>
    go_wp2_with fail
    go_loopw [8, 9, 10] (fun v i k wr => ∃ (j : Nat) (ks : List ByteArray) (vals : List Value), j ≤ n ∧ j ≤ 60 ∧ ks.length ≤ j ∧ i = .int .i64 j ∧ AgR W wr w1.heap.size sg (W.heap.size + 1) W.heap.size ks vals v) (fun _ i _ _ => n - (intOf i).toNat)
    case atStart => exact ⟨0, [], [], by omega, by omega, by simp, rfl, ⟨unhide K1, Nat.le_refl _, unhide S1, by simpa using World.ownsRow_nil w1 w1.heap.size 96 1, by intro i hi; simp at hi⟩⟩
    case round =>
      obtain ⟨j, ks, vals, hjn, hj60, hkj, rfl, hR⟩ := hrel
      have HR := hide hR
      clear hR
      by_cases hlt : j < n
      · by_cases hl6 : j < 60
        · obtain ⟨b, off, B, m, cb, xs, hAe, hb, hby, hcell⟩ := (unhide HA).2 j hlt
          subst hAe
          have hc := ((unhide HR).kept.cell (p := ⟨b, off + j, none⟩) hb (by simp)).trans hcell
          have hm9 : m ≤ 9223372036854775807 := by have := hby.2.1; have := hby.2.2.1; unfold maxLen at this; omega
          have hmc : m ≤ cb := hby.2.1
          have HBY := hide hby
          clear hcell hby
          have im1 : (m : Int) ≤ (cb : Int) := by omega
          have im2 : (0 : Int) ≤ (m : Int) := by omega
          have im3 : 20 < m → (20 : Int) ≤ (cb : Int) := by omega
          by_cases h20 : m ≤ 20
          · go_wp2_with fail
            go_region
            have kd : Kept [] wr wr.drew := (Kept.refl [] wr).drew
            go_wp2_with fail
            by_cases h0 : m = 0
            · subst h0
              refine (stype_none sg _ _ _).mono ?_
              rintro e w' ⟨rfl, rfl⟩
              have R3 : Hid (AgR W wr.drew w1.heap.size sg (W.heap.size + 1) W.heap.size ks vals u8) := hide ((unhide HR).next kd)
              clear kd
              go_wp2
              exact ⟨⟨j + 1, ks, vals, by omega, by omega, by omega, by go_num, unhide R3⟩, by simp [intOf]; omega⟩
            · by_cases h8 : m ≤ 8
              · refine (stype_yes sg _ _ _ _ _ _ _ _ _ _ _ _ _ _ ((unhide HR).s.next kd (by simp) (by simp) (by simp)) (((unhide HBY).1.kept (unhide HR).kept (by simp)).kept kd (by simp)) (by omega) h8 (by omega) (by omega)).mono ?_
                rintro e w3 ⟨rfl, hs3, hk3⟩
                have hsg := unhide HZ
                have hK13 : Kept [] W w3 := knext ((unhide HR).kept.trans kd (by simp)) hk3 (by simp; omega)
                have hw1 : sg < w1.heap.size := heap_lt (unhide S1).box
                have hO3 : w3.ownsRow w1.heap.size 96 1 u8 ks.length vals := hk3.own (kd.own (unhide HR).own (by simp)) (fun g hg => by have := ((unhide HR).own.lt g hg).1; simp; omega)
                have S3 := hide hs3
                have K3 := hide hK13
                have O3 := hide hO3
                have hz3 : w1.heap.size ≤ w3.heap.size := by have h1 := hk3.size; have h4 := (unhide HR).lo; simp at h1; omega
                have HZ3 := hide hz3
                clear hs3 hk3 hsg hK13 hw1 hO3 kd hz3
                go_wp2_with (at_builtin; refine wpList_append_own _ rfl _ _ 98 rfl w1.heap.size 96 i0 (.slice none 0 0) 1 24 Try.underlying98 hi0 hz0 hz1 hz2 rfl (by decide) _ _ _ rfl (((Kept.refl [] _).alloc _).own (unhide O3) (by simp)) ⟨w3.heap.size, 0, none⟩ 1 1 [.slice B m cb] rfl rfl ?c1 ?c2 ?c3 ?c4 ?c5 ?_)
                case c1 => exact cell_one_new _ _ _
                case c2 => simp [Value.oneCell']
                case c3 => unfold maxLen; omega
                case c4 => omega
                case c5 => simp; have := unhide HZ3; omega
                intro v' w4 hown4 hgrow _
                have hlt3 := (unhide O3).lt
                have hk4 : Kept [] W w4 := ((unhide K3).alloc _).grown hgrow (fun g hg => .inr (by have h1 := (hlt3 g hg).1; have h2 := (unhide K1).size; omega))
                have hsl := (unhide S1).q.lt
                have hsl2 : sg < w1.heap.size := heap_lt (unhide S1).box
                have hs4 : SS w4 sg (W.heap.size + 1) W.heap.size (ks ++ [strOfNums xs]) (ks.length + 1) 0 0 0 false false :=
                  ((unhide S3).next ((Kept.refl [] w3).alloc _) (by simp) (by simp) (by simp)).next (Kept.of_grown (S := u8.ownBlock.toList) hgrow (fun g hg => by simp [hg])) (by simp; intro hg; have := (hlt3 _ hg).1; omega) (by simp; intro hg; have := (hlt3 _ hg).1; omega) (by simp; intro hg; have := (hlt3 _ hg).1; omega)
                have hlo4 : w1.heap.size ≤ w4.heap.size := by have h1 := hgrow.size; have h2 := unhide HZ3; simp at h1; omega
                have R4 : Hid (AgR W w4 w1.heap.size sg (W.heap.size + 1) W.heap.size (ks ++ [strOfNums xs]) (vals ++ [.slice B m cb]) v') := hide ((unhide HR).push (unhide K3) (unhide S3) hk4 hlo4 (.inr hs4) hown4 (unhide HBY).1)
                clear hown4 hgrow hk4 hs4 hlt3 hsl hsl2 hlo4
                go_wp2
                exact ⟨⟨j + 1, _, _, by omega, by omega, by simp; omega, by go_num, unhide R4⟩, by simp [intOf]; omega⟩
              · refine (stype_long sg _ _ _ _ (by omega) (by unfold maxLen; omega)).mono ?_
                rintro e w' ⟨rfl, rfl⟩
                have R3 : Hid (AgR W wr.drew w1.heap.size sg (W.heap.size + 1) W.heap.size ks vals u8) := hide ((unhide HR).next kd)
                clear kd
                go_wp2
                exact ⟨⟨j + 1, ks, vals, by omega, by omega, by omega, by go_num, unhide R3⟩, by simp [intOf]; omega⟩
          · have im4 := im3 (by omega)
            go_wp2_with fail
            go_region
            have kd : Kept [] wr wr.drew := (Kept.refl [] wr).drew
            go_wp2_with fail
            refine (stype_long sg _ _ _ _ (by omega) (by unfold maxLen; omega)).mono ?_
            rintro e w' ⟨rfl, rfl⟩
            have R3 : Hid (AgR W wr.drew w1.heap.size sg (W.heap.size + 1) W.heap.size ks vals u8) := hide ((unhide HR).next kd)
            clear kd
            go_wp2
            exact ⟨⟨j + 1, ks, vals, by omega, by omega, by omega, by go_num, unhide R3⟩, by simp [intOf]; omega⟩
        · go_wp2_with fail
          go_meet
          exact ⟨ks, vals, by omega, unhide HR⟩
      · go_wp2_with fail
        go_meet
        exact ⟨ks, vals, by omega, unhide HR⟩
  case rest =>
    obtain ⟨ks, vals, hk60, hR⟩ := hcut
    obtain ⟨A9, c9, rfl⟩ := own_form hR.own
    have hsl := hR.s
    have HR := hide hR
    clear hR
    have hsg := unhide HZ
    have hsw : sg < w1.heap.size := heap_lt (unhide S1).box
    have HSW := hide hsw
    have hlo := (unhide HR).lo
    have hk9 : ks.length ≤ 9223372036854775807 := by omega
    have t1 : IntKind.u64.wrap ((t : Int) + 1) = (t : Int) + 1 := by have e := IntKind.wrap_u64 ((t : Int) + 1); omega
    have t7 : IntKind.u64.wrap ((t : Int) + 7) = (t : Int) + 7 := by have e := IntKind.wrap_u64 ((t : Int) + 7); omega
    have t8 : IntKind.u64.wrap ((t : Int) + 8) = (t : Int) + 8 := by have e := IntKind.wrap_u64 ((t : Int) + 8); omega
    have s1 : sat (t : Int) 1 = (t : Int) + 1 := by simp [sat]; omega
    have s7 : sat ((t : Int) + 7) 1 = (t : Int) + 8 := by simp [sat]; omega
    have SAT := hide (And.intro s1 s7)
    clear s1 s7
    go_wp2_with fail
    refine (gram_any sg _ _ _ _ _ _ _ _ _ (t : Int) 3 2 2 _ hsl (by omega) (by omega) (by rfl) (by rfl)).mono ?_
    rintro e w2 ⟨A1, cp1, rfl, hkr2, hs2, hk2⟩
    rw [(unhide SAT).1]
    have K2 := hide (knext (unhide HR).kept hk2 (by simp; omega))
    have O2 : Hid (w2.ownsRow w1.heap.size 96 1 (.slice A9 ks.length c9) ks.length vals) := hide (hk2.own (unhide HR).own (fun g hg => by have := ((unhide HR).own.lt g hg).1; simp; omega))
    have S2 := hide hs2
    have R2 := hide hkr2
    have hz2 := hk2.size
    clear hs2 hkr2 hk2 hsl
    go_upto_region 13 with (fail)
    have ka : Kept [] w2 (w2.alloc (GmO 3 ((t : Int) + 1) 2 2 1 A1 ks.length cp1)) := (Kept.refl [] w2).alloc _
    have hg3 : (w2.alloc (GmO 3 ((t : Int) + 1) 2 2 1 A1 ks.length cp1)).heap[w2.heap.size]? = some (GmO 3 ((t : Int) + 1) 2 2 1 A1 ks.length cp1) := obj_new _ _
    change Code.wp _ _ _ _ (w2.alloc (GmO 3 ((t : Int) + 1) 2 2 1 A1 ks.length cp1))
    generalize w2.alloc (GmO 3 ((t : Int) + 1) 2 2 1 A1 ks.length cp1) = w3 at *
    have K3 := hide ((unhide K2).trans ka (by simp))
    have S3 := hide ((unhide S2).next ka (by simp) (by simp) (by simp))
    have O3 := hide (ka.own (unhide O2) (by simp))
    have R3 := hide ((unhide R2).next ka (Nat.le_refl _) (by simp))
    have G3 := hide hg3
    have hz3 := ka.size
    have hzl : w2.heap.size < w3.heap.size := heap_lt hg3
    clear ka hg3 K2 S2 O2 R2 t1
    generalize w2.heap.size = b11 at *
    obtain ⟨m, hm, hmd⟩ := rem_natu a1 (ks.length + 1) (by omega)
    rw [Int.natCast_add, Int.cast_ofNat_Int] at hm
    have hlw : IntKind.u64.wrap ((ks.length : Int) + 1) = (ks.length : Int) + 1 := by have e := IntKind.wrap_u64 ((ks.length : Int) + 1); omega
    go_upto_region 14 with (fail)
    clear hm hlw
    go_wp2_with fail
    refine (sechoed_yes sg _ _ _ _ _ _ m _ _ _ _ (unhide S3) (by omega) (by omega) (by omega)).mono ?_
    rintro e w4 ⟨rfl, hs4, hk4⟩
    have hd0 : ks.drop (m - 0) = ks.drop m := by simp
    obtain ⟨ds, hds⟩ : ∃ ds, ds = ks.drop m := ⟨_, rfl⟩
    rw [hd0, ← hds] at hs4
    have hdl : ds.length = ks.length - m := by rw [hds]; simp
    have HDS := hide hds
    clear hds
    have K4 := hide (knext (unhide K3) hk4 (by simp; omega))
    have O4 := hide (hk4.own (unhide O3) (fun g hg => by have := ((unhide O3).lt g hg).1; simp; omega))
    have R4 := hide ((unhide R3).next hk4 (Nat.le_refl _) (by intro b hb; simp at hb; omega))
    have G4 := hide (hk4.obj (unhide G3) (by simp; omega))
    have S4 := hide hs4
    have hz4 := hk4.size
    clear hk4 hs4 hd0 S3 K3 O3 R3 G3
    go_wp2_with fail
    refine (gram_any sg _ _ _ _ _ _ _ _ _ ((t : Int) + 7) 3 2 2 _ (unhide S4) (by omega) (by omega) (by rfl) (by rfl)).mono ?_
    rintro e w5 ⟨A2, cp2, rfl, hkr5, hs5, hk5⟩
    rw [(unhide SAT).2]
    have K5 := hide (knext (unhide K4) hk5 (by simp; omega))
    have O5 := hide (hk5.own (unhide O4) (fun g hg => by have := ((unhide O4).lt g hg).1; simp; omega))
    have R5 := hide ((unhide R4).next hk5 (Nat.le_refl _) (by intro b hb; simp at hb; omega))
    have G5 := hide (hk5.obj (unhide G4) (by simp; omega))
    have Q5 := hide hkr5
    have S5 := hide hs5
    have hz5 := hk5.size
    have HDL := hide hdl
    clear hk5 hs5 hkr5 S4 K4 O4 R4 G4 hdl
    go_upto_region 17 with (fail)
    have ka : Kept [] w5 (w5.alloc (GmO 3 ((t : Int) + 8) 2 2 ((m : Int) + 1) A2 ds.length cp2)) := (Kept.refl [] w5).alloc _
    have hg6 : (w5.alloc (GmO 3 ((t : Int) + 8) 2 2 ((m : Int) + 1) A2 ds.length cp2)).heap[w5.heap.size]? = some (GmO 3 ((t : Int) + 8) 2 2 ((m : Int) + 1) A2 ds.length cp2) := obj_new _ _
    change Code.wp _ _ _ _ (w5.alloc (GmO 3 ((t : Int) + 8) 2 2 ((m : Int) + 1) A2 ds.length cp2))
    generalize w5.alloc (GmO 3 ((t : Int) + 8) 2 2 ((m : Int) + 1) A2 ds.length cp2) = w6 at *
    have K6 := hide ((unhide K5).trans ka (by simp))
    have S6 := hide ((unhide S5).next ka (by simp) (by simp) (by simp))
    have O6 := hide (ka.own (unhide O5) (by simp))
    have R6 := hide ((unhide R5).next ka (Nat.le_refl _) (by simp))
    have Q6 := hide ((unhide Q5).next ka (Nat.le_refl _) (by simp))
    have g6 := ka.obj (unhide G5) (by simp)
    have hz6 := ka.size
    clear ka K5 S5 O5 R5 Q5 G5
    generalize w5.heap.size = b14 at *
    have KS := hide (unhide HR).s.key
    have HROW := hide (unhide HR).row
    have DS := hide (unhide S6).key
    have F6 := hide (AgF.mk (unhide K6) (unhide O6) (unhide R6) (unhide Q6) g6 hg6)
    clear g6 hg6 K6 O6 R6 Q6 S6 HR HSW hlo hsg hsw hz2 hz3 hz4 hz5 hz6 hzl
    generalize w1.heap.size = base at *
    generalize wc.heap.size = base1 at *
    generalize w4.heap.size = base2 at *
    obtain ⟨x0, x1, x2, x3, x4, x5, y0, y1, y2, y3, y4, y5⟩ := (unhide F6).cells
    have m1 : IntKind.u64.wrap ((m : Int) + 1) = (m : Int) + 1 := by have e := IntKind.wrap_u64 ((m : Int) + 1); omega
    have l1 : IntKind.u64.wrap (ks.length : Int) = (ks.length : Int) := by have e := IntKind.wrap_u64 (ks.length : Int); omega
    have t1 : IntKind.u64.wrap ((t : Int) + 1) = (t : Int) + 1 := by have e := IntKind.wrap_u64 ((t : Int) + 1); omega
    go_wp2_with fail
    refine (last_ok _ _ _ _ _ _ _ _ _ (by rfl) (by rfl) (by omega) (by omega) (by omega) (klen_krows (unhide F6).r1 (unhide KS))).mono ?_
    rw [show (1 : Int) - 1 + (ks.length : Int) = (ks.length : Int) by omega]
    rintro e w7 ⟨rfl, hk7⟩
    have F7 := hide ((unhide F6).next hk7)
    clear hk7 F6 x0 x1 x2 x3 x4 x5 y0 y1 y2 y3 y4 y5
    obtain ⟨x0, x1, x2, x3, x4, x5, y0, y1, y2, y3, y4, y5⟩ := (unhide F7).cells
    go_wp2_with fail
    refine (last_ok _ _ _ _ _ _ _ _ _ (by rfl) (by rfl) (by omega) (by omega) (by have := unhide HDL; omega) (klen_krows (unhide F7).r2 (unhide DS))).mono ?_
    rw [show (m : Int) + 1 - 1 + (ds.length : Int) = (ks.length : Int) by have := unhide HDL; omega]
    rintro e w8 ⟨rfl, hk8⟩
    have F8 := hide ((unhide F7).next hk8)
    clear hk8 F7 x0 x1 x2 x3 x4 x5 y0 y1 y2 y3 y4 y5
    obtain ⟨x0, x1, x2, x3, x4, x5, y0, y1, y2, y3, y4, y5⟩ := (unhide F8).cells
    go_wp2_with fail
    clear x0 x1 x2 x3 x4 x5 y0 y1 y2 y3 y4 y5
    go_loopw [15, 16, 17, 18, 19] (fun i x y z q wr => ∃ j : Nat, j ≤ ks.length ∧ i = .int .i64 j ∧ AgF W wr base base1 base2 ks ds vals t m b11 b14 A1 A2 A9 cp1 cp2 c9) (fun i _ _ _ _ _ => ks.length - (intOf i).toNat)
    case atStart => exact ⟨0, Nat.zero_le _, rfl, unhide F8⟩
    case round =>
      obtain ⟨j, hjl, rfl, hF⟩ := hrel
      have F := hide hF
      clear hF F8
      by_cases hlt : j < ks.length
      · have j0 : IntKind.u64.wrap (j : Int) = (j : Int) := by have e := IntKind.wrap_u64 (j : Int); omega
        have j1 : IntKind.u64.wrap ((j : Int) + 1) = (j : Int) + 1 := by have e := IntKind.wrap_u64 ((j : Int) + 1); omega
        obtain ⟨x0, x1, x2, x3, x4, x5, y0, y1, y2, y3, y4, y5⟩ := (unhide F).cells
        go_wp2_with fail
        refine (key_yes _ _ _ _ _ _ ks _ base1 j _ (by rfl) (by rfl) (by omega) (by omega) (by omega) (unhide F).r1 (unhide KS) hlt _ (by omega)).mono ?_
        obtain ⟨key, hkey⟩ : ∃ key, key = ks.getD j ByteArray.empty := ⟨_, rfl⟩
        rw [← hkey]
        rintro e wa ⟨B3, cp3, rfl, hb3, hka⟩
        have hsz := (unhide KS) (ks.getD j ByteArray.empty) (by rw [List.getD_eq_getElem?_getD, List.getElem?_eq_getElem hlt]; exact List.getElem_mem hlt)
        rw [← hkey] at hsz
        have HKEY := hide hkey
        clear hkey
        have Fa := hide ((unhide F).next hka)
        have BY3 := hide hb3
        clear hb3 hka x0 x1 x2 x3 x4 x5 y0 y1 y2 y3 y4 y5 F
        obtain ⟨x0, x1, x2, x3, x4, x5, y0, y1, y2, y3, y4, y5⟩ := (unhide Fa).cells
        by_cases hjm : m ≤ j
        · go_wp2_with fail
          have hgd : ds.getD (j - m) ByteArray.empty = key := by
            rw [unhide HKEY, unhide HDS, List.getD_eq_getElem?_getD, List.getD_eq_getElem?_getD, List.getElem?_drop, show m + (j - m) = j by omega]
          refine (key_yes _ _ _ _ _ _ ds _ base2 (j - m) _ (by rfl) (by rfl) (by omega) (by omega) (by have := unhide HDL; omega) (unhide Fa).r2 (unhide DS) (by have := unhide HDL; omega) _ (by omega)).mono ?_
          rw [hgd]
          rintro e wb ⟨B4, cp4, rfl, hb4, hkb⟩
          have Fb := hide ((unhide Fa).next hkb)
          have BY3b := hide ((unhide BY3).kept hkb (by simp))
          obtain ⟨B5, c5, xs, hv5, hb5, hx5⟩ := (unhide HROW) j hlt
          rw [← unhide HKEY] at hv5 hb5 hx5
          obtain ⟨g9, rfl, hc9⟩ := own_row (unhide Fb).own hlt
          rw [hv5] at hc9
          have hb5' := hb5.kept (unhide Fb).kept (by simp)
          have q3 := byt_conv_all (c := cp3) (unhide BY3b) (by omega) (str_nums _)
          have q4 := byt_conv_all (c := cp4) hb4 (by omega) (str_nums _)
          have q5 := byt_conv_all (c := c5) hb5' (by omega) hx5
          have hdm : decide (m ≤ j) = true := by simp [hjm]
          clear hb4 hkb hb5 hb5' hv5 hx5 x0 x1 x2 x3 x4 x5 y0 y1 y2 y3 y4 y5 Fa BY3 BY3b hgd
          go_wp2_with fail
          go_quiet (fail)
          go_wp2
          exact ⟨⟨j + 1, by omega, by go_num, (unhide Fb).next ((Kept.refl [] wb).drewN _)⟩, by simp [intOf]; omega⟩
        · go_wp2_with fail
          refine (key_no _ _ _ _ _ _ _ _ _ _ (by rfl) (by rfl) (by omega) (by omega) (by have := unhide HDL; omega) (klen_krows (unhide Fa).r2 (unhide DS)) (by omega)).mono ?_
          rintro e wb ⟨rfl, hkb⟩
          have Fb := hide ((unhide Fa).next hkb)
          have BY3b := hide ((unhide BY3).kept hkb (by simp))
          obtain ⟨B5, c5, xs, hv5, hb5, hx5⟩ := (unhide HROW) j hlt
          rw [← unhide HKEY] at hv5 hb5 hx5
          obtain ⟨g9, rfl, hc9⟩ := own_row (unhide Fb).own hlt
          rw [hv5] at hc9
          have hb5' := hb5.kept (unhide Fb).kept (by simp)
          have q3 := byt_conv_all (c := cp3) (unhide BY3b) (by omega) (str_nums _)
          have q5 := byt_conv_all (c := c5) hb5' (by omega) hx5
          have hdm : decide (m ≤ j) = false := by simp [hjm]
          clear hkb hb5 hb5' hv5 hx5 x0 x1 x2 x3 x4 x5 y0 y1 y2 y3 y4 y5 Fa BY3 BY3b
          go_wp2_with fail
          go_quiet (fail)
          go_wp2
          exact ⟨⟨j + 1, by omega, by go_num, (unhide Fb).next ((Kept.refl [] wb).drewN _)⟩, by simp [intOf]; omega⟩
      · have hjk : j = ks.length := by omega
        go_wp2_with fail
        refine (known19 _).mono ?_
        rintro e w9 ⟨rfl, hk9b⟩
        have K9 := hide ((unhide F).kept.trans hk9b (by simp))
        clear hk9b
        go_wp2
        go_ret
        exact ⟨rfl, unhide K9⟩
end Go.Proofs.Ytpdabmbjnmpgbaa
