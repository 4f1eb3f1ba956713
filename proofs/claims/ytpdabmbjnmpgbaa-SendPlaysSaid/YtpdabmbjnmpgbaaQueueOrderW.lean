/-
  The walk of QueueOrder: what went in is what came out and what is still there, in order.
-/
import Derived.Test.YtpdabmbjnmpgbaaQuh
import Derived.Test.YtpdabmbjnmpgbaaQuu
import Derived.Test.YtpdabmbjnmpgbaaOpt
import Derived.Maps.AppendAt
import Derived.Laws.AppendOwnNone
namespace Go.Proofs.Ytpdabmbjnmpgbaa
open Go.Conc Go.RowKit
set_option linter.unusedVariables false

/-- A row of the call's own, with its value's form. -/
theorem own_form {w : World} {base : Nat} {e : TypeId} {size n : Nat} {v : Value} {xs : List Value} (h : w.ownsRow base e size v n xs) : ∃ A cp, v = .slice A n cp := by
  rcases h.2 with ⟨rfl, h2⟩ | ⟨g, cap, cur, rfl, _⟩
  · exact ⟨none, 0, by rw [h2]⟩
  · exact ⟨_, _, rfl⟩
/-- How the law's queue and its two lists stand. -/
structure OSit (w wr : World) (cap : Nat) (vi vo : Value) (Q O : List ByteArray) : Prop where
  q : QS wr (w.heap.size + 1) w.heap.size cap Q
  inn : wr.ownsRow (w.heap.size + 2) 9 1 vi (O.length + Q.length) ((O ++ Q).map Value.string)
  out : wr.ownsRow (w.heap.size + 2) 9 1 vo O.length (O.map Value.string)
  apart : ∀ b, vi.ownBlock = some b → vo.ownBlock ≠ some b
  room : Q.length ≤ cap
  kept : Kept [] w wr
section
variable {w wr wj : World} {cap : Nat} {vi vo v' : Value} {Q O : List ByteArray} {x : ByteArray}
theorem OSit.size (h : OSit w wr cap vi vo Q O) : w.heap.size + 2 ≤ wr.heap.size := by have := h.q.lt.1; omega
theorem OSit.next (h : OSit w wr cap vi vo Q O) (k : Kept [] wr wj) : OSit w wj cap vi vo Q O :=
  ⟨h.q.next k (by simp) (by simp), k.own h.inn (by simp), k.own h.out (by simp), h.apart, h.room, h.kept.trans k (by simp)⟩
end
theorem rdS_of {w : World} {base : Nat} {A : Option Addr} {n c : Nat} {xs : List ByteArray} (h : w.ownsRow base 9 1 (.slice A n c) n (xs.map Value.string)) : RdS w A xs := by
  obtain ⟨A', cp, hv, _, hr, _⟩ := rdS_own h
  injection hv with h1 h2 h3
  subst h1
  exact hr
theorem OSit.put {w wr w2 w3 : World} {cap : Nat} {vi vo v' : Value} {Q O : List ByteArray} {x : ByteArray} {o : Obj} {n : Nat} (h : OSit w wr cap vi vo Q O) (hq2 : QS w2 (w.heap.size + 1) w.heap.size cap (Q ++ [x])) (hk2 : Kept [w.heap.size] wr w2)
    (hroom : Q.length < cap) (hown3 : w3.ownsRow (w.heap.size + 2) 9 1 v' n (O.map Value.string ++ (Q.map Value.string ++ [Value.string x]))) (hgrow : (w2.alloc o).grownBy w3 vi.ownBlock)
    (hat : v'.ownBlock = vi.ownBlock ∨ v'.ownBlock = some (w2.heap.size + 1)) : OSit w w3 cap v' vo (Q ++ [x]) O := by
  have hin := h.inn.lt
  have hout := h.out.lt
  have hz := hk2.size
  have hz1 := h.size
  have hout2 : (w2.alloc o).ownsRow (w.heap.size + 2) 9 1 vo O.length (O.map Value.string) := ((Kept.refl [] w2).alloc o).own (hk2.own h.out (by intro b hb; have := hout b hb; simp; omega)) (by simp)
  refine ⟨(hq2.next ((Kept.refl [] w2).alloc o) (by simp) (by simp)).notin hgrow ?_ ?_, ?_, ?_, ?_, by simp; omega, ?_⟩
  · intro e; have := hin _ e; omega
  · intro e; have := hin _ e; omega
  · have hn : O.length + (Q ++ [x]).length = n := by have := hown3.1; simp at this ⊢; omega
    rw [hn]
    simpa using hown3
  · refine World.ownsRow.kept hout2 hgrow ?_
    rcases hvo : vo.ownBlock with _ | b
    · exact .inl rfl
    · refine .inr (fun e => ?_)
      exact h.apart b e.symm hvo
  · intro b hb e
    rcases hat with h1 | h1
    · exact h.apart b (h1 ▸ hb) e
    · have := hout b e
      rw [h1] at hb
      injection hb with hb
      omega
  · refine (((h.kept.trans hk2 (by intro i hi hm; simp at hm; omega)).alloc o).grown hgrow ?_)
    intro b hb
    have := hin b hb
    exact .inr (by omega)
theorem OSit.take {w wr w2 w3 : World} {cap : Nat} {vi vo v' : Value} {Q O : List ByteArray} {y : ByteArray} {o : Obj} {n : Nat} (h : OSit w wr cap vi vo (y :: Q) O) (hq2 : QS w2 (w.heap.size + 1) w.heap.size cap Q) (hk2 : Kept [w.heap.size] wr w2)
    (hown3 : w3.ownsRow (w.heap.size + 2) 9 1 v' n (O.map Value.string ++ [Value.string y])) (hgrow : (w2.alloc o).grownBy w3 vo.ownBlock)
    (hat : v'.ownBlock = vo.ownBlock ∨ v'.ownBlock = some (w2.heap.size + 1)) : OSit w w3 cap vi v' Q (O ++ [y]) := by
  have hin := h.inn.lt
  have hout := h.out.lt
  have hz := hk2.size
  have hz1 := h.size
  have hin2 : (w2.alloc o).ownsRow (w.heap.size + 2) 9 1 vi (O.length + (y :: Q).length) ((O ++ y :: Q).map Value.string) := ((Kept.refl [] w2).alloc o).own (hk2.own h.inn (by intro b hb; have := hin b hb; simp; omega)) (by simp)
  refine ⟨(hq2.next ((Kept.refl [] w2).alloc o) (by simp) (by simp)).notin hgrow ?_ ?_, ?_, ?_, ?_, ?_, ?_⟩
  · intro e; have := hout _ e; omega
  · intro e; have := hout _ e; omega
  · have h1 : w3.ownsRow (w.heap.size + 2) 9 1 vi (O.length + (y :: Q).length) ((O ++ y :: Q).map Value.string) := by
      refine World.ownsRow.kept hin2 hgrow ?_
      rcases hvi : vi.ownBlock with _ | b
      · exact .inl rfl
      · exact .inr (fun e => h.apart b hvi e.symm)
    have e1 : (O ++ [y]).length + Q.length = O.length + (y :: Q).length := by simp; omega
    rw [e1]
    simpa using h1
  · have hn : (O ++ [y]).length = n := by have := hown3.1; simp at this ⊢; omega
    rw [hn]
    simpa using hown3
  · intro b hb e
    rcases hat with h1 | h1
    · exact h.apart b hb (h1 ▸ e)
    · have := hin b hb
      rw [h1] at e
      injection e with e
      omega
  · have := h.room
    simp at this
    omega
  · refine (((h.kept.trans hk2 (by intro i hi hm; simp at hm; omega)).alloc o).grown hgrow ?_)
    intro b hb
    have := hout b hb
    exact .inr (by omega)
theorem rem_bd (n k : Int) (hk : 0 < k) (hk2 : k ≤ 1000) : 0 ≤ wrap64 ((IntKind.u64.wrap n).tmod k) ∧ wrap64 ((IntKind.u64.wrap n).tmod k) < k := by
  have h0 : 0 ≤ IntKind.u64.wrap n := by simp only [IntKind.wrap, IntKind.signed]; simp; omega
  have h1 : (IntKind.u64.wrap n).tmod k = IntKind.u64.wrap n % k := Int.tmod_eq_emod_of_nonneg h0
  have h2 := Int.emod_nonneg (IntKind.u64.wrap n) (show k ≠ 0 by omega)
  have h3 := Int.emod_lt_of_pos (IntKind.u64.wrap n) hk
  rw [h1]
  generalize IntKind.u64.wrap n % k = z at *
  unfold wrap64
  omega

set_option maxRecDepth 100000 in
set_option maxHeartbeats 4000000 in
theorem walk_QueueOrder (w : World) (room : Int) (wm : (Lit.int .i64 room).wf = true) (A : Option Addr) (n c : Nat) (u : Unit) (hA : Strs w A n) (hc : n ≤ c) (B : Option Addr) (m cb : Nat) (u2 : Unit) (hB : Bools w B m) (hcb : m ≤ cb) :
    Calls Try.prog 4 #[.int .i64 room, .slice A n c, .slice B m cb] w (QHolds [] w true) := by
  have hl : n ≤ 9223372036854775807 := hA.1
  have hl2 : m ≤ 9223372036854775807 := hB.1
  obtain ⟨i0, hi0, hz0, hz1, hz2⟩ := info_parts infoS
  have HA := hide hA
  have HB := hide hB
  obtain ⟨r2, r1⟩ := rem_bd room 20 (by omega) (by omega)
  clear hA hB hc hcb
  go_enter Try.func4, Try.ntmps4
  go_wp2_with fail
  obtain ⟨cap, hcap⟩ : ∃ cap : Nat, 1 + wrap64 ((IntKind.u64.wrap room).tmod 20) = (cap : Int) := ⟨_, (Int.toNat_of_nonneg (by omega)).symm⟩
  rw [hcap]
  have hc1 : 1 ≤ cap := by omega
  have hc2 : cap ≤ 20 := by omega
  clear hcap r1 r2
  refine (newS_yes (cap : Int) _ (by omega) (by omega)).mono ?_
  rintro e w1 ⟨rfl, hq, hk⟩
  rw [Int.toNat_natCast] at hq
  have hsit : OSit w w1 cap (.slice none 0 0) (.slice none 0 0) [] [] := ⟨hq, by simpa using World.ownsRow_nil w1 (w.heap.size + 2) 9 1, by simpa using World.ownsRow_nil w1 (w.heap.size + 2) 9 1, by simp [Value.ownBlock], by simp, hk⟩
  have S0 := hide hsit
  clear hq hk hsit
  go_wp2_with fail
  go_loopw [9, 10, 11] (fun vi vo i wr => ∃ (k : Nat) (Q O : List ByteArray) (Ai : Option Addr) (ci : Nat) (Ao : Option Addr) (co : Nat), k ≤ n ∧ k ≤ 40 ∧ O.length + Q.length ≤ k ∧ i = .int .i64 k ∧ vi = .slice Ai (O.length + Q.length) ci ∧ vo = .slice Ao O.length co ∧ OSit w wr cap vi vo Q O) (fun _ _ i _ => 40 - (intOf i).toNat)
  case atStart => exact ⟨0, [], [], none, 0, none, 0, by omega, by omega, by simp, rfl, rfl, rfl, unhide S0⟩
  case round =>
    obtain ⟨k, Q, O, Ai, ci, Ao, co, hkn, hk40, hok, rfl, rfl, rfl, hsit⟩ := hrel
    have S1 := hide hsit
    clear hsit S0
    by_cases hlt : k < n ∧ k < 40
    · obtain ⟨hlt1, hlt2⟩ := hlt
      obtain ⟨b, off, x, rfl, hb, hs, hc⟩ := (unhide HA).2 k hlt1
      have hc1 : wr.cell? ⟨b, off + k, none⟩ = some (.string x) := ((unhide S1).kept.cell (p := ⟨b, off + k, none⟩) hb (by simp)).trans hc
      clear hs
      by_cases hroom : Q.length < cap
      · have HRo := hide hroom
        clear hroom
        go_wp2_with fail
        refine (putS_yes _ _ _ x _ _ (unhide S1).q (unhide HRo)).mono ?_
        rintro e w2 ⟨rfl, hq2, hk2⟩
        have zz2 := hk2.size
        have zz1 := (unhide S1).size
        have I2 := hide (hk2.own (unhide S1).inn (by intro bb hbb; have := (unhide S1).inn.lt bb hbb; simp; omega))
        have hc3 : w2.cell? ⟨b, off + k, none⟩ = some (.string x) := (hk2.cell (p := ⟨b, off + k, none⟩) (by simp; omega) (by simp; omega)).trans hc1
        have Q2 := hide hq2
        have K2 := hide hk2
        clear hq2 hk2 hc1
        go_wp2_with (at_builtin; refine wpList_append_own_at _ rfl _ _ 30 rfl (w.heap.size + 2) 9 i0 (.string ⟨#[]⟩) 1 16 Try.underlying30 hi0 hz0 hz1 hz2 rfl (by decide) _ _ _ rfl ((unhide I2).alloc _) ⟨w2.heap.size, 0, none⟩ 1 1 [.string x] rfl rfl ?c1 ?c2 ?c3 ?c4 ?c5 ?_)
        case c1 => exact cell_one_new _ _ _
        case c2 => simp [Value.oneCell']
        case c3 => unfold maxLen; omega
        case c4 => omega
        case c5 => simp; omega
        intro v' w3 hown3 hgrow _ hat
        have S3 := hide ((unhide S1).put (unhide Q2) (unhide K2) (unhide HRo) hown3 hgrow hat)
        obtain ⟨Ai1, ci1, rfl⟩ := own_form hown3
        have HNI : Hid (O.length + Q.length + 1 = O.length + (Q ++ [x]).length) := hide (by simp; omega)
        have HNE : Hid (Q ++ [x] ≠ []) := hide (by simp)
        have HL : Hid (O.length + (Q ++ [x]).length ≤ k + 1) := hide (by simp; omega)
        clear hown3 hgrow hat I2 Q2 K2 hc3 hc HRo
        generalize O.length + Q.length + 1 = nI at *
        generalize Q ++ [x] = Q1 at *
        have q1 : Q1.length ≤ cap := (unhide S3).room
        have n41 : nI ≤ 41 := by have h1 := unhide HNI; have h2 := unhide HL; omega
        have o41 : O.length ≤ 41 := by have h1 := unhide HNI; omega
        by_cases htk : k < m
        · obtain ⟨b5, o5, tb, rfl, hb5, hc5⟩ := ((unhide HB).kept (unhide S3).kept).2 k htk
          cases tb
          · have hne : (((Q1.length : Nat) : Int) != ((nI : Nat) : Int) - ((O.length : Nat) : Int)) = false := by have := unhide HNI; simp; omega
            go_wp2_with (go_at_call 27; refine (lenS_any _ _ _ _ _ (unhide S3).q).mono ?_; rintro e w' ⟨rfl, rfl⟩)
            refine ⟨⟨k + 1, Q1, O, Ai1, ci1, Ao, co, by omega, by omega, by have := unhide HL; omega, by go_num, by rw [unhide HNI], rfl, by first | exact unhide S3 | (rw [← unhide HNI]; exact unhide S3)⟩, by simp [intOf]; omega⟩
          · obtain ⟨y, Q2, rfl⟩ : ∃ y Q2, Q1 = y :: Q2 := by
              rcases Q1 with _ | ⟨y, Q2⟩
              · exact absurd rfl (unhide HNE)
              · exact ⟨y, Q2, rfl⟩
            have hz3 := (unhide S3).size
            go_wp2_with fail
            refine (takeS_yes _ _ _ _ _ _ (unhide S3).q).mono ?_
            rintro e w4 ⟨rfl, hq4, hk4⟩
            have hz4 := hk4.size
            have O4 := hide (hk4.own (unhide S3).out (by intro bb hbb; have := (unhide S3).out.lt bb hbb; simp; omega))
            have Q4 := hide hq4
            have K4 := hide hk4
            have hO : O.length ≤ 40 := by have := unhide HL; simp at this; omega
            clear hq4 hk4
            go_wp2_with (at_builtin; refine wpList_append_own_at _ rfl _ _ 30 rfl (w.heap.size + 2) 9 i0 (.string ⟨#[]⟩) 1 16 Try.underlying30 hi0 hz0 hz1 hz2 rfl (by decide) _ _ _ rfl ((unhide O4).alloc _) ⟨w4.heap.size, 0, none⟩ 1 1 [.string y] rfl rfl ?d1 ?d2 ?d3 ?d4 ?d5 ?_)
            case d1 => exact cell_one_new _ _ _
            case d2 => simp [Value.oneCell']
            case d3 => unfold maxLen; omega
            case d4 => omega
            case d5 => simp; omega
            intro v' w5 hown5 hgrow5 _ hat5
            have S5 := hide ((unhide S3).take (unhide Q4) (unhide K4) hown5 hgrow5 hat5)
            obtain ⟨Ao1, co1, rfl⟩ := own_form hown5
            have hne : (((Q2.length : Nat) : Int) != ((nI : Nat) : Int) - (((O.length : Nat) : Int) + 1)) = false := by have := unhide HNI; simp at this ⊢; omega
            have q2 : Q2.length ≤ cap := by simp at q1; omega
            clear hown5 hgrow5 hat5 O4 Q4 K4
            go_wp2_with (go_at_call 27; refine (lenS_any _ _ _ _ _ (unhide S5).q).mono ?_; rintro e w' ⟨rfl, rfl⟩)
            have hNI2 : nI = (O ++ [y]).length + Q2.length := by have := unhide HNI; simp at this ⊢; omega
            have hO2 : O.length + 1 = (O ++ [y]).length := by simp
            refine ⟨⟨k + 1, Q2, O ++ [y], Ai1, ci1, Ao1, co1, by omega, by omega, by have := unhide HL; simp at this ⊢; omega, by go_num, by rw [hNI2], by rw [hO2], by first | exact unhide S5 | (rw [← hNI2, ← hO2]; exact unhide S5)⟩, by simp [intOf]; omega⟩
        · have hne : (((Q1.length : Nat) : Int) != ((nI : Nat) : Int) - ((O.length : Nat) : Int)) = false := by have := unhide HNI; simp; omega
          go_wp2_with (go_at_call 27; refine (lenS_any _ _ _ _ _ (unhide S3).q).mono ?_; rintro e w' ⟨rfl, rfl⟩)
          refine ⟨⟨k + 1, Q1, O, Ai1, ci1, Ao, co, by omega, by omega, by have := unhide HL; omega, by go_num, by rw [unhide HNI], rfl, by first | exact unhide S3 | (rw [← unhide HNI]; exact unhide S3)⟩, by simp [intOf]; omega⟩

      · have hfull : cap ≤ Q.length := by omega
        have hqc := (unhide S1).room
        have hnec : (((Q.length : Nat) : Int) != ((cap : Nat) : Int)) = false := by simp; omega
        have HF := hide hfull
        clear hroom hfull hqc
        go_wp2_with fail
        refine (putS_no _ _ _ x _ _ (unhide S1).q (unhide HF)).mono ?_
        rintro e w' ⟨rfl, rfl⟩
        go_wp2_with fail
        refine (lenS_any _ _ _ _ _ (unhide S1).q).mono ?_
        rintro e w' ⟨rfl, rfl⟩
        have S3 := S1
        obtain ⟨nI, hnI⟩ : ∃ nI, nI = O.length + Q.length := ⟨_, rfl⟩
        rw [← hnI] at S3
        rw [← hnI]
        have HNI : Hid (nI = O.length + Q.length) := hide hnI
        have HNE : Hid (Q ≠ []) := hide (by intro e; have := unhide HF; rw [e] at this; simp at this; omega)
        have HL : Hid (O.length + Q.length ≤ k + 1) := hide (by omega)
        clear hc1 hc HF S1 hnI
        have q1 : Q.length ≤ cap := (unhide S3).room
        have n41 : nI ≤ 41 := by have h1 := unhide HNI; have h2 := unhide HL; omega
        have o41 : O.length ≤ 41 := by have h1 := unhide HNI; omega
        by_cases htk : k < m
        · obtain ⟨b5, o5, tb, rfl, hb5, hc5⟩ := ((unhide HB).kept (unhide S3).kept).2 k htk
          cases tb
          · have hne : (((Q.length : Nat) : Int) != ((nI : Nat) : Int) - ((O.length : Nat) : Int)) = false := by have := unhide HNI; simp; omega
            go_wp2_with (go_at_call 27; refine (lenS_any _ _ _ _ _ (unhide S3).q).mono ?_; rintro e w' ⟨rfl, rfl⟩)
            refine ⟨⟨k + 1, Q, O, Ai, ci, Ao, co, by omega, by omega, by have := unhide HL; omega, by go_num, by rw [unhide HNI], rfl, by first | exact unhide S3 | (rw [← unhide HNI]; exact unhide S3)⟩, by simp [intOf]; omega⟩
          · obtain ⟨y, Q2, rfl⟩ : ∃ y Q2, Q = y :: Q2 := by
              rcases Q with _ | ⟨y, Q2⟩
              · exact absurd rfl (unhide HNE)
              · exact ⟨y, Q2, rfl⟩
            have hz3 := (unhide S3).size
            have hnec2 : (((Q2.length : Nat) : Int) + 1 != ((cap : Nat) : Int)) = false := by simpa using hnec
            go_wp2_with fail
            refine (takeS_yes _ _ _ _ _ _ (unhide S3).q).mono ?_
            rintro e w4 ⟨rfl, hq4, hk4⟩
            have hz4 := hk4.size
            have O4 := hide (hk4.own (unhide S3).out (by intro bb hbb; have := (unhide S3).out.lt bb hbb; simp; omega))
            have Q4 := hide hq4
            have K4 := hide hk4
            have hO : O.length ≤ 40 := by have := unhide HL; simp at this; omega
            clear hq4 hk4
            go_wp2_with (at_builtin; refine wpList_append_own_at _ rfl _ _ 30 rfl (w.heap.size + 2) 9 i0 (.string ⟨#[]⟩) 1 16 Try.underlying30 hi0 hz0 hz1 hz2 rfl (by decide) _ _ _ rfl ((unhide O4).alloc _) ⟨w4.heap.size, 0, none⟩ 1 1 [.string y] rfl rfl ?f1 ?f2 ?f3 ?f4 ?f5 ?_)
            case f1 => exact cell_one_new _ _ _
            case f2 => simp [Value.oneCell']
            case f3 => unfold maxLen; omega
            case f4 => omega
            case f5 => simp; omega
            intro v' w5 hown5 hgrow5 _ hat5
            have S5 := hide ((unhide S3).take (unhide Q4) (unhide K4) hown5 hgrow5 hat5)
            obtain ⟨Ao1, co1, rfl⟩ := own_form hown5
            have hne : (((Q2.length : Nat) : Int) != ((nI : Nat) : Int) - (((O.length : Nat) : Int) + 1)) = false := by have := unhide HNI; simp at this ⊢; omega
            have q2 : Q2.length ≤ cap := by simp at q1; omega
            clear hown5 hgrow5 hat5 O4 Q4 K4
            go_wp2_with (go_at_call 27; refine (lenS_any _ _ _ _ _ (unhide S5).q).mono ?_; rintro e w' ⟨rfl, rfl⟩)
            have hNI2 : nI = (O ++ [y]).length + Q2.length := by have := unhide HNI; simp at this ⊢; omega
            have hO2 : O.length + 1 = (O ++ [y]).length := by simp
            refine ⟨⟨k + 1, Q2, O ++ [y], Ai, ci, Ao1, co1, by omega, by omega, by have := unhide HL; simp at this ⊢; omega, by go_num, by rw [hNI2], by rw [hO2], by first | exact unhide S5 | (rw [← hNI2, ← hO2]; exact unhide S5)⟩, by simp [intOf]; omega⟩
        · have hne : (((Q.length : Nat) : Int) != ((nI : Nat) : Int) - ((O.length : Nat) : Int)) = false := by have := unhide HNI; simp; omega
          go_wp2_with (go_at_call 27; refine (lenS_any _ _ _ _ _ (unhide S3).q).mono ?_; rintro e w' ⟨rfl, rfl⟩)
          refine ⟨⟨k + 1, Q, O, Ai, ci, Ao, co, by omega, by omega, by have := unhide HL; omega, by go_num, by rw [unhide HNI], rfl, by first | exact unhide S3 | (rw [← unhide HNI]; exact unhide S3)⟩, by simp [intOf]; omega⟩

    · have hcase : (k < n ∧ ¬ k < 40) ∨ ¬ k < n := by omega
      have q40 : O.length + Q.length ≤ 40 := by omega
      clear hlt
      rcases hcase with ⟨hx1, hx2⟩ | hx1
      all_goals
        go_wp2_with fail
        refine (allS_any _ _ _ _ _ (unhide S1).q (unhide S1).room (by omega)).mono ?_
        rintro e w2 ⟨v, rfl, hown, hq, hk⟩
        have zz := hk.size
        have zs := (unhide S1).size
        have hin := hide (hk.own (unhide S1).inn (by intro bb hbb; have := (unhide S1).inn.lt bb hbb; simp; omega))
        have hout := hide (hk.own (unhide S1).out (by intro bb hbb; have := (unhide S1).out.lt bb hbb; simp; omega))
        have HK2 := hide ((unhide S1).kept.trans hk (by intro i hi hm; simp at hm; omega))
        have hov := hown
        rcases hown.2 with ⟨rfl, hq0⟩ | ⟨gb, capb, curb, rfl, hbb, _⟩
        · have hQ : Q = [] := List.eq_nil_of_length_eq_zero hq0
          have HR1 := hide (rdS_of (unhide hin))
          have HR2 : Hid (RdS w2 Ao (O ++ Q)) := hide (by rw [hQ, List.append_nil]; exact rdS_of (unhide hout))
          have HLN : Hid (O.length + Q.length = O.length) := hide (by rw [hQ]; simp)
          have hne : (((O.length : Nat) : Int) + ((Q.length : Nat) : Int) != ((O.length : Nat) : Int)) = false := by rw [hQ]; simp
          have HQ0 := hide hq0
          clear hown hq hk hov hQ hq0
          go_wp2_with (at_builtin; refine wpList_append_own_none rfl _ _ 30 rfl (w.heap.size + 2) 9 i0 1 Try.underlying30 hi0 _ _ _ rfl (unhide hout) rfl ?_)
          go_loopw [14] (fun i wx => ∃ k2 : Nat, k2 ≤ O.length + Q.length ∧ i = .int .i64 k2 ∧ Kept [] w2 wx) (fun i _ => O.length + Q.length - (intOf i).toNat)
          case atStart => exact ⟨0, Nat.zero_le _, rfl, Kept.refl _ _⟩
          case round =>
            obtain ⟨k2, hk2, rfl, hkx⟩ := hrel
            by_cases hlt3 : k2 < O.length + Q.length
            · have hL : k2 < (O ++ Q).length := by simp; omega
              obtain ⟨ba, oa, rfl, hba, hca⟩ := (unhide HR1).kept hkx (by simp) k2 hL
              obtain ⟨bb, ob, rfl, hbb, hcb⟩ := (unhide HR2).kept hkx (by simp) k2 hL
              have g1 := hca k2 hL
              have g2 := hcb k2 hL
              have HKx := hide hkx
              have p0 : (0 : Int) ≤ (k2 : Int) := by omega
              have p1 : (k2 : Int) < (O.length : Int) + (Q.length : Int) := by omega
              have p2 : (k2 : Int) < (O.length : Int) := by have := unhide HLN; omega
              clear hca hcb hkx hL
              generalize (O ++ Q).getD k2 ByteArray.empty = z at *
              go_wp2_with fail
              go_quiet (fail)
              go_wp2
              go_roundw
              case rel => exact ⟨k2 + 1, by omega, by go_num, (unhide HKx).drewN _⟩
              case measure => simp [intOf]; omega
            · have HKx := hide ((unhide HK2).trans hkx (by simp))
              have hge3 : O.length + Q.length ≤ k2 := by omega
              clear hkx hlt3
              go_wp2_with fail
              refine (known15 _).mono ?_
              rintro e w9 ⟨rfl, hk9⟩
              go_wp2
              go_ret
              exact ⟨rfl, (unhide HKx).trans hk9 (by simp)⟩

        · have HRv := hide (rdS_of hov)
          have hca := hov.cells (g := gb) rfl
          have HCA := hide hca
          have hout1 := unhide hout
          clear hown hq hk hov hca
          go_wp2_with (at_builtin; refine wpList_append_own_at _ rfl _ _ 30 rfl (w.heap.size + 2) 9 i0 (.string ⟨#[]⟩) 1 16 Try.underlying30 hi0 hz0 hz1 hz2 rfl (by decide) _ _ _ rfl (unhide hout) ⟨gb, 0, none⟩ Q.length capb (Q.map Value.string) rfl (by simp) (unhide HCA) (by simp [Value.oneCell']) (by unfold maxLen; omega) (by omega) (by omega) ?_; intro v5 w5 hown5 hgrow5 _ hat5; obtain ⟨A5, c5, rfl⟩ := own_form hown5)
          have hown6 : w5.ownsRow (w.heap.size + 2) 9 1 (.slice A5 (O.length + Q.length) c5) (O.length + Q.length) ((O ++ Q).map Value.string) := by rw [List.map_append]; exact hown5
          have HR2 := hide (rdS_of hown6)
          have hin5 : w5.ownsRow (w.heap.size + 2) 9 1 (.slice Ai (O.length + Q.length) ci) (O.length + Q.length) ((O ++ Q).map Value.string) := by
            refine World.ownsRow.kept (unhide hin) hgrow5 ?_
            rcases hvi : (Value.slice Ai (O.length + Q.length) ci).ownBlock with _ | b7
            · exact .inl rfl
            · exact .inr (fun e => (unhide S1).apart b7 hvi e.symm)
          have HR1 := hide (rdS_of hin5)
          have HK5 := hide ((unhide HK2).grown hgrow5 (fun b7 h7 => .inr (by have := (unhide S1).out.lt b7 h7; omega)))
          clear hown5 hown6 hin5 hgrow5 hat5 hout1 HRv HCA
          go_loopw [14] (fun i wx => ∃ k2 : Nat, k2 ≤ O.length + Q.length ∧ i = .int .i64 k2 ∧ Kept [] w5 wx) (fun i _ => O.length + Q.length - (intOf i).toNat)
          case atStart => exact ⟨0, Nat.zero_le _, rfl, Kept.refl _ _⟩
          case round =>
            obtain ⟨k2, hk2, rfl, hkx⟩ := hrel
            by_cases hlt3 : k2 < O.length + Q.length
            · have hL : k2 < (O ++ Q).length := by simp; omega
              obtain ⟨ba, oa, rfl, hba, hca⟩ := (unhide HR1).kept hkx (by simp) k2 hL
              obtain ⟨bb, ob, rfl, hbb, hcb⟩ := (unhide HR2).kept hkx (by simp) k2 hL
              have g1 := hca k2 hL
              have g2 := hcb k2 hL
              have HKx := hide hkx
              have p0 : (0 : Int) ≤ (k2 : Int) := by omega
              have p1 : (k2 : Int) < (O.length : Int) + (Q.length : Int) := by omega
              have p2 : (0 : Int) ≤ (O.length : Int) := by omega
              clear hca hcb hkx hL
              generalize (O ++ Q).getD k2 ByteArray.empty = z at *
              go_wp2_with fail
              go_quiet (fail)
              go_wp2
              go_roundw
              case rel => exact ⟨k2 + 1, by omega, by go_num, (unhide HKx).drewN _⟩
              case measure => simp [intOf]; omega
            · have HKx := hide ((unhide HK5).trans hkx (by simp))
              have hge3 : O.length + Q.length ≤ k2 := by omega
              clear hkx hlt3
              go_wp2_with fail
              refine (known15 _).mono ?_
              rintro e w9 ⟨rfl, hk9⟩
              go_wp2
              go_ret
              exact ⟨rfl, (unhide HKx).trans hk9 (by simp)⟩

end Go.Proofs.Ytpdabmbjnmpgbaa
