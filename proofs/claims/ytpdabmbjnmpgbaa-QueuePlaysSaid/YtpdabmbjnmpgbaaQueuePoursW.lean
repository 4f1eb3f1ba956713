/-
  The walk of QueuePours: poured there and back, nothing is lost.
-/
import Derived.Test.YtpdabmbjnmpgbaaPour
import Derived.Test.YtpdabmbjnmpgbaaOpn
import Derived.Laws.AppendOwnNone
namespace Go.Proofs.Ytpdabmbjnmpgbaa
open Go.Conc Go.RowKit
set_option linter.unusedVariables false

theorem rem40 (n : Int) : 0 ≤ wrap64 ((IntKind.u64.wrap n).tmod 40) ∧ wrap64 ((IntKind.u64.wrap n).tmod 40) < 40 := by
  have h0 : 0 ≤ IntKind.u64.wrap n := by simp only [IntKind.wrap, IntKind.signed]; simp; omega
  have h1 : (IntKind.u64.wrap n).tmod 40 = IntKind.u64.wrap n % 40 := Int.tmod_eq_emod_of_nonneg h0
  rw [h1]
  unfold wrap64
  omega
theorem rdI_of {w : World} {base : Nat} {A : Option Addr} {n c : Nat} {xs : List Int} (h : w.ownsRow base 3 1 (.slice A n c) n (xs.map (Value.int .i64))) : RdI w A xs := by
  obtain ⟨A', cp, hv, _, hr, _⟩ := rdI_own h
  injection hv with h1 h2 h3
  subst h1
  exact hr
section
variable {P : Program} (w : World)
/-- append under a guard that holds. -/
theorem wpList_append_g {ops : Array Oper} {rest : List Oper} {o : Oper} {a : Act} {Q : Exit → Act → World → Prop} (hw : Region.wanted o (yielded ops a.tmps) = true) (s x : Operand) (t : TypeId)
    (ho : o.op = .call { callee := .builtin .append, args := #[s, x], argTypes := #[t, t] })
    (base : Nat) (e : TypeId) (i : TypeInfo) (z : Value) (size bytes : Nat) (ht : P.underlying t = some (.slice e)) (hi : P.info? e = some i) (hz : i.zero = some z)
    (hsize : i.size = size) (hby : i.bytes = bytes) (hzs : z.cells.size = size) (hsz : 0 < size)
    (v : Value) (n : Nat) (xs : List Value) (hs : a.eval s = v) (hown : w.ownsRow base e size v n xs)
    (ad : Addr) (m c : Nat) (news : List Value) (hx : a.eval x = .slice (some ad) m c) (hl : news.length = m * size) (hnews : ∀ j u, news[j]? = some u → w.cell? (ad.add j) = some u) (h1 : ∀ u ∈ news, u.oneCell' = true)
    (h63 : n + m ≤ maxLen) (hbytes : (n + m) * bytes ≤ 140737488355328) (hbase : base ≤ w.heap.size)
    (h : ∀ v' w', w'.ownsRow base e size v' (n + m) (xs ++ news) → w.grownBy w' v.ownBlock → wpList P ops Q rest (a.put o.dst v') w') : wpList P ops Q (o :: rest) a w :=
  wpList_step fun K hK => by
    rw [if_pos hw]
    exact wp_append_own w s x t ho base e i z size bytes ht hi hz hsize hby hzs hsz v n xs hs hown ad m c news hx hl hnews h1 h63 hbytes hbase fun v' w' h2 h3 _ => hK _ _ (h v' w' h2 h3)
theorem wpList_append_gnone {ops : Array Oper} {rest : List Oper} {o : Oper} {a : Act} {Q : Exit → Act → World → Prop} (hw : Region.wanted o (yielded ops a.tmps) = true) (s x : Operand) (t : TypeId)
    (ho : o.op = .call { callee := .builtin .append, args := #[s, x], argTypes := #[t, t] })
    (base : Nat) (e : TypeId) (i : TypeInfo) (size : Nat) (ht : P.underlying t = some (.slice e)) (hi : P.info? e = some i)
    (v : Value) (n : Nat) (xs : List Value) (hs : a.eval s = v) (hown : w.ownsRow base e size v n xs) (hx : a.eval x = .slice none 0 0)
    (h : wpList P ops Q rest (a.put o.dst v) w) : wpList P ops Q (o :: rest) a w :=
  wpList_step fun K hK => by
    rw [if_pos hw]
    have hrun := run_append_owned_none (P := P) (w := w) base t o.type e i size ht hi v n xs hown
    unfold Oper.wp
    simp [execOp, ho, resolve, invoke, builtin, hs, hx, hrun, Result.andThen]
    exact hK _ _ h
end
theorem own_formI {w : World} {base : Nat} {e : TypeId} {size n : Nat} {v : Value} {xs : List Value} (h : w.ownsRow base e size v n xs) : ∃ A cp, v = .slice A n cp := by
  rcases h.2 with ⟨rfl, h2⟩ | ⟨g, cap, cur, rfl, _⟩
  · exact ⟨none, 0, by rw [h2]⟩
  · exact ⟨_, _, rfl⟩
/-- How the law's two queues stand. -/
structure PoS (w wr : World) (g1 c1 cap1 g2 c2 cap2 : Nat) (xs ys : List Int) : Prop where
  p : QI wr g1 c1 cap1 xs
  q : QI wr g2 c2 cap2 ys
  gg : g1 ≠ g2
  cc : c1 ≠ c2
  lo : w.heap.size ≤ g1 ∧ w.heap.size ≤ c1 ∧ w.heap.size ≤ g2 ∧ w.heap.size ≤ c2
  px : xs.length ≤ cap1
  qx : ys.length ≤ cap2
  kept : Kept [] w wr
theorem PoS.next {w wr wj : World} {g1 c1 cap1 g2 c2 cap2 : Nat} {xs ys : List Int} (h : PoS w wr g1 c1 cap1 g2 c2 cap2 xs ys) (k : Kept [] wr wj) : PoS w wj g1 c1 cap1 g2 c2 cap2 xs ys :=
  ⟨h.p.next k (by simp) (by simp), h.q.next k (by simp) (by simp), h.gg, h.cc, h.lo, h.px, h.qx, h.kept.trans k (by simp)⟩
theorem PoS.atp {w wr wj : World} {g1 c1 cap1 g2 c2 cap2 : Nat} {xs xs' ys : List Int} (h : PoS w wr g1 c1 cap1 g2 c2 cap2 xs ys) (hq : QI wj g1 c1 cap1 xs') (hx : xs'.length ≤ cap1) (k : Kept [c1] wr wj) : PoS w wj g1 c1 cap1 g2 c2 cap2 xs' ys :=
  ⟨hq, h.q.next k (by simp; exact fun e => h.p.cross h.q e.symm) (by simp; exact fun e => h.cc e.symm), h.gg, h.cc, h.lo, hx, h.qx, h.kept.trans k (by intro i hi hm; have := h.lo; simp at hm; omega)⟩
theorem PoS.atq {w wr wj : World} {g1 c1 cap1 g2 c2 cap2 : Nat} {xs ys ys' : List Int} (h : PoS w wr g1 c1 cap1 g2 c2 cap2 xs ys) (hq : QI wj g2 c2 cap2 ys') (hy : ys'.length ≤ cap2) (k : Kept [c2] wr wj) : PoS w wj g1 c1 cap1 g2 c2 cap2 xs ys' :=
  ⟨h.p.next k (by simp; exact fun e => h.q.cross h.p e.symm) (by simp; exact h.cc), hq, h.gg, h.cc, h.lo, h.px, hy, h.kept.trans k (by intro i hi hm; have := h.lo; simp at hm; omega)⟩
theorem PoS.both {w wr wj : World} {g1 c1 cap1 g2 c2 cap2 : Nat} {xs ys xs' ys' : List Int} (h : PoS w wr g1 c1 cap1 g2 c2 cap2 xs ys) (hp : QI wj g1 c1 cap1 xs') (hq : QI wj g2 c2 cap2 ys') (hx : xs'.length ≤ cap1) (hy : ys'.length ≤ cap2) {S : List Nat} (k : Kept S wr wj) (hS : ∀ i ∈ S, i = c1 ∨ i = c2) : PoS w wj g1 c1 cap1 g2 c2 cap2 xs' ys' :=
  ⟨hp, hq, h.gg, h.cc, h.lo, hx, hy, h.kept.trans k (by intro i hi hm; have := h.lo; have := hS i hm; omega)⟩

theorem PoS.grown {w wr wj : World} {g1 c1 cap1 g2 c2 cap2 B : Nat} {xs ys : List Int} {row : Option Nat} (h : PoS w wr g1 c1 cap1 g2 c2 cap2 xs ys) (hg : wr.grownBy wj row) (hr : ∀ b, row = some b → B ≤ b) (hB : g1 < B ∧ c1 < B ∧ g2 < B ∧ c2 < B) : PoS w wj g1 c1 cap1 g2 c2 cap2 xs ys :=
  ⟨h.p.notin hg (fun e => by have := hr _ e; omega) (fun e => by have := hr _ e; omega), h.q.notin hg (fun e => by have := hr _ e; omega) (fun e => by have := hr _ e; omega), h.gg, h.cc, h.lo, h.px, h.qx,
    h.kept.grown hg (fun b e => .inr (by have := hr _ e; have := h.lo; omega))⟩
theorem RdI.grown {w w' : World} {A : Option Addr} {xs : List Int} {row : Option Nat} (h : RdI w A xs) (hg : w.grownBy w' row) (hr : ∀ a, A = some a → row ≠ some a.block) : RdI w' A xs := fun i hi => by
  obtain ⟨b, off, rfl, hb, hc⟩ := h i hi
  exact ⟨b, off, rfl, Nat.lt_of_lt_of_le hb hg.size, fun j hj => hg.cell (a := ⟨b, off + j, none⟩) (hc j hj) (fun e => hr _ rfl e.symm)⟩
theorem RdI.blk {w : World} {A : Option Addr} {xs : List Int} (h : RdI w A xs) (hx : xs ≠ []) : ∀ a, A = some a → a.block < w.heap.size := fun a ha => by
  obtain ⟨b, off, rfl, hb, _⟩ := h 0 (List.length_pos_iff.2 hx)
  injection ha with ha
  rw [← ha]
  exact hb
theorem RdI.nil {w : World} (A : Option Addr) : RdI w A [] := fun i hi => by simp at hi
set_option maxRecDepth 100000 in
set_option maxHeartbeats 4000000 in
theorem walk_QueuePours (w : World) (room : Int) (wm : (Lit.int .i64 room).wf = true) (other : Int) (wo : (Lit.int .i64 other).wf = true) (A : Option Addr) (n c : Nat) (zs : List Int) (hI : Ints w A n zs) (wz : ∀ z ∈ zs, (Lit.int .i64 z).wf = true) (hnc : n ≤ c) :
    Calls Try.prog 8 #[.int .i64 room, .int .i64 other, .slice A n c] w (QHolds [] w true) := by
  obtain ⟨i0, hi0, hz0, hz1, hz2⟩ := info_parts infoI
  have hl : n ≤ 9223372036854775807 := hI.2.1
  have HI := hide hI
  obtain ⟨r1, r2⟩ := rem40 room
  obtain ⟨r3, r4⟩ := rem40 other
  clear hI wz hnc
  go_enter Try.func8, Try.ntmps8
  go_wp2_with fail
  obtain ⟨cap1, hcap1⟩ : ∃ cap : Nat, 1 + wrap64 ((IntKind.u64.wrap room).tmod 40) = (cap : Int) := ⟨_, (Int.toNat_of_nonneg (by omega)).symm⟩
  rw [hcap1]
  have a1 : 1 ≤ cap1 := by omega
  have a2 : cap1 ≤ 40 := by omega
  clear hcap1 r1 r2
  refine (newI_yes (cap1 : Int) _ (by omega) (by omega)).mono ?_
  rintro e w1 ⟨rfl, hq, hk⟩
  rw [Int.toNat_natCast] at hq
  have Q1 := hide hq
  have K1 := hide hk
  clear hq hk
  go_wp2_with fail
  obtain ⟨cap2, hcap2⟩ : ∃ cap : Nat, 1 + wrap64 ((IntKind.u64.wrap other).tmod 40) = (cap : Int) := ⟨_, (Int.toNat_of_nonneg (by omega)).symm⟩
  rw [hcap2]
  have b1 : 1 ≤ cap2 := by omega
  have b2 : cap2 ≤ 40 := by omega
  clear hcap2 r3 r4
  refine (newI_yes (cap2 : Int) _ (by omega) (by omega)).mono ?_
  rintro e w2 ⟨rfl, hq, hk⟩
  rw [Int.toNat_natCast] at hq
  have hz := (unhide K1).size
  have hl1 := (unhide Q1).lt
  have hs : PoS w w2 (w.heap.size + 1) w.heap.size cap1 (w1.heap.size + 1) w1.heap.size cap2 [] [] :=
    ⟨(unhide Q1).next hk (by simp) (by simp), hq, by omega, by omega, by omega, by simp, by simp, (unhide K1).trans hk (by simp)⟩
  have S0 := hide hs
  clear hq hk hz hl1 hs
  generalize w1.heap.size + 1 = g2 at *
  generalize w1.heap.size = c2 at *
  generalize w.heap.size + 1 = g1 at *
  obtain ⟨c1, hc1⟩ : ∃ c1, c1 = w.heap.size := ⟨_, rfl⟩
  rw [← hc1] at S0
  clear Q1 hc1
  go_wp2_with fail
  go_loopw [11] (fun i wr => ∃ (k : Nat) (xs : List Int), k ≤ n ∧ k ≤ 40 ∧ xs.length ≤ k ∧ i = .int .i64 k ∧ PoS w wr g1 c1 cap1 g2 c2 cap2 xs []) (fun i _ => 40 - (intOf i).toNat)
  case atStart => exact ⟨0, [], by omega, by omega, by simp, rfl, unhide S0⟩
  case round =>
    obtain ⟨k, xs, hkn, hk40, hxk, rfl, hs⟩ := hrel
    have S1 := hide hs
    clear hs S0
    by_cases hlt : k < n ∧ k < 40
    · obtain ⟨hlt1, hlt2⟩ := hlt
      obtain ⟨b, off, rfl, hb, hc⟩ := (unhide HI).2.2 k hlt1
      have hcell : wr.cell? ⟨b, off + k, none⟩ = some (.int .i64 (zs.getD k 0)) := ((unhide S1).kept.cell (p := ⟨b, off + k, none⟩) hb (by simp)).trans (hc k hlt1)
      clear hc
      generalize zs.getD k 0 = x at *
      by_cases hr : xs.length < cap1
      · have HR := hide hr
        clear hr
        go_wp2_with fail
        refine (putI_yes _ _ _ x _ _ (unhide S1).p (unhide HR)).mono ?_
        rintro e w3 ⟨rfl, hq, hk⟩
        have S3 := hide ((unhide S1).atp hq (by have := unhide HR; simp; omega) hk)
        clear hq hk hcell
        go_wp2
        exact ⟨⟨k + 1, _, by omega, by omega, by simp; omega, by go_num, unhide S3⟩, by simp [intOf]; omega⟩
      · have HR : Hid (cap1 ≤ xs.length) := hide (by omega)
        clear hr
        go_wp2_with fail
        refine (putI_no _ _ _ x _ _ (unhide S1).p (unhide HR)).mono ?_
        rintro e w' ⟨rfl, rfl⟩
        go_wp2
        exact ⟨⟨k + 1, _, by omega, by omega, by omega, by go_num, unhide S1⟩, by simp [intOf]; omega⟩
    · have hcase : (k < n ∧ ¬ k < 40) ∨ ¬ k < n := by omega
      have x40 : xs.length ≤ 40 := by omega
      clear hlt
      rcases hcase with ⟨hx1, hx2⟩ | hx1
      all_goals
        go_wp2_with fail
        refine (allI_any _ _ _ _ _ (unhide S1).p (unhide S1).px (by omega)).mono ?_
        rintro e w3 ⟨v, rfl, hown, hq, hk⟩
        obtain ⟨Aw, cw, rfl, hcw, hrd, hA⟩ := rdI_own hown
        have S3 := hide ((unhide S1).atp hq (unhide S1).px hk)
        have RW := hide hrd
        have hAw : ∀ a, Aw = some a → a.block ≠ c1 ∧ a.block ≠ c2 := by
          intro a ha
          have h1 := hA a ha
          have h2 := (unhide S1).p.lt
          have h3 := (unhide S1).q.lt
          omega
        have HAW := hide hAw
        clear hown hq hk hcw hrd hA hAw S1
        by_cases hm : xs.length ≤ cap2
        · go_wp2_with fail
          refine (pour_any _ _ _ _ _ _ xs.length xs [] _ (unhide S3).p (unhide S3).q (unhide S3).gg (unhide S3).cc (by simp; omega) (by omega) (by simp)).mono ?_
          rintro e w4 ⟨rfl, hp4, hq4, hk4⟩
          rw [List.drop_of_length_le (Nat.le_refl _)] at hp4
          rw [List.take_of_length_le (Nat.le_refl _), List.nil_append] at hq4
          have S4 := hide ((unhide S3).both hp4 hq4 (by simp) hm hk4 (by simp))
          have RW4 := hide ((unhide RW).kept hk4 (by intro a ha; have := unhide HAW a ha; simp; omega))
          clear hp4 hq4 hk4
          go_wp2_with fail
          refine (roomI_any _ _ _ _ _ (unhide S4).q).mono ?_
          rintro e w' ⟨rfl, rfl⟩
          have hmin : ¬ cap2 < xs.length := by omega
          go_wp2_with fail
          refine (allI_any _ _ _ _ _ (unhide S4).q (unhide S4).qx (by omega)).mono ?_
          rintro e w5 ⟨v5, rfl, hown5, hq5, hk5⟩
          obtain ⟨A5, cp5, rfl, hcp5, hrd5, hA5⟩ := rdI_own hown5
          have z4 := (unhide S4).p.lt
          have S5 := hide ((unhide S4).atq hq5 (unhide S4).qx hk5)
          have RW5 := hide ((unhide RW4).kept hk5 (by intro a ha; have := unhide HAW a ha; simp; omega))
          have O5 := hide hown5
          have z5 := hk5.size
          clear hown5 hq5 hk5 hcp5 hrd5 hA5
          go_wp2_with fail
          refine (allI_any _ _ _ _ _ (unhide S5).p (unhide S5).px (by omega)).mono ?_
          rintro e w6 ⟨v6, rfl, hown6, hq6, hk6⟩
          have S6 := hide ((unhide S5).atp hq6 (unhide S5).px hk6)
          have RW6 := hide ((unhide RW5).kept hk6 (by intro a ha; have := unhide HAW a ha; simp; omega))
          have O6 := hide (hk6.own (unhide O5) (by intro bb hbb; have := (unhide O5).lt bb hbb; simp; omega))
          have z6 := hk6.size
          have z7 := (unhide S4).q.lt
          have hov := hown6
          rcases hown6.2 with ⟨rfl, hq0⟩ | ⟨gb, capb, curb, rfl, hbb, _⟩
          · have RX := hide (rdI_of (unhide O6))
            have SX := S6
            have RWX := RW6
            clear hown6 hq6 hk6 hov
            go_wp2_with (refine wpList_append_gnone _ (by rfl) _ _ 22 rfl w4.heap.size 3 i0 1 Try.underlying22 hi0 _ _ _ rfl (unhide O6) rfl ?_)
            refine (same_n _ _ _ _ _ xs _ (unhide RX) (unhide RWX) (by rfl) (by omega)).mono ?_
            rintro e w8 ⟨rfl, hk8⟩
            have S8 := hide ((unhide SX).next hk8)
            have RW8 := hide ((unhide RWX).kept hk8 (by simp))
            clear hk8
            go_wp2_with fail
            refine (lenI_any _ _ _ _ _ (unhide S8).p).mono ?_
            rintro e w' ⟨rfl, rfl⟩
            go_wp2_with fail
            refine (lenI_any _ _ _ _ _ (unhide S8).q).mono ?_
            rintro e w' ⟨rfl, rfl⟩
            go_wp2_with fail
            refine (lenI_any _ _ _ _ _ (unhide S8).p).mono ?_
            rintro e w' ⟨rfl, rfl⟩
            go_wp2_with fail
            refine (known15 _).mono ?_
            rintro e w9 ⟨rfl, hk9⟩
            have S9 := hide ((unhide S8).next hk9)
            have RW9 := hide ((unhide RW8).kept hk9 (by simp))
            clear hk9
            go_wp2_with fail
            refine (pour_any _ _ _ _ _ _ xs.length xs [] _ (unhide S9).q (unhide S9).p (fun e => (unhide S9).gg e.symm) (fun e => (unhide S9).cc e.symm) (by have := (unhide S3).px; simp; omega) (by omega) (by simp)).mono ?_
            rintro e wA ⟨rfl, hpA, hqA, hkA⟩
            rw [List.drop_of_length_le (Nat.le_refl _)] at hpA
            rw [List.take_of_length_le (Nat.le_refl _), List.nil_append] at hqA
            have SA := hide ((unhide S9).both hqA hpA (unhide S3).px (by simp) hkA (by intro i hi; simp at hi; omega))
            have RWA := hide ((unhide RW9).kept hkA (by intro a ha; have := unhide HAW a ha; simp; omega))
            clear hpA hqA hkA
            go_wp2_with fail
            refine (allI_any _ _ _ _ _ (unhide SA).p (unhide SA).px (by omega)).mono ?_
            rintro e wB ⟨vB, rfl, hownB, hqB, hkB⟩
            obtain ⟨AB, cpB, rfl, hcpB, hrdB, hAB⟩ := rdI_own hownB
            have SB := hide ((unhide SA).atp hqB (unhide SA).px hkB)
            have RB := hide hrdB
            have RWB := hide ((unhide RWA).kept hkB (by intro a ha; have := unhide HAW a ha; simp; omega))
            clear hownB hqB hkB hcpB hrdB hAB
            go_wp2_with fail
            refine (same_n _ _ _ _ _ xs _ (unhide RB) (unhide RWB) (by rfl) (by omega)).mono ?_
            rintro e wC ⟨rfl, hkC⟩
            have SC := hide ((unhide SB).next hkC)
            clear hkC
            go_wp2_with fail
            refine (lenI_any _ _ _ _ _ (unhide SC).q).mono ?_
            rintro e w' ⟨rfl, rfl⟩
            go_wp2
            go_ret
            exact ⟨rfl, (unhide SC).kept⟩

          · have hca := hov.cells (g := gb) rfl
            have HCA := hide hca
            clear hown6 hq6 hk6 hov hca
            go_wp2_with (refine wpList_append_g _ (by rfl) _ _ 22 rfl w4.heap.size 3 i0 (.int .i64 0) 1 8 Try.underlying22 hi0 hz0 hz1 hz2 rfl (by decide) _ _ _ rfl (unhide O6) ⟨gb, 0, none⟩ 0 capb (([] : List Int).map (Value.int .i64)) rfl (by simp) (unhide HCA) (by simp [Value.oneCell']) (by unfold maxLen; omega) (by omega) (by omega) ?_; intro v7 w7 hown7 hgrow7; obtain ⟨A7, c7, rfl⟩ := own_formI hown7)
            have hown8 : w7.ownsRow w4.heap.size 3 1 (.slice A7 xs.length c7) xs.length (xs.map (Value.int .i64)) := by simpa using hown7
            have RX := hide (rdI_of hown8)
            have SX := hide ((unhide S6).grown hgrow7 (B := w4.heap.size) (fun b hb => ((unhide O6).lt b hb).1) ⟨z4.1, z4.2, z7.1, z7.2⟩)
            have RWX : Hid (RdI w7 Aw xs) := by
              by_cases hxe : xs = []
              · rw [hxe]; exact RdI.nil _
              · exact (unhide RW6).grown hgrow7 (fun a ha e => by have h1 := ((unhide O6).lt _ e).1; have h2 := (unhide RW4).blk hxe a ha; omega)
            clear hown7 hown8 hgrow7
            refine (same_n _ _ _ _ _ xs _ (unhide RX) (unhide RWX) (by rfl) (by omega)).mono ?_
            rintro e w8 ⟨rfl, hk8⟩
            have S8 := hide ((unhide SX).next hk8)
            have RW8 := hide ((unhide RWX).kept hk8 (by simp))
            clear hk8
            go_wp2_with fail
            refine (lenI_any _ _ _ _ _ (unhide S8).p).mono ?_
            rintro e w' ⟨rfl, rfl⟩
            go_wp2_with fail
            refine (lenI_any _ _ _ _ _ (unhide S8).q).mono ?_
            rintro e w' ⟨rfl, rfl⟩
            go_wp2_with fail
            refine (lenI_any _ _ _ _ _ (unhide S8).p).mono ?_
            rintro e w' ⟨rfl, rfl⟩
            go_wp2_with fail
            refine (known15 _).mono ?_
            rintro e w9 ⟨rfl, hk9⟩
            have S9 := hide ((unhide S8).next hk9)
            have RW9 := hide ((unhide RW8).kept hk9 (by simp))
            clear hk9
            go_wp2_with fail
            refine (pour_any _ _ _ _ _ _ xs.length xs [] _ (unhide S9).q (unhide S9).p (fun e => (unhide S9).gg e.symm) (fun e => (unhide S9).cc e.symm) (by have := (unhide S3).px; simp; omega) (by omega) (by simp)).mono ?_
            rintro e wA ⟨rfl, hpA, hqA, hkA⟩
            rw [List.drop_of_length_le (Nat.le_refl _)] at hpA
            rw [List.take_of_length_le (Nat.le_refl _), List.nil_append] at hqA
            have SA := hide ((unhide S9).both hqA hpA (unhide S3).px (by simp) hkA (by intro i hi; simp at hi; omega))
            have RWA := hide ((unhide RW9).kept hkA (by intro a ha; have := unhide HAW a ha; simp; omega))
            clear hpA hqA hkA
            go_wp2_with fail
            refine (allI_any _ _ _ _ _ (unhide SA).p (unhide SA).px (by omega)).mono ?_
            rintro e wB ⟨vB, rfl, hownB, hqB, hkB⟩
            obtain ⟨AB, cpB, rfl, hcpB, hrdB, hAB⟩ := rdI_own hownB
            have SB := hide ((unhide SA).atp hqB (unhide SA).px hkB)
            have RB := hide hrdB
            have RWB := hide ((unhide RWA).kept hkB (by intro a ha; have := unhide HAW a ha; simp; omega))
            clear hownB hqB hkB hcpB hrdB hAB
            go_wp2_with fail
            refine (same_n _ _ _ _ _ xs _ (unhide RB) (unhide RWB) (by rfl) (by omega)).mono ?_
            rintro e wC ⟨rfl, hkC⟩
            have SC := hide ((unhide SB).next hkC)
            clear hkC
            go_wp2_with fail
            refine (lenI_any _ _ _ _ _ (unhide SC).q).mono ?_
            rintro e w' ⟨rfl, rfl⟩
            go_wp2
            go_ret
            exact ⟨rfl, (unhide SC).kept⟩

        · go_wp2_with fail
          refine (pour_any _ _ _ _ _ _ cap2 xs [] _ (unhide S3).p (unhide S3).q (unhide S3).gg (unhide S3).cc (by simp; omega) (by omega) (by simp)).mono ?_
          rintro e w4 ⟨rfl, hp4, hq4, hk4⟩
          rw [List.nil_append] at hq4
          have hcat : xs.take cap2 ++ xs.drop cap2 = xs := List.take_append_drop _ _
          have lq : (xs.take cap2).length = cap2 := by simp; omega
          have lp : (xs.drop cap2).length + cap2 = xs.length := by simp; omega
          generalize xs.take cap2 = XQ at *
          generalize xs.drop cap2 = XP at *
          have HCAT := hide hcat
          have HLQ := hide lq
          have HLP := hide lp
          have px : XP.length ≤ cap1 := by have := (unhide S3).px; omega
          have S4 := hide ((unhide S3).both hp4 hq4 px (by omega) hk4 (by simp))
          have RW4 := hide ((unhide RW).kept hk4 (by intro a ha; have := unhide HAW a ha; simp; omega))
          have hxq : XQ.length ≤ 40 := by omega
          have hxp : XP.length ≤ 40 := by omega
          have hxp0 : 0 < XP.length := by omega
          clear hp4 hq4 hk4 hcat lq lp
          go_wp2_with fail
          refine (roomI_any _ _ _ _ _ (unhide S4).q).mono ?_
          rintro e w' ⟨rfl, rfl⟩
          have hmin : cap2 < xs.length := by omega
          go_wp2_with fail
          refine (allI_any _ _ _ _ _ (unhide S4).q (unhide S4).qx (by omega)).mono ?_
          rintro e w5 ⟨v5, rfl, hown5, hq5, hk5⟩
          obtain ⟨A5, cp5, rfl, hcp5, hrd5, hA5⟩ := rdI_own hown5
          have z4 := (unhide S4).p.lt
          have S5 := hide ((unhide S4).atq hq5 (unhide S4).qx hk5)
          have RW5 := hide ((unhide RW4).kept hk5 (by intro a ha; have := unhide HAW a ha; simp; omega))
          have O5 := hide hown5
          have z5 := hk5.size
          clear hown5 hq5 hk5 hcp5 hrd5 hA5
          go_wp2_with fail
          refine (allI_any _ _ _ _ _ (unhide S5).p (unhide S5).px (by omega)).mono ?_
          rintro e w6 ⟨v6, rfl, hown6, hq6, hk6⟩
          have S6 := hide ((unhide S5).atp hq6 (unhide S5).px hk6)
          have RW6 := hide ((unhide RW5).kept hk6 (by intro a ha; have := unhide HAW a ha; simp; omega))
          have O6 := hide (hk6.own (unhide O5) (by intro bb hbb; have := (unhide O5).lt bb hbb; simp; omega))
          have z6 := hk6.size
          have z7 := (unhide S4).q.lt
          have hov := hown6
          rcases hown6.2 with ⟨rfl, hq0⟩ | ⟨gb, capb, curb, rfl, hbb, _⟩
          · exfalso
            omega
          · have hca := hov.cells (g := gb) rfl
            have HCA := hide hca
            have e9 : XQ.length + XP.length = xs.length := by have h1 := unhide HLQ; have h2 := unhide HLP; omega
            have E9 := hide e9
            clear hown6 hq6 hk6 hov hca e9
            go_wp2_with (refine wpList_append_g _ (by rfl) _ _ 22 rfl w4.heap.size 3 i0 (.int .i64 0) 1 8 Try.underlying22 hi0 hz0 hz1 hz2 rfl (by decide) _ _ _ rfl (unhide O6) ⟨gb, 0, none⟩ XP.length capb (XP.map (Value.int .i64)) rfl (by simp) (unhide HCA) (by simp [Value.oneCell']) (by unfold maxLen; omega) (by omega) (by omega) ?_; intro v7 w7 hown7 hgrow7; obtain ⟨A7, c7, rfl⟩ := own_formI hown7)
            have hown8 : w7.ownsRow w4.heap.size 3 1 (.slice A7 xs.length c7) xs.length (xs.map (Value.int .i64)) := by rw [← unhide E9, ← unhide HCAT, List.map_append]; exact hown7
            have RX := hide (rdI_of hown8)
            have SX := hide ((unhide S6).grown hgrow7 (B := w4.heap.size) (fun b hb => ((unhide O6).lt b hb).1) ⟨z4.1, z4.2, z7.1, z7.2⟩)
            have hxe : xs ≠ [] := by intro e; rw [e] at hm; simp at hm
            have RWX : Hid (RdI w7 Aw xs) := hide ((unhide RW6).grown hgrow7 (fun a ha e => by have h1 := ((unhide O6).lt _ e).1; have h2 := (unhide RW4).blk hxe a ha; omega))
            clear hown7 hown8 hgrow7 hxe
            rw [unhide E9]
            refine (same_n _ _ _ _ _ xs _ (unhide RX) (unhide RWX) (by rfl) (by omega)).mono ?_
            rintro e w8 ⟨rfl, hk8⟩
            have S8 := hide ((unhide SX).next hk8)
            clear hk8
            have hne : (((XP.length : Nat) : Int) + ((XQ.length : Nat) : Int) != ((xs.length : Nat) : Int)) = false := by have := unhide E9; simp; omega
            go_wp2_with fail
            refine (lenI_any _ _ _ _ _ (unhide S8).p).mono ?_
            rintro e w' ⟨rfl, rfl⟩
            go_wp2_with fail
            refine (lenI_any _ _ _ _ _ (unhide S8).q).mono ?_
            rintro e w' ⟨rfl, rfl⟩
            go_wp2_with fail
            refine (lenI_any _ _ _ _ _ (unhide S8).p).mono ?_
            rintro e w' ⟨rfl, rfl⟩
            go_wp2_with fail
            refine (known15 _).mono ?_
            rintro e w9 ⟨rfl, hk9⟩
            go_wp2
            go_ret
            exact ⟨rfl, (unhide S8).kept.trans hk9 (by simp)⟩

end Go.Proofs.Ytpdabmbjnmpgbaa
