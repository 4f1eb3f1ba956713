/-
  The document's grams: Of and Same.
-/
import Derived.Test.YtpdabmbjnmpgbaaDsg
import Derived.Deep.RegionLaw
namespace Go.Proofs.Ytpdabmbjnmpgbaa
open Go.Conc Go.RowKit
set_option linter.unusedVariables false
theorem step_append_str {ops : Array Oper} {o : Oper} {a : Act} {w : World} {K : Act → World → Prop} {Q : Exit → Act → World → Prop} {E : Prop}
    (hg : o.guard = none) (s x : Operand) (ho : o.op = .call { callee := .builtin .append, args := #[s, x], argTypes := #[30, 30] })
    (base n : Nat) (v : Value) (xs : List ByteArray) (hs : a.eval s = v) (hown : w.ownsRow base 9 1 v n (xs.map Value.string))
    (g c : Nat) (key : ByteArray) (hx : a.eval x = .slice (some ⟨g, 0, none⟩) 1 c) (hc : w.cell? ⟨g, 0, none⟩ = some (.string key)) (h63 : n + 1 ≤ 1024) (hbase : base ≤ w.heap.size)
    (h : ∀ A' c' w', w'.ownsRow base 9 1 (.slice A' (n + 1) c') (n + 1) ((xs ++ [key]).map Value.string) → w.grownBy w' v.ownBlock → K (a.put o.dst (.slice A' (n + 1) c')) w') :
    if Region.wanted o (yielded ops a.tmps) = true then Oper.wp Try.prog o a w K Q else E := by
  have hw : Region.wanted o (yielded ops a.tmps) = true := by simp [Region.wanted, hg]
  rw [if_pos hw]
  obtain ⟨i0, hi0, hz0, hz1, hz2⟩ := info_parts infoS
  refine wp_append_own w s x 30 ho base 9 i0 (.string ⟨#[]⟩) 1 16 Try.underlying30 hi0 hz0 hz1 hz2 rfl (by decide) v n _ hs hown ⟨g, 0, none⟩ 1 c [.string key] hx rfl ?_ (by simp [Value.oneCell']) (by unfold maxLen; omega) (by omega) hbase ?_
  · intro j u hj
    cases j with
    | zero =>
      simp at hj
      rw [← hj]
      simpa [Addr.add] using hc
    | succ j => simp at hj
  · intro v' w' h1 h2 _
    obtain ⟨A', c', rfl⟩ := own_form h1
    exact h A' c' w' (by simpa using h1) h2
theorem grown_obj {w w' : World} {row : Option Nat} {g : Nat} {o : Obj} (hg : w.grownBy w' row) (h : w.heap[g]? = some o) (hr : row = some g → False) : w'.heap[g]? = some o := (hg.block g (heap_lt h) (fun e => hr e.symm)).trans h
/-- How Of's loop stands behind j keys. -/
structure OfR (w wr : World) (b1 b2 b3 base : Nat) (ack st r c first : Int) (A : Option Addr) (ks : List ByteArray) (cp j : Nat) (B : Option Addr) (cq : Nat) : Prop where
  kept : Kept [b3] w wr
  lo : base ≤ wr.heap.size
  own : wr.ownsRow base 9 1 (.slice B j cq) j ((ks.take j).map Value.string)
  o3 : wr.heap[b3]? = some (GdO ack st r c first B j cq)
theorem OfR.step {w wr w' : World} {b1 b2 b3 : Nat} {ack st r c first : Int} {A B A' : Option Addr} {ks : List ByteArray} {cp j cq c' : Nat} {o : Obj} {key : ByteArray} (h : OfR w wr b1 b2 b3 w.heap.size ack st r c first A ks cp j B cq)
    (hg : (wr.drew.alloc o).grownBy w' (Value.slice B j cq).ownBlock) (ho : w'.ownsRow w.heap.size 9 1 (.slice A' (j + 1) c') (j + 1) ((ks.take j ++ [key]).map Value.string)) (h3 : w'.heap[b3]? = some (GdO ack st r c first B j cq)) (hs : ks.take (j + 1) = ks.take j ++ [key]) (hb : b3 < w.heap.size) :
    OfR w (w'.setCell ⟨b3, 5, none⟩ (.slice A' (j + 1) c')) b1 b2 b3 w.heap.size ack st r c first A ks cp (j + 1) A' c' := by
  have k1 : Kept [b3] w w' := ((h.kept.drew).alloc o).grown hg (fun g e => .inr (h.own.lt g e).1)
  have kp : Kept [b3] w' (w'.setCell ⟨b3, 5, none⟩ (.slice A' (j + 1) c')) := (Kept.refl _ _).setCell (.inl (by simp)) _
  refine ⟨k1.trans kp (by intro i _ hi; exact hi), Nat.le_trans k1.size kp.size, ?_, ?_⟩
  · rw [hs]
    exact kp.own ho (fun g e => by have := (ho.lt g e).1; simp; omega)
  · have := obj_set h3 5 (.slice A' (j + 1) c')
    simpa [GdO] using this
theorem take_snocB (ks : List ByteArray) (j : Nat) (h : j < ks.length) : ks.take (j + 1) = ks.take j ++ [ks.getD j ByteArray.empty] := by
  rw [List.take_succ_eq_append_getElem h, List.getD_eq_getElem?_getD, List.getElem?_eq_getElem h]
  rfl
def OfOk (w : World) (ack st r c first : Int) (ks : List ByteArray) (e : Ending) (w' : World) : Prop :=
  ∃ B cq, e = .returned (gV ack st r c first B ks.length cq) ∧ DocS w' B ks.length cq ks ∧ Kept [] w w'
set_option maxRecDepth 100000 in
set_option maxHeartbeats 2000000 in
theorem of14 (ack st r c first : Int) (A : Option Addr) (cp base0 : Nat) (ks : List ByteArray) (w : World) (h : KRows w base0 A ks) (hl : ks.length ≤ 64) (hk : ∀ k ∈ ks, 1 ≤ ByteArray.size k ∧ ByteArray.size k ≤ 8) :
    Calls Try.prog 91 #[.agg #[.int .u64 ack, .int .u64 st, .int .i64 r, .int .i64 c, .int .u64 first, .slice A ks.length cp]] w (OfOk w ack st r c first ks) := by
  have H := hide h
  have HL := hide hl
  have HKS := hide hk
  have hn9 : ks.length ≤ 9223372036854775807 := by omega
  clear h hk
  go_enter Try.func91, Try.ntmps91
  go_upto_block 0 with (fail)
  have h1 : ((((w.alloc (GmO ack st r c first A ks.length cp)).alloc (GdO 0 0 0 0 0 none 0 0)).alloc (GdO ack st r c first none 0 0))).heap[w.heap.size]? = some (GmO ack st r c first A ks.length cp) := obj_alloc (obj_alloc (obj_new _ _) _) _
  have h2 : ((((w.alloc (GmO ack st r c first A ks.length cp)).alloc (GdO 0 0 0 0 0 none 0 0)).alloc (GdO ack st r c first none 0 0))).heap[w.heap.size + 1]? = some (GdO 0 0 0 0 0 none 0 0) := obj_alloc (obj_new2 _ _ _) _
  have h3 : ((((w.alloc (GmO ack st r c first A ks.length cp)).alloc (GdO 0 0 0 0 0 none 0 0)).alloc (GdO ack st r c first none 0 0))).heap[w.heap.size + 1 + 1]? = some (GdO ack st r c first none 0 0) := obj_new3 _ _ _ _
  have hK : Kept [] w ((((w.alloc (GmO ack st r c first A ks.length cp)).alloc (GdO 0 0 0 0 0 none 0 0)).alloc (GdO ack st r c first none 0 0))) := (((Kept.refl [] w).alloc _).alloc _).alloc _
  change Code.wp _ _ _ _ ((((w.alloc (GmO ack st r c first A ks.length cp)).alloc (GdO 0 0 0 0 0 none 0 0)).alloc (GdO ack st r c first none 0 0)))
  generalize ((((w.alloc (GmO ack st r c first A ks.length cp)).alloc (GdO 0 0 0 0 0 none 0 0)).alloc (GdO ack st r c first none 0 0))) = wA at *
  generalize hb3 : w.heap.size + 1 + 1 = b3 at *
  generalize hb2 : w.heap.size + 1 = b2 at *
  generalize hb1 : w.heap.size = b1 at *
  have HBS : Hid (w.heap.size = b1 ∧ b1 < b2 ∧ b2 < b3 ∧ b3 < wA.heap.size) := hide ⟨hb1, by omega, by omega, heap_lt h3⟩
  have H1 := hide h1
  have H2 := hide h2
  have H3 := hide h3
  have HK := hide hK
  clear h1 h2 h3 hK hb1 hb2 hb3
  go_cut [] (fun wx => ∃ (B : Option Addr) (cq : Nat), OfR wA wx b1 b2 b3 wA.heap.size ack st r c first A ks cp ks.length B cq)
  case first =>
    go_wp2_with fail
    go_loopw [4] (fun i wr => ∃ (j : Nat) (B : Option Addr) (cq : Nat), j ≤ ks.length ∧ i = .int .i64 j ∧ OfR wA wr b1 b2 b3 wA.heap.size ack st r c first A ks cp j B cq) (fun i _ => ks.length - (intOf i).toNat)
    case atStart => exact ⟨0, none, 0, Nat.zero_le _, rfl, Kept.refl _ _, Nat.le_refl _, by simpa using World.ownsRow_nil wA wA.heap.size 9 1, unhide H3⟩
    case round =>
      obtain ⟨j, B, cq, hjl, rfl, hR⟩ := hrel
      have HB := unhide HBS
      have o1 := hR.kept.obj (unhide H1) (by simp; omega)
      have x5 := obj_cell o1 5
      have y5 := obj_cell hR.o3 5
      have yz := obj_frozen hR.o3
      by_cases hlt : j < ks.length
      · obtain ⟨b, off, v, hAe, hb1, hb2, hb3, bk, cpk, rfl, h4, h5, h6, h7⟩ := (unhide H) j hlt
        subst hAe
        have hks := (unhide HKS) (ks.getD j ByteArray.empty) (by rw [List.getD_eq_getElem?_getD, List.getElem?_eq_getElem hlt]; exact List.getElem_mem hlt)
        have kw : Kept [b3] w wr := ((unhide HK).mono (by simp)).trans hR.kept (by intro i _ hi; exact hi)
        have hc := (kw.cell (p := ⟨b, off + j, none⟩) hb2 (by simp; omega)).trans hb3
        have hby := (h7.kept kw (by simp; omega)).kept ((Kept.refl [] wr).drew) (by simp)
        have hcv := conv_byt (c := cpk) hby (by omega)
        rw [str_nums] at hcv
        have hsn := take_snocB ks j hlt
        have hown := hR.own
        generalize ks.getD j ByteArray.empty = key at *
        have HSN := hide hsn
        have RR := hide hR
        have HOWN := hide (((Kept.refl [] wr).drew).own hown (by simp))
        have HB3 := hide HB
        have HNE : (Value.slice B j cq).ownBlock = some b3 → False := fun e => by have h1 := (hown.lt b3 e).1; have h2 := HB; omega
        have hjb : j + 1 ≤ 1024 := by omega
        have hlo := hR.lo
        have y3l : b3 < wr.heap.size := heap_lt hR.o3
        clear hb1 hb2 hb3 h4 h5 h6 h7 kw hby hsn hR hown o1 HB
        go_wp2_with fail
        go_region_law (refine step_append_str rfl _ _ rfl wA.heap.size j (.slice B j cq) (ks.take j) rfl (((Kept.refl [] _).alloc _).own (unhide HOWN) (by simp)) wr.heap.size 1 key rfl (by first | exact obj_cell (obj_new wr.drew _) 0 | simp) hjb (by simp; omega) ?_; intro A' c' w' hown' hgrow; have ho3 := grown_obj hgrow (obj_alloc (show wr.drew.heap[b3]? = some (GdO ack st r c first B j cq) from (unhide RR).o3) _) HNE; have q5 := obj_cell ho3 5; have qz := obj_frozen ho3; have HO3 := hide ho3; have HOW2 := hide hown'; have HGR := hide hgrow; clear ho3 hown' hgrow)
        all_goals
          have R4 := hide ((unhide RR).step (unhide HGR) (unhide HOW2) (unhide HO3) (unhide HSN) (unhide HB3).2.2.2)
          clear q5 qz HNE hcv hc x5 y5 yz
          go_wp2_with fail
          exact ⟨⟨j + 1, A', c', by omega, by go_num, unhide R4⟩, by simp [intOf]; omega⟩
      · have hjk : j = ks.length := by omega
        subst hjk
        have RR := hide hR
        clear hR o1 HB
        go_wp2_with fail
        go_meet
        exact ⟨B, cq, unhide RR⟩
  case rest =>
    obtain ⟨B, cq, hR⟩ := hcut
    have hb := unhide HBS
    have h2 := hR.kept.obj (unhide H2) (by simp; omega)
    have kw : Kept [] w wc := (unhide HK).trans hR.kept (by intro i hi hm; simp at hm; omega)
    obtain ⟨A3, cp3, hv, hd⟩ := docS_own (xs := ks) (by have := hR.own; rwa [List.take_of_length_le (Nat.le_refl _)] at this)
    injection hv with hv1 hv2 hv3
    subst hv1 hv3
    clear hv2
    have hB : ∀ a, B = some a → wA.heap.size ≤ a.block := by rintro a rfl; exact (hR.own.lt _ rfl).1
    obtain ⟨g0, g1, g2, g3, g4, g5, gz, gl⟩ := GdO.get hR.o3
    obtain ⟨z0, z1, z2, z3, z4, z5, zz, zl⟩ := GdO.get h2
    have n1 : ¬ b2 = b3 := by omega
    have n2 : ¬ b3 = b2 := by omega
    have KW := hide kw
    have HD := hide hd
    have HBB := hide hB
    clear hR h2 kw hd hB hb
    go_wp2
    refine bodyPost_ret (v := gV ack st r c first B ks.length cq) (by simp [results, Try.results91, go_sem, gV, z0, z1, z2, z3, z4, z5]) rfl ?_
    have hb := unhide HBS
    have kp : Kept [b2] wc (gput wc b2 ack st r c first B ks.length cq) := gput_kept (Kept.refl _ _) (.inl (by simp)) _ _ _ _ _ _ _ _
    exact ⟨B, cq, rfl, (unhide HD).kept kp (fun a ha => by have := unhide HBB a ha; simp; omega), (unhide KW).trans kp (by intro i hi hm; simp at hm; omega)⟩
end Go.Proofs.Ytpdabmbjnmpgbaa
