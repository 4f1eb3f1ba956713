/-
  The document's sender: Gram.
-/
import Derived.Test.YtpdabmbjnmpgbaaDsc
namespace Go.Proofs.Ytpdabmbjnmpgbaa
open Go.Conc Go.RowKit
set_option linter.unusedVariables false
def gV (ack st r c first : Int) (B : Option Addr) (m cq : Nat) : Value := .agg #[.int .u64 ack, .int .u64 st, .int .i64 r, .int .i64 c, .int .u64 first, .slice B m cq]
def GdO (ack st r c first : Int) (B : Option Addr) (m cq : Nat) : Obj := .cells #[.int .u64 ack, .int .u64 st, .int .i64 r, .int .i64 c, .int .u64 first, .slice B m cq] 149 (0, 0)
theorem GdO.get {w : World} {g : Nat} {ack st r c first : Int} {B : Option Addr} {m cq : Nat} (h : w.heap[g]? = some (GdO ack st r c first B m cq)) :
    w.cell? ⟨g, 0, none⟩ = some (.int .u64 ack) ∧ w.cell? ⟨g, 1, none⟩ = some (.int .u64 st) ∧ w.cell? ⟨g, 2, none⟩ = some (.int .i64 r) ∧ w.cell? ⟨g, 3, none⟩ = some (.int .i64 c) ∧ w.cell? ⟨g, 4, none⟩ = some (.int .u64 first) ∧ w.cell? ⟨g, 5, none⟩ = some (.slice B m cq) ∧ (∀ i, w.frozen? ⟨g, i, none⟩ = false) ∧ g < w.heap.size :=
  ⟨obj_cell h 0, obj_cell h 1, obj_cell h 2, obj_cell h 3, obj_cell h 4, obj_cell h 5, obj_frozen h, heap_lt h⟩
theorem gputD_obj {w : World} {G : Nat} {a0 b0 c0 d0 e0 : Int} {A0 : Option Addr} {n0 cp0 : Nat} (h : w.heap[G]? = some (GdO a0 b0 c0 d0 e0 A0 n0 cp0)) (ack stamp rows cols first : Int) (A : Option Addr) (n cp : Nat) : (gput w G ack stamp rows cols first A n cp).heap[G]? = some (GdO ack stamp rows cols first A n cp) := by
  have h0 := obj_set h 0 (.int .u64 ack)
  have h1 := obj_set h0 1 (.int .u64 stamp)
  have h2 := obj_set h1 2 (.int .i64 rows)
  have h3 := obj_set h2 3 (.int .i64 cols)
  have h4 := obj_set h3 4 (.int .u64 first)
  have h5 := obj_set h4 5 (.slice A n cp)
  simpa [GdO, gput] using h5
def dset (w : World) (b n : Nat) (now : Int) : World := (((w.setCell ⟨b, 1, none⟩ (.int .i64 (n : Int))).setCell ⟨b, 3, none⟩ (.int .u64 now)).setCell ⟨b, 4, none⟩ (.bool true)).setCell ⟨b, 5, none⟩ (.bool false)
theorem dset_obj {w : World} {b : Nat} {A : Option Addr} {n cp se ac : Nat} {la : Int} {be ask : Bool} (h : w.heap[b]? = some (DsO A n cp se ac la be ask)) (now : Int) : (dset w b n now).heap[b]? = some (DsO A n cp n ac now true false) := by
  have h1 := obj_set h 1 (.int .i64 (n : Int))
  have h3 := obj_set h1 3 (.int .u64 now)
  have h4 := obj_set h3 4 (.bool true)
  have h5 := obj_set h4 5 (.bool false)
  simpa [DsO, dset] using h5
theorem dset_kept {S : List Nat} {a w : World} {b : Nat} (h : Kept S a w) (hg : b ∈ S ∨ a.heap.size ≤ b) (n : Nat) (now : Int) : Kept S a (dset w b n now) := (((h.setCell hg _).setCell hg _).setCell hg _).setCell hg _
def dput (w : World) (b : Nat) (A : Option Addr) (n cp se ac : Nat) (la : Int) (be ask : Bool) : World := (((((w.setCell ⟨b, 0, none⟩ (.slice A n cp)).setCell ⟨b, 1, none⟩ (.int .i64 (se : Int))).setCell ⟨b, 2, none⟩ (.int .i64 (ac : Int))).setCell ⟨b, 3, none⟩ (.int .u64 la)).setCell ⟨b, 4, none⟩ (.bool be)).setCell ⟨b, 5, none⟩ (.bool ask)
theorem dput_obj {w : World} {b : Nat} {A A' : Option Addr} {n cp se ac n' cp' se' ac' : Nat} {la la' : Int} {be ask be' ask' : Bool} (h : w.heap[b]? = some (DsO A n cp se ac la be ask)) : (dput w b A' n' cp' se' ac' la' be' ask').heap[b]? = some (DsO A' n' cp' se' ac' la' be' ask') := by
  have h0 := obj_set h 0 (.slice A' n' cp')
  have h1 := obj_set h0 1 (.int .i64 (se' : Int))
  have h2 := obj_set h1 2 (.int .i64 (ac' : Int))
  have h3 := obj_set h2 3 (.int .u64 la')
  have h4 := obj_set h3 4 (.bool be')
  have h5 := obj_set h4 5 (.bool ask')
  simpa [DsO, dput] using h5
theorem dputs_kept {S : List Nat} {a w : World} {b : Nat} (h : Kept S a w) (hg : b ∈ S ∨ a.heap.size ≤ b) (A : Option Addr) (n cp se ac : Nat) (la : Int) (be ask : Bool) : Kept S a (dput w b A n cp se ac la be ask) :=
  (((((h.setCell hg _).setCell hg _).setCell hg _).setCell hg _).setCell hg _).setCell hg _
theorem obj_new3 (w : World) (X Y Z : Obj) : (((w.alloc X).alloc Y).alloc Z).heap[w.heap.size + 1 + 1]? = some Z := by
  have := obj_new ((w.alloc X).alloc Y) Z
  simpa using this
set_option maxRecDepth 100000 in
set_option maxHeartbeats 1000000 in
theorem rgram_bad (A : Option Addr) (n cp se ac : Nat) (la : Int) (be ask : Bool) (now ack rows cols : Int) (w : World) (hs : (okSide rows && okSide cols) = false) :
    Calls Try.prog 89 #[dsV A n cp se ac la be ask, .int .u64 now, .int .u64 ack, .int .i64 rows, .int .i64 cols] w
      fun e w' => e = .returned (.tuple #[dsV A n cp se ac la be ask, gV 0 0 0 0 0 none 0 0, .int .i64 11]) ∧ Kept [] w w' := by
  have HS := hide (fun W => rsize_any rows cols W)
  rw [hs] at HS
  clear hs
  unfold dsV
  go_enter Try.func89, Try.ntmps89
  go_wp2_with fail
  refine (unhide HS _).mono ?_
  rintro e w1 ⟨rfl, rfl⟩
  go_wp2
  refine bodyPost_ret (v := .tuple #[dsV A n cp se ac la be ask, gV 0 0 0 0 0 none 0 0, .int .i64 11]) (by simp [results, Try.results89, go_sem, dsV, gV]) rfl ?_
  exact ⟨by simp [dsV], (((Kept.refl [] w).alloc _).alloc _).alloc _⟩
def RGram (w : World) (A : Option Addr) (n cp ac : Nat) (now ack rows cols : Int) (ds : List ByteArray) (e : Ending) (w' : World) : Prop :=
  ∃ B cq, e = .returned (.tuple #[dsV A n cp n ac now true false, gV ack (sat now 1) rows cols ((ac : Int) + 1) B ds.length cq, .int .i64 0]) ∧ DocS w' B ds.length cq ds ∧ Kept [] w w' ∧ ∀ a, B = some a → w.heap.size ≤ a.block
set_option maxRecDepth 100000 in
set_option maxHeartbeats 2000000 in
theorem rgram_yes (A : Option Addr) (n cp se ac : Nat) (la : Int) (be ask : Bool) (now ack rows cols : Int) (xs : List ByteArray) (w : World) (h : DocS w A n cp xs) (hn : n ≤ 1000) (hac : ac ≤ n) (hno : 0 ≤ now ∧ now < 18446744073709551616) (hs : (okSide rows && okSide cols) = true) :
    Calls Try.prog 89 #[dsV A n cp se ac la be ask, .int .u64 now, .int .u64 ack, .int .i64 rows, .int .i64 cols] w (RGram w A n cp ac now ack rows cols (xs.drop ac)) := by
  have HS := hide (fun W => rsize_any rows cols W)
  rw [hs] at HS
  have H := hide h
  have HNO := hide hno
  have hn9 : n ≤ 9223372036854775807 := by omega
  have w2 : IntKind.u64.wrap (ac : Int) = (ac : Int) := by have e := IntKind.wrap_u64 (ac : Int); omega
  have w3 : IntKind.u64.wrap ((ac : Int) + 1) = (ac : Int) + 1 := by have e := IntKind.wrap_u64 ((ac : Int) + 1); omega
  have HN := hide hn
  have HAC := hide hac
  clear hs h hno
  unfold dsV
  go_enter Try.func89, Try.ntmps89
  go_upto_region 1 with (fail)
  have h5 : ((((w.alloc (DsO A n cp se ac la be ask)).alloc (DsO none 0 0 0 0 0 false false)).alloc (GdO 0 0 0 0 0 none 0 0))).heap[w.heap.size]? = some (DsO A n cp se ac la be ask) := obj_alloc (obj_alloc (obj_new _ _) _) _
  have h10 : ((((w.alloc (DsO A n cp se ac la be ask)).alloc (DsO none 0 0 0 0 0 false false)).alloc (GdO 0 0 0 0 0 none 0 0))).heap[w.heap.size + 1]? = some (DsO none 0 0 0 0 0 false false) := obj_alloc (obj_new2 _ _ _) _
  have h11 : ((((w.alloc (DsO A n cp se ac la be ask)).alloc (DsO none 0 0 0 0 0 false false)).alloc (GdO 0 0 0 0 0 none 0 0))).heap[w.heap.size + 1 + 1]? = some (GdO 0 0 0 0 0 none 0 0) := obj_new3 _ _ _ _
  have hK : Kept [] w ((((w.alloc (DsO A n cp se ac la be ask)).alloc (DsO none 0 0 0 0 0 false false)).alloc (GdO 0 0 0 0 0 none 0 0))) := (((Kept.refl [] w).alloc _).alloc _).alloc _
  change Code.wp _ _ _ _ ((((w.alloc (DsO A n cp se ac la be ask)).alloc (DsO none 0 0 0 0 0 false false)).alloc (GdO 0 0 0 0 0 none 0 0)))
  generalize ((((w.alloc (DsO A n cp se ac la be ask)).alloc (DsO none 0 0 0 0 0 false false)).alloc (GdO 0 0 0 0 0 none 0 0))) = wA at *
  generalize hb11 : w.heap.size + 1 + 1 = b11 at *
  generalize hb10 : w.heap.size + 1 = b10 at *
  generalize hb5 : w.heap.size = b5 at *
  have HBS : Hid (w.heap.size = b5 ∧ b5 < b10 ∧ b10 < b11 ∧ b11 < wA.heap.size) := hide ⟨hb5, by omega, by omega, heap_lt h11⟩
  have HA := hide ((unhide H).kept hK (by simp))
  obtain ⟨x0, x1, x2, x3, x4, x5, xz, xl⟩ := DsO.get h5
  have H5 := hide h5
  have H10 := hide h10
  have H11 := hide h11
  have HK := hide hK
  clear h5 h10 h11 hK hb11 hb10 hb5 H xl
  go_wp2_with fail
  refine (unhide HS _).mono ?_
  rintro e w1 ⟨rfl, rfl⟩
  have hng : ¬ b5 = wA.heap.size := by have := unhide HBS; omega
  have hng2 : ¬ wA.heap.size = b5 := by have := unhide HBS; omega
  obtain ⟨ds, hds⟩ : ∃ ds, ds = xs.drop ac := ⟨_, rfl⟩
  rw [← hds]
  have HDS := hide hds
  clear hds
  go_upto_region 3 with (fail)
  go_cut [13] (fun s13 wx => ∃ (G : Nat) (B : Option Addr) (cq : Nat), s13 = .pointer (some ⟨G, 0, none⟩) ∧ wA.heap.size ≤ G ∧ wx.heap[G]? = some (GdO ack (sat now 1) rows cols ((ac : Int) + 1) B ds.length cq) ∧ DocS wx B ds.length cq ds ∧ (∀ a, B = some a → wA.heap.size ≤ a.block) ∧ Kept [] wA wx)
  case first =>
    go_region_held3 (fun w' => w'.cell? ⟨b5, 0, none⟩ = some (.slice A n cp) ∧ w'.cell? ⟨b5, 1, none⟩ = some (.int .i64 (se : Int)) ∧ w'.cell? ⟨b5, 2, none⟩ = some (.int .i64 (ac : Int)) ∧ w'.cell? ⟨b5, 3, none⟩ = some (.int .u64 la) ∧ w'.cell? ⟨b5, 4, none⟩ = some (.bool be) ∧ w'.cell? ⟨b5, 5, none⟩ = some (.bool ask)) (go_keep)
      (first
        | (go_at_call 97; refine (radd_one now _ (unhide HNO).1 (unhide HNO).2).mono ?_; rintro e w' ⟨rfl, rfl⟩)
        | (go_at_call 92; refine (rwaiting A n cp se ac la be ask xs _ (by first | exact (unhide HA).kept ((Kept.refl [] _).drew) (by simp) | exact (unhide HA).kept (((Kept.refl [] _).drew).alloc _) (by simp)) (unhide HN) (unhide HAC)).mono ?_; rw [← unhide HDS]; rintro e w5 ⟨B5, cq5, rfl, hd5, hk5, hf5⟩; have kk5 : Kept [] wA w5 := (by first | exact ((Kept.refl [] wA).drew).trans hk5 (by simp) | exact (((Kept.refl [] wA).drew).alloc _).trans hk5 (by simp)); have hob5 := kk5.obj (unhide H5) (by simp); obtain ⟨z0, z1, z2, z3, z4, z5, zz, zl⟩ := DsO.get hob5; (first | (have hG5 : w5.heap[wA.heap.size]? = some (GdO 0 0 0 0 0 none 0 0) := hk5.obj (obj_new wA.drew _) (by simp); obtain ⟨g0, g1, g2, g3, g4, g5, gz, gl⟩ := GdO.get hG5; have HG5 := hide hG5; clear hG5) | skip); have HD5 := hide hd5; have HF5 := hide hf5; have KK5 := hide kk5; clear hd5 hk5 hf5 kk5 hob5 zz zl))
    · go_wp2_with fail
      go_meet
      have kk : Kept [] w5 (w5.alloc (GdO ack (sat now 1) rows cols ((ac : Int) + 1) B5 ds.length cq5)) := (Kept.refl [] w5).alloc _
      exact ⟨w5.heap.size, B5, cq5, rfl, (unhide KK5).size, obj_new _ _, (unhide HD5).kept kk (by simp), fun a ha => by have := unhide HF5 a ha; simp at this; omega, (unhide KK5).trans kk (by simp)⟩
    all_goals
      go_wp2_with fail
      go_meet
      have kk : Kept [wA.heap.size] w5 (gput w5 wA.heap.size ack (sat now 1) rows cols ((ac : Int) + 1) B5 ds.length cq5) := gput_kept (Kept.refl _ w5) (.inl (by simp)) _ _ _ _ _ _ _ _
      exact ⟨wA.heap.size, B5, cq5, rfl, Nat.le_refl _, gputD_obj (unhide HG5) _ _ _ _ _ _ _ _, (unhide HD5).kept kk (fun a ha => by have := unhide HF5 a ha; simp at this; simp; omega), fun a ha => by have := unhide HF5 a ha; simp at this; omega, gput_kept (unhide KK5) (.inr (Nat.le_refl _)) _ _ _ _ _ _ _ _⟩
  case rest =>
    obtain ⟨G, B, cq, rfl, hG, hg, hd, hf, hk⟩ := hcut
    have HD := hide hd
    have HF := hide hf
    have HKK := hide hk
    have hb := unhide HBS
    have h5 := hk.obj (unhide H5) (by simp)
    have h10 := hk.obj (unhide H10) (by simp)
    have h11 := hk.obj (unhide H11) (by simp)
    obtain ⟨x0, x1, x2, x3, x4, x5, xz, xl⟩ := DsO.get h5
    obtain ⟨y0, y1, y2, y3, y4, y5, yz, yl⟩ := DsO.get h10
    obtain ⟨g0, g1, g2, g3, g4, g5, gz, gl⟩ := GdO.get hg
    obtain ⟨z0, z1, z2, z3, z4, z5, zz, zl⟩ := GdO.get h11
    have n1 : ¬ b5 = b10 := by omega
    have n2 : ¬ b10 = b5 := by omega
    have n3 : ¬ b5 = b11 := by omega
    have n4 : ¬ b11 = b5 := by omega
    have n5 : ¬ b10 = b11 := by omega
    have n6 : ¬ b11 = b10 := by omega
    have n7 : ¬ b5 = G := by omega
    have n8 : ¬ G = b5 := by omega
    have n9 : ¬ b10 = G := by omega
    have n10 : ¬ G = b10 := by omega
    have n11 : ¬ b11 = G := by omega
    have n12 : ¬ G = b11 := by omega
    have HGG := hide hG
    have K5 : Kept [b5] wc (dset wc b5 n now) := dset_kept (Kept.refl _ wc) (.inl (by simp)) n now
    have H5d := hide (dset_obj h5 now)
    have H10d := hide (K5.obj h10 (by simp; omega))
    have H11d := hide (K5.obj h11 (by simp; omega))
    have HGd := hide (K5.obj hg (by simp; omega))
    have HDd := hide (hd.kept K5 (fun a ha => by have := hf a ha; simp; omega))
    have KK := hide (((unhide HK).trans hk (by simp)).trans K5 (by intro i hi hm; simp at hm; omega))
    clear hG hg hd hf hk hb h5 h10 h11 hn hac K5
    go_upto_region 5 with (fail)
    change Code.wp _ _ _ _ (dset wc b5 n now)
    generalize dset wc b5 n now = wd at *
    clear x0 x1 x2 x3 x4 x5 xz xl y0 y1 y2 y3 y4 y5 yz yl g0 g1 g2 g3 g4 g5 gz gl z0 z1 z2 z3 z4 z5 zz zl HD H5 H10 H11
    obtain ⟨x0, x1, x2, x3, x4, x5, xz, xl⟩ := DsO.get (unhide H5d)
    obtain ⟨y0, y1, y2, y3, y4, y5, yz, yl⟩ := DsO.get (unhide H10d)
    obtain ⟨g0, g1, g2, g3, g4, g5, gz, gl⟩ := GdO.get (unhide HGd)
    obtain ⟨z0, z1, z2, z3, z4, z5, zz, zl⟩ := GdO.get (unhide H11d)
    go_region
    go_wp2
    refine bodyPost_ret (v := .tuple #[dsV A n cp n ac now true false, gV ack (sat now 1) rows cols ((ac : Int) + 1) B ds.length cq, .int .i64 0]) (by simp [results, Try.results89, go_sem, dsV, gV, y0, y1, y2, y3, y4, y5, z0, z1, z2, z3, z4, z5]) rfl ?_
    have hb := unhide HBS
    have kp : Kept [b10, b11] wd (gput (dput wd b10 A n cp n ac now true false) b11 ack (sat now 1) rows cols ((ac : Int) + 1) B ds.length cq) := gput_kept (dputs_kept (Kept.refl _ wd) (.inl (by simp)) _ _ _ _ _ _ _ _) (.inl (by simp)) _ _ _ _ _ _ _ _
    unfold RGram
    rw [← unhide HDS]
    exact ⟨B, cq, rfl, (unhide HDd).kept kp.drew (fun a ha => by have := unhide HF a ha; simp; omega), ((unhide KK).trans kp (by intro i hi hm; simp at hm; omega)).drew, fun a ha => by have := unhide HF a ha; omega⟩
end Go.Proofs.Ytpdabmbjnmpgbaa
