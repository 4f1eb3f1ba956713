/-
  Package send: Waiting.
-/
import Derived.Test.YtpdabmbjnmpgbaaSco
import Derived.Test.YtpdabmbjnmpgbaaQueueOrderW
import Derived.Lib.ConvBytes
namespace Go.Proofs.Ytpdabmbjnmpgbaa
open Go.Conc Go.RowKit
set_option linter.unusedVariables false

def numsOf (s : ByteArray) : List Int := s.data.toList.map fun b => (b.toNat : Int)
theorem numsOf_length (s : ByteArray) : (numsOf s).length = s.size := by
  unfold numsOf
  rw [List.length_map, Array.length_toList]
  rfl
theorem str_nums (s : ByteArray) : strOfNums (numsOf s) = s := by
  simp [strOfNums, numsOf, Function.comp_def]
theorem kept_bytes (w : World) (s : ByteArray) : Kept [] w (Go.Lib.bytesWorld w 5 s) :=
  ⟨rfl, rfl, rfl, by rw [Go.Lib.bytesWorld_size]; omega, fun i hi _ => Go.Lib.bytesWorld_at_old w 5 s i hi⟩
theorem byt_bytes (w : World) (s : ByteArray) : Byt (Go.Lib.bytesWorld w 5 s) (some ⟨w.heap.size, 0, none⟩) s.size (numsOf s) :=
  ⟨numsOf_length s, .inr ⟨w.heap.size, 0, rfl, by rw [Go.Lib.bytesWorld_size]; omega, fun j hj => by
    have hj2 : j < s.data.toList.length := by rw [Array.length_toList]; exact hj
    rw [Nat.zero_add, Go.Lib.bytesWorld_cell w 5 s j hj]
    simp [numsOf, List.getD_eq_getElem?_getD, List.getElem?_eq_getElem hj2]⟩⟩
theorem conv_str (w : World) (s : ByteArray) : (convert 9 96 (.string s)).run Try.prog w = .ok (.slice (some ⟨w.heap.size, 0, none⟩) s.size (grownCap w s.size 0 5)) (Go.Lib.bytesWorld w 5 s) :=
  Go.Lib.run_convert_string_bytes w 9 96 5 s Try.underlying9 Try.underlying96 Try.underlying5
/-- A value that is the bytes of a key, in a block of its own from base on. -/
def KV (w : World) (base : Nat) (k : ByteArray) (v : Value) (row : Option Nat) : Prop :=
  ∃ bk cp, v = .slice (some ⟨bk, 0, none⟩) k.size cp ∧ base ≤ bk ∧ bk < w.heap.size ∧ row ≠ some bk ∧ Byt w (some ⟨bk, 0, none⟩) k.size (numsOf k)
def KRows (w : World) (base : Nat) (A : Option Addr) (ks : List ByteArray) : Prop :=
  ∀ i, i < ks.length → ∃ b off v, A = some ⟨b, off, none⟩ ∧ base ≤ b ∧ b < w.heap.size ∧ w.cell? ⟨b, off + i, none⟩ = some v ∧ KV w base (ks.getD i ByteArray.empty) v none
theorem info96 : (Try.prog.info? 96).map (fun i => (i.zero, i.size, i.bytes)) = some (some (.slice none 0 0), 1, 24) := by kernel_rfl
theorem Byt.grown {w w' : World} {A : Option Addr} {n : Nat} {xs : List Int} {row : Option Nat} (h : Byt w A n xs) (hg : w.grownBy w' row) (hr : ∀ a, A = some a → row ≠ some a.block) : Byt w' A n xs := by
  refine ⟨h.1, ?_⟩
  rcases h.2 with h1 | ⟨b, off, rfl, hb, hc⟩
  · exact .inl h1
  · exact .inr ⟨b, off, rfl, Nat.lt_of_lt_of_le hb hg.size, fun j hj => hg.cell (a := ⟨b, off + j, none⟩) (hc j hj) (fun e => hr _ rfl e.symm)⟩
theorem KV.kept {w w' : World} {base : Nat} {k : ByteArray} {v : Value} {row : Option Nat} (h : KV w base k v row) (hk : Kept [] w w') : KV w' base k v row := by
  obtain ⟨bk, cp, rfl, h1, h2, h3, h4⟩ := h
  exact ⟨bk, cp, rfl, h1, Nat.lt_of_lt_of_le h2 hk.size, h3, h4.kept hk (by simp)⟩
theorem KV.grown {w w' : World} {base N : Nat} {k : ByteArray} {v : Value} {row row' : Option Nat} (h : KV w base k v row) (hg : w.grownBy w' row) (hr : row' = row ∨ row' = some N) (hN : w.heap.size ≤ N) : KV w' base k v row' := by
  obtain ⟨bk, cp, rfl, h1, h2, h3, h4⟩ := h
  refine ⟨bk, cp, rfl, h1, Nat.lt_of_lt_of_le h2 hg.size, ?_, h4.grown hg (by rintro a ⟨⟩; exact h3)⟩
  rcases hr with rfl | rfl
  · exact h3
  · intro e; injection e with e; omega
theorem KV.free {w : World} {base : Nat} {k : ByteArray} {v : Value} {row : Option Nat} (h : KV w base k v row) : KV w base k v none := by
  obtain ⟨bk, cp, rfl, h1, h2, h3, h4⟩ := h
  exact ⟨bk, cp, rfl, h1, h2, by simp, h4⟩
theorem kv_new (w : World) (base : Nat) (k : ByteArray) (cp : Nat) (row : Option Nat) (hb : base ≤ w.heap.size) (hr : ∀ b, row = some b → b < w.heap.size) : KV (Go.Lib.bytesWorld w 5 k) base k (.slice (some ⟨w.heap.size, 0, none⟩) k.size cp) row :=
  ⟨w.heap.size, cp, rfl, hb, by rw [Go.Lib.bytesWorld_size]; omega, fun e => by have := hr _ e; omega, byt_bytes w k⟩
def SWait (w : World) (sg qg qc : Nat) (ks : List ByteArray) (ty se ac : Nat) (la : Int) (be ask : Bool) (e : Ending) (w' : World) : Prop :=
  ∃ A cp, e = .returned (.slice A ks.length cp) ∧ KRows w' w.heap.size A ks ∧ SS w' sg qg qc ks ty se ac la be ask ∧ Kept [qc] w w'
set_option maxRecDepth 100000 in
set_option maxHeartbeats 1000000 in
theorem swaiting (sg qg qc : Nat) (ks : List ByteArray) (ty se ac : Nat) (la : Int) (be ask : Bool) (w : World) (h : SS w sg qg qc ks ty se ac la be ask) :
    Calls Try.prog 66 #[.pointer (some ⟨sg, 0, none⟩)] w (SWait w sg qg qc ks ty se ac la be ask) := by
  obtain ⟨i0, hi0, hz0, hz1, hz2⟩ := info_parts info96
  obtain ⟨c0, c1, c2, c3, c4, c5, c6, cz, cl⟩ := h.cells
  have hcv := fun W s => conv_str W s
  have n64 : ks.length ≤ 64 := h.kl
  have n9 : ks.length ≤ 9223372036854775807 := by omega
  have H := hide h
  clear h
  go_enter Try.func66, Try.ntmps66
  go_wp2_with fail
  refine (allS_any _ _ _ _ _ (unhide H).q (unhide H).kl (by omega)).mono ?_
  rintro e w1 ⟨v, rfl, hown, hq, hk⟩
  obtain ⟨A, cp, rfl, hcp, hrd, hA⟩ := rdS_own hown
  have HR := hide hrd
  have HS := hide (SS.mk (hk.obj (unhide H).box (by have := (unhide H).ne; simp; omega)) hq (unhide H).kl (unhide H).sum (unhide H).ord (unhide H).key)
  have HK := hide hk
  clear hown hrd hA hq hk c0 c1 c2 c3 c4 c5 c6 cz
  go_wp2_with fail
  go_loopw [3, 15] (fun v i wr => ∃ (k : Nat) (vals : List Value), k ≤ ks.length ∧ i = .int .i64 k ∧ wr.ownsRow w1.heap.size 96 1 v k vals ∧ (∀ j, j < k → KV wr w1.heap.size (ks.getD j ByteArray.empty) (vals.getD j undef) v.ownBlock) ∧ Kept [] w1 wr) (fun _ i _ => ks.length - (intOf i).toNat)
  case atStart => exact ⟨0, [], Nat.zero_le _, rfl, by simpa using World.ownsRow_nil w1 w1.heap.size 96 1, by intro j hj; omega, Kept.refl _ _⟩
  case round =>
    obtain ⟨k, vals, hkn, rfl, hown, hvs, hkw⟩ := hrel
    by_cases hlt : k < ks.length
    · obtain ⟨b, off, rfl, hb, hcell⟩ := (unhide HR) k hlt
      have hc := (hkw.cell (p := ⟨b, off + k, none⟩) hb (by simp)).trans (hcell k hlt)
      have O1 := hide hown
      have V1 := hide hvs
      have K1 := hide hkw
      clear hown hvs hkw hcell
      generalize hkey : ks.getD k ByteArray.empty = key at *
      have HKEY := hide hkey
      clear hkey
      have Z1 := hide hb
      go_wp2_with (at_builtin; refine wpList_append_own_at _ rfl _ _ 98 rfl w1.heap.size 96 i0 (.slice none 0 0) 1 24 Try.underlying98 hi0 hz0 hz1 hz2 rfl (by decide) _ _ _ rfl (((Kept.refl [] _).alloc _).own ((kept_bytes wr key).own (unhide O1) (by simp)) (by simp)) ⟨(Go.Lib.bytesWorld wr 5 key).heap.size, 0, none⟩ 1 1 [.slice (some ⟨wr.heap.size, 0, none⟩) key.size (grownCap wr key.size 0 5)] rfl rfl ?c1 ?c2 ?c3 ?c4 ?c5 ?_)
      case c1 => exact cell_one_new _ _ _
      case c2 => simp [Value.oneCell']
      case c3 => unfold maxLen; omega
      case c4 => omega
      case c5 => simp [Go.Lib.bytesWorld_size]; have := (unhide K1).size; omega
      intro v' w3 hown3 hgrow _ hat
      have hlt1 := (unhide O1).lt
      have hz1 := (unhide K1).size
      have hrest : ∀ j, j < k + 1 → KV w3 w1.heap.size (ks.getD j ByteArray.empty) ((vals ++ [Value.slice (some ⟨wr.heap.size, 0, none⟩) key.size (grownCap wr key.size 0 5)]).getD j undef) v'.ownBlock := by
        intro j hj
        have hvl : vals.length = k := by have := (unhide O1).1; omega
        by_cases hjk : j < k
        · have h0 := unhide V1 j hjk
          have h1 := ((h0.kept (kept_bytes wr key)).kept ((Kept.refl [] _).alloc _)).grown hgrow hat (by simp)
          have e1 : (vals ++ [Value.slice (some ⟨wr.heap.size, 0, none⟩) key.size (grownCap wr key.size 0 5)]).getD j undef = vals.getD j undef := by
            simp [List.getD_eq_getElem?_getD, List.getElem?_append_left (show j < vals.length by omega)]
          rw [e1]
          exact h1
        · have hjk2 : j = k := by omega
          subst hjk2
          have e1 : (vals ++ [Value.slice (some ⟨wr.heap.size, 0, none⟩) key.size (grownCap wr key.size 0 5)]).getD j undef = .slice (some ⟨wr.heap.size, 0, none⟩) key.size (grownCap wr key.size 0 5) := by
            simp [List.getD_eq_getElem?_getD, ← hvl]
          rw [e1, unhide HKEY]
          exact ((kv_new wr w1.heap.size key _ _ hz1 (fun b hb => (hlt1 b hb).2)).kept ((Kept.refl [] _).alloc _)).grown hgrow hat (by simp)
      have hkept : Kept [] w1 w3 := (((unhide K1).trans (kept_bytes wr key) (by simp)).alloc _).grown hgrow (fun b hb => .inr (hlt1 b hb).1)
      have O3 := hide hown3
      have V3 := hide hrest
      have K3 := hide hkept
      clear hown3 hgrow hat hrest hkept
      go_wp2
      exact ⟨⟨k + 1, _, by omega, by go_num, unhide O3, unhide V3, unhide K3⟩, by simp [intOf]; omega⟩
    · have hkn2 : k = ks.length := by omega
      subst hkn2
      have O1 := hide hown
      have V1 := hide hvs
      have K1 := hide hkw
      obtain ⟨A9, c9, rfl⟩ := own_form hown
      clear hown hvs hkw
      go_wp2
      go_ret
      refine ⟨A9, c9, rfl, ?_, (unhide HS).next (unhide K1) (by simp) (by simp) (by simp), (unhide HK).trans (unhide K1) (by simp)⟩
      intro i hi
      have hvl : vals.length = ks.length := by have := (unhide O1).1; omega
      have hkv := (unhide V1 i hi).free
      have hz := (unhide HK).size
      rcases (unhide O1).2 with ⟨_, h0⟩ | ⟨g, cap, cur, hv, hb, hgg, _⟩
      · omega
      · injection hv with hv1 hv2 hv3
        subst hv1
        have h3 := (unhide O1).cells (g := g) rfl i (vals.getD i undef) (by simp [List.getD_eq_getElem?_getD, List.getElem?_eq_getElem (show i < vals.length by omega)])
        rw [add_plain] at h3
        obtain ⟨bk, cp9, e9, h4, h5, h6, h7⟩ := hkv
        exact ⟨g, 0, vals.getD i undef, rfl, by omega, heap_lt hgg, h3, bk, cp9, e9, by omega, h5, h6, h7⟩
end Go.Proofs.Ytpdabmbjnmpgbaa
