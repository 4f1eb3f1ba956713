/-
  The walk of RttBetween, and its plain law: the time lies between the least and the greatest sample.
-/
import Derived.Test.YtpdabmbjnmpgbaaRtu
namespace Go.Proofs.Ytpdabmbjnmpgbaa
open Go.RowKit
set_option linter.unusedVariables false

def loF (l : List Int) : Int := l.foldl (fun a x => min a (clampS x)) 100000
def hiF (l : List Int) : Int := l.foldl (fun a x => max a (clampS x)) 0
theorem loF_snoc (l : List Int) (x : Int) : loF (l ++ [x]) = min (loF l) (clampS x) := by simp [loF]
theorem hiF_snoc (l : List Int) (x : Int) : hiF (l ++ [x]) = max (hiF l) (clampS x) := by simp [hiF]

/-- Between: the plain law. -/
def Mid (e : Int × Int × Bool) (lo hi : Int) : Prop := 0 ≤ lo ∧ lo ≤ 100000 ∧ 0 ≤ hi ∧ hi ≤ 100000 ∧ EstOk e.1 e.2.1 e.2.2 ∧ (e.2.2 = true → 8 * lo ≤ e.1 ∧ e.1 ≤ 8 * hi + 7)
theorem mid_step {e : Int × Int × Bool} {lo hi : Int} (x : Int) (h : Mid e lo hi) : Mid (stepE e x) (min lo (clampS x)) (max hi (clampS x)) := by
  obtain ⟨h1, h2, h3, h4, h5, h6⟩ := h
  have hc := clampS_bd x
  refine ⟨by omega, by omega, by omega, by omega, smp_ok x h5, fun _ => ?_⟩
  obtain ⟨t, s, k⟩ := e
  simp only [stepE, smpT] at *
  cases k
  · simp; omega
  · have := h6 rfl
    simp; omega
theorem mid_fold (l : List Int) : Mid (foldE l) (loF l) (hiF l) := by
  unfold foldE loF hiF
  suffices h : ∀ (l : List Int) (e : Int × Int × Bool) (lo hi : Int), Mid e lo hi → Mid (l.foldl stepE e) (l.foldl (fun a x => min a (clampS x)) lo) (l.foldl (fun a x => max a (clampS x)) hi) from
    h l (0, 0, false) 100000 0 ⟨by omega, by omega, by omega, by omega, ⟨by simp, by simp, by simp, by simp, fun _ => ⟨rfl, rfl⟩⟩, fun h => by cases h⟩
  intro l
  induction l with
  | nil => intro e lo hi h; exact h
  | cons x l ih => intro e lo hi h; exact ih _ _ _ (mid_step x h)
theorem fold_known (l : List Int) (h : l ≠ []) : (foldE l).2.2 = true := by
  rcases List.eq_nil_or_concat l with rfl | ⟨l', x, rfl⟩
  · exact absurd rfl h
  · rw [List.concat_eq_append, foldE_snoc]; rfl

theorem trip_of (e : Int × Int × Bool) (h : e.2.2 = true) : TripO e = EstO e.1 e.2.1 true := by unfold TripO; rw [h]
theorem between_of (l : List Int) (h : l ≠ []) : loF l ≤ (foldE l).1 / 8 ∧ (foldE l).1 / 8 ≤ hiF l ∧ 0 ≤ (foldE l).2.1 / 4 ∧ (foldE l).2.1 / 4 ≤ 100000 ∧ EstOk (foldE l).1 (foldE l).2.1 true ∧ (foldE l).1 / 8 ≤ 100000 := by
  have hm := mid_fold l
  obtain ⟨h1, h2, h3, h4, h5, h6⟩ := hm
  have hk := fold_known l h
  rw [hk] at h5
  have := h6 hk
  have h5' := h5
  obtain ⟨q1, q2, q3, q4, q5⟩ := h5'
  exact ⟨by omega, by omega, by omega, by omega, h5, by omega⟩
theorem wait_bd (t s : Int) : 50 ≤ waitS t s true ∧ waitS t s true ≤ 1000 := by
  unfold waitS
  simp only [if_true]
  omega
theorem same_time (t s : Int) (h : 0 ≤ t / 8) (h' : t / 8 ≤ 100000) : EstO (smpT t true (t / 8)) (smpS t s true (t / 8)) true = EstO t (smpS t s true (t / 8)) true := by
  have : clampS (t / 8) = t / 8 := by unfold clampS; rw [if_neg (by omega), if_neg (by omega)]
  unfold smpT
  rw [this]
  simp
theorem same_ok (t s : Int) (h : EstOk t s true) (h' : t / 8 ≤ 100000) : EstOk t (smpS t s true (t / 8)) true := by
  have h1 := smp_ok (t / 8) h
  have h2 : smpT t true (t / 8) = t := by
    have : clampS (t / 8) = t / 8 := by unfold clampS; rw [if_neg (by have := h.1; omega), if_neg (by omega)]
    unfold smpT
    rw [this]
    simp
  rwa [h2] at h1
theorem rem20 (n : Int) : wrap64 ((IntKind.u64.wrap n).tmod 20) < 20 := by
  have h0 : 0 ≤ IntKind.u64.wrap n := by simp only [IntKind.wrap, IntKind.signed]; simp; omega
  have h1 : (IntKind.u64.wrap n).tmod 20 = IntKind.u64.wrap n % 20 := Int.tmod_eq_emod_of_nonneg h0
  rw [h1]
  unfold wrap64
  omega
theorem ints_nil (w : World) : Ints w none 0 [] := ⟨rfl, by decide, fun i hi => by omega⟩

set_option maxHeartbeats 1000000 in
theorem walk_RttBetween (w : World) (A : Option Addr) (n c : Nat) (zs : List Int) (hI : Ints w A n zs) (wz : ∀ z ∈ zs, (Lit.int .i64 z).wf = true) (hnc : n ≤ c) (again : Int) (wa : (Lit.int .i64 again).wf = true) :
    Calls Try.prog 3 #[.slice A n c, .int .i64 again] w (Holds w true) := by
  have H := hide hI
  have hl : n ≤ 9223372036854775807 := hI.2.1
  clear hI wz
  by_cases h0 : n = 0
  · subst h0
    go_enter Try.func3, Try.ntmps3
    go_wp2_with (go_at_call 18; refine (known16 _).mono ?_; rintro e w1 ⟨rfl, hk1⟩)
    have HK := hide hk1
    clear hk1
    go_wp2_with (go_at_call 19; refine (fold_any none 0 0 [] _ (ints_nil _)).mono ?_; rintro e w2 ⟨rfl, ho2, hk2⟩)
    have HK2 := hide hk2
    have HO2 := hide ho2
    clear hk2 ho2
    go_wp2_with (go_at_call 20; refine (wait_no 0 0 _ _ (unhide HO2)).mono ?_; rintro e w' ⟨rfl, rfl⟩)
    go_wp2_with (go_at_call 19; refine (fold_any none 0 0 [] _ (ints_nil _)).mono ?_; rintro e w3 ⟨rfl, ho3, hk3⟩)
    have HK3 := hide hk3
    have HO3 := hide ho3
    clear hk3 ho3
    go_wp2_with (go_at_call 21; refine (known_any 0 0 false _ _ (unhide HO3)).mono ?_; rintro e w' ⟨rfl, rfl⟩)
    go_ret
    exact ⟨rfl, ((unhide HK).trans (unhide HK2) (by simp)).trans (unhide HK3) (by simp)⟩
  · obtain ⟨M, hM⟩ : ∃ M : Nat, M = n ∧ n ≤ 60 ∨ M = 60 ∧ 60 < n := by
      by_cases h : n ≤ 60
      · exact ⟨n, .inl ⟨rfl, h⟩⟩
      · exact ⟨60, .inr ⟨rfl, by omega⟩⟩
    have hMp : 0 < M := by omega
    have hM60 : M ≤ 60 := by omega
    have hMn : M ≤ n := by omega
    have hb0 : ((n : Int) == 0) = false := by simp; omega
    have h1 := (unhide H).take hMn
    obtain ⟨ys, hys⟩ : ∃ ys, ys = zs.take M := ⟨_, rfl⟩
    rw [← hys] at h1
    have HM := hide hM
    have H1 := hide h1
    have hyl := hide h1.1
    clear hys h1 H hM
    rcases unhide HM with ⟨e1, e2⟩ | ⟨e1, e2⟩
    · have HIx : Hid (Ints w A n ys) := hide (e1 ▸ unhide H1)
      have E1 := hide e1
      clear e1
      go_enter Try.func3, Try.ntmps3
      go_wp2_with fail
      go_loop [5, 6, 7] (fun lo hi i => ∃ k : Nat, k ≤ M ∧ i = .int .i64 k ∧ lo = .int .i64 (loF (ys.take k)) ∧ hi = .int .i64 (hiF (ys.take k))) (fun _ _ i => M - (intOf i).toNat)
      case atStart => exact ⟨0, Nat.zero_le _, rfl, rfl, rfl⟩
      case round =>
        obtain ⟨k, hk, rfl, rfl, rfl⟩ := hrel
        by_cases hlt : k < M
        · have hltn : k < n := by omega
          have hlt6 : k < 60 := by omega
          obtain ⟨b, off, rfl, hb, hc⟩ := (unhide H1).2.2 k hlt
          have hcell := hc k hlt
          clear hc
          go_wp2
          have hs := take_snoc ys k 0 (by rw [unhide hyl]; omega)
          refine ⟨⟨k + 1, by omega, by go_num, ?_, ?_⟩, by simp [intOf]; omega⟩
          · rw [hs, loF_snoc]
            refine congrArg (Value.int .i64) ?_
            unfold clampS
            simp only [List.getD_eq_getElem?_getD]
            (repeat' split) <;> omega
          · rw [hs, hiF_snoc]
            refine congrArg (Value.int .i64) ?_
            unfold clampS
            simp only [List.getD_eq_getElem?_getD]
            (repeat' split) <;> omega
        · have hge := unhide E1
          have hnk : ¬ k < n := by omega
          have hk' : ys.take k = ys := List.take_of_length_le (by rw [unhide hyl]; omega)
          rw [hk']
          clear hge hk'
          go_wp2_with (go_at_call 19; refine (fold_any _ _ _ ys _ (unhide HIx)).mono ?_; rintro e w1 ⟨rfl, ho1, hk1⟩)
          have HK1 := hide hk1
          rw [trip_of (foldE ys) (fold_known ys (by intro e; have := unhide hyl; rw [e] at this; simp at this; omega))] at ho1
          have HO1 := hide ho1
          obtain ⟨m1, m2, m3, m4, m5, m6⟩ := between_of ys (by intro e; have := unhide hyl; rw [e] at this; simp at this; omega)
          clear hk1 ho1
          generalize (foldE ys).1 = t at *
          generalize (foldE ys).2.1 = s at *
          have HM5 := hide m5
          obtain ⟨q1, q2, q3, q4, q5⟩ := m5
          clear q5
          have c1 := fun W (h : W.heap = w1.heap) => time_any t s true w.heap.size W (by rw [h]; exact unhide HO1) (unhide HM5)
          have c2 := fun W (h : W.heap = w1.heap) => spread_any t s true w.heap.size W (by rw [h]; exact unhide HO1) (unhide HM5)
          have c3 := fun W (h : W.heap = w1.heap) => wait_yes t s w.heap.size W (by rw [h]; exact unhide HO1) (unhide HM5)
          have C1 := hide c1
          have C2 := hide c2
          have C3 := hide c3
          clear c1 c2 c3
          have hw0 := wait_bd t s
          go_wp2_with (first
            | (go_at_call 22; refine (unhide C1 _ (by rfl)).mono ?_; rintro e w' ⟨rfl, rfl⟩)
            | (go_at_call 23; refine (unhide C2 _ (by rfl)).mono ?_; rintro e w' ⟨rfl, rfl⟩)
            | (go_at_call 20; refine (unhide C3 _ (by rfl)).mono ?_; rintro e w' ⟨rfl, nq, rfl⟩))
          have hR := rem20 again
          go_loopw [11] (fun i wr => ∃ (k : Nat) (s' : Int), k ≤ 20 ∧ i = .int .i64 k ∧ wr.heap[w.heap.size]? = some (EstO t s' true) ∧ EstOk t s' true ∧ Kept [] w wr) (fun i _ => 20 - (intOf i).toNat)
          case atStart => exact ⟨0, s, by omega, rfl, unhide HO1, unhide HM5, ((unhide HK1).drewN _)⟩
          case round =>
            obtain ⟨k', s', hk', rfl, ho', hok', hkw⟩ := hrel
            have HO' := hide ho'
            have HOK' := hide hok'
            have HKW := hide hkw
            have q5 := hok'.2.2.1
            have q6 := hok'.2.2.2.1
            clear ho' hok' hkw
            go_wp2_with (first
              | (go_at_call 24; refine (sample_any (t / 8) t s' true _ _ (unhide HO') (unhide HOK')).mono ?_; rintro e w' ⟨rfl, ho2, hk2⟩)
              | (go_at_call 18; refine (known16 _).mono ?_; rintro e w' ⟨rfl, hk2⟩))
            · rw [same_time t s' (by omega) (by omega)] at ho2
              have HO2 := hide ho2
              have hok2 := same_ok t s' (unhide HOK') (by omega)
              have HOK2 := hide hok2
              have HK2 := hide hk2
              clear ho2 hok2 hk2
              go_wp2_with (go_at_call 22; refine (time_any t _ true _ _ (unhide HO2) (unhide HOK2)).mono ?_; rintro e w' ⟨rfl, rfl⟩)
              go_roundw
              case rel => exact ⟨k' + 1, _, by omega, by go_num, unhide HO2, unhide HOK2, (unhide HKW).trans (unhide HK2) (by intro i hi hm; simp at hm; omega)⟩
              case measure => simp [intOf]; omega
            · go_ret
              exact ⟨rfl, (unhide HKW).trans hk2 (by simp)⟩
    · have HIx : Hid (Ints w A 60 ys) := hide (e1 ▸ unhide H1)
      have E1 := hide e1
      clear e1
      go_enter Try.func3, Try.ntmps3
      go_wp2_with fail
      go_loop [5, 6, 7] (fun lo hi i => ∃ k : Nat, k ≤ M ∧ i = .int .i64 k ∧ lo = .int .i64 (loF (ys.take k)) ∧ hi = .int .i64 (hiF (ys.take k))) (fun _ _ i => M - (intOf i).toNat)
      case atStart => exact ⟨0, Nat.zero_le _, rfl, rfl, rfl⟩
      case round =>
        obtain ⟨k, hk, rfl, rfl, rfl⟩ := hrel
        by_cases hlt : k < M
        · have hltn : k < n := by omega
          have hlt6 : k < 60 := by omega
          obtain ⟨b, off, rfl, hb, hc⟩ := (unhide H1).2.2 k hlt
          have hcell := hc k hlt
          clear hc
          go_wp2
          have hs := take_snoc ys k 0 (by rw [unhide hyl]; omega)
          refine ⟨⟨k + 1, by omega, by go_num, ?_, ?_⟩, by simp [intOf]; omega⟩
          · rw [hs, loF_snoc]
            refine congrArg (Value.int .i64) ?_
            unfold clampS
            simp only [List.getD_eq_getElem?_getD]
            (repeat' split) <;> omega
          · rw [hs, hiF_snoc]
            refine congrArg (Value.int .i64) ?_
            unfold clampS
            simp only [List.getD_eq_getElem?_getD]
            (repeat' split) <;> omega
        · have hge := unhide E1
          have hnk : ¬ k < 60 := by omega
          have hk' : ys.take k = ys := List.take_of_length_le (by rw [unhide hyl]; omega)
          rw [hk']
          clear hge hk'
          go_wp2_with (go_at_call 19; refine (fold_any _ _ _ ys _ (unhide HIx)).mono ?_; rintro e w1 ⟨rfl, ho1, hk1⟩)
          have HK1 := hide hk1
          rw [trip_of (foldE ys) (fold_known ys (by intro e; have := unhide hyl; rw [e] at this; simp at this; omega))] at ho1
          have HO1 := hide ho1
          obtain ⟨m1, m2, m3, m4, m5, m6⟩ := between_of ys (by intro e; have := unhide hyl; rw [e] at this; simp at this; omega)
          clear hk1 ho1
          generalize (foldE ys).1 = t at *
          generalize (foldE ys).2.1 = s at *
          have HM5 := hide m5
          obtain ⟨q1, q2, q3, q4, q5⟩ := m5
          clear q5
          have c1 := fun W (h : W.heap = w1.heap) => time_any t s true w.heap.size W (by rw [h]; exact unhide HO1) (unhide HM5)
          have c2 := fun W (h : W.heap = w1.heap) => spread_any t s true w.heap.size W (by rw [h]; exact unhide HO1) (unhide HM5)
          have c3 := fun W (h : W.heap = w1.heap) => wait_yes t s w.heap.size W (by rw [h]; exact unhide HO1) (unhide HM5)
          have C1 := hide c1
          have C2 := hide c2
          have C3 := hide c3
          clear c1 c2 c3
          have hw0 := wait_bd t s
          go_wp2_with (first
            | (go_at_call 22; refine (unhide C1 _ (by rfl)).mono ?_; rintro e w' ⟨rfl, rfl⟩)
            | (go_at_call 23; refine (unhide C2 _ (by rfl)).mono ?_; rintro e w' ⟨rfl, rfl⟩)
            | (go_at_call 20; refine (unhide C3 _ (by rfl)).mono ?_; rintro e w' ⟨rfl, nq, rfl⟩))
          have hR := rem20 again
          go_loopw [11] (fun i wr => ∃ (k : Nat) (s' : Int), k ≤ 20 ∧ i = .int .i64 k ∧ wr.heap[w.heap.size]? = some (EstO t s' true) ∧ EstOk t s' true ∧ Kept [] w wr) (fun i _ => 20 - (intOf i).toNat)
          case atStart => exact ⟨0, s, by omega, rfl, unhide HO1, unhide HM5, ((unhide HK1).drewN _)⟩
          case round =>
            obtain ⟨k', s', hk', rfl, ho', hok', hkw⟩ := hrel
            have HO' := hide ho'
            have HOK' := hide hok'
            have HKW := hide hkw
            have q5 := hok'.2.2.1
            have q6 := hok'.2.2.2.1
            clear ho' hok' hkw
            go_wp2_with (first
              | (go_at_call 24; refine (sample_any (t / 8) t s' true _ _ (unhide HO') (unhide HOK')).mono ?_; rintro e w' ⟨rfl, ho2, hk2⟩)
              | (go_at_call 18; refine (known16 _).mono ?_; rintro e w' ⟨rfl, hk2⟩))
            · rw [same_time t s' (by omega) (by omega)] at ho2
              have HO2 := hide ho2
              have hok2 := same_ok t s' (unhide HOK') (by omega)
              have HOK2 := hide hok2
              have HK2 := hide hk2
              clear ho2 hok2 hk2
              go_wp2_with (go_at_call 22; refine (time_any t _ true _ _ (unhide HO2) (unhide HOK2)).mono ?_; rintro e w' ⟨rfl, rfl⟩)
              go_roundw
              case rel => exact ⟨k' + 1, _, by omega, by go_num, unhide HO2, unhide HOK2, (unhide HKW).trans (unhide HK2) (by intro i hi hm; simp at hm; omega)⟩
              case measure => simp [intOf]; omega
            · go_ret
              exact ⟨rfl, (unhide HKW).trans hk2 (by simp)⟩
end Go.Proofs.Ytpdabmbjnmpgbaa
