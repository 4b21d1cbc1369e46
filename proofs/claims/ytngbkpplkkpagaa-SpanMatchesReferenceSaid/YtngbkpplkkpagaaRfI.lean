/-
  The reference's functions on spans: Valid.
-/
import Derived.Test.YtngbkpplkkpagaaRfE
import Derived.Test.YtngbkpplkkpagaaReg
namespace Go.Proofs.Ytngbkpplkkpagaa
open Go.RowKit Go.Proofs WageMem WageSpan WageReg

/-- The reference's Valid over the first k spans. -/
def okTo (ss : List Sp) (k : Nat) : Prop := (∀ i s, i < k → ss[i]? = some s → properB s = true) ∧ ∀ i s t, i + 1 < k → ss[i]? = some s → ss[i + 1]? = some t → s.2 < t.1
theorem okTo_all {ss : List Sp} {n : Nat} (h : okTo ss n) (hn : ss.length = n) : nrm ss = ss := by
  rw [nrm_iff, valid_pairs]
  refine ⟨fun s hs => ?_, fun i s t h1 h2 => h.2 i s t ?_ h1 h2⟩
  · obtain ⟨i, hi, rfl⟩ := List.mem_iff_getElem.1 hs
    exact h.1 i _ (by omega) (List.getElem?_eq_getElem hi)
  · have := (List.getElem?_eq_some_iff.1 h2).1; omega
theorem okTo_step {ss : List Sp} {k : Nat} {s : Sp} (h : okTo ss k) (hs : ss[k]? = some s) (hp : properB s = true) (hprev : k = 0 ∨ ∃ j t, k = j + 1 ∧ ss[j]? = some t ∧ t.2 < s.1) : okTo ss (k + 1) := by
  refine ⟨fun i t hi ht => ?_, fun i t u hi ht hu => ?_⟩
  · by_cases hik : i = k
    · subst hik; rw [hs] at ht; injection ht with ht; rw [← ht]; exact hp
    · exact h.1 i t (by omega) ht
  · by_cases hik : i + 1 = k
    · rcases hprev with h0 | ⟨j, t', hj, ht', hlt⟩
      · omega
      · obtain rfl : i = j := by omega
        rw [ht'] at ht; injection ht with ht; rw [hik, hs] at hu; injection hu with hu
        rw [← ht, ← hu]; exact hlt
    · exact h.2 i t u (by omega) ht hu
theorem bad_proper {ss : List Sp} {k : Nat} {s : Sp} (hs : ss[k]? = some s) (hp : properB s = false) : ¬ nrm ss = ss := by
  intro h; rw [nrm_iff] at h; have := h.1 s (List.mem_of_getElem? hs); rw [hp] at this; cases this
theorem bad_pair {ss : List Sp} {k : Nat} {s t : Sp} (ht : ss[k]? = some t) (hs : ss[k + 1]? = some s) (hle : s.1 ≤ t.2) : ¬ nrm ss = ss := by
  intro h; rw [nrm_iff, valid_pairs] at h; have := h.2 k t s ht hs; omega

set_option maxRecDepth 100000 in
set_option maxHeartbeats 4000000 in
theorem rvalid_any (A : Option Addr) (n c : Nat) (ss : List Sp) (w : World) (h : Spans w A n c ss) :
    Calls Try.prog 13 #[.slice A n c] w fun r w' => r = .returned (.bool (decide (nrm ss = ss))) ∧ Grew w w' := by
  have HH := Lib.hid h
  have hn := h.le
  clear h
  go_enter Try.func13, Try.ntmps13
  go_wp2_with fail
  go_loopw [3] (fun i wr => ∃ k : Nat, k ≤ n ∧ i = .int .i64 k ∧ Hid (okTo ss k) ∧ Grew w wr) (fun i _ => n - (intOf i).toNat)
  case atStart => exact ⟨0, Nat.zero_le _, rfl, ⟨fun i s h => absurd h (by omega), fun i s t h => absurd h (by omega)⟩, Grew.refl _⟩
  case round =>
    obtain ⟨k, hk, rfl, HE, hg⟩ := hrel
    by_cases hlt : k < n
    · obtain ⟨b, o, s, rfl, hs, c1, c2, b1, b2⟩ := (HH.out.grew hg).at_ hlt
      have HS := Lib.hid hs
      obtain ⟨s1, s2⟩ := s
      simp only at c1 c2 b1 b2
      have i0 : (0 : Int) ≤ (k : Int) := by omega
      have i1 : (k : Int) < (n : Int) := by omega
      clear hs
      replace c1 := (Grew.refl wr).drew.cell c1
      replace c2 := (Grew.refl wr).drew.cell c2
      cases hp : properB (s1, s2) with
      | false =>
        have HP := Lib.hid hp
        have HBAD := Lib.hid (bad_proper HS.out hp)
        clear hp
        go_wp2_with fail
        have hC : ∀ w', Grew wr.drew w' → w'.cell? ⟨b, o + k * 2, none⟩ = some (.int .i64 s1) ∧ w'.cell? ⟨b, o + k * 2 + 1, none⟩ = some (.int .i64 s2) := fun w' g' => ⟨g'.cell c1, g'.cell c2⟩
        refine wp_region_seq (by kernel_rfl) Grew.refl (fun _ _ _ => Grew.trans) (fun _ _ _ _ _ h => h) (by kernel_rfl) ?_
        repeat (first
          | (refine TakeAll.pure (v := ?_) (by rfl) ?_ ?_; rotate_left; (intro w' g'; obtain ⟨q0, q1⟩ := hC w' g'; go_simp; first | done | with_reducible rfl); (simp only [Act.put, List.setIfInBounds_toArray, List.set_cons_zero, List.set_cons_succ]))
          | (refine TakeAll.skip (by rfl) ?_; (simp only [Act.put, List.setIfInBounds_toArray, List.set_cons_zero, List.set_cons_succ])))
        refine TakeAll.call (by rfl) 30 _ (fun _ => by go_simp) (fun w' _ => rproper_val HP.out w') ?_
        simp only [Act.put, List.setIfInBounds_toArray, List.set_cons_zero, List.set_cons_succ]
        repeat (first
          | (refine TakeAll.pure (v := ?_) (by rfl) ?_ ?_; rotate_left; (intro w' g'; obtain ⟨q0, q1⟩ := hC w' g'; go_simp; first | done | with_reducible rfl); (simp only [Act.put, List.setIfInBounds_toArray, List.set_cons_zero, List.set_cons_succ]))
          | (refine TakeAll.skip (by rfl) ?_; (simp only [Act.put, List.setIfInBounds_toArray, List.set_cons_zero, List.set_cons_succ])))
        refine TakeAll.nil ?_
        intro w5 g5
        go_wp2_with fail
        go_ret
        exact ⟨by rw [decide_eq_false HBAD.out]; rfl, (hg.drew).trans g5⟩
      | true =>
        have HP := Lib.hid hp
        clear hp
        by_cases hk0 : k = 0
        · have t1 : decide (0 < (k : Int)) = false := decide_eq_false (by omega)
          have t2 : decide (0 < k) = false := decide_eq_false (by omega)
          have HOK := Lib.hid (okTo_step HE.out HS.out HP.out (.inl hk0))
          clear hk0
          go_wp2_with fail
          have hC : ∀ w', Grew wr.drew w' → w'.cell? ⟨b, o + k * 2, none⟩ = some (.int .i64 s1) ∧ w'.cell? ⟨b, o + k * 2 + 1, none⟩ = some (.int .i64 s2) := fun w' g' => ⟨g'.cell c1, g'.cell c2⟩
          refine wp_region_seq (by kernel_rfl) Grew.refl (fun _ _ _ => Grew.trans) (fun _ _ _ _ _ h => h) (by kernel_rfl) ?_
          repeat (first
            | (refine TakeAll.pure (v := ?_) (by rfl) ?_ ?_; rotate_left; (intro w' g'; obtain ⟨q0, q1⟩ := hC w' g'; go_simp; first | done | with_reducible rfl); (simp only [Act.put, List.setIfInBounds_toArray, List.set_cons_zero, List.set_cons_succ]))
            | (refine TakeAll.skip (by rfl) ?_; (simp only [Act.put, List.setIfInBounds_toArray, List.set_cons_zero, List.set_cons_succ])))
          refine TakeAll.call (by rfl) 30 _ (fun _ => by go_simp) (fun w' _ => rproper_val HP.out w') ?_
          simp only [Act.put, List.setIfInBounds_toArray, List.set_cons_zero, List.set_cons_succ]
          repeat (first
            | (refine TakeAll.pure (v := ?_) (by rfl) ?_ ?_; rotate_left; (intro w' g'; obtain ⟨q0, q1⟩ := hC w' g'; go_simp; first | done | with_reducible rfl); (simp only [Act.put, List.setIfInBounds_toArray, List.set_cons_zero, List.set_cons_succ]))
            | (refine TakeAll.skip (by rfl) ?_; (simp only [Act.put, List.setIfInBounds_toArray, List.set_cons_zero, List.set_cons_succ])))
          refine TakeAll.nil ?_
          intro w5 g5
          go_wp2_with fail
          go_roundw
          case rel => exact ⟨k + 1, by omega, by go_num, HOK, (hg.drew).trans g5⟩
          case measure => simp [intOf]; omega
        · have q1 : decide (0 < (k : Int)) = true := decide_eq_true (by omega)
          have q2 : decide (0 < k) = true := decide_eq_true (by omega)
          obtain ⟨b', o', t, e1, ht, d1, d2, bt1, bt2⟩ := (HH.out.grew hg).at_ (show k - 1 < n by omega)
          injection e1 with e1
          injection e1 with e1 e2
          subst e1 e2
          obtain ⟨t1, t2⟩ := t
          simp only at d1 d2 bt1 bt2
          have HT := Lib.hid ht
          clear ht d1
          replace d2 := (Grew.refl wr).drew.cell d2
          have m1 : IntKind.i64.wrap ((k : Int) - 1) = (k : Int) - 1 := IntWalk.i64_in _ (by omega)
          have m2 : ((k : Int) - 1).toNat = k - 1 := by omega
          have m3 : (0 : Int) ≤ (k : Int) - 1 := by omega
          have m3' : (1 : Int) ≤ (k : Int) := by omega
          have m4 : (k : Int) - 1 < (n : Int) := by omega
          by_cases hle : s1 ≤ t2
          · have q3 : decide (s1 ≤ t2) = true := decide_eq_true hle
            have HBAD := Lib.hid (bad_pair HT.out (show ss[k - 1 + 1]? = some (s1, s2) by rw [show k - 1 + 1 = k by omega]; exact HS.out) hle)
            clear hle
            go_wp2_with fail
            have hC : ∀ w', Grew wr.drew w' → w'.cell? ⟨b, o + k * 2, none⟩ = some (.int .i64 s1) ∧ w'.cell? ⟨b, o + k * 2 + 1, none⟩ = some (.int .i64 s2) ∧ w'.cell? ⟨b, o + (k - 1) * 2 + 1, none⟩ = some (.int .i64 t2) := fun w' g' => ⟨g'.cell c1, g'.cell c2, g'.cell d2⟩
            refine wp_region_seq (by kernel_rfl) Grew.refl (fun _ _ _ => Grew.trans) (fun _ _ _ _ _ h => h) (by kernel_rfl) ?_
            repeat (first
              | (refine TakeAll.pure (v := ?_) (by rfl) ?_ ?_; rotate_left; (intro w' g'; obtain ⟨q0, q1, q2⟩ := hC w' g'; go_simp; first | done | with_reducible rfl); (simp only [Act.put, List.setIfInBounds_toArray, List.set_cons_zero, List.set_cons_succ]))
              | (refine TakeAll.skip (by rfl) ?_; (simp only [Act.put, List.setIfInBounds_toArray, List.set_cons_zero, List.set_cons_succ])))
            refine TakeAll.call (by rfl) 30 _ (fun _ => by go_simp) (fun w' _ => rproper_val HP.out w') ?_
            simp only [Act.put, List.setIfInBounds_toArray, List.set_cons_zero, List.set_cons_succ]
            repeat (first
              | (refine TakeAll.pure (v := ?_) (by rfl) ?_ ?_; rotate_left; (intro w' g'; obtain ⟨q0, q1, q2⟩ := hC w' g'; go_simp; first | done | with_reducible rfl); (simp only [Act.put, List.setIfInBounds_toArray, List.set_cons_zero, List.set_cons_succ]))
              | (refine TakeAll.skip (by rfl) ?_; (simp only [Act.put, List.setIfInBounds_toArray, List.set_cons_zero, List.set_cons_succ])))
            refine TakeAll.nil ?_
            intro w5 g5
            go_wp2_with fail
            go_ret
            exact ⟨by rw [decide_eq_false HBAD.out]; rfl, (hg.drew).trans g5⟩
          · have q3 : decide (s1 ≤ t2) = false := decide_eq_false hle
            have HOK := Lib.hid (okTo_step HE.out HS.out HP.out (.inr ⟨k - 1, _, by omega, HT.out, by show t2 < s1; omega⟩))
            clear hle
            go_wp2_with fail
            have hC : ∀ w', Grew wr.drew w' → w'.cell? ⟨b, o + k * 2, none⟩ = some (.int .i64 s1) ∧ w'.cell? ⟨b, o + k * 2 + 1, none⟩ = some (.int .i64 s2) ∧ w'.cell? ⟨b, o + (k - 1) * 2 + 1, none⟩ = some (.int .i64 t2) := fun w' g' => ⟨g'.cell c1, g'.cell c2, g'.cell d2⟩
            refine wp_region_seq (by kernel_rfl) Grew.refl (fun _ _ _ => Grew.trans) (fun _ _ _ _ _ h => h) (by kernel_rfl) ?_
            repeat (first
              | (refine TakeAll.pure (v := ?_) (by rfl) ?_ ?_; rotate_left; (intro w' g'; obtain ⟨q0, q1, q2⟩ := hC w' g'; go_simp; first | done | with_reducible rfl); (simp only [Act.put, List.setIfInBounds_toArray, List.set_cons_zero, List.set_cons_succ]))
              | (refine TakeAll.skip (by rfl) ?_; (simp only [Act.put, List.setIfInBounds_toArray, List.set_cons_zero, List.set_cons_succ])))
            refine TakeAll.call (by rfl) 30 _ (fun _ => by go_simp) (fun w' _ => rproper_val HP.out w') ?_
            simp only [Act.put, List.setIfInBounds_toArray, List.set_cons_zero, List.set_cons_succ]
            repeat (first
              | (refine TakeAll.pure (v := ?_) (by rfl) ?_ ?_; rotate_left; (intro w' g'; obtain ⟨q0, q1, q2⟩ := hC w' g'; go_simp; first | done | with_reducible rfl); (simp only [Act.put, List.setIfInBounds_toArray, List.set_cons_zero, List.set_cons_succ]))
              | (refine TakeAll.skip (by rfl) ?_; (simp only [Act.put, List.setIfInBounds_toArray, List.set_cons_zero, List.set_cons_succ])))
            refine TakeAll.nil ?_
            intro w5 g5
            go_wp2_with fail
            go_roundw
            case rel => exact ⟨k + 1, by omega, by go_num, HOK, (hg.drew).trans g5⟩
            case measure => simp [intOf]; omega
    · have hfin := Lib.hid (okTo_all (show okTo ss n by have := HE.out; rwa [show k = n by omega] at this) HH.out.1)
      go_wp2_with fail
      go_ret
      exact ⟨by rw [decide_eq_true hfin.out]; rfl, hg⟩

theorem rvalid_val {A : Option Addr} {n c : Nat} {ss : List Sp} {w : World} {t : Bool} (h : Spans w A n c ss) (ht : decide (nrm ss = ss) = t) :
    Calls Try.prog 13 #[.slice A n c] w fun r w' => r = .returned (.bool t) ∧ Grew w w' := by subst ht; exact rvalid_any A n c ss w h
end Go.Proofs.Ytngbkpplkkpagaa
