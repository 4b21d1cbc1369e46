/-
  cmp.Compare; slices.BinarySearchFunc at answers.
-/
import Derived.Test.YtaocjobbfcfleaaValO
import Derived.Test.YtaocjobbfcfleaaDeskP
namespace WageSet
/-- Ascending numbers. -/
def SortQ (l : List Ans) : Prop := ∀ (s t : Nat) (x y : Ans), s < t → l[s]? = some x → l[t]? = some y → x.q < y.q
theorem sortQ_of {ps : List Pay} {zs : List Ans} (h : asB ps zs zs.length = true) : SortQ zs := by
  intro s t
  induction t with
  | zero => intro x y hst; omega
  | succ t ih =>
    intro x y hst hx hy
    have ht := (List.getElem?_eq_some_iff.1 hy).1
    have hp := (asB_at h ht hy).2.2
    obtain ⟨z, hz⟩ : ∃ z, zs[t]? = some z := ⟨_, List.getElem?_eq_getElem (by omega)⟩
    unfold prevQ at hp
    simp only [hz, decide_eq_true_eq] at hp
    rcases Nat.lt_or_eq_of_le (Nat.lt_succ_iff.1 hst) with h1 | h1
    · exact Int.lt_trans (ih x z h1 hx hz) hp
    · subst h1
      rw [hx] at hz; injection hz with hz; subst hz
      exact hp
theorem posA_eq {q : Int} : ∀ {l : List Ans} {i : Nat}, i ≤ l.length → (∀ t y, t < i → l[t]? = some y → y.q < q) → (∀ t y, i ≤ t → l[t]? = some y → q ≤ y.q) → posA q l = i
  | [], i, hi, _, _ => by simp at hi; subst hi; rfl
  | a :: l, 0, _, _, h2 => by
    have := h2 0 a (Nat.le_refl _) rfl
    unfold posA
    rw [List.takeWhile_cons_of_neg (by simp; omega)]; rfl
  | a :: l, i + 1, hi, h1, h2 => by
    have := h1 0 a (by omega) rfl
    have ih := posA_eq (q := q) (l := l) (i := i) (by simpa using hi) (fun t y ht hy => h1 (t + 1) y (by omega) (by simpa using hy)) (fun t y ht hy => h2 (t + 1) y (by omega) (by simpa using hy))
    unfold posA at ih ⊢
    rw [List.takeWhile_cons_of_pos (by simpa using this), List.length_cons, ih]
theorem found_no {q : Int} {l : List Ans} {i : Nat} (h : posA q l = i) (hi : l.length ≤ i) : foundA q l = false := by
  unfold foundA; rw [h, List.getElem?_eq_none hi]
theorem found_at {q : Int} {l : List Ans} {i : Nat} {y : Ans} {b : Bool} (h : posA q l = i) (hy : l[i]? = some y) (hb : decide (y.q = q) = b) : foundA q l = b := by
  unfold foundA; rw [h, hy]; exact hb
end WageSet
namespace Go.Proofs.Ytaocjobbfcfleaa
open Go.RowKit Go.Proofs WageMem WageOrd WageRec WageMap WageReg WageSet

def cmpI (x y : Int) : Int := if x < y then -1 else if y < x then 1 else 0
theorem isNaN_any (x : Int) (w : World) : Calls Try.prog 57 #[.int .i64 x] w fun e w' => e = .returned (.bool false) ∧ w = w' := by
  have t : (x != x) = false := by simp
  go_enter Try.func57, Try.ntmps57
  go_wp2
  go_ret
  exact ⟨rfl, rfl⟩
theorem compare_any (x y : Int) (w : World) : Calls Try.prog 39 #[.int .i64 x, .int .i64 y] w fun e w' => e = .returned (.int .i64 (cmpI x y)) ∧ w = w' := by
  have hc : (decide (x < y) = true ∧ cmpI x y = -1) ∨ (decide (x < y) = false ∧ decide (y < x) = true ∧ cmpI x y = 1) ∨ (decide (x < y) = false ∧ decide (y < x) = false ∧ cmpI x y = 0) := by
    unfold cmpI
    by_cases h1 : x < y
    · exact .inl ⟨decide_eq_true h1, by rw [if_pos h1]⟩
    · by_cases h2 : y < x
      · exact .inr (.inl ⟨decide_eq_false h1, decide_eq_true h2, by rw [if_neg h1, if_pos h2]⟩)
      · exact .inr (.inr ⟨decide_eq_false h1, decide_eq_false h2, by rw [if_neg h1, if_neg h2]⟩)
  rcases hc with ⟨h1, h2⟩ | ⟨h1, h2, h3⟩ | ⟨h1, h2, h3⟩
  · rw [h2]
    clear h2
    go_enter Try.func39, Try.ntmps39
    go_wp2_with (go_at_call 57; refine (isNaN_any _ _).mono ?_; rintro e w' ⟨rfl, rfl⟩)
    go_ret
    exact ⟨rfl, rfl⟩
  · rw [h3]
    clear h3
    go_enter Try.func39, Try.ntmps39
    go_wp2_with (go_at_call 57; refine (isNaN_any _ _).mono ?_; rintro e w' ⟨rfl, rfl⟩)
    go_ret
    exact ⟨rfl, rfl⟩
  · rw [h3]
    clear h3
    go_enter Try.func39, Try.ntmps39
    go_wp2_with (go_at_call 57; refine (isNaN_any _ _).mono ?_; rintro e w' ⟨rfl, rfl⟩)
    go_ret
    exact ⟨rfl, rfl⟩
theorem cmpI_cases (x y : Int) : (x < y ∧ cmpI x y = -1) ∨ (y < x ∧ cmpI x y = 1) ∨ (x = y ∧ cmpI x y = 0) := by
  unfold cmpI
  by_cases h1 : x < y
  · exact .inl ⟨h1, by rw [if_pos h1]⟩
  · by_cases h2 : y < x
    · exact .inr (.inl ⟨h2, by rw [if_neg h1, if_pos h2]⟩)
    · exact .inr (.inr ⟨by omega, by rw [if_neg h1, if_neg h2]⟩)
theorem byQ_any (x : Ans) (q : Int) (w : World) : Calls Try.prog 38 #[.agg #[.int .i64 x.q, .int .i64 x.id, .int .i64 x.k, .int .i64 x.c, .int .i64 x.d], .int .i64 q] w fun e w' => e = .returned (.int .i64 (cmpI x.q q)) ∧ Grew w w' := by
  go_enter Try.func38, Try.ntmps38
  go_wp2_with (go_at_call 39; refine (compare_any _ _ _).mono ?_; rintro e w' ⟨rfl, rfl⟩)
  go_ret
  exact ⟨rfl, (Grew.refl w).alloc _⟩

set_option maxRecDepth 100000 in
set_option maxHeartbeats 8000000 in
theorem search_any (B : Option Addr) (m e : Nat) (zs : List Ans) (q : Int) (w : World) (h : Anss w B m e zs) (hs : SortQ zs) (hm : m ≤ 5000) : Calls Try.prog 37 #[.slice B m e, .int .i64 q, .func (.func 38) #[] #[]] w fun r w' => r = .returned (.tuple #[.int .i64 (posA q zs : Nat), .bool (foundA q zs)]) ∧ Grew w w' := by
  have HA := Lib.hid h
  have HL := Lib.hid h.1
  have HS := Lib.hid hs
  obtain ⟨ps, hps⟩ : ∃ p, posA q zs = p := ⟨_, rfl⟩
  obtain ⟨fd, hfd⟩ : ∃ p, foundA q zs = p := ⟨_, rfl⟩
  have HPS := Lib.hid hps
  have HFD := Lib.hid hfd
  rw [hps, hfd]
  clear h hs hps hfd
  go_enter Try.func37, Try.ntmps37
  go_wp2_with fail
  go_loopw [9, 10] (fun v i y => ∃ lo hi : Nat, v = .int .i64 lo ∧ i = .int .i64 hi ∧ lo ≤ hi ∧ hi ≤ m ∧ Hid (∀ t y, t < lo → zs[t]? = some y → y.q < q) ∧ Hid (∀ t y, hi ≤ t → zs[t]? = some y → q ≤ y.q) ∧ Grew w y) (fun v i _ => (intOf i).toNat - (intOf v).toNat)
  case atStart => exact ⟨0, m, rfl, rfl, Nat.zero_le _, Nat.le_refl _, fun t y ht => absurd ht (Nat.not_lt_zero _), fun t y ht hy => by have := (List.getElem?_eq_some_iff.1 hy).1; rw [HL.out] at this; omega, Grew.refl _⟩
  case round =>
    obtain ⟨lo, hi, rfl, rfl, hlh, hin, H1, H2, hg⟩ := hrel
    by_cases hlt : lo < hi
    · have hlt' : decide ((lo : Int) < (hi : Int)) = true := decide_eq_true (by omega)
      obtain ⟨b, o, x, rfl, hx, hr⟩ := (HA.out.grew hg).at_ ae_ok (show (lo + hi) / 2 < m by omega)
      have HX := Lib.hid hx
      obtain ⟨c0, c1, c2, c3, c4⟩ := a_cells hr
      have i0 : (0 : Int) ≤ ((lo : Int) + (hi : Int)) / 2 := by omega
      have i1 : ((lo : Int) + (hi : Int)) / 2 < (m : Int) := by omega
      have i2 : (((lo : Int) + (hi : Int)) / 2).toNat = (lo + hi) / 2 := by omega
      clear hx hr
      rcases cmpI_cases x.q q with ⟨hc, hv⟩ | ⟨hc, hv⟩ | ⟨hc, hv⟩
      · have H1' : Hid (∀ t y, t < (lo + hi) / 2 + 1 → zs[t]? = some y → y.q < q) := fun t y ht hy => by
          rcases Nat.lt_or_eq_of_le (Nat.lt_succ_iff.1 ht) with h1 | h1
          · exact Int.lt_trans (HS.out t _ y x h1 hy HX.out) hc
          · subst h1; rw [HX.out] at hy; injection hy with hy; subst hy; exact hc
        have HV := Lib.hid hv
        clear hc hv
        go_wp2_with fail
        refine (byQ_any x q _).mono ?_
        rintro e w5 ⟨rfl, g5⟩
        rw [HV.out]
        have gE := hg.trans g5
        clear c0 c1 c2 c3 c4 g5
        go_wp2_with fail
        go_roundw
        case rel => exact ⟨(lo + hi) / 2 + 1, hi, by first | go_num | (rw [show ((lo : Int) + (hi : Int)) / 2 + 1 = (((lo + hi) / 2 + 1 : Nat) : Int) by omega]), rfl, by omega, hin, H1', H2, gE⟩
        case measure => simp [intOf]; omega
      · have H2' : Hid (∀ t y, (lo + hi) / 2 ≤ t → zs[t]? = some y → q ≤ y.q) := fun t y ht hy => by
          rcases Nat.lt_or_eq_of_le ht with h1 | h1
          · have := HS.out _ t x y h1 HX.out hy; omega
          · subst h1; rw [HX.out] at hy; injection hy with hy; subst hy; omega
        have HV := Lib.hid hv
        clear hc hv
        go_wp2_with fail
        refine (byQ_any x q _).mono ?_
        rintro e w5 ⟨rfl, g5⟩
        rw [HV.out]
        have gE := hg.trans g5
        clear c0 c1 c2 c3 c4 g5
        go_wp2_with fail
        go_roundw
        case rel => exact ⟨lo, (lo + hi) / 2, rfl, by first | go_num | (rw [show ((lo : Int) + (hi : Int)) / 2 = (((lo + hi) / 2 : Nat) : Int) by omega]), by omega, by omega, H1, H2', gE⟩
        case measure => simp [intOf]; omega
      · have H2' : Hid (∀ t y, (lo + hi) / 2 ≤ t → zs[t]? = some y → q ≤ y.q) := fun t y ht hy => by
          rcases Nat.lt_or_eq_of_le ht with h1 | h1
          · have := HS.out _ t x y h1 HX.out hy; omega
          · subst h1; rw [HX.out] at hy; injection hy with hy; subst hy; omega
        have HV := Lib.hid hv
        clear hc hv
        go_wp2_with fail
        refine (byQ_any x q _).mono ?_
        rintro e w5 ⟨rfl, g5⟩
        rw [HV.out]
        have gE := hg.trans g5
        clear c0 c1 c2 c3 c4 g5
        go_wp2_with fail
        go_roundw
        case rel => exact ⟨lo, (lo + hi) / 2, rfl, by first | go_num | (rw [show ((lo : Int) + (hi : Int)) / 2 = (((lo + hi) / 2 : Nat) : Int) by omega]), by omega, by omega, H1, H2', gE⟩
        case measure => simp [intOf]; omega
    · obtain rfl : hi = lo := by omega
      have HP : Hid (posA q zs = hi) := posA_eq (by rw [HL.out]; exact hin) H1.out H2.out
      obtain rfl : hi = ps := by rw [← HP.out, HPS.out]
      by_cases hn : hi < m
      · have hn' : decide ((hi : Int) < (m : Int)) = true := decide_eq_true (by omega)
        obtain ⟨b, o, x, rfl, hx, hr⟩ := (HA.out.grew hg).at_ ae_ok hn
        have HX := Lib.hid hx
        obtain ⟨c0, c1, c2, c3, c4⟩ := a_cells hr
        have i0 : (0 : Int) ≤ (hi : Int) := by omega
        have i1 : (hi : Int) < (m : Int) := by omega
        clear hx hr
        by_cases hq : x.q = q
        · have HV : Hid (cmpI x.q q = 0) := by
            rcases cmpI_cases x.q q with ⟨h1, _⟩ | ⟨h1, _⟩ | ⟨_, h2⟩
            · omega
            · omega
            · exact h2
          have HF : Hid (fd = true) := by unfold Hid; rw [← HFD.out]; exact found_at HP.out HX.out (decide_eq_true hq)
          obtain rfl := HF.out
          clear hq
          go_wp2_with fail
          refine (byQ_any x q _).mono ?_
          rintro e w5 ⟨rfl, g5⟩
          rw [HV.out]
          go_wp2_with fail
          refine bodyPost_ret (results_tmp2 rfl _ _ _) rfl ?_
          exact ⟨rfl, hg.trans g5⟩
        · obtain ⟨v, hv⟩ : ∃ v, cmpI x.q q = v := ⟨_, rfl⟩
          have hv0 : (v == 0) = false := by
            rw [beq_eq_false_iff_ne]
            rcases cmpI_cases x.q q with ⟨h1, h2⟩ | ⟨h1, h2⟩ | ⟨h1, _⟩
            · omega
            · omega
            · exact absurd h1 hq
          have HV := Lib.hid hv
          have HF : Hid (fd = false) := by unfold Hid; rw [← HFD.out]; exact found_at HP.out HX.out (decide_eq_false hq)
          obtain rfl := HF.out
          clear hq hv
          go_wp2_with fail
          refine (byQ_any x q _).mono ?_
          rintro e w5 ⟨rfl, g5⟩
          rw [HV.out]
          go_wp2_with fail
          refine bodyPost_ret (results_tmp2 rfl _ _ _) rfl ?_
          exact ⟨rfl, hg.trans g5⟩
      · have hn' : decide ((hi : Int) < (m : Int)) = false := decide_eq_false (by omega)
        have HF : Hid (fd = false) := by unfold Hid; rw [← HFD.out]; exact found_no HP.out (by rw [HL.out]; omega)
        obtain rfl := HF.out
        go_wp2_with fail
        refine bodyPost_ret (results_tmp2 rfl _ _ _) rfl ?_
        exact ⟨rfl, hg⟩
end Go.Proofs.Ytaocjobbfcfleaa
