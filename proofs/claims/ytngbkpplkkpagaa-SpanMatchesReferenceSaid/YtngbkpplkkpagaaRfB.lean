/-
  The reference's functions on spans: merge.
-/
import Derived.Test.YtngbkpplkkpagaaPartsP
namespace Go.Proofs.Ytngbkpplkkpagaa
open Go.RowKit Go.Proofs WageMem WageSpan

theorem rmerge_nil (x : List Sp) : rmerge x [] = x := by cases x <;> simp [rmerge]
theorem rmerge_left {s : Sp} {x y : List Sp} (h : y = [] ∨ ∃ t z, y = t :: z ∧ s.1 ≤ t.1) : rmerge (s :: x) y = s :: rmerge x y := by
  rcases h with rfl | ⟨t, z, rfl, h⟩
  · rw [rmerge_nil, rmerge_nil]
  · rw [rmerge, if_pos h]
theorem rmerge_right {t : Sp} {x y : List Sp} (h : x = [] ∨ ∃ s z, x = s :: z ∧ ¬ s.1 ≤ t.1) : rmerge x (t :: y) = t :: rmerge x y := by
  rcases h with rfl | ⟨s, z, rfl, h⟩
  · rw [rmerge, rmerge]
  · rw [rmerge, if_neg h]
theorem dropS {E : List Sp} {k : Nat} {e : Sp} (h : E[k]? = some e) : E.drop k = e :: E.drop (k + 1) := by
  obtain ⟨hl, rfl⟩ := List.getElem?_eq_some_iff.1 h
  exact List.drop_eq_getElem_cons hl
structure MgInv (w : World) (a b : List Sp) (i k : Nat) (R : List Sp) (Al : Option Addr) (cl : Nat) (W : World) : Prop where
  own : W.ownsRow w.heap.size 33 2 (.slice Al (i + k) cl) (i + k) (flat R)
  len : R.length = i + k
  rest : R ++ rmerge (a.drop i) (b.drop k) = rmerge a b
  in64 : In64 R
  grew : Grew w W
theorem in64_one {R : List Sp} (h : In64 R) {s : Sp} (hs : (-9223372036854775808 ≤ s.1 ∧ s.1 ≤ 9223372036854775807) ∧ (-9223372036854775808 ≤ s.2 ∧ s.2 ≤ 9223372036854775807)) : In64 (R ++ [s]) :=
  in64_append h fun x hx => by simp at hx; subst hx; exact hs

set_option maxRecDepth 100000 in
set_option maxHeartbeats 4000000 in
theorem merge_any (A B : Option Addr) (n m c e : Nat) (a b : List Sp) (w : World) (ha : Spans w A n c a) (hb : Spans w B m e b) (hn : n ≤ 2000) (hm : m ≤ 2000) :
    Calls Try.prog 40 #[.slice A n c, .slice B m e] w (RetS (rmerge a b) w) := by
  obtain ⟨i0, hi, hz0, hz1, hz2⟩ := info_parts info33
  have HA := Lib.hid ha
  have HB := Lib.hid hb
  clear ha hb
  go_enter Try.func40, Try.ntmps40
  go_wp2_with fail
  go_loopw [5, 6, 7] (fun v x y wr => ∃ (i k : Nat) (R : List Sp) (Al : Option Addr) (cl : Nat), i ≤ n ∧ k ≤ m ∧ x = .int .i64 i ∧ y = .int .i64 k ∧ v = .slice Al (i + k) cl ∧ Hid (MgInv w a b i k R Al cl wr)) (fun _ x y _ => (n - (intOf x).toNat) + (m - (intOf y).toNat))
  case atStart => exact ⟨0, 0, [], none, 0, by omega, by omega, rfl, rfl, rfl, ⟨World.ownsRow_nil _ _ _ _, rfl, rfl, fun s hs => by simp at hs, Grew.refl _⟩⟩
  case round =>
    obtain ⟨i, k, R, Al, cl, hi', hk', rfl, rfl, rfl, INV⟩ := hrel
    by_cases hend : i < n ∨ k < m
    · by_cases hleft : i < n ∧ (k = m ∨ ∃ s t, a[i]? = some s ∧ b[k]? = some t ∧ s.1 ≤ t.1)
      · obtain ⟨hin, hcase⟩ := hleft
        obtain ⟨b1, o1, s, rfl, hs, c1, c2, bs1, bs2⟩ := (HA.out.grew INV.out.grew).at_ hin
        obtain ⟨s1, s2⟩ := s
        simp only at c1 c2 bs1 bs2
        have HREST : Hid (rmerge (a.drop i) (b.drop k) = (s1, s2) :: rmerge (a.drop (i + 1)) (b.drop k)) := by
          unfold Hid
          rw [dropS hs, rmerge_left]
          rcases hcase with h | ⟨s', t, h1, h2, h3⟩
          · exact .inl (List.drop_of_length_le (by rw [HB.out.1]; omega))
          · rw [hs] at h1
            injection h1 with h1
            subst h1
            exact .inr ⟨t, _, dropS h2, h3⟩
        have t1 : decide ((i : Int) < n) = true := decide_eq_true (by omega)
        have t3 : decide (i < n) = true := decide_eq_true hin
        have q0 : (0 : Int) ≤ (i : Int) := by omega
        have q1 : (i : Int) < (n : Int) := by omega
        by_cases hkm : k = m
        · have t5 : ((k : Int) == (m : Int)) = true := by rw [hkm]; simp
          clear hcase hs hkm
          go_wp2_with fail
          go_quiet (fail)
          obtain ⟨wd, hwd⟩ : ∃ x, x = wr.drewN nq := ⟨_, rfl⟩
          have gd : Grew wr wd := by rw [hwd]; exact (Grew.refl wr).drewN _
          rw [← hwd]
          clear hwd
          replace c1 := gd.cell c1
          replace c2 := gd.cell c2
          have hle := (INV.out.grew.trans gd).le
          have BI : Hid (Sl (wd.alloc (.cells #[.int .i64 s1, .int .i64 s2] 33)) 2 (some ⟨wd.heap.size, 0, none⟩) 1 1 (flat [(s1, s2)])) := built 2 1 _ _ rfl rfl (by decide)
          go_wp2_with (at_builtin; refine wpList_append_sl _ rfl (.tmp 41) (.tmp 46) 22 rfl w.heap.size 33 i0 (.agg #[.int .i64 0, .int .i64 0]) 2 16 Try.underlying22 hi hz0 hz1 hz2 rfl (by decide) (.slice Al (i + k) cl) (i + k) _ rfl ((own_grew INV.out.own gd).alloc _) (some ⟨wd.heap.size, 0, none⟩) 1 1 _ rfl BI.out (flat_one _) (by unfold maxLen; omega) (by omega) (by simp; omega) ?_; intro v3 w3 own3 hg3 hat3; obtain ⟨A3, c3, rfl⟩ := own_form own3)
          have INV2 : Hid (MgInv w a b (i + 1) k (R ++ [(s1, s2)]) A3 c3 w3) := by
            refine ⟨by rw [flat_append, show (i + 1) + k = i + k + 1 by omega]; exact own3, by rw [List.length_append, INV.out.len]; simp; omega, ?_, in64_one INV.out.in64 ⟨bs1, bs2⟩, ((INV.out.grew.trans gd).alloc _).grown hg3 (fun q hq => (INV.out.own.lt q hq).1)⟩
            rw [List.append_assoc, ← INV.out.rest, HREST.out]; rfl
          clear own3 hg3 hat3 BI INV gd c1 c2
          go_wp2_with fail
          go_roundw
          case rel => exact ⟨(i + 1), k, _, A3, c3, by omega, by omega, by go_num, by go_num, by first | rfl | (congr 1; omega), INV2⟩
          case measure => simp [intOf]; omega
        · have t5 : ((k : Int) == (m : Int)) = false := beq_eq_false_iff_ne.2 (by omega)
          obtain ⟨s', t, h1, h2, h3⟩ := hcase.resolve_left hkm
          rw [hs] at h1
          injection h1 with h1
          subst h1
          obtain ⟨b2, o2, t', rfl, ht, d1, _, _, _⟩ := (HB.out.grew INV.out.grew).at_ (show k < m by omega)
          rw [h2] at ht
          injection ht with ht
          subst ht
          obtain ⟨y1, y2⟩ := t
          simp only at d1 h3
          have t6 : decide (s1 ≤ y1) = true := decide_eq_true h3
          have q2 : (0 : Int) ≤ (k : Int) := by omega
          have q3 : (k : Int) < (m : Int) := by omega
          clear hcase hs h2 h3 hkm
          go_wp2_with fail
          go_quiet (fail)
          obtain ⟨wd, hwd⟩ : ∃ x, x = wr.drewN nq := ⟨_, rfl⟩
          have gd : Grew wr wd := by rw [hwd]; exact (Grew.refl wr).drewN _
          rw [← hwd]
          clear hwd
          replace c1 := gd.cell c1
          replace c2 := gd.cell c2
          have hle := (INV.out.grew.trans gd).le
          have BI : Hid (Sl (wd.alloc (.cells #[.int .i64 s1, .int .i64 s2] 33)) 2 (some ⟨wd.heap.size, 0, none⟩) 1 1 (flat [(s1, s2)])) := built 2 1 _ _ rfl rfl (by decide)
          go_wp2_with (at_builtin; refine wpList_append_sl _ rfl (.tmp 41) (.tmp 46) 22 rfl w.heap.size 33 i0 (.agg #[.int .i64 0, .int .i64 0]) 2 16 Try.underlying22 hi hz0 hz1 hz2 rfl (by decide) (.slice Al (i + k) cl) (i + k) _ rfl ((own_grew INV.out.own gd).alloc _) (some ⟨wd.heap.size, 0, none⟩) 1 1 _ rfl BI.out (flat_one _) (by unfold maxLen; omega) (by omega) (by simp; omega) ?_; intro v3 w3 own3 hg3 hat3; obtain ⟨A3, c3, rfl⟩ := own_form own3)
          have INV2 : Hid (MgInv w a b (i + 1) k (R ++ [(s1, s2)]) A3 c3 w3) := by
            refine ⟨by rw [flat_append, show (i + 1) + k = i + k + 1 by omega]; exact own3, by rw [List.length_append, INV.out.len]; simp; omega, ?_, in64_one INV.out.in64 ⟨bs1, bs2⟩, ((INV.out.grew.trans gd).alloc _).grown hg3 (fun q hq => (INV.out.own.lt q hq).1)⟩
            rw [List.append_assoc, ← INV.out.rest, HREST.out]; rfl
          clear own3 hg3 hat3 BI INV gd c1 c2
          go_wp2_with fail
          go_roundw
          case rel => exact ⟨(i + 1), k, _, A3, c3, by omega, by omega, by go_num, by go_num, by first | rfl | (congr 1; omega), INV2⟩
          case measure => simp [intOf]; omega
      · have hkm : k < m := by
          rcases hend with h | h
          · rcases Nat.lt_or_ge k m with h2 | h2
            · exact h2
            · exact absurd ⟨h, .inl (by omega)⟩ hleft
          · exact h
        obtain ⟨b1, o1, s, rfl, hs, c1, c2, bs1, bs2⟩ := (HB.out.grew INV.out.grew).at_ hkm
        have HREST : Hid (rmerge (a.drop i) (b.drop k) = s :: rmerge (a.drop i) (b.drop (k + 1))) := by
          unfold Hid
          rw [dropS hs, rmerge_right]
          by_cases hin : i < n
          · obtain ⟨x, hx⟩ : ∃ x, a[i]? = some x := ⟨_, List.getElem?_eq_getElem (by rw [HA.out.1]; exact hin)⟩
            exact .inr ⟨x, _, dropS hx, fun hle => hleft ⟨hin, .inr ⟨x, s, hx, hs, hle⟩⟩⟩
          · exact .inl (List.drop_of_length_le (by rw [HA.out.1]; omega))
        have t5 : ((k : Int) == (m : Int)) = false := beq_eq_false_iff_ne.2 (by omega)
        have q0 : (0 : Int) ≤ (k : Int) := by omega
        have q1 : (k : Int) < (m : Int) := by omega
        have t4 : decide ((k : Int) < m) = true := decide_eq_true (by omega)
        have t4' : decide (k < m) = true := decide_eq_true (by omega)
        by_cases hin : i < n
        · obtain ⟨b2, o2, x, rfl, hx, d1, _, _, _⟩ := (HA.out.grew INV.out.grew).at_ hin
          have hnle : ¬ x.1 ≤ s.1 := fun hle => hleft ⟨hin, .inr ⟨x, s, hx, hs, hle⟩⟩
          obtain ⟨s1, s2⟩ := s
          obtain ⟨y1, y2⟩ := x
          simp only at c1 c2 bs1 bs2 d1 hnle
          have t1 : decide ((i : Int) < n) = true := decide_eq_true (by omega)
          have t3 : decide (i < n) = true := decide_eq_true hin
          have t6 : decide (y1 ≤ s1) = false := decide_eq_false hnle
          have q2 : (0 : Int) ≤ (i : Int) := by omega
          have q3 : (i : Int) < (n : Int) := by omega
          clear hleft hend hs hx hnle
          go_wp2_with fail
          go_quiet (fail)
          obtain ⟨wd, hwd⟩ : ∃ x, x = wr.drewN nq := ⟨_, rfl⟩
          have gd : Grew wr wd := by rw [hwd]; exact (Grew.refl wr).drewN _
          rw [← hwd]
          clear hwd
          replace c1 := gd.cell c1
          replace c2 := gd.cell c2
          have hle := (INV.out.grew.trans gd).le
          have BI : Hid (Sl (wd.alloc (.cells #[.int .i64 s1, .int .i64 s2] 33)) 2 (some ⟨wd.heap.size, 0, none⟩) 1 1 (flat [(s1, s2)])) := built 2 1 _ _ rfl rfl (by decide)
          go_wp2_with (at_builtin; refine wpList_append_sl _ rfl (.tmp 50) (.tmp 55) 22 rfl w.heap.size 33 i0 (.agg #[.int .i64 0, .int .i64 0]) 2 16 Try.underlying22 hi hz0 hz1 hz2 rfl (by decide) (.slice Al (i + k) cl) (i + k) _ rfl ((own_grew INV.out.own gd).alloc _) (some ⟨wd.heap.size, 0, none⟩) 1 1 _ rfl BI.out (flat_one _) (by unfold maxLen; omega) (by omega) (by simp; omega) ?_; intro v3 w3 own3 hg3 hat3; obtain ⟨A3, c3, rfl⟩ := own_form own3)
          have INV2 : Hid (MgInv w a b i (k + 1) (R ++ [(s1, s2)]) A3 c3 w3) := by
            refine ⟨by rw [flat_append, show i + (k + 1) = i + k + 1 by omega]; exact own3, by rw [List.length_append, INV.out.len]; simp; omega, ?_, in64_one INV.out.in64 ⟨bs1, bs2⟩, ((INV.out.grew.trans gd).alloc _).grown hg3 (fun q hq => (INV.out.own.lt q hq).1)⟩
            rw [List.append_assoc, ← INV.out.rest, HREST.out]; rfl
          clear own3 hg3 hat3 BI INV gd c1 c2
          go_wp2_with fail
          go_roundw
          case rel => exact ⟨i, (k + 1), _, A3, c3, by omega, by omega, by go_num, by go_num, by first | rfl | (congr 1; omega), INV2⟩
          case measure => simp [intOf]; omega
        · obtain ⟨s1, s2⟩ := s
          simp only at c1 c2 bs1 bs2
          have t1 : decide ((i : Int) < n) = false := decide_eq_false (by omega)
          have t3 : decide (i < n) = false := decide_eq_false hin
          clear hleft hend hs
          go_wp2_with fail
          go_quiet (fail)
          obtain ⟨wd, hwd⟩ : ∃ x, x = wr.drewN nq := ⟨_, rfl⟩
          have gd : Grew wr wd := by rw [hwd]; exact (Grew.refl wr).drewN _
          rw [← hwd]
          clear hwd
          replace c1 := gd.cell c1
          replace c2 := gd.cell c2
          have hle := (INV.out.grew.trans gd).le
          have BI : Hid (Sl (wd.alloc (.cells #[.int .i64 s1, .int .i64 s2] 33)) 2 (some ⟨wd.heap.size, 0, none⟩) 1 1 (flat [(s1, s2)])) := built 2 1 _ _ rfl rfl (by decide)
          go_wp2_with (at_builtin; refine wpList_append_sl _ rfl (.tmp 50) (.tmp 55) 22 rfl w.heap.size 33 i0 (.agg #[.int .i64 0, .int .i64 0]) 2 16 Try.underlying22 hi hz0 hz1 hz2 rfl (by decide) (.slice Al (i + k) cl) (i + k) _ rfl ((own_grew INV.out.own gd).alloc _) (some ⟨wd.heap.size, 0, none⟩) 1 1 _ rfl BI.out (flat_one _) (by unfold maxLen; omega) (by omega) (by simp; omega) ?_; intro v3 w3 own3 hg3 hat3; obtain ⟨A3, c3, rfl⟩ := own_form own3)
          have INV2 : Hid (MgInv w a b i (k + 1) (R ++ [(s1, s2)]) A3 c3 w3) := by
            refine ⟨by rw [flat_append, show i + (k + 1) = i + k + 1 by omega]; exact own3, by rw [List.length_append, INV.out.len]; simp; omega, ?_, in64_one INV.out.in64 ⟨bs1, bs2⟩, ((INV.out.grew.trans gd).alloc _).grown hg3 (fun q hq => (INV.out.own.lt q hq).1)⟩
            rw [List.append_assoc, ← INV.out.rest, HREST.out]; rfl
          clear own3 hg3 hat3 BI INV gd c1 c2
          go_wp2_with fail
          go_roundw
          case rel => exact ⟨i, (k + 1), _, A3, c3, by omega, by omega, by go_num, by go_num, by first | rfl | (congr 1; omega), INV2⟩
          case measure => simp [intOf]; omega
    · have HF : Hid (R = rmerge a b) := by
        have := INV.out.rest
        rw [List.drop_of_length_le (by rw [HA.out.1]; omega), List.drop_of_length_le (by rw [HB.out.1]; omega), rmerge_nil, List.append_nil] at this
        exact this
      have t1 : decide ((i : Int) < n) = false := decide_eq_false (by omega)
      have t2 : decide ((k : Int) < m) = false := decide_eq_false (by omega)
      have t3 : decide (i < n) = false := decide_eq_false (by omega)
      have t4 : decide (k < m) = false := decide_eq_false (by omega)
      go_wp2_with fail
      go_ret
      rw [← HF.out]
      exact ⟨Al, i + k, cl, rfl, INV.out.len, INV.out.in64, INV.out.own, INV.out.grew⟩
end Go.Proofs.Ytngbkpplkkpagaa
