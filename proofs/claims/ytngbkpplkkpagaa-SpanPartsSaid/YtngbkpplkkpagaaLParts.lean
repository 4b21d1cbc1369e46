/-
  The law SpanParts, walked.
-/
import Derived.Test.YtngbkpplkkpagaaPartsP
namespace Go.Proofs.Ytngbkpplkkpagaa
open Go.RowKit Go.Proofs WageMem WageSpan
set_option maxRecDepth 100000 in
set_option maxHeartbeats 16000000 in
theorem parts_skip (Aa : Option Addr) (na ca : Nat) (a : List Sp) (Ab : Option Addr) (nb cb : Nat) (b : List Sp) (w : World) (_ha : Spans w Aa na ca a) (_hb : Spans w Ab nb cb b) (p z : Int) (hs : shortB [(Aa, na, ca), (Ab, nb, cb)] = false) :
    Calls Try.prog 9 #[.slice Aa na ca, .slice Ab nb cb, .int .u8 p, .int .u16 z] w fun e w' => e = .returned (.bool true) ∧ Grew w w' := by
  have gg : Grew w w := Grew.refl w
  have HSH := Lib.hid hs
  clear hs
  go_enter Try.func9, Try.ntmps9
  go_wp2_with fail
  refine (head_true _).mono ?_
  rintro e v1 ⟨rfl, g⟩
  replace gg := gg.trans g
  clear g
  go_wp2_with fail
  refine (short_val [(Aa, na, ca), (Ab, nb, cb)] rfl rfl (by simp) HSH.out).mono ?_
  rintro e v2 ⟨rfl, g⟩
  replace gg := gg.trans g
  clear g
  go_wp2_with fail
  go_ret
  exact ⟨rfl, gg⟩
set_option maxRecDepth 100000 in
set_option maxHeartbeats 16000000 in
theorem parts_s1 (Aa : Option Addr) (na ca : Nat) (a : List Sp) (Ab : Option Addr) (nb cb : Nat) (b : List Sp) (w : World) (_ha : Spans w Aa na ca a) (_hb : Spans w Ab nb cb b) (p z : Int) (ba : na ≤ 60) (bb : nb ≤ 60) (h0 : na = 0) :
    Calls Try.prog 9 #[.slice Aa na ca, .slice Ab nb cb, .int .u8 p, .int .u16 z] w fun e w' => e = .returned (.bool true) ∧ Grew w w' := by
  have gg : Grew w w := Grew.refl w
  have HSH : Hid (shortB [(Aa, na, ca), (Ab, nb, cb)] = true) := by unfold Hid shortB; simp [ba, bb]
  have t1 : ((na : Int) == 0) = true := by rw [h0]; rfl
  clear h0
  go_enter Try.func9, Try.ntmps9
  go_wp2_with fail
  refine (head_true _).mono ?_
  rintro e v1 ⟨rfl, g⟩
  replace gg := gg.trans g
  clear g
  go_wp2_with fail
  refine (short_val [(Aa, na, ca), (Ab, nb, cb)] rfl rfl (by simp) HSH.out).mono ?_
  rintro e v2 ⟨rfl, g⟩
  replace gg := gg.trans g
  clear g
  go_wp2_with fail
  go_ret
  exact ⟨rfl, gg⟩
set_option maxRecDepth 100000 in
set_option maxHeartbeats 16000000 in
theorem parts_s2 (Aa : Option Addr) (na ca : Nat) (a : List Sp) (Ab : Option Addr) (nb cb : Nat) (b : List Sp) (w : World) (ha : Spans w Aa na ca a) (hb : Spans w Ab nb cb b) (p z : Int) (p0 : 0 ≤ p) (p1 : p ≤ 255) (_z0 : 0 ≤ z) (_z1 : z ≤ 65535) (ba : na ≤ 60) (bb : nb ≤ 60) (h0 : 0 < na) (hc : ∀ k s, p % (na : Int) = (k : Nat) → a[k]? = some s → properB s = false ∨ (properB s = true ∧ s.2 - s.1 < 2)) :
    Calls Try.prog 9 #[.slice Aa na ca, .slice Ab nb cb, .int .u8 p, .int .u16 z] w fun e w' => e = .returned (.bool true) ∧ Grew w w' := by
  have gg : Grew w w := Grew.refl w
  have Ha := Lib.hid ha
  have La : Hid (a.length ≤ 60) := by unfold Hid; rw [ha.1]; exact ba
  have Hb := Lib.hid hb
  have Lb : Hid (b.length ≤ 60) := by unfold Hid; rw [hb.1]; exact bb
  have HSH : Hid (shortB [(Aa, na, ca), (Ab, nb, cb)] = true) := by unfold Hid shortB; simp [ba, bb]
  have t1 : ((na : Int) == 0) = false := beq_eq_false_iff_ne.2 (by omega)
  obtain ⟨k, hk⟩ : ∃ k : Nat, p % (na : Int) = (k : Int) := ⟨(p % (na : Int)).toNat, by have := Int.emod_nonneg p (show (na : Int) ≠ 0 by omega); omega⟩
  have hkn : k < na := by have := Int.emod_lt_of_pos p (show (0 : Int) < na by omega); omega
  obtain ⟨b0, o0, s, rfl, hs, _, _, bs1, bs2⟩ := ha.at_ hkn
  obtain ⟨s1, s2⟩ := s
  simp only at bs1 bs2
  have HSS := Lib.hid hs
  have j0 : (0 : Int) ≤ (k : Int) := by omega
  have j1 : (k : Int) < (na : Int) := by omega
  clear hs
  have hcs := hc k (s1, s2) hk HSS.out
  simp only at hcs
  clear hc ha hb
  rcases hcs with hp | ⟨hp, hlt⟩
  · have HP := Lib.hid hp
    clear hp
    go_enter Try.func9, Try.ntmps9
    go_wp2_with fail
    refine (head_true _).mono ?_
    rintro e v1 ⟨rfl, g⟩
    replace Ha := Lib.hid (Ha.out.grew g)
    replace gg := gg.trans g
    clear g
    go_wp2_with fail
    refine (short_val [(some ⟨b0, o0, none⟩, na, ca), (Ab, nb, cb)] rfl rfl (by simp) HSH.out).mono ?_
    rintro e v2 ⟨rfl, g⟩
    replace Ha := Lib.hid (Ha.out.grew g)
    replace gg := gg.trans g
    clear g
    obtain ⟨b0', o0', s', hA', hs', c1, c2, _, _⟩ := Ha.out.at_ hkn
    injection hA' with hA'
    injection hA' with hA1 hA2
    subst hA1 hA2
    rw [HSS.out] at hs'
    injection hs' with hs'
    subst hs'
    simp only at c1 c2
    go_upto_region 6 with (fail)
    obtain ⟨wa, hwa⟩ : ∃ x, x = v2.alloc (.cells #[.int .i64 s1, .int .i64 s2] 33) := ⟨_, rfl⟩
    have ga : Grew v2 wa := by rw [hwa]; exact (Grew.refl _).alloc _
    have e1 : wa.cell? ⟨v2.heap.size, 0, none⟩ = some (.int .i64 s1) := by rw [hwa]; simp
    have e2 : wa.cell? ⟨v2.heap.size, 1, none⟩ = some (.int .i64 s2) := by rw [hwa]; simp
    rw [← hwa]
    clear hwa c1 c2
    replace Ha := Lib.hid (Ha.out.grew ga)
    replace gg := gg.trans ga
    clear ga
    go_wp2_with fail
    refine (rproper_val HP.out _).mono ?_
    rintro e v3 ⟨rfl, g⟩
    replace e1 := g.cell e1
    replace e2 := g.cell e2
    replace Ha := Lib.hid (Ha.out.grew g)
    replace gg := gg.trans g
    clear g
    go_wp2_with fail
    go_ret
    exact ⟨rfl, gg⟩
  · have HP := Lib.hid hp
    have hpp := proper_iff.1 hp
    simp only at hpp
    have t2 : decide (s2 - s1 < 2) = true := decide_eq_true hlt
    clear hp
    go_enter Try.func9, Try.ntmps9
    go_wp2_with fail
    refine (head_true _).mono ?_
    rintro e v1 ⟨rfl, g⟩
    replace Ha := Lib.hid (Ha.out.grew g)
    replace gg := gg.trans g
    clear g
    go_wp2_with fail
    refine (short_val [(some ⟨b0, o0, none⟩, na, ca), (Ab, nb, cb)] rfl rfl (by simp) HSH.out).mono ?_
    rintro e v2 ⟨rfl, g⟩
    replace Ha := Lib.hid (Ha.out.grew g)
    replace gg := gg.trans g
    clear g
    obtain ⟨b0', o0', s', hA', hs', c1, c2, _, _⟩ := Ha.out.at_ hkn
    injection hA' with hA'
    injection hA' with hA1 hA2
    subst hA1 hA2
    rw [HSS.out] at hs'
    injection hs' with hs'
    subst hs'
    simp only at c1 c2
    go_upto_region 6 with (fail)
    obtain ⟨wa, hwa⟩ : ∃ x, x = v2.alloc (.cells #[.int .i64 s1, .int .i64 s2] 33) := ⟨_, rfl⟩
    have ga : Grew v2 wa := by rw [hwa]; exact (Grew.refl _).alloc _
    have e1 : wa.cell? ⟨v2.heap.size, 0, none⟩ = some (.int .i64 s1) := by rw [hwa]; simp
    have e2 : wa.cell? ⟨v2.heap.size, 1, none⟩ = some (.int .i64 s2) := by rw [hwa]; simp
    rw [← hwa]
    clear hwa c1 c2
    replace Ha := Lib.hid (Ha.out.grew ga)
    replace gg := gg.trans ga
    clear ga
    go_wp2_with fail
    refine (rproper_val HP.out _).mono ?_
    rintro e v3 ⟨rfl, g⟩
    replace e1 := g.cell e1
    replace e2 := g.cell e2
    replace Ha := Lib.hid (Ha.out.grew g)
    replace gg := gg.trans g
    clear g
    go_wp2_with fail
    go_ret
    exact ⟨rfl, gg⟩
set_option maxRecDepth 100000 in
set_option maxHeartbeats 16000000 in
theorem parts_main (Aa : Option Addr) (na ca : Nat) (a : List Sp) (Ab : Option Addr) (nb cb : Nat) (b : List Sp) (w : World) (ha : Spans w Aa na ca a) (hb : Spans w Ab nb cb b) (p z : Int) (p0 : 0 ≤ p) (p1 : p ≤ 255) (z0 : 0 ≤ z) (z1 : z ≤ 65535) (ba : na ≤ 60) (bb : nb ≤ 60) (k : Nat) (hk : p % (na : Int) = (k : Int)) (hkn : k < na) (s1 s2 : Int) (hs : a[k]? = some (s1, s2)) (hp : properB (s1, s2) = true) (hge : 2 ≤ s2 - s1) :
    Calls Try.prog 9 #[.slice Aa na ca, .slice Ab nb cb, .int .u8 p, .int .u16 z] w fun e w' => e = .returned (.bool true) ∧ Grew w w' := by
  have gg : Grew w w := Grew.refl w
  have Ha := Lib.hid ha
  have La : Hid (a.length ≤ 60) := by unfold Hid; rw [ha.1]; exact ba
  have Hb := Lib.hid hb
  have Lb : Hid (b.length ≤ 60) := by unfold Hid; rw [hb.1]; exact bb
  have HSH : Hid (shortB [(Aa, na, ca), (Ab, nb, cb)] = true) := by unfold Hid shortB; simp [ba, bb]
  obtain ⟨i0, hi, hz0, hz1, hz2⟩ := info_parts info33
  have t1 : ((na : Int) == 0) = false := beq_eq_false_iff_ne.2 (by omega)
  obtain ⟨b0, o0, s, rfl, hs0, _, _, bs1, bs2⟩ := ha.at_ hkn
  rw [hs] at hs0
  injection hs0 with hs0
  subst hs0
  simp only at bs1 bs2
  have HSS := Lib.hid hs
  have hpp := proper_iff.1 hp
  simp only at hpp
  have HP := Lib.hid hp
  have j0 : (0 : Int) ≤ (k : Int) := by omega
  have j1 : (k : Int) < (na : Int) := by omega
  have t2 : decide (s2 - s1 < 2) = false := decide_eq_false (by omega)
  obtain ⟨mn, hmn1, hmn2, hmn3⟩ : ∃ mn : Int, 1 ≤ mn ∧ mn ≤ s2 - s1 - 1 ∧ ((mn = s2 - s1 - 1 ∧ s2 - s1 - 1 ≤ 65536) ∨ (mn = 65536 ∧ 65536 < s2 - s1 - 1)) := by
    by_cases q : s2 - s1 - 1 ≤ 65536
    · exact ⟨s2 - s1 - 1, by omega, by omega, .inl ⟨rfl, q⟩⟩
    · exact ⟨65536, by omega, by omega, .inr ⟨rfl, by omega⟩⟩
  obtain ⟨r, hr⟩ : ∃ r : Int, z.tmod mn = r := ⟨_, rfl⟩
  have hr0 : 0 ≤ r ∧ r < mn := by rw [← hr, Int.tmod_eq_emod_of_nonneg z0]; exact ⟨Int.emod_nonneg _ (by omega), Int.emod_lt_of_pos _ (by omega)⟩
  obtain ⟨m, hm⟩ : ∃ m : Int, s1 + 1 + r = m := ⟨_, rfl⟩
  have m1 : s1 < m := by omega
  have m2 : m < s2 := by omega
  have HR := Lib.hid hr
  have HM := Lib.hid hm
  have IN := Lib.hid ha.2.2
  clear hs hp ha hb hr hm
  go_enter Try.func9, Try.ntmps9
  go_wp2_with fail
  refine (head_true _).mono ?_
  rintro e v1 ⟨rfl, g⟩
  replace Ha := Lib.hid (Ha.out.grew g)
  replace Hb := Lib.hid (Hb.out.grew g)
  replace gg := gg.trans g
  clear g
  go_wp2_with fail
  refine (short_val [(some ⟨b0, o0, none⟩, na, ca), (Ab, nb, cb)] rfl rfl (by simp) HSH.out).mono ?_
  rintro e v2 ⟨rfl, g⟩
  replace Ha := Lib.hid (Ha.out.grew g)
  replace Hb := Lib.hid (Hb.out.grew g)
  replace gg := gg.trans g
  clear g
  obtain ⟨b0', o0', s', hA', hs', c1, c2, _, _⟩ := Ha.out.at_ hkn
  injection hA' with hA'
  injection hA' with hA1 hA2
  subst hA1 hA2
  rw [HSS.out] at hs'
  injection hs' with hs'
  subst hs'
  simp only at c1 c2
  go_upto_region 6 with (fail)
  obtain ⟨wa, hwa⟩ : ∃ x, x = v2.alloc (.cells #[.int .i64 s1, .int .i64 s2] 33) := ⟨_, rfl⟩
  have ga : Grew v2 wa := by rw [hwa]; exact (Grew.refl _).alloc _
  have e1 : wa.cell? ⟨v2.heap.size, 0, none⟩ = some (.int .i64 s1) := by rw [hwa]; simp
  have e2 : wa.cell? ⟨v2.heap.size, 1, none⟩ = some (.int .i64 s2) := by rw [hwa]; simp
  rw [← hwa]
  clear hwa c1 c2
  replace Ha := Lib.hid (Ha.out.grew ga)
  replace Hb := Lib.hid (Hb.out.grew ga)
  replace gg := gg.trans ga
  clear ga
  go_wp2_with fail
  refine (rproper_val HP.out _).mono ?_
  rintro e v3 ⟨rfl, g⟩
  replace e1 := g.cell e1
  replace e2 := g.cell e2
  replace Ha := Lib.hid (Ha.out.grew g)
  replace Hb := Lib.hid (Hb.out.grew g)
  replace gg := gg.trans g
  clear g
  have w1 : IntKind.i64.wrap (s1 + 1) = s1 + 1 := IntWalk.i64_in _ (by omega)
  have w2 : IntKind.i64.wrap (s2 - s1) = s2 - s1 := IntWalk.i64_in _ (by omega)
  have w3 : IntKind.i64.wrap (s2 - s1 - 1) = s2 - s1 - 1 := IntWalk.i64_in _ (by omega)
  have w4 : IntKind.i64.wrap z = z := IntWalk.i64_in _ (by omega)
  have w5 : IntKind.i64.wrap r = r := IntWalk.i64_in _ (by omega)
  have w6 : IntKind.i64.wrap (s1 + 1 + r) = s1 + 1 + r := IntWalk.i64_in _ (by omega)
  go_upto_region 8 with (fail)
  go_cut [12] (fun s12 wx => s12 = .int .i64 m ∧ Hid (Grew v3 wx))
  case first =>
    go_quiet (fail)
    go_wp2_with fail
    go_meet
    refine ⟨?_, (Grew.refl v3).drewN _⟩
    have q1 : min (s2 - s1 - 1) 65536 = mn := by omega
    have q2 : z % mn = r := by rw [← HR.out, Int.tmod_eq_emod_of_nonneg z0]
    have q3 : wrap64 (s1 + 1 + z % min (s2 - s1 - 1) 65536) = m := by rw [q1, q2, HM.out]; unfold wrap64; omega
    exact congrArg _ q3
  case rest =>
    obtain ⟨rfl, GC⟩ := hcut
    obtain ⟨wx, rfl⟩ : ∃ wx : World, wx = wc := ⟨_, rfl⟩
    have gc := GC.out
    clear GC w1 w2 w3 w4 w5 w6
    go_upto_region 9 with (fail)
    have GV0 := Lib.hid gc
    have HaV := Lib.hid Ha.out
    have HbV := Lib.hid Hb.out
    have ggV := gg
    replace e1 := gc.cell e1
    replace e2 := gc.cell e2
    replace Ha := Lib.hid (Ha.out.grew gc)
    replace Hb := Lib.hid (Hb.out.grew gc)
    replace gg := gg.trans gc
    clear gc
    have hcap : na ≤ ca := Ha.out.2.1.1
    have hcm : ca ≤ 9223372036854775807 := Ha.out.2.1.2.1
    have HT := Lib.hid (Ha.out.take_ (Nat.le_of_lt hkn)).2.1
    have k1 : (k : Int) ≤ (ca : Int) := by omega
    have szx : v2.heap.size < wx.heap.size := World.block_lt_of_cell? _ _ e1
    go_cut [13] (fun s13 wy => ∃ (A3 : Option Addr) (c3 : Nat), s13 = .slice A3 (k + 2) c3 ∧ Hid (wy.ownsRow wx.heap.size 33 2 (.slice A3 (k + 2) c3) (k + 2) (flat (a.take k ++ [(m, s2), (s1, m)]))) ∧ Hid (Grew wx wy))
    case first =>
      go_region_held3 (fun w' => w'.cell? ⟨v2.heap.size, 0, none⟩ = some (.int .i64 s1) ∧ w'.cell? ⟨v2.heap.size, 1, none⟩ = some (.int .i64 s2))
        (first | (with_reducible exact ⟨e1, e2⟩) | (refine ⟨?_, ?_⟩ <;> assumption) | go_keep)
        (first
          | (refine step_append_sl (wx.drew.alloc (.cells #[] 33)) (by rfl) (.tmp 62) (.tmp 65) 22 (by rfl) wx.heap.size 33 i0 _ 2 16 Try.underlying22 hi hz0 hz1 hz2 (by rfl) (by decide) (.slice (some ⟨wx.heap.size, 0, none⟩) 0 0) 0 [] (by rfl) (own_empty (heap_alloc_new wx.drew _) (by omega)) (some ⟨b0, o0, none⟩) k ca (flat (a.take k)) (by rfl) (HT.out.grew ((Grew.refl wx).drew.alloc _)) (flat_one _) (by unfold maxLen; omega) (by omega) (by simp <;> omega) ?_; intro u9 x9 own9 hg9 hat9; rw [Nat.zero_add, List.nil_append] at own9; obtain ⟨A9, c9, rfl⟩ := own_form own9; have gx9 : Grew wx x9 := ((Grew.refl wx).drew.alloc _).grown hg9 (by simp [Value.ownBlock]); have f1 := gx9.cell e1; have f2 := gx9.cell e2)
          | (refine step_append_sl ((wx.drew.alloc (.cells #[.int .i64 m, .int .i64 s2, .int .i64 s1, .int .i64 m] 33)).alloc (.cells #[] 33)) (by rfl) (.tmp 62) (.tmp 65) 22 (by rfl) wx.heap.size 33 i0 _ 2 16 Try.underlying22 hi hz0 hz1 hz2 (by rfl) (by decide) (.slice (some ⟨wx.heap.size + 1, 0, none⟩) 0 0) 0 [] (by rfl) (own_empty (blk_new2 wx.drew _ _ _) (by omega)) (some ⟨b0, o0, none⟩) k ca (flat (a.take k)) (by rfl) (HT.out.grew (((Grew.refl wx).drew.alloc _).alloc _)) (flat_one _) (by unfold maxLen; omega) (by omega) (by simp <;> omega) ?_; intro u9 x9 own9 hg9 hat9; rw [Nat.zero_add, List.nil_append] at own9; obtain ⟨A9, c9, rfl⟩ := own_form own9; have gx9 : Grew wx x9 := (((Grew.refl wx).drew.alloc _).alloc _).grown hg9 (by simp [Value.ownBlock]); have f1 := gx9.cell e1; have f2 := gx9.cell e2; have hB2 : x9.heap[wx.heap.size]? = some (.cells #[.int .i64 m, .int .i64 s2, .int .i64 s1, .int .i64 m] 33 (0, 0)) := (hg9.block wx.heap.size (by simp <;> omega) (by simp [Value.ownBlock])).trans (blk_new1 wx.drew _ _ _); have HB2 := Lib.hid hB2; clear hB2)
          | (refine step_append_sl ((wx.drew.alloc (.cells #[] 33)).alloc (.cells #[.int .i64 m, .int .i64 s2, .int .i64 s1, .int .i64 m] 33)) (by rfl) (.tmp 62) (.tmp 65) 22 (by rfl) wx.heap.size 33 i0 _ 2 16 Try.underlying22 hi hz0 hz1 hz2 (by rfl) (by decide) (.slice (some ⟨wx.heap.size, 0, none⟩) 0 0) 0 [] (by rfl) (own_empty (blk_new1 wx.drew _ _ _) (by omega)) (some ⟨b0, o0, none⟩) k ca (flat (a.take k)) (by rfl) (HT.out.grew (((Grew.refl wx).drew.alloc _).alloc _)) (flat_one _) (by unfold maxLen; omega) (by omega) (by simp <;> omega) ?_; intro u9 x9 own9 hg9 hat9; rw [Nat.zero_add, List.nil_append] at own9; obtain ⟨A9, c9, rfl⟩ := own_form own9; have gx9 : Grew wx x9 := (((Grew.refl wx).drew.alloc _).alloc _).grown hg9 (by simp [Value.ownBlock]); have f1 := gx9.cell e1; have f2 := gx9.cell e2; have hB2 : x9.heap[wx.heap.size + 1]? = some (.cells #[.int .i64 m, .int .i64 s2, .int .i64 s1, .int .i64 m] 33 (0, 0)) := (hg9.block (wx.heap.size + 1) (by simp <;> omega) (by simp [Value.ownBlock])).trans (blk_new2 wx.drew _ _ _); have HB2 := Lib.hid hB2; clear hB2)
          | (refine step_append_sl (x9.alloc (.cells #[.int .i64 m, .int .i64 s2, .int .i64 s1, .int .i64 m] 33)) (by rfl) (.tmp 66) (.tmp 75) 22 (by rfl) wx.heap.size 33 i0 _ 2 16 Try.underlying22 hi hz0 hz1 hz2 (by rfl) (by decide) (.slice A9 k c9) k _ (by rfl) (own9.alloc _) (some ⟨x9.heap.size, 0, none⟩) 2 2 (flat [(m, s2), (s1, m)]) (by rfl) (built 2 2 _ _ rfl rfl (by decide)) (flat_one _) (by unfold maxLen; omega) (by omega) (by have := gx9.le; simp <;> omega) ?_; intro u8 x8 own8 hg8 hat8; obtain ⟨A8, c8, rfl⟩ := own_form own8; have gx8 : Grew wx x8 := (gx9.alloc _).grown hg8 (fun q hq => (own9.lt q hq).1); have f1 := gx8.cell e1; have f2 := gx8.cell e2; clear hg8)
          | (refine step_append_sl (x9) (by rfl) (.tmp 66) (.tmp 75) 22 (by rfl) wx.heap.size 33 i0 _ 2 16 Try.underlying22 hi hz0 hz1 hz2 (by rfl) (by decide) (.slice A9 k c9) k _ (by rfl) (own9) (some ⟨wx.heap.size, 0, none⟩) 2 2 (flat [(m, s2), (s1, m)]) (by rfl) (blk_sl 2 2 _ _ rfl rfl (by decide) HB2.out) (flat_one _) (by unfold maxLen; omega) (by omega) (by have := gx9.le; simp <;> omega) ?_; intro u8 x8 own8 hg8 hat8; obtain ⟨A8, c8, rfl⟩ := own_form own8; have gx8 : Grew wx x8 := (gx9).grown hg8 (fun q hq => (own9.lt q hq).1); have f1 := gx8.cell e1; have f2 := gx8.cell e2; clear hg8)
          | (refine step_append_sl (x9) (by rfl) (.tmp 66) (.tmp 75) 22 (by rfl) wx.heap.size 33 i0 _ 2 16 Try.underlying22 hi hz0 hz1 hz2 (by rfl) (by decide) (.slice A9 k c9) k _ (by rfl) (own9) (some ⟨wx.heap.size + 1, 0, none⟩) 2 2 (flat [(m, s2), (s1, m)]) (by rfl) (blk_sl 2 2 _ _ rfl rfl (by decide) HB2.out) (flat_one _) (by unfold maxLen; omega) (by omega) (by have := gx9.le; simp <;> omega) ?_; intro u8 x8 own8 hg8 hat8; obtain ⟨A8, c8, rfl⟩ := own_form own8; have gx8 : Grew wx x8 := (gx9).grown hg8 (fun q hq => (own9.lt q hq).1); have f1 := gx8.cell e1; have f2 := gx8.cell e2; clear hg8))
      all_goals
        go_wp2_with fail
        go_meet
        exact ⟨A8, c8, rfl, by unfold Hid; rw [flat_append]; exact own8, gx8⟩
    case rest =>
      obtain ⟨A3, c3, rfl, OW, GC⟩ := hcut
      obtain ⟨wy, rfl⟩ : ∃ wy : World, wy = wc := ⟨_, rfl⟩
      have gc := GC.out
      have GV : Hid (Grew v3 wy) := GV0.out.trans GC.out
      have hv3 : v3.heap.size ≤ wx.heap.size := GV0.out.le
      have hwxy : wx.heap.size ≤ wy.heap.size := gc.le
      replace Ha := Lib.hid (Ha.out.grew gc)
      replace Hb := Lib.hid (Hb.out.grew gc)
      replace gg := gg.trans gc
      clear gc GC e1 e2 HT
      have w1 : ((k : Int) + 1).toNat = k + 1 := by omega
      have j2 : (0 : Int) ≤ (k : Int) + 1 := by omega
      have j3 : (k : Int) + 1 ≤ (na : Int) := by omega
      have hle := gg.le
      obtain ⟨AD, nd, cd, hAD, hSD⟩ : ∃ (AD : Option Addr) (nd cd : Nat), (nd = na - (k + 1) ∧ cd = ca - (k + 1) ∧ ((ca = k + 1 ∧ AD = some ⟨b0, o0, none⟩) ∨ (¬ ca = k + 1 ∧ AD = some ⟨b0, o0 + (k + 1) * 2, none⟩))) ∧ Spans wy AD nd cd (a.drop (k + 1)) := by
        by_cases q : ca = k + 1
        · refine ⟨some ⟨b0, o0, none⟩, _, _, ⟨rfl, rfl, .inl ⟨q, rfl⟩⟩, ?_⟩
          have h0 : na - (k + 1) = 0 := by omega
          have h1 : ca - (k + 1) = 0 := by omega
          rw [h0, h1, List.drop_of_length_le (by rw [Ha.out.1]; omega)]
          exact ⟨rfl, ⟨Nat.le_refl _, Nat.zero_le _, rfl, Cells.nil, fun h => by cases h⟩, fun s hs => by simp at hs⟩
        · exact ⟨_, _, _, ⟨rfl, rfl, .inr ⟨q, rfl⟩⟩, Ha.out.drop_ (by omega)⟩
      have HSD := Lib.hid hSD
      clear hSD
      obtain ⟨rfl, rfl, hAD⟩ := hAD
      go_upto_region 10 with (fail)
      go_cut [13] (fun s13 wz => ∃ (A5 : Option Addr) (c5 : Nat), s13 = .slice A5 (na + 1) c5 ∧ Hid (Spans wz A5 (na + 1) c5 (parted a k m s1 s2)) ∧ Hid (Grew v3 wz))
      case first =>
        rcases hAD with ⟨q, rfl⟩ | ⟨q, rfl⟩
        · obtain rfl : na = k + 1 := by omega
          subst q
          rw [Nat.sub_self] at HSD
          go_wp2_with (at_builtin; refine wpList_append_sl _ rfl (.tmp 77) (.tmp 81) 22 rfl wx.heap.size 33 i0 (.agg #[.int .i64 0, .int .i64 0]) 2 16 Try.underlying22 hi hz0 hz1 hz2 rfl (by decide) (.slice A3 (k + 2) c3) (k + 2) _ rfl OW.out _ (0) (0) (flat (a.drop (k + 1))) rfl HSD.out.2.1 (flat_one _) (by unfold maxLen; omega) (by omega) hwxy ?_; intro u7 x7 own7 hg7 hat7; obtain ⟨A7, c7, rfl⟩ := own_form own7)
          have gx7 : Grew v3 x7 := GV.out.grown hg7 (fun q hq => by have := (OW.out.lt q hq).1; have := hv3; omega)
          have e7 : k + 2 + (0) = k + 1 + 1 := by omega
          rw [e7] at own7
          have HS7 : Hid (Spans x7 A7 (k + 1 + 1) c7 (parted a k m s1 s2)) := by
            refine Spans.own (by rw [parted_len (by rw [Ha.out.1]; exact hkn), Ha.out.1]) ?_ (by unfold parted; rw [flat_append]; exact own7)
            have h1 := IN.out
            refine in64_append (in64_append (in64_take h1 k) ?_) (in64_drop h1 (k + 1))
            intro s hs
            rcases List.mem_cons.1 hs with rfl | hs
            · exact ⟨by simp only; omega, by simp only; omega⟩
            · simp at hs; subst hs; exact ⟨by simp only; omega, by simp only; omega⟩
          have GX := Lib.hid gx7
          clear own7 hg7 hat7 gx7
          go_wp2_with fail
          go_meet
          exact ⟨A7, c7, by first | rfl | (rw [e7]), HS7, GX⟩
        · skip
          go_wp2_with (at_builtin; refine wpList_append_sl _ rfl (.tmp 77) (.tmp 81) 22 rfl wx.heap.size 33 i0 (.agg #[.int .i64 0, .int .i64 0]) 2 16 Try.underlying22 hi hz0 hz1 hz2 rfl (by decide) (.slice A3 (k + 2) c3) (k + 2) _ rfl OW.out _ (na - (k + 1)) (ca - (k + 1)) (flat (a.drop (k + 1))) rfl HSD.out.2.1 (flat_one _) (by unfold maxLen; omega) (by omega) hwxy ?_; intro u7 x7 own7 hg7 hat7; obtain ⟨A7, c7, rfl⟩ := own_form own7)
          have gx7 : Grew v3 x7 := GV.out.grown hg7 (fun q hq => by have := (OW.out.lt q hq).1; have := hv3; omega)
          have e7 : k + 2 + (na - (k + 1)) = na + 1 := by omega
          rw [e7] at own7
          have HS7 : Hid (Spans x7 A7 (na + 1) c7 (parted a k m s1 s2)) := by
            refine Spans.own (by rw [parted_len (by rw [Ha.out.1]; exact hkn), Ha.out.1]) ?_ (by unfold parted; rw [flat_append]; exact own7)
            have h1 := IN.out
            refine in64_append (in64_append (in64_take h1 k) ?_) (in64_drop h1 (k + 1))
            intro s hs
            rcases List.mem_cons.1 hs with rfl | hs
            · exact ⟨by simp only; omega, by simp only; omega⟩
            · simp at hs; subst hs; exact ⟨by simp only; omega, by simp only; omega⟩
          have GX := Lib.hid gx7
          clear own7 hg7 hat7 gx7
          go_wp2_with fail
          go_meet
          exact ⟨A7, c7, by first | rfl | (rw [e7]), HS7, GX⟩
      case rest =>
        obtain ⟨A5, c5, rfl, HS5, GC⟩ := hcut
        obtain ⟨v4, rfl⟩ : ∃ v4 : World, v4 = wc := ⟨_, rfl⟩
        have gc := GC.out
        replace Ha := Lib.hid (HaV.out.grew gc)
        replace Hb := Lib.hid (HbV.out.grew gc)
        replace gg := ggV.trans gc
        obtain ⟨E1, E2, E3, E4, E5⟩ := parted_eqs HSS.out HP.out m1 m2 b
        obtain ⟨F1, F2⟩ := parted_at (a := a) (k := k) HP.out m1 m2
        have FN := Lib.hid (parted_not (a := a) (k := k) m1 m2)
        have G1 := Lib.hid E1
        have G2 := Lib.hid E2
        have G3 := Lib.hid E3
        have G4 := Lib.hid E4
        have G5 := Lib.hid E5
        have G6 := Lib.hid F1
        have G7 := Lib.hid F2
        have Lcc : Hid ((parted a k m s1 s2).length ≤ 61) := by unfold Hid; rw [HS5.out.1]; omega
        obtain ⟨cl, hcl⟩ : ∃ l, parted a k m s1 s2 = l := ⟨_, rfl⟩
        rw [hcl] at HS5 FN G1 G2 G3 G4 G5 G6 G7 Lcc
        have Hcc := HS5
        have bcc : na + 1 ≤ 61 := by omega
        obtain ⟨nq, hnq⟩ : ∃ q, na + 1 = q := ⟨_, rfl⟩
        rw [hnq] at Hcc bcc
        rw [hnq]
        obtain ⟨zz, hzz⟩ : ∃ x, sizeS (nrm a) = x := ⟨_, rfl⟩
        have HZ := Lib.hid hzz
        have HZC : Hid (sizeS (nrm cl) = zz) := by unfold Hid; rw [G1.out]; exact hzz
        have u1 : (zz == zz) = true := by simp
        have hmb : -1152921504606846976 ≤ m ∧ m ≤ 1152921504606846976 := by omega
        have L2 := fun (bf : Bool → Bool → Bool) (x y : List Sp) (hx : x.length ≤ 61) (hy : y.length ≤ 61) => (show (nf bf x y).length ≤ 244 by have := nf_len bf x y; omega)
        have LL := Lib.hid L2
        have la : Hid (a.length ≤ 61) := by have := La.out; unfold Hid; omega
        have lb : Hid (b.length ≤ 61) := by have := Lb.out; unfold Hid; omega
        clear gc GC HaV HbV ggV GV GV0 HSD hAD OW HS5 hcl hnq hzz E1 E2 E3 E4 E5 F1 F2 L2 w1 j2 j3 HSS HR HM IN
        go_wp2_with fail
        refine (valid_val Hcc.out (by omega) FN.out).mono ?_
        rintro e v41 ⟨rfl, g⟩
        replace Ha := Lib.hid (Ha.out.grew g)
        replace Hb := Lib.hid (Hb.out.grew g)
        replace Hcc := Lib.hid (Hcc.out.grew g)
        replace gg := gg.trans g
        clear g
        go_wp2_with fail
        refine (normal_val Hcc.out (by omega) rfl).mono ?_
        rintro e v42 ⟨Ar1, nr1, cr1, rfl, hh, g⟩
        have br1 : nr1 ≤ 244 := by rw [← hh.1]; exact LL.out fstB cl [] Lcc.out (by simp)
        have Hr1 := Lib.hid hh
        clear hh
        replace Ha := Lib.hid (Ha.out.grew g)
        replace Hb := Lib.hid (Hb.out.grew g)
        replace Hcc := Lib.hid (Hcc.out.grew g)
        replace gg := gg.trans g
        clear g
        go_wp2_with fail
        refine (normal_val Ha.out (by omega) rfl).mono ?_
        rintro e v43 ⟨Ar2, nr2, cr2, rfl, hh, g⟩
        have br2 : nr2 ≤ 244 := by rw [← hh.1]; exact LL.out fstB a [] la.out (by simp)
        have Hr2 := Lib.hid hh
        clear hh
        replace Ha := Lib.hid (Ha.out.grew g)
        replace Hb := Lib.hid (Hb.out.grew g)
        replace Hcc := Lib.hid (Hcc.out.grew g)
        replace Hr1 := Lib.hid (Hr1.out.grew g)
        replace gg := gg.trans g
        clear g
        go_wp2_with fail
        refine (same_val Hr1.out Hr2.out (decide_eq_true G1.out)).mono ?_
        rintro e v44 ⟨rfl, g⟩
        replace Ha := Lib.hid (Ha.out.grew g)
        replace Hb := Lib.hid (Hb.out.grew g)
        replace Hcc := Lib.hid (Hcc.out.grew g)
        replace Hr1 := Lib.hid (Hr1.out.grew g)
        replace Hr2 := Lib.hid (Hr2.out.grew g)
        replace gg := gg.trans g
        clear g
        clear Hr1 Hr2
        go_wp2_with fail
        refine (union_val Hcc.out Hb.out (by omega) (by omega) rfl).mono ?_
        rintro e v45 ⟨Ar3, nr3, cr3, rfl, hh, g⟩
        have br3 : nr3 ≤ 244 := by rw [← hh.1]; exact LL.out orB cl b Lcc.out lb.out
        have Hr3 := Lib.hid hh
        clear hh
        replace Ha := Lib.hid (Ha.out.grew g)
        replace Hb := Lib.hid (Hb.out.grew g)
        replace Hcc := Lib.hid (Hcc.out.grew g)
        replace gg := gg.trans g
        clear g
        go_wp2_with fail
        refine (union_val Ha.out Hb.out (by omega) (by omega) rfl).mono ?_
        rintro e v46 ⟨Ar4, nr4, cr4, rfl, hh, g⟩
        have br4 : nr4 ≤ 244 := by rw [← hh.1]; exact LL.out orB a b la.out lb.out
        have Hr4 := Lib.hid hh
        clear hh
        replace Ha := Lib.hid (Ha.out.grew g)
        replace Hb := Lib.hid (Hb.out.grew g)
        replace Hcc := Lib.hid (Hcc.out.grew g)
        replace Hr3 := Lib.hid (Hr3.out.grew g)
        replace gg := gg.trans g
        clear g
        go_wp2_with fail
        refine (same_val Hr3.out Hr4.out (decide_eq_true G2.out)).mono ?_
        rintro e v47 ⟨rfl, g⟩
        replace Ha := Lib.hid (Ha.out.grew g)
        replace Hb := Lib.hid (Hb.out.grew g)
        replace Hcc := Lib.hid (Hcc.out.grew g)
        replace Hr3 := Lib.hid (Hr3.out.grew g)
        replace Hr4 := Lib.hid (Hr4.out.grew g)
        replace gg := gg.trans g
        clear g
        clear Hr3 Hr4
        go_wp2_with fail
        refine (meet_val Hb.out Hcc.out (by omega) (by omega) rfl).mono ?_
        rintro e v48 ⟨Ar5, nr5, cr5, rfl, hh, g⟩
        have br5 : nr5 ≤ 244 := by rw [← hh.1]; exact LL.out andB b cl lb.out Lcc.out
        have Hr5 := Lib.hid hh
        clear hh
        replace Ha := Lib.hid (Ha.out.grew g)
        replace Hb := Lib.hid (Hb.out.grew g)
        replace Hcc := Lib.hid (Hcc.out.grew g)
        replace gg := gg.trans g
        clear g
        go_wp2_with fail
        refine (meet_val Hb.out Ha.out (by omega) (by omega) rfl).mono ?_
        rintro e v49 ⟨Ar6, nr6, cr6, rfl, hh, g⟩
        have br6 : nr6 ≤ 244 := by rw [← hh.1]; exact LL.out andB b a lb.out la.out
        have Hr6 := Lib.hid hh
        clear hh
        replace Ha := Lib.hid (Ha.out.grew g)
        replace Hb := Lib.hid (Hb.out.grew g)
        replace Hcc := Lib.hid (Hcc.out.grew g)
        replace Hr5 := Lib.hid (Hr5.out.grew g)
        replace gg := gg.trans g
        clear g
        go_wp2_with fail
        refine (same_val Hr5.out Hr6.out (decide_eq_true G3.out)).mono ?_
        rintro e v50 ⟨rfl, g⟩
        replace Ha := Lib.hid (Ha.out.grew g)
        replace Hb := Lib.hid (Hb.out.grew g)
        replace Hcc := Lib.hid (Hcc.out.grew g)
        replace Hr5 := Lib.hid (Hr5.out.grew g)
        replace Hr6 := Lib.hid (Hr6.out.grew g)
        replace gg := gg.trans g
        clear g
        clear Hr5 Hr6
        go_wp2_with fail
        refine (minus_val Hcc.out Hb.out (by omega) (by omega) rfl).mono ?_
        rintro e v51 ⟨Ar7, nr7, cr7, rfl, hh, g⟩
        have br7 : nr7 ≤ 244 := by rw [← hh.1]; exact LL.out butB cl b Lcc.out lb.out
        have Hr7 := Lib.hid hh
        clear hh
        replace Ha := Lib.hid (Ha.out.grew g)
        replace Hb := Lib.hid (Hb.out.grew g)
        replace Hcc := Lib.hid (Hcc.out.grew g)
        replace gg := gg.trans g
        clear g
        go_wp2_with fail
        refine (minus_val Ha.out Hb.out (by omega) (by omega) rfl).mono ?_
        rintro e v52 ⟨Ar8, nr8, cr8, rfl, hh, g⟩
        have br8 : nr8 ≤ 244 := by rw [← hh.1]; exact LL.out butB a b la.out lb.out
        have Hr8 := Lib.hid hh
        clear hh
        replace Ha := Lib.hid (Ha.out.grew g)
        replace Hb := Lib.hid (Hb.out.grew g)
        replace Hcc := Lib.hid (Hcc.out.grew g)
        replace Hr7 := Lib.hid (Hr7.out.grew g)
        replace gg := gg.trans g
        clear g
        go_wp2_with fail
        refine (same_val Hr7.out Hr8.out (decide_eq_true G4.out)).mono ?_
        rintro e v53 ⟨rfl, g⟩
        replace Ha := Lib.hid (Ha.out.grew g)
        replace Hb := Lib.hid (Hb.out.grew g)
        replace Hcc := Lib.hid (Hcc.out.grew g)
        replace Hr7 := Lib.hid (Hr7.out.grew g)
        replace Hr8 := Lib.hid (Hr8.out.grew g)
        replace gg := gg.trans g
        clear g
        clear Hr7 Hr8
        go_wp2_with fail
        refine (minus_val Hb.out Hcc.out (by omega) (by omega) rfl).mono ?_
        rintro e v54 ⟨Ar9, nr9, cr9, rfl, hh, g⟩
        have br9 : nr9 ≤ 244 := by rw [← hh.1]; exact LL.out butB b cl lb.out Lcc.out
        have Hr9 := Lib.hid hh
        clear hh
        replace Ha := Lib.hid (Ha.out.grew g)
        replace Hb := Lib.hid (Hb.out.grew g)
        replace Hcc := Lib.hid (Hcc.out.grew g)
        replace gg := gg.trans g
        clear g
        go_wp2_with fail
        refine (minus_val Hb.out Ha.out (by omega) (by omega) rfl).mono ?_
        rintro e v55 ⟨Ar10, nr10, cr10, rfl, hh, g⟩
        have br10 : nr10 ≤ 244 := by rw [← hh.1]; exact LL.out butB b a lb.out la.out
        have Hr10 := Lib.hid hh
        clear hh
        replace Ha := Lib.hid (Ha.out.grew g)
        replace Hb := Lib.hid (Hb.out.grew g)
        replace Hcc := Lib.hid (Hcc.out.grew g)
        replace Hr9 := Lib.hid (Hr9.out.grew g)
        replace gg := gg.trans g
        clear g
        go_wp2_with fail
        refine (same_val Hr9.out Hr10.out (decide_eq_true G5.out)).mono ?_
        rintro e v56 ⟨rfl, g⟩
        replace Ha := Lib.hid (Ha.out.grew g)
        replace Hb := Lib.hid (Hb.out.grew g)
        replace Hcc := Lib.hid (Hcc.out.grew g)
        replace Hr9 := Lib.hid (Hr9.out.grew g)
        replace Hr10 := Lib.hid (Hr10.out.grew g)
        replace gg := gg.trans g
        clear g
        clear Hr9 Hr10
        go_wp2_with fail
        refine (size_val Hcc.out (by omega) HZC.out).mono ?_
        rintro e v57 ⟨rfl, g⟩
        replace Ha := Lib.hid (Ha.out.grew g)
        replace Hb := Lib.hid (Hb.out.grew g)
        replace Hcc := Lib.hid (Hcc.out.grew g)
        replace gg := gg.trans g
        clear g
        go_wp2_with fail
        refine (size_val Ha.out (by omega) HZ.out).mono ?_
        rintro e v58 ⟨rfl, g⟩
        replace Ha := Lib.hid (Ha.out.grew g)
        replace Hb := Lib.hid (Hb.out.grew g)
        replace Hcc := Lib.hid (Hcc.out.grew g)
        replace gg := gg.trans g
        clear g
        go_wp2_with fail
        refine (has_val Hcc.out G6.out).mono ?_
        rintro e v59 ⟨rfl, g⟩
        replace Ha := Lib.hid (Ha.out.grew g)
        replace Hb := Lib.hid (Hb.out.grew g)
        replace Hcc := Lib.hid (Hcc.out.grew g)
        replace gg := gg.trans g
        clear g
        go_wp2_with fail
        refine (has_val Hcc.out G7.out).mono ?_
        rintro e v60 ⟨rfl, g⟩
        replace Ha := Lib.hid (Ha.out.grew g)
        replace Hb := Lib.hid (Hb.out.grew g)
        replace Hcc := Lib.hid (Hcc.out.grew g)
        replace gg := gg.trans g
        clear g
        go_wp2_with fail
        go_ret
        exact ⟨by simp, gg⟩
theorem parts_law (Aa : Option Addr) (na ca : Nat) (a : List Sp) (Ab : Option Addr) (nb cb : Nat) (b : List Sp) (w : World) (ha : Spans w Aa na ca a) (hb : Spans w Ab nb cb b) (p z : Int) (p0 : 0 ≤ p) (p1 : p ≤ 255) (z0 : 0 ≤ z) (z1 : z ≤ 65535) :
    Calls Try.prog 9 #[.slice Aa na ca, .slice Ab nb cb, .int .u8 p, .int .u16 z] w fun e w' => e = .returned (.bool true) ∧ Grew w w' := by
  cases hs : shortB [(Aa, na, ca), (Ab, nb, cb)] with
  | false => exact parts_skip Aa na ca a Ab nb cb b w ha hb p z hs
  | true =>
    unfold shortB at hs
    simp at hs
    by_cases h0 : na = 0
    · exact parts_s1 Aa na ca a Ab nb cb b w ha hb p z (by omega) (by omega) h0
    · obtain ⟨k, hk⟩ : ∃ k : Nat, p % (na : Int) = (k : Int) := ⟨(p % (na : Int)).toNat, by have := Int.emod_nonneg p (show (na : Int) ≠ 0 by omega); omega⟩
      have hkn : k < na := by have := Int.emod_lt_of_pos p (show (0 : Int) < na by omega); omega
      obtain ⟨s, hsk⟩ : ∃ s, a[k]? = some s := ⟨_, List.getElem?_eq_getElem (by rw [ha.1]; exact hkn)⟩
      by_cases hc : properB s = true ∧ 2 ≤ s.2 - s.1
      · exact parts_main Aa na ca a Ab nb cb b w ha hb p z p0 p1 z0 z1 (by omega) (by omega) k hk hkn s.1 s.2 hsk hc.1 hc.2
      · refine parts_s2 Aa na ca a Ab nb cb b w ha hb p z p0 p1 z0 z1 (by omega) (by omega) (by omega) fun k' s' hk' hs' => ?_
        obtain rfl : k' = k := by omega
        rw [hsk] at hs'
        injection hs' with hs'
        subst hs'
        cases hp : properB s with
        | false => exact .inl rfl
        | true => exact .inr ⟨rfl, by rw [hp] at hc; simp at hc; omega⟩
end Go.Proofs.Ytngbkpplkkpagaa
