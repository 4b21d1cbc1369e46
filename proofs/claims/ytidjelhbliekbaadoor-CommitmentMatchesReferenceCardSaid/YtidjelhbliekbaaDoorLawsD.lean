/-
  The law that commitments bind.
-/
import Derived.Test.YtidjelhbliekbaaDoorLawsC
namespace Go.Proofs.YtidjelhbliekbaaDoor
open Go.RowKit Go.Shelf Go.Proofs Wage26

theorem cmI_left {v w r : Int} (hv : inQ v) (hw : inQ w) (hr : inQ r) (h : cmI v r = cmI w r) : v = w := by
  rw [cmI_ok hv hr, cmI_ok hw hr] at h
  have h' : cm v.toNat r.toNat = cm w.toNat r.toNat := by omega
  have e := cm_inj_left (by have := hv.2; unfold Q; omega) (by have := hw.2; unfold Q; omega) h'
  have := hv.1; have := hw.1; omega
theorem cmI_right {v r s : Int} (hv : inQ v) (hr : inQ r) (hs : inQ s) (h : cmI v r = cmI v s) : r = s := by
  rw [cmI_ok hv hr, cmI_ok hv hs] at h
  have h' : cm v.toNat r.toNat = cm v.toNat s.toNat := by omega
  have e := cm_inj_right (by have := hr.2; unfold Q; omega) (by have := hs.2; unfold Q; omega) h'
  have := hr.1; have := hs.1; omega
theorem opI_ok {c v r x : Int} (hv : inQ v) (hr : inQ r) (hx : cmI v r = x) : opI c v r = (x == c) := by
  unfold opI; rw [cmE_ok hv hr, hx]; rfl

set_option maxRecDepth 100000 in
set_option maxHeartbeats 4000000 in
theorem binds_true (v w r s : Int) (W : World) (hg : Gen W) (hv : in64 v) (hw : in64 w) (hr : in64 r) (hs : in64 s) :
    Calls Tryd.prog 7 #[.int .i64 v, .int .i64 w, .int .i64 r, .int .i64 s] W fun e w' => e = .returned (.bool true) ∧ Grew W w' := by
  obtain ⟨v', hpv, v0, v1⟩ := qpick_ex v
  obtain ⟨w', hpw, w0, w1⟩ := qpick_ex w
  obtain ⟨r', hpr, r0, r1⟩ := qpick_ex r
  obtain ⟨s', hps, s0, s1⟩ := qpick_ex s
  have HV := Lib.hid hpv
  have HW := Lib.hid hpw
  have HR := Lib.hid hpr
  have HS := Lib.hid hps
  clear hpv hpw hpr hps
  have qv : inQ v' := ⟨v0, v1⟩
  have qw : inQ w' := ⟨w0, w1⟩
  have qr : inQ r' := ⟨r0, r1⟩
  have qs : inQ s' := ⟨s0, s1⟩
  obtain ⟨a, ha, _, a0, a1⟩ := cm_ex v' r' qv qr
  obtain ⟨b, hb, _, b0, b1⟩ := cm_ex w' r' qw qr
  obtain ⟨c, hc, _, c0, c1⟩ := cm_ex v' s' qv qs
  obtain ⟨d, hd, _, d0, d1⟩ := cm_ex w' s' qw qs
  have hab : Hid ((a == b) = (v' == w')) := by
    unfold Hid
    rw [Bool.eq_iff_iff, beq_iff_eq, beq_iff_eq]
    exact ⟨fun h => cmI_left qv qw qr (by rw [ha.out, hb.out, h]), fun h => by rw [← ha.out, ← hb.out, h]⟩
  have hac : Hid ((a == c) = (r' == s')) := by
    unfold Hid
    rw [Bool.eq_iff_iff, beq_iff_eq, beq_iff_eq]
    exact ⟨fun h => cmI_right qv qr qs (by rw [ha.out, hc.out, h]), fun h => by rw [← ha.out, ← hc.out, h]⟩
  have o1 : Hid (opI a v' r' = true) := by unfold Hid; rw [opI_ok qv qr ha.out]; simp
  have o2 : Hid (opI a w' r' = (v' == w')) := by unfold Hid; rw [opI_ok qw qr hb.out, BEq.comm]; exact hab.out
  have o3 : Hid (opI a v' s' = (r' == s')) := by unfold Hid; rw [opI_ok qv qs hc.out, BEq.comm]; exact hac.out
  obtain ⟨bo, o4⟩ : ∃ bo, Hid (opI a w' s' = bo) := ⟨_, rfl⟩
  obtain ⟨x, hx⟩ : ∃ x, Hid ((v' == w') = x) := ⟨_, rfl⟩
  obtain ⟨y, hy⟩ : ∃ y, Hid ((r' == s') = y) := ⟨_, rfl⟩
  have hbo : Hid (bo = false ∨ x = y) := by
    unfold Hid
    by_cases e1 : v' = w'
    · by_cases e2 : r' = s'
      · right; exact (hx.out.symm.trans (beq_iff_eq.2 e1)).trans (hy.out.symm.trans (beq_iff_eq.2 e2)).symm
      · left
        have h3 := o3.out
        rw [← o4.out, ← e1, h3]
        exact beq_eq_false_iff_ne.2 e2
    · by_cases e2 : r' = s'
      · left
        have h2 := o2.out
        rw [← o4.out, ← e2, h2]
        exact beq_eq_false_iff_ne.2 e1
      · right; exact (hx.out.symm.trans (beq_eq_false_iff_ne.2 e1)).trans (hy.out.symm.trans (beq_eq_false_iff_ne.2 e2)).symm
  go_enter Tryd.func7, Tryd.ntmps7
  go_wp2_with fail
  refine (head_true W hg).mono ?_
  rintro e W1 ⟨rfl, k1⟩
  have g1 := hg.grew k1
  go_wp2_with fail
  refine (qpick_val hv HV).mono ?_
  rintro e _ ⟨rfl, rfl⟩
  go_wp2_with fail
  refine (qpick_val hw HW).mono ?_
  rintro e _ ⟨rfl, rfl⟩
  go_wp2_with fail
  refine (qpick_val hr HR).mono ?_
  rintro e _ ⟨rfl, rfl⟩
  go_wp2_with fail
  refine (qpick_val hs HS).mono ?_
  rintro e _ ⟨rfl, rfl⟩
  go_wp2_with fail
  refine (commit_hid g1 qv qr ha).mono ?_
  rintro e W2 ⟨rfl, k2⟩
  have g2 := g1.grew k2
  go_wp2_with fail
  refine (commit_hid g2 qw qr hb).mono ?_
  rintro e W3 ⟨rfl, k3⟩
  have g3 := g2.grew k3
  go_wp2_with fail
  refine (commit_hid g3 qv qs hc).mono ?_
  rintro e W4 ⟨rfl, k4⟩
  have g4' := g3.grew k4
  have e1 : (a == b) = x := hab.out.trans hx.out
  have e2 : (v' == w') = x := hx.out
  have e3 : (a == c) = y := hac.out.trans hy.out
  have e4 : (r' == s') = y := hy.out
  go_wp2_with fail
  refine (open_val a v' r' true g4' o1.out).mono ?_
  rintro e W5 ⟨rfl, k5⟩
  have g5 := g4'.grew k5
  go_wp2_with fail
  refine (open_val a w' r' x g5 (o2.out.trans hx.out)).mono ?_
  rintro e W6 ⟨rfl, k6⟩
  have g6 := g5.grew k6
  go_wp2_with fail
  refine (open_val a v' s' y g6 (o3.out.trans hy.out)).mono ?_
  rintro e W7 ⟨rfl, k7⟩
  have g7 := g6.grew k7
  go_wp2_with fail
  refine (open_val a w' s' bo g7 o4.out).mono ?_
  rintro e W8 ⟨rfl, k8⟩
  have kk := k1.trans (k2.trans (k3.trans (k4.trans (k5.trans (k6.trans (k7.trans k8))))))
  have hbo' := hbo.out
  clear hbo hx hy
  cases bo
  · go_wp2_with fail
    go_ret
    exact ⟨rfl, kk⟩
  · have hxy : x = y := by simpa using hbo'
    clear hbo'
    cases x
    · cases y
      · go_wp2_with fail
        go_ret
        exact ⟨rfl, kk⟩
      · cases hxy
    · cases y
      · cases hxy
      · go_wp2_with fail
        go_ret
        exact ⟨rfl, kk⟩
end Go.Proofs.YtidjelhbliekbaaDoor
