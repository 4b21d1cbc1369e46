/-
  The laws of the commitment layer on sums, the group and binding.
-/
import Derived.Test.YtidjelhbliekbaaDoorLaws
namespace Go.Proofs.YtidjelhbliekbaaDoor
open Go.RowKit Go.Shelf Go.Proofs Wage26

/-- A value or blinding number. -/
def inQ (x : Int) : Prop := 0 ≤ x ∧ x < 1073741789

theorem cmE_ok {v r : Int} (hv : inQ v) (hr : inQ r) : cmE v r = 0 := by unfold cmE; rw [okQ_true hv.1 hv.2, okQ_true hr.1 hr.2]; rfl
theorem cmI_ok {v r : Int} (hv : inQ v) (hr : inQ r) : cmI v r = ((cm v.toNat r.toNat : Nat) : Int) := by unfold cmI; rw [okQ_true hv.1 hv.2, okQ_true hr.1 hr.2]; rfl
theorem cmI_one_le {v r : Int} (hv : inQ v) (hr : inQ r) : 1 ≤ cmI v r := by rw [cmI_ok hv hr]; have := cm_pos v.toNat r.toNat; omega
theorem el_cm {v r : Int} (hv : inQ v) (hr : inQ r) : elI (cmI v r) = true := by
  refine elI_true (cmI_one_le hv hr) (cmI_bd v r).2 ?_
  rw [cmI_ok hv hr, Int.toNat_natCast]; exact cm_group _ _
theorem inQ_add (v w : Int) (hv : inQ v) (hw : inQ w) : inQ ((v + w) % 1073741789) := ⟨by have := hv.1; have := hw.1; omega, by omega⟩
theorem inQ_neg (v : Int) : inQ ((1073741789 - v) % 1073741789) := ⟨by omega, by omega⟩
theorem toNat_add (v w : Int) (hv : inQ v) (hw : inQ w) : ((v + w) % 1073741789).toNat = (v.toNat + w.toNat) % Q := by
  have := hv.1; have := hw.1; unfold Q; omega
theorem ad_cm {v r w s : Int} (hv : inQ v) (hr : inQ r) (hw : inQ w) (hs : inQ s) : adI (cmI v r) (cmI w s) = cmI ((v + w) % 1073741789) ((r + s) % 1073741789) := by
  unfold adI
  rw [el_cm hv hr, el_cm hw hs, cmI_ok (inQ_add v w hv hw) (inQ_add r s hr hs), toNat_add v w hv hw, toNat_add r s hr hs, ← cm_add, cmI_ok hv hr, cmI_ok hw hs]
  simp
theorem adE_cm {v r w s : Int} (hv : inQ v) (hr : inQ r) (hw : inQ w) (hs : inQ s) : adE (cmI v r) (cmI w s) = 0 := by
  unfold adE; rw [el_cm hv hr, el_cm hw hs]; rfl

theorem qpick_ex (c : Int) : ∃ x, pickI c 1073741789 = x ∧ 0 ≤ x ∧ x < 1073741789 := pick_ex c (by decide)

/-- An integer of 64 bits. -/
def in64 (x : Int) : Prop := -9223372036854775808 ≤ x ∧ x ≤ 9223372036854775807
theorem qpick_val {w : World} {c x : Int} (h : in64 c) (hx : Hid (pickI c 1073741789 = x)) :
    Calls Tryd.prog 10 #[.int .i64 c, .int .i64 1073741789] w fun e w' => e = .returned (.int .i64 x) ∧ w = w' := pick_val c _ x h.1 h.2 (by decide) (by decide) hx.out

theorem cm_ex (v r : Int) (hv : inQ v) (hr : inQ r) : ∃ x, Hid (cmI v r = x) ∧ Hid (elI x = true) ∧ 1 ≤ x ∧ x < 2147483579 := ⟨_, rfl, el_cm hv hr, cmI_one_le hv hr, (cmI_bd v r).2⟩
theorem commit_hid {w : World} {v r x : Int} (hg : Gen w) (hv : inQ v) (hr : inQ r) (hx : Hid (cmI v r = x)) :
    Calls Tryd.prog 12 #[.int .i64 v, .int .i64 r] w fun e w' => e = .returned (.tuple #[.int .i64 x, .int .i64 0]) ∧ Grew w w' := commit_val v r x 0 hg hx.out (cmE_ok hv hr)

set_option maxRecDepth 100000 in
set_option maxHeartbeats 4000000 in
theorem sums_true (v w r s : Int) (W : World) (hg : Gen W) (hv : in64 v) (hw : in64 w) (hr : in64 r) (hs : in64 s) :
    Calls Tryd.prog 5 #[.int .i64 v, .int .i64 w, .int .i64 r, .int .i64 s] W fun e w' => e = .returned (.bool true) ∧ Grew W w' := by
  obtain ⟨v', hpv, v0, v1⟩ := qpick_ex v
  obtain ⟨w', hpw, w0, w1⟩ := qpick_ex w
  obtain ⟨r', hpr, r0, r1⟩ := qpick_ex r
  obtain ⟨s', hps, s0, s1⟩ := qpick_ex s
  have HV := Lib.hid hpv
  have HW := Lib.hid hpw
  have HR := Lib.hid hpr
  have HS := Lib.hid hps
  clear hpv hpw hpr hps
  have qv : inQ v' := ⟨v0, v1⟩
  have qw : inQ w' := ⟨w0, w1⟩
  have qr : inQ r' := ⟨r0, r1⟩
  have qs : inQ s' := ⟨s0, s1⟩
  obtain ⟨a, ha, _, a0, a1⟩ := cm_ex v' r' qv qr
  obtain ⟨b, hb, _, b0, b1⟩ := cm_ex w' s' qw qs
  obtain ⟨c, hc, _, c0, c1⟩ := cm_ex ((v' + w') % 1073741789) ((r' + s') % 1073741789) (inQ_add _ _ qv qw) (inQ_add _ _ qr qs)
  have hadd : Hid (adI a b = c) := by have := ad_cm qv qr qw qs; rw [ha.out, hb.out, hc.out] at this; exact this
  have hadE : Hid (adE a b = 0) := by have := adE_cm qv qr qw qs; rw [ha.out, hb.out] at this; exact this
  have hop : Hid (opI c ((v' + w') % 1073741789) ((r' + s') % 1073741789) = true) := by
    unfold Hid opI; rw [cmE_ok (inQ_add _ _ qv qw) (inQ_add _ _ qr qs), hc.out]; simp
  go_enter Tryd.func5, Tryd.ntmps5
  go_wp2_with fail
  refine (head_true W hg).mono ?_
  rintro e W1 ⟨rfl, k1⟩
  have g1 := hg.grew k1
  go_wp2_with fail
  refine (qpick_val hv HV).mono ?_
  rintro e _ ⟨rfl, rfl⟩
  go_wp2_with fail
  refine (qpick_val hw HW).mono ?_
  rintro e _ ⟨rfl, rfl⟩
  go_wp2_with fail
  refine (qpick_val hr HR).mono ?_
  rintro e _ ⟨rfl, rfl⟩
  go_wp2_with fail
  refine (qpick_val hs HS).mono ?_
  rintro e _ ⟨rfl, rfl⟩
  go_wp2_with fail
  refine (commit_hid g1 qv qr ha).mono ?_
  rintro e W2 ⟨rfl, k2⟩
  have g2 := g1.grew k2
  go_wp2_with fail
  refine (commit_hid g2 qw qs hb).mono ?_
  rintro e W3 ⟨rfl, k3⟩
  have g3 := g2.grew k3
  go_wp2_with fail
  refine (add_val a b c 0 hadd.out hadE.out).mono ?_
  rintro e W4 ⟨rfl, k4⟩
  have g4' := g3.grew k4
  go_wp2_with fail
  refine (commit_hid g4' (inQ_add _ _ qv qw) (inQ_add _ _ qr qs) hc).mono ?_
  rintro e W5 ⟨rfl, k5⟩
  have g5 := g4'.grew k5
  go_wp2_with fail
  refine (open_val c _ _ true g5 hop.out).mono ?_
  rintro e W6 ⟨rfl, k6⟩
  go_wp2_with fail
  go_ret
  exact ⟨rfl, k1.trans (k2.trans (k3.trans (k4.trans (k5.trans k6))))⟩

end Go.Proofs.YtidjelhbliekbaaDoor
