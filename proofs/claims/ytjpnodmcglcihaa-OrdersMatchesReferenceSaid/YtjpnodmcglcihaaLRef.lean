/-
  The law OrdersMatchesReference, walked.
-/
import Derived.Test.YtjpnodmcglcihaaROpen
import Derived.Test.YtjpnodmcglcihaaSameO
import Derived.Test.YtjpnodmcglcihaaClkP
namespace Go.Proofs.Ytjpnodmcglcihaa
open Go.RowKit Go.Proofs WageMem WageOrd WageRec WageMap WageReg

set_option maxRecDepth 100000 in
set_option maxHeartbeats 8000000 in
theorem ref_skip (A : Option Addr) (n c : Nat) (l : List Ord) (o : Ord) (p : ByteArray) (mo kn : Int) (w : World) (_h : Ords w A n c l) (_ho : Wf [o]) (hn : n ≤ 9223372036854775807) (hs : decide (n ≤ 403) = false) : Calls Try.prog 3 #[.slice A n c, .agg #[.int .i64 o.n, .string o.p, .string o.c, .int .i64 o.r, .int .i64 o.k, .int .i64 o.f, .int .i64 o.m, .bool o.fam], .string p, .int .i64 mo, .int .i64 kn] w fun e w' => e = .returned (.bool true) ∧ Grew w w' := by
  have HS := Lib.hid hs
  obtain ⟨w0, hw0⟩ : ∃ y, y = w.alloc (.cells #[.int .i64 o.n, .string o.p, .string o.c, .int .i64 o.r, .int .i64 o.k, .int .i64 o.f, .int .i64 o.m, .bool o.fam] 24) := ⟨_, rfl⟩
  have g0 : Grew w w0 := by rw [hw0]; exact (Grew.refl w).alloc _
  clear hs
  go_enter Try.func3, Try.ntmps3
  go_wp2_with fail
  rw [← hw0]
  refine (head_true _).mono ?_
  rintro e v1 ⟨rfl, g1⟩
  go_wp2_with fail
  refine (short_any A n c _ hn HS.out).mono ?_
  rintro e v2 ⟨rfl, g2⟩
  clear hw0
  go_wp2_with fail
  go_ret
  exact ⟨rfl, (g0.trans g1).trans g2⟩
set_option maxRecDepth 100000 in
set_option maxHeartbeats 8000000 in
theorem ref_skip2 (A : Option Addr) (n c : Nat) (l : List Ord) (o : Ord) (p : ByteArray) (mo kn : Int) (w : World) (_h : Ords w A n c l) (_ho : Wf [o]) (hn : n ≤ 403) (hp : 100 < p.size) : Calls Try.prog 3 #[.slice A n c, .agg #[.int .i64 o.n, .string o.p, .string o.c, .int .i64 o.r, .int .i64 o.k, .int .i64 o.f, .int .i64 o.m, .bool o.fam], .string p, .int .i64 mo, .int .i64 kn] w fun e w' => e = .returned (.bool true) ∧ Grew w w' := by
  have HS := Lib.hid (decide_eq_true hn)
  have q1 : decide ((100 : Int) < (p.size : Int)) = true := decide_eq_true (by omega)
  have q2 : decide (100 < p.size) = true := decide_eq_true hp
  obtain ⟨w0, hw0⟩ : ∃ y, y = w.alloc (.cells #[.int .i64 o.n, .string o.p, .string o.c, .int .i64 o.r, .int .i64 o.k, .int .i64 o.f, .int .i64 o.m, .bool o.fam] 24) := ⟨_, rfl⟩
  have g0 : Grew w w0 := by rw [hw0]; exact (Grew.refl w).alloc _
  go_enter Try.func3, Try.ntmps3
  go_wp2_with fail
  rw [← hw0]
  refine (head_true _).mono ?_
  rintro e v1 ⟨rfl, g1⟩
  go_wp2_with fail
  refine (short_any A n c _ (by omega) HS.out).mono ?_
  rintro e v2 ⟨rfl, g2⟩
  clear hw0
  go_wp2_with fail
  go_ret
  exact ⟨rfl, (g0.trans g1).trans g2⟩

set_option maxRecDepth 100000 in
set_option maxHeartbeats 8000000 in
theorem ref_main (A : Option Addr) (n c : Nat) (l : List Ord) (o : Ord) (p : ByteArray) (mo kn : Int) (w : World) (h : Ords w A n c l) (ho : Wf [o]) (hn : n ≤ 403) (hp : ¬ 100 < p.size) : Calls Try.prog 3 #[.slice A n c, .agg #[.int .i64 o.n, .string o.p, .string o.c, .int .i64 o.r, .int .i64 o.k, .int .i64 o.f, .int .i64 o.m, .bool o.fam], .string p, .int .i64 mo, .int .i64 kn] w fun e w' => e = .returned (.bool true) ∧ Grew w w' := by
  have HS := Lib.hid (decide_eq_true hn)
  have q1 : decide ((100 : Int) < (p.size : Int)) = false := decide_eq_false (by omega)
  have q2 : decide (100 < p.size) = false := decide_eq_false hp
  have HH := Lib.hid h
  have HL := Lib.hid h.1.1
  have HO := Lib.hid ho
  obtain ⟨w0, hw0⟩ : ∃ y, y = w.alloc (.cells #[.int .i64 o.n, .string o.p, .string o.c, .int .i64 o.r, .int .i64 o.k, .int .i64 o.f, .int .i64 o.m, .bool o.fam] 24) := ⟨_, rfl⟩
  have g0 : Grew w w0 := by rw [hw0]; exact (Grew.refl w).alloc _
  have HR0 : Hid (w0.rangeAt w.heap.size 0 (oe o)) := by rw [hw0]; exact range_new w (oe o) 24
  obtain ⟨r, hr⟩ : ∃ r, openL l p mo kn = r := ⟨_, rfl⟩
  have HRR := Lib.hid hr
  obtain ⟨vb, hvb⟩ : ∃ r, validB l = r := ⟨_, rfl⟩
  have HVB := Lib.hid hvb
  obtain ⟨⟨more, z⟩, hrec⟩ : ∃ q, recL l o = q := ⟨_, rfl⟩
  have HREC := Lib.hid hrec
  have WM : Hid (Wf more) := by
    by_cases hz : z = 0
    · rw [(rec_ok_inv hrec hz).1]; exact wf_app h.2 ho
    · rw [rec_err hrec hz]; intro x hx; simp at hx
  clear h ho hr hrec hvb
  go_enter Try.func3, Try.ntmps3
  go_wp2_with fail
  rw [← hw0]
  refine (head_true _).mono ?_
  rintro e v1 ⟨rfl, g1⟩
  go_wp2_with fail
  refine (short_any A n c _ (by omega) HS.out).mono ?_
  rintro e v2 ⟨rfl, g2⟩
  clear hw0
  have gg := (g0.trans g1).trans g2
  replace HH := Lib.hid (HH.out.grew gg)
  have HR3 := Lib.hid (range_grew HR0.out (g1.trans g2))
  have GG := Lib.hid gg
  clear g0 g1 g2 gg HR0
  obtain ⟨c0, c1, c2, c3, c4, c5, c6, c7⟩ := cells24n HR3.out
  go_wp2_with fail
  refine (record_val (o := o) HH.out (by omega) HO.out HREC.out).mono ?_
  rintro e v4 ⟨A4, n4, cc4, rfl, hl4, own4, g4⟩
  have H4 : Hid (Ords v4 A4 n4 cc4 more) := ⟨Recs.own hl4 own4, WM.out⟩
  replace HH := Lib.hid (HH.out.grew g4)
  replace HR3 := Lib.hid (range_grew HR3.out g4)
  replace GG := Lib.hid (GG.out.trans g4)
  clear c0 c1 c2 c3 c4 c5 c6 c7 hl4 own4 g4
  obtain ⟨c0, c1, c2, c3, c4, c5, c6, c7⟩ := cells24n HR3.out
  go_wp2_with fail
  refine (rrecord_val (o := o) HH.out (by omega) HO.out HREC.out).mono ?_
  rintro e v5 ⟨A5, n5, cc5, rfl, hl5, own5, g5⟩
  have H5 : Hid (Ords v5 A5 n5 cc5 more) := ⟨Recs.own hl5 own5, WM.out⟩
  replace HH := Lib.hid (HH.out.grew g5)
  replace H4 := Lib.hid (H4.out.grew g5)
  replace GG := Lib.hid (GG.out.trans g5)
  clear c0 c1 c2 c3 c4 c5 c6 c7 hl5 own5 g5 HR3
  go_wp2_with fail
  refine (valid_val HH.out HVB.out).mono ?_
  rintro e v6 ⟨rfl, g6⟩
  replace HH := Lib.hid (HH.out.grew g6)
  replace H4 := Lib.hid (H4.out.grew g6)
  replace H5 := Lib.hid (H5.out.grew g6)
  replace GG := Lib.hid (GG.out.trans g6)
  clear g6
  go_wp2_with fail
  refine (rvalid_val HH.out HVB.out).mono ?_
  rintro e v7 ⟨rfl, g7⟩
  replace HH := Lib.hid (HH.out.grew g7)
  replace H4 := Lib.hid (H4.out.grew g7)
  replace H5 := Lib.hid (H5.out.grew g7)
  replace GG := Lib.hid (GG.out.trans g7)
  clear g7
  have qv : (vb == vb) = true := by simp
  go_wp2_with fail
  refine (same_val H4.out H5.out (decide_eq_true rfl)).mono ?_
  rintro e v8 ⟨rfl, g8⟩
  replace HH := Lib.hid (HH.out.grew g8)
  replace GG := Lib.hid (GG.out.trans g8)
  clear g8 H4 H5
  go_wp2_with fail
  refine (open_val HH.out (by omega) HRR.out).mono ?_
  rintro e v9 ⟨A9, n9, cc9, rfl, h9, g9⟩
  have H9 := Lib.hid h9
  replace HH := Lib.hid (HH.out.grew g9)
  replace GG := Lib.hid (GG.out.trans g9)
  clear g9 h9
  go_wp2_with fail
  refine (ropen_val HH.out (by omega) HRR.out).mono ?_
  rintro e v10 ⟨A10, n10, cc10, rfl, h10, g10⟩
  have H10 := Lib.hid h10
  replace H9 := Lib.hid (H9.out.grew g10)
  replace GG := Lib.hid (GG.out.trans g10)
  clear g10 h10
  go_wp2_with fail
  refine (same_val H9.out H10.out (decide_eq_true rfl)).mono ?_
  rintro e v11 ⟨rfl, g11⟩
  have gE := GG.out.trans g11
  go_wp2_with fail
  go_ret
  exact ⟨rfl, gE⟩
theorem ref_law (A : Option Addr) (n c : Nat) (l : List Ord) (o : Ord) (p : ByteArray) (mo kn : Int) (w : World) (h : Ords w A n c l) (ho : Wf [o]) : Calls Try.prog 3 #[.slice A n c, ov o, .string p, .int .i64 mo, .int .i64 kn] w fun e w' => e = .returned (.bool true) ∧ Grew w w' := by
  by_cases hs : n ≤ 403
  · by_cases hp : 100 < p.size
    · exact ref_skip2 A n c l o p mo kn w h ho hs hp
    · exact ref_main A n c l o p mo kn w h ho hs hp
  · exact ref_skip A n c l o p mo kn w h ho h.1.le (decide_eq_false hs)
end Go.Proofs.Ytjpnodmcglcihaa
