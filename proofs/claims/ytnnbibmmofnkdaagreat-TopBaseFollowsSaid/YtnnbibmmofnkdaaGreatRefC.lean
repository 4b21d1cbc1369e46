/-
 Refutations: restless, unable, overworked.
-/
import Derived.Test.YtnnbibmmofnkdaaGreatRefA
import Derived.Test.YtnnbibmmofnkdaaGreatRosD
import Derived.Test.YtnnbibmmofnkdaaGreatRosE
namespace Go.Proofs.YtnnbibmmofnkdaaGreat
open Go.RowKit Go.Proofs WageMem WageReg WageRec WageSpan WageTop
/-- A plan's facts at a block's beginning. -/
structure RpAt (w : World) (cb : Nat) (p : Pl) (M N : Pc) (ps : List Pc) : Prop where
 cells : ∀ (i : Nat) (v : Value), (npC p M N (cheapest (envP p) p.wn))[i]? = some v → w.cell? ⟨cb, i, none⟩ = some v
 fact : FactAt w p M N ps
 ok : planB p = true
theorem RpAt.grew {w w' : World} {cb : Nat} {p : Pl} {M N : Pc} {ps : List Pc} (h : RpAt w cb p M N ps) (g : Grew w w') : RpAt w' cb p M N ps :=
 ⟨fun i v hv => g.cell (h.cells i v hv), h.fact.grew g, h.ok⟩
set_option maxRecDepth 100000 in
set_option maxHeartbeats 4000000 in
theorem restless147 {w : World} {cb : Nat} {p : Pl} {M N : Pc} {ps : List Pc} {T : Option Addr} {tn tc : Nat} {ds : List Nat} {t : Bool} (h : RpAt w cb p M N ps) (hi : Ints w T tn tc (idxL ds)) (hle : tn ≤ 24) (hlt : ∀ d ∈ ds, d < p.dn) (ht : rsV p ds = t) :
  Calls Tryz.prog 147 #[.pointer (some ⟨cb, 0, none⟩), .slice T tn tc] w fun r w' => r = .returned (.bool t) ∧ Grew w w' := by
 have HRP := Lib.hid h
 have HI := Lib.hid hi
 have HLT := Lib.hid hlt
 have HT := Lib.hid ht
 have HNL : Hid (ds.length = tn) := by unfold Hid; rw [← idxL_len]; exact hi.1
 have dn9 := h.fact.pl.ds.le
 clear h hi hlt ht
 go_enter Tryz.func147, Tryz.ntmps147
 go_wp2_with fail
 go_loopw [11] (fun i y => ∃ k : Nat, k ≤ tn ∧ i = .int .i64 k ∧ Hid (rsV p (ds.drop k) = t) ∧ Hid (Grew w y)) (fun i _ => tn - (intOf i).toNat)
 case atStart => exact ⟨0, Nat.zero_le _, rfl, HT.out, Grew.refl _⟩
 case round =>
  obtain ⟨k, hk, rfl, HZ, HR⟩ := hrel
  by_cases hlt : k < tn
  ·obtain ⟨b, o, hA, hc⟩ := (HI.out.grew HR.out).at_ (by omega)
   obtain ⟨d, hd⟩ : ∃ d, ds[k]? = some d := ⟨_, List.getElem?_eq_getElem (by rw [HNL.out]; exact hlt)⟩
   have c0 := hc k _ (idxL_at hd)
   have hdn := HLT.out d (List.mem_of_getElem? hd)
   have HDN := Lib.hid hdn
   have e1 : (0 : Int) ≤ (k : Int) := by omega
   have e2 : (k : Int) < (tn : Int) := by omega
   have e3 : IntKind.i64.wrap ((k : Int) + 1) = (k : Int) + 1 := IntWalk.i64_in _ (by omega)
   have hIT := ints_tail HI.out (q := k + 1) (by omega)
   have rsl : ∀ x, (Instr.slice 38 (.slice T tn tc) (some (.int .i64 ((k : Int) + 1))) none none).run Tryz.prog x = .ok (.slice (tailA T tc (k + 1) 1) (tn - (k + 1)) (tc - (k + 1))) x := fun x => by
    have := run_slice_tail x 38 1 elem38 (size38 x) T tn tc (k + 1) .i64 (by omega)
    rw [show ((k + 1 : Nat) : Int) = (k : Int) + 1 by omega] at this
    exact this
   have HRV : Hid (((ds.drop (k + 1)).any (rsL p d) || rsV p (ds.drop (k + 1))) = t) := by
    have h1 := HZ.out
    rw [drop_at' hd] at h1
    exact h1
   have HMEM : Hid (∀ e ∈ ds.drop (k + 1), e < p.dn) := fun e he => HLT.out e (List.mem_of_mem_drop he)
   clear hd hc HZ hdn
   obtain ⟨TA, hTA⟩ : ∃ z, z = tailA T tc (k + 1) 1 := ⟨_, rfl⟩
   obtain ⟨tm, htm⟩ : ∃ z, z = tn - (k + 1) := ⟨_, rfl⟩
   obtain ⟨tcc, htcc⟩ : ∃ z, z = tc - (k + 1) := ⟨_, rfl⟩
   rw [← hTA, ← htm, ← htcc] at rsl hIT
   have htm9 : tm ≤ 24 := by omega
   clear hTA htm htcc
   obtain ⟨es, hes⟩ : ∃ l, l = ds.drop (k + 1) := ⟨_, rfl⟩
   have HIE : Hid (Ints w TA tm tcc (idxL es)) := by unfold Hid idxL; rw [hes, List.map_drop]; exact hIT
   have HES := Lib.hid hes
   rw [← hes] at HRV HMEM
   have HEL : Hid (es.length = tm) := by unfold Hid; rw [← idxL_len]; exact HIE.out.1
   clear hes hIT
   subst hA
   go_upto_region 4 with (fail)
   clear c0
   go_wp2_with fail
   clear rsl
   go_loopw [21] (fun i y => ∃ m : Nat, m ≤ tm ∧ i = .int .i64 m ∧ Hid (((es.drop m).any (rsL p d) || rsV p es) = t) ∧ Hid (Grew w y)) (fun i _ => tm - (intOf i).toNat)
   case atStart => exact ⟨0, Nat.zero_le _, rfl, HRV.out, HR.out⟩
   case round =>
    clear HRV HR
    obtain ⟨m, hm, rfl, HZ, HR⟩ := hrel
    by_cases hlm : m < tm
    ·obtain ⟨b2, o2, hA2, hc2⟩ := (HIE.out.grew HR.out).at_ (by omega)
     obtain ⟨e, he⟩ : ∃ e, es[m]? = some e := ⟨_, List.getElem?_eq_getElem (by rw [HEL.out]; exact hlm)⟩
     have c0 := hc2 m _ (idxL_at he)
     have hen := HMEM.out e (List.mem_of_getElem? he)
     have hZC : Hid ((rsL p d e || ((es.drop (m + 1)).any (rsL p d) || rsV p es)) = t) := by
      have h1 := HZ.out
      rw [drop_at' he, List.any_cons, Bool.or_assoc] at h1
      exact h1
     have hrp := HRP.out.grew HR.out
     obtain ⟨bd, od, yd, hDa, hyd, ⟨d0, d1, d2⟩, _⟩ := hrp.fact.pl.ds.at_ HDN.out
     obtain ⟨bd', od', ye, hDa', hye, ⟨f0, f1, f2⟩, _⟩ := hrp.fact.pl.ds.at_ hen
     rw [hDa] at hDa'
     injection hDa' with hDa'
     injection hDa' with h1 h2
     subst h1 h2
     have hDD := durOk_of hrp.ok hrp.fact.pl HDN.out
     have hEE := durOk_of hrp.ok hrp.fact.pl hen
     rw [du_at hyd] at hDD
     rw [du_at hye] at hEE
     have HYD : Hid (p.du d = yd) := du_at hyd
     have HYE : Hid (p.du e = ye) := du_at hye
     obtain ⟨ya, yb, ys⟩ := yd
     obtain ⟨za, zb, zs⟩ := ye
     simp only at d0 d1 d2 f0 f1 f2
     have HDD : Hid (durOk ⟨ya, yb, ys⟩ = true) := by unfold dOk at hDD; simp only [Bool.and_eq_true] at hDD; exact hDD.1
     have HEE : Hid (durOk ⟨za, zb, zs⟩ = true) := by unfold dOk at hEE; simp only [Bool.and_eq_true] at hEE; exact hEE.1
     have v3 : wr.cell? ⟨cb, 3, none⟩ = some (.slice (some ⟨bd, od, none⟩) p.dn p.dc) := by rw [← hDa]; exact hrp.cells 3 _ rfl
     have v5 : wr.cell? ⟨cb, 5, none⟩ = some (.int .i64 p.lm.rest) := hrp.cells 5 _ rfl
     have hd9 := HDN.out
     have i1 : (0 : Int) ≤ (d : Int) := by omega
     have i2 : (d : Int) < (p.dn : Int) := by omega
     have i3 : (0 : Int) ≤ (e : Int) := by omega
     have i4 : (e : Int) < (p.dn : Int) := by omega
     have i5 : (0 : Int) ≤ (m : Int) := by omega
     have i6 : (m : Int) < (tm : Int) := by omega
     have hA : ∀ w', Grew wr.drew w' → (w'.cell? ⟨cb, 3, none⟩ = some (.slice (some ⟨bd, od, none⟩) p.dn p.dc) ∧ w'.cell? ⟨cb, 5, none⟩ = some (.int .i64 p.lm.rest)) ∧ (w'.cell? ⟨bd, od + d * 3, none⟩ = some (.int .i64 ya) ∧ w'.cell? ⟨bd, od + d * 3 + 1, none⟩ = some (.int .i64 yb) ∧ w'.cell? ⟨bd, od + d * 3 + 2, none⟩ = some (.int .i64 ys)) ∧ (w'.cell? ⟨bd, od + e * 3, none⟩ = some (.int .i64 za) ∧ w'.cell? ⟨bd, od + e * 3 + 1, none⟩ = some (.int .i64 zb) ∧ w'.cell? ⟨bd, od + e * 3 + 2, none⟩ = some (.int .i64 zs)) := fun w' g' => by
      have gg := (Grew.refl wr).drew.trans g'
      exact ⟨⟨gg.cell v3, gg.cell v5⟩, ⟨gg.cell d0, gg.cell d1, gg.cell d2⟩, gg.cell f0, gg.cell f1, gg.cell f2⟩
     have HA := Lib.hid hA
     subst hA2
     obtain ⟨R, hR⟩ : ∃ z, restF ⟨ya, yb, ys⟩ ⟨za, zb, zs⟩ = z := ⟨_, rfl⟩
     have HRR := Lib.hid hR
     have HBIT : Hid (rsL p d e = decide (R < p.lm.rest)) := by unfold Hid rsL; rw [HYD.out, HYE.out, hR]
     clear hc2 he hDD hEE hyd hye hDa d0 d1 d2 f0 f1 f2 v3 v5 hA HZ hR hen hrp
     go_upto_region 7 with (fail)
     clear c0
     refine wp_region_seq (by kernel_rfl) Grew.refl (fun _ _ _ => Grew.trans) (fun _ _ _ _ _ h => h) (by kernel_rfl) ?_
     repeat (first
      | (refine TakeAll.pure (v := ?_) (by rfl) ?_ ?_; rotate_left; (intro w' g'; obtain ⟨⟨w0, w1x⟩, ⟨q2, q3, q4⟩, q5, q6, q7⟩ := HA.out w' g'; go_simp; first | done | with_reducible rfl); (simp only [Act.put, uzT, uz0, uz1]))
      | (refine TakeAll.skip (by rfl) ?_; (simp only [Act.put, uzT, uz0, uz1])))
     refine TakeAll.call (by rfl) 32 _ (fun _ => by go_simp; first | done | rfl) (fun w' g' => rest32v HDD.out HEE.out HRR.out w') ?_
     simp only [Act.put, uzT, uz0, uz1]
     repeat (first
      | (refine TakeAll.pure (v := ?_) (by rfl) ?_ ?_; rotate_left; (intro w' g'; obtain ⟨⟨w0, w1x⟩, ⟨q2, q3, q4⟩, q5, q6, q7⟩ := HA.out w' g'; go_simp; first | done | with_reducible rfl); (simp only [Act.put, uzT, uz0, uz1]))
      | (refine TakeAll.skip (by rfl) ?_; (simp only [Act.put, uzT, uz0, uz1])))
     refine TakeAll.nil ?_
     intro w5 g5
     have HR5 := Lib.hid (HR.out.trans ((Grew.refl wr).drew.trans g5))
     clear g5 HA HR
     by_cases hb : R < p.lm.rest
     ·have q1 : decide (R < p.lm.rest) = true := decide_eq_true hb
      have HF : Hid (true = t) := by unfold Hid; rw [← hZC.out, HBIT.out, q1]; rfl
      go_wp2
      go_ret
      exact ⟨congrArg (fun b => Ending.returned (Value.bool b)) HF.out, HR5.out⟩
     ·have q1 : decide (R < p.lm.rest) = false := decide_eq_false hb
      have HZ2 : Hid (((es.drop (m + 1)).any (rsL p d) || rsV p es) = t) := by unfold Hid; rw [← hZC.out, HBIT.out, q1]; rfl
      clear hZC
      go_wp2_with fail
      go_roundw
      case rel => exact ⟨m + 1, by omega, by go_num, HZ2, HR5⟩
      case measure => simp [intOf]; omega
    ·obtain rfl : tm = m := by omega
     have HZ2 : Hid (rsV p (ds.drop (k + 1)) = t) := by
      have h1 := HZ.out
      rw [← HEL.out, List.drop_length] at h1
      rw [HES.out] at h1
      exact h1
     clear HZ
     go_wp2_with fail
     go_roundw
     case rel => exact ⟨k + 1, by omega, by go_num, HZ2, HR⟩
     case measure => simp [intOf]; omega
  ·obtain rfl : tn = k := by omega
   have HF : Hid (false = t) := by
    have h1 := HZ.out
    rw [← HNL.out, List.drop_length] at h1
    exact h1
   go_wp2
   go_ret
   exact ⟨congrArg (fun b => Ending.returned (Value.bool b)) HF.out, HR.out⟩
end Go.Proofs.YtnnbibmmofnkdaaGreat
namespace Go.Proofs.YtnnbibmmofnkdaaGreat
open Go.RowKit Go.Proofs WageMem WageReg WageRec WageSpan WageTop
/-- An absence meets a duty. -/
def overB (x : Du) (s : Sp) : Bool := decide (s.1 < x.b) && decide (x.a < s.2)
theorem meet_over {aw : List Sp} {x : Du} (hn : nrm aw = aw) (hx : durOk x = true) : meetB aw x = aw.any (overB x) := by
 have hN : Normal aw := hn ▸ nrm_normal aw
 have hd : 0 ≤ x.a ∧ x.a < x.b ∧ x.b ≤ 52596000 ∧ x.b - x.a ≤ 1440 ∧ 0 ≤ x.s ∧ x.s ≤ 65535 := of_decide_eq_true hx
 have hp : properB (x.a, x.b) = true := proper_iff.2 (by show _ ≤ x.a ∧ x.b ≤ _ ∧ x.a < x.b; omega)
 unfold meetB
 rw [Bool.eq_iff_iff]
 constructor
 ·intro h
  cases hm : meet aw [(x.a, x.b)] with
  | nil => rw [hm] at h; cases h
  | cons s l =>
   have h1 : Normal (s :: l) := hm ▸ meet_normal aw [(x.a, x.b)]
   have h2 : hasB (meet aw [(x.a, x.b)]) s.1 = true := by
    rw [hm]
    exact has_iff.2 ⟨s, List.mem_cons_self, in_iff.2 ⟨h1.head.1, by have := proper_iff.1 h1.head.1; omega⟩⟩
   rw [meet_has, Bool.and_eq_true] at h2
   obtain ⟨y, hy, hi⟩ := has_iff.1 h2.1
   obtain ⟨z, hz, hj⟩ := has_iff.1 h2.2
   rw [List.mem_singleton] at hz
   subst hz
   have a1 := in_iff.1 hi
   have a2 := in_iff.1 hj
   refine List.any_eq_true.2 ⟨y, hy, ?_⟩
   unfold overB
   rw [Bool.and_eq_true, decide_eq_true_eq, decide_eq_true_eq]
   have a3 : x.a ≤ s.1 ∧ s.1 < x.b := a2.2
   omega
 ·intro h
  obtain ⟨y, hy, hi⟩ := List.any_eq_true.1 h
  unfold overB at hi
  rw [Bool.and_eq_true, decide_eq_true_eq, decide_eq_true_eq] at hi
  have hpy := hN.1 y hy
  have b1 := proper_iff.1 hpy
  have h2 : hasB (meet aw [(x.a, x.b)]) (max y.1 x.a) = true := by
   rw [meet_has, Bool.and_eq_true]
   exact ⟨has_iff.2 ⟨y, hy, in_iff.2 ⟨hpy, by omega⟩⟩, has_iff.2 ⟨(x.a, x.b), List.mem_singleton.2 rfl, in_iff.2 ⟨hp, by show x.a ≤ _ ∧ _ < x.b; omega⟩⟩⟩
  cases hm : meet aw [(x.a, x.b)] with
  | nil => rw [hm, has_nil] at h2; cases h2
  | cons s l => rfl
/-- What unable asks of a duty. -/
def unB (p : Pl) (x : Wo) (d : Nat) : Bool := decide (andN (p.du d).s x.sk ≠ 0) || ((x.mi && decide (nightF p d ≠ 0)) || x.aw.any (overB (p.du d)))
theorem un_any {p : Pl} {x : Wo} {ds : List Nat} (hn : nrm x.aw = x.aw) (hd : ∀ d ∈ ds, durOk (p.du d) = true) : ds.any (unB p x) = (skV p x ds || ((x.mi && ngV p ds) || awV p x ds)) := by
 induction ds with
 | nil => simp [skV, ngV, awV]
 | cons d ds ih =>
  have h1 := ih (fun e he => hd e (List.mem_cons_of_mem _ he))
  have h2 := meet_over hn (hd d List.mem_cons_self)
  rw [List.any_cons, h1]
  unfold unB skV ngV awV
  simp only [List.any_cons]
  rw [h2]
  cases x.mi <;> simp only [Bool.true_and, Bool.false_and, Bool.false_or] <;> ac_rfl
end Go.Proofs.YtnnbibmmofnkdaaGreat
namespace Go.Proofs.YtnnbibmmofnkdaaGreat
open Go.RowKit Go.Proofs WageMem WageReg WageRec WageSpan WageTop
set_option maxRecDepth 100000 in
set_option maxHeartbeats 4000000 in
theorem unable146 {w : World} {cb : Nat} {p : Pl} {M N : Pc} {ps : List Pc} {x : Wo} {T : Option Addr} {tn tc : Nat} {ds : List Nat} {t : Bool} (h : RpAt w cb p M N ps) (hs : Spans w x.A x.n x.c x.aw) (hi : Ints w T tn tc (idxL ds)) (hle : tn ≤ 24) (hlt : ∀ d ∈ ds, d < p.dn) (ht : ds.any (unB p x) = t) :
  Calls Tryz.prog 146 #[.pointer (some ⟨cb, 0, none⟩), woV x, .slice T tn tc] w fun r w' => r = .returned (.bool t) ∧ Grew w w' := by
 obtain ⟨nm, sk, mi, wg, A, n, c, aw⟩ := x
 have HRP := Lib.hid h
 have HI := Lib.hid hi
 have HLT := Lib.hid hlt
 have HT := Lib.hid ht
 have HNL : Hid (ds.length = tn) := by unfold Hid; rw [← idxL_len]; exact hi.1
 have HAL : Hid (aw.length = n) := hs.1
 have hn9 : n ≤ 9223372036854775807 := hs.le
 have dn9 := h.fact.pl.ds.le
 have HSPw := Lib.hid hs
 clear h hs hi hlt ht
 show Calls Tryz.prog 146 #[.pointer (some ⟨cb, 0, none⟩), .agg #[.string nm, .int .i64 sk, .bool mi, .int .i64 wg, .slice A n c], .slice T tn tc] w _
 obtain ⟨w1, hw1⟩ : ∃ y, y = w.alloc (.cells #[.string nm, .int .i64 sk, .bool mi, .int .i64 wg, .slice A n c] 56) := ⟨_, rfl⟩
 obtain ⟨xb', hxb⟩ : ∃ z, z = w.heap.size := ⟨_, rfl⟩
 have HRW : Hid (Grew w w1) := by unfold Hid; rw [hw1]; exact (Grew.refl w).alloc _
 have HXB0 : Hid (Blk w1 xb' 56 [.string nm, .int .i64 sk, .bool mi, .int .i64 wg, .slice A n c]) := by unfold Hid; rw [hw1, hxb]; exact Blk.new w 56 [.string nm, .int .i64 sk, .bool mi, .int .i64 wg, .slice A n c]
 go_enter Tryz.func146, Tryz.ntmps146
 go_upto_region 1 with (fail)
 rw [← hw1, ← hxb]
 clear hw1 hxb
 have HG1 := HRW
 clear HRW
 go_wp2_with fail
 go_loopw [14] (fun i y => ∃ k : Nat, k ≤ tn ∧ i = .int .i64 k ∧ Hid ((ds.drop k).any (unB p ⟨nm, sk, mi, wg, A, n, c, aw⟩) = t) ∧ Hid (Grew w1 y)) (fun i _ => tn - (intOf i).toNat)
 case atStart => exact ⟨0, Nat.zero_le _, rfl, HT.out, Grew.refl _⟩
 case round =>
  obtain ⟨k, hk, rfl, HZ, HRW1⟩ := hrel
  by_cases hlt : k < tn
  ·have HRW := Lib.hid (HG1.out.trans HRW1.out)
   have HXB := Lib.hid (HXB0.out.grew HRW1.out)
   have HSP := Lib.hid (HSPw.out.grew HRW.out)
   obtain ⟨b, o, hA, hc⟩ := (HI.out.grew HRW.out).at_ (by omega)
   obtain ⟨d, hd⟩ : ∃ d, ds[k]? = some d := ⟨_, List.getElem?_eq_getElem (by rw [HNL.out]; exact hlt)⟩
   have c0 := hc k _ (idxL_at hd)
   have hdn := HLT.out d (List.mem_of_getElem? hd)
   have hrp := HRP.out.grew HRW.out
   obtain ⟨bd, od, yd, hDa, hyd, ⟨d0, d1, d2⟩, _⟩ := hrp.fact.pl.ds.at_ hdn
   have hNn : N.n = p.dn := by have h1 := hrp.fact.night.1; unfold nightL at h1; rw [List.length_map, hrp.fact.pl.ds.len] at h1; exact h1.symm
   obtain ⟨bn, on, hNa, hnc⟩ := hrp.fact.night.at_ (by omega)
   have n0 := hnc d (winT p.z yd.a yd.b p.lm.nf p.lm.nt) (by unfold nightL; rw [List.getElem?_map, hyd]; rfl)
   have cD : wr.cell? ⟨cb, 3, none⟩ = some (.slice (some ⟨bd, od, none⟩) p.dn p.dc) := by rw [← hDa]; exact hrp.cells 3 _ rfl
   have cN : wr.cell? ⟨cb, 11, none⟩ = some (.slice (some ⟨bn, on, none⟩) p.dn N.c) := by rw [← hNa, ← hNn]; exact hrp.cells 11 _ rfl
   have HU0 : Hid ((unB p ⟨nm, sk, mi, wg, A, n, c, aw⟩ d || (ds.drop (k + 1)).any (unB p ⟨nm, sk, mi, wg, A, n, c, aw⟩)) = t) := by
    have h1 := HZ.out
    rw [drop_at' hd, List.any_cons] at h1
    exact h1
   have HYD : Hid (p.du d = yd) := du_at hyd
   obtain ⟨nz, hnz⟩ : ∃ z, winT p.z yd.a yd.b p.lm.nf p.lm.nt = z := ⟨_, rfl⟩
   have HNF : Hid (nightF p d = nz) := by unfold Hid nightF; rw [HYD.out, hnz]
   rw [hnz] at n0
   obtain ⟨xa, xb, xs⟩ := yd
   simp only at d0 d1 d2
   obtain ⟨t1, ht1⟩ : ∃ t, (andN xs sk != 0) = t := ⟨_, rfl⟩
   obtain ⟨t2, ht2⟩ : ∃ t, (nz != 0) = t := ⟨_, rfl⟩
   have HU : Hid (((t1 || ((mi && t2) || aw.any (overB ⟨xa, xb, xs⟩))) || (ds.drop (k + 1)).any (unB p ⟨nm, sk, mi, wg, A, n, c, aw⟩)) = t) := by
    have h1 := HU0.out
    unfold Hid
    rw [← h1, ← ht1, ← ht2]
    congr 1
    unfold unB
    rw [HYD.out, HNF.out]
    congr 1
    ·by_cases hz : andN xs sk = 0 <;> simp [hz]
    ·congr 2
     by_cases hz : nz = 0 <;> simp [hz]
   unfold andN at ht1
   have e1 : (0 : Int) ≤ (k : Int) := by omega
   have e2 : (k : Int) < (tn : Int) := by omega
   have e3 : (0 : Int) ≤ (d : Int) := by omega
   have e4 : (d : Int) < (p.dn : Int) := by omega
   subst hA
   clear hc hd hdn hrp hyd hNn hnc hNa hDa hnz HU0 HZ
   obtain ⟨wb, hwb⟩ : ∃ y, y = wr.alloc (.cells #[.int .i64 xa, .int .i64 xb, .int .i64 xs] 47) := ⟨_, rfl⟩
   obtain ⟨ba, hba⟩ : ∃ z, z = wr.heap.size := ⟨_, rfl⟩
   have HBA : Hid (Blk wb ba 47 [.int .i64 xa, .int .i64 xb, .int .i64 xs]) := by unfold Hid; rw [hwb, hba]; exact Blk.new wr 47 [.int .i64 xa, .int .i64 xb, .int .i64 xs]
   have HRb : Hid (Grew wr wb) := by unfold Hid; rw [hwb]; exact (Grew.refl wr).alloc _
   go_upto_region 5 with (fail)
   rw [← hwb, ← hba]
   clear hwb hba c0 d0 d1 d2 cD
   have y2 : wb.cell? ⟨ba, 2, none⟩ = some (.int .i64 xs) := HBA.out.cell rfl
   have x1 : wb.cell? ⟨xb', 1, none⟩ = some (.int .i64 sk) := (HXB.out.grew HRb.out).cell rfl
   have x2 : wb.cell? ⟨xb', 2, none⟩ = some (.bool mi) := (HXB.out.grew HRb.out).cell rfl
   replace cN := HRb.out.cell cN
   replace n0 := HRb.out.cell n0
   cases t1 with
   | true =>
    have hz : ¬ (IntKind.i64.wrap ((BitVec.ofInt 64 xs &&& ~~~BitVec.ofInt 64 sk).toNat : Int) = 0) := by simpa using ht1
    clear ht1
    have HF : Hid (true = t) := by unfold Hid; have := HU.out; simpa using this
    go_wp2
    go_ret
    exact ⟨congrArg (fun b => Ending.returned (Value.bool b)) HF.out, HRW.out.trans HRb.out⟩
   | false =>
    have hz : IntKind.i64.wrap ((BitVec.ofInt 64 xs &&& ~~~BitVec.ofInt 64 sk).toNat : Int) = 0 := by simpa using ht1
    clear ht1
    cases mi with
    | false =>
     have u4 : wb.cell? ⟨xb', 4, none⟩ = some (.slice A n c) := (HXB.out.grew HRb.out).cell rfl
     have HIN : Hid ((aw.any (overB ⟨xa, xb, xs⟩) || (ds.drop (k + 1)).any (unB p ⟨nm, sk, false, wg, A, n, c, aw⟩)) = t) := by unfold Hid; have := HU.out; simpa using this
     clear HU
     go_wp2_with fail
     clear u4 y2 x1 x2 cN n0
     go_loopw [49] (fun i y => ∃ j : Nat, j ≤ n ∧ i = .int .i64 j ∧ Hid (((aw.drop j).any (overB ⟨xa, xb, xs⟩) || (ds.drop (k + 1)).any (unB p ⟨nm, sk, false, wg, A, n, c, aw⟩)) = t) ∧ Hid (Grew wb y)) (fun i _ => n - (intOf i).toNat)
     case atStart => exact ⟨0, Nat.zero_le _, rfl, HIN.out, Grew.refl _⟩
     case round =>
      clear HIN
      obtain ⟨j, hj, rfl, HK, HRi⟩ := hrel
      by_cases hlj : j < n
      ·obtain ⟨b9, o9, s, hA, hsk, r1, r2, l1, l2⟩ := (HSP.out.grew (HRb.out.trans HRi.out)).at_ hlj
       subst hA
       have HKx : Hid ((overB ⟨xa, xb, xs⟩ s || ((aw.drop (j + 1)).any (overB ⟨xa, xb, xs⟩) || (ds.drop (k + 1)).any (unB p ⟨nm, sk, false, wg, some ⟨b9, o9, none⟩, n, c, aw⟩))) = t) := by
        have := HK.out
        rw [drop_at' hsk, List.any_cons, Bool.or_assoc] at this
        exact this
       obtain ⟨s1, s2⟩ := s
       simp only at r1 r2 l1 l2
       have e1 : (0 : Int) ≤ (j : Int) := by omega
       have e2 : (j : Int) < (n : Int) := by omega
       clear HK hsk
       obtain ⟨w5, hw5⟩ : ∃ y, y = wr.alloc (.cells #[.int .i64 s1, .int .i64 s2] 28) := ⟨_, rfl⟩
       obtain ⟨ab, hab⟩ : ∃ z, z = wr.heap.size := ⟨_, rfl⟩
       have HB5 : Hid (Blk w5 ab 28 [.int .i64 s1, .int .i64 s2]) := by unfold Hid; rw [hw5, hab]; exact Blk.new wr 28 [.int .i64 s1, .int .i64 s2]
       have HR5 : Hid (Grew wb w5) := by unfold Hid; rw [hw5]; exact HRi.out.alloc _
       go_upto_region 10 with (fail)
       rw [← hw5, ← hab]
       have d0 : w5.cell? ⟨ab, 0, none⟩ = some (.int .i64 s1) := HB5.out.cell rfl
       have d1 : w5.cell? ⟨ab, 1, none⟩ = some (.int .i64 s2) := HB5.out.cell rfl
       have y0 : w5.cell? ⟨ba, 0, none⟩ = some (.int .i64 xa) := (HBA.out.grew HR5.out).cell rfl
       have y1 : w5.cell? ⟨ba, 1, none⟩ = some (.int .i64 xb) := (HBA.out.grew HR5.out).cell rfl
       clear hw5 hab HRi r1 r2
       by_cases h0 : s1 < xb
       ·have z0 : decide (s1 < xb) = true := decide_eq_true h0
        by_cases h1 : xa < s2
        ·have z1 : decide (xa < s2) = true := decide_eq_true h1
         have HF : Hid (true = t) := by unfold Hid; rw [← HKx.out]; unfold overB; rw [z0, z1]; rfl
         go_wp2
         go_ret
         exact ⟨congrArg (fun b => Ending.returned (Value.bool b)) HF.out, HRW.out.trans (HRb.out.trans HR5.out)⟩
        ·have z1 : decide (xa < s2) = false := decide_eq_false h1
         have HF : Hid (((aw.drop (j + 1)).any (overB ⟨xa, xb, xs⟩) || (ds.drop (k + 1)).any (unB p ⟨nm, sk, false, wg, some ⟨b9, o9, none⟩, n, c, aw⟩)) = t) := by
          have h1 := HKx.out
          rw [show overB ⟨xa, xb, xs⟩ (s1, s2) = false from (show (decide (s1 < xb) && decide (xa < s2)) = false by rw [z1, Bool.and_false])] at h1
          exact h1
         clear HKx
         go_wp2_with fail
         go_roundw
         case rel => exact ⟨j + 1, by omega, by go_num, HF, HR5⟩
         case measure => simp [intOf]; omega
       ·have z0 : decide (s1 < xb) = false := decide_eq_false h0
        have HF : Hid (((aw.drop (j + 1)).any (overB ⟨xa, xb, xs⟩) || (ds.drop (k + 1)).any (unB p ⟨nm, sk, false, wg, some ⟨b9, o9, none⟩, n, c, aw⟩)) = t) := by
         have h1 := HKx.out
         rw [show overB ⟨xa, xb, xs⟩ (s1, s2) = false from (show (decide (s1 < xb) && decide (xa < s2)) = false by rw [z0, Bool.false_and])] at h1
         exact h1
        clear HKx
        go_wp2_with fail
        go_roundw
        case rel => exact ⟨j + 1, by omega, by go_num, HF, HR5⟩
        case measure => simp [intOf]; omega
      ·obtain rfl : n = j := by omega
       have HF : Hid ((ds.drop (k + 1)).any (unB p ⟨nm, sk, false, wg, A, n, c, aw⟩) = t) := by
        have := HK.out
        rw [← HAL.out, List.drop_length] at this
        rw [HAL.out] at this
        exact this
       have HR6 := Lib.hid (HRW1.out.trans (HRb.out.trans HRi.out))
       clear HK HRi
       go_wp2_with fail
       go_roundw
       case rel => exact ⟨k + 1, by omega, by go_num, HF, HR6⟩
       case measure => simp [intOf]; omega
    | true =>
     cases t2 with
     | true =>
      have HF : Hid (true = t) := by unfold Hid; have := HU.out; simpa using this
      go_wp2
      go_ret
      exact ⟨congrArg (fun b => Ending.returned (Value.bool b)) HF.out, HRW.out.trans HRb.out⟩
     | false =>
      have u4 : wb.cell? ⟨xb', 4, none⟩ = some (.slice A n c) := (HXB.out.grew HRb.out).cell rfl
      have HIN : Hid ((aw.any (overB ⟨xa, xb, xs⟩) || (ds.drop (k + 1)).any (unB p ⟨nm, sk, true, wg, A, n, c, aw⟩)) = t) := by unfold Hid; have := HU.out; simpa using this
      clear HU
      go_wp2_with fail
      clear u4 y2 x1 x2 cN n0
      go_loopw [49] (fun i y => ∃ j : Nat, j ≤ n ∧ i = .int .i64 j ∧ Hid (((aw.drop j).any (overB ⟨xa, xb, xs⟩) || (ds.drop (k + 1)).any (unB p ⟨nm, sk, true, wg, A, n, c, aw⟩)) = t) ∧ Hid (Grew wb y)) (fun i _ => n - (intOf i).toNat)
      case atStart => exact ⟨0, Nat.zero_le _, rfl, HIN.out, Grew.refl _⟩
      case round =>
       clear HIN
       obtain ⟨j, hj, rfl, HK, HRi⟩ := hrel
       by_cases hlj : j < n
       ·obtain ⟨b9, o9, s, hA, hsk, r1, r2, l1, l2⟩ := (HSP.out.grew (HRb.out.trans HRi.out)).at_ hlj
        subst hA
        have HKx : Hid ((overB ⟨xa, xb, xs⟩ s || ((aw.drop (j + 1)).any (overB ⟨xa, xb, xs⟩) || (ds.drop (k + 1)).any (unB p ⟨nm, sk, true, wg, some ⟨b9, o9, none⟩, n, c, aw⟩))) = t) := by
         have := HK.out
         rw [drop_at' hsk, List.any_cons, Bool.or_assoc] at this
         exact this
        obtain ⟨s1, s2⟩ := s
        simp only at r1 r2 l1 l2
        have e1 : (0 : Int) ≤ (j : Int) := by omega
        have e2 : (j : Int) < (n : Int) := by omega
        clear HK hsk
        obtain ⟨w5, hw5⟩ : ∃ y, y = wr.alloc (.cells #[.int .i64 s1, .int .i64 s2] 28) := ⟨_, rfl⟩
        obtain ⟨ab, hab⟩ : ∃ z, z = wr.heap.size := ⟨_, rfl⟩
        have HB5 : Hid (Blk w5 ab 28 [.int .i64 s1, .int .i64 s2]) := by unfold Hid; rw [hw5, hab]; exact Blk.new wr 28 [.int .i64 s1, .int .i64 s2]
        have HR5 : Hid (Grew wb w5) := by unfold Hid; rw [hw5]; exact HRi.out.alloc _
        go_upto_region 10 with (fail)
        rw [← hw5, ← hab]
        have d0 : w5.cell? ⟨ab, 0, none⟩ = some (.int .i64 s1) := HB5.out.cell rfl
        have d1 : w5.cell? ⟨ab, 1, none⟩ = some (.int .i64 s2) := HB5.out.cell rfl
        have y0 : w5.cell? ⟨ba, 0, none⟩ = some (.int .i64 xa) := (HBA.out.grew HR5.out).cell rfl
        have y1 : w5.cell? ⟨ba, 1, none⟩ = some (.int .i64 xb) := (HBA.out.grew HR5.out).cell rfl
        clear hw5 hab HRi r1 r2
        by_cases h0 : s1 < xb
        ·have z0 : decide (s1 < xb) = true := decide_eq_true h0
         by_cases h1 : xa < s2
         ·have z1 : decide (xa < s2) = true := decide_eq_true h1
          have HF : Hid (true = t) := by unfold Hid; rw [← HKx.out]; unfold overB; rw [z0, z1]; rfl
          go_wp2
          go_ret
          exact ⟨congrArg (fun b => Ending.returned (Value.bool b)) HF.out, HRW.out.trans (HRb.out.trans HR5.out)⟩
         ·have z1 : decide (xa < s2) = false := decide_eq_false h1
          have HF : Hid (((aw.drop (j + 1)).any (overB ⟨xa, xb, xs⟩) || (ds.drop (k + 1)).any (unB p ⟨nm, sk, true, wg, some ⟨b9, o9, none⟩, n, c, aw⟩)) = t) := by
           have h1 := HKx.out
           rw [show overB ⟨xa, xb, xs⟩ (s1, s2) = false from (show (decide (s1 < xb) && decide (xa < s2)) = false by rw [z1, Bool.and_false])] at h1
           exact h1
          clear HKx
          go_wp2_with fail
          go_roundw
          case rel => exact ⟨j + 1, by omega, by go_num, HF, HR5⟩
          case measure => simp [intOf]; omega
        ·have z0 : decide (s1 < xb) = false := decide_eq_false h0
         have HF : Hid (((aw.drop (j + 1)).any (overB ⟨xa, xb, xs⟩) || (ds.drop (k + 1)).any (unB p ⟨nm, sk, true, wg, some ⟨b9, o9, none⟩, n, c, aw⟩)) = t) := by
          have h1 := HKx.out
          rw [show overB ⟨xa, xb, xs⟩ (s1, s2) = false from (show (decide (s1 < xb) && decide (xa < s2)) = false by rw [z0, Bool.false_and])] at h1
          exact h1
         clear HKx
         go_wp2_with fail
         go_roundw
         case rel => exact ⟨j + 1, by omega, by go_num, HF, HR5⟩
         case measure => simp [intOf]; omega
       ·obtain rfl : n = j := by omega
        have HF : Hid ((ds.drop (k + 1)).any (unB p ⟨nm, sk, true, wg, A, n, c, aw⟩) = t) := by
         have := HK.out
         rw [← HAL.out, List.drop_length] at this
         rw [HAL.out] at this
         exact this
        have HR6 := Lib.hid (HRW1.out.trans (HRb.out.trans HRi.out))
        clear HK HRi
        go_wp2_with fail
        go_roundw
        case rel => exact ⟨k + 1, by omega, by go_num, HF, HR6⟩
        case measure => simp [intOf]; omega
  ·obtain rfl : tn = k := by omega
   have HF : Hid (false = t) := by
    have h1 := HZ.out
    rw [← HNL.out, List.drop_length] at h1
    exact h1
   go_wp2
   go_ret
   exact ⟨congrArg (fun b => Ending.returned (Value.bool b)) HF.out, HG1.out.trans HRW1.out⟩
end Go.Proofs.YtnnbibmmofnkdaaGreat
namespace Go.Proofs.YtnnbibmmofnkdaaGreat
open Go.RowKit Go.Proofs WageMem WageReg WageRec WageSpan WageTop
/-- What overworked asks of a day's minutes. -/
def owB (p : Pl) (x : Wo) (m : List (Int × Int)) (q : Int × Int) : Bool := (x.mi && decide (p.lm.mn < q.2)) || decide (p.lm.week < weekS m q.1 7)
theorem ow_any {p : Pl} {x : Wo} {ds : List Nat} : (dayM p ds).any (owB p x (dayM p ds)) = (wkV p ds || (x.mi && mnV p ds)) := by
 unfold wkV mnV
 obtain ⟨m, hm⟩ : ∃ m, dayM p ds = m := ⟨_, rfl⟩
 rw [hm]
 have : ∀ l : List (Int × Int), l.any (owB p x m) = (l.any (fun q => decide (p.lm.week < weekS m q.1 7)) || (x.mi && l.any (fun q => decide (p.lm.mn < q.2)))) := fun l => by
  induction l with
  | nil => simp
  | cons a l ih =>
   rw [List.any_cons, ih]
   unfold owB
   simp only [List.any_cons]
   cases x.mi <;> simp only [Bool.true_and, Bool.false_and, Bool.false_or, Bool.or_false] <;> ac_rfl
 exact this m
theorem viol_parts {p : Pl} {x : Wo} {ds : List Nat} (hn : nrm x.aw = x.aw) (hd : ∀ d ∈ ds, durOk (p.du d) = true) : violW p x ds = (ds.any (unB p x) || (rsV p ds || (dayM p ds).any (owB p x (dayM p ds)))) := by
 rw [un_any hn hd, ow_any]
 show ([0, 1, 2, 3, 4, 5] : List Nat).any (kindV p x ds) = _
 simp only [List.any_cons, List.any_nil, kindV]
 cases x.mi <;> simp only [Bool.true_and, Bool.false_and, Bool.false_or, Bool.or_false] <;> ac_rfl
end Go.Proofs.YtnnbibmmofnkdaaGreat
namespace Go.Proofs.YtnnbibmmofnkdaaGreat
open Go.RowKit Go.Proofs WageMem WageReg WageRec WageSpan WageTop
open WageMap
theorem rp_min {w : World} {cb : Nat} {p : Pl} {M N : Pc} {ps : List Pc} (h : RpAt w cb p M N ps) {d : Nat} (hd : d < p.dn) :
  ∃ (b o : Nat) (q : Pc), w.cell? ⟨cb, 10, none⟩ = some (.slice (some ⟨b, o, none⟩) M.n M.c) ∧ d < M.n ∧ M.n ≤ 9223372036854775807 ∧ w.cell? ⟨b, o + d, none⟩ = some (.slice q.A q.n q.c) ∧ Spans w q.A q.n q.c (minsF p d) := by
 have hlt : d < p.ds.length := by rw [h.fact.pl.ds.len]; exact hd
 have hn := h.fact.Mn
 obtain ⟨b, o, q, hA, hq, hr⟩ := h.fact.mins.at_ encP_ok (show d < M.n by omega)
 have hb := h.fact.minE.2 d q (minsF p d) hq (by unfold minsL minsF; rw [List.getElem?_map, List.getElem?_eq_getElem hlt, du_at (List.getElem?_eq_getElem hlt)]; rfl)
 have h0 := hr 0 _ rfl
 rw [Nat.mul_one] at h0
 exact ⟨b, o, q, by rw [← hA]; exact h.cells 10 _ rfl, by omega, h.fact.mins.le, h0, hb⟩
theorem any_erase {α : Type} (f : α → Bool) {l : List α} {i : Nat} {x : α} (h : l[i]? = some x) : l.any f = (f x || (l.eraseIdx i).any f) := by
 rw [← (erase_perm h).any_eq, List.any_cons]
set_option maxRecDepth 100000 in
set_option maxHeartbeats 16000000 in
theorem over148 {w : World} {cb : Nat} {p : Pl} {M N : Pc} {ps : List Pc} {x : Wo} {T : Option Addr} {tn tc : Nat} {ds : List Nat} {t : Bool} (h : RpAt w cb p M N ps) (hi : Ints w T tn tc (idxL ds)) (hle : tn ≤ 24) (hlt : ∀ d ∈ ds, d < p.dn) (ht : (dayM p ds).any (owB p x (dayM p ds)) = t) :
  Calls Tryz.prog 148 #[.pointer (some ⟨cb, 0, none⟩), woV x, .slice T tn tc] w fun r w' => r = .returned (.bool t) ∧ Grew w w' := by
 obtain ⟨nm, sk, mi, wg, A, n, c, aw⟩ := x
 have HRP := Lib.hid h
 have HI := Lib.hid hi
 have HLT := Lib.hid hlt
 have HT := Lib.hid ht
 have HNL : Hid (ds.length = tn) := by unfold Hid; rw [← idxL_len]; exact hi.1
 have dn9 := h.fact.pl.ds.le
 clear h hi hlt ht
 show Calls Tryz.prog 148 #[.pointer (some ⟨cb, 0, none⟩), .agg #[.string nm, .int .i64 sk, .bool mi, .int .i64 wg, .slice A n c], .slice T tn tc] w _
 obtain ⟨w1, hw1⟩ : ∃ y, y = w.alloc (.cells #[.string nm, .int .i64 sk, .bool mi, .int .i64 wg, .slice A n c] 56) := ⟨_, rfl⟩
 obtain ⟨xb', hxb⟩ : ∃ z, z = w.heap.size := ⟨_, rfl⟩
 have g1 : Grew w w1 := by rw [hw1]; exact (Grew.refl w).alloc _
 have HX1 : Hid (Blk w1 xb' 56 [.string nm, .int .i64 sk, .bool mi, .int .i64 wg, .slice A n c]) := by unfold Hid; rw [hw1, hxb]; exact Blk.new w 56 [.string nm, .int .i64 sk, .bool mi, .int .i64 wg, .slice A n c]
 have hsz1 : w1.heap.size = xb' + 1 := by rw [hw1, hxb]; simp
 obtain ⟨b1, hb1⟩ : ∃ z, z = xb' + 1 := ⟨_, rfl⟩
 obtain ⟨w3, hw3⟩ : ∃ y, y = w1.alloc (.map #[] 0) := ⟨_, rfl⟩
 have g3 : Grew w1 w3 := by rw [hw3]; exact (Grew.refl w1).alloc _
 have HM1 : Hid (MapIs zk zk w3 b1 ([] : List (Int × Int))) := by unfold Hid; rw [hw3, hb1, ← hsz1]; exact MapIs.made w1
 have HXB : Hid (xb' ≠ b1) := by unfold Hid; omega
 have HB1 : Hid (w.heap.size ≤ b1) := by unfold Hid; rw [hb1, ← hsz1]; exact g1.le
 have hmm := @run_makeMap Tryz.prog
 go_enter Tryz.func148, Tryz.ntmps148
 go_upto_region 2 with (fail)
 rw [← hw1, ← hxb, ← hw3, ← hb1]
 have G3 := g1.trans g3
 have HX3 := Lib.hid (HX1.out.grew g3)
 clear hmm hw1 hxb hw3 hb1 hsz1 g1 g3 HX1
 go_wp2_with fail
 go_loopw [19] (fun i y => ∃ k : Nat, k ≤ tn ∧ i = .int .i64 k ∧ Hid (MapIs zk zk y b1 (cntM ((ds.take k).flatMap (minsF p)))) ∧ Hid (Blk y xb' 56 [.string nm, .int .i64 sk, .bool mi, .int .i64 wg, .slice A n c]) ∧ Hid (Grew w y)) (fun i _ => tn - (intOf i).toNat)
 case atStart => exact ⟨0, Nat.zero_le _, rfl, HM1.out, HX3.out, G3⟩
 case round =>
  clear HM1 HX3 G3
  obtain ⟨k, hk, rfl, HM1, HXX, HR⟩ := hrel
  by_cases hlt : k < tn
  ·obtain ⟨bb, oo, hA, hcc⟩ := (HI.out.grew HR.out).at_ (by omega)
   obtain ⟨d, hd⟩ : ∃ d, ds[k]? = some d := ⟨_, List.getElem?_eq_getElem (by rw [HNL.out]; exact hlt)⟩
   have c0 := hcc k _ (idxL_at hd)
   have hdn := HLT.out d (List.mem_of_getElem? hd)
   obtain ⟨bm, om, q, c10, hq1, hq2, cq, hsp⟩ := rp_min HRP.out hdn
   have hdur := durOk_of HRP.out.ok HRP.out.fact.pl hdn
   have HPL : Hid ((minsF p d).length ≤ 1440) := by
    unfold dOk durOk at hdur
    simp only [Bool.and_eq_true, decide_eq_true_eq] at hdur
    have h1 := splitL_len p.z (p.du d).a (p.du d).b (by omega)
    show (minsF p d).length ≤ 1440
    unfold minsF
    omega
   have HTK1 : Hid ((ds.take (k + 1)).flatMap (minsF p) = (ds.take k).flatMap (minsF p) ++ minsF p d) := by
    unfold Hid; rw [List.take_add_one, hd, Option.toList, List.flatMap_append, List.flatMap_singleton]
   obtain ⟨qA, qn, qc⟩ := q
   simp only at cq
   have HSPq : Hid (Spans w qA qn qc (minsF p d)) := hsp
   have hqn : qn ≤ 1440 := by have := HSPq.out.1; have := HPL.out; omega
   obtain ⟨pl, hpl⟩ : ∃ l, minsF p d = l := ⟨_, rfl⟩
   rw [hpl] at HSPq HTK1
   obtain ⟨pre, hpre⟩ : ∃ l, (ds.take k).flatMap (minsF p) = l := ⟨_, rfl⟩
   rw [hpre] at HM1 HTK1
   have e1 : (0 : Int) ≤ (k : Int) := by omega
   have e2 : (k : Int) < (tn : Int) := by omega
   have e3 : (0 : Int) ≤ (d : Int) := by omega
   have e4 : (d : Int) < (M.n : Int) := by omega
   replace c10 := HR.out.cell c10
   replace cq := HR.out.cell cq
   subst hA
   clear hcc hd hsp hdur hpl hpre hdn
   go_upto_region 5 with (fail)
   clear c0
   go_wp2_with fail
   clear c10 cq
   go_loopw [31] (fun i y => ∃ j : Nat, j ≤ qn ∧ i = .int .i64 j ∧ Hid (MapIs zk zk y b1 (cntM (pre ++ pl.take j))) ∧ Hid (Blk y xb' 56 [.string nm, .int .i64 sk, .bool mi, .int .i64 wg, .slice A n c]) ∧ Hid (Grew w y)) (fun i _ => qn - (intOf i).toNat)
   case atStart => exact ⟨0, Nat.zero_le _, rfl, by unfold Hid; rw [List.take_zero, List.append_nil]; exact HM1.out, HXX.out, HR.out⟩
   case round =>
    clear HM1 HXX HR
    obtain ⟨j, hj, rfl, HM1, HXX, HR⟩ := hrel
    by_cases hlj : j < qn
    ·obtain ⟨b', o', y, hA', hy, d0, d1, l1, l2⟩ := (HSPq.out.grew HR.out).at_ hlj
     have HTJ : Hid (pl.take (j + 1) = pl.take j ++ [y]) := by unfold Hid; rw [List.take_add_one, hy]; rfl
     obtain ⟨da, mn'⟩ := y
     simp only at d0 d1 l1 l2
     subst hA'
     clear hy
     have f1 : (0 : Int) ≤ (j : Int) := by omega
     have f2 : (j : Int) < (qn : Int) := by omega
     obtain ⟨wa, hwa⟩ : ∃ y, y = wr.alloc (.cells #[.int .i64 da, .int .i64 mn'] 49) := ⟨_, rfl⟩
     obtain ⟨ba, hba⟩ : ∃ z, z = wr.heap.size := ⟨_, rfl⟩
     have HBA : Hid (Blk wa ba 49 [.int .i64 da, .int .i64 mn']) := by unfold Hid; rw [hwa, hba]; exact Blk.new wr 49 [.int .i64 da, .int .i64 mn']
     have ga : Grew wr wa := by rw [hwa]; exact (Grew.refl wr).alloc _
     go_upto_region 8 with (fail)
     rw [← hwa, ← hba]
     have HM1a := Lib.hid (HM1.out.grew ga)
     have HXXa := Lib.hid (HXX.out.grew ga)
     have HRa := Lib.hid (HR.out.trans ga)
     clear hwa hba d0 d1 HM1 HXX HR ga
     obtain ⟨V, hV⟩ : ∃ V, (alFind da (cntM (pre ++ pl.take j))).getD 0 = V := ⟨_, rfl⟩
     have hlk := HM1a.out.lookup key3 map179 (zero3 _) da false
     simp only [Bool.false_eq_true, if_false] at hlk
     rw [show ((alFind da (cntM (pre ++ pl.take j))).map zk).getD (.int .i64 0) = .int .i64 V by rw [← hV]; cases alFind da (cntM (pre ++ pl.take j)) <;> rfl] at hlk
     replace hlk : (Instr.lookup 179 (.map (some b1)) (.int .i64 da) false).run Tryz.prog wa = .ok (.int .i64 V) wa := hlk
     obtain ⟨wu, up, M2, gb⟩ := HM1a.out.update key3 map179 da (wrap64 (V + mn'))
     have HCM : Hid (alPut da (wrap64 (V + mn')) (cntM (pre ++ pl.take j)) = cntM (pre ++ pl.take (j + 1))) := by
      unfold Hid
      rw [HTJ.out, ← List.append_assoc, show cntM (pre ++ pl.take j ++ [(da, mn')]) = putC (cntM (pre ++ pl.take j)) (da, mn') by unfold cntM; rw [List.foldl_append]; rfl]
      unfold putC
      simp only
      rw [hV]
     rw [HCM.out] at M2
     have HM1u := Lib.hid M2
     replace up : (Instr.mapUpdate 179 (.map (some b1)) (.int .i64 da) (.int .i64 (wrap64 (V + mn')))).run Tryz.prog wa = .ok () wu := up
     have HXXu := Lib.hid (HXXa.out.kept gb (fun e => HXB.out (by injection e)))
     have HRu := Lib.hid (HRa.out.grown gb (fun q hq => by injection hq with hq; have := HB1.out; omega))
     have u0 : wa.cell? ⟨ba, 0, none⟩ = some (.int .i64 da) := HBA.out.cell rfl
     have u1 : wa.cell? ⟨ba, 1, none⟩ = some (.int .i64 mn') := HBA.out.cell rfl
     clear hV M2 gb HM1a HXXa HRa
     go_wp2_with fail
     go_roundw
     case rel => exact ⟨j + 1, by omega, by go_num, HM1u, HXXu, HRu⟩
     case measure => simp [intOf]; omega
    ·obtain rfl : qn = j := by omega
     have HPLq : Hid (pl.take qn = pl) := by unfold Hid; rw [← HSPq.out.1, List.take_length]
     have HM1' : Hid (MapIs zk zk wr b1 (cntM ((ds.take (k + 1)).flatMap (minsF p)))) := by unfold Hid; rw [HTK1.out, ← HPLq.out]; exact HM1.out
     clear HM1
     go_wp2_with fail
     go_roundw
     case rel => exact ⟨k + 1, by omega, by go_num, HM1', HXX, HR⟩
     case measure => simp [intOf]; omega
  ·obtain rfl : tn = k := by omega
   have HMP : Hid (MapIs zk zk wr b1 (dayM p ds)) := by have := HM1.out; rw [← HNL.out, List.take_length] at this; exact this
   obtain ⟨Ml, hMl⟩ : ∃ l, dayM p ds = l := ⟨_, rfl⟩
   rw [hMl] at HMP HT
   obtain ⟨wl, rn, IT, gl⟩ := HMP.out.range (P := Tryz.prog) map179
   obtain ⟨rr, hrr⟩ : ∃ r, r = wr.heap.size := ⟨_, rfl⟩
   rw [← hrr] at rn IT
   have ITH := Lib.hid IT
   have HXR : Hid (xb' ≠ rr) := by unfold Hid; have h1 := HXX.out.lt; omega
   have hrw : w.heap.size ≤ rr := by rw [hrr]; exact HR.out.le
   have HBl := Lib.hid (HXX.out.grew gl)
   have gg := HR.out.trans gl
   clear HM1 HMP IT gl hrr HXX HR hMl
   go_wp2_with fail
   clear rn
   go_loopw [6] (fun v y => ∃ rest : List (Int × Int), v = .bool false ∧ Hid (rest.any (owB p ⟨nm, sk, mi, wg, A, n, c, aw⟩ Ml) = t) ∧ Hid (IterIs zk zk y rr b1 Ml rest) ∧ Hid (Blk y xb' 56 [.string nm, .int .i64 sk, .bool mi, .int .i64 wg, .slice A n c]) ∧ Grew w y) (fun _ y => iterLeft y b1 rr)
   case atStart => exact ⟨Ml, rfl, HT.out, ITH.out, HBl.out, gg⟩
   case round =>
    clear ITH HBl gg
    obtain ⟨w9, rfl⟩ : ∃ wi : World, wi = wr := ⟨_, rfl⟩
    obtain ⟨rest, rfl, HSR, IT, HB, hg⟩ := hrel
    rcases IT.out.next (P := Tryz.prog) 0 with ⟨hnil, hnx⟩ | ⟨i, y, wn, hy, hnx, IT2, gn, hen⟩
    ·subst hnil
     have HF : Hid (false = t) := HSR.out
     go_wp2_with fail
     go_ret
     exact ⟨congrArg (fun b => Ending.returned (Value.bool b)) HF.out, hg⟩
    ·have HANY : Hid ((owB p ⟨nm, sk, mi, wg, A, n, c, aw⟩ Ml y || (rest.eraseIdx i).any (owB p ⟨nm, sk, mi, wg, A, n, c, aw⟩ Ml)) = t) := by unfold Hid; rw [← any_erase _ hy]; exact HSR.out
     obtain ⟨d, ct⟩ := y
     simp only at hnx hen
     replace hnx : (Instr.next (.pointer (some ⟨rr, 0, none⟩)) false 0).run Tryz.prog w9 = .ok (.tuple #[.bool true, .int .i64 d, .int .i64 ct]) wn := hnx
     replace hen : (Instr.entry (.pointer (some ⟨rr, 0, none⟩))).run Tryz.prog wn = .ok (.tuple #[.int .i64 d, .int .i64 ct]) wn := hen
     have gW : Grew w wn := hg.grown gn (fun y hy => by injection hy with hy; omega)
     have ITn := Lib.hid IT2
     have HBn := Lib.hid (HB.out.kept gn (fun e => HXR.out (by injection e)))
     have HLFT : Hid (iterLeft wn b1 rr < iterLeft w9 b1 rr) := by
      unfold Hid
      rw [IT2.left, IT.out.left]
      have := (erase_perm hy).length_eq
      rw [List.length_cons] at this
      omega
     clear hy IT2 IT gn HB hg HSR
     go_upto_region 14 with (fail)
     clear hnx hen
     have x2 : wn.cell? ⟨xb', 2, none⟩ = some (.bool mi) := HBn.out.cell rfl
     have c9 := (HRP.out.grew gW).cells 9 (.int .i64 p.lm.mn) rfl
     cases mi with
     | false =>
      go_upto_region 17 with (fail)
      clear x2 c9
      go_wp2_with fail
      go_loopw [14, 63] (fun s i y => ∃ q : Nat, q ≤ 7 ∧ i = .int .i64 q ∧ s = .int .i64 (weekS Ml d q) ∧ y = wn) (fun _ i _ => 7 - (intOf i).toNat)
      case atStart => exact ⟨0, by omega, rfl, rfl, rfl⟩
      case round =>
       obtain ⟨q, hq, rfl, rfl, hy⟩ := hrel
       subst hy
       by_cases hlq : q < 7
       ·have f0 : (q : Int) < 7 := by omega
        have f1 : q < 7 := hlq
        obtain ⟨V, hV⟩ : ∃ V, (alFind (wrap64 (d + (q : Int))) Ml).getD 0 = V := ⟨_, rfl⟩
        have HVV := Lib.hid hV
        have hlk := ITn.out.map.lookup key3 map179 (zero3 _) (wrap64 (d + (q : Int))) false
        simp only [Bool.false_eq_true, if_false] at hlk
        rw [show ((alFind (wrap64 (d + (q : Int))) Ml).map zk).getD (.int .i64 0) = .int .i64 V by rw [← hV]; cases alFind (wrap64 (d + (q : Int))) Ml <;> rfl] at hlk
        obtain ⟨wk', hwk'⟩ : ∃ z, weekS Ml d q = z := ⟨_, rfl⟩
        have HWK := Lib.hid hwk'
        have hlk2 : (Instr.lookup 179 (.map (some b1)) (.int .i64 (wrap64 (d + (q : Int)))) false).run Tryz.prog _ = .ok (.int .i64 V) _ := hlk
        rw [hwk']
        clear hV hwk' hlk
        go_wp2_with fail
        go_roundw
        case rel => exact ⟨q + 1, by omega, by go_num, by rw [show weekS Ml d (q + 1) = wrap64 (wk' + V) by unfold weekS; rw [HWK.out, HVV.out]], trivial⟩
        case measure => simp [intOf]; omega
       ·obtain rfl : q = 7 := by omega
        obtain ⟨S, hS⟩ : ∃ z, weekS Ml d 7 = z := ⟨_, rfl⟩
        have HSS := Lib.hid hS
        rw [hS]
        clear hS
        have c6 := (HRP.out.grew gW).cells 6 (.int .i64 p.lm.week) rfl
        by_cases hb : p.lm.week < S
        ·have q1 : decide (p.lm.week < S) = true := decide_eq_true hb
         have HF : Hid (true = t) := by unfold Hid; rw [← HANY.out]; unfold owB; simp only; rw [HSS.out, q1, Bool.or_true, Bool.true_or]
         clear hb
         go_wp2
         go_ret
         exact ⟨congrArg (fun b => Ending.returned (Value.bool b)) HF.out, gW⟩
        ·have q1 : decide (p.lm.week < S) = false := decide_eq_false hb
         have HF : Hid ((rest.eraseIdx i).any (owB p ⟨nm, sk, false, wg, A, n, c, aw⟩ Ml) = t) := by unfold Hid; rw [← HANY.out]; unfold owB; simp only; rw [HSS.out, q1, Bool.false_and]; simp only [Bool.false_and, Bool.or_false, Bool.false_or]
         clear HANY
         go_wp2_with fail
         go_roundw
         case rel => exact ⟨rest.eraseIdx i, rfl, HF, ITn, HBn, gW⟩
         case measure => exact HLFT.out
     | true =>
      by_cases hc : p.lm.mn < ct
      ·have q0 : decide (p.lm.mn < ct) = true := decide_eq_true hc
       have HF : Hid (true = t) := by unfold Hid; rw [← HANY.out]; unfold owB; simp only; rw [q0, Bool.true_and, Bool.true_or, Bool.true_or]
       clear hc
       go_wp2
       go_ret
       exact ⟨congrArg (fun b => Ending.returned (Value.bool b)) HF.out, gW⟩
      ·have q0 : decide (p.lm.mn < ct) = false := decide_eq_false hc
       have HQ0 := Lib.hid q0
       go_upto_region 17 with (fail)
       clear x2 c9 q0 hc
       go_wp2_with fail
       go_loopw [14, 63] (fun s i y => ∃ q : Nat, q ≤ 7 ∧ i = .int .i64 q ∧ s = .int .i64 (weekS Ml d q) ∧ y = wn) (fun _ i _ => 7 - (intOf i).toNat)
       case atStart => exact ⟨0, by omega, rfl, rfl, rfl⟩
       case round =>
        obtain ⟨q, hq, rfl, rfl, hy⟩ := hrel
        subst hy
        by_cases hlq : q < 7
        ·have f0 : (q : Int) < 7 := by omega
         have f1 : q < 7 := hlq
         obtain ⟨V, hV⟩ : ∃ V, (alFind (wrap64 (d + (q : Int))) Ml).getD 0 = V := ⟨_, rfl⟩
         have HVV := Lib.hid hV
         have hlk := ITn.out.map.lookup key3 map179 (zero3 _) (wrap64 (d + (q : Int))) false
         simp only [Bool.false_eq_true, if_false] at hlk
         rw [show ((alFind (wrap64 (d + (q : Int))) Ml).map zk).getD (.int .i64 0) = .int .i64 V by rw [← hV]; cases alFind (wrap64 (d + (q : Int))) Ml <;> rfl] at hlk
         obtain ⟨wk', hwk'⟩ : ∃ z, weekS Ml d q = z := ⟨_, rfl⟩
         have HWK := Lib.hid hwk'
         have hlk2 : (Instr.lookup 179 (.map (some b1)) (.int .i64 (wrap64 (d + (q : Int)))) false).run Tryz.prog _ = .ok (.int .i64 V) _ := hlk
         rw [hwk']
         clear hV hwk' hlk
         go_wp2_with fail
         go_roundw
         case rel => exact ⟨q + 1, by omega, by go_num, by rw [show weekS Ml d (q + 1) = wrap64 (wk' + V) by unfold weekS; rw [HWK.out, HVV.out]], trivial⟩
         case measure => simp [intOf]; omega
        ·obtain rfl : q = 7 := by omega
         obtain ⟨S, hS⟩ : ∃ z, weekS Ml d 7 = z := ⟨_, rfl⟩
         have HSS := Lib.hid hS
         rw [hS]
         clear hS
         have c6 := (HRP.out.grew gW).cells 6 (.int .i64 p.lm.week) rfl
         by_cases hb : p.lm.week < S
         ·have q1 : decide (p.lm.week < S) = true := decide_eq_true hb
          have HF : Hid (true = t) := by unfold Hid; rw [← HANY.out]; unfold owB; simp only; rw [HSS.out, q1, Bool.or_true, Bool.true_or]
          clear hb
          go_wp2
          go_ret
          exact ⟨congrArg (fun b => Ending.returned (Value.bool b)) HF.out, gW⟩
         ·have q1 : decide (p.lm.week < S) = false := decide_eq_false hb
          have HF : Hid ((rest.eraseIdx i).any (owB p ⟨nm, sk, true, wg, A, n, c, aw⟩ Ml) = t) := by unfold Hid; rw [← HANY.out]; unfold owB; simp only; rw [HSS.out, q1, HQ0.out]; simp only [Bool.and_false, Bool.or_false, Bool.false_or]
          clear HANY
          go_wp2_with fail
          go_roundw
          case rel => exact ⟨rest.eraseIdx i, rfl, HF, ITn, HBn, gW⟩
          case measure => exact HLFT.out
end Go.Proofs.YtnnbibmmofnkdaaGreat
namespace Go.Proofs.YtnnbibmmofnkdaaGreat
open Go.RowKit Go.Proofs WageMem WageReg WageRec WageSpan WageTop
theorem dn_le {p : Pl} (h : planB p = true) : p.dn ≤ 24 ∧ p.wn ≤ 12 := by
 unfold planB at h
 simp only [Bool.and_eq_true, decide_eq_true_eq] at h
 exact ⟨h.2.1, h.2.2.1⟩
theorem wo_ok {p : Pl} (h : planB p = true) {x : Wo} (hx : x ∈ p.ws) : wOk x = true := by
 unfold planB at h
 simp only [Bool.and_eq_true, decide_eq_true_eq] at h
 exact List.all_eq_true.1 h.2.2.2.2.1 x hx
theorem nrm_of {p : Pl} (h : planB p = true) {x : Wo} (hx : x ∈ p.ws) : nrm x.aw = x.aw := by
 have h1 := wo_ok h hx
 unfold wOk at h1
 simp only [Bool.and_eq_true, decide_eq_true_eq] at h1
 exact h1.2.2.2.1
/-- The workers from a number on. -/
def violF (p : Pl) (rs : List Int) (k n : Nat) : Bool := (List.range' k n).any fun (w : Nat) => violP p w (idxF 0 rs (w : Int))
theorem violF_step {p : Pl} {rs : List Int} {k n : Nat} : violF p rs k (n + 1) = (violP p k (idxF 0 rs (k : Int)) || violF p rs (k + 1) n) := by
 unfold violF; rw [List.range'_succ, List.any_cons]
theorem violF_all {p : Pl} {rs : List Int} : violF p rs 0 p.wn = WageTop.violated (envP p) rs := by
 unfold violF WageTop.violated; rw [List.range_eq_range']; rfl
theorem durs_ok {w : World} {cb : Nat} {p : Pl} {M N : Pc} {ps : List Pc} (h : RpAt w cb p M N ps) {d : Nat} (hd : d < p.dn) : durOk (p.du d) = true := by
 have := durOk_of h.ok h.fact.pl hd
 unfold dOk at this
 simp only [Bool.and_eq_true] at this
 exact this.1
set_option maxRecDepth 100000 in
set_option maxHeartbeats 16000000 in
theorem viol121 {w : World} {cb : Nat} {p : Pl} {M N : Pc} {ps : List Pc} {R : Option Addr} {rn rc : Nat} {rs : List Int} {t : Bool} (h : RpAt w cb p M N ps) (hi : Ints w R rn rc rs) (hn : rn ≤ p.dn) (ht : WageTop.violated (envP p) rs = t) :
  Calls Tryz.prog 121 #[.pointer (some ⟨cb, 0, none⟩), .slice R rn rc] w fun r w' => r = .returned (.bool t) ∧ Grew w w' := by
 obtain ⟨i3, hi3, hz3, hs3, hb3⟩ := info_parts info3
 have HRP := Lib.hid h
 have HI := Lib.hid hi
 have HNL : Hid (rs.length = rn) := hi.1
 have hr24 : rn ≤ 24 := by have := (dn_le h.ok).1; omega
 have hw12 : p.wn ≤ 12 := (dn_le h.ok).2
 have HT : Hid (violF p rs 0 p.wn = t) := by unfold Hid; rw [violF_all]; exact ht
 have C4 : w.cell? ⟨cb, 4, none⟩ = some (.slice p.W p.wn p.wc) := h.cells 4 _ rfl
 have HC4 := Lib.hid C4
 clear h hi ht
 go_enter Tryz.func121, Tryz.ntmps121
 go_wp2_with fail
 clear C4
 go_loopw [15] (fun i y => ∃ k : Nat, k ≤ p.wn ∧ i = .int .i64 k ∧ Hid (violF p rs k (p.wn - k) = t) ∧ Hid (Grew w y)) (fun i _ => p.wn - (intOf i).toNat)
 case atStart => exact ⟨0, Nat.zero_le _, rfl, HT.out, Grew.refl _⟩
 case round =>
  clear HT
  obtain ⟨wk, hk, rfl, HZ, HRo⟩ := hrel
  by_cases hlt : wk < p.wn
  ·obtain ⟨w9, rfl⟩ : ∃ wi : World, wi = wr := ⟨_, rfl⟩
   have HVS : Hid ((violP p wk (idxF 0 rs (wk : Int)) || violF p rs (wk + 1) (p.wn - (wk + 1))) = t) := by
    unfold Hid; rw [← violF_step, show p.wn - (wk + 1) + 1 = p.wn - wk by omega]; exact HZ.out
   clear HZ
   have e1 : (0 : Int) ≤ (wk : Int) := by omega
   have e2 : (wk : Int) < (p.wn : Int) := by omega
   go_wp2_with fail
   go_loopw [6, 20] (fun s i y => ∃ (k j c : Nat) (A : Option Addr), k ≤ rn ∧ i = .int .i64 k ∧ s = .slice A j c ∧ j ≤ k ∧ Hid (y.ownsRow w9.heap.size 3 1 (.slice A j c) j ((idxL (idxF 0 (rs.take k) wk)).map iv)) ∧ Hid ((idxF 0 (rs.take k) wk).length = j) ∧ Hid (Grew w9 y)) (fun _ i _ => rn - (intOf i).toNat)
   case atStart => exact ⟨0, 0, 0, none, Nat.zero_le _, rfl, rfl, Nat.le_refl _, World.ownsRow_nil _ _ _ _, rfl, Grew.refl _⟩
   case round =>
    obtain ⟨k, j, c, A, hk, rfl, rfl, hj, OW, HL, HR⟩ := hrel
    by_cases hlt : k < rn
    ·obtain ⟨bb, oo, hA, hcc⟩ := (HI.out.grew (HRo.out.trans HR.out)).at_ (by omega)
     obtain ⟨y, hy⟩ : ∃ y, rs[k]? = some y := ⟨_, List.getElem?_eq_getElem (by rw [HNL.out]; exact hlt)⟩
     have c0 := hcc k _ hy
     have HST := Lib.hid (idx_step (w := (wk : Int)) hy)
     have e1 : (0 : Int) ≤ (k : Int) := by omega
     have e2 : (k : Int) < (rn : Int) := by omega
     subst hA
     clear hcc hy
     by_cases hy : y = (wk : Int)
     ·have HS2 : Hid (idxF 0 (rs.take (k + 1)) wk = idxF 0 (rs.take k) wk ++ [k]) := by unfold Hid; rw [HST.out, if_pos hy]
      have q1 : (y == (wk : Int)) = true := by simpa using hy
      obtain ⟨wy, hwy⟩ : ∃ y, y = wr.alloc (.cells #[.int .i64 (k : Int)] 3) := ⟨_, rfl⟩
      have gy : Grew wr wy := by rw [hwy]; exact (Grew.refl wr).alloc _
      have BI : Hid (Sl wy 1 (some ⟨wr.heap.size, 0, none⟩) 1 1 ([(k : Int)].map iv)) := by unfold Hid; rw [hwy]; exact builtS (w := wr) (t := 3) 1 1 #[.int .i64 (k : Int)] _ rfl rfl (by decide)
      have OWy := Lib.hid (own_grew OW.out gy)
      have HRy := Lib.hid (HR.out.trans gy)
      have HBs : Hid (w9.heap.size ≤ wy.heap.size) := HRy.out.le
      clear hy gy OW HR HST
      go_upto_region 10 with (at_builtin; rw [← hwy]; refine wpList_append_sl _ rfl (.tmp 28) (.tmp 30) 38 rfl w9.heap.size 3 i3 (.int .i64 0) 1 8 Tryz.underlying38 hi3 hz3 hs3 hb3 rfl (by decide) (.slice A j c) j _ rfl OWy.out (some ⟨wr.heap.size, 0, none⟩) 1 1 _ rfl BI.out (iv_one _) (by unfold maxLen; omega) (by omega) HBs.out ?_; intro v7 w7 own7 hg7 hat7; obtain ⟨A7, c7, rfl⟩ := own_form own7)
      have OW7 : Hid (w7.ownsRow w9.heap.size 3 1 (.slice A7 (j + 1) c7) (j + 1) ((idxL (idxF 0 (rs.take (k + 1)) wk)).map iv)) := by
       unfold Hid; rw [HS2.out]; unfold idxL; rw [List.map_append, List.map_append]; exact own7
      have HL7 : Hid ((idxF 0 (rs.take (k + 1)) wk).length = j + 1) := by unfold Hid; rw [HS2.out, List.length_append, HL.out]; rfl
      have HR7 : Hid (Grew w9 w7) := HRy.out.grown hg7 (fun q hq => (OWy.out.lt q hq).1)
      clear hwy own7 hg7 hat7 OWy HRy HBs BI c0
      go_wp2_with fail
      go_roundw
      case rel => exact ⟨k + 1, j + 1, c7, A7, by omega, by go_num, rfl, by omega, OW7, HL7, HR7⟩
      case measure => simp [intOf]; omega
     ·have HS2 : Hid (idxF 0 (rs.take (k + 1)) wk = idxF 0 (rs.take k) wk) := by unfold Hid; rw [HST.out, if_neg hy, List.append_nil]
      have q1 : (y == (wk : Int)) = false := by simpa using hy
      rw [← HS2.out] at OW HL
      clear hy HST
      go_wp2_with fail
      go_roundw
      case rel => exact ⟨k + 1, j, c, A, by omega, by go_num, rfl, by omega, OW, HL, HR⟩
      case measure => simp [intOf]; omega
    ·obtain rfl : rn = k := by omega
     rw [← HNL.out, List.take_length] at OW HL
     obtain ⟨ds, hds⟩ : ∃ l, idxF 0 rs (wk : Int) = l := ⟨_, rfl⟩
     have HDL : Hid (∀ d ∈ ds, d < p.dn) := fun d hd => by rw [← hds] at hd; have := idx_lt rs (wk : Int) 0 d hd; have := HNL.out; omega
     rw [hds] at OW HL HVS
     have hjl : j ≤ 24 := by have := HNL.out; omega
     have HII : Hid (Ints wr A j c (idxL ds)) := Ints.own (by rw [idxL_len]; exact HL.out) OW.out
     have HRa := Lib.hid (HRo.out.trans HR.out)
     obtain ⟨w5, rfl⟩ : ∃ wi : World, wi = wr := ⟨_, rfl⟩
     clear OW HL HR HRo hds hj hk hlt
     obtain ⟨bw, ow, x, hA, hx, hxc, hsp, _⟩ := (HRP.out.fact.pl.grew HRa.out).ws.at_ (show wk < p.wn by omega)
     have CC : Hid (∀ y, Grew w5 y → y.cell? ⟨cb, 4, none⟩ = some (.slice (some ⟨bw, ow, none⟩) p.wn p.wc) ∧ (y.cell? ⟨bw, ow + wk * 5, none⟩ = some (.string x.nm) ∧ y.cell? ⟨bw, ow + wk * 5 + 1, none⟩ = some (.int .i64 x.sk) ∧ y.cell? ⟨bw, ow + wk * 5 + 2, none⟩ = some (.bool x.mi) ∧ y.cell? ⟨bw, ow + wk * 5 + 3, none⟩ = some (.int .i64 x.wg) ∧ y.cell? ⟨bw, ow + wk * 5 + 4, none⟩ = some (.slice x.A x.n x.c))) := fun y g => by
      refine ⟨?_, g.cell hxc.1, g.cell hxc.2.1, g.cell hxc.2.2.1, g.cell hxc.2.2.2.1, g.cell hxc.2.2.2.2⟩
      rw [← hA]; exact (HRa.out.trans g).cell HC4.out
     have HSP := Lib.hid hsp
     have HXN : Hid (violP p wk ds = (ds.any (unB p x) || (rsV p ds || (dayM p ds).any (owB p x (dayM p ds))))) := by
      unfold Hid
      rw [← viol_parts (nrm_of HRP.out.ok (List.mem_of_getElem? hx)) (fun d hd => durs_ok HRP.out (HDL.out d hd))]
      unfold violP; rw [hx]
     obtain ⟨t1, ht1⟩ : ∃ t, ds.any (unB p x) = t := ⟨_, rfl⟩
     obtain ⟨t2, ht2⟩ : ∃ t, rsV p ds = t := ⟨_, rfl⟩
     obtain ⟨t3, ht3⟩ : ∃ t, (dayM p ds).any (owB p x (dayM p ds)) = t := ⟨_, rfl⟩
     have HV : Hid (((t1 || (t2 || t3)) || violF p rs (wk + 1) (p.wn - (wk + 1))) = t) := by unfold Hid; rw [← ht1, ← ht2, ← ht3, ← HXN.out]; exact HVS.out
     have T1 := Lib.hid ht1
     have T2 := Lib.hid ht2
     have T3 := Lib.hid ht3
     clear ht1 ht2 ht3 HVS HXN hxc hsp hA hx
     have c4 := (CC.out _ (Grew.refl _)).1
     obtain ⟨v0, v1, v2, v3, v4⟩ := (CC.out _ (Grew.refl _)).2
     go_wp2_with fail
     refine (unable146 (x := x) (HRP.out.grew HRa.out) HSP.out HII.out hjl HDL.out T1.out).mono ?_
     rintro r w6 ⟨rfl, g6⟩
     have HG6 := Lib.hid g6
     clear c4 v0 v1 v2 v3 v4 g6
     cases t1 with
     | true =>
      have HF : Hid (true = t) := by unfold Hid; have := HV.out; simpa using this
      go_wp2
      go_ret
      exact ⟨congrArg (fun b => Ending.returned (Value.bool b)) HF.out, HRa.out.trans HG6.out⟩
     | false =>
      go_wp2_with fail
      refine (restless147 (HRP.out.grew (HRa.out.trans HG6.out)) (HII.out.grew HG6.out) hjl HDL.out T2.out).mono ?_
      rintro r w7 ⟨rfl, g7⟩
      have HG7 := Lib.hid (HG6.out.trans g7)
      clear g7
      cases t2 with
      | true =>
       have HF : Hid (true = t) := by unfold Hid; have := HV.out; simpa using this
       go_wp2
       go_ret
       exact ⟨congrArg (fun b => Ending.returned (Value.bool b)) HF.out, HRa.out.trans HG7.out⟩
      | false =>
       have c4 := (CC.out _ HG7.out).1
       obtain ⟨v0, v1, v2, v3, v4⟩ := (CC.out _ HG7.out).2
       go_wp2_with fail
       refine (over148 (x := x) (HRP.out.grew (HRa.out.trans HG7.out)) (HII.out.grew HG7.out) hjl HDL.out T3.out).mono ?_
       rintro r w8 ⟨rfl, g8⟩
       have HG8 := Lib.hid (HG7.out.trans g8)
       clear g8 c4 v0 v1 v2 v3 v4
       cases t3 with
       | true =>
        have HF : Hid (true = t) := by unfold Hid; have := HV.out; simpa using this
        go_wp2
        go_ret
        exact ⟨congrArg (fun b => Ending.returned (Value.bool b)) HF.out, HRa.out.trans HG8.out⟩
       | false =>
        have HF : Hid (violF p rs (wk + 1) (p.wn - (wk + 1)) = t) := by unfold Hid; have := HV.out; simpa using this
        have HRE := Lib.hid (HRa.out.trans HG8.out)
        clear HV HRa HG8 HG7 HG6
        go_wp2_with fail
        go_roundw
        case rel => exact ⟨wk + 1, by omega, by go_num, HF, HRE⟩
        case measure => simp [intOf]; omega
  ·obtain rfl : p.wn = wk := by omega
   have HF : Hid (false = t) := by
    have h1 := HZ.out
    rw [Nat.sub_self] at h1
    exact h1
   go_wp2
   go_ret
   exact ⟨congrArg (fun b => Ending.returned (Value.bool b)) HF.out, HRo.out⟩
end Go.Proofs.YtnnbibmmofnkdaaGreat
