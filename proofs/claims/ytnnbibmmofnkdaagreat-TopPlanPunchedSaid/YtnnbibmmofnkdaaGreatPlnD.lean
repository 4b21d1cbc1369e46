/-
 The planner: improve.
-/
import Derived.Test.YtnnbibmmofnkdaaGreatPlnB
namespace Go.Proofs.YtnnbibmmofnkdaaGreat
open Go.RowKit Go.Proofs WageMem WageReg WageRec WageSpan WageTop
/-- The search in memory while it improves. -/
structure ImpAt (p : Pl) (w1 : World) (cb sb lb pb : Nat) (y : World) (st : St) : Prop where
 blk : ∃ BA bn bc, Blk y sb 94 (srC p cb (.slice (some ⟨lb, 0, none⟩) (p.dn + 1) (p.dn + 1)) st.fuel (.func (.func 35) #[.pointer (some ⟨sb, 0, none⟩)] #[]) st.found (.slice BA bn bc) st.cost (.slice none 0 0)) ∧
  (st.found = true → bn = p.dn ∧ y.ownsRow w1.heap.size 3 1 (.slice BA bn bc) bn (st.best.map iv) ∧ ∀ q, (Value.slice BA bn bc).ownBlock = some q → q ≠ pb)
 lst : Blk y lb 3 (lstF (envP p) p.dn 0)
 fuel : 0 ≤ st.fuel ∧ st.fuel ≤ 1000000
 cost : 0 ≤ st.cost ∧ st.cost ≤ 1000000000000
theorem ImpAt.kept {p : Pl} {w1 : World} {cb sb lb pb : Nat} {y y' : World} {st : St} (h : ImpAt p w1 cb sb lb pb y st) (g : y.grownBy y' (some pb)) (h1 : sb ≠ pb) (h2 : lb ≠ pb) : ImpAt p w1 cb sb lb pb y' st := by
 obtain ⟨⟨BA, bn, bc, hb, hf⟩, hl, h3, h4⟩ := h
 refine ⟨⟨BA, bn, bc, hb.kept g (fun e => h1 (by injection e)), fun hh => ?_⟩, hl.kept g (fun e => h2 (by injection e)), h3, h4⟩
 obtain ⟨e1, e2, e3⟩ := hf hh
 exact ⟨e1, e2.kept g (.inr fun e => e3 pb e rfl), e3⟩
/-- improve as a visit. -/
def impF (E : Env) (k : Nat) (pre : List Int) (c : Int) (s : St) : St × Option Int := ((improve E k pre c s).1, if (improve E k pre c s).2 then some 0 else none)
theorem ext_G (E : Env) (k : Nat) (q : Nat → List Int) (c : Nat → Int) : ∀ (ws : List Nat) (s : St), ext (fun w s => improve E k (q w) (c w) s) ws s = extG (fun w s => impF E k (q w) (c w) s) (fun _ s => s) ws s
 | [], s => rfl
 | w :: ws, s => by
  unfold ext extG impF
  cases hh : improve E k (q w) (c w) s with
  | mk s' b =>
   cases b with
   | true => simp only [if_true]; exact ext_G E k q c ws s'
   | false => simp
set_option maxRecDepth 100000 in
set_option maxHeartbeats 16000000 in
theorem imp_zero {p : Pl} {w1 : World} {cb sb lb pb : Nat} (hck : CkAt w1 cb p) (ok : planB p = true) (hne : sb ≠ pb ∧ lb ≠ pb ∧ lb ≠ sb ∧ w1.heap.size ≤ sb ∧ w1.heap.size ≤ pb) {pre : List Int} {c : Int} (hk : pre.length + 0 = p.dn) (hpr : ∀ x ∈ pre, 0 ≤ x ∧ x < p.wn) (hcb : 0 ≤ c ∧ c ≤ pre.length * 1440000000)
  {y : World} {st : St} (hg : Grew w1 y) (hI : ImpAt p w1 cb sb lb pb y st) (ho : y.ownsRow w1.heap.size 3 1 (.slice (some ⟨pb, 0, none⟩) pre.length p.dn) pre.length (pre.map iv)) :
  Calls Tryz.prog 35 #[.pointer (some ⟨sb, 0, none⟩), .slice (some ⟨pb, 0, none⟩) pre.length p.dn, .int .i64 c] y (RetVi (ImpAt p w1 cb sb lb pb) w1 pb p.dn pre (impF (envP p) 0 pre c st)) := by
 obtain ⟨⟨BA, bn, bc, hb, hbf⟩, hl, hfu, hco⟩ := hI
 obtain ⟨fuel, fd, best, cost⟩ := st
 simp only at hb hbf hfu hco
 have HCK := Lib.hid hck
 have HBD := Lib.hid (env_bd hck.1 ok)
 have dn24 : p.dn ≤ 24 := HBD.out.nD
 have HB := Lib.hid hb
 have HL := Lib.hid hl
 have HBF := Lib.hid hbf
 have HO := Lib.hid ho
 have HG := Lib.hid hg
 have HPR := Lib.hid hpr
 have HNE := Lib.hid hne
 have HCO := Lib.hid hco
 have hlk := least_bd HBD.out 0
 obtain ⟨m, hmm⟩ : ∃ m, pre.length = m := ⟨_, rfl⟩
 have HMM := Lib.hid hmm
 rw [hmm] at HO hk hcb ⊢
 obtain ⟨z, hz⟩ : ∃ z, leastR (envP p) 0 = z := ⟨_, rfl⟩
 rw [hz] at hlk
 have HZ := Lib.hid hz
 clear hck hb hbf hl ho hg hpr hne hmm hz
 obtain ⟨t, ht⟩ : ∃ t, decide (1 ≤ fuel) = t := ⟨_, rfl⟩
 have HT := Lib.hid ht
 clear ht
 go_enter Tryz.func35, Tryz.ntmps35
 go_wp2_with fail
 refine (burn76 HB.out ⟨by omega, by omega⟩ HT.out).mono ?_
 rintro r w2 ⟨rfl, hw2⟩
 have hset := grown_set y sb 12 (.int .i64 (fuel - 1))
 rw [← hw2] at hset
 have HB2 : Hid (Blk w2 sb 94 (srC p cb (.slice (some ⟨lb, 0, none⟩) (p.dn + 1) (p.dn + 1)) (fuel - 1) (.func (.func 35) #[.pointer (some ⟨sb, 0, none⟩)] #[]) fd (.slice BA bn bc) cost (.slice none 0 0))) := by unfold Hid; rw [hw2]; exact HB.out.set 12 _
 have HL2 : Hid (Blk w2 lb 3 (lstF (envP p) p.dn 0)) := HL.out.kept hset (fun e => HNE.out.2.2.1 (by injection e))
 have HO2 : Hid (w2.ownsRow w1.heap.size 3 1 (.slice (some ⟨pb, 0, none⟩) m p.dn) m (pre.map iv)) := HO.out.kept hset (own_blk' HO.out HB.out (by decide))
 have HG2 : Hid (Grew w1 w2) := HG.out.grown hset (fun q hq => by injection hq with hq; have := HNE.out.2.2.2.1; omega)
 have HBF2 : Hid (fd = true → bn = p.dn ∧ w2.ownsRow w1.heap.size 3 1 (.slice BA bn bc) bn (best.map iv) ∧ ∀ q, (Value.slice BA bn bc).ownBlock = some q → q ≠ pb) := fun h => by
  obtain ⟨e1, e2, e3⟩ := HBF.out h
  exact ⟨e1, e2.kept hset (own_blk' e2 HB.out (by decide)), e3⟩
 clear hset hw2 HB HL HO HG HBF
 cases t with
 | false =>
  have hf0 : fuel = 0 := by have := of_decide_eq_false HT.out; omega
  have HM : Hid (improve (envP p) 0 pre c ⟨fuel, fd, best, cost⟩ = (⟨fuel - 1, fd, best, cost⟩, false)) := by
   unfold Hid improve; simp only; rw [if_pos (by omega)]
  clear hf0
  go_wp2
  go_ret2
  exact ⟨HG2.out, 0, by unfold impF; rw [HM.out]; rfl, .inl (by unfold impF; rw [HM.out]; rfl)⟩
 | true =>
  have hf1 : 1 ≤ fuel := of_decide_eq_true HT.out
  have e1 : IntKind.i64.wrap (c + z) = c + z := IntWalk.i64_in _ (by omega)
  have i1 : (0 : Int) ≤ (m : Int) := by omega
  have i2 : (m : Int) < (p.dn : Int) + 1 := by omega
  have hA : ∀ w', Grew w2.drew w' → w'.cell? ⟨sb, 14, none⟩ = some (.bool fd) ∧ w'.cell? ⟨sb, 11, none⟩ = some (.slice (some ⟨lb, 0, none⟩) (p.dn + 1) (p.dn + 1)) ∧ w'.cell? ⟨lb, m, none⟩ = some (.int .i64 z) ∧ w'.cell? ⟨sb, 16, none⟩ = some (.int .i64 cost) := fun w' g' => by
   have gg := (Grew.refl w2).drew.trans g'
   have hbg := HB2.out.grew gg
   refine ⟨hbg.cell rfl, hbg.cell rfl, ?_, hbg.cell rfl⟩
   have h1 := (HL2.out.grew gg).cell (lstF_at (E := envP p) (n := p.dn) (d := 0) (i := m) (by omega))
   rw [if_pos (Nat.zero_le _), show p.dn - m = 0 by omega, HZ.out] at h1
   exact h1
  have HA := Lib.hid hA
  have HIN : Hid (Ints w2 (some ⟨pb, 0, none⟩) m p.dn pre) := Ints.own HMM.out HO2.out
  have hmd : m ≤ p.dn := by omega
  obtain ⟨t2, ht2⟩ : ∃ t, clean (envP p) pre = t := ⟨_, rfl⟩
  have HT2 := Lib.hid ht2
  clear hA ht2
  have hcl : ∀ w', Grew w2.drew w' → Calls Tryz.prog 77 #[.pointer (some ⟨sb, 0, none⟩), .slice (some ⟨pb, 0, none⟩) m p.dn] w' fun r w'' => r = .returned (.bool t2) ∧ Grew w' w'' := fun w' g' => by
   have gg := (Grew.refl w2).drew.trans g'
   exact clean77 (HB2.out.grew gg) (HCK.out.grew (HG2.out.trans gg)) ok (HIN.out.grew gg) hmd HPR.out HT2.out
  have HCL := Lib.hid hcl
  clear hcl
  have HGE : Hid (leastR (envP p) 0 = z) := HZ
  cases fd with
  | false =>
   cases t2 with
   | false =>
    go_upto_region 3 with (fail)
    refine wp_region_seq (by kernel_rfl) Grew.refl (fun _ _ _ => Grew.trans) (fun _ _ _ _ _ h => h) (by kernel_rfl) ?_
    repeat (first
     | (refine TakeAll.pure (v := ?_) (by rfl) ?_ ?_; rotate_left; (intro w' g'; obtain ⟨q0, q1, q2, q3⟩ := HA.out w' g'; go_simp; first | done | with_reducible rfl); (simp only [Act.put, uzT, uz0, uz1]))
     | (refine TakeAll.skip (by rfl) ?_; (simp only [Act.put, uzT, uz0, uz1])))
    refine TakeAll.call (by rfl) 77 _ (fun _ => by go_simp; first | done | rfl) (fun w' g' => HCL.out w' g') ?_
    simp only [Act.put, uzT, uz0, uz1]
    repeat (first
     | (refine TakeAll.pure (v := ?_) (by rfl) ?_ ?_; rotate_left; (intro w' g'; obtain ⟨q0, q1, q2, q3⟩ := HA.out w' g'; go_simp; first | done | with_reducible rfl); (simp only [Act.put, uzT, uz0, uz1]))
     | (refine TakeAll.skip (by rfl) ?_; (simp only [Act.put, uzT, uz0, uz1])))
    refine TakeAll.nil ?_
    intro w5 g5
    have G5 := Lib.hid ((Grew.refl w2).drew.trans g5)
    clear HA HCL HIN g5
    have HM : Hid (improve (envP p) 0 pre c ⟨fuel, false, best, cost⟩ = (⟨fuel - 1, false, best, cost⟩, true)) := by
     unfold Hid improve; simp only; rw [if_neg (by omega), if_pos (by rw [HT2.out]; rfl)]
    go_wp2
    go_ret2
    refine ⟨HG2.out.trans G5.out, 0, by unfold impF; rw [HM.out]; rfl, .inr ⟨by unfold impF; rw [HM.out]; rfl, ?_, by rw [HMM.out]; exact own_grew HO2.out G5.out⟩⟩
    unfold impF; rw [HM.out]
    exact ⟨⟨BA, bn, bc, HB2.out.grew G5.out, fun h => by obtain ⟨e1, e2, e3⟩ := HBF2.out (by first | exact h | exact trivial); exact ⟨e1, own_grew e2 G5.out, e3⟩⟩, HL2.out.grew G5.out, ⟨by show 0 ≤ fuel - 1; omega, by show fuel - 1 ≤ 1000000; omega⟩, HCO.out⟩
   | true =>
    have HN : Hid (((false && decide (cost ≤ c + leastR (envP p) 0)) || !clean (envP p) pre) = false) := by unfold Hid; rw [HT2.out]; rfl
    go_upto_region 3 with (fail)
    refine wp_region_seq (by kernel_rfl) Grew.refl (fun _ _ _ => Grew.trans) (fun _ _ _ _ _ h => h) (by kernel_rfl) ?_
    repeat (first
     | (refine TakeAll.pure (v := ?_) (by rfl) ?_ ?_; rotate_left; (intro w' g'; obtain ⟨q0, q1, q2, q3⟩ := HA.out w' g'; go_simp; first | done | with_reducible rfl); (simp only [Act.put, uzT, uz0, uz1]))
     | (refine TakeAll.skip (by rfl) ?_; (simp only [Act.put, uzT, uz0, uz1])))
    refine TakeAll.call (by rfl) 77 _ (fun _ => by go_simp; first | done | rfl) (fun w' g' => HCL.out w' g') ?_
    simp only [Act.put, uzT, uz0, uz1]
    repeat (first
     | (refine TakeAll.pure (v := ?_) (by rfl) ?_ ?_; rotate_left; (intro w' g'; obtain ⟨q0, q1, q2, q3⟩ := HA.out w' g'; go_simp; first | done | with_reducible rfl); (simp only [Act.put, uzT, uz0, uz1]))
     | (refine TakeAll.skip (by rfl) ?_; (simp only [Act.put, uzT, uz0, uz1])))
    refine TakeAll.nil ?_
    intro w5 g5
    have G5 := Lib.hid ((Grew.refl w2).drew.trans g5)
    clear HA HCL HIN g5
    have q1 : (m == p.dn) = true := by simp; omega
    have q2 : ((m : Int) == (p.dn : Int)) = true := by simp; omega
    have HB5 := Lib.hid (HB2.out.grew G5.out)
    have c3 : w5.cell? ⟨sb, 3, none⟩ = some (.slice p.D p.dn p.dc) := HB5.out.cell rfl
    have HI5 : Hid (Ints w5 (some ⟨pb, 0, none⟩) m p.dn pre) := Ints.own HMM.out (own_grew HO2.out G5.out)
    have HM : Hid (improve (envP p) 0 pre c ⟨fuel, false, best, cost⟩ = (⟨fuel - 1, true, pre, c⟩, true)) := by
     unfold Hid improve; simp only; rw [if_neg (by omega), if_neg (by rw [HN.out]; simp)]
    go_wp2_with fail
    refine (clone78 HI5.out (by omega)).mono ?_
    rintro r w6 ⟨A6, c6, rfl, own6, g6⟩
    have HB6 := Lib.hid (HB5.out.grew g6)
    have G6 := Lib.hid (G5.out.trans g6)
    have HOW6 := Lib.hid own6
    have hpb : pb < w5.heap.size := by
     rcases (own_grew HO2.out G5.out).2 with ⟨h0, _⟩ | ⟨g', cap, cur, h1, _, h3, _⟩
     ·injection h0 with h0; cases h0
     ·injection h1 with h1 _ _; injection h1 with h1; injection h1 with h1; subst h1; exact (Array.getElem?_eq_some_iff.1 h3).1
    have HPB := Lib.hid hpb
    have c14 : w6.cell? ⟨sb, 14, none⟩ = some (.bool false) := HB6.out.cell rfl
    have f14 := HB6.out.frozen 14
    have HB7 := Lib.hid (HB6.out.set 14 (.bool true))
    have c15 : (w6.setCell ⟨sb, 14, none⟩ (.bool true)).cell? ⟨sb, 15, none⟩ = some (.slice BA bn bc) := HB7.out.cell rfl
    have f15 := HB7.out.frozen 15
    have HB8 := Lib.hid (HB7.out.set 15 (.slice A6 m c6))
    have c16 : ((w6.setCell ⟨sb, 14, none⟩ (.bool true)).setCell ⟨sb, 15, none⟩ (.slice A6 m c6)).cell? ⟨sb, 16, none⟩ = some (.int .i64 cost) := HB8.out.cell rfl
    have f16 := HB8.out.frozen 16
    have HB9 := Lib.hid (HB8.out.set 16 (.int .i64 c))
    clear own6 g6 c3 hpb
    go_wp2
    go_ret2
    have k14 := grown_set w6 sb 14 (.bool true)
    have k15 := grown_set (w6.setCell ⟨sb, 14, none⟩ (.bool true)) sb 15 (.slice A6 m c6)
    have k16 := grown_set ((w6.setCell ⟨sb, 14, none⟩ (.bool true)).setCell ⟨sb, 15, none⟩ (.slice A6 m c6)) sb 16 (.int .i64 c)
    have hsb := HNE.out.2.2.2.1
    have own3 : ∀ {v n xs} {base : Nat}, w6.ownsRow base 3 1 v n xs → (((w6.setCell ⟨sb, 14, none⟩ (.bool true)).setCell ⟨sb, 15, none⟩ (.slice A6 m c6)).setCell ⟨sb, 16, none⟩ (.int .i64 c)).ownsRow base 3 1 v n xs := fun h =>
     own_set (own_set (own_set h HB6.out (by decide) _ _) HB7.out (by decide) _ _) HB8.out (by decide) _ _
    refine ⟨(((HG2.out.trans G6.out).grown k14 (fun q hq => by injection hq with hq; omega)).grown k15 (fun q hq => by injection hq with hq; omega)).grown k16 (fun q hq => by injection hq with hq; omega), 0, by unfold impF; rw [HM.out]; rfl, .inr ⟨by unfold impF; rw [HM.out]; rfl, ?_, by rw [HMM.out]; exact own3 (own_grew HO2.out G6.out)⟩⟩
    unfold impF; rw [HM.out]
    refine ⟨⟨A6, m, c6, HB9.out, fun _ => ⟨by omega, own3 (own_base HOW6.out (HG2.out.trans G5.out).le), fun q hq => ?_⟩⟩, ?_, ⟨by show 0 ≤ fuel - 1; omega, by show fuel - 1 ≤ 1000000; omega⟩, ⟨by show 0 ≤ c; omega, by show c ≤ 1000000000000; omega⟩⟩
    ·have h1 := (HOW6.out.lt q hq).1
     have := HPB.out
     omega
    ·have hls : some lb ≠ some sb := fun e => HNE.out.2.2.1 (by injection e)
     exact (((HL2.out.grew G6.out).kept k14 hls).kept k15 hls).kept k16 hls
  | true =>
   by_cases hge : cost ≤ c + z
   ·have q9 : decide (cost ≤ c + z) = true := decide_eq_true hge
    go_upto_region 3 with (fail)
    refine wp_region_seq (by kernel_rfl) Grew.refl (fun _ _ _ => Grew.trans) (fun _ _ _ _ _ h => h) (by kernel_rfl) ?_
    repeat (first
     | (refine TakeAll.pure (v := ?_) (by rfl) ?_ ?_; rotate_left; (intro w' g'; obtain ⟨q0, q1, q2, q3⟩ := HA.out w' g'; go_simp; first | done | with_reducible rfl); (simp only [Act.put, uzT, uz0, uz1]))
     | (refine TakeAll.skip (by rfl) ?_; (simp only [Act.put, uzT, uz0, uz1])))
    refine TakeAll.nil ?_
    intro w5 g5
    have G5 := Lib.hid ((Grew.refl w2).drew.trans g5)
    clear HA HCL HIN g5
    have HM : Hid (improve (envP p) 0 pre c ⟨fuel, true, best, cost⟩ = (⟨fuel - 1, true, best, cost⟩, true)) := by
     unfold Hid improve; simp only; rw [if_neg (by omega), if_pos (by rw [HZ.out, q9]; rfl)]
    go_wp2
    go_ret2
    refine ⟨HG2.out.trans G5.out, 0, by unfold impF; rw [HM.out]; rfl, .inr ⟨by unfold impF; rw [HM.out]; rfl, ?_, by rw [HMM.out]; exact own_grew HO2.out G5.out⟩⟩
    unfold impF; rw [HM.out]
    exact ⟨⟨BA, bn, bc, HB2.out.grew G5.out, fun h => by obtain ⟨e1, e2, e3⟩ := HBF2.out (by first | exact h | exact trivial); exact ⟨e1, own_grew e2 G5.out, e3⟩⟩, HL2.out.grew G5.out, ⟨by show 0 ≤ fuel - 1; omega, by show fuel - 1 ≤ 1000000; omega⟩, HCO.out⟩
   ·have q9 : decide (cost ≤ c + z) = false := decide_eq_false hge
    cases t2 with
    | false =>
     go_upto_region 3 with (fail)
     refine wp_region_seq (by kernel_rfl) Grew.refl (fun _ _ _ => Grew.trans) (fun _ _ _ _ _ h => h) (by kernel_rfl) ?_
     repeat (first
      | (refine TakeAll.pure (v := ?_) (by rfl) ?_ ?_; rotate_left; (intro w' g'; obtain ⟨q0, q1, q2, q3⟩ := HA.out w' g'; go_simp; first | done | with_reducible rfl); (simp only [Act.put, uzT, uz0, uz1]))
      | (refine TakeAll.skip (by rfl) ?_; (simp only [Act.put, uzT, uz0, uz1])))
     refine TakeAll.call (by rfl) 77 _ (fun _ => by go_simp; first | done | rfl) (fun w' g' => HCL.out w' g') ?_
     simp only [Act.put, uzT, uz0, uz1]
     repeat (first
      | (refine TakeAll.pure (v := ?_) (by rfl) ?_ ?_; rotate_left; (intro w' g'; obtain ⟨q0, q1, q2, q3⟩ := HA.out w' g'; go_simp; first | done | with_reducible rfl); (simp only [Act.put, uzT, uz0, uz1]))
      | (refine TakeAll.skip (by rfl) ?_; (simp only [Act.put, uzT, uz0, uz1])))
     refine TakeAll.nil ?_
     intro w5 g5
     have G5 := Lib.hid ((Grew.refl w2).drew.trans g5)
     clear HA HCL HIN g5
     have HM : Hid (improve (envP p) 0 pre c ⟨fuel, true, best, cost⟩ = (⟨fuel - 1, true, best, cost⟩, true)) := by
      unfold Hid improve; simp only; rw [if_neg (by omega), if_pos (by rw [HZ.out, q9, HT2.out]; rfl)]
     go_wp2
     go_ret2
     refine ⟨HG2.out.trans G5.out, 0, by unfold impF; rw [HM.out]; rfl, .inr ⟨by unfold impF; rw [HM.out]; rfl, ?_, by rw [HMM.out]; exact own_grew HO2.out G5.out⟩⟩
     unfold impF; rw [HM.out]
     exact ⟨⟨BA, bn, bc, HB2.out.grew G5.out, fun h => by obtain ⟨e1, e2, e3⟩ := HBF2.out (by first | exact h | exact trivial); exact ⟨e1, own_grew e2 G5.out, e3⟩⟩, HL2.out.grew G5.out, ⟨by show 0 ≤ fuel - 1; omega, by show fuel - 1 ≤ 1000000; omega⟩, HCO.out⟩
    | true =>
     have HN : Hid (((true && decide (cost ≤ c + leastR (envP p) 0)) || !clean (envP p) pre) = false) := by unfold Hid; rw [HZ.out, q9, HT2.out]; rfl
     clear hge
     go_upto_region 3 with (fail)
     refine wp_region_seq (by kernel_rfl) Grew.refl (fun _ _ _ => Grew.trans) (fun _ _ _ _ _ h => h) (by kernel_rfl) ?_
     repeat (first
      | (refine TakeAll.pure (v := ?_) (by rfl) ?_ ?_; rotate_left; (intro w' g'; obtain ⟨q0, q1, q2, q3⟩ := HA.out w' g'; go_simp; first | done | with_reducible rfl); (simp only [Act.put, uzT, uz0, uz1]))
      | (refine TakeAll.skip (by rfl) ?_; (simp only [Act.put, uzT, uz0, uz1])))
     refine TakeAll.call (by rfl) 77 _ (fun _ => by go_simp; first | done | rfl) (fun w' g' => HCL.out w' g') ?_
     simp only [Act.put, uzT, uz0, uz1]
     repeat (first
      | (refine TakeAll.pure (v := ?_) (by rfl) ?_ ?_; rotate_left; (intro w' g'; obtain ⟨q0, q1, q2, q3⟩ := HA.out w' g'; go_simp; first | done | with_reducible rfl); (simp only [Act.put, uzT, uz0, uz1]))
      | (refine TakeAll.skip (by rfl) ?_; (simp only [Act.put, uzT, uz0, uz1])))
     refine TakeAll.nil ?_
     intro w5 g5
     have G5 := Lib.hid ((Grew.refl w2).drew.trans g5)
     clear HA HCL HIN g5
     have q1 : (m == p.dn) = true := by simp; omega
     have q2 : ((m : Int) == (p.dn : Int)) = true := by simp; omega
     have HB5 := Lib.hid (HB2.out.grew G5.out)
     have c3 : w5.cell? ⟨sb, 3, none⟩ = some (.slice p.D p.dn p.dc) := HB5.out.cell rfl
     have HI5 : Hid (Ints w5 (some ⟨pb, 0, none⟩) m p.dn pre) := Ints.own HMM.out (own_grew HO2.out G5.out)
     have HM : Hid (improve (envP p) 0 pre c ⟨fuel, true, best, cost⟩ = (⟨fuel - 1, true, pre, c⟩, true)) := by
      unfold Hid improve; simp only; rw [if_neg (by omega), if_neg (by rw [HN.out]; simp)]
     go_wp2_with fail
     refine (clone78 HI5.out (by omega)).mono ?_
     rintro r w6 ⟨A6, c6, rfl, own6, g6⟩
     have HB6 := Lib.hid (HB5.out.grew g6)
     have G6 := Lib.hid (G5.out.trans g6)
     have HOW6 := Lib.hid own6
     have hpb : pb < w5.heap.size := by
      rcases (own_grew HO2.out G5.out).2 with ⟨h0, _⟩ | ⟨g', cap, cur, h1, _, h3, _⟩
      ·injection h0 with h0; cases h0
      ·injection h1 with h1 _ _; injection h1 with h1; injection h1 with h1; subst h1; exact (Array.getElem?_eq_some_iff.1 h3).1
     have HPB := Lib.hid hpb
     have c14 : w6.cell? ⟨sb, 14, none⟩ = some (.bool true) := HB6.out.cell rfl
     have f14 := HB6.out.frozen 14
     have HB7 := Lib.hid (HB6.out.set 14 (.bool true))
     have c15 : (w6.setCell ⟨sb, 14, none⟩ (.bool true)).cell? ⟨sb, 15, none⟩ = some (.slice BA bn bc) := HB7.out.cell rfl
     have f15 := HB7.out.frozen 15
     have HB8 := Lib.hid (HB7.out.set 15 (.slice A6 m c6))
     have c16 : ((w6.setCell ⟨sb, 14, none⟩ (.bool true)).setCell ⟨sb, 15, none⟩ (.slice A6 m c6)).cell? ⟨sb, 16, none⟩ = some (.int .i64 cost) := HB8.out.cell rfl
     have f16 := HB8.out.frozen 16
     have HB9 := Lib.hid (HB8.out.set 16 (.int .i64 c))
     clear own6 g6 c3 hpb
     go_wp2
     go_ret2
     have k14 := grown_set w6 sb 14 (.bool true)
     have k15 := grown_set (w6.setCell ⟨sb, 14, none⟩ (.bool true)) sb 15 (.slice A6 m c6)
     have k16 := grown_set ((w6.setCell ⟨sb, 14, none⟩ (.bool true)).setCell ⟨sb, 15, none⟩ (.slice A6 m c6)) sb 16 (.int .i64 c)
     have hsb := HNE.out.2.2.2.1
     have own3 : ∀ {v n xs} {base : Nat}, w6.ownsRow base 3 1 v n xs → (((w6.setCell ⟨sb, 14, none⟩ (.bool true)).setCell ⟨sb, 15, none⟩ (.slice A6 m c6)).setCell ⟨sb, 16, none⟩ (.int .i64 c)).ownsRow base 3 1 v n xs := fun h =>
      own_set (own_set (own_set h HB6.out (by decide) _ _) HB7.out (by decide) _ _) HB8.out (by decide) _ _
     refine ⟨(((HG2.out.trans G6.out).grown k14 (fun q hq => by injection hq with hq; omega)).grown k15 (fun q hq => by injection hq with hq; omega)).grown k16 (fun q hq => by injection hq with hq; omega), 0, by unfold impF; rw [HM.out]; rfl, .inr ⟨by unfold impF; rw [HM.out]; rfl, ?_, by rw [HMM.out]; exact own3 (own_grew HO2.out G6.out)⟩⟩
     unfold impF; rw [HM.out]
     refine ⟨⟨A6, m, c6, HB9.out, fun _ => ⟨by omega, own3 (own_base HOW6.out (HG2.out.trans G5.out).le), fun q hq => ?_⟩⟩, ?_, ⟨by show 0 ≤ fuel - 1; omega, by show fuel - 1 ≤ 1000000; omega⟩, ⟨by show 0 ≤ c; omega, by show c ≤ 1000000000000; omega⟩⟩
     ·have h1 := (HOW6.out.lt q hq).1
      have := HPB.out
      omega
     ·have hls : some lb ≠ some sb := fun e => HNE.out.2.2.1 (by injection e)
      exact (((HL2.out.grew G6.out).kept k14 hls).kept k15 hls).kept k16 hls
theorem improve_succ (E : Env) (k : Nat) (pre : List Int) (c : Int) (s : St) : improve E (k + 1) pre c s =
  if s.fuel - 1 < 0 then ({ s with fuel := s.fuel - 1 }, false)
  else if (s.found && decide (s.cost ≤ c + leastR E (k + 1))) || !clean E pre then ({ s with fuel := s.fuel - 1 }, true)
  else ext (fun w s => improve E k (pre ++ [(w : Int)]) (c + E.wage w * E.dur pre.length) s) (List.range E.nW) { s with fuel := s.fuel - 1 } := rfl
theorem each80 {σ : Type} {w1 y : World} {Sp : World → σ → Prop} {s : σ} {j : Int} {pb dn : Nat} (hg : Grew w1 y) (hs : Sp y s) :
  Calls Tryz.prog 80 (#[.int .i64 j] ++ #[]) y fun r y' => r = .returned (.tuple #[]) ∧ Grew w1 y' ∧ Sp y' s ∧ ∀ n xs, y.ownsRow w1.heap.size 3 1 (.slice (some ⟨pb, 0, none⟩) n dn) n xs → y'.ownsRow w1.heap.size 3 1 (.slice (some ⟨pb, 0, none⟩) n dn) n xs := by
 show Calls Tryz.prog 80 #[.int .i64 j] y _
 go_enter Tryz.func80, Tryz.ntmps80
 go_wp2
 refine bodyPost_end (results_none rfl _ _ _) rfl ?_
 exact ⟨rfl, hg, hs, fun _ _ h => h⟩
set_option maxRecDepth 100000 in
set_option maxHeartbeats 16000000 in
theorem imp_succ {p : Pl} {w1 : World} {cb sb lb pb : Nat} (hck : CkAt w1 cb p) (ok : planB p = true) (hne : sb ≠ pb ∧ lb ≠ pb ∧ lb ≠ sb ∧ w1.heap.size ≤ sb ∧ w1.heap.size ≤ pb) {k : Nat}
  (IH : ∀ (pre : List Int) (c : Int), pre.length + k = p.dn → (∀ x ∈ pre, 0 ≤ x ∧ x < p.wn) → (0 ≤ c ∧ c ≤ pre.length * 1440000000) → ∀ (y : World) (st : St), Grew w1 y → ImpAt p w1 cb sb lb pb y st → y.ownsRow w1.heap.size 3 1 (.slice (some ⟨pb, 0, none⟩) pre.length p.dn) pre.length (pre.map iv) →
   Calls Tryz.prog 35 #[.pointer (some ⟨sb, 0, none⟩), .slice (some ⟨pb, 0, none⟩) pre.length p.dn, .int .i64 c] y (RetVi (ImpAt p w1 cb sb lb pb) w1 pb p.dn pre (impF (envP p) k pre c st)))
  {pre : List Int} {c : Int} (hk : pre.length + (k + 1) = p.dn) (hpr : ∀ x ∈ pre, 0 ≤ x ∧ x < p.wn) (hcb : 0 ≤ c ∧ c ≤ pre.length * 1440000000)
  {y : World} {st : St} (hg : Grew w1 y) (hI : ImpAt p w1 cb sb lb pb y st) (ho : y.ownsRow w1.heap.size 3 1 (.slice (some ⟨pb, 0, none⟩) pre.length p.dn) pre.length (pre.map iv)) :
  Calls Tryz.prog 35 #[.pointer (some ⟨sb, 0, none⟩), .slice (some ⟨pb, 0, none⟩) pre.length p.dn, .int .i64 c] y (RetVi (ImpAt p w1 cb sb lb pb) w1 pb p.dn pre (impF (envP p) (k + 1) pre c st)) := by
 obtain ⟨⟨BA, bn, bc, hb, hbf⟩, hl, hfu, hco⟩ := hI
 obtain ⟨fuel, fd, best, cost⟩ := st
 simp only at hb hbf hfu hco
 have HCK := Lib.hid hck
 have HBD := Lib.hid (env_bd hck.1 ok)
 have dn24 : p.dn ≤ 24 := HBD.out.nD
 have HB := Lib.hid hb
 have HL := Lib.hid hl
 have HBF := Lib.hid hbf
 have HO := Lib.hid ho
 have HG := Lib.hid hg
 have HPR := Lib.hid hpr
 have HNE := Lib.hid hne
 have HCO := Lib.hid hco
 have hlk := least_bd HBD.out (k + 1)
 obtain ⟨m, hmm⟩ : ∃ m, pre.length = m := ⟨_, rfl⟩
 have HMM := Lib.hid hmm
 rw [hmm] at HO hk hcb ⊢
 obtain ⟨z, hz⟩ : ∃ z, leastR (envP p) (k + 1) = z := ⟨_, rfl⟩
 rw [hz] at hlk
 have HZ := Lib.hid hz
 have HIH := Lib.hid IH
 clear IH
 clear hck hb hbf hl ho hg hpr hne hmm hz
 obtain ⟨t, ht⟩ : ∃ t, decide (1 ≤ fuel) = t := ⟨_, rfl⟩
 have HT := Lib.hid ht
 clear ht
 go_enter Tryz.func35, Tryz.ntmps35
 go_wp2_with fail
 refine (burn76 HB.out ⟨by omega, by omega⟩ HT.out).mono ?_
 rintro r w2 ⟨rfl, hw2⟩
 have hset := grown_set y sb 12 (.int .i64 (fuel - 1))
 rw [← hw2] at hset
 have HB2 : Hid (Blk w2 sb 94 (srC p cb (.slice (some ⟨lb, 0, none⟩) (p.dn + 1) (p.dn + 1)) (fuel - 1) (.func (.func 35) #[.pointer (some ⟨sb, 0, none⟩)] #[]) fd (.slice BA bn bc) cost (.slice none 0 0))) := by unfold Hid; rw [hw2]; exact HB.out.set 12 _
 have HL2 : Hid (Blk w2 lb 3 (lstF (envP p) p.dn 0)) := HL.out.kept hset (fun e => HNE.out.2.2.1 (by injection e))
 have HO2 : Hid (w2.ownsRow w1.heap.size 3 1 (.slice (some ⟨pb, 0, none⟩) m p.dn) m (pre.map iv)) := HO.out.kept hset (own_blk' HO.out HB.out (by decide))
 have HG2 : Hid (Grew w1 w2) := HG.out.grown hset (fun q hq => by injection hq with hq; have := HNE.out.2.2.2.1; omega)
 have HBF2 : Hid (fd = true → bn = p.dn ∧ w2.ownsRow w1.heap.size 3 1 (.slice BA bn bc) bn (best.map iv) ∧ ∀ q, (Value.slice BA bn bc).ownBlock = some q → q ≠ pb) := fun h => by
  obtain ⟨e1, e2, e3⟩ := HBF.out h
  exact ⟨e1, e2.kept hset (own_blk' e2 HB.out (by decide)), e3⟩
 clear hset hw2 HB HL HO HG HBF
 cases t with
 | false =>
  have hf0 : fuel = 0 := by have := of_decide_eq_false HT.out; omega
  have HM : Hid (improve (envP p) (k + 1) pre c ⟨fuel, fd, best, cost⟩ = (⟨fuel - 1, fd, best, cost⟩, false)) := by
   unfold Hid improve; simp only; rw [if_pos (by omega)]
  clear hf0
  go_wp2
  go_ret2
  exact ⟨HG2.out, 0, by unfold impF; rw [HM.out]; rfl, .inl (by unfold impF; rw [HM.out]; rfl)⟩
 | true =>
  have hf1 : 1 ≤ fuel := of_decide_eq_true HT.out
  have e1 : IntKind.i64.wrap (c + z) = c + z := IntWalk.i64_in _ (by omega)
  have i1 : (0 : Int) ≤ (m : Int) := by omega
  have i2 : (m : Int) < (p.dn : Int) + 1 := by omega
  have hA : ∀ w', Grew w2.drew w' → w'.cell? ⟨sb, 14, none⟩ = some (.bool fd) ∧ w'.cell? ⟨sb, 11, none⟩ = some (.slice (some ⟨lb, 0, none⟩) (p.dn + 1) (p.dn + 1)) ∧ w'.cell? ⟨lb, m, none⟩ = some (.int .i64 z) ∧ w'.cell? ⟨sb, 16, none⟩ = some (.int .i64 cost) := fun w' g' => by
   have gg := (Grew.refl w2).drew.trans g'
   have hbg := HB2.out.grew gg
   refine ⟨hbg.cell rfl, hbg.cell rfl, ?_, hbg.cell rfl⟩
   have h1 := (HL2.out.grew gg).cell (lstF_at (E := envP p) (n := p.dn) (d := 0) (i := m) (by omega))
   rw [if_pos (Nat.zero_le _), show p.dn - m = (k + 1) by omega, HZ.out] at h1
   exact h1
  have HA := Lib.hid hA
  have HIN : Hid (Ints w2 (some ⟨pb, 0, none⟩) m p.dn pre) := Ints.own HMM.out HO2.out
  have hmd : m ≤ p.dn := by omega
  obtain ⟨t2, ht2⟩ : ∃ t, clean (envP p) pre = t := ⟨_, rfl⟩
  have HT2 := Lib.hid ht2
  clear hA ht2
  have hcl : ∀ w', Grew w2.drew w' → Calls Tryz.prog 77 #[.pointer (some ⟨sb, 0, none⟩), .slice (some ⟨pb, 0, none⟩) m p.dn] w' fun r w'' => r = .returned (.bool t2) ∧ Grew w' w'' := fun w' g' => by
   have gg := (Grew.refl w2).drew.trans g'
   exact clean77 (HB2.out.grew gg) (HCK.out.grew (HG2.out.trans gg)) ok (HIN.out.grew gg) hmd HPR.out HT2.out
  have HCL := Lib.hid hcl
  clear hcl
  have HGE : Hid (leastR (envP p) (k + 1) = z) := HZ
  cases fd with
  | false =>
   cases t2 with
   | false =>
    go_upto_region 3 with (fail)
    refine wp_region_seq (by kernel_rfl) Grew.refl (fun _ _ _ => Grew.trans) (fun _ _ _ _ _ h => h) (by kernel_rfl) ?_
    repeat (first
     | (refine TakeAll.pure (v := ?_) (by rfl) ?_ ?_; rotate_left; (intro w' g'; obtain ⟨q0, q1, q2, q3⟩ := HA.out w' g'; go_simp; first | done | with_reducible rfl); (simp only [Act.put, uzT, uz0, uz1]))
     | (refine TakeAll.skip (by rfl) ?_; (simp only [Act.put, uzT, uz0, uz1])))
    refine TakeAll.call (by rfl) 77 _ (fun _ => by go_simp; first | done | rfl) (fun w' g' => HCL.out w' g') ?_
    simp only [Act.put, uzT, uz0, uz1]
    repeat (first
     | (refine TakeAll.pure (v := ?_) (by rfl) ?_ ?_; rotate_left; (intro w' g'; obtain ⟨q0, q1, q2, q3⟩ := HA.out w' g'; go_simp; first | done | with_reducible rfl); (simp only [Act.put, uzT, uz0, uz1]))
     | (refine TakeAll.skip (by rfl) ?_; (simp only [Act.put, uzT, uz0, uz1])))
    refine TakeAll.nil ?_
    intro w5 g5
    have G5 := Lib.hid ((Grew.refl w2).drew.trans g5)
    clear HA HCL HIN g5
    have HM : Hid (improve (envP p) (k + 1) pre c ⟨fuel, false, best, cost⟩ = (⟨fuel - 1, false, best, cost⟩, true)) := by
     unfold Hid improve; simp only; rw [if_neg (by omega), if_pos (by rw [HT2.out]; rfl)]
    go_wp2
    go_ret2
    refine ⟨HG2.out.trans G5.out, 0, by unfold impF; rw [HM.out]; rfl, .inr ⟨by unfold impF; rw [HM.out]; rfl, ?_, by rw [HMM.out]; exact own_grew HO2.out G5.out⟩⟩
    unfold impF; rw [HM.out]
    exact ⟨⟨BA, bn, bc, HB2.out.grew G5.out, fun h => by obtain ⟨e1, e2, e3⟩ := HBF2.out (by first | exact h | exact trivial); exact ⟨e1, own_grew e2 G5.out, e3⟩⟩, HL2.out.grew G5.out, ⟨by show 0 ≤ fuel - 1; omega, by show fuel - 1 ≤ 1000000; omega⟩, HCO.out⟩
   | true =>
    have HN : Hid (((false && decide (cost ≤ c + leastR (envP p) (k + 1))) || !clean (envP p) pre) = false) := by unfold Hid; rw [HT2.out]; rfl
    go_upto_region 3 with (fail)
    refine wp_region_seq (by kernel_rfl) Grew.refl (fun _ _ _ => Grew.trans) (fun _ _ _ _ _ h => h) (by kernel_rfl) ?_
    repeat (first
     | (refine TakeAll.pure (v := ?_) (by rfl) ?_ ?_; rotate_left; (intro w' g'; obtain ⟨q0, q1, q2, q3⟩ := HA.out w' g'; go_simp; first | done | with_reducible rfl); (simp only [Act.put, uzT, uz0, uz1]))
     | (refine TakeAll.skip (by rfl) ?_; (simp only [Act.put, uzT, uz0, uz1])))
    refine TakeAll.call (by rfl) 77 _ (fun _ => by go_simp; first | done | rfl) (fun w' g' => HCL.out w' g') ?_
    simp only [Act.put, uzT, uz0, uz1]
    repeat (first
     | (refine TakeAll.pure (v := ?_) (by rfl) ?_ ?_; rotate_left; (intro w' g'; obtain ⟨q0, q1, q2, q3⟩ := HA.out w' g'; go_simp; first | done | with_reducible rfl); (simp only [Act.put, uzT, uz0, uz1]))
     | (refine TakeAll.skip (by rfl) ?_; (simp only [Act.put, uzT, uz0, uz1])))
    refine TakeAll.nil ?_
    intro w5 g5
    have G5 := Lib.hid ((Grew.refl w2).drew.trans g5)
    clear HA HCL HIN g5
    have q1 : (m == p.dn) = false := by simp; omega
    have q2 : ((m : Int) == (p.dn : Int)) = false := by simp; omega
    have HB5 := Lib.hid (HB2.out.grew G5.out)
    have c3 : w5.cell? ⟨sb, 3, none⟩ = some (.slice p.D p.dn p.dc) := HB5.out.cell rfl
    have HM : Hid (improve (envP p) (k + 1) pre c ⟨fuel, false, best, cost⟩ = extG (fun i s => impF (envP p) k (pre ++ [(i : Int)]) (c + (envP p).wage i * (envP p).dur pre.length) s) (fun _ s => s) (List.range p.wn) ⟨fuel - 1, false, best, cost⟩) := by
     unfold Hid
     rw [← ext_G, improve_succ, if_neg (by show ¬ fuel - 1 < 0; omega), if_neg (by show ¬ _ = true; rw [HN.out]; simp)]
     rfl
    have HIA : Hid (ImpAt p w1 cb sb lb pb w5 ⟨fuel - 1, false, best, cost⟩) := ⟨⟨BA, bn, bc, HB5.out, fun h => by obtain ⟨e1, e2, e3⟩ := HBF2.out (by first | exact h | exact trivial); exact ⟨e1, own_grew e2 G5.out, e3⟩⟩, HL2.out.grew G5.out, ⟨by show 0 ≤ fuel - 1; omega, by show fuel - 1 ≤ 1000000; omega⟩, HCO.out⟩
    have hx := extend79 HCK.out.1 ok (sb := sb) (pb := pb) (pre := pre) (c := c) (by rw [HMM.out]; omega) ⟨by omega, by omega⟩ (fun _ => ImpAt p w1 cb sb lb pb) (fun i s => impF (envP p) k (pre ++ [(i : Int)]) (c + (envP p).wage i * (envP p).dur pre.length) s) (fun _ s => s) 35 80 #[] (enters_of Tryz.func35 (by kernel_rfl) rfl) (enters_of Tryz.func80 (by kernel_rfl) rfl)
     (fun _ y y' s h g _ => h.kept g HNE.out.1 HNE.out.2.1) (fun _ y s h => by obtain ⟨⟨BA, bn, bc, hb, _⟩, _⟩ := h; exact ⟨_, hb, rfl, rfl, rfl⟩)
     (fun y s i hi hg hs ho => by
      have hwd := mul_bd (HBD.out.wage i) (HBD.out.dur pre.length)
      have h1 := HIH.out (pre ++ [(i : Int)]) (c + (envP p).wage i * (envP p).dur pre.length) (by rw [List.length_append, HMM.out]; show m + 1 + k = p.dn; omega) (fun x hx => by
       rcases List.mem_append.1 hx with h | h
       ·exact HPR.out x h
       ·rw [List.mem_singleton] at h; subst h; exact ⟨by omega, by omega⟩) ⟨by omega, by rw [List.length_append, HMM.out]; show _ ≤ ((m + 1 : Nat) : Int) * 1440000000; rw [Int.natCast_add, Int.add_mul]; show _ ≤ (m : Int) * 1440000000 + 1440000000; rw [HMM.out] at hwd; exact Int.add_le_add hcb.2 hwd.2⟩ y s hg hs (by rw [List.length_append]; exact ho)
      rw [show (pre ++ [(i : Int)]).length = pre.length + 1 from List.length_append] at h1
      exact h1)
     (fun _ y s j _ hg hs _ => each80 hg hs) (HG2.out.trans G5.out) HIA.out (by rw [HMM.out]; exact own_grew HO2.out G5.out)
    rw [HMM.out] at hx
    have HX := Lib.hid hx
    clear hx
    go_wp2_with fail
    refine HX.out.mono ?_
    rintro r w6 ⟨hg6, rfl, hs6⟩
    have HG6 := Lib.hid hg6
    have HS6 := Lib.hid hs6
    clear hg6 hs6 c3
    obtain ⟨fin, hfin⟩ : ∃ q, extG (fun i s => impF (envP p) k (pre ++ [(i : Int)]) (c + (envP p).wage i * (envP p).dur pre.length) s) (fun _ s => s) (List.range p.wn) ⟨fuel - 1, false, best, cost⟩ = q := ⟨_, rfl⟩
    rw [← HMM.out, hfin] at HS6
    rw [hfin] at HM
    rw [← HMM.out, hfin]
    clear hfin
    obtain ⟨s6, b6⟩ := fin
    cases b6 with
    | false =>
     go_wp2
     go_ret2
     exact ⟨HG6.out, 0, by unfold impF; rw [HM.out]; rfl, .inl (by unfold impF; rw [HM.out]; rfl)⟩
    | true =>
     obtain ⟨h7, h8⟩ := HS6.out rfl
     have H7 := Lib.hid h7
     have H8 := Lib.hid h8
     clear h7 h8
     go_wp2
     go_ret2
     exact ⟨HG6.out, 0, by unfold impF; rw [HM.out]; rfl, .inr ⟨by unfold impF; rw [HM.out]; rfl, by unfold impF; rw [HM.out]; exact H7.out, H8.out⟩⟩
  | true =>
   by_cases hge : cost ≤ c + z
   ·have q9 : decide (cost ≤ c + z) = true := decide_eq_true hge
    go_upto_region 3 with (fail)
    refine wp_region_seq (by kernel_rfl) Grew.refl (fun _ _ _ => Grew.trans) (fun _ _ _ _ _ h => h) (by kernel_rfl) ?_
    repeat (first
     | (refine TakeAll.pure (v := ?_) (by rfl) ?_ ?_; rotate_left; (intro w' g'; obtain ⟨q0, q1, q2, q3⟩ := HA.out w' g'; go_simp; first | done | with_reducible rfl); (simp only [Act.put, uzT, uz0, uz1]))
     | (refine TakeAll.skip (by rfl) ?_; (simp only [Act.put, uzT, uz0, uz1])))
    refine TakeAll.nil ?_
    intro w5 g5
    have G5 := Lib.hid ((Grew.refl w2).drew.trans g5)
    clear HA HCL HIN g5
    have HM : Hid (improve (envP p) (k + 1) pre c ⟨fuel, true, best, cost⟩ = (⟨fuel - 1, true, best, cost⟩, true)) := by
     unfold Hid improve; simp only; rw [if_neg (by omega), if_pos (by rw [HZ.out, q9]; rfl)]
    go_wp2
    go_ret2
    refine ⟨HG2.out.trans G5.out, 0, by unfold impF; rw [HM.out]; rfl, .inr ⟨by unfold impF; rw [HM.out]; rfl, ?_, by rw [HMM.out]; exact own_grew HO2.out G5.out⟩⟩
    unfold impF; rw [HM.out]
    exact ⟨⟨BA, bn, bc, HB2.out.grew G5.out, fun h => by obtain ⟨e1, e2, e3⟩ := HBF2.out (by first | exact h | exact trivial); exact ⟨e1, own_grew e2 G5.out, e3⟩⟩, HL2.out.grew G5.out, ⟨by show 0 ≤ fuel - 1; omega, by show fuel - 1 ≤ 1000000; omega⟩, HCO.out⟩
   ·have q9 : decide (cost ≤ c + z) = false := decide_eq_false hge
    cases t2 with
    | false =>
     go_upto_region 3 with (fail)
     refine wp_region_seq (by kernel_rfl) Grew.refl (fun _ _ _ => Grew.trans) (fun _ _ _ _ _ h => h) (by kernel_rfl) ?_
     repeat (first
      | (refine TakeAll.pure (v := ?_) (by rfl) ?_ ?_; rotate_left; (intro w' g'; obtain ⟨q0, q1, q2, q3⟩ := HA.out w' g'; go_simp; first | done | with_reducible rfl); (simp only [Act.put, uzT, uz0, uz1]))
      | (refine TakeAll.skip (by rfl) ?_; (simp only [Act.put, uzT, uz0, uz1])))
     refine TakeAll.call (by rfl) 77 _ (fun _ => by go_simp; first | done | rfl) (fun w' g' => HCL.out w' g') ?_
     simp only [Act.put, uzT, uz0, uz1]
     repeat (first
      | (refine TakeAll.pure (v := ?_) (by rfl) ?_ ?_; rotate_left; (intro w' g'; obtain ⟨q0, q1, q2, q3⟩ := HA.out w' g'; go_simp; first | done | with_reducible rfl); (simp only [Act.put, uzT, uz0, uz1]))
      | (refine TakeAll.skip (by rfl) ?_; (simp only [Act.put, uzT, uz0, uz1])))
     refine TakeAll.nil ?_
     intro w5 g5
     have G5 := Lib.hid ((Grew.refl w2).drew.trans g5)
     clear HA HCL HIN g5
     have HM : Hid (improve (envP p) (k + 1) pre c ⟨fuel, true, best, cost⟩ = (⟨fuel - 1, true, best, cost⟩, true)) := by
      unfold Hid improve; simp only; rw [if_neg (by omega), if_pos (by rw [HZ.out, q9, HT2.out]; rfl)]
     go_wp2
     go_ret2
     refine ⟨HG2.out.trans G5.out, 0, by unfold impF; rw [HM.out]; rfl, .inr ⟨by unfold impF; rw [HM.out]; rfl, ?_, by rw [HMM.out]; exact own_grew HO2.out G5.out⟩⟩
     unfold impF; rw [HM.out]
     exact ⟨⟨BA, bn, bc, HB2.out.grew G5.out, fun h => by obtain ⟨e1, e2, e3⟩ := HBF2.out (by first | exact h | exact trivial); exact ⟨e1, own_grew e2 G5.out, e3⟩⟩, HL2.out.grew G5.out, ⟨by show 0 ≤ fuel - 1; omega, by show fuel - 1 ≤ 1000000; omega⟩, HCO.out⟩
    | true =>
     have HN : Hid (((true && decide (cost ≤ c + leastR (envP p) (k + 1))) || !clean (envP p) pre) = false) := by unfold Hid; rw [HZ.out, q9, HT2.out]; rfl
     clear hge
     go_upto_region 3 with (fail)
     refine wp_region_seq (by kernel_rfl) Grew.refl (fun _ _ _ => Grew.trans) (fun _ _ _ _ _ h => h) (by kernel_rfl) ?_
     repeat (first
      | (refine TakeAll.pure (v := ?_) (by rfl) ?_ ?_; rotate_left; (intro w' g'; obtain ⟨q0, q1, q2, q3⟩ := HA.out w' g'; go_simp; first | done | with_reducible rfl); (simp only [Act.put, uzT, uz0, uz1]))
      | (refine TakeAll.skip (by rfl) ?_; (simp only [Act.put, uzT, uz0, uz1])))
     refine TakeAll.call (by rfl) 77 _ (fun _ => by go_simp; first | done | rfl) (fun w' g' => HCL.out w' g') ?_
     simp only [Act.put, uzT, uz0, uz1]
     repeat (first
      | (refine TakeAll.pure (v := ?_) (by rfl) ?_ ?_; rotate_left; (intro w' g'; obtain ⟨q0, q1, q2, q3⟩ := HA.out w' g'; go_simp; first | done | with_reducible rfl); (simp only [Act.put, uzT, uz0, uz1]))
      | (refine TakeAll.skip (by rfl) ?_; (simp only [Act.put, uzT, uz0, uz1])))
     refine TakeAll.nil ?_
     intro w5 g5
     have G5 := Lib.hid ((Grew.refl w2).drew.trans g5)
     clear HA HCL HIN g5
     have q1 : (m == p.dn) = false := by simp; omega
     have q2 : ((m : Int) == (p.dn : Int)) = false := by simp; omega
     have HB5 := Lib.hid (HB2.out.grew G5.out)
     have c3 : w5.cell? ⟨sb, 3, none⟩ = some (.slice p.D p.dn p.dc) := HB5.out.cell rfl
     have HM : Hid (improve (envP p) (k + 1) pre c ⟨fuel, true, best, cost⟩ = extG (fun i s => impF (envP p) k (pre ++ [(i : Int)]) (c + (envP p).wage i * (envP p).dur pre.length) s) (fun _ s => s) (List.range p.wn) ⟨fuel - 1, true, best, cost⟩) := by
      unfold Hid
      rw [← ext_G, improve_succ, if_neg (by show ¬ fuel - 1 < 0; omega), if_neg (by show ¬ _ = true; rw [HN.out]; simp)]
      rfl
     have HIA : Hid (ImpAt p w1 cb sb lb pb w5 ⟨fuel - 1, true, best, cost⟩) := ⟨⟨BA, bn, bc, HB5.out, fun h => by obtain ⟨e1, e2, e3⟩ := HBF2.out (by first | exact h | exact trivial); exact ⟨e1, own_grew e2 G5.out, e3⟩⟩, HL2.out.grew G5.out, ⟨by show 0 ≤ fuel - 1; omega, by show fuel - 1 ≤ 1000000; omega⟩, HCO.out⟩
     have hx := extend79 HCK.out.1 ok (sb := sb) (pb := pb) (pre := pre) (c := c) (by rw [HMM.out]; omega) ⟨by omega, by omega⟩ (fun _ => ImpAt p w1 cb sb lb pb) (fun i s => impF (envP p) k (pre ++ [(i : Int)]) (c + (envP p).wage i * (envP p).dur pre.length) s) (fun _ s => s) 35 80 #[] (enters_of Tryz.func35 (by kernel_rfl) rfl) (enters_of Tryz.func80 (by kernel_rfl) rfl)
      (fun _ y y' s h g _ => h.kept g HNE.out.1 HNE.out.2.1) (fun _ y s h => by obtain ⟨⟨BA, bn, bc, hb, _⟩, _⟩ := h; exact ⟨_, hb, rfl, rfl, rfl⟩)
      (fun y s i hi hg hs ho => by
       have hwd := mul_bd (HBD.out.wage i) (HBD.out.dur pre.length)
       have h1 := HIH.out (pre ++ [(i : Int)]) (c + (envP p).wage i * (envP p).dur pre.length) (by rw [List.length_append, HMM.out]; show m + 1 + k = p.dn; omega) (fun x hx => by
        rcases List.mem_append.1 hx with h | h
        ·exact HPR.out x h
        ·rw [List.mem_singleton] at h; subst h; exact ⟨by omega, by omega⟩) ⟨by omega, by rw [List.length_append, HMM.out]; show _ ≤ ((m + 1 : Nat) : Int) * 1440000000; rw [Int.natCast_add, Int.add_mul]; show _ ≤ (m : Int) * 1440000000 + 1440000000; rw [HMM.out] at hwd; exact Int.add_le_add hcb.2 hwd.2⟩ y s hg hs (by rw [List.length_append]; exact ho)
       rw [show (pre ++ [(i : Int)]).length = pre.length + 1 from List.length_append] at h1
       exact h1)
      (fun _ y s j _ hg hs _ => each80 hg hs) (HG2.out.trans G5.out) HIA.out (by rw [HMM.out]; exact own_grew HO2.out G5.out)
     rw [HMM.out] at hx
     have HX := Lib.hid hx
     clear hx
     go_wp2_with fail
     refine HX.out.mono ?_
     rintro r w6 ⟨hg6, rfl, hs6⟩
     have HG6 := Lib.hid hg6
     have HS6 := Lib.hid hs6
     clear hg6 hs6 c3
     obtain ⟨fin, hfin⟩ : ∃ q, extG (fun i s => impF (envP p) k (pre ++ [(i : Int)]) (c + (envP p).wage i * (envP p).dur pre.length) s) (fun _ s => s) (List.range p.wn) ⟨fuel - 1, true, best, cost⟩ = q := ⟨_, rfl⟩
     rw [← HMM.out, hfin] at HS6
     rw [hfin] at HM
     rw [← HMM.out, hfin]
     clear hfin
     obtain ⟨s6, b6⟩ := fin
     cases b6 with
     | false =>
      go_wp2
      go_ret2
      exact ⟨HG6.out, 0, by unfold impF; rw [HM.out]; rfl, .inl (by unfold impF; rw [HM.out]; rfl)⟩
     | true =>
      obtain ⟨h7, h8⟩ := HS6.out rfl
      have H7 := Lib.hid h7
      have H8 := Lib.hid h8
      clear h7 h8
      go_wp2
      go_ret2
      exact ⟨HG6.out, 0, by unfold impF; rw [HM.out]; rfl, .inr ⟨by unfold impF; rw [HM.out]; rfl, by unfold impF; rw [HM.out]; exact H7.out, H8.out⟩⟩
theorem improve35 {p : Pl} {w1 : World} {cb sb lb pb : Nat} (hck : CkAt w1 cb p) (ok : planB p = true) (hne : sb ≠ pb ∧ lb ≠ pb ∧ lb ≠ sb ∧ w1.heap.size ≤ sb ∧ w1.heap.size ≤ pb) : ∀ (k : Nat) (pre : List Int) (c : Int), pre.length + k = p.dn → (∀ x ∈ pre, 0 ≤ x ∧ x < p.wn) → (0 ≤ c ∧ c ≤ pre.length * 1440000000) → ∀ (y : World) (st : St), Grew w1 y → ImpAt p w1 cb sb lb pb y st → y.ownsRow w1.heap.size 3 1 (.slice (some ⟨pb, 0, none⟩) pre.length p.dn) pre.length (pre.map iv) →
   Calls Tryz.prog 35 #[.pointer (some ⟨sb, 0, none⟩), .slice (some ⟨pb, 0, none⟩) pre.length p.dn, .int .i64 c] y (RetVi (ImpAt p w1 cb sb lb pb) w1 pb p.dn pre (impF (envP p) k pre c st))
 | 0, _, _, hk, hpr, hcb, _, _, hg, hI, ho => imp_zero hck ok hne hk hpr hcb hg hI ho
 | k + 1, _, _, hk, hpr, hcb, _, _, hg, hI, ho => imp_succ hck ok hne (improve35 hck ok hne k) hk hpr hcb hg hI ho
end Go.Proofs.YtnnbibmmofnkdaaGreat
