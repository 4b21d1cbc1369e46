/-
 Punches: aligned, and the minutes that were worked.
-/
import Derived.Test.YtnnbibmmofnkdaaGreatPunE
namespace Go.Proofs.YtnnbibmmofnkdaaGreat
open Go.RowKit Go.Proofs WageMem WageReg WageRec WageSpan WageTop
theorem mtL_at {N r : Nat} (hr : r < N) : (mtL N)[r]? = some (mtF r) := by unfold mtL; rw [List.getElem?_map, List.getElem?_range hr]; rfl
set_option maxRecDepth 100000 in
set_option maxHeartbeats 8000000 in
theorem aligned68 {w : World} {M B C : Option Addr} {N n mc e f : Nat} {ds : List Du} (hm : Recs encM 3 w M N mc (mkL ds n)) (ht : Recs encT 3 w C N f (mtL N)) (hN : N = 2 * n) (hN48 : N ≤ 48) :
  Calls Tryz.prog 68 #[.slice M N mc, .slice B N e, .slice C N f] w fun r w' => r = .returned (.bool true) ∧ Grew w w' := by
 have HM := Lib.hid hm
 have HT := Lib.hid ht
 have HN := Lib.hid hN
 clear hm ht hN
 go_enter Tryz.func68, Tryz.ntmps68
 go_wp2_with fail
 go_loopw [7, 8, 13] (fun i k j y => ∃ r : Nat, r ≤ N ∧ i = .int .i64 r ∧ k = .int .i64 r ∧ j = .int .i64 r ∧ Hid (Grew w y)) (fun i _ _ _ => N - (intOf i).toNat)
 case atStart => exact ⟨0, Nat.zero_le _, rfl, rfl, rfl, Grew.refl _⟩
 case round =>
  obtain ⟨r, hr, rfl, rfl, rfl, HR⟩ := hrel
  by_cases hlt : r < N
  ·have hr2 : r < 2 * n := by have := HN.out; omega
   obtain ⟨bm, om, mk, hMA, hmk, c1, c2, c3⟩ := Recs.mk' (HM.out.grew HR.out) hlt
   obtain ⟨bt, ot, mt, hTA, hmt, d1, d2, d3⟩ := Recs.mt (HT.out.grew HR.out) hlt
   rw [mkL_at hr2] at hmk
   rw [mtL_at hlt] at hmt
   injection hmk with hmk
   injection hmt with hmt
   subst hmk hmt hMA hTA
   obtain ⟨d, hd⟩ : ∃ d : Int, d = ((r / 2 : Nat) : Int) := ⟨_, rfl⟩
   obtain ⟨b, hb⟩ : ∃ b : Bool, b = decide (r % 2 = 0) := ⟨_, rfl⟩
   simp only [mkF, mtF] at c1 c2 d1 d2 d3
   rw [← hd] at c1 d1
   rw [← hb] at c2 d2
   have t1 : decide ((r : Int) < (N : Int)) = true := decide_eq_true (by omega)
   have t2 : decide (N ≤ r) = false := decide_eq_false (by omega)
   have q1 : (d == -1) = false := beq_eq_false_iff_ne.2 (by omega)
   have q2 : ((r : Int) == -1) = false := beq_eq_false_iff_ne.2 (by omega)
   have e1 : (0 : Int) ≤ (r : Int) := by omega
   have e2 : (r : Int) < (N : Int) := by omega
   clear hd hb c3
   obtain ⟨wa, hwa⟩ : ∃ z, z = wr.alloc (.cells #[.int .i64 d, .bool b, .int .i64 (r : Int)] 145) := ⟨_, rfl⟩
   obtain ⟨rb, hrb⟩ : ∃ z, z = wr.heap.size := ⟨_, rfl⟩
   have ga : Grew wr wa := by rw [hwa]; exact (Grew.refl wr).alloc _
   have BA : Hid (Blk wa rb 145 [.int .i64 d, .bool b, .int .i64 (r : Int)]) := by unfold Hid; rw [hwa, hrb]; exact Blk.new wr 145 _
   have HC : Hid (wa.cell? ⟨bm, om + r * 3, none⟩ = some (.int .i64 d) ∧ wa.cell? ⟨bm, om + r * 3 + 1, none⟩ = some (.bool b)) := ⟨ga.cell c1, ga.cell c2⟩
   have HRa := Lib.hid (HR.out.trans ga)
   clear c1 c2 ga HR
   go_upto_region 5 with (fail)
   rw [← hwa, ← hrb]
   clear hwa hrb d1 d2 d3
   have v0 : wa.cell? ⟨rb, 0, none⟩ = some (.int .i64 d) := BA.out.cell rfl
   have v1 : wa.cell? ⟨rb, 1, none⟩ = some (.bool b) := BA.out.cell rfl
   have v2 : wa.cell? ⟨rb, 2, none⟩ = some (.int .i64 (r : Int)) := BA.out.cell rfl
   go_upto_region 8 with (fail)
   have hC : ∀ w', Grew wa.drew w' → (w'.cell? ⟨bm, om + r * 3, none⟩ = some (.int .i64 d) ∧ w'.cell? ⟨bm, om + r * 3 + 1, none⟩ = some (.bool b)) ∧ w'.cell? ⟨rb, 0, none⟩ = some (.int .i64 d) ∧ w'.cell? ⟨rb, 1, none⟩ = some (.bool b) := fun w' g' => by
    have gg := (Grew.refl wa).drew.trans g'
    exact ⟨⟨gg.cell HC.out.1, gg.cell HC.out.2⟩, gg.cell (BA.out.cell rfl), gg.cell (BA.out.cell rfl)⟩
   have HCC := Lib.hid hC
   clear hC v0 v1 v2
   refine wp_region_seq (by kernel_rfl) Grew.refl (fun _ _ _ => Grew.trans) (fun _ _ _ _ _ h => h) (by kernel_rfl) ?_
   repeat (first
    | (refine TakeAll.pure (v := ?_) (by rfl) ?_ ?_; rotate_left; (intro w' g'; obtain ⟨⟨q_0, q_1⟩, q_2, q_3⟩ := HCC.out w' g'; go_simp; first | done | with_reducible rfl); (simp only [Act.put, uzT, uz0, uz1]))
    | (refine TakeAll.skip (by rfl) ?_; (simp only [Act.put, uzT, uz0, uz1])))
   refine TakeAll.nil ?_
   intro wb g1
   have gb := (Grew.refl wa).drew.trans g1
   have BB := Lib.hid (BA.out.grew gb)
   have HRb := Lib.hid (HRa.out.trans gb)
   clear g1 gb HCC HC BA HRa
   have v2 : wb.cell? ⟨rb, 2, none⟩ = some (.int .i64 (r : Int)) := BB.out.cell rfl
   go_wp2_with fail
   go_roundw
   case rel => exact ⟨r + 1, by omega, by go_num, by go_num, by go_num, HRb.out⟩
   case measure => simp [intOf]; omega
  ·obtain rfl : N = r := by omega
   have t1 : decide ((N : Int) < (N : Int)) = false := decide_eq_false (by omega)
   go_wp2
   go_ret
   exact ⟨rfl, HR.out⟩
/-- What Worked returns. -/
def RetWk (ds : List Du) (n : Nat) (w : World) (r : Ending) (w' : World) : Prop := ∃ D, r = .returned (.tuple #[.slice D n n, .int .i64 0]) ∧ Ints w' D n n (ds.map fun d => d.b - d.a) ∧ Grew w w'
def miL (ds : List Du) (n k : Nat) : List Int := (ds.take k).map (fun d => d.b - d.a) ++ List.replicate (n - k) 0
theorem miL_len {ds : List Du} {n k : Nat} (hl : ds.length = n) (h : k ≤ n) : (miL ds n k).length = n := by unfold miL; rw [List.length_append, List.length_map, List.length_take, List.length_replicate]; omega
theorem miL_set {ds : List Du} {n k : Nat} {x : Du} (hl : ds.length = n) (h : ds[k]? = some x) : (miL ds n k).set k (x.b - x.a) = miL ds n (k + 1) := by
 have hk : k < n := by rw [← hl]; exact (List.getElem?_eq_some_iff.1 h).1
 unfold miL
 rw [List.set_append, if_neg (by rw [List.length_map, List.length_take]; omega), List.length_map, List.length_take, Nat.min_eq_left (by omega), Nat.sub_self, show n - k = (n - (k + 1)) + 1 by omega, List.replicate_succ, List.set_cons_zero, List.take_add_one, h, Option.toList, List.map_append, List.append_assoc]
 rfl
theorem miL_at {ds : List Du} {n k : Nat} (hl : ds.length = n) (h : k < n) : ∃ v, (miL ds n k)[k]? = some v := ⟨_, List.getElem?_eq_getElem (by rw [miL_len hl (by omega)]; exact h)⟩
set_option maxRecDepth 100000 in
set_option maxHeartbeats 8000000 in
theorem worked31 {w : World} {A B C : Option Addr} {n c e f : Nat} {ds : List Du} (hd : Dus w A n c ds) (hu : Recs encU 2 w B (2 * n) e (puL ds n)) (ht : Recs encT 3 w C (2 * n) f (mtL (2 * n))) (hv : DsOk ds) (hn : n ≤ 24) :
  Calls Tryz.prog 31 #[.slice A n c, .slice B (2 * n) e, .slice C (2 * n) f] w (RetWk ds n w) := by
 have hlen : ds.length = n := hd.len
 obtain ⟨N, hN⟩ : ∃ N, N = 2 * n := ⟨_, rfl⟩
 have hUok : UsOk (puL ds n) := by rw [← hlen]; exact puL_ok hv
 have HD := Lib.hid hd
 have HU := Lib.hid hu
 have HT := Lib.hid ht
 have HV := Lib.hid hv
 have HUO := Lib.hid hUok
 have HL := Lib.hid hlen
 have HNN := Lib.hid hN
 have hN48 : N ≤ 48 := by omega
 rw [← hN] at HU HT ⊢
 clear hd hu ht hv hUok hlen hN
 go_enter Tryz.func31, Tryz.ntmps31
 go_wp2_with fail
 refine (usable63 HD.out HU.out HV.out HUO.out hn (by omega)).mono ?_
 rintro r w2 ⟨rfl, g2⟩
 have HG2 := Lib.hid g2
 clear g2
 go_wp2_with fail
 refine (marks64 (HD.out.grew HG2.out) hn).mono ?_
 rintro r w3 ⟨M, mc, rfl, hms, g3⟩
 have HM3 : Hid (Recs encM 3 w3 M N mc (mkL ds n)) := by have := hms; rw [← HNN.out] at this; exact this
 rw [← HNN.out]
 have HG3 := Lib.hid (HG2.out.trans g3)
 clear g3 hms HG2
 go_wp2_with fail
 refine (aligned68 HM3.out (HT.out.grew HG3.out) HNN.out hN48).mono ?_
 rintro r w4 ⟨rfl, g4⟩
 have HG4 := Lib.hid (HG3.out.trans g4)
 clear g4 HG3 HM3
 obtain ⟨w5, hmk, hw5⟩ := make_ints n n (by omega) (Nat.le_refl _) w4
 obtain ⟨gb, hgb⟩ : ∃ z, z = w4.heap.size := ⟨_, rfl⟩
 have hg5 : Grew w4 w5 := by rw [hw5]; exact (Grew.refl w4).alloc _
 have HB5 : Hid (Blk w5 gb 3 ((miL ds n 0).map iv)) := by
  unfold Hid
  rw [hw5, hgb]
  have := Blk.new w4 3 (List.replicate n (Value.int .i64 0))
  unfold miL
  rw [List.take_zero, List.map_nil, List.nil_append, Nat.sub_zero, List.map_replicate]
  exact this
 have HG5 := Lib.hid (HG4.out.trans hg5)
 have HGB : Hid (w.heap.size ≤ gb) := by have := HG4.out.le; unfold Hid; omega
 rw [← hgb] at hmk
 clear hw5 hgb hg5 HG4
 go_upto_region 7 with (fail)
 clear hmk
 go_wp2_with fail
 go_loopw [34] (fun i y => ∃ k : Nat, k ≤ n ∧ i = .int .i64 k ∧ Hid (Blk y gb 3 ((miL ds n k).map iv)) ∧ Hid (Grew w y)) (fun i _ => n - (intOf i).toNat)
 case atStart => exact ⟨0, Nat.zero_le _, rfl, HB5.out, HG5.out⟩
 case round =>
  clear HB5 HG5
  obtain ⟨k, hk, rfl, HB, HR⟩ := hrel
  by_cases hlt : k < n
  ·obtain ⟨b, o, x, hA, hx, ⟨c0, c1, c2⟩, hxb⟩ := (HD.out.grew HR.out).at_ hlt
   subst hA
   have hxk : 0 ≤ x.a ∧ x.a < x.b ∧ x.b ≤ 52596000 ∧ x.b - x.a ≤ 1440 ∧ 0 ≤ x.s ∧ x.s ≤ 65535 := of_decide_eq_true (HV.out.ok x (List.mem_of_getElem? hx))
   have HX := Lib.hid hx
   clear hxb hx
   obtain ⟨xa, xb, xs⟩ := x
   simp only at c0 c1 c2 hxk
   have t1 : decide ((k : Int) < (n : Int)) = true := decide_eq_true (by omega)
   have e1 : (0 : Int) ≤ (k : Int) := by omega
   have e2 : (k : Int) < (n : Int) := by omega
   obtain ⟨wa, hwa⟩ : ∃ z, z = wr.alloc (.cells #[.int .i64 xa, .int .i64 xb, .int .i64 xs] 47) := ⟨_, rfl⟩
   obtain ⟨rb, hrb⟩ : ∃ z, z = wr.heap.size := ⟨_, rfl⟩
   have ga : Grew wr wa := by rw [hwa]; exact (Grew.refl wr).alloc _
   have BA : Hid (Blk wa rb 47 [.int .i64 xa, .int .i64 xb, .int .i64 xs]) := by unfold Hid; rw [hwa, hrb]; exact Blk.new wr 47 _
   have HRa := Lib.hid (HR.out.trans ga)
   have HBa := Lib.hid (HB.out.grew ga)
   clear ga HR HB
   go_upto_region 10 with (fail)
   rw [← hwa, ← hrb]
   clear hwa hrb c0 c1 c2
   have hC : ∀ w', Grew wa.drew w' → w'.cell? ⟨rb, 0, none⟩ = some (.int .i64 xa) ∧ w'.cell? ⟨rb, 1, none⟩ = some (.int .i64 xb) := fun w' g' => by
    have gg := (Grew.refl wa).drew.trans g'
    exact ⟨gg.cell (BA.out.cell rfl), gg.cell (BA.out.cell rfl)⟩
   have HCC := Lib.hid hC
   clear hC
   refine wp_region_seq (by kernel_rfl) Grew.refl (fun _ _ _ => Grew.trans) (fun _ _ _ _ _ h => h) (by kernel_rfl) ?_
   repeat (first
    | (refine TakeAll.pure (v := ?_) (by rfl) ?_ ?_; rotate_left; (intro w' g'; obtain ⟨q_0, q_1⟩ := HCC.out w' g'; go_simp; first | done | with_reducible rfl); (simp only [Act.put, uzT, uz0, uz1]))
    | (refine TakeAll.skip (by rfl) ?_; (simp only [Act.put, uzT, uz0, uz1])))
   refine TakeAll.nil ?_
   intro wb g1
   have gb1 := (Grew.refl wa).drew.trans g1
   have HRb := Lib.hid (HRa.out.trans gb1)
   have HBb := Lib.hid (HBa.out.grew gb1)
   clear g1 gb1 HCC BA HRa HBa
   go_wp2_with fail
   go_loopw [12, 13, 14, 45] (fun fr tt pu j y => ∃ r : Nat, r ≤ N ∧ fr = .int .i64 xa ∧ tt = .int .i64 xb ∧ pu = .bool (decide (2 * k < r)) ∧ j = .int .i64 r ∧ Hid (Blk y gb 3 ((miL ds n k).map iv)) ∧ Hid (Grew w y)) (fun _ _ _ j _ => N - (intOf j).toNat)
   case atStart => exact ⟨0, Nat.zero_le _, rfl, rfl, rfl, rfl, HBb.out, HRb.out⟩
   case round =>
    clear HBb HRb
    obtain ⟨r, hr, rfl, rfl, rfl, rfl, HB, HR⟩ := hrel
    by_cases hlr : r < N
    ·have hr2 : r < 2 * n := by have := HNN.out; omega
     obtain ⟨bt, ot, mt, hTA, hmt, d1, d2, d3⟩ := Recs.mt (HT.out.grew HR.out) hlr
     obtain ⟨bp, op, pu, hPA, hpu, p1, p2⟩ := Recs.pu (HU.out.grew HR.out) hlr
     rw [mtL_at hlr] at hmt
     rw [puL_at hr2] at hpu
     injection hmt with hmt
     injection hpu with hpu
     subst hmt hpu hTA hPA
     simp only [mtF, puF] at d1 d2 d3 p1 p2
     obtain ⟨d, hd⟩ : ∃ d : Int, d = ((r / 2 : Nat) : Int) := ⟨_, rfl⟩
     obtain ⟨bb, hbb⟩ : ∃ b : Bool, b = decide (r % 2 = 0) := ⟨_, rfl⟩
     rw [← hd] at d1
     rw [← hbb] at d2
     have HDD := Lib.hid hd
     have HBBB := Lib.hid hbb
     clear hd hbb
     obtain ⟨wc, hwc⟩ : ∃ z, z = wr.alloc (.cells #[.int .i64 d, .bool bb, .int .i64 (r : Int)] 145) := ⟨_, rfl⟩
     obtain ⟨rc, hrc⟩ : ∃ z, z = wr.heap.size := ⟨_, rfl⟩
     have gc : Grew wr wc := by rw [hwc]; exact (Grew.refl wr).alloc _
     have BC : Hid (Blk wc rc 145 [.int .i64 d, .bool bb, .int .i64 (r : Int)]) := by unfold Hid; rw [hwc, hrc]; exact Blk.new wr 145 _
     have HRc := Lib.hid (HR.out.trans gc)
     have HBc := Lib.hid (HB.out.grew gc)
     have HP1 := Lib.hid (gc.cell p1)
     have s1 : decide ((r : Int) < (N : Int)) = true := decide_eq_true (by omega)
     have s2 : (0 : Int) ≤ (r : Int) := by omega
     have s3 : (r : Int) < (N : Int) := by omega
     clear p1 p2 gc HR HB
     go_upto_region 14 with (fail)
     rw [← hwc, ← hrc]
     clear hwc hrc d1 d2 d3
     have hd := HDD.out
     have hbb := HBBB.out
     have v0 : wc.cell? ⟨rc, 0, none⟩ = some (.int .i64 d) := BC.out.cell rfl
     have v1 : wc.cell? ⟨rc, 1, none⟩ = some (.bool bb) := BC.out.cell rfl
     have v2 : wc.cell? ⟨rc, 2, none⟩ = some (.int .i64 (r : Int)) := BC.out.cell rfl
     have v3 : wc.cell? ⟨bp, op + r * 2, none⟩ = some (.int .i64 (atF ds r)) := HP1.out
     have q2 : ((r : Int) == -1) = false := beq_eq_false_iff_ne.2 (by omega)
     by_cases hdk : d = (k : Int)
     ·have q1 : (d == (k : Int)) = true := beq_iff_eq.2 hdk
      cases hb : bb with
      | true =>
       have he : r = 2 * k := by rw [hb] at hbb; have := of_decide_eq_true hbb.symm; omega
       have hat : atF ds r = xa := by rw [he]; exact atF_even ds HX.out
       rw [hb] at v1
       rw [hat] at v3
       have HE := Lib.hid he
       clear hd hbb HDD HBBB hat he
       go_wp2_with fail
       go_roundw
       case rel => exact ⟨r + 1, by omega, rfl, rfl, by rw [decide_eq_true (show 2 * k < r + 1 by have := HE.out; omega)], by go_num, HBc.out, HRc.out⟩
       case measure => simp [intOf]; omega
      | false =>
       have he : r = 2 * k + 1 := by rw [hb] at hbb; have := of_decide_eq_false hbb.symm; omega
       have hat : atF ds r = xb := by rw [he]; exact atF_odd ds HX.out
       rw [hb] at v1
       rw [hat] at v3
       have HE := Lib.hid he
       clear hd hbb HDD HBBB hat he
       go_wp2_with fail
       go_roundw
       case rel => exact ⟨r + 1, by omega, rfl, rfl, by rw [decide_eq_true (show 2 * k < r + 1 by have := HE.out; omega)], by go_num, HBc.out, HRc.out⟩
       case measure => simp [intOf]; omega
     ·have q1 : (d == (k : Int)) = false := beq_eq_false_iff_ne.2 hdk
      have q3 : (!d == (k : Int)) = true := by rw [q1]; rfl
      have HEE : Hid (decide (2 * k < r + 1) = decide (2 * k < r)) := by unfold Hid; by_cases h : 2 * k < r <;> simp [h] <;> omega
      clear hd hbb HDD HBBB
      go_wp2_with fail
      go_roundw
      case rel => exact ⟨r + 1, by omega, rfl, rfl, by rw [HEE.out], by go_num, HBc.out, HRc.out⟩
      case measure => simp [intOf]; omega
    ·obtain rfl : N = r := by omega
     have s1 : decide ((N : Int) < (N : Int)) = false := decide_eq_false (by omega)
     have s2 : decide (2 * k < N) = true := decide_eq_true (by have := HNN.out; omega)
     rw [s2]
     obtain ⟨v, hv0⟩ := miL_at HL.out hlt
     have cv : wr.cell? ⟨gb, k, none⟩ = some (.int .i64 v) := HB.out.cell (by rw [List.getElem?_map, hv0]; rfl)
     have fv := HB.out.frozen k
     have m1 : IntKind.i64.wrap (xb - xa) = xb - xa := IntWalk.i64_in _ (by omega)
     have m2 : max (xb - xa) 0 = xb - xa := by omega
     have HB2 : Hid (Blk (wr.setCell ⟨gb, k, none⟩ (.int .i64 (xb - xa))) gb 3 ((miL ds n (k + 1)).map iv)) := by
      unfold Hid
      rw [← miL_set HL.out HX.out, List.map_set]
      exact HB.out.set k _
     have HR2 := Lib.hid (HR.out.grown (grown_set wr gb k (.int .i64 (xb - xa))) (fun q hq => by injection hq with hq; have := HGB.out; omega))
     obtain ⟨wn, hwn⟩ : ∃ y, y = wr.setCell ⟨gb, k, none⟩ (.int .i64 (xb - xa)) := ⟨_, rfl⟩
     rw [← hwn] at HB2 HR2
     clear hv0 HB HR
     go_upto_region 22 with (fail)
     rw [← hwn]
     clear hwn cv fv
     go_wp2_with fail
     go_roundw
     case rel => exact ⟨k + 1, by omega, by go_num, HB2.out, HR2.out⟩
     case measure => simp [intOf]; omega
  ·obtain rfl : n = k := by omega
   have t1 : decide ((n : Int) < (n : Int)) = false := decide_eq_false (by omega)
   have HI : Hid (Ints wr (some ⟨gb, 0, none⟩) n n (ds.map fun d => d.b - d.a)) := by
    have hmi : miL ds n n = ds.map fun d => d.b - d.a := by unfold miL; rw [List.take_of_length_le (by rw [HL.out]; exact Nat.le_refl _), Nat.sub_self, List.replicate_zero, List.append_nil]
    have hB := HB.out
    rw [hmi] at hB
    exact ⟨by rw [List.length_map]; exact HL.out, Nat.le_refl _, by unfold maxLen; omega, by rw [List.length_map, List.length_map, HL.out, Nat.mul_one], fun _ => ⟨gb, 0, rfl, fun j u hu => by rw [Nat.zero_add]; exact hB.cell hu⟩, fun h => by cases h⟩
   go_wp2
   go_ret2
   exact ⟨_, rfl, HI.out, HR.out⟩
end Go.Proofs.YtnnbibmmofnkdaaGreat
