/-
 Base steps: whether a worker with one or two duties violates a limit.
-/
import Derived.Test.YtnnbibmmofnkdaaGreatBasA
import Derived.Test.YtnnbibmmofnkdaaGreatRosE
namespace Go.Proofs.YtnnbibmmofnkdaaGreat
open Go.RowKit Go.Proofs WageMem WageReg WageRec WageSpan WageTop
/-- The roster in which a worker has some duties, nobody another one. -/
def asgL (n wk : Nat) (ds : List Int) : List Int := ds.foldl (fun l d => l.set d.toNat (wk : Int)) (List.replicate n (-1))
theorem asgL_len (n wk : Nat) (ds : List Int) : (asgL n wk ds).length = n := by
 unfold asgL
 have : ∀ (ds l : List Int), (ds.foldl (fun l d => l.set d.toNat (wk : Int)) l).length = l.length := fun ds => by
  induction ds with
  | nil => intro l; rfl
  | cons d ds ih => intro l; rw [List.foldl_cons, ih, List.length_set]
 rw [this, List.length_replicate]
theorem asgL_take {n wk : Nat} {ds : List Int} {j : Nat} {d : Int} (h : ds[j]? = some d) : asgL n wk (ds.take (j + 1)) = (asgL n wk (ds.take j)).set d.toNat (wk : Int) := by
 unfold asgL
 rw [List.take_add_one, h, Option.toList, List.foldl_append]
 rfl
set_option maxRecDepth 100000 in
set_option maxHeartbeats 16000000 in
theorem bad56 {w : World} {p : Pl} {tb kb cb wk : Nat} {A : Option Addr} {n c : Nat} {ds : List Int} (hb : Blk w tb 32 (planC p)) (hk : w.cell? ⟨kb, 0, none⟩ = some (.pointer (some ⟨cb, 0, none⟩))) (hck : CkAt w cb p) (ok : planB p = true) (hw : wk < p.wn)
  (hi : Ints w A n c ds) (hd : ∀ x ∈ ds, 0 ≤ x ∧ x < (p.dn : Int)) (hn : n ≤ 100) :
  Calls Tryz.prog 56 #[.int .i64 (wk : Int), .slice A n c, .pointer (some ⟨tb, 0, none⟩), .pointer (some ⟨kb, 0, none⟩)] w fun r w' => r = .returned (.bool (violP p wk (idxF 0 (asgL p.dn wk ds) wk))) ∧ Grew w w' := by
 obtain ⟨x, hx⟩ : ∃ x, p.ws[wk]? = some x := ⟨_, List.getElem?_eq_getElem (by rw [hck.1.ws.len]; exact hw)⟩
 have HX := Lib.hid hx
 obtain ⟨t, ht⟩ : ∃ t, violP p wk (idxF 0 (asgL p.dn wk ds) wk) = t := ⟨_, rfl⟩
 rw [ht]
 have HT : Hid (violW p x (idxF 0 (asgL p.dn wk ds) wk) = t) := by unfold Hid; rw [← ht]; unfold violP; rw [hx]
 have hdn := (dn_le ok).1
 have v3 : w.cell? ⟨tb, 3, none⟩ = some (.slice p.D p.dn p.dc) := hb.cell rfl
 have HK := Lib.hid hk
 have HCK := Lib.hid hck
 have HOK := Lib.hid ok
 have HI := Lib.hid hi
 have HD := Lib.hid hd
 have HNL : Hid (ds.length = n) := hi.1
 clear hb hk hck ok hi hd hx ht
 obtain ⟨wm, hmk, hown, gm⟩ := make_full w.heap.size p.dn (by omega) w (Nat.le_refl _)
 obtain ⟨rb, hrb⟩ : ∃ z, z = w.heap.size := ⟨_, rfl⟩
 rw [← hrb] at hmk hown
 have HRB : Hid (w.heap.size ≤ rb) := by unfold Hid; rw [hrb]; exact Nat.le_refl _
 obtain ⟨l0, hl0⟩ : ∃ l, l = List.replicate p.dn (-1 : Int) := ⟨_, rfl⟩
 have HLL : Hid (l0.length = p.dn) := by unfold Hid; rw [hl0, List.length_replicate]
 have HL0 : Hid (∀ j, j < p.dn → l0[j]? = some (-1)) := fun j hj => by rw [hl0, List.getElem?_replicate]; simp [hj]
 have HL1 := Lib.hid hl0
 have HOW : Hid (wm.ownsRow rb 3 1 (.slice (some ⟨rb, 0, none⟩) p.dn p.dn) p.dn ((l0.take 0 ++ List.replicate (p.dn - 0) 0).map iv)) := hrb ▸ hown
 have HGM := Lib.hid gm
 clear hown gm hl0 hrb
 go_enter Tryz.func56, Tryz.ntmps56
 go_wp2_with fail
 clear hmk v3
 go_loopw [17] (fun i y => ∃ j : Nat, j ≤ p.dn ∧ i = .int .i64 j ∧ Hid (y.ownsRow rb 3 1 (.slice (some ⟨rb, 0, none⟩) p.dn p.dn) p.dn ((l0.take j ++ List.replicate (p.dn - j) 0).map iv)) ∧ Hid (Grew w y)) (fun i _ => p.dn - (intOf i).toNat)
 case atStart => exact ⟨0, Nat.zero_le _, rfl, HOW.out, HGM.out⟩
 case round =>
  clear HOW HGM
  obtain ⟨j, hj, rfl, OW, HR⟩ := hrel
  by_cases hlj : j < p.dn
  ·have e1 : (0 : Int) ≤ (j : Int) := by omega
   have e2 : (j : Int) < (p.dn : Int) := by omega
   have c0 := (OW.out.cellAt j (by omega)).trans (fillI_at HLL.out hlj)
   have f0 := OW.out.frozenAt j
   have OS := OW.out.stored j (iv (-1))
   rw [fillI_set HLL.out (HL0.out j hlj)] at OS
   have HOS := Lib.hid OS.1
   have HRn := Lib.hid (HR.out.grown OS.2 (fun q hq => by injection hq with hq; have := HRB.out; omega))
   obtain ⟨wn, hwn⟩ : ∃ y, y = wr.setCell ⟨rb, j, none⟩ (iv (-1)) := ⟨_, rfl⟩
   rw [← hwn] at HOS HRn
   have hwn' : wn = wr.setCell ⟨rb, j, none⟩ (.int .i64 (-1)) := hwn
   clear OS OW HR hwn
   go_upto_region 6 with (fail)
   rw [← hwn']
   clear hwn' c0 f0
   go_wp2_with fail
   go_roundw
   case rel => exact ⟨j + 1, by omega, by go_num, HOS, HRn⟩
   case measure => simp [intOf]; omega
  ·obtain rfl : p.dn = j := by omega
   have OWl : Hid (wr.ownsRow rb 3 1 (.slice (some ⟨rb, 0, none⟩) p.dn p.dn) p.dn ((asgL p.dn wk (ds.take 0)).map iv)) := by
    have h1 := OW.out
    rw [fillI_all HLL.out, HL1.out] at h1
    exact h1
   clear OW
   obtain ⟨w6, rfl⟩ : ∃ y : World, y = wr := ⟨_, rfl⟩
   go_wp2_with fail
   go_loopw [26] (fun i y => ∃ k : Nat, k ≤ n ∧ i = .int .i64 k ∧ Hid (y.ownsRow rb 3 1 (.slice (some ⟨rb, 0, none⟩) p.dn p.dn) p.dn ((asgL p.dn wk (ds.take k)).map iv)) ∧ Hid (Grew w y)) (fun i _ => n - (intOf i).toNat)
   case atStart => exact ⟨0, Nat.zero_le _, rfl, OWl.out, HR.out⟩
   case round =>
    clear HLL HL0 HL1 OWl HR
    obtain ⟨k, hk, rfl, OW, HR⟩ := hrel
    by_cases hlt : k < n
    ·obtain ⟨b, o, hA, hcc⟩ := (HI.out.grew HR.out).at_ (by omega)
     obtain ⟨d, hd⟩ : ∃ d, ds[k]? = some d := ⟨_, List.getElem?_eq_getElem (by rw [HNL.out]; exact hlt)⟩
     have c0 := hcc k _ hd
     have hdr := HD.out d (List.mem_of_getElem? hd)
     obtain ⟨dN, rfl⟩ : ∃ z : Nat, d = (z : Int) := ⟨d.toNat, by omega⟩
     have hdN : dN < p.dn := by omega
     have e1 : (0 : Int) ≤ (k : Int) := by omega
     have e2 : (k : Int) < (n : Int) := by omega
     have e3 : (0 : Int) ≤ (dN : Int) := by omega
     have e4 : (dN : Int) < (p.dn : Int) := by omega
     obtain ⟨xv, hxv⟩ : ∃ v, ((asgL p.dn wk (ds.take k)).map iv)[dN]? = some v := ⟨_, List.getElem?_eq_getElem (by rw [List.length_map, asgL_len]; exact hdN)⟩
     have c1 := (OW.out.cellAt dN (by omega)).trans hxv
     have f1 := OW.out.frozenAt dN
     have OS := OW.out.stored dN (iv (wk : Int))
     have HOS1 := OS.1
     rw [← List.map_set, show (asgL p.dn wk (ds.take k)).set dN (wk : Int) = asgL p.dn wk (ds.take (k + 1)) by rw [asgL_take hd, Int.toNat_natCast]] at HOS1
     have HOS := Lib.hid HOS1
     have HRn := Lib.hid (HR.out.grown OS.2 (fun q hq => by injection hq with hq; have := HRB.out; omega))
     obtain ⟨wn, hwn⟩ : ∃ y, y = wr.setCell ⟨rb, dN, none⟩ (iv (wk : Int)) := ⟨_, rfl⟩
     rw [← hwn] at HOS HRn
     have hwn' : wn = wr.setCell ⟨rb, dN, none⟩ (.int .i64 (wk : Int)) := hwn
     subst hA
     clear OS OW HR hwn HOS1 hxv hd hcc hdr
     go_upto_region 11 with (fail)
     rw [← hwn']
     clear hwn' c0 c1 f1
     go_wp2_with fail
     go_roundw
     case rel => exact ⟨k + 1, by omega, by go_num, HOS, HRn⟩
     case measure => simp [intOf]; omega
    ·obtain rfl : n = k := by omega
     have hII : Ints wr (some ⟨rb, 0, none⟩) p.dn p.dn (asgL p.dn wk ds) := by
      have h1 := OW.out
      rw [List.take_of_length_le (by rw [HNL.out]; exact Nat.le_refl _)] at h1
      exact Ints.own (asgL_len _ _ _) h1
     have HII := Lib.hid hII
     have ck := HR.out.cell HK.out
     clear OW hII
     go_wp2_with fail
     refine (worker43 (HCK.out.grew HR.out) HOK.out HX.out HII.out (Nat.le_refl _)).mono ?_
     rintro r w4 ⟨A4, n4, c4, vs4, rfl, _, hz4, hn4, g4⟩
     have HGF := Lib.hid (HR.out.trans g4)
     have hz5 : (n4 = 0 ↔ t = false) := by rw [← HT.out]; exact hz4
     have r1 : decide ((n4 : Int) > 0) = t := by
      rw [Bool.eq_iff_iff, decide_eq_true_eq]
      constructor
      ·intro h
       cases ht : t with
       | true => rfl
       | false => have := hz5.2 ht; omega
      ·intro h
       have : n4 ≠ 0 := fun e => by rw [hz5.1 e] at h; cases h
       omega
     have r2 : decide (0 < n4) = t := by rw [← r1, Bool.eq_iff_iff, decide_eq_true_eq, decide_eq_true_eq]; omega
     have r3 : decide ((0 : Int) < (n4 : Int)) = t := r1
     clear hz4 hz5 g4 ck
     go_wp2
     go_ret
     exact ⟨rfl, HGF.out⟩
end Go.Proofs.YtnnbibmmofnkdaaGreat
