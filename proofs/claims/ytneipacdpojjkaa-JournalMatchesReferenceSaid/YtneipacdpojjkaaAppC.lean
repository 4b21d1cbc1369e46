/-
  journal.Append, walked: a record that fits.
-/
import Derived.Test.YtneipacdpojjkaaAppB
namespace Go.Proofs.Ytneipacdpojjkaa
open Go.RowKit Go.Proofs WageMem WageDisk

theorem keepG_grew {G : Addr → Prop} {W W' : World} (g : Grew W W') : KeepG G W W' := fun _ _ _ hc => g.cell hc
theorem keepG_trans {G : Addr → Prop} {A B C : World} (h : KeepG G A B) (k : KeepG G B C) : KeepG G A C := fun p v hp hc => k p v hp (h p v hp hc)
theorem keepG_set {B : Nat} {W : World} (i : Nat) (u : Value) : KeepG (fun p => p.block ≠ B) W (W.setCell ⟨B, i, none⟩ u) := fun p v hp hc =>
  (World.cell?_setCell_other _ _ _ _ (fun e => hp (by rw [← e]))).trans hc

/-- What the loop of Append keeps. -/
structure AppInv (d : Ds) (rec : List UInt8) (w w6 w8 : World) (k : Nat) (Ad : Option Addr) (nd cd : Nat) (Ae : Option Addr) (ne ce : Nat) (W : World) : Prop where
  box : W.heap[w.heap.size]? = some (.cells #[.slice Ad nd cd, .slice Ae ne ce] 25 (0, 0))
  disk : Fresh w6.heap.size W fun X => Disk X (.agg #[.slice Ad nd cd, .slice Ae ne ce]) ⟨stgB d rec k, []⟩
  keep : KeepG (fun p => p.block ≠ w.heap.size) w8 W
  res : W.heap[w.heap.size + 1]? = some (.cells #[.slice none 0 0, .slice none 0 0] 25 (0, 0))
  grew : Grew w W
  size : w6.heap.size ≤ W.heap.size

set_option maxRecDepth 100000 in
set_option maxHeartbeats 8000000 in
theorem append_room (A : Option Addr) (n c : Nat) (A' : Option Addr) (n' c' : Nat) (d : Ds) (A3 : Option Addr) (n3 c3 : Nat) (rec : List UInt8) (w : World) (h : Disk w (.agg #[.slice A n c, .slice A' n' c']) d) (hD : Bytes w A3 n3 c3 rec)
    (hv : validB d = true) (h3 : 0 < n3) (hf : fitsB d rec = true) (hroom : jEnd d + (13 + rec.length) < d.st.length) :
    Calls Try.prog 34 #[.agg #[.slice A n c, .slice A' n' c'], .slice A3 n3 c3] w (RetDiskE ⟨appB d rec, []⟩ 0 w) := by
  obtain ⟨i0, hi, hz0, hz1, hz2⟩ := info_parts info5
  have HH := Lib.hid h
  have hn := h.parts.1.1
  have hsz := (valid_size hv).1
  have s1 : n ≤ 65536 := by omega
  have HE : Hid (readE d 0 0 = 0) := by unfold Hid; rw [readE_zero, hv]; rfl
  have HSY : Hid (syncD d = ⟨stgB d rec 0, []⟩) := sync_valid hv
  have HST := Lib.hid (fun k (hk : k < 3) => stg_step (rec := rec) hv hf hk)
  have HTL : Hid (tailB d rec = (codeB rec (jRecs d).length).drop 1 ++ [0]) := by unfold Hid tailB; rw [if_pos hroom]
  have hrl := jRecs_len d
  obtain ⟨en, hen⟩ : ∃ en, jEnd d = en := ⟨_, rfl⟩
  obtain ⟨ls, hls⟩ : ∃ ls, jRecs d = ls := ⟨_, rfl⟩
  have hle := jEnd_le d
  rw [hen, hn] at hle
  rw [hls, hn] at hrl
  rw [hls] at HTL
  have t1 : ((n3 : Int) == 0) = false := by simp; omega
  have hf' := hf
  unfold fitsB at hf'
  rw [Bool.and_eq_true, hD.1, hen, hn] at hf'
  have f1 : n3 ≤ 4096 := of_decide_eq_true hf'.1
  have f2 : en + (13 + n3) ≤ n := of_decide_eq_true hf'.2
  rw [hen, hD.1, hn] at hroom
  have t2 : decide (4096 < (n3 : Int)) = false := decide_eq_false (by omega)
  have t3 : decide ((n : Int) - en < 13 + n3) = false := decide_eq_false (by omega)
  have HEn := Lib.hid hen
  have HLs := Lib.hid hls
  have HD := Lib.hid hD
  have HRL := Lib.hid hD.1
  clear h hf hf' hv hn hsz hen hls hD
  go_enter Try.func34, Try.ntmps34
  go_wp2_with fail
  refine (read_val (HH.out.grew (((Grew.refl w).alloc _).alloc _)) (by decide) (by decide) (by decide) (by decide) rfl HE.out).mono ?_
  rintro e w1 ⟨A5, n5, c5, rfl, _, g1⟩
  have hr : w1.heap[w.heap.size + 1]? = some (.cells #[.slice none 0 0, .slice none 0 0] 25 (0, 0)) := g1.block (blk_new2 _ _ _ _)
  have hd : w1.heap[w.heap.size]? = some (.cells #[.slice A n c, .slice A' n' c'] 25 (0, 0)) := g1.block (blk_new1 _ _ _ _)
  have d0 : w1.cell? ⟨w.heap.size, 0, none⟩ = some (.slice A n c) := blk_cell hd 0
  have d1 : w1.cell? ⟨w.heap.size, 1, none⟩ = some (.slice A' n' c') := blk_cell hd 1
  have gg : Grew w w1 := (((Grew.refl w).alloc _).alloc _).trans g1
  have HR := Lib.hid hr
  have HDB := Lib.hid hd
  have sz1 : w.heap.size + 1 < w1.heap.size := World.block_lt_of_cell? _ _ (blk_cell hr 0)
  clear hr g1 hd
  go_wp2_with fail
  refine (recs_val (HH.out.grew gg) HLs.out HEn.out).mono ?_
  rintro e w2 ⟨A6, n6, c6, rfl, L6, g2⟩
  have hn6 := L6.1
  have HN6 := Lib.hid hn6
  have k6 : n6 ≤ n := by omega
  replace d0 := g2.cell d0
  replace d1 := g2.cell d1
  have gg2 := gg.trans g2
  clear L6 hn6
  go_wp2_with fail
  refine (code_any A3 n3 c3 rec n6 _ (HD.out.grew gg2) (by omega) (by omega) (by omega)).mono ?_
  rintro e w3 ⟨A7, c7, rfl, own7, g3⟩
  replace d0 := g3.cell d0
  replace d1 := g3.cell d1
  have gg3 := gg2.trans g3
  have hB7 : Bytes w3 A7 (13 + n3) c7 (codeB rec n6) := Bytes.own (by rw [codeB_len, HRL.out]) own7
  obtain ⟨g7, rfl, hg7⟩ := own_at own7 (by omega)
  have hc7 : 13 + n3 ≤ c7 := hB7.2.1
  have hcm7 : c7 ≤ 9223372036854775807 := hB7.2.2.1
  have hp7 := hB7.part (a := 1) (m := 12 + n3) (by omega)
  rw [if_neg (by omega), Option.map_some, addp, Nat.zero_add] at hp7
  have hp0 := hB7.part (a := 0) (m := 1) (by omega)
  rw [if_neg (by omega), Option.map_some, addp, Nat.sub_zero] at hp0
  have b1 : (1 : Int) ≤ ((13 + n3 : Nat) : Int) := by omega
  have b2 : ¬ c7 = 1 := by omega
  have b3 : (1 : Int) ≤ (c7 : Int) := by omega
  have HP7 := Lib.hid hp7
  have HP0 := Lib.hid hp0
  have HBW := Lib.hid hB7
  clear hB7 hp7 hp0 own7
  go_wp2_with fail
  have e0 := d0
  have e1 := d1
  refine (clone_any (some ⟨g7, 1, none⟩) (12 + n3) (c7 - 1) _ _ HP7.out (by omega)).mono ?_
  rintro e w4 ⟨A8, c8, rfl, own8, g4⟩
  replace d0 := g4.cell d0
  replace d1 := g4.cell d1
  have HDR : Hid (((codeB rec n6).drop 1).take (12 + n3) = (codeB rec n6).drop 1) := by
    unfold Hid; rw [List.take_of_length_le (by rw [List.length_drop, codeB_len, HRL.out]; omega)]
  rw [HDR.out] at own8
  have t4 : decide ((en : Int) + ((13 + n3 : Nat) : Int) < (n : Int)) = true := decide_eq_true (by omega)
  have t4' : (en : Int) + (13 + (n3 : Int)) < (n : Int) := by omega
  have HO8 := Lib.hid own8
  have BI := Lib.hid (built (w := w4) (t := 5) [(0 : UInt8)] #[.int .u8 0] rfl 1 rfl (by decide)).2
  clear own8
  go_upto_region 12 with (at_builtin; refine wpList_append_sl _ rfl (.tmp 65) (.tmp 66) 22 rfl w3.heap.size 5 i0 (.int .u8 0) 1 1 Try.underlying22 hi hz0 hz1 hz2 rfl (by decide) (.slice A8 (12 + n3) c8) (12 + n3) (((codeB rec n6).drop 1).map bv) rfl (HO8.out.alloc _) (some ⟨w4.heap.size, 0, none⟩) 1 1 [.int .u8 0] rfl BI.out (by simp [Value.oneCell']) (by unfold maxLen; omega) (by omega) (by have := g4.le; simp; omega) ?_; intro v1 w5 own5 hg5 hat5; obtain ⟨A9, c9, rfl⟩ := own_form own5)
  have gr35 : Grew w3 w5 := (g4.alloc _).grown hg5 (fun j hj => (HO8.out.lt j hj).1)
  have own9 : w5.ownsRow w3.heap.size 5 1 (.slice A9 (12 + n3 + 1) c9) (12 + n3 + 1) ((tailB d rec).map bv) := by rw [HTL.out, HN6.out, List.map_append]; exact own5
  have HM9 : Hid ((tailB d rec).length = 12 + n3 + 1) := by unfold Hid; rw [HTL.out, HN6.out, List.length_append, List.length_drop, codeB_len, HRL.out]; simp <;> omega
  clear own5 hg5 hat5 HO8 BI t4 t4'
  have gg5 := gg3.trans gr35
  clear d0 d1
  have d0 := gr35.cell e0
  have d1 := gr35.cell e1
  have sz5 : w.heap.size + 1 < w3.heap.size := Nat.lt_of_lt_of_le sz1 (Nat.le_trans g2.le g3.le)
  have sz6 : w3.heap.size ≤ w5.heap.size := gr35.le
  have sz7 : w.heap.size < w5.heap.size := by omega
  have HO9 := Lib.hid own9
  clear e0 e1 own9 g4
  go_wp2_with fail
  obtain ⟨w6, hw6⟩ : ∃ w6, w6 = (w5.alloc (.cells #[.int .u8 0] 5)).alloc (.cells #[.int .i64 en, .slice (some ⟨w5.heap.size, 0, none⟩) 1 1, .int .i64 ((en : Int) + 1), .slice A9 (12 + n3 + 1) c9, .int .i64 en, .slice (some ⟨g7, 0, none⟩) 1 c7] 45) := ⟨_, rfl⟩
  have g6 : Grew w5 w6 := by rw [hw6]; exact ((Grew.refl _).alloc _).alloc _
  have blk6 : w6.heap[w5.heap.size + 1]? = some (.cells #[.int .i64 en, .slice (some ⟨w5.heap.size, 0, none⟩) 1 1, .int .i64 ((en : Int) + 1), .slice A9 (12 + n3 + 1) c9, .int .i64 en, .slice (some ⟨g7, 0, none⟩) 1 c7] 45 (0, 0)) := by rw [hw6]; exact blk_new2 _ _ _ _
  have by6 : Bytes w6 (some ⟨w5.heap.size, 0, none⟩) 1 1 [0] := by rw [hw6]; exact (built (w := w5) (t := 5) [(0 : UInt8)] #[.int .u8 0] rfl 1 rfl (by decide)).grew ((Grew.refl _).alloc _)
  have three : Three d rec (w5.heap.size + 1) w.heap.size w6 := by
    refine ⟨fun k hk => ?_, by omega⟩
    obtain rfl | rfl | rfl : k = 0 ∨ k = 1 ∨ k = 2 := by omega
    · exact ⟨_, _, _, by rw [blk_cell blk6]; unfold woff; rw [if_neg (by omega), HEn.out]; rfl, by rw [blk_cell blk6]; rfl, by6, fun b o e => by injection e with e; injection e with e; omega⟩
    · refine ⟨_, _, _, by rw [blk_cell blk6]; unfold woff; rw [if_pos rfl, HEn.out]; simp, by rw [blk_cell blk6]; rfl, (Bytes.own HM9.out HO9.out).grew g6, fun b o e => ?_⟩
      obtain ⟨g9, hg9, hb9⟩ := own_at HO9.out (by omega)
      rw [hg9] at e; injection e with e; injection e with e; omega
    · refine ⟨some ⟨g7, 0, none⟩, 1, c7, by rw [blk_cell blk6]; unfold woff; rw [if_neg (by omega), HEn.out]; rfl, by rw [blk_cell blk6]; rfl, ?_, fun b o e => ?_⟩
      · have := (HP0.out.grew gr35).grew g6
        exact this
      · injection e with e; injection e with e
        have := g2.le
        omega
  have hd6 : w6.heap[w.heap.size]? = some (.cells #[.slice A n c, .slice A' n' c'] 25 (0, 0)) := g6.block (gr35.block (g3.block (g2.block HDB.out)))
  have hr6 : w6.heap[w.heap.size + 1]? = some (.cells #[.slice none 0 0, .slice none 0 0] 25 (0, 0)) := g6.block (gr35.block (g3.block (g2.block HR.out)))
  have gg6 := gg5.trans g6
  have sz8 : w.heap.size + 1 < w6.heap.size := World.block_lt_of_cell? _ _ (blk_cell hr6 0)
  rw [← hw6]
  have TH := Lib.hid three
  have HD6 := Lib.hid hd6
  have HR6 := Lib.hid hr6
  clear hw6 blk6 by6 three hd6 hr6 d0 d1 HO9 HP0 HP7 HBW HDB HR gr35
  refine (sync_val (HH.out.grew gg6) HSY.out).mono ?_
  rintro e w7 ⟨As, ns, cs, Bs, ms, fs, rfl, f7, g7'⟩
  have hd7 := g7'.block HD6.out
  have r0 := blk_cell hd7 0
  have r1 := blk_cell hd7 1
  have z0 := blk_frozen hd7 0
  have z1 := blk_frozen hd7 1
  have HD7 := Lib.hid hd7
  clear hd7
  go_wp2_with fail
  obtain ⟨w8, hw8⟩ : ∃ w8, w8 = (w7.setCell ⟨w.heap.size, 0, none⟩ (.slice As ns cs)).setCell ⟨w.heap.size, 1, none⟩ (.slice Bs ms fs) := ⟨_, rfl⟩
  have inv0 : AppInv d rec w w6 w8 0 As ns cs Bs ms fs w8 := by
    rw [hw8]
    exact ⟨blk_two HD7.out _ _, (f7.set (by simp; omega) _).set (by simp; omega) _, fun _ _ _ hc => hc, (Below.heap_setCell _ _ _ _ (by simp)).trans ((Below.heap_setCell _ _ _ _ (by simp)).trans (g7'.block HR6.out)),
      ((gg6.trans g7').set (by simp) _).set (by simp) _, by simp [World.setCell]; exact g7'.le⟩
  have th8 : Three d rec (w5.heap.size + 1) w.heap.size w8 := by
    rw [hw8]
    exact TH.out.keep (keepG_trans (keepG_trans (keepG_grew g7') (keepG_set 0 _)) (keepG_set 1 _))
  rw [← hw8]
  have TH8 := Lib.hid th8
  clear hw8 th8 r0 r1 z0 z1 HD7 f7
  go_loopw [84] (fun i wr => ∃ (k : Nat) (Ad : Option Addr) (nd cd : Nat) (Ae : Option Addr) (ne ce : Nat), k ≤ 3 ∧ i = .int .i64 k ∧ AppInv d rec w w6 w8 k Ad nd cd Ae ne ce wr) (fun i _ => 3 - (intOf i).toNat)
  case atStart => exact ⟨0, _, _, _, _, _, _, by omega, rfl, inv0⟩
  case round =>
    obtain ⟨k, Ad, nd, cd, Ae, ne, ce, hk, rfl, inv⟩ := hrel
    clear inv0
    have b0 : wr.cell? ⟨w.heap.size, 0, none⟩ = some (.slice Ad nd cd) := blk_cell inv.box 0
    have b1 : wr.cell? ⟨w.heap.size, 1, none⟩ = some (.slice Ae ne ce) := blk_cell inv.box 1
    have szr : w.heap.size < wr.heap.size := World.block_lt_of_cell? _ _ b0
    by_cases hlt : k < 3
    · obtain ⟨Ax, nx, cx, c1, c2, hbx, _⟩ := (TH8.out.keep inv.keep).ex k hlt
      obtain ⟨hE, hS⟩ := HST.out k hlt
      have hxo : woff d k ≤ 65537 := by unfold woff; rw [HEn.out]; split <;> omega
      have HIN := Lib.hid inv
      have HX := Lib.hid hbx
      have HE' := Lib.hid hE
      have HS' := Lib.hid hS
      have szh : w5.heap.size + 1 < wr.heap.size := World.block_lt_of_cell? _ _ c1
      have i0' : (0 : Int) ≤ (k : Int) := by omega
      have i1' : (k : Int) < 3 := by omega
      clear inv hbx hE hS
      go_wp2_with fail
      have ga : Grew wr (wr.alloc (.cells #[.int .i64 (woff d k : Int), .slice Ax nx cx] 45)) := (Grew.refl _).alloc _
      refine (write_val (HIN.out.disk.now.grew ga) (HX.out.grew ga) (by omega) (by omega) rfl HE'.out).mono ?_
      rintro e wb ⟨X1, p1, y1, X2, p2, y2, rfl, fb, gb⟩
      have gab := ga.trans gb
      clear b0 b1 c1 c2
      go_wp2_with fail
      have gbc : Grew wb (wb.alloc (.cells #[.slice X1 p1 y1, .slice X2 p2 y2] 25)) := (Grew.refl _).alloc _
      refine (sync_val (fb.now.grew gbc) HS'.out).mono ?_
      rintro e wc ⟨Y1, q1, u1, Y2, q2, u2, rfl, fc, gc⟩
      have gt := (gab.trans gbc).trans gc
      have hdc := gt.block HIN.out.box
      have r0 := blk_cell hdc 0
      have r1 := blk_cell hdc 1
      have z0 := blk_frozen hdc 0
      have z1 := blk_frozen hdc 1
      have HDC := Lib.hid hdc
      have inv2 : AppInv d rec w w6 w8 (k + 1) Y1 q1 u1 Y2 q2 u2 ((wc.setCell ⟨w.heap.size, 0, none⟩ (.slice Y1 q1 u1)).setCell ⟨w.heap.size, 1, none⟩ (.slice Y2 q2 u2)) := by
        have hle := Nat.le_trans HIN.out.size (gab.trans gbc).le
        exact ⟨blk_two HDC.out _ _, ((fc.set (by show w.heap.size < _; omega) _).set (by show w.heap.size < _; omega) _).mono hle,
          keepG_trans HIN.out.keep (keepG_trans (keepG_trans (keepG_grew gt) (keepG_set 0 _)) (keepG_set 1 _)),
          (Below.heap_setCell _ _ _ _ (by simp)).trans ((Below.heap_setCell _ _ _ _ (by simp)).trans (gt.block HIN.out.res)), ((HIN.out.grew.trans gt).set (by simp) _).set (by simp) _, by simp [World.setCell]; exact Nat.le_trans HIN.out.size gt.le⟩
      clear hdc fb fc HDC
      go_wp2_with fail
      go_roundw
      case rel => exact ⟨k + 1, _, _, _, _, _, _, by omega, by go_num, inv2⟩
      case measure => simp [intOf]; omega
    · obtain rfl : k = 3 := by omega
      have r0 := blk_cell inv.res 0
      have r1 := blk_cell inv.res 1
      have z0 := blk_frozen inv.res 0
      have z1 := blk_frozen inv.res 1
      have HIN := Lib.hid inv
      clear inv
      go_wp2_with fail
      obtain ⟨q0, q1⟩ := two_set r0 r1 (.slice Ad nd cd) (.slice Ae ne ce)
      refine bodyPost_ret (v := .tuple #[.agg #[.slice Ad nd cd, .slice Ae ne ce], .int .i64 0]) (by simp [results, Try.results34, go_sem, q0, q1]) rfl ⟨_, _, _, _, _, _, rfl, ?_, (HIN.out.grew.set (by simp) _).set (by simp) _⟩
      have hfr := ((HIN.out.disk.set (p := ⟨w.heap.size + 1, 0, none⟩) sz8 (.slice Ad nd cd)).set (p := ⟨w.heap.size + 1, 1, none⟩) sz8 (.slice Ae ne ce)).mono gg6.le
      rw [stg_three] at hfr
      exact hfr

set_option maxRecDepth 100000 in
set_option maxHeartbeats 8000000 in
theorem append_tight (A : Option Addr) (n c : Nat) (A' : Option Addr) (n' c' : Nat) (d : Ds) (A3 : Option Addr) (n3 c3 : Nat) (rec : List UInt8) (w : World) (h : Disk w (.agg #[.slice A n c, .slice A' n' c']) d) (hD : Bytes w A3 n3 c3 rec)
    (hv : validB d = true) (h3 : 0 < n3) (hf : fitsB d rec = true) (hroom : ¬ jEnd d + (13 + rec.length) < d.st.length) :
    Calls Try.prog 34 #[.agg #[.slice A n c, .slice A' n' c'], .slice A3 n3 c3] w (RetDiskE ⟨appB d rec, []⟩ 0 w) := by
  obtain ⟨i0, hi, hz0, hz1, hz2⟩ := info_parts info5
  have HH := Lib.hid h
  have hn := h.parts.1.1
  have hsz := (valid_size hv).1
  have s1 : n ≤ 65536 := by omega
  have HE : Hid (readE d 0 0 = 0) := by unfold Hid; rw [readE_zero, hv]; rfl
  have HSY : Hid (syncD d = ⟨stgB d rec 0, []⟩) := sync_valid hv
  have HST := Lib.hid (fun k (hk : k < 3) => stg_step (rec := rec) hv hf hk)
  have HTL : Hid (tailB d rec = (codeB rec (jRecs d).length).drop 1 ++ []) := by unfold Hid tailB; rw [if_neg hroom]
  have hrl := jRecs_len d
  obtain ⟨en, hen⟩ : ∃ en, jEnd d = en := ⟨_, rfl⟩
  obtain ⟨ls, hls⟩ : ∃ ls, jRecs d = ls := ⟨_, rfl⟩
  have hle := jEnd_le d
  rw [hen, hn] at hle
  rw [hls, hn] at hrl
  rw [hls] at HTL
  have t1 : ((n3 : Int) == 0) = false := by simp; omega
  have hf' := hf
  unfold fitsB at hf'
  rw [Bool.and_eq_true, hD.1, hen, hn] at hf'
  have f1 : n3 ≤ 4096 := of_decide_eq_true hf'.1
  have f2 : en + (13 + n3) ≤ n := of_decide_eq_true hf'.2
  rw [hen, hD.1, hn] at hroom
  have t2 : decide (4096 < (n3 : Int)) = false := decide_eq_false (by omega)
  have t3 : decide ((n : Int) - en < 13 + n3) = false := decide_eq_false (by omega)
  have HEn := Lib.hid hen
  have HLs := Lib.hid hls
  have HD := Lib.hid hD
  have HRL := Lib.hid hD.1
  clear h hf hf' hv hn hsz hen hls hD
  go_enter Try.func34, Try.ntmps34
  go_wp2_with fail
  refine (read_val (HH.out.grew (((Grew.refl w).alloc _).alloc _)) (by decide) (by decide) (by decide) (by decide) rfl HE.out).mono ?_
  rintro e w1 ⟨A5, n5, c5, rfl, _, g1⟩
  have hr : w1.heap[w.heap.size + 1]? = some (.cells #[.slice none 0 0, .slice none 0 0] 25 (0, 0)) := g1.block (blk_new2 _ _ _ _)
  have hd : w1.heap[w.heap.size]? = some (.cells #[.slice A n c, .slice A' n' c'] 25 (0, 0)) := g1.block (blk_new1 _ _ _ _)
  have d0 : w1.cell? ⟨w.heap.size, 0, none⟩ = some (.slice A n c) := blk_cell hd 0
  have d1 : w1.cell? ⟨w.heap.size, 1, none⟩ = some (.slice A' n' c') := blk_cell hd 1
  have gg : Grew w w1 := (((Grew.refl w).alloc _).alloc _).trans g1
  have HR := Lib.hid hr
  have HDB := Lib.hid hd
  have sz1 : w.heap.size + 1 < w1.heap.size := World.block_lt_of_cell? _ _ (blk_cell hr 0)
  clear hr g1 hd
  go_wp2_with fail
  refine (recs_val (HH.out.grew gg) HLs.out HEn.out).mono ?_
  rintro e w2 ⟨A6, n6, c6, rfl, L6, g2⟩
  have hn6 := L6.1
  have HN6 := Lib.hid hn6
  have k6 : n6 ≤ n := by omega
  replace d0 := g2.cell d0
  replace d1 := g2.cell d1
  have gg2 := gg.trans g2
  clear L6 hn6
  go_wp2_with fail
  refine (code_any A3 n3 c3 rec n6 _ (HD.out.grew gg2) (by omega) (by omega) (by omega)).mono ?_
  rintro e w3 ⟨A7, c7, rfl, own7, g3⟩
  replace d0 := g3.cell d0
  replace d1 := g3.cell d1
  have gg3 := gg2.trans g3
  have hB7 : Bytes w3 A7 (13 + n3) c7 (codeB rec n6) := Bytes.own (by rw [codeB_len, HRL.out]) own7
  obtain ⟨g7, rfl, hg7⟩ := own_at own7 (by omega)
  have hc7 : 13 + n3 ≤ c7 := hB7.2.1
  have hcm7 : c7 ≤ 9223372036854775807 := hB7.2.2.1
  have hp7 := hB7.part (a := 1) (m := 12 + n3) (by omega)
  rw [if_neg (by omega), Option.map_some, addp, Nat.zero_add] at hp7
  have hp0 := hB7.part (a := 0) (m := 1) (by omega)
  rw [if_neg (by omega), Option.map_some, addp, Nat.sub_zero] at hp0
  have b1 : (1 : Int) ≤ ((13 + n3 : Nat) : Int) := by omega
  have b2 : ¬ c7 = 1 := by omega
  have b3 : (1 : Int) ≤ (c7 : Int) := by omega
  have HP7 := Lib.hid hp7
  have HP0 := Lib.hid hp0
  have HBW := Lib.hid hB7
  clear hB7 hp7 hp0 own7
  go_wp2_with fail
  have e0 := d0
  have e1 := d1
  refine (clone_any (some ⟨g7, 1, none⟩) (12 + n3) (c7 - 1) _ _ HP7.out (by omega)).mono ?_
  rintro e w4 ⟨A8, c8, rfl, own8, g4⟩
  replace d0 := g4.cell d0
  replace d1 := g4.cell d1
  have HDR : Hid (((codeB rec n6).drop 1).take (12 + n3) = (codeB rec n6).drop 1) := by
    unfold Hid; rw [List.take_of_length_le (by rw [List.length_drop, codeB_len, HRL.out]; omega)]
  rw [HDR.out] at own8
  have t4 : decide ((en : Int) + ((13 + n3 : Nat) : Int) < (n : Int)) = false := decide_eq_false (by omega)
  have t4' : ¬ (en : Int) + (13 + (n3 : Int)) < (n : Int) := by omega
  obtain ⟨w5, rfl⟩ : ∃ w5 : World, w5 = w4 := ⟨_, rfl⟩
  obtain ⟨A9, rfl⟩ : ∃ A9, A9 = A8 := ⟨_, rfl⟩
  obtain ⟨c9, rfl⟩ : ∃ c9, c9 = c8 := ⟨_, rfl⟩
  have gr35 : Grew w3 w5 := g4
  have own9 : w5.ownsRow w3.heap.size 5 1 (.slice A9 (12 + n3) c9) (12 + n3) ((tailB d rec).map bv) := by rw [HTL.out, HN6.out, List.append_nil]; exact own8
  have HM9 : Hid ((tailB d rec).length = 12 + n3) := by unfold Hid; rw [HTL.out, HN6.out, List.length_append, List.length_drop, codeB_len, HRL.out]; simp <;> omega
  clear own8
  have gg5 := gg3.trans gr35
  clear d0 d1
  have d0 := gr35.cell e0
  have d1 := gr35.cell e1
  have sz5 : w.heap.size + 1 < w3.heap.size := Nat.lt_of_lt_of_le sz1 (Nat.le_trans g2.le g3.le)
  have sz6 : w3.heap.size ≤ w5.heap.size := gr35.le
  have sz7 : w.heap.size < w5.heap.size := by omega
  have HO9 := Lib.hid own9
  clear e0 e1 own9 g4
  go_wp2_with fail
  obtain ⟨w6, hw6⟩ : ∃ w6, w6 = (w5.alloc (.cells #[.int .u8 0] 5)).alloc (.cells #[.int .i64 en, .slice (some ⟨w5.heap.size, 0, none⟩) 1 1, .int .i64 ((en : Int) + 1), .slice A9 (12 + n3) c9, .int .i64 en, .slice (some ⟨g7, 0, none⟩) 1 c7] 45) := ⟨_, rfl⟩
  have g6 : Grew w5 w6 := by rw [hw6]; exact ((Grew.refl _).alloc _).alloc _
  have blk6 : w6.heap[w5.heap.size + 1]? = some (.cells #[.int .i64 en, .slice (some ⟨w5.heap.size, 0, none⟩) 1 1, .int .i64 ((en : Int) + 1), .slice A9 (12 + n3) c9, .int .i64 en, .slice (some ⟨g7, 0, none⟩) 1 c7] 45 (0, 0)) := by rw [hw6]; exact blk_new2 _ _ _ _
  have by6 : Bytes w6 (some ⟨w5.heap.size, 0, none⟩) 1 1 [0] := by rw [hw6]; exact (built (w := w5) (t := 5) [(0 : UInt8)] #[.int .u8 0] rfl 1 rfl (by decide)).grew ((Grew.refl _).alloc _)
  have three : Three d rec (w5.heap.size + 1) w.heap.size w6 := by
    refine ⟨fun k hk => ?_, by omega⟩
    obtain rfl | rfl | rfl : k = 0 ∨ k = 1 ∨ k = 2 := by omega
    · exact ⟨_, _, _, by rw [blk_cell blk6]; unfold woff; rw [if_neg (by omega), HEn.out]; rfl, by rw [blk_cell blk6]; rfl, by6, fun b o e => by injection e with e; injection e with e; omega⟩
    · refine ⟨_, _, _, by rw [blk_cell blk6]; unfold woff; rw [if_pos rfl, HEn.out]; simp, by rw [blk_cell blk6]; rfl, (Bytes.own HM9.out HO9.out).grew g6, fun b o e => ?_⟩
      obtain ⟨g9, hg9, hb9⟩ := own_at HO9.out (by omega)
      rw [hg9] at e; injection e with e; injection e with e; omega
    · refine ⟨some ⟨g7, 0, none⟩, 1, c7, by rw [blk_cell blk6]; unfold woff; rw [if_neg (by omega), HEn.out]; rfl, by rw [blk_cell blk6]; rfl, ?_, fun b o e => ?_⟩
      · have := (HP0.out.grew gr35).grew g6
        exact this
      · injection e with e; injection e with e
        have := g2.le
        omega
  have hd6 : w6.heap[w.heap.size]? = some (.cells #[.slice A n c, .slice A' n' c'] 25 (0, 0)) := g6.block (gr35.block (g3.block (g2.block HDB.out)))
  have hr6 : w6.heap[w.heap.size + 1]? = some (.cells #[.slice none 0 0, .slice none 0 0] 25 (0, 0)) := g6.block (gr35.block (g3.block (g2.block HR.out)))
  have gg6 := gg5.trans g6
  have sz8 : w.heap.size + 1 < w6.heap.size := World.block_lt_of_cell? _ _ (blk_cell hr6 0)
  rw [← hw6]
  have TH := Lib.hid three
  have HD6 := Lib.hid hd6
  have HR6 := Lib.hid hr6
  clear hw6 blk6 by6 three hd6 hr6 d0 d1 HO9 HP0 HP7 HBW HDB HR gr35
  refine (sync_val (HH.out.grew gg6) HSY.out).mono ?_
  rintro e w7 ⟨As, ns, cs, Bs, ms, fs, rfl, f7, g7'⟩
  have hd7 := g7'.block HD6.out
  have r0 := blk_cell hd7 0
  have r1 := blk_cell hd7 1
  have z0 := blk_frozen hd7 0
  have z1 := blk_frozen hd7 1
  have HD7 := Lib.hid hd7
  clear hd7
  go_wp2_with fail
  obtain ⟨w8, hw8⟩ : ∃ w8, w8 = (w7.setCell ⟨w.heap.size, 0, none⟩ (.slice As ns cs)).setCell ⟨w.heap.size, 1, none⟩ (.slice Bs ms fs) := ⟨_, rfl⟩
  have inv0 : AppInv d rec w w6 w8 0 As ns cs Bs ms fs w8 := by
    rw [hw8]
    exact ⟨blk_two HD7.out _ _, (f7.set (by simp; omega) _).set (by simp; omega) _, fun _ _ _ hc => hc, (Below.heap_setCell _ _ _ _ (by simp)).trans ((Below.heap_setCell _ _ _ _ (by simp)).trans (g7'.block HR6.out)),
      ((gg6.trans g7').set (by simp) _).set (by simp) _, by simp [World.setCell]; exact g7'.le⟩
  have th8 : Three d rec (w5.heap.size + 1) w.heap.size w8 := by
    rw [hw8]
    exact TH.out.keep (keepG_trans (keepG_trans (keepG_grew g7') (keepG_set 0 _)) (keepG_set 1 _))
  rw [← hw8]
  have TH8 := Lib.hid th8
  clear hw8 th8 r0 r1 z0 z1 HD7 f7
  go_loopw [84] (fun i wr => ∃ (k : Nat) (Ad : Option Addr) (nd cd : Nat) (Ae : Option Addr) (ne ce : Nat), k ≤ 3 ∧ i = .int .i64 k ∧ AppInv d rec w w6 w8 k Ad nd cd Ae ne ce wr) (fun i _ => 3 - (intOf i).toNat)
  case atStart => exact ⟨0, _, _, _, _, _, _, by omega, rfl, inv0⟩
  case round =>
    obtain ⟨k, Ad, nd, cd, Ae, ne, ce, hk, rfl, inv⟩ := hrel
    clear inv0
    have b0 : wr.cell? ⟨w.heap.size, 0, none⟩ = some (.slice Ad nd cd) := blk_cell inv.box 0
    have b1 : wr.cell? ⟨w.heap.size, 1, none⟩ = some (.slice Ae ne ce) := blk_cell inv.box 1
    have szr : w.heap.size < wr.heap.size := World.block_lt_of_cell? _ _ b0
    by_cases hlt : k < 3
    · obtain ⟨Ax, nx, cx, c1, c2, hbx, _⟩ := (TH8.out.keep inv.keep).ex k hlt
      obtain ⟨hE, hS⟩ := HST.out k hlt
      have hxo : woff d k ≤ 65537 := by unfold woff; rw [HEn.out]; split <;> omega
      have HIN := Lib.hid inv
      have HX := Lib.hid hbx
      have HE' := Lib.hid hE
      have HS' := Lib.hid hS
      have szh : w5.heap.size + 1 < wr.heap.size := World.block_lt_of_cell? _ _ c1
      have i0' : (0 : Int) ≤ (k : Int) := by omega
      have i1' : (k : Int) < 3 := by omega
      clear inv hbx hE hS
      go_wp2_with fail
      have ga : Grew wr (wr.alloc (.cells #[.int .i64 (woff d k : Int), .slice Ax nx cx] 45)) := (Grew.refl _).alloc _
      refine (write_val (HIN.out.disk.now.grew ga) (HX.out.grew ga) (by omega) (by omega) rfl HE'.out).mono ?_
      rintro e wb ⟨X1, p1, y1, X2, p2, y2, rfl, fb, gb⟩
      have gab := ga.trans gb
      clear b0 b1 c1 c2
      go_wp2_with fail
      have gbc : Grew wb (wb.alloc (.cells #[.slice X1 p1 y1, .slice X2 p2 y2] 25)) := (Grew.refl _).alloc _
      refine (sync_val (fb.now.grew gbc) HS'.out).mono ?_
      rintro e wc ⟨Y1, q1, u1, Y2, q2, u2, rfl, fc, gc⟩
      have gt := (gab.trans gbc).trans gc
      have hdc := gt.block HIN.out.box
      have r0 := blk_cell hdc 0
      have r1 := blk_cell hdc 1
      have z0 := blk_frozen hdc 0
      have z1 := blk_frozen hdc 1
      have HDC := Lib.hid hdc
      have inv2 : AppInv d rec w w6 w8 (k + 1) Y1 q1 u1 Y2 q2 u2 ((wc.setCell ⟨w.heap.size, 0, none⟩ (.slice Y1 q1 u1)).setCell ⟨w.heap.size, 1, none⟩ (.slice Y2 q2 u2)) := by
        have hle := Nat.le_trans HIN.out.size (gab.trans gbc).le
        exact ⟨blk_two HDC.out _ _, ((fc.set (by show w.heap.size < _; omega) _).set (by show w.heap.size < _; omega) _).mono hle,
          keepG_trans HIN.out.keep (keepG_trans (keepG_trans (keepG_grew gt) (keepG_set 0 _)) (keepG_set 1 _)),
          (Below.heap_setCell _ _ _ _ (by simp)).trans ((Below.heap_setCell _ _ _ _ (by simp)).trans (gt.block HIN.out.res)), ((HIN.out.grew.trans gt).set (by simp) _).set (by simp) _, by simp [World.setCell]; exact Nat.le_trans HIN.out.size gt.le⟩
      clear hdc fb fc HDC
      go_wp2_with fail
      go_roundw
      case rel => exact ⟨k + 1, _, _, _, _, _, _, by omega, by go_num, inv2⟩
      case measure => simp [intOf]; omega
    · obtain rfl : k = 3 := by omega
      have r0 := blk_cell inv.res 0
      have r1 := blk_cell inv.res 1
      have z0 := blk_frozen inv.res 0
      have z1 := blk_frozen inv.res 1
      have HIN := Lib.hid inv
      clear inv
      go_wp2_with fail
      obtain ⟨q0, q1⟩ := two_set r0 r1 (.slice Ad nd cd) (.slice Ae ne ce)
      refine bodyPost_ret (v := .tuple #[.agg #[.slice Ad nd cd, .slice Ae ne ce], .int .i64 0]) (by simp [results, Try.results34, go_sem, q0, q1]) rfl ⟨_, _, _, _, _, _, rfl, ?_, (HIN.out.grew.set (by simp) _).set (by simp) _⟩
      have hfr := ((HIN.out.disk.set (p := ⟨w.heap.size + 1, 0, none⟩) sz8 (.slice Ad nd cd)).set (p := ⟨w.heap.size + 1, 1, none⟩) sz8 (.slice Ae ne ce)).mono gg6.le
      rw [stg_three] at hfr
      exact hfr
end Go.Proofs.Ytneipacdpojjkaa
