/-
  The reference of the journal: Append.
-/
import Derived.Test.YtneipacdpojjkaaJrefE
import Derived.Test.YtneipacdpojjkaaRefF
namespace Go.Proofs.Ytneipacdpojjkaa
open Go.RowKit Go.Proofs WageMem WageDisk

theorem rwrite_val {v : Value} {d d' : Ds} {off e : Int} {A3 : Option Addr} {n3 c3 : Nat} {data : List UInt8} {w : World} (h : Disk w v d) (hD : Bytes w A3 n3 c3 data) (o0 : -9223372036854775808 ≤ off) (o1 : off ≤ 9223372036854775807) (hd : writeD d off data = d') (he : writeE d off data = e)
    {p q r s : Addr} {x y z t : Value} (h1 : w.cell? p = some x) (h2 : w.cell? q = some y) (h3 : w.cell? r = some z) (h4 : w.cell? s = some t) :
    Calls Try.prog 22 #[v, .int .i64 off, .slice A3 n3 c3] w fun r' w' => ∃ A n c A' n' c', r' = .returned (.tuple #[.agg #[.slice A n c, .slice A' n' c'], .int .i64 e]) ∧ w'.cell? p = some x ∧ w'.cell? q = some y ∧ w'.cell? r = some z ∧ w'.cell? s = some t ∧ Hid (Fresh w.heap.size w' fun W => Disk W (.agg #[.slice A n c, .slice A' n' c']) d') ∧ Hid (Grew w w') := by
  subst hd he
  exact (rwrite_any v d off A3 n3 c3 data w h hD o0 o1).mono fun _ _ ⟨A, n, c, A', n', c', e, f, g⟩ => ⟨A, n, c, A', n', c', e, g.cell h1, g.cell h2, g.cell h3, g.cell h4, f, g⟩

structure RaInv (w w7 W : World) (Ad : Option Addr) (nd cd : Nat) (Ae : Option Addr) (ne ce : Nat) (ds : Ds) : Prop where
  box : W.heap[w.heap.size]? = some (.cells #[.slice Ad nd cd, .slice Ae ne ce] 25 (0, 0))
  disk : Fresh w7.heap.size W fun X => Disk X (.agg #[.slice Ad nd cd, .slice Ae ne ce]) ds
  off : ∀ g, w.heap.size < g → g < w7.heap.size → W.heap[g]? = w7.heap[g]?
  grew : Grew w W
  size : w7.heap.size ≤ W.heap.size
theorem off_set2 {B : Nat} {w7 W W' : World} (h : ∀ g, B < g → g < w7.heap.size → W.heap[g]? = w7.heap[g]?) (hs : w7.heap.size ≤ W.heap.size) (g : Grew W W') (u v : Value) :
    ∀ g, B < g → g < w7.heap.size → ((W'.setCell ⟨B, 0, none⟩ u).setCell ⟨B, 1, none⟩ v).heap[g]? = w7.heap[g]? := fun k h1 h2 =>
  (Below.heap_setCell _ _ _ _ (by show k ≠ B; omega)).trans ((Below.heap_setCell _ _ _ _ (by show k ≠ B; omega)).trans ((g.below.block k (by omega)).trans (h k h1 h2)))

set_option maxRecDepth 100000 in
set_option maxHeartbeats 16000000 in
theorem rappend_ok (A : Option Addr) (n c : Nat) (A' : Option Addr) (n' c' : Nat) (d : Ds) (A3 : Option Addr) (n3 c3 : Nat) (rec : List UInt8) (w : World) (h : Disk w (.agg #[.slice A n c, .slice A' n' c']) d) (hD : Bytes w A3 n3 c3 rec)
    (hv : validB d = true) (h3 : 0 < n3) (hf : fitsB d rec = true) :
    Calls Try.prog 35 #[.agg #[.slice A n c, .slice A' n' c'], .slice A3 n3 c3] w (RetDiskE ⟨appB d rec, []⟩ 0 w) := by
  have HH := Lib.hid h
  have HD := Lib.hid hD
  have HV := Lib.hid hv
  have HF := Lib.hid hf
  have hst := h.parts.1.1
  have hn6 := (valid_size hv).1
  rw [hst] at hn6
  have hff := hf
  unfold fitsB at hff
  rw [Bool.and_eq_true, hD.1, hst] at hff
  have f1 : n3 ≤ 4096 := of_decide_eq_true hff.1
  have f2 := of_decide_eq_true hff.2
  obtain ⟨en, hen⟩ : ∃ en : Nat, jEnd d = en := ⟨_, rfl⟩
  rw [hen] at f2
  have HEN : Hid ((jEnd d : Int) = (en : Int)) := by unfold Hid; rw [hen]
  have HE := Lib.hid hen
  have t1 : ((n3 : Int) == 0) = false := beq_eq_false_iff_ne.2 (by omega)
  have t2 : decide (4096 < (n3 : Int)) = false := decide_eq_false (by omega)
  have t3 : decide ((n : Int) < (en : Int) + 13 + n3) = false := decide_eq_false (by omega)
  have HSY : Hid (syncD d = ⟨stgB d rec 0, []⟩) := sync_valid hv
  clear h hD hv hf hst hff hen h3
  go_enter Try.func35, Try.ntmps35
  go_wp2_with fail
  refine (rvalid_any _ d _ (HH.out.grew (((Grew.refl w).alloc _).alloc _))).mono ?_
  rw [HV.out]
  rintro e w1 ⟨rfl, g1⟩
  have hr : w1.heap[w.heap.size + 1]? = some (.cells #[.slice none 0 0, .slice none 0 0] 25 (0, 0)) := g1.block (blk_new2 _ _ _ _)
  have hd : w1.heap[w.heap.size]? = some (.cells #[.slice A n c, .slice A' n' c'] 25 (0, 0)) := g1.block (blk_new1 _ _ _ _)
  have d0 : w1.cell? ⟨w.heap.size, 0, none⟩ = some (.slice A n c) := blk_cell hd 0
  have d1 : w1.cell? ⟨w.heap.size, 1, none⟩ = some (.slice A' n' c') := blk_cell hd 1
  have gg : Grew w w1 := (((Grew.refl w).alloc _).alloc _).trans g1
  have sz1 : w.heap.size + 1 < w1.heap.size := World.block_lt_of_cell? _ _ (blk_cell hr 0)
  have HR := Lib.hid hr
  have HDB := Lib.hid hd
  clear hr g1 hd
  go_wp2_with fail
  refine (rrecs_int (HH.out.grew gg) rfl HEN.out).mono ?_
  rintro e w2 ⟨A6, n6, c6, rfl, L6, g2⟩
  replace d0 := g2.cell d0
  replace d1 := g2.cell d1
  have gg2 := gg.trans g2
  clear L6
  go_wp2_with fail
  refine (rwrites_any _ d A3 n3 c3 rec _ (HH.out.grew gg2) (HD.out.grew gg2) HV.out HF.out).mono ?_
  rintro e w7 ⟨H, rfl, f7, g7⟩
  replace d0 := g7.cell d0
  replace d1 := g7.cell d1
  have gg7 := gg2.trans g7
  have F7 : Hid (Fresh (w.heap.size + 1) w7 (Thr d rec H)) := f7.mono (by have := g2.le; omega)
  have hd7 : Hid (w7.heap[w.heap.size]? = some (.cells #[.slice A n c, .slice A' n' c'] 25 (0, 0))) := g7.block (g2.block HDB.out)
  have hr7 : Hid (w7.heap[w.heap.size + 1]? = some (.cells #[.slice none 0 0, .slice none 0 0] 25 (0, 0))) := g7.block (g2.block HR.out)
  have sz7 : w.heap.size + 1 < w7.heap.size := World.block_lt_of_cell? _ _ (blk_cell hr7.out 0)
  clear f7 gg gg2 g2 g7 HR HDB
  go_wp2_with fail
  refine (rsync_val (HH.out.grew gg7) HSY.out).mono ?_
  rintro e w8 ⟨As, ns, cs, Bs, ms, fs, rfl, f8, g8⟩
  have hd8 := g8.block hd7.out
  have r0 := blk_cell hd8 0
  have r1 := blk_cell hd8 1
  have z0 := blk_frozen hd8 0
  have z1 := blk_frozen hd8 1
  have inv0 : RaInv w w7 ((w8.setCell ⟨w.heap.size, 0, none⟩ (.slice As ns cs)).setCell ⟨w.heap.size, 1, none⟩ (.slice Bs ms fs)) As ns cs Bs ms fs ⟨stgB d rec 0, []⟩ :=
    ⟨blk_two hd8 _ _, (f8.set (by show w.heap.size < _; omega) _).set (by show w.heap.size < _; omega) _, off_set2 (fun _ _ _ => rfl) (Nat.le_refl _) g8 _ _, ((gg7.trans g8).set (Nat.le_refl _) _).set (Nat.le_refl _) _, by simp [World.setCell]; exact g8.le⟩
  have INV0 := Lib.hid inv0
  clear hd8 inv0 d0 d1 f8
  go_wp2_with fail
  go_loopw [9] (fun i wr => ∃ (k : Nat) (Ad : Option Addr) (nd cd : Nat) (Ae : Option Addr) (ne ce : Nat), k ≤ 3 ∧ i = .int .i64 k ∧ Hid (RaInv w w7 wr Ad nd cd Ae ne ce ⟨stgB d rec k, []⟩)) (fun i _ => 3 - (intOf i).toNat)
  case atStart => exact ⟨0, _, _, _, _, _, _, by omega, rfl, INV0⟩
  case round =>
    clear INV0 r0 r1 z0 z1
    obtain ⟨k, Ad, nd, cd, Ae, ne, ce, hk, rfl, INV⟩ := hrel
    by_cases hlt : k < 3
    · have e0 : wr.cell? ⟨w.heap.size, 0, none⟩ = some (.slice Ad nd cd) := blk_cell INV.out.box 0
      have e1 : wr.cell? ⟨w.heap.size, 1, none⟩ = some (.slice Ae ne ce) := blk_cell INV.out.box 1
      have szr : w.heap.size < wr.heap.size := World.block_lt_of_cell? _ _ e0
      obtain ⟨Ax, nx, cx, c1, c2, hbx⟩ := F7.out wr (fun g h1 h2 => INV.out.off g (by omega) h2) k hlt
      obtain ⟨hE, hS⟩ := stg_step (rec := rec) HV.out HF.out hlt
      obtain ⟨wo, hwo⟩ : ∃ wo : Nat, woff d k = wo := ⟨_, rfl⟩
      have hxo : wo ≤ 65537 := by rw [← hwo]; unfold woff; rw [HE.out]; split <;> omega
      rw [hwo] at c1 hE hS
      have szh : H < wr.heap.size := World.block_lt_of_cell? _ _ c1
      have HX0 := Lib.hid hbx
      have HX := Lib.hid (hbx.grew (Grew.refl wr).drew)
      have KD := Lib.hid (INV.out.disk.now.grew (Grew.refl wr).drew)
      have HE' := Lib.hid hE
      have HS' := Lib.hid hS
      have i0' : (0 : Int) ≤ (k : Int) := by omega
      have i1' : (k : Int) < 3 := by omega
      clear hbx hE hS hwo
      go_upto_region 11 with (fail)
      have gal : Grew wr (wr.alloc (.cells #[.slice none 0 0, .slice none 0 0] 25)).drew := ((Grew.refl wr).alloc _).drew
      have hzb : Hid ((wr.alloc (.cells #[.slice none 0 0, .slice none 0 0] 25)).drew.heap[wr.heap.size]? = some (.cells #[.slice none 0 0, .slice none 0 0] 25 (0, 0))) := heap_alloc_new _ _
      have m1 : wr.heap.size ≠ w.heap.size := by omega
      have m2 : wr.heap.size ≠ H := by omega
      have GAL := Lib.hid gal
      clear gal
      go_cut [10] (fun s10 wx => ∃ (r1 : Nat) (X1 : Option Addr) (p1 y1 : Nat) (X2 : Option Addr) (p2 y2 : Nat), s10 = .pointer (some ⟨r1, 0, none⟩) ∧ wx.cell? ⟨r1, 0, none⟩ = some (.slice X1 p1 y1) ∧ wx.cell? ⟨r1, 1, none⟩ = some (.slice X2 p2 y2) ∧ Hid (Disk wx (.agg #[.slice X1 p1 y1, .slice X2 p2 y2]) (writeD ⟨stgB d rec k, []⟩ (wo : Int) (wdata d rec k))) ∧ Grew wr wx)
      case first =>
        go_region_held3 (fun w' => w'.cell? ⟨w.heap.size, 0, none⟩ = some (.slice Ad nd cd) ∧ w'.cell? ⟨w.heap.size, 1, none⟩ = some (.slice Ae ne ce) ∧ w'.cell? ⟨H, k * 2, none⟩ = some (.int .i64 (wo : Int)) ∧ w'.cell? ⟨H, k * 2 + 1, none⟩ = some (.slice Ax nx cx))
          (first | (with_reducible exact ⟨far0 e0, far0 e1, far0 c1, far0 c2⟩) | (refine ⟨?_, ?_, ?_, ?_⟩ <;> assumption) | (with_reducible exact ⟨far2 k0 m1, far2 k1 m1, far2 k2 m2, far2 k3 m2⟩) | go_keep)
          (first
            | (go_at_call 22; ((with_reducible refine (rwrite_val KD.out HX.out (by omega) (by omega) rfl HE'.out (p := ⟨w.heap.size, 0, none⟩) (q := ⟨w.heap.size, 1, none⟩) (r := ⟨H, k * 2, none⟩) (s := ⟨H, k * 2 + 1, none⟩) (far0 e0) (far0 e1) (far0 c1) (far0 c2)).mono ?_); rintro e wb ⟨X1, p1, y1, X2, p2, y2, rfl, k0, k1, k2, k3, KB, GB⟩))
            | (go_at_call 22; ((with_reducible refine (rwrite_val (INV.out.disk.now.grew GAL.out) (HX0.out.grew GAL.out) (by omega) (by omega) rfl HE'.out (p := ⟨w.heap.size, 0, none⟩) (q := ⟨w.heap.size, 1, none⟩) (r := ⟨H, k * 2, none⟩) (s := ⟨H, k * 2 + 1, none⟩) (GAL.out.cell e0) (GAL.out.cell e1) (GAL.out.cell c1) (GAL.out.cell c2)).mono ?_); rintro e wb ⟨X1, p1, y1, X2, p2, y2, rfl, k0, k1, k2, k3, KB, GB⟩; have hzz := GB.out.block hzb.out; have r0 := blk_cell hzz 0; have r1 := blk_cell hzz 1; have z0 := blk_frozen hzz 0; have z1 := blk_frozen hzz 1; have HZZ := Lib.hid hzz; clear hzz)))
        · go_wp2_with fail
          go_meet
          exact ⟨_, _, _, _, _, _, _, rfl, by simp, by simp, KB.out.now.grew ((Grew.refl wb).alloc _), ((Grew.refl wr).drew.trans GB.out).alloc _⟩
        · go_wp2_with fail
          go_meet
          refine ⟨_, _, _, _, _, _, _, rfl, (blk_cell (blk_two HZZ.out _ _) 0), (blk_cell (blk_two HZZ.out _ _) 1), ((KB.out.set (by show wr.heap.size < _; simp) _).set (by show wr.heap.size < _; simp) _).now, ((GAL.out.trans GB.out).set (Nat.le_refl _) _).set (Nat.le_refl _) _⟩
      case rest =>
        obtain ⟨r1, X1, p1, y1, X2, p2, y2, rfl, x0, x1, KB, gb⟩ := hcut
        obtain ⟨wb, rfl⟩ : ∃ wb : World, wb = wc := ⟨_, rfl⟩
        clear e0 e1 c1 c2
        go_wp2_with fail
        refine (rsync_val KB.out HS'.out).mono ?_
        rintro e wd ⟨Y1, q1, u1, Y2, q2, u2, rfl, fc, gc⟩
        have gt := gb.trans gc
        have hdc := gt.block INV.out.box
        have r0 := blk_cell hdc 0
        have r1' := blk_cell hdc 1
        have z0 := blk_frozen hdc 0
        have z1 := blk_frozen hdc 1
        have inv2 : RaInv w w7 ((wd.setCell ⟨w.heap.size, 0, none⟩ (.slice Y1 q1 u1)).setCell ⟨w.heap.size, 1, none⟩ (.slice Y2 q2 u2)) Y1 q1 u1 Y2 q2 u2 ⟨stgB d rec (k + 1), []⟩ := by
          have hle2 := gb.le
          have hle3 := INV.out.size
          exact ⟨blk_two hdc _ _, ((fc.set (by show w.heap.size < _; omega) _).set (by show w.heap.size < _; omega) _).mono (by omega), off_set2 INV.out.off INV.out.size gt _ _, ((INV.out.grew.trans gt).set (Nat.le_refl _) _).set (Nat.le_refl _) _, by simp [World.setCell]; exact Nat.le_trans INV.out.size gt.le⟩
        have INV2 := Lib.hid inv2
        clear hdc fc inv2 INV KB x0 x1
        go_wp2_with fail
        go_roundw
        case rel => exact ⟨k + 1, _, _, _, _, _, _, by omega, by go_num, INV2⟩
        case measure => simp [intOf]; omega
    · obtain rfl : k = 3 := by omega
      have e0 : wr.cell? ⟨w.heap.size, 0, none⟩ = some (.slice Ad nd cd) := blk_cell INV.out.box 0
      have e1 : wr.cell? ⟨w.heap.size, 1, none⟩ = some (.slice Ae ne ce) := blk_cell INV.out.box 1
      have hrr := (INV.out.off (w.heap.size + 1) (by omega) sz7).trans hr7.out
      have r0 := blk_cell hrr 0
      have r1 := blk_cell hrr 1
      have z0 := blk_frozen hrr 0
      have z1 := blk_frozen hrr 1
      clear hrr
      go_wp2_with fail
      obtain ⟨q0, q1⟩ := two_set r0 r1 (.slice Ad nd cd) (.slice Ae ne ce)
      refine bodyPost_ret (v := .tuple #[.agg #[.slice Ad nd cd, .slice Ae ne ce], .int .i64 0]) (by simp [results, Try.results35, go_sem, q0, q1]) rfl ⟨_, _, _, _, _, _, rfl, ?_, (INV.out.grew.set (by simp) _).set (by simp) _⟩
      have hfr := ((INV.out.disk.set (p := ⟨w.heap.size + 1, 0, none⟩) sz7 (.slice Ad nd cd)).set (p := ⟨w.heap.size + 1, 1, none⟩) sz7 (.slice Ae ne ce)).mono gg7.le
      rw [stg_three] at hfr
      exact hfr

set_option maxHeartbeats 4000000 in
theorem rappend_bad (A : Option Addr) (n c : Nat) (A' : Option Addr) (n' c' : Nat) (d : Ds) (A3 : Option Addr) (n3 c3 : Nat) (w : World) (h : Disk w (.agg #[.slice A n c, .slice A' n' c']) d) (hs : validB d = false ∨ (validB d = true ∧ n3 = 0)) :
    Calls Try.prog 35 #[.agg #[.slice A n c, .slice A' n' c'], .slice A3 n3 c3] w (RetDiskE emptyD 1 w) := by
  have HH := Lib.hid h
  clear h
  rcases hs with hv | ⟨hv, rfl⟩
  all_goals
    have HV := Lib.hid hv
    clear hv
    go_enter Try.func35, Try.ntmps35
    go_wp2_with fail
    refine (rvalid_any _ d _ (HH.out.grew (((Grew.refl w).alloc _).alloc _))).mono ?_
    rw [HV.out]
    rintro e w1 ⟨rfl, g1⟩
    have hr : w1.heap[w.heap.size + 1]? = some (.cells #[.slice none 0 0, .slice none 0 0] 25 (0, 0)) := g1.block (blk_new2 _ _ _ _)
    have r0 := blk_cell hr 0
    have r1 := blk_cell hr 1
    have z0 := blk_frozen hr 0
    have z1 := blk_frozen hr 1
    have gg : Grew w w1 := (((Grew.refl w).alloc _).alloc _).trans g1
    clear hr g1
    go_wp2_with fail
    obtain ⟨q0, q1⟩ := two_set r0 r1 (.slice none 0 0) (.slice none 0 0)
    refine bodyPost_ret (v := .tuple #[.agg #[.slice none 0 0, .slice none 0 0], .int .i64 1]) (by simp [results, Try.results35, go_sem, q0, q1]) rfl ⟨_, _, _, _, _, _, rfl, ?_, (gg.set (by simp) _).set (by simp) _⟩
    exact Fresh.const fun _ => Disk.mk_ Bytes.none Writes.none

set_option maxHeartbeats 4000000 in
theorem rappend_full (A : Option Addr) (n c : Nat) (A' : Option Addr) (n' c' : Nat) (d : Ds) (A3 : Option Addr) (n3 c3 : Nat) (rec : List UInt8) (w : World) (h : Disk w (.agg #[.slice A n c, .slice A' n' c']) d) (hD : Bytes w A3 n3 c3 rec)
    (hv : validB d = true) (h3 : 0 < n3) (hf : fitsB d rec = false) :
    Calls Try.prog 35 #[.agg #[.slice A n c, .slice A' n' c'], .slice A3 n3 c3] w (RetDiskE emptyD 2 w) := by
  have HH := Lib.hid h
  have HV := Lib.hid hv
  have hst := h.parts.1.1
  have hn6 := (valid_size hv).1
  rw [hst] at hn6
  obtain ⟨en, hen⟩ : ∃ en : Nat, jEnd d = en := ⟨_, rfl⟩
  have hle := jEnd_le d
  rw [hen, hst] at hle
  unfold fitsB at hf
  rw [Bool.and_eq_false_iff, hD.1, hen, hst] at hf
  have HEN : Hid ((jEnd d : Int) = (en : Int)) := by unfold Hid; rw [hen]
  have t1 : ((n3 : Int) == 0) = false := beq_eq_false_iff_ne.2 (by omega)
  have hnm : n3 ≤ 9223372036854775807 := Nat.le_trans hD.2.1 hD.2.2.1
  have hc : decide (4096 < (n3 : Int)) = true ∨ (n3 ≤ 4096 ∧ decide (4096 < (n3 : Int)) = false ∧ decide ((n : Int) < (en : Int) + 13 + n3) = true) := by
    by_cases q : 4096 < n3
    · exact .inl (decide_eq_true (by omega))
    · refine .inr ⟨by omega, decide_eq_false (by omega), decide_eq_true ?_⟩
      rcases hf with hf | hf
      · have := of_decide_eq_false hf; omega
      · have := of_decide_eq_false hf; omega
  clear h hD hv hst hen hf h3
  rcases hc with t2 | ⟨q, t2, t3⟩
  all_goals
    go_enter Try.func35, Try.ntmps35
    go_wp2_with fail
    refine (rvalid_any _ d _ (HH.out.grew (((Grew.refl w).alloc _).alloc _))).mono ?_
    rw [HV.out]
    rintro e w1 ⟨rfl, g1⟩
    have hr : w1.heap[w.heap.size + 1]? = some (.cells #[.slice none 0 0, .slice none 0 0] 25 (0, 0)) := g1.block (blk_new2 _ _ _ _)
    have hd : w1.heap[w.heap.size]? = some (.cells #[.slice A n c, .slice A' n' c'] 25 (0, 0)) := g1.block (blk_new1 _ _ _ _)
    have d0 : w1.cell? ⟨w.heap.size, 0, none⟩ = some (.slice A n c) := blk_cell hd 0
    have d1 : w1.cell? ⟨w.heap.size, 1, none⟩ = some (.slice A' n' c') := blk_cell hd 1
    have gg : Grew w w1 := (((Grew.refl w).alloc _).alloc _).trans g1
    have HR := Lib.hid hr
    clear hr g1 hd
    go_wp2_with fail
    refine (rrecs_int (HH.out.grew gg) rfl HEN.out).mono ?_
    rintro e w2 ⟨A6, n6, c6, rfl, L6, g2⟩
    replace d0 := g2.cell d0
    replace d1 := g2.cell d1
    have hr2 := g2.block HR.out
    have r0 := blk_cell hr2 0
    have r1 := blk_cell hr2 1
    have z0 := blk_frozen hr2 0
    have z1 := blk_frozen hr2 1
    replace gg := gg.trans g2
    clear hr2 L6 g2
    go_wp2_with fail
    obtain ⟨q0, q1⟩ := two_set r0 r1 (.slice none 0 0) (.slice none 0 0)
    refine bodyPost_ret (v := .tuple #[.agg #[.slice none 0 0, .slice none 0 0], .int .i64 2]) (by simp [results, Try.results35, go_sem, q0, q1]) rfl ⟨_, _, _, _, _, _, rfl, ?_, (gg.set (by simp) _).set (by simp) _⟩
    exact Fresh.const fun _ => Disk.mk_ Bytes.none Writes.none

theorem rappend_any (v : Value) (d : Ds) (A3 : Option Addr) (n3 c3 : Nat) (rec : List UInt8) (w : World) (h : Disk w v d) (hD : Bytes w A3 n3 c3 rec) :
    Calls Try.prog 35 #[v, .slice A3 n3 c3] w (RetDiskE (appD d rec) (appE d rec) w) := by
  obtain ⟨A, n, c, A', n', c', rfl, _, _⟩ := h.form
  cases hv : validB d with
  | false =>
    rw [show appD d rec = emptyD by unfold appD; rw [hv]; rfl, show appE d rec = 1 by unfold appE; rw [hv]; rfl]
    exact rappend_bad A n c A' n' c' d A3 n3 c3 w h (.inl hv)
  | true =>
    by_cases h3 : 0 < n3
    · have hr : 0 < rec.length := by rw [hD.1]; exact h3
      cases hf : fitsB d rec with
      | false =>
        rw [show appD d rec = emptyD by unfold appD; rw [hf, Bool.and_false]; rfl, show appE d rec = 2 by unfold appE; rw [hv, decide_eq_true hr, hf]; rfl]
        exact rappend_full A n c A' n' c' d A3 n3 c3 rec w h hD hv h3 hf
      | true =>
        rw [show appD d rec = ⟨appB d rec, []⟩ by unfold appD; rw [hv, decide_eq_true hr, hf]; rfl, show appE d rec = 0 by unfold appE; rw [hv, decide_eq_true hr, hf]; rfl]
        exact rappend_ok A n c A' n' c' d A3 n3 c3 rec w h hD hv h3 hf
    · have hr : ¬ 0 < rec.length := by rw [hD.1]; exact h3
      rw [show appD d rec = emptyD by unfold appD; rw [decide_eq_false hr, Bool.and_false]; rfl, show appE d rec = 1 by unfold appE; rw [decide_eq_false hr, Bool.and_false]; rfl]
      exact rappend_bad A n c A' n' c' d A3 n3 c3 w h (.inr ⟨hv, by omega⟩)
theorem rappend_val {v : Value} {d d' : Ds} {e : Int} {A3 : Option Addr} {n3 c3 : Nat} {rec : List UInt8} {w : World} (h : Disk w v d) (hD : Bytes w A3 n3 c3 rec) (hd : appD d rec = d') (he : appE d rec = e) :
    Calls Try.prog 35 #[v, .slice A3 n3 c3] w (RetDiskE d' e w) := by
  subst hd he; exact rappend_any v d A3 n3 c3 rec w h hD
end Go.Proofs.Ytneipacdpojjkaa
