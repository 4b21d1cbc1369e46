/-
  The reference implementation of the disk: Crash (whole), Sync, Read.
-/
import Derived.Test.YtneipacdpojjkaaRefD
namespace Go.Proofs.Ytneipacdpojjkaa
open Go.RowKit Go.Proofs WageMem WageDisk

set_option maxHeartbeats 2000000 in
theorem rcrash_any (v : Value) (d : Ds) (Ak : Option Addr) (nk ck : Nat) (kept : List Int) (w : World) (h : Disk w v d) (hK : Ints w Ak nk ck kept) : Calls Try.prog 29 #[v, .slice Ak nk ck] w (RetDisk (crashD d kept) w) := by
  obtain ⟨A, n, c, A', n', c', rfl, hB, hW⟩ := h.form
  cases hv : validB d with
  | false =>
    have E : Hid (crashD d kept = emptyD) := by unfold Hid crashD; rw [hv]; rfl
    have HV := Lib.hid hv
    clear hv
    go_enter Try.func29, Try.ntmps29
    go_wp2_with fail
    refine (rvalid_any _ d _ (h.grew (((Grew.refl w).alloc _).alloc _))).mono ?_
    rw [HV.out]
    rintro e w1 ⟨rfl, g1⟩
    have hr : w1.heap[w.heap.size + 1]? = some (.cells #[.slice none 0 0, .slice none 0 0] 25 (0, 0)) := g1.block (blk_new2 _ _ _ _)
    have r0 := blk_cell hr 0
    have r1 := blk_cell hr 1
    have z0 := blk_frozen hr 0
    have z1 := blk_frozen hr 1
    have gg : Grew w w1 := (((Grew.refl w).alloc _).alloc _).trans g1
    clear hr g1
    go_wp2_with fail
    obtain ⟨q0, q1⟩ := two_set r0 r1 (.slice none 0 0) (.slice none 0 0)
    refine bodyPost_ret (v := .agg #[.slice none 0 0, .slice none 0 0]) (by simp [results, Try.results29, go_sem, q0, q1]) rfl ⟨_, _, _, _, _, _, rfl, ?_, (gg.set (by simp) _).set (by simp) _⟩
    rw [E.out]
    exact Fresh.const fun _ => Disk.mk_ Bytes.none Writes.none
  | true =>
    rw [crash_valid hv]
    exact rcrash_ok A n c A' n' c' d Ak nk ck kept w h hK hv
theorem rcrash_val {v : Value} {d d' : Ds} {Ak : Option Addr} {nk ck : Nat} {kept : List Int} {w : World} (h : Disk w v d) (hK : Ints w Ak nk ck kept) (hd : crashD d kept = d') : Calls Try.prog 29 #[v, .slice Ak nk ck] w (RetDisk d' w) := by
  subst hd; exact rcrash_any v d Ak nk ck kept w h hK

theorem sync_lens {d : Ds} {k : Nat} (hk : d.pe.length ≤ k ∨ 64 < k) : crashD d (lens d k) = syncD d := by
  cases hv : validB d with
  | false => unfold crashD syncD; rw [hv]; rfl
  | true =>
    have h1 := (valid_size hv).2
    have e : lens d k = lens d d.pe.length := by unfold lens; rw [List.take_of_length_le (by omega), List.take_length]
    rw [e, crash_lens hv (Nat.le_refl _), List.take_length, sync_valid hv]

set_option maxRecDepth 100000 in
set_option maxHeartbeats 4000000 in
theorem rsync_any (v : Value) (d : Ds) (w : World) (h : Disk w v d) : Calls Try.prog 27 #[v] w (RetDisk (syncD d) w) := by
  obtain ⟨A, n, c, A', n', c', rfl, hB, hW⟩ := h.form
  obtain ⟨i0, hi, hz0, hz1, hz2⟩ := info_parts info3
  have HN := Lib.hid hW.1
  have HH := Lib.hid h
  have hm : n' ≤ maxLen := Nat.le_trans hW.2.1 hW.2.2.1
  unfold maxLen at hm
  clear hB hW h
  go_enter Try.func27, Try.ntmps27
  go_wp2_with fail
  obtain ⟨w1, hw1⟩ : ∃ w1, w1 = (w.alloc (.cells #[.slice A n c, .slice A' n' c'] 25)).alloc (.cells #[.slice none 0 0, .slice none 0 0] 25) := ⟨_, rfl⟩
  have g1 : Grew w w1 := by rw [hw1]; exact ((Grew.refl w).alloc _).alloc _
  have hr : w1.heap[w.heap.size + 1]? = some (.cells #[.slice none 0 0, .slice none 0 0] 25 (0, 0)) := by rw [hw1]; exact blk_new2 _ _ _ _
  have hd : w1.heap[w.heap.size]? = some (.cells #[.slice A n c, .slice A' n' c'] 25 (0, 0)) := by rw [hw1]; exact blk_new1 _ _ _ _
  rw [← hw1]
  have D0 := Lib.hid (blk_cell hd 0)
  have D1 := Lib.hid (blk_cell hd 1)
  have HR := Lib.hid hr
  have nz : w.heap.size + 1 < w1.heap.size := World.block_lt_of_cell? _ _ (blk_cell hr 0)
  clear hw1 hr hd
  go_loopw [3, 4] (fun v i wr => ∃ (k : Nat) (Af : Option Addr) (cf : Nat), k ≤ n' ∧ k ≤ 65 ∧ v = .slice Af k cf ∧ i = .int .i64 k ∧ wr.ownsRow w1.heap.size 3 1 (.slice Af k cf) k ((lens d k).map iv) ∧ Grew w1 wr) (fun _ i _ => n' - (intOf i).toNat)
  case atStart => exact ⟨0, none, 0, Nat.zero_le _, Nat.zero_le _, rfl, rfl, World.ownsRow_nil _ _ _ _, Grew.refl _⟩
  case round =>
    obtain ⟨k, Af, cf, hk, hk5, rfl, rfl, hown, hg⟩ := hrel
    have d0 : wr.cell? ⟨w.heap.size, 0, none⟩ = some (.slice A n c) := hg.cell D0.out
    have d1 : wr.cell? ⟨w.heap.size, 1, none⟩ = some (.slice A' n' c') := hg.cell D1.out
    by_cases hlt : k < n' ∧ k ≤ 64
    · obtain ⟨h1, h2⟩ := hlt
      have t1 : decide (k < n') = true := decide_eq_true h1
      have t2 : decide ((k : Int) ≤ 64) = true := decide_eq_true (by omega)
      obtain ⟨b, o, x, Ad, nd, cd, rfl, hx, c1, c2, hbx⟩ := (HH.out.grew (g1.trans hg)).parts.2.at_ (k := k) h1
      have hs := lens_succ hx
      rw [hbx.1] at hs
      have HX := Lib.hid hs
      have HO := Lib.hid hown
      have bi := builtI (w := wr) (t := 3) [(nd : Int)] #[.int .i64 nd] rfl 1 rfl (by decide)
      have BI := Lib.hid bi
      clear hown bi hx hs hbx c1
      go_wp2_with (at_builtin; refine wpList_append_sl _ rfl (.tmp 16) (.tmp 24) 26 rfl w1.heap.size 3 i0 (.int .i64 0) 1 8 Try.underlying26 hi hz0 hz1 hz2 rfl (by decide) (.slice Af k cf) k ((lens d k).map iv) rfl (HO.out.alloc _) (some ⟨wr.heap.size, 0, none⟩) 1 1 [.int .i64 nd] rfl BI.out.2 (by simp [Value.oneCell']) (by unfold maxLen; omega) (by omega) (by have := hg.le; simp; omega) ?_; intro v1 x1 own1 hg1 hat1; obtain ⟨Ag, cg, rfl⟩ := own_form own1)
      have hgx : Grew w1 x1 := (hg.alloc _).grown hg1 (fun j hj => (HO.out.lt j hj).1)
      have own2 : x1.ownsRow w1.heap.size 3 1 (.slice Ag (k + 1) cg) (k + 1) ((lens d (k + 1)).map iv) := by
        rw [HX.out, List.map_append]; exact own1
      clear own1 hg1 hat1 HO BI
      go_roundw
      case rel => exact ⟨k + 1, Ag, cg, by omega, by omega, rfl, by go_num, own2, hgx⟩
      case measure => simp [intOf]; omega
    · have HF := Lib.hid (Ints.own (lens_len (by rw [HN.out]; exact hk)) hown)
      have E := Lib.hid (sync_lens (d := d) (k := k) (by rw [HN.out]; omega))
      have hr2 := hg.block HR.out
      have HR2 := Lib.hid hr2
      clear hown hr2
      have ggr := g1.trans hg
      have hlt' : decide (k < n') = false ∨ (decide (k < n') = true ∧ decide ((k : Int) ≤ 64) = false) := by
        by_cases q : k < n'
        · exact .inr ⟨decide_eq_true q, decide_eq_false (by omega)⟩
        · exact .inl (decide_eq_false q)
      clear hlt
      rcases hlt' with t1 | ⟨t1, t2⟩
      all_goals
        go_wp2_with fail
        refine (rcrash_val (HH.out.grew ggr) HF.out E.out).mono ?_
        rintro e w4 ⟨As, ns, cs, As', ns', cs', rfl, f4, g4⟩
        have hr3 := g4.block HR2.out
        have r0 := blk_cell hr3 0
        have r1 := blk_cell hr3 1
        have z0 := blk_frozen hr3 0
        have z1 := blk_frozen hr3 1
        clear hr3 d0 d1
        go_wp2_with fail
        obtain ⟨q0, q1⟩ := two_set r0 r1 (.slice As ns cs) (.slice As' ns' cs')
        refine bodyPost_ret (v := .agg #[.slice As ns cs, .slice As' ns' cs']) (by simp [results, Try.results27, go_sem, q0, q1]) rfl ⟨_, _, _, _, _, _, rfl, ?_, ((ggr.trans g4).set (by simp) _).set (by simp) _⟩
        have nz2 : w.heap.size + 1 < wr.heap.size := Nat.lt_of_lt_of_le nz hg.le
        exact (((f4.set nz2 _).set nz2 _).mono ggr.le)
theorem rsync_val {v : Value} {d d' : Ds} {w : World} (h : Disk w v d) (hd : syncD d = d') : Calls Try.prog 27 #[v] w (RetDisk d' w) := by
  subst hd; exact rsync_any v d w h

set_option maxHeartbeats 4000000 in
theorem rread_any (v : Value) (d : Ds) (off count : Int) (w : World) (h : Disk w v d) (o0 : -9223372036854775808 ≤ off) (c0 : -9223372036854775808 ≤ count) (o1 : off ≤ 9223372036854775807) (c1 : count ≤ 9223372036854775807) :
    Calls Try.prog 24 #[v, .int .i64 off, .int .i64 count] w (RetBytesE (readB d off count) (readE d off count) w) := by
  obtain ⟨A, n, c, A', n', c', rfl, hB, hW⟩ := h.form
  have hn := hB.1
  cases hv : validB d with
  | false =>
    have E : Hid (readB d off count = [] ∧ readE d off count = 1) := by unfold Hid readB readE; rw [hv]; exact ⟨rfl, rfl⟩
    have HV := Lib.hid hv
    clear hv hn
    go_enter Try.func24, Try.ntmps24
    go_wp2_with fail
    refine (rvalid_any _ d _ (h.grew ((Grew.refl w).alloc _))).mono ?_
    rw [HV.out]
    rintro e w1 ⟨rfl, g1⟩
    have d0 : w1.cell? ⟨w.heap.size, 0, none⟩ = some (.slice A n c) := g1.cell (by simp)
    have gg : Grew w w1 := ((Grew.refl w).alloc _).trans g1
    go_wp2_with fail
    go_ret2
    rw [E.out.1, E.out.2]
    exact ⟨none, 0, 0, rfl, Fresh.const fun _ => Bytes.none, gg⟩
  | true =>
    have hvs := valid_size hv
    have s1 : n ≤ 65536 := by omega
    have hlen := apply_len hv (ch := wholeC) (fun _ _ => Nat.le_refl _)
    rw [hn] at hlen
    cases hi : insideB off count n with
    | false =>
      have E : Hid (readB d off count = [] ∧ readE d off count = 1) := by unfold Hid readB readE; rw [hv, hn, hi]; exact ⟨rfl, rfl⟩
      have HV := Lib.hid hv
      have hii := of_decide_eq_false hi
      clear hv hn hvs hlen hi
      by_cases k1 : off < 0
      · have t1 : decide (off < 0) = true := decide_eq_true k1
        clear hii
        go_enter Try.func24, Try.ntmps24
        go_wp2_with fail
        refine (rvalid_any _ d _ (h.grew ((Grew.refl w).alloc _))).mono ?_
        rw [HV.out]
        rintro e w1 ⟨rfl, g1⟩
        have d0 : w1.cell? ⟨w.heap.size, 0, none⟩ = some (.slice A n c) := g1.cell (by simp)
        have gg : Grew w w1 := ((Grew.refl w).alloc _).trans g1
        go_wp2_with fail
        go_ret2
        rw [E.out.1, E.out.2]
        exact ⟨none, 0, 0, rfl, Fresh.const fun _ => Bytes.none, gg⟩
      have t1 : decide (off < 0) = false := decide_eq_false k1
      by_cases k2 : count < 0
      · have t2 : decide (count < 0) = true := decide_eq_true k2
        clear hii
        go_enter Try.func24, Try.ntmps24
        go_wp2_with fail
        refine (rvalid_any _ d _ (h.grew ((Grew.refl w).alloc _))).mono ?_
        rw [HV.out]
        rintro e w1 ⟨rfl, g1⟩
        have d0 : w1.cell? ⟨w.heap.size, 0, none⟩ = some (.slice A n c) := g1.cell (by simp)
        have gg : Grew w w1 := ((Grew.refl w).alloc _).trans g1
        go_wp2_with fail
        go_ret2
        rw [E.out.1, E.out.2]
        exact ⟨none, 0, 0, rfl, Fresh.const fun _ => Bytes.none, gg⟩
      have t2 : decide (count < 0) = false := decide_eq_false k2
      by_cases k3 : (n : Int) < off
      · have t3 : decide ((n : Int) < off) = true := decide_eq_true k3
        clear hii
        go_enter Try.func24, Try.ntmps24
        go_wp2_with fail
        refine (rvalid_any _ d _ (h.grew ((Grew.refl w).alloc _))).mono ?_
        rw [HV.out]
        rintro e w1 ⟨rfl, g1⟩
        have d0 : w1.cell? ⟨w.heap.size, 0, none⟩ = some (.slice A n c) := g1.cell (by simp)
        have gg : Grew w w1 := ((Grew.refl w).alloc _).trans g1
        go_wp2_with fail
        go_ret2
        rw [E.out.1, E.out.2]
        exact ⟨none, 0, 0, rfl, Fresh.const fun _ => Bytes.none, gg⟩
      have t3 : decide ((n : Int) < off) = false := decide_eq_false k3
      have k4 : (n : Int) - off < count := by omega
      have t4 : decide ((n : Int) - off < count) = true := decide_eq_true k4
      clear hii
      go_enter Try.func24, Try.ntmps24
      go_wp2_with fail
      refine (rvalid_any _ d _ (h.grew ((Grew.refl w).alloc _))).mono ?_
      rw [HV.out]
      rintro e w1 ⟨rfl, g1⟩
      have d0 : w1.cell? ⟨w.heap.size, 0, none⟩ = some (.slice A n c) := g1.cell (by simp)
      have gg : Grew w w1 := ((Grew.refl w).alloc _).trans g1
      go_wp2_with fail
      go_ret2
      rw [E.out.1, E.out.2]
      exact ⟨none, 0, 0, rfl, Fresh.const fun _ => Bytes.none, gg⟩
    | true =>
      have hin := of_decide_eq_true hi
      obtain ⟨i0, i1, i2, i3⟩ := hin
      have E : Hid (readB d off count = ((applyTo wholeC d.st 0 d.pe).drop off.toNat).take count.toNat ∧ readE d off count = 0) := by unfold Hid readB readE; rw [hv, hn, hi]; exact ⟨rfl, rfl⟩
      have HV := Lib.hid hv
      have HL := Lib.hid hlen
      have HN := Lib.hid hn
      have HS := Lib.hid (sync_valid hv)
      have t1 : decide (off < 0) = false := decide_eq_false (by omega)
      have t2 : decide (count < 0) = false := decide_eq_false (by omega)
      have t3 : decide ((n : Int) < off) = false := decide_eq_false (by omega)
      have t4 : decide ((n : Int) - off < count) = false := decide_eq_false (by omega)
      clear hv hn hvs hlen hi
      go_enter Try.func24, Try.ntmps24
      go_wp2_with fail
      refine (rvalid_any _ d _ (h.grew ((Grew.refl w).alloc _))).mono ?_
      rw [HV.out]
      rintro e w1 ⟨rfl, g1⟩
      have d0 : w1.cell? ⟨w.heap.size, 0, none⟩ = some (.slice A n c) := g1.cell (by simp)
      have gg : Grew w w1 := ((Grew.refl w).alloc _).trans g1
      have d1 : w1.cell? ⟨w.heap.size, 1, none⟩ = some (.slice A' n' c') := g1.cell (by simp)
      clear g1
      go_wp2_with fail
      refine (rsync_val (h.grew gg) HS.out).mono ?_
      rintro e w2 ⟨A5, n5, c5, A6, n6, c6, rfl, f2, g2⟩
      have hB2 : Fresh w1.heap.size w2 fun W => Bytes W A5 n5 c5 (applyTo wholeC d.st 0 d.pe) := f2.imp fun W h => h.parts.1
      obtain rfl : n5 = n := by have := hB2.now.1; rw [HL.out] at this; exact this.symm
      have hcc : n5 ≤ c5 := hB2.now.2.1
      have hcm : c5 ≤ 9223372036854775807 := hB2.now.2.2.1
      have hp := hB2.imp fun W h => h.part (a := off.toNat) (m := count.toNat) (by omega)
      have gg2 := gg.trans g2
      clear d0 d1 hB2 f2
      have f1 : 0 ≤ off + count := by omega
      have f2 : off + count ≤ c5 := by omega
      have f3 : off ≤ off + count := by omega
      have hfd : ∀ W, (Instr.field 25 (.agg #[.slice A5 n5 c5, .slice A6 n6 c6]) 0).run Try.prog W = .ok (.slice A5 n5 c5) W := fun _ => by kernel_rfl
      obtain ⟨m, hm⟩ : ∃ m, count.toNat = m := ⟨_, rfl⟩
      have e1 : (off + count).toNat - off.toNat = m := by omega
      obtain ⟨Bp, hBp⟩ : ∃ Bp, (if c5 = off.toNat then A5 else Option.map (fun x => x.add off.toNat) A5) = Bp := ⟨_, rfl⟩
      rw [hm, hBp] at hp
      have HM := Lib.hid hm
      have HP := Lib.hid hp
      clear hm hp
      go_wp2_with fail
      go_ret2
      rw [E.out.1, E.out.2, HM.out]
      exact ⟨Bp, m, _, rfl, HP.out.mono gg.le, gg2⟩
theorem rread_val {v : Value} {d : Ds} {off count e : Int} {bs : List UInt8} {w : World} (h : Disk w v d) (o0 : -9223372036854775808 ≤ off) (c0 : -9223372036854775808 ≤ count) (o1 : off ≤ 9223372036854775807) (c1 : count ≤ 9223372036854775807) (hb : readB d off count = bs) (he : readE d off count = e) :
    Calls Try.prog 24 #[v, .int .i64 off, .int .i64 count] w (RetBytesE bs e w) := by
  subst hb he; exact rread_any v d off count w h o0 c0 o1 c1
end Go.Proofs.Ytneipacdpojjkaa
