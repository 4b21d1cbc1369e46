/-
 The violations of a worker.
-/
import Derived.Test.YtnnbibmmofnkdaaGreatRosD
namespace Go.Proofs.YtnnbibmmofnkdaaGreat
open Go.RowKit Go.Proofs WageMem WageReg WageRec WageSpan WageTop
theorem meth160 (W : World) : (method 402 160 (.agg #[]) "wageoffice/roster.find").run Tryz.prog W = .ok (209, .agg #[]) W := by kernel_rfl
theorem meth161 (W : World) : (method 402 161 (.agg #[]) "wageoffice/roster.find").run Tryz.prog W = .ok (213, .agg #[]) W := by kernel_rfl
theorem meth162 (W : World) : (method 402 162 (.agg #[]) "wageoffice/roster.find").run Tryz.prog W = .ok (215, .agg #[]) W := by kernel_rfl
theorem meth163 (W : World) : (method 402 163 (.agg #[]) "wageoffice/roster.find").run Tryz.prog W = .ok (216, .agg #[]) W := by kernel_rfl
theorem meth164 (W : World) : (method 402 164 (.agg #[]) "wageoffice/roster.find").run Tryz.prog W = .ok (219, .agg #[]) W := by kernel_rfl
theorem meth165 (W : World) : (method 402 165 (.agg #[]) "wageoffice/roster.find").run Tryz.prog W = .ok (221, .agg #[]) W := by kernel_rfl
theorem any_step {f : Nat → Bool} {k j n : Nat} (h : j = 0 ↔ (List.range k).any f = false) (h2 : n = 0 ↔ f k = false) : j + n = 0 ↔ (List.range (k + 1)).any f = false := by
 rw [List.range_succ, List.any_append]
 simp only [List.any_cons, List.any_nil, Bool.or_false, Bool.or_eq_false_iff]
 rw [← h, ← h2]
 omega
theorem idx_step {rs : List Int} {k : Nat} {y w : Int} (h : rs[k]? = some y) : idxF 0 (rs.take (k + 1)) w = idxF 0 (rs.take k) w ++ (if y = w then [k] else []) := by
 have hk := (List.getElem?_eq_some_iff.1 h).1
 rw [List.take_add_one, h, Option.toList, idxF_append, List.length_take, show 0 + min k rs.length = k by omega]
 rfl
theorem idx_lt (rs : List Int) (w : Int) : ∀ k, ∀ d ∈ idxF k rs w, d < k + rs.length := by
 induction rs with
 | nil => intro k d hd; simp [idxF] at hd
 | cons y rs ih =>
  intro k d hd
  unfold idxF at hd
  rw [List.length_cons]
  split at hd
  ·rcases List.mem_cons.1 hd with rfl | hd
   ·omega
   ·have := ih (k + 1) d hd; omega
  ·have := ih (k + 1) d hd; omega
set_option maxRecDepth 100000 in
set_option maxHeartbeats 16000000 in
theorem worker43 {w : World} {cb : Nat} {p : Pl} {wk : Nat} {x : Wo} {R : Option Addr} {rn rc : Nat} {rs : List Int} (h : CkAt w cb p) (hok : planB p = true) (hx : p.ws[wk]? = some x) (hi : Ints w R rn rc rs) (hn : rn ≤ p.dn) :
  Calls Tryz.prog 43 #[.pointer (some ⟨cb, 0, none⟩), .slice R rn rc, .int .i64 (wk : Int)] w (RetVs (violW p x (idxF 0 rs wk)) 600000 w) := by
 obtain ⟨i0, hi0, hz0, hz1, hz2⟩ := info_parts info109
 obtain ⟨i3, hi3, hz3, hs3, hb3⟩ := info_parts info3
 have HCK := Lib.hid h
 have HI := Lib.hid hi
 have HX := Lib.hid hx
 have HNL : Hid (rs.length = rn) := hi.1
 have hr24 : rn ≤ 24 := by
  have := hok
  unfold planB at this
  simp only [Bool.and_eq_true, decide_eq_true_eq] at this
  omega
 have hn9 : rn ≤ 9223372036854775807 := by omega
 obtain ⟨w1, hw1⟩ : ∃ y, y = w.alloc (.cells #[.pointer (some ⟨cb, 0, none⟩), .int .i64 (wk : Int), .slice none 0 0] 197) := ⟨_, rfl⟩
 obtain ⟨tb, htb⟩ : ∃ z, z = w.heap.size := ⟨_, rfl⟩
 have g1 : Grew w w1 := by rw [hw1]; exact (Grew.refl w).alloc _
 have HB1 : Hid (Blk w1 tb 197 [.pointer (some ⟨cb, 0, none⟩), .int .i64 (wk : Int), .slice none 0 0]) := by unfold Hid; rw [hw1, htb]; exact Blk.new w 197 [.pointer (some ⟨cb, 0, none⟩), .int .i64 (wk : Int), .slice none 0 0]
 have HTB : Hid (tb = w.heap.size) := htb
 have HG1 := Lib.hid g1
 have HW1 : Hid (w1.heap.size = tb + 1) := by unfold Hid; rw [hw1, htb]; simp
 clear h hi hx
 go_enter Tryz.func43, Tryz.ntmps43
 go_upto_region 2 with (fail)
 rw [← hw1, ← htb]
 clear hw1 htb g1
 go_wp2_with fail
 go_loopw [18] (fun i y => ∃ (k j c : Nat) (A : Option Addr), k ≤ rn ∧ i = .int .i64 k ∧ j ≤ k ∧ Hid (Blk y tb 197 [.pointer (some ⟨cb, 0, none⟩), .int .i64 (wk : Int), .slice A j c]) ∧ Hid (y.ownsRow w1.heap.size 3 1 (.slice A j c) j ((idxL (idxF 0 (rs.take k) wk)).map iv)) ∧ Hid ((idxF 0 (rs.take k) wk).length = j) ∧ Hid (Grew w y)) (fun i _ => rn - (intOf i).toNat)
 case atStart => exact ⟨0, 0, 0, none, Nat.zero_le _, rfl, Nat.le_refl _, HB1.out, World.ownsRow_nil _ _ _ _, rfl, HG1.out⟩
 case round =>
  obtain ⟨k, j, c, A, hk, rfl, hj, HB, OW, HL, HR⟩ := hrel
  by_cases hlt : k < rn
  ·obtain ⟨bb, oo, hA, hcc⟩ := (HI.out.grew HR.out).at_ (by omega)
   obtain ⟨y, hy⟩ : ∃ y, rs[k]? = some y := ⟨_, List.getElem?_eq_getElem (by rw [HNL.out]; exact hlt)⟩
   have c0 := hcc k _ hy
   have HST := Lib.hid (idx_step (w := (wk : Int)) hy)
   have e1 : (0 : Int) ≤ (k : Int) := by omega
   have e2 : (k : Int) < (rn : Int) := by omega
   subst hA
   clear hcc hy
   by_cases hy : y = (wk : Int)
   ·have HS2 : Hid (idxF 0 (rs.take (k + 1)) wk = idxF 0 (rs.take k) wk ++ [k]) := by unfold Hid; rw [HST.out, if_pos hy]
    have q1 : (y == (wk : Int)) = true := by simpa using hy
    have c2 := HB.out.cell (i := 2) (v := .slice A j c) rfl
    obtain ⟨wy, hwy⟩ : ∃ y, y = wr.alloc (.cells #[.int .i64 (k : Int)] 3) := ⟨_, rfl⟩
    have gy : Grew wr wy := by rw [hwy]; exact (Grew.refl wr).alloc _
    have BI : Hid (Sl wy 1 (some ⟨wr.heap.size, 0, none⟩) 1 1 ([(k : Int)].map iv)) := by unfold Hid; rw [hwy]; exact builtS (w := wr) (t := 3) 1 1 #[.int .i64 (k : Int)] _ rfl rfl (by decide)
    have OWy := Lib.hid (own_grew OW.out gy)
    have HBy := Lib.hid (HB.out.grew gy)
    have HRy := Lib.hid (HR.out.trans gy)
    have HBs : Hid (w1.heap.size ≤ wy.heap.size) := by unfold Hid; have h1 := HBy.out.lt; have := HW1.out; omega
    clear hy gy OW HB HR HST
    go_upto_region 7 with (at_builtin; rw [← hwy]; refine wpList_append_sl _ rfl (.tmp 27) (.tmp 29) 38 rfl w1.heap.size 3 i3 (.int .i64 0) 1 8 Tryz.underlying38 hi3 hz3 hs3 hb3 rfl (by decide) (.slice A j c) j _ rfl OWy.out (some ⟨wr.heap.size, 0, none⟩) 1 1 _ rfl BI.out (iv_one _) (by unfold maxLen; omega) (by omega) HBs.out ?_; intro v7 w7 own7 hg7 hat7; obtain ⟨A7, c7, rfl⟩ := own_form own7; have HB7 := Lib.hid (HBy.out.kept hg7 (own_blk OWy.out HBy.out (by decide))); have c7' := HB7.out.cell (i := 2) (v := .slice A j c) rfl; have f7 := HB7.out.frozen 2)
    obtain ⟨w8, hw8⟩ : ∃ y, y = w7.setCell ⟨tb, 2, none⟩ (.slice A7 (j + 1) c7) := ⟨_, rfl⟩
    have HB8 : Hid (Blk w8 tb 197 [.pointer (some ⟨cb, 0, none⟩), .int .i64 (wk : Int), .slice A7 (j + 1) c7]) := by unfold Hid; rw [hw8]; exact HB7.out.set 2 _
    have OW8 : Hid (w8.ownsRow w1.heap.size 3 1 (.slice A7 (j + 1) c7) (j + 1) ((idxL (idxF 0 (rs.take (k + 1)) wk)).map iv)) := by
     unfold Hid; rw [hw8, HS2.out]; unfold idxL; rw [List.map_append, List.map_append]; exact own_set own7 HB7.out (by decide) _ _
    have HL8 : Hid ((idxF 0 (rs.take (k + 1)) wk).length = j + 1) := by unfold Hid; rw [HS2.out, List.length_append, HL.out]; rfl
    have HR8 : Hid (Grew w w8) := by unfold Hid; rw [hw8]; exact (HRy.out.grown hg7 (fun q hq => by have h1 := (OWy.out.lt q hq).1; have := HW1.out; have := HTB.out; omega)).grown (grown_set w7 tb 2 _) (fun q hq => by injection hq with hq; have := HTB.out; omega)
    rw [← hw8]
    clear hw8 hwy own7 hg7 hat7 HB7 c7' f7 OWy HBy HRy HBs BI c2 c0
    go_wp2_with fail
    go_roundw
    case rel => exact ⟨k + 1, j + 1, c7, A7, by omega, by go_num, by omega, HB8, OW8, HL8, HR8⟩
    case measure => simp [intOf]; omega
   ·have HS2 : Hid (idxF 0 (rs.take (k + 1)) wk = idxF 0 (rs.take k) wk) := by unfold Hid; rw [HST.out, if_neg hy, List.append_nil]
    have q1 : (y == (wk : Int)) = false := by simpa using hy
    rw [← HS2.out] at OW HL
    clear hy HST
    go_wp2_with fail
    go_roundw
    case rel => exact ⟨k + 1, j, c, A, by omega, by go_num, by omega, HB, OW, HL, HR⟩
    case measure => simp [intOf]; omega
  ·obtain rfl : rn = k := by omega
   rw [← HNL.out, List.take_length] at OW HL
   obtain ⟨ds, hds⟩ : ∃ l, idxF 0 rs (wk : Int) = l := ⟨_, rfl⟩
   have HTS0 : Hid (TaskOk wr cb p wk x A j c ds) := ⟨HCK.out.grew HR.out, hok, HX.out, by rw [← hds]; exact Ints.own (by rw [idxL_len]; exact HL.out) OW.out, by omega, fun d hd => by rw [← hds] at hd; have := idx_lt rs (wk : Int) 0 d hd; have := HNL.out; omega⟩
   have HDS := Lib.hid hds
   obtain ⟨hp, M, N, B, K, ps, qs, kb, hc⟩ := HTS0.out.ck
   have HKB0 := Lib.hid hc.chk
   have hK4 : wr.cell? ⟨cb, 13, none⟩ = some (.slice (some ⟨kb, 0, none⟩) 6 6) := by have := hc.blk.cell (i := 13) (v := pcV K) rfl; rw [hc.kP] at this; exact this
   have HB0 := HB
   have HR0 := HR
   obtain ⟨w3, rfl⟩ : ∃ y, y = wr := ⟨wr, rfl⟩
   obtain ⟨T, rfl⟩ : ∃ y, y = A := ⟨A, rfl⟩
   obtain ⟨tn, rfl⟩ : ∃ y, y = j := ⟨j, rfl⟩
   obtain ⟨tc, rfl⟩ : ∃ y, y = c := ⟨c, rfl⟩
   clear hds hp hc OW HL HB HR
   go_wp2_with fail
   clear hK4
   go_loopw [10, 38] (fun v i y => ∃ (k j c : Nat) (A : Option Addr) (vs : List Vi), k ≤ 6 ∧ i = .int .i64 k ∧ v = .slice A j c ∧ j ≤ k * 100000 ∧ Hid (y.ownsRow w3.heap.size 109 4 (.slice A j c) j (vs.flatMap encV)) ∧ Hid (vs.length = j) ∧ Hid (j = 0 ↔ (List.range k).any (kindV p x ds) = false) ∧ Hid (Grew w3 y)) (fun _ i _ => 6 - (intOf i).toNat)
   case atStart => exact ⟨0, 0, 0, none, [], Nat.zero_le _, rfl, rfl, Nat.zero_le _, World.ownsRow_nil _ _ _ _, rfl, ⟨fun _ => rfl, fun _ => rfl⟩, Grew.refl _⟩
   case round =>
    obtain ⟨k, j, c, A, vs, hk, rfl, rfl, hj, OW, HL, HZ, HR⟩ := hrel
    have HTS := Lib.hid (HTS0.out.grew HR.out)
    have HKB := Lib.hid (HKB0.out.grew HR.out)
    have HBt := HB0.out.grew HR.out
    have t0 : wr.cell? ⟨tb, 0, none⟩ = some (.pointer (some ⟨cb, 0, none⟩)) := HBt.cell rfl
    have t1 : wr.cell? ⟨tb, 1, none⟩ = some (.int .i64 (wk : Int)) := HBt.cell rfl
    have t2 : wr.cell? ⟨tb, 2, none⟩ = some (.slice T tn tc) := HBt.cell rfl
    clear HBt
    have hk6 : k = 0 ∨ k = 1 ∨ k = 2 ∨ k = 3 ∨ k = 4 ∨ k = 5 ∨ k = 6 := by omega
    rcases hk6 with rfl | rfl | rfl | rfl | rfl | rfl | rfl
    ·have ck := HKB.out.cell (i := 0) (v := .iface 160 (.agg #[])) rfl
     have hme := fun W => meth160 W
     go_wp2_with fail
     refine (find209 HTS.out).mono ?_
     rintro r w4 ⟨A4, n4, c4, vs4, rfl, hrc, hz4, hn4, g4⟩
     have HRC := Lib.hid hrc
     have HZ4 := Lib.hid hz4
     have OW4 := Lib.hid (own_grew OW.out g4)
     have HR4 := Lib.hid (HR.out.trans g4)
     clear hrc hz4 OW HR g4 ck hme
     go_wp2_with (at_builtin; refine wpList_append_sl _ rfl (.tmp 42) (.tmp 45) 57 rfl w3.heap.size 109 i0 (.agg #[.int .i64 0, .int .i64 0, .int .i64 0, .int .i64 0]) 4 32 Tryz.underlying57 hi0 hz0 hz1 hz2 rfl (by decide) (.slice A j c) j _ rfl OW4.out A4 n4 c4 _ rfl HRC.out.2 (WageRec.flat_one encV_ok _) (by unfold maxLen; omega) (by omega) HR4.out.le ?_; intro v7 w7 own7 hg7 hat7; obtain ⟨A7, c7, rfl⟩ := own_form own7)
     have HR7 := Lib.hid (HR4.out.grown hg7 (fun j hj => (OW4.out.lt j hj).1))
     have OW7 : Hid (w7.ownsRow w3.heap.size 109 4 (.slice A7 (j + n4) c7) (j + n4) ((vs ++ vs4).flatMap encV)) := by unfold Hid; rw [List.flatMap_append]; exact own7
     have HL7 : Hid ((vs ++ vs4).length = j + n4) := by unfold Hid; rw [List.length_append, HL.out, HRC.out.1]
     have HZ7 : Hid (j + n4 = 0 ↔ (List.range (0 + 1)).any (kindV p x ds) = false) := any_step HZ.out HZ4.out
     clear own7 hg7 hat7 OW4 HR4 HRC HZ
     go_roundw
     case rel => exact ⟨0 + 1, j + n4, c7, A7, vs ++ vs4, by omega, by go_num, rfl, by omega, OW7, HL7, HZ7, HR7⟩
     case measure => simp [intOf]
    ·have ck := HKB.out.cell (i := 1) (v := .iface 161 (.agg #[])) rfl
     have hme := fun W => meth161 W
     go_wp2_with fail
     refine (find213 HTS.out).mono ?_
     rintro r w4 ⟨A4, n4, c4, vs4, rfl, hrc, hz4, hn4, g4⟩
     have HRC := Lib.hid hrc
     have HZ4 := Lib.hid hz4
     have OW4 := Lib.hid (own_grew OW.out g4)
     have HR4 := Lib.hid (HR.out.trans g4)
     clear hrc hz4 OW HR g4 ck hme
     go_wp2_with (at_builtin; refine wpList_append_sl _ rfl (.tmp 42) (.tmp 45) 57 rfl w3.heap.size 109 i0 (.agg #[.int .i64 0, .int .i64 0, .int .i64 0, .int .i64 0]) 4 32 Tryz.underlying57 hi0 hz0 hz1 hz2 rfl (by decide) (.slice A j c) j _ rfl OW4.out A4 n4 c4 _ rfl HRC.out.2 (WageRec.flat_one encV_ok _) (by unfold maxLen; omega) (by omega) HR4.out.le ?_; intro v7 w7 own7 hg7 hat7; obtain ⟨A7, c7, rfl⟩ := own_form own7)
     have HR7 := Lib.hid (HR4.out.grown hg7 (fun j hj => (OW4.out.lt j hj).1))
     have OW7 : Hid (w7.ownsRow w3.heap.size 109 4 (.slice A7 (j + n4) c7) (j + n4) ((vs ++ vs4).flatMap encV)) := by unfold Hid; rw [List.flatMap_append]; exact own7
     have HL7 : Hid ((vs ++ vs4).length = j + n4) := by unfold Hid; rw [List.length_append, HL.out, HRC.out.1]
     have HZ7 : Hid (j + n4 = 0 ↔ (List.range (1 + 1)).any (kindV p x ds) = false) := any_step HZ.out HZ4.out
     clear own7 hg7 hat7 OW4 HR4 HRC HZ
     go_roundw
     case rel => exact ⟨1 + 1, j + n4, c7, A7, vs ++ vs4, by omega, by go_num, rfl, by omega, OW7, HL7, HZ7, HR7⟩
     case measure => simp [intOf]
    ·have ck := HKB.out.cell (i := 2) (v := .iface 162 (.agg #[])) rfl
     have hme := fun W => meth162 W
     go_wp2_with fail
     refine (find215 HTS.out).mono ?_
     rintro r w4 ⟨A4, n4, c4, vs4, rfl, hrc, hz4, hn4, g4⟩
     have HRC := Lib.hid hrc
     have HZ4 := Lib.hid hz4
     have OW4 := Lib.hid (own_grew OW.out g4)
     have HR4 := Lib.hid (HR.out.trans g4)
     clear hrc hz4 OW HR g4 ck hme
     go_wp2_with (at_builtin; refine wpList_append_sl _ rfl (.tmp 42) (.tmp 45) 57 rfl w3.heap.size 109 i0 (.agg #[.int .i64 0, .int .i64 0, .int .i64 0, .int .i64 0]) 4 32 Tryz.underlying57 hi0 hz0 hz1 hz2 rfl (by decide) (.slice A j c) j _ rfl OW4.out A4 n4 c4 _ rfl HRC.out.2 (WageRec.flat_one encV_ok _) (by unfold maxLen; omega) (by omega) HR4.out.le ?_; intro v7 w7 own7 hg7 hat7; obtain ⟨A7, c7, rfl⟩ := own_form own7)
     have HR7 := Lib.hid (HR4.out.grown hg7 (fun j hj => (OW4.out.lt j hj).1))
     have OW7 : Hid (w7.ownsRow w3.heap.size 109 4 (.slice A7 (j + n4) c7) (j + n4) ((vs ++ vs4).flatMap encV)) := by unfold Hid; rw [List.flatMap_append]; exact own7
     have HL7 : Hid ((vs ++ vs4).length = j + n4) := by unfold Hid; rw [List.length_append, HL.out, HRC.out.1]
     have HZ7 : Hid (j + n4 = 0 ↔ (List.range (2 + 1)).any (kindV p x ds) = false) := any_step HZ.out HZ4.out
     clear own7 hg7 hat7 OW4 HR4 HRC HZ
     go_roundw
     case rel => exact ⟨2 + 1, j + n4, c7, A7, vs ++ vs4, by omega, by go_num, rfl, by omega, OW7, HL7, HZ7, HR7⟩
     case measure => simp [intOf]
    ·have ck := HKB.out.cell (i := 3) (v := .iface 163 (.agg #[])) rfl
     have hme := fun W => meth163 W
     go_wp2_with fail
     refine (find216 HTS.out).mono ?_
     rintro r w4 ⟨A4, n4, c4, vs4, rfl, hrc, hz4, hn4, g4⟩
     have HRC := Lib.hid hrc
     have HZ4 := Lib.hid hz4
     have OW4 := Lib.hid (own_grew OW.out g4)
     have HR4 := Lib.hid (HR.out.trans g4)
     clear hrc hz4 OW HR g4 ck hme
     go_wp2_with (at_builtin; refine wpList_append_sl _ rfl (.tmp 42) (.tmp 45) 57 rfl w3.heap.size 109 i0 (.agg #[.int .i64 0, .int .i64 0, .int .i64 0, .int .i64 0]) 4 32 Tryz.underlying57 hi0 hz0 hz1 hz2 rfl (by decide) (.slice A j c) j _ rfl OW4.out A4 n4 c4 _ rfl HRC.out.2 (WageRec.flat_one encV_ok _) (by unfold maxLen; omega) (by omega) HR4.out.le ?_; intro v7 w7 own7 hg7 hat7; obtain ⟨A7, c7, rfl⟩ := own_form own7)
     have HR7 := Lib.hid (HR4.out.grown hg7 (fun j hj => (OW4.out.lt j hj).1))
     have OW7 : Hid (w7.ownsRow w3.heap.size 109 4 (.slice A7 (j + n4) c7) (j + n4) ((vs ++ vs4).flatMap encV)) := by unfold Hid; rw [List.flatMap_append]; exact own7
     have HL7 : Hid ((vs ++ vs4).length = j + n4) := by unfold Hid; rw [List.length_append, HL.out, HRC.out.1]
     have HZ7 : Hid (j + n4 = 0 ↔ (List.range (3 + 1)).any (kindV p x ds) = false) := any_step HZ.out HZ4.out
     clear own7 hg7 hat7 OW4 HR4 HRC HZ
     go_roundw
     case rel => exact ⟨3 + 1, j + n4, c7, A7, vs ++ vs4, by omega, by go_num, rfl, by omega, OW7, HL7, HZ7, HR7⟩
     case measure => simp [intOf]
    ·have ck := HKB.out.cell (i := 4) (v := .iface 164 (.agg #[])) rfl
     have hme := fun W => meth164 W
     go_wp2_with fail
     refine (find219 HTS.out).mono ?_
     rintro r w4 ⟨A4, n4, c4, vs4, rfl, hrc, hz4, hn4, g4⟩
     have HRC := Lib.hid hrc
     have HZ4 := Lib.hid hz4
     have OW4 := Lib.hid (own_grew OW.out g4)
     have HR4 := Lib.hid (HR.out.trans g4)
     clear hrc hz4 OW HR g4 ck hme
     go_wp2_with (at_builtin; refine wpList_append_sl _ rfl (.tmp 42) (.tmp 45) 57 rfl w3.heap.size 109 i0 (.agg #[.int .i64 0, .int .i64 0, .int .i64 0, .int .i64 0]) 4 32 Tryz.underlying57 hi0 hz0 hz1 hz2 rfl (by decide) (.slice A j c) j _ rfl OW4.out A4 n4 c4 _ rfl HRC.out.2 (WageRec.flat_one encV_ok _) (by unfold maxLen; omega) (by omega) HR4.out.le ?_; intro v7 w7 own7 hg7 hat7; obtain ⟨A7, c7, rfl⟩ := own_form own7)
     have HR7 := Lib.hid (HR4.out.grown hg7 (fun j hj => (OW4.out.lt j hj).1))
     have OW7 : Hid (w7.ownsRow w3.heap.size 109 4 (.slice A7 (j + n4) c7) (j + n4) ((vs ++ vs4).flatMap encV)) := by unfold Hid; rw [List.flatMap_append]; exact own7
     have HL7 : Hid ((vs ++ vs4).length = j + n4) := by unfold Hid; rw [List.length_append, HL.out, HRC.out.1]
     have HZ7 : Hid (j + n4 = 0 ↔ (List.range (4 + 1)).any (kindV p x ds) = false) := any_step HZ.out HZ4.out
     clear own7 hg7 hat7 OW4 HR4 HRC HZ
     go_roundw
     case rel => exact ⟨4 + 1, j + n4, c7, A7, vs ++ vs4, by omega, by go_num, rfl, by omega, OW7, HL7, HZ7, HR7⟩
     case measure => simp [intOf]
    ·have ck := HKB.out.cell (i := 5) (v := .iface 165 (.agg #[])) rfl
     have hme := fun W => meth165 W
     go_wp2_with fail
     refine (find221 HTS.out).mono ?_
     rintro r w4 ⟨A4, n4, c4, vs4, rfl, hrc, hz4, hn4, g4⟩
     have HRC := Lib.hid hrc
     have HZ4 := Lib.hid hz4
     have OW4 := Lib.hid (own_grew OW.out g4)
     have HR4 := Lib.hid (HR.out.trans g4)
     clear hrc hz4 OW HR g4 ck hme
     go_wp2_with (at_builtin; refine wpList_append_sl _ rfl (.tmp 42) (.tmp 45) 57 rfl w3.heap.size 109 i0 (.agg #[.int .i64 0, .int .i64 0, .int .i64 0, .int .i64 0]) 4 32 Tryz.underlying57 hi0 hz0 hz1 hz2 rfl (by decide) (.slice A j c) j _ rfl OW4.out A4 n4 c4 _ rfl HRC.out.2 (WageRec.flat_one encV_ok _) (by unfold maxLen; omega) (by omega) HR4.out.le ?_; intro v7 w7 own7 hg7 hat7; obtain ⟨A7, c7, rfl⟩ := own_form own7)
     have HR7 := Lib.hid (HR4.out.grown hg7 (fun j hj => (OW4.out.lt j hj).1))
     have OW7 : Hid (w7.ownsRow w3.heap.size 109 4 (.slice A7 (j + n4) c7) (j + n4) ((vs ++ vs4).flatMap encV)) := by unfold Hid; rw [List.flatMap_append]; exact own7
     have HL7 : Hid ((vs ++ vs4).length = j + n4) := by unfold Hid; rw [List.length_append, HL.out, HRC.out.1]
     have HZ7 : Hid (j + n4 = 0 ↔ (List.range (5 + 1)).any (kindV p x ds) = false) := any_step HZ.out HZ4.out
     clear own7 hg7 hat7 OW4 HR4 HRC HZ
     go_roundw
     case rel => exact ⟨5 + 1, j + n4, c7, A7, vs ++ vs4, by omega, by go_num, rfl, by omega, OW7, HL7, HZ7, HR7⟩
     case measure => simp [intOf]
    ·go_wp2
     go_ret
     exact ⟨A, j, c, vs, rfl, Recs.own HL.out OW.out, by rw [HDS.out]; exact HZ.out, by omega, HR0.out.trans HR.out⟩
end Go.Proofs.YtnnbibmmofnkdaaGreat
