/-
 Punches: the matches.
-/
import Derived.Test.YtnnbibmmofnkdaaGreatPunD
namespace Go.Proofs.YtnnbibmmofnkdaaGreat
open Go.RowKit Go.Proofs WageMem WageReg WageRec WageSpan WageTop
def noMt : Mt := ⟨0, false, 0⟩
def fdL (r : Nat) : List Mt := mtL r ++ List.replicate (108 - r) noMt
theorem zero151 : Tryz.zeroCells151 = ((List.replicate 108 noMt).flatMap encT).toArray := by kernel_rfl
theorem mtL_len (r : Nat) : (mtL r).length = r := by unfold mtL; simp
theorem fdL_len {r : Nat} (h : r ≤ 108) : (fdL r).length = 108 := by unfold fdL; rw [List.length_append, mtL_len, List.length_replicate]; omega
theorem mtL_step (r : Nat) : mtL (r + 1) = mtL r ++ [mtF r] := by unfold mtL; rw [List.range_succ, List.map_append]; rfl
theorem fdL_set {r : Nat} (h : r < 108) : (fdL r).set r (mtF r) = fdL (r + 1) := by
 unfold fdL
 rw [mtL_step, List.set_append, if_neg (by rw [mtL_len]; omega), mtL_len, Nat.sub_self, show 108 - r = (108 - (r + 1)) + 1 by omega, List.replicate_succ, List.set_cons_zero, List.append_assoc]
 rfl
theorem flatT_len (l : List Mt) : (l.flatMap encT).length = l.length * 3 := by
 induction l with
 | nil => rfl
 | cons x l ih => rw [List.flatMap_cons, List.length_append, ih, List.length_cons, Nat.add_mul, Nat.one_mul, Nat.add_comm]; rfl
theorem set_flatT : ∀ (l : List Mt) (k : Nat) (x : Mt), k < l.length → (((l.flatMap encT).set (k * 3) (.int .i64 x.d)).set (k * 3 + 1) (.bool x.inn)).set (k * 3 + 2) (.int .i64 x.pu) = (l.set k x).flatMap encT
 | [], _, _, h => by cases h
 | y :: l, 0, x, _ => by simp [encT]
 | y :: l, k + 1, x, h => by
  have ih := set_flatT l k x (by simpa using h)
  have e : ∀ i, (k + 1) * 3 + i = k * 3 + i + 1 + 1 + 1 := fun i => by omega
  have e0 : (k + 1) * 3 = k * 3 + 1 + 1 + 1 := by omega
  rw [List.flatMap_cons, List.set_cons_succ, List.flatMap_cons, ← ih, e 1, e 2, e0]
  simp only [encT, List.cons_append, List.nil_append, List.set_cons_succ]
/-- The matches that are found. -/
def FdAt (y : World) (fb r : Nat) : Prop := Blk y fb 151 ((fdL r).flatMap encT)
theorem FdAt.there {y : World} {fb r : Nat} (h : FdAt y fb r) (hr : r < 108) : y.there fb (r * 3) 3 := fun j hj => by
 have hl : r * 3 + j < ((fdL r).flatMap encT).length := by rw [flatT_len, fdL_len (by omega)]; omega
 exact ⟨by rw [Blk.cell h (List.getElem?_eq_getElem hl)]; rfl, Blk.frozen h _⟩
theorem FdAt.set {y : World} {fb r : Nat} (h : FdAt y fb r) (hr : r < 108) : FdAt (y.setCells fb (r * 3) [.int .i64 ((r / 2 : Nat) : Int), .bool (decide (r % 2 = 0)), .int .i64 (r : Int)]) fb (r + 1) := by
 have := ((Blk.set h (r * 3) (.int .i64 ((r / 2 : Nat) : Int))).set (r * 3 + 1) (.bool (decide (r % 2 = 0)))).set (r * 3 + 2) (.int .i64 (r : Int))
 have e := set_flatT (fdL r) r (mtF r) (by rw [fdL_len (by omega)]; exact hr)
 rw [fdL_set hr] at e
 simp only [mtF] at e
 rw [e] at this
 exact this
theorem grew_setC {w0 : World} {b : Nat} (hb : w0.heap.size ≤ b) : ∀ (vs : List Value) (o : Nat) (w : World), Grew w0 w → Grew w0 (w.setCells b o vs)
 | [], _, _, h => h
 | v :: r, o, w, h => by
  rw [World.setCells]
  exact grew_setC hb r (o + 1) _ (h.grown (grown_set w b o v) fun q hq => by injection hq with hq; omega)
theorem blk_setC {c : Nat} {t : TypeId} {cs : List Value} {b : Nat} (hb : c ≠ b) : ∀ (vs : List Value) (o : Nat) (w : World), Blk w c t cs → Blk (w.setCells b o vs) c t cs
 | [], _, _, h => h
 | v :: r, o, w, h => by
  rw [World.setCells]
  exact blk_setC hb r (o + 1) _ (h.other hb v)
theorem size145s : (Tryz.prog.info? 145).map (·.size) = some 3 := by kernel_rfl
theorem info145 : (Tryz.prog.info? 145).map (fun i => (i.zero, i.size, i.bytes)) = some (some (.agg #[.int .i64 0, .bool false, .int .i64 0]), 3, 24) := by kernel_rfl
theorem made_len (z : Array Value) (n : Nat) : (madeCells z n).size = n := size_madeCells _ _
theorem make79 (n : Nat) (hn : n ≤ 1000) (w : World) : ∃ cs : List Value, cs.length = n * 3 ∧ ∀ x, x = w → (Instr.makeSlice 79 (.int .i64 (n : Int)) (.int .i64 (n : Int))).run Tryz.prog x = .ok (.slice (some ⟨w.heap.size, 0, none⟩) n n) (w.alloc (.cells cs.toArray 145)) := by
 obtain ⟨i0, hi, hz0, hz1, hz2⟩ := info_parts info145
 have hr := run_make (P := Tryz.prog) w 79 145 i0 _ Tryz.underlying79 hi hz0 .i64 .i64 n n (by omega) (by omega) (by rw [hz2]; omega) (by omega)
 rw [hz1, Int.toNat_natCast] at hr
 refine ⟨(madeCells (Value.agg #[.int .i64 0, .bool false, .int .i64 0]).cells (n * 3)).toList, ?_, fun x hx => ?_⟩
 ·rw [Array.length_toList, made_len]
 ·rw [hx, hr, Array.toArray_toList]
theorem copy79 {w : World} {g fb N : Nat} {cs : List Value} (hg : Blk w g 145 cs) (hc : cs.length = N * 3) (hf : FdAt w fb N) : ∀ ty, (Builtin.copy_ #[79, 79] ty #[.slice (some ⟨g, 0, none⟩) N N, .slice (some ⟨fb, 0, none⟩) N 108]).run Tryz.prog w = .ok (goInt N) (w.setRow g ((mtL N).flatMap encT).toArray) := fun ty => by
 have hcs : ((mtL N).flatMap encT).length = N * 3 := by rw [flatT_len, mtL_len]
 have hsrc : ∀ j v, ((mtL N).flatMap encT)[j]? = some v → w.cell? ((⟨fb, 0, none⟩ : Addr).add j) = some v := fun j v hj => by
  rw [addr_add_plain, Nat.zero_add]
  refine Blk.cell hf ?_
  unfold fdL
  rw [List.flatMap_append, List.getElem?_append_left (List.getElem?_eq_some_iff.1 hj).1]
  exact hj
 have hl := run_loadCells_list (P := Tryz.prog) w ⟨fb, 0, none⟩ _ hsrc
 have hst := run_storeCells_at Tryz.prog g 0 145 ((mtL N).flatMap encT) 0 cs.toArray w hg (by simp [hcs, hc]) (WageRec.flat_one encT_ok _)
 rw [hcs] at hl
 simp only [Nat.zero_add, List.take_zero, List.nil_append, hcs] at hst
 rw [show cs.toArray.toList.drop (N * 3) = [] from List.drop_eq_nil_of_le (by simp [hc])] at hst
 obtain ⟨i0, hi, _, hz1, _⟩ := info_parts info145
 simp [Builtin.copy_, run_underlying Tryz.underlying79, Builtin.lenOf, Builtin.firstCells, sizeOf, typeInfo, hi, hz1, hl, hst]
theorem store_self (w : World) : (storeCells ⟨w.heap.size, 0, none⟩ Tryz.zeroCells151.toList).run Tryz.prog (w.alloc (.cells Tryz.zeroCells151 151)) = .ok () (w.alloc (.cells Tryz.zeroCells151 151)) := by
 have hg : (w.alloc (.cells Tryz.zeroCells151 151)).heap[w.heap.size]? = some (.cells Tryz.zeroCells151 151 (0, 0)) := World.alloc_heap_new w _
 have hst := run_storeCells_at Tryz.prog w.heap.size 0 151 Tryz.zeroCells151.toList 0 Tryz.zeroCells151 _ hg (by rw [Array.length_toList]; omega) (by
  rw [zero151]
  exact WageRec.flat_one encT_ok _)
 simp only [Nat.add_zero, Nat.zero_add, List.take_zero, List.nil_append] at hst
 rw [List.drop_eq_nil_of_le (Nat.le_refl _), List.append_nil, Array.toArray_toList, setRow_self _ _ _ _ _ hg] at hst
 exact hst
theorem slice151 (fb N : Nat) (h : N ≤ 108) (x : World) : (Instr.sliceAt 151 (.pointer (some ⟨fb, 0, none⟩)) none (some (.int .i64 (N : Int))) none).run Tryz.prog x = .ok (.slice (some ⟨fb, 0, none⟩) N 108) x := by
 have ht : Tryz.prog.underlying 151 = some (.array (Tryz.prog.arrayLen 151) (Tryz.prog.elem 151)) := by kernel_rfl
 have hl : Tryz.prog.arrayLen 151 = 108 := by kernel_rfl
 have hs : (sizeOf (Tryz.prog.elem 151)).run Tryz.prog x = .ok 3 x := by kernel_rfl
 rw [run_sliceAt_array_h x 151 ⟨fb, 0, none⟩ ht .i64 N (by omega) (by rw [hl]; omega), hs, hl]
 simp [slicedAt, Addr.add]
/-- What Pair returns. -/
def RetPair (n : Nat) (w : World) (r : Ending) (w' : World) : Prop := ∃ C f, r = .returned (.tuple #[.slice C (2 * n) f, .int .i64 0, .int .i64 0]) ∧ Recs encT 3 w' C (2 * n) f (mtL (2 * n)) ∧ Grew w w'
theorem results_tmp3' {fn : Func} {a b c : Tmp} (h : fn.results = #[.tmp a, .tmp b, .tmp c]) (tmps : Array Value) (w : World) :
  (results fn tmps).run Tryz.prog w = .ok (.tuple #[tmps.getD a undef, tmps.getD b undef, tmps.getD c undef]) w := by
 simp [results, h]
set_option maxRecDepth 100000 in
set_option maxHeartbeats 8000000 in
theorem pair30 {w : World} {A : Option Addr} {n c : Nat} {B : Option Addr} {e : Nat} {ds : List Du} (hd : Dus w A n c ds) (hu : Recs encU 2 w B (2 * n) e (puL ds n)) (hv : DsOk ds) (hn : n ≤ 24) :
  Calls Tryz.prog 30 #[.slice A n c, .slice B (2 * n) e] w (RetPair n w) := by
 have hlen : ds.length = n := hd.len
 obtain ⟨N, hN⟩ : ∃ N, N = 2 * n := ⟨_, rfl⟩
 have hUok : UsOk (puL ds n) := by rw [← hlen]; exact puL_ok hv
 have HD := Lib.hid hd
 have HU := Lib.hid hu
 have HV := Lib.hid hv
 have HUO := Lib.hid hUok
 have HL := Lib.hid hlen
 have HNN := Lib.hid hN
 have hN48 : N ≤ 48 := by omega
 unfold RetPair
 rw [← hN] at hu HU ⊢
 clear hd hu hv hUok hlen hN
 obtain ⟨w1, hw1⟩ : ∃ y, y = w.alloc (.cells #[.slice B N e] 77) := ⟨_, rfl⟩
 obtain ⟨pb, hpb⟩ : ∃ z, z = w.heap.size := ⟨_, rfl⟩
 have X1 : Hid (Blk w1 pb 77 [.slice B N e]) := by unfold Hid; rw [hw1, hpb]; exact Blk.new w 77 _
 have HG1 : Hid (Grew w w1) := by unfold Hid; rw [hw1]; exact (Grew.refl w).alloc _
 go_enter Tryz.func30, Tryz.ntmps30
 go_upto_region 1 with (fail)
 rw [← hw1, ← hpb]
 clear hw1 hpb
 have v0 : w1.cell? ⟨pb, 0, none⟩ = some (.slice B N e) := X1.out.cell rfl
 go_wp2_with fail
 refine (usable63 (HD.out.grew HG1.out) (HU.out.grew HG1.out) HV.out HUO.out hn (by omega)).mono ?_
 rintro r w2 ⟨rfl, g2⟩
 have X2 := Lib.hid (X1.out.grew g2)
 have HG2 := Lib.hid (HG1.out.trans g2)
 clear v0 g2 X1 HG1
 go_wp2_with fail
 refine (marks64 (HD.out.grew HG2.out) hn).mono ?_
 rintro r w3 ⟨M, mc, rfl, hms, g3⟩
 have HM3 : Hid (Recs encM 3 w3 M N mc (mkL ds n)) := by have := hms; rw [← HNN.out] at this; exact this
 rw [← HNN.out]
 have X3 := Lib.hid (X2.out.grew g3)
 have HG3 := Lib.hid (HG2.out.trans g3)
 clear g3 hms X2 HG2
 obtain ⟨w4, hw4⟩ : ∃ y, y = w3.alloc (.cells #[.slice M N mc] 140) := ⟨_, rfl⟩
 obtain ⟨mb, hmb⟩ : ∃ z, z = w3.heap.size := ⟨_, rfl⟩
 have g4 : Grew w3 w4 := by rw [hw4]; exact (Grew.refl w3).alloc _
 have Z4 : Hid (Blk w4 mb 140 [.slice M N mc]) := by unfold Hid; rw [hw4, hmb]; exact Blk.new w3 140 _
 have X4 := Lib.hid (X3.out.grew g4)
 have HG4 := Lib.hid (HG3.out.trans g4)
 have HM4 := Lib.hid (HM3.out.grew g4)
 have HPM : Hid (pb < mb) := by have := X3.out.lt; unfold Hid; omega
 clear g4 X3 HG3 HM3
 go_upto_region 5 with (fail)
 rw [← hw4, ← hmb]
 clear hw4 hmb
 have v0 : w4.cell? ⟨mb, 0, none⟩ = some (.slice M N mc) := Z4.out.cell rfl
 have v1 : w4.cell? ⟨pb, 0, none⟩ = some (.slice B N e) := X4.out.cell rfl
 go_wp2_with fail
 refine (table65 HM4.out (HU.out.grew HG4.out) hN48 ?_ ?_ ?_).mono ?_
 ·intro m hm
  obtain ⟨r, hr⟩ := List.mem_iff_getElem?.1 hm
  have hr2 : r < 2 * n := by have := (List.getElem?_eq_some_iff.1 hr).1; rw [mkL_len] at this; exact this
  rw [mkL_at hr2] at hr
  injection hr with hr
  rw [← hr]
  exact atF_rng HV.out (by rw [HL.out]; exact hr2)
 ·intro u hu
  have := HUO.out.rng u hu
  exact this
 ·intro i m u hm hu
  have hr2 : i < 2 * n := by have := (List.getElem?_eq_some_iff.1 hm).1; rw [mkL_len] at this; exact this
  rw [mkL_at hr2] at hm
  rw [puL_at hr2] at hu
  injection hm with hm
  injection hu with hu
  rw [← hm, ← hu]
  exact ⟨rfl, rfl⟩
 rintro r w5 ⟨tb, ts, rfl, htb5, HB5, HT5, g5⟩
 have hB5 := Lib.hid HB5
 have hT5 := Lib.hid HT5
 have X5 := Lib.hid (X4.out.grew g5)
 have Z5 := Lib.hid (Z4.out.grew g5)
 have HG5 := Lib.hid (HG4.out.trans g5)
 have HM5 := Lib.hid (HM4.out.grew g5)
 clear g5 htb5 HB5 HT5 v0 v1 X4 Z4 HG4 HM4
 obtain ⟨w6, hw6⟩ : ∃ y, y = w5.alloc (.cells #[.pointer (some ⟨tb, 0, none⟩)] 142) := ⟨_, rfl⟩
 obtain ⟨pt, hpt⟩ : ∃ z, z = w5.heap.size := ⟨_, rfl⟩
 have g6 : Grew w5 w6 := by rw [hw6]; exact (Grew.refl w5).alloc _
 have T6 : Hid (Blk w6 pt 142 [.pointer (some ⟨tb, 0, none⟩)]) := by unfold Hid; rw [hw6, hpt]; exact Blk.new w5 142 _
 have HPA : Hid (PaAt w6 pt mb pb tb M mc B e N (mkL ds n) (puL ds n) ts) := ⟨T6.out.cell rfl, (Z5.out.grew g6).cell rfl, (X5.out.grew g6).cell rfl, hB5.out.grew g6, hT5.out, HM5.out.grew g6, (HU.out.grew HG5.out).grew g6⟩
 have HG6 := Lib.hid (HG5.out.trans g6)
 clear g6 T6 hB5 hT5 X5 Z5 HG5 HM5
 go_upto_region 6 with (fail)
 rw [← hw6, ← hpt]
 clear hw6 hpt
 obtain ⟨w7, hw7⟩ : ∃ y, y = (w6.alloc (.cells #[.int .i64 0] 3)).alloc (.cells #[.int .i64 0] 3) := ⟨_, rfl⟩
 obtain ⟨ib, hib⟩ : ∃ z, z = w6.heap.size := ⟨_, rfl⟩
 obtain ⟨kb, hkb⟩ : ∃ z, z = w6.heap.size + 1 := ⟨_, rfl⟩
 have gA : Grew w6 (w6.alloc (.cells #[.int .i64 0] 3)) := (Grew.refl w6).alloc _
 have gB : Grew (w6.alloc (.cells #[.int .i64 0] 3)) w7 := by rw [hw7]; exact (Grew.refl _).alloc _
 have I7 : Hid (Blk w7 ib 3 [.int .i64 0]) := by unfold Hid; rw [hib]; exact Blk.grew (Blk.new w6 3 _) gB
 have K7 : Hid (Blk w7 kb 3 [.int .i64 0]) := by
  unfold Hid
  rw [hw7, hkb]
  have := Blk.new (w6.alloc (.cells #[.int .i64 0] 3)) 3 [.int .i64 0]
  rw [World.size_alloc] at this
  exact this
 have HG7 : Hid (Grew w6 w7) := gA.trans gB
 have HIK : Hid (w6.heap.size ≤ ib ∧ w6.heap.size ≤ kb ∧ ib ≠ kb ∧ ib < w7.heap.size ∧ kb < w7.heap.size) := ⟨by omega, by omega, by omega, I7.out.lt, K7.out.lt⟩
 clear gA gB
 go_upto_region 8 with (fail)
 rw [← hw7, ← hkb, ← hib]
 clear hw7 hib hkb
 obtain ⟨w8, hw8⟩ : ∃ y, y = w7.alloc (.cells Tryz.zeroCells151 151) := ⟨_, rfl⟩
 obtain ⟨fb, hfb⟩ : ∃ z, z = w7.heap.size := ⟨_, rfl⟩
 have F8 : Hid (FdAt w8 fb 0) := by
  unfold Hid FdAt
  rw [hw8, hfb, zero151]
  exact Blk.new w7 151 _
 have g8 : Grew w7 w8 := by rw [hw8]; exact (Grew.refl w7).alloc _
 have I8 := Lib.hid (I7.out.grew g8)
 have K8 := Lib.hid (K7.out.grew g8)
 have HG8 := Lib.hid (HG7.out.trans g8)
 have HFI : Hid (w6.heap.size ≤ fb ∧ ib ≠ fb ∧ kb ≠ fb) := by
  have := HIK.out
  have := HG7.out.le
  exact ⟨by omega, by omega, by omega⟩
 clear g8 I7 K7 HG7
 have hst := store_self w7
 go_upto_region 9 with (fail)
 rw [← hw8, ← hfb]
 clear hst hw8 hfb
 go_wp2_with fail
 go_loopw [14] (fun i y => ∃ r : Nat, r ≤ N ∧ i = .int .i64 r ∧ Hid (FdAt y fb r) ∧ Hid (Blk y ib 3 [.int .i64 (r : Int)]) ∧ Hid (Blk y kb 3 [.int .i64 (r : Int)]) ∧ Hid (Grew w6 y)) (fun i _ => N - (intOf i).toNat)
 case atStart => exact ⟨0, Nat.zero_le _, rfl, F8.out, I8.out, K8.out, HG8.out⟩
 case round =>
  clear F8 I8 K8 HG8
  obtain ⟨r, hr, rfl, HF, HI, HK, HR⟩ := hrel
  have HPr := Lib.hid (HPA.out.grew HR.out)
  have v0 : wr.cell? ⟨ib, 0, none⟩ = some (.int .i64 (r : Int)) := HI.out.cell rfl
  have v1 : wr.cell? ⟨kb, 0, none⟩ = some (.int .i64 (r : Int)) := HK.out.cell rfl
  have v2 : wr.cell? ⟨mb, 0, none⟩ = some (.slice M N mc) := HPr.out.mb
  have v3 : wr.cell? ⟨pb, 0, none⟩ = some (.slice B N e) := HPr.out.pb
  by_cases hlt : r < N
  ·have t1 : decide ((r : Int) < (N : Int)) = true := decide_eq_true (by omega)
   go_wp2_with fail
   have hr2 : r < 2 * n := by have := HNN.out; omega
   have hrng := atF_rng HV.out (r := r) (by rw [HL.out]; exact hr2)
   refine (next66 HPA.out HR.out HIK.out.1 HIK.out.2.1 HIK.out.2.2.1 HI.out HK.out hN48 hlt (mkL_at hr2) (puL_at hr2) hrng hrng (cst_zero rfl rfl)).mono ?_
   rintro q wn ⟨rfl, hIn, hKn, hkp, hgn⟩
   have HIn := Lib.hid hIn
   have HKn := Lib.hid hKn
   have HGn := Lib.hid hgn
   have HFn : Hid (FdAt wn fb r) := hkp.2 _ _ ⟨fun h => HFI.out.2.1 h.symm, fun h => HFI.out.2.2 h.symm⟩ HF.out
   clear hIn hKn hkp hgn v0 v1 v2 v3 HF HI HK HR HPr hrng t1
   have e1 : (0 : Int) ≤ (r : Int) := by omega
   have e2 : (r : Int) < 108 := by omega
   have HT := Lib.hid (HFn.out.there (by omega))
   have HF2 := Lib.hid (HFn.out.set (by omega))
   have HI2 := Lib.hid (blk_setC HFI.out.2.1 [.int .i64 ((r / 2 : Nat) : Int), .bool (decide (r % 2 = 0)), .int .i64 (r : Int)] (r * 3) wn HIn.out)
   have HK2 := Lib.hid (blk_setC HFI.out.2.2 [.int .i64 ((r / 2 : Nat) : Int), .bool (decide (r % 2 = 0)), .int .i64 (r : Int)] (r * 3) wn HKn.out)
   have HG2 := Lib.hid (grew_setC HFI.out.1 [.int .i64 ((r / 2 : Nat) : Int), .bool (decide (r % 2 = 0)), .int .i64 (r : Int)] (r * 3) wn HGn.out)
   obtain ⟨wz, hwz⟩ : ∃ z, z = wn.setCells fb (r * 3) [.int .i64 ((r / 2 : Nat) : Int), .bool (decide (r % 2 = 0)), .int .i64 (r : Int)] := ⟨_, rfl⟩
   rw [← hwz] at HF2 HI2 HK2 HG2
   go_upto_region 12 with (refine wpList_store_mid rfl 145 (.tmp 42) (.tmp 41) rfl fb (r * 3) #[.int .i64 ((r / 2 : Nat) : Int), .bool (decide (r % 2 = 0)), .int .i64 (r : Int)] rfl rfl HT.out size145s (by simp [Value.oneCell']) ?_)
   rw [show wn.setCells fb (r * 3) ((#[.int .i64 ((r / 2 : Nat) : Int), .bool (decide (r % 2 = 0)), .int .i64 (r : Int)] : Array Value)).toList = wz from hwz.symm]
   clear hwz HT HFn HIn HKn HGn
   go_wp2_with fail
   go_roundw
   case rel => exact ⟨r + 1, by omega, by go_num, HF2.out, HI2.out, HK2.out, HG2.out⟩
   case measure => simp [intOf]; omega
  ·obtain rfl : N = r := by omega
   have t1 : decide ((N : Int) < (N : Int)) = false := decide_eq_false (by omega)
   obtain ⟨cs, hcs, hmk⟩ := make79 N (by omega) wr
   have hm1 := hmk wr rfl
   obtain ⟨wa, hwa⟩ : ∃ y, y = wr.alloc (.cells cs.toArray 145) := ⟨_, rfl⟩
   obtain ⟨gb, hgb⟩ : ∃ z, z = wr.heap.size := ⟨_, rfl⟩
   have ga : Grew wr wa := by rw [hwa]; exact (Grew.refl wr).alloc _
   have BA : Blk wa gb 145 cs := by rw [hwa, hgb]; exact Blk.new wr 145 cs
   have FA : FdAt wa fb N := Blk.grew HF.out ga
   have hcp := copy79 BA hcs FA
   have hsl := slice151 fb N (by omega)
   have hb2 := setRow_heap wa gb _ ((mtL N).flatMap encT).toArray 145 (0, 0) BA
   have HBC : Hid (Blk (wa.setRow gb ((mtL N).flatMap encT).toArray) gb 145 ((mtL N).flatMap encT)) := hb2
   have HGC : Hid (Grew w6 (wa.setRow gb ((mtL N).flatMap encT).toArray)) := grew_setRow (HR.out.trans ga) (by rw [hgb]; exact HR.out.le) _
   obtain ⟨wc, hwc⟩ : ∃ z, z = wa.setRow gb ((mtL N).flatMap encT).toArray := ⟨_, rfl⟩
   rw [← hwc] at HBC HGC hcp
   rw [← hwa, ← hgb] at hm1
   have HFc := Lib.hid HF
   clear hwa hgb ga BA FA hmk hb2 HF HI HK HR HFc
   go_upto_region 15 with (fail)
   rw [← hwc]
   clear hm1 hcp hsl hwc v0 v1 v2 v3 HPr
   have HPc := Lib.hid (HPA.out.grew HGC.out)
   have hC : ∀ w', Grew wc.drew w' → w'.cell? ⟨pt, 0, none⟩ = some (.pointer (some ⟨tb, 0, none⟩)) ∧ w'.cell? ⟨tb, 0, none⟩ = some (.int .i64 0) := fun w' g' => by
    have gg := (Grew.refl wc).drew.trans g'
    obtain ⟨v, h1, _, _, h1z⟩ := HPc.out.ok.2 0 0 (by omega) (by omega) trivial
    obtain rfl := h1z rfl
    exact ⟨gg.cell HPc.out.pt, gg.cell (blk_tab HPc.out.tab h1)⟩
   have HC := Lib.hid hC
   clear hC
   refine wp_region_seq (by kernel_rfl) Grew.refl (fun _ _ _ => Grew.trans) (fun _ _ _ _ _ h => h) (by kernel_rfl) ?_
   repeat (first
    | (refine TakeAll.pure (v := ?_) (by rfl) ?_ ?_; rotate_left; (intro w' g'; obtain ⟨q_0, q_1⟩ := HC.out w' g'; go_simp; first | done | with_reducible rfl); (simp only [Act.put, uzT, uz0, uz1]))
    | (refine TakeAll.skip (by rfl) ?_; (simp only [Act.put, uzT, uz0, uz1])))
   refine TakeAll.nil ?_
   intro wd g1
   have gb1 := (Grew.refl wc).drew.trans g1
   have HBD := Lib.hid (HBC.out.grew gb1)
   have HGD := Lib.hid (HG6.out.trans (HGC.out.trans gb1))
   clear g1 gb1 HC HBC HGC HPc
   go_wp2
   refine bodyPost_ret (results_tmp3' rfl _ _) rfl ?_
   refine ⟨_, _, rfl, ?_, HGD.out⟩
   exact ⟨mtL_len N, Nat.le_refl _, by unfold maxLen; omega, by rw [flatT_len, mtL_len], fun _ => ⟨gb, 0, rfl, fun j u hu => by rw [Nat.zero_add]; exact HBD.out.cell hu⟩, fun h => by cases h⟩
end Go.Proofs.YtnnbibmmofnkdaaGreat
