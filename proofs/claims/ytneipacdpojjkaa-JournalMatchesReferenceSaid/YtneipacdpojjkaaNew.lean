/-
  disk.Write where it refuses; disk.New.
-/
import Derived.Test.YtneipacdpojjkaaWrite
namespace Go.Proofs.Ytneipacdpojjkaa
open Go.RowKit Go.Proofs WageMem WageDisk

set_option maxRecDepth 100000 in
set_option maxHeartbeats 4000000 in
theorem write_bad (v : Value) (d : Ds) (off : Int) (A3 : Option Addr) (n3 c3 : Nat) (data : List UInt8) (w : World) (h : Disk w v d) (hD : Bytes w A3 n3 c3 data) (o0 : -9223372036854775808 ≤ off)
    (hok : writeOk d off data = false) :
    Calls Try.prog 21 #[v, .int .i64 off, .slice A3 n3 c3] w (RetDiskE emptyD 1 w) := by
  obtain ⟨A, n, c, A', n', c', rfl, hB, hW⟩ := h.form
  have hn := hB.1
  have hn3 := hD.1
  have hcm : n3 ≤ 9223372036854775807 := Nat.le_trans hD.2.1 hD.2.2.1
  have hcn : n ≤ 9223372036854775807 := Nat.le_trans hB.2.1 hB.2.2.1
  unfold writeOk at hok
  cases hv : validB d with
  | false =>
    have HV := Lib.hid hv
    clear hv hok hn hn3
    go_enter Try.func21, Try.ntmps21
    go_wp2_with fail
    refine (valid_any _ d _ (h.grew (((Grew.refl w).alloc _).alloc _))).mono ?_
    rw [HV.out]
    rintro e w1 ⟨rfl, g1⟩
    have hr : w1.heap[w.heap.size + 1]? = some (.cells #[.slice none 0 0, .slice none 0 0] 25 (0, 0)) := g1.block (blk_new2 _ _ _ _)
    have r0 := blk_cell hr 0
    have r1 := blk_cell hr 1
    have z0 := blk_frozen hr 0
    have z1 := blk_frozen hr 1
    have gg : Grew w w1 := (((Grew.refl w).alloc _).alloc _).trans g1
    clear hr g1
    go_wp2_with fail
    obtain ⟨q0, q1⟩ := two_set r0 r1 (.slice none 0 0) (.slice none 0 0)
    refine bodyPost_ret (v := .tuple #[.agg #[.slice none 0 0, .slice none 0 0], .int .i64 1]) (by simp [results, Try.results21, go_sem, q0, q1]) rfl ⟨_, _, _, _, _, _, rfl, ?_, (gg.set (by simp) _).set (by simp) _⟩
    exact Fresh.const fun _ => Disk.mk_ Bytes.none Writes.none
  | true =>
    rw [hv, hn, hn3, Bool.true_and] at hok
    have HV := Lib.hid hv
    have HI := Lib.hid hok
    clear hv hok hn hn3
    go_enter Try.func21, Try.ntmps21
    go_wp2_with fail
    refine (valid_any _ d _ (h.grew (((Grew.refl w).alloc _).alloc _))).mono ?_
    rw [HV.out]
    rintro e w1 ⟨rfl, g1⟩
    have hr : w1.heap[w.heap.size + 1]? = some (.cells #[.slice none 0 0, .slice none 0 0] 25 (0, 0)) := g1.block (blk_new2 _ _ _ _)
    have hd : w1.heap[w.heap.size]? = some (.cells #[.slice A n c, .slice A' n' c'] 25 (0, 0)) := g1.block (blk_new1 _ _ _ _)
    have d0 : w1.cell? ⟨w.heap.size, 0, none⟩ = some (.slice A n c) := blk_cell hd 0
    have r0 := blk_cell hr 0
    have r1 := blk_cell hr 1
    have z0 := blk_frozen hr 0
    have z1 := blk_frozen hr 1
    have gg : Grew w w1 := (((Grew.refl w).alloc _).alloc _).trans g1
    clear hr g1 hd
    go_wp2_with fail
    refine (inside_any off n3 n _ (by omega) (by omega) o0).mono ?_
    rw [HI.out]
    rintro e _ ⟨rfl, rfl⟩
    go_wp2_with fail
    obtain ⟨q0, q1⟩ := two_set r0 r1 (.slice none 0 0) (.slice none 0 0)
    refine bodyPost_ret (v := .tuple #[.agg #[.slice none 0 0, .slice none 0 0], .int .i64 1]) (by simp [results, Try.results21, go_sem, q0, q1]) rfl ⟨_, _, _, _, _, _, rfl, ?_, (gg.set (by simp) _).set (by simp) _⟩
    exact Fresh.const fun _ => Disk.mk_ Bytes.none Writes.none

set_option maxRecDepth 100000 in
set_option maxHeartbeats 4000000 in
theorem write_full (v : Value) (d : Ds) (off : Int) (A3 : Option Addr) (n3 c3 : Nat) (data : List UInt8) (w : World) (h : Disk w v d) (hD : Bytes w A3 n3 c3 data) (o0 : -9223372036854775808 ≤ off)
    (hok : writeOk d off data = true) (hge : 64 ≤ d.pe.length) :
    Calls Try.prog 21 #[v, .int .i64 off, .slice A3 n3 c3] w (RetDiskE emptyD 2 w) := by
  obtain ⟨A, n, c, A', n', c', rfl, hB, hW⟩ := h.form
  have hn := hB.1
  have hn3 := hD.1
  have hn' := hW.1
  have hcm : n3 ≤ 9223372036854775807 := Nat.le_trans hD.2.1 hD.2.2.1
  have hcn : n ≤ 9223372036854775807 := Nat.le_trans hB.2.1 hB.2.2.1
  unfold writeOk at hok
  rw [Bool.and_eq_true, hn, hn3] at hok
  have HV := Lib.hid hok.1
  have HI := Lib.hid hok.2
  have d64 : decide (64 ≤ (n' : Int)) = true := decide_eq_true (by omega)
  have d64' : 64 ≤ n' := by omega
  clear hok hn hn3 hn' hge
  go_enter Try.func21, Try.ntmps21
  go_wp2_with fail
  refine (valid_any _ d _ (h.grew (((Grew.refl w).alloc _).alloc _))).mono ?_
  rw [HV.out]
  rintro e w1 ⟨rfl, g1⟩
  have hr : w1.heap[w.heap.size + 1]? = some (.cells #[.slice none 0 0, .slice none 0 0] 25 (0, 0)) := g1.block (blk_new2 _ _ _ _)
  have hd : w1.heap[w.heap.size]? = some (.cells #[.slice A n c, .slice A' n' c'] 25 (0, 0)) := g1.block (blk_new1 _ _ _ _)
  have d0 : w1.cell? ⟨w.heap.size, 0, none⟩ = some (.slice A n c) := blk_cell hd 0
  have d1 : w1.cell? ⟨w.heap.size, 1, none⟩ = some (.slice A' n' c') := blk_cell hd 1
  have r0 := blk_cell hr 0
  have r1 := blk_cell hr 1
  have z0 := blk_frozen hr 0
  have z1 := blk_frozen hr 1
  have gg : Grew w w1 := (((Grew.refl w).alloc _).alloc _).trans g1
  clear hr g1 hd
  go_wp2_with fail
  refine (inside_any off n3 n _ (by omega) (by omega) o0).mono ?_
  rw [HI.out]
  rintro e _ ⟨rfl, rfl⟩
  go_wp2_with fail
  obtain ⟨q0, q1⟩ := two_set r0 r1 (.slice none 0 0) (.slice none 0 0)
  refine bodyPost_ret (v := .tuple #[.agg #[.slice none 0 0, .slice none 0 0], .int .i64 2]) (by simp [results, Try.results21, go_sem, q0, q1]) rfl ⟨_, _, _, _, _, _, rfl, ?_, (gg.set (by simp) _).set (by simp) _⟩
  exact Fresh.const fun _ => Disk.mk_ Bytes.none Writes.none

theorem write_any (v : Value) (d : Ds) (off : Int) (A3 : Option Addr) (n3 c3 : Nat) (data : List UInt8) (w : World) (h : Disk w v d) (hD : Bytes w A3 n3 c3 data) (o0 : -9223372036854775808 ≤ off) (o1 : off ≤ 9223372036854775807) :
    Calls Try.prog 21 #[v, .int .i64 off, .slice A3 n3 c3] w (RetDiskE (writeD d off data) (writeE d off data) w) := by
  cases hok : writeOk d off data with
  | false =>
    rw [show writeD d off data = emptyD by unfold writeD; rw [hok]; rfl, show writeE d off data = 1 by unfold writeE; rw [hok]; rfl]
    exact write_bad v d off A3 n3 c3 data w h hD o0 hok
  | true =>
    by_cases hl : d.pe.length < 64
    · rw [show writeD d off data = ⟨d.st, d.pe ++ [⟨off, data⟩]⟩ by unfold writeD; rw [hok, decide_eq_true hl]; rfl, show writeE d off data = 0 by unfold writeE; rw [hok, if_pos rfl, if_pos hl]]
      exact write_ok v d off A3 n3 c3 data w h hD o0 o1 hok hl
    · rw [show writeD d off data = emptyD by unfold writeD; rw [hok, decide_eq_false hl]; rfl, show writeE d off data = 2 by unfold writeE; rw [hok, if_pos rfl, if_neg hl]]
      exact write_full v d off A3 n3 c3 data w h hD o0 hok (by omega)

def newD (size : Int) : Ds := if 0 ≤ size ∧ size ≤ 65536 then ⟨List.replicate size.toNat 0, []⟩ else emptyD
def newE (size : Int) : Int := if 0 ≤ size ∧ size ≤ 65536 then 0 else 1

theorem made_zero (n : Nat) : (madeCells (Value.int .u8 0).cells (n * 1)).toList = (List.replicate n (0 : UInt8)).map bv := by
  rw [List.map_replicate, List.eq_replicate_iff]
  refine ⟨by rw [Array.length_toList, size_madeCells, Nat.mul_one], fun u hu => ?_⟩
  unfold madeCells at hu
  rw [Array.mem_toList_iff, Array.mem_map] at hu
  obtain ⟨i, _, rfl⟩ := hu
  have e : i % (Value.int .u8 0).cells.size = 0 := Nat.mod_one i
  rw [e]
  rfl

set_option maxHeartbeats 2000000 in
theorem new_any (size : Int) (w : World) : Calls Try.prog 17 #[.int .i64 size] w (RetDiskE (newD size) (newE size) w) := by
  obtain ⟨i0, hi, hz0, hz1, hz2⟩ := info_parts info5
  by_cases h1 : size < 0
  · have d1 : decide (size < 0) = true := decide_eq_true h1
    have E : Hid (newD size = emptyD ∧ newE size = 1) := by unfold Hid newD newE; rw [if_neg (by omega), if_neg (by omega)]; exact ⟨rfl, rfl⟩
    go_enter Try.func17, Try.ntmps17
    go_wp2
    refine bodyPost_ret (v := .tuple #[.agg #[.slice none 0 0, .slice none 0 0], .int .i64 1]) (by simp [results, Try.results17, go_sem]) rfl ?_
    rw [E.out.1, E.out.2]
    exact ⟨_, _, _, _, _, _, rfl, Fresh.const fun _ => Disk.mk_ Bytes.none Writes.none, (Grew.refl w).alloc _⟩
  have d1 : decide (size < 0) = false := decide_eq_false h1
  by_cases h2 : 65536 < size
  · have d2 : decide (65536 < size) = true := decide_eq_true h2
    have E : Hid (newD size = emptyD ∧ newE size = 1) := by unfold Hid newD newE; rw [if_neg (by omega), if_neg (by omega)]; exact ⟨rfl, rfl⟩
    go_enter Try.func17, Try.ntmps17
    go_wp2
    refine bodyPost_ret (v := .tuple #[.agg #[.slice none 0 0, .slice none 0 0], .int .i64 1]) (by simp [results, Try.results17, go_sem]) rfl ?_
    rw [E.out.1, E.out.2]
    exact ⟨_, _, _, _, _, _, rfl, Fresh.const fun _ => Disk.mk_ Bytes.none Writes.none, (Grew.refl w).alloc _⟩
  have d2 : decide (65536 < size) = false := decide_eq_false h2
  obtain ⟨n, rfl⟩ := Int.eq_ofNat_of_zero_le (show 0 ≤ size by omega)
  have hn : n ≤ 65536 := by omega
  have E : Hid (newD n = ⟨List.replicate n 0, []⟩ ∧ newE n = 0) := by unfold Hid newD newE; rw [if_pos (by omega), if_pos (by omega), Int.toNat_natCast]; exact ⟨rfl, rfl⟩
  have hmx : n ≤ maxLen := by unfold maxLen; omega
  clear h1 h2
  go_enter Try.func17, Try.ntmps17
  go_wp2_with (at_make; refine wpList_make_full _ rfl _ _ 22 rfl (w.heap.size + 1) 5 i0 (.int .u8 0) 1 Try.underlying22 hi hz0 hz1 .i64 .i64 n n n rfl rfl rfl rfl (by rw [hz2]; omega) hmx (by simp) ?_; intro w1 own1 hg1; have hr : w1.heap[w.heap.size]? = some (.cells #[.slice none 0 0, .slice none 0 0] 25 (0, 0)) := (hg1.block w.heap.size (by simp) (by simp)).trans (heap_alloc_new w _); have r0 := blk_cell hr 0; have r1 := blk_cell hr 1; have z0 := blk_frozen hr 0; have z1 := blk_frozen hr 1; rw [made_zero] at own1; have OWN := Lib.hid own1; have GR := Lib.hid hg1; clear own1 hg1 hr)
  simp only [World.size_alloc] at OWN ⊢
  obtain ⟨q0, q1⟩ := two_set r0 r1 (.slice (some ⟨w.heap.size + 1, 0, none⟩) n n) (.slice none 0 0)
  refine bodyPost_ret (v := .tuple #[.agg #[.slice (some ⟨w.heap.size + 1, 0, none⟩) n n, .slice none 0 0], .int .i64 0]) (by simp [results, Try.results17, go_sem, q0, q1]) rfl ?_
  rw [E.out.1, E.out.2]
  have gg : Grew w w1 := ((Grew.refl w).alloc _).grown GR.out (by simp)
  have hf : Fresh (w.heap.size + 1) w1 fun W => Bytes W (some ⟨w.heap.size + 1, 0, none⟩) n n (List.replicate n 0) := (own_fresh OWN.out).imp fun W h => Bytes.own (by simp) h
  exact ⟨_, _, _, _, _, _, rfl, (((hf.set (by simp) _).set (by simp) _).mono (by simp)).imp fun W h => Disk.mk_ h Writes.none, (gg.set (by simp) _).set (by simp) _⟩
end Go.Proofs.Ytneipacdpojjkaa
