/-
  The reference implementation of the disk: New, Copy.
-/
import Derived.Test.YtneipacdpojjkaaIndep
namespace Go.Proofs.Ytneipacdpojjkaa
open Go.RowKit Go.Proofs WageMem WageDisk

set_option maxHeartbeats 2000000 in
theorem rnew_any (size : Int) (w : World) : Calls Try.prog 18 #[.int .i64 size] w (RetDiskE (newD size) (newE size) w) := by
  obtain ⟨i0, hi, hz0, hz1, hz2⟩ := info_parts info5
  by_cases h1 : size < 0
  · have d1 : decide (size < 0) = true := decide_eq_true h1
    have E : Hid (newD size = emptyD ∧ newE size = 1) := by unfold Hid newD newE; rw [if_neg (by omega), if_neg (by omega)]; exact ⟨rfl, rfl⟩
    go_enter Try.func18, Try.ntmps18
    go_wp2
    refine bodyPost_ret (v := .tuple #[.agg #[.slice none 0 0, .slice none 0 0], .int .i64 1]) (by simp [results, Try.results18, go_sem]) rfl ?_
    rw [E.out.1, E.out.2]
    exact ⟨_, _, _, _, _, _, rfl, Fresh.const fun _ => Disk.mk_ Bytes.none Writes.none, (Grew.refl w).alloc _⟩
  have d1 : decide (size < 0) = false := decide_eq_false h1
  by_cases h2 : 65536 < size
  · have d2 : decide (65536 < size) = true := decide_eq_true h2
    have E : Hid (newD size = emptyD ∧ newE size = 1) := by unfold Hid newD newE; rw [if_neg (by omega), if_neg (by omega)]; exact ⟨rfl, rfl⟩
    go_enter Try.func18, Try.ntmps18
    go_wp2
    refine bodyPost_ret (v := .tuple #[.agg #[.slice none 0 0, .slice none 0 0], .int .i64 1]) (by simp [results, Try.results18, go_sem]) rfl ?_
    rw [E.out.1, E.out.2]
    exact ⟨_, _, _, _, _, _, rfl, Fresh.const fun _ => Disk.mk_ Bytes.none Writes.none, (Grew.refl w).alloc _⟩
  have d2 : decide (65536 < size) = false := decide_eq_false h2
  obtain ⟨n, rfl⟩ := Int.eq_ofNat_of_zero_le (show 0 ≤ size by omega)
  have hn : n ≤ 65536 := by omega
  have E : Hid (newD n = ⟨List.replicate n 0, []⟩ ∧ newE n = 0) := by unfold Hid newD newE; rw [if_pos (by omega), if_pos (by omega), Int.toNat_natCast]; exact ⟨rfl, rfl⟩
  have hmx : n ≤ maxLen := by unfold maxLen; omega
  clear h1 h2
  go_enter Try.func18, Try.ntmps18
  go_wp2_with (at_make; refine wpList_make_full _ rfl _ _ 22 rfl (w.heap.size + 1) 5 i0 (.int .u8 0) 1 Try.underlying22 hi hz0 hz1 .i64 .i64 n n n rfl rfl rfl rfl (by rw [hz2]; omega) hmx (by simp) ?_; intro w1 own1 hg1; have hr : w1.heap[w.heap.size]? = some (.cells #[.slice none 0 0, .slice none 0 0] 25 (0, 0)) := (hg1.block w.heap.size (by simp) (by simp)).trans (heap_alloc_new w _); have r0 := blk_cell hr 0; have r1 := blk_cell hr 1; have z0 := blk_frozen hr 0; have z1 := blk_frozen hr 1; rw [made_zero] at own1; have OWN := Lib.hid own1; have GR := Lib.hid hg1; clear own1 hg1 hr)
  simp only [World.size_alloc] at OWN ⊢
  obtain ⟨q0, q1⟩ := two_set r0 r1 (.slice (some ⟨w.heap.size + 1, 0, none⟩) n n) (.slice none 0 0)
  refine bodyPost_ret (v := .tuple #[.agg #[.slice (some ⟨w.heap.size + 1, 0, none⟩) n n, .slice none 0 0], .int .i64 0]) (by simp [results, Try.results18, go_sem, q0, q1]) rfl ?_
  rw [E.out.1, E.out.2]
  have gg : Grew w w1 := ((Grew.refl w).alloc _).grown GR.out (by simp)
  have hf : Fresh (w.heap.size + 1) w1 fun W => Bytes W (some ⟨w.heap.size + 1, 0, none⟩) n n (List.replicate n 0) := (own_fresh OWN.out).imp fun W h => Bytes.own (by simp) h
  exact ⟨_, _, _, _, _, _, rfl, (((hf.set (by simp) _).set (by simp) _).mono (by simp)).imp fun W h => Disk.mk_ h Writes.none, (gg.set (by simp) _).set (by simp) _⟩

set_option maxHeartbeats 2000000 in
theorem copy_any (A : Option Addr) (n c : Nat) (bs : List UInt8) (w : World) (h : Bytes w A n c bs) (hn : n ≤ 65536) :
    Calls Try.prog 46 #[.slice A n c] w (RetOwn 5 n (bs.map bv) w) := by
  obtain ⟨i0, hi, hz0, hz1, hz2⟩ := info_parts info5
  have HB := Lib.hid h
  have HL := Lib.hid h.1
  clear h
  go_enter Try.func46, Try.ntmps46
  go_wp2_with fail
  go_loopw [3, 4] (fun v i wr => ∃ (k : Nat) (Af : Option Addr) (cf : Nat), k ≤ n ∧ v = .slice Af k cf ∧ i = .int .i64 k ∧ wr.ownsRow w.heap.size 5 1 (.slice Af k cf) k ((bs.take k).map bv) ∧ Grew w wr) (fun _ i _ => n - (intOf i).toNat)
  case atStart => exact ⟨0, none, 0, Nat.zero_le _, rfl, rfl, World.ownsRow_nil _ _ _ _, Grew.refl _⟩
  case round =>
    obtain ⟨k, Af, cf, hk, rfl, rfl, hown, hg⟩ := hrel
    by_cases hlt : k < n
    · obtain ⟨x, hx⟩ : ∃ x, bs[k]? = some x := ⟨_, List.getElem?_eq_getElem (by rw [HL.out]; exact hlt)⟩
      obtain ⟨b, o, rfl, hc⟩ := (HB.out.grew hg).at_ (by omega)
      have c1 := hc k x hx
      have HX : Hid ((bs.take (k + 1)).map bv = (bs.take k).map bv ++ [.int .u8 (x.toNat : Int)]) := by unfold Hid; rw [List.take_add_one, hx, List.map_append]; rfl
      have HO := Lib.hid hown
      have bi := built (w := wr) (t := 5) [x] #[.int .u8 (x.toNat : Int)] rfl 1 rfl (by decide)
      have BI := Lib.hid bi
      clear hown bi hx hc
      go_wp2_with (at_builtin; refine wpList_append_sl _ rfl (.tmp 11) (.tmp 16) 22 rfl w.heap.size 5 i0 (.int .u8 0) 1 1 Try.underlying22 hi hz0 hz1 hz2 rfl (by decide) (.slice Af k cf) k ((bs.take k).map bv) rfl (HO.out.alloc _) (some ⟨wr.heap.size, 0, none⟩) 1 1 [.int .u8 (x.toNat : Int)] rfl BI.out.2 (by simp [Value.oneCell']) (by unfold maxLen; omega) (by omega) (by have := hg.le; simp; omega) ?_; intro v1 x1 own1 hg1 hat1; obtain ⟨Ag, cg, rfl⟩ := own_form own1)
      have hgx : Grew w x1 := (hg.alloc _).grown hg1 (fun j hj => (HO.out.lt j hj).1)
      have own2 : x1.ownsRow w.heap.size 5 1 (.slice Ag (k + 1) cg) (k + 1) ((bs.take (k + 1)).map bv) := by
        rw [HX.out]; exact own1
      clear own1 hg1 hat1 HO BI
      go_roundw
      case rel => exact ⟨k + 1, Ag, cg, by omega, rfl, by go_num, own2, hgx⟩
      case measure => simp [intOf]; omega
    · obtain rfl : k = n := by omega
      have hh : wr.ownsRow w.heap.size 5 1 (.slice Af k cf) k (bs.map bv) := by
        have e : bs.take k = bs := by rw [← HL.out, List.take_length]
        rw [e] at hown; exact hown
      have HO := Lib.hid hh
      clear hown hh
      go_wp2_with fail
      go_ret
      exact ⟨Af, cf, rfl, HO.out, hg⟩
end Go.Proofs.Ytneipacdpojjkaa
