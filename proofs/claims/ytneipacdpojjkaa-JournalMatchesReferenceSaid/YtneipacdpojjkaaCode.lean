/-
  journal.code: the encoding of a record.
-/
import Derived.Test.YtneipacdpojjkaaDig
import Derived.Test.YtneipacdpojjkaaRefD
namespace Go.Proofs.Ytneipacdpojjkaa
open Go.RowKit Go.Proofs WageMem WageDisk

/-- The four bytes ahead of the sum. -/
def frontB (n : Nat) (k : Int) : List UInt8 := encB 2 [(n : Int), k % 65536]
/-- The encoding of a record with a number. -/
def codeB (rec : List UInt8) (k : Int) : List UInt8 := 82 :: (frontB rec.length k ++ (encB 8 [sumI (frontB rec.length k ++ rec)] ++ rec))
theorem frontB_len (n : Nat) (k : Int) : (frontB n k).length = 4 := by unfold frontB; rw [encB_len]; rfl
theorem codeB_len (rec : List UInt8) (k : Int) : (codeB rec k).length = 13 + rec.length := by
  unfold codeB
  rw [List.length_cons, List.length_append, List.length_append, frontB_len, encB_len]
  simp only [List.length_cons, List.length_nil]
  omega

theorem encode2 {x y : Int} {w : World} (h : Sl w 1 (some ⟨w.heap.size - 1, 0, none⟩) 2 2 [.int .u64 x, .int .u64 y]) :
    Calls Try.prog 56 #[.int .i64 2, .slice (some ⟨w.heap.size - 1, 0, none⟩) 2 2] w (RetOwn 5 4 ((encB 2 [x, y]).map bv) w) := encode_any 2 _ 2 2 [x, y] w (by decide) (by decide) rfl (by decide) h
theorem encode8 {x : Int} {A : Option Addr} {w : World} (h : Sl w 1 A 1 1 [.int .u64 x]) :
    Calls Try.prog 56 #[.int .i64 8, .slice A 1 1] w (RetOwn 5 8 ((encB 8 [x]).map bv) w) := encode_any 8 _ 1 1 [x] w (by decide) (by decide) rfl (by decide) h
theorem builtU {w : World} {t : TypeId} (zs : List Int) (cs : Array Value) (h : cs = (zs.map uv).toArray) (n : Nat) (hn : zs.length = n) (hm : n ≤ 1000) : Sl (w.alloc (.cells cs t)) 1 (some ⟨w.heap.size, 0, none⟩) n n (zs.map uv) := by
  subst h
  refine ⟨Nat.le_refl _, by unfold maxLen; omega, by simp; exact hn, fun _ => ⟨w.heap.size, 0, rfl, fun j u hu => ?_⟩, fun h => by cases h⟩
  rw [Nat.zero_add]
  have hb := heap_alloc_new w (.cells (zs.map uv).toArray t)
  rw [cell_of_row _ _ _ _ _ _ hb]
  simpa using hu

theorem over_app {x y z xs : List UInt8} {o : Nat} (ho : o = x.length) (hl : xs.length = y.length) : over (x ++ (y ++ z)) o xs = x ++ (xs ++ z) := by
  subst ho
  unfold over
  rw [List.take_left, hl, ← List.drop_drop, List.drop_left, List.drop_left]
theorem code_made (rec : List UInt8) (k : Int) : over (over (over ((List.replicate (13 + rec.length) 0).set 0 82) 1 (frontB rec.length k)) 5 (encB 8 [sumI (frontB rec.length k ++ rec)])) 13 rec = codeB rec k := by
  have e0 : (List.replicate (13 + rec.length) (0 : UInt8)).set 0 82 = [82] ++ (List.replicate 4 0 ++ (List.replicate 8 0 ++ List.replicate rec.length 0)) := by
    rw [List.replicate_append_replicate, List.replicate_append_replicate, show 13 + rec.length = (4 + (8 + rec.length)) + 1 by omega, List.replicate_succ, List.set_cons_zero]
    rfl
  rw [e0, over_app (x := [82]) (y := List.replicate 4 0) (o := 1) rfl (by rw [frontB_len]; simp), ← List.append_assoc, over_app (x := [82] ++ frontB rec.length k) (y := List.replicate 8 0) (o := 5) (by rw [List.length_append, frontB_len]; rfl) (by rw [encB_len]; simp)]
  rw [show ([82] ++ frontB rec.length k) ++ (encB 8 [sumI (frontB rec.length k ++ rec)] ++ List.replicate rec.length 0) = (([82] ++ frontB rec.length k) ++ encB 8 [sumI (frontB rec.length k ++ rec)]) ++ (List.replicate rec.length 0 ++ []) by simp]
  rw [over_app (x := ([82] ++ frontB rec.length k) ++ encB 8 [sumI (frontB rec.length k ++ rec)]) (y := List.replicate rec.length 0) (o := 13) (by rw [List.length_append, List.length_append, frontB_len, encB_len]; rfl) (by simp)]
  unfold codeB
  simp

set_option maxRecDepth 100000 in
set_option maxHeartbeats 4000000 in
theorem code_any (A : Option Addr) (n c : Nat) (rec : List UInt8) (k : Int) (w : World) (h : Bytes w A n c rec) (hn : n ≤ 5000) (k0 : 0 ≤ k) (k1 : k ≤ 1000000) :
    Calls Try.prog 50 #[.slice A n c, .int .i64 k] w (RetOwn 5 (13 + n) ((codeB rec k).map bv) w) := by
  obtain ⟨i0, hi, hz0, hz1, hz2⟩ := info_parts info5
  have HH := Lib.hid h
  have HN := Lib.hid h.1
  clear h
  go_enter Try.func50, Try.ntmps50
  go_wp2_with fail
  refine (encode_any 2 _ 2 2 [(n : Int), k % 65536] _ (by decide) (by decide) rfl (by decide) (builtU [(n : Int), k % 65536] _ rfl 2 rfl (by decide))).mono ?_
  rintro e w1 ⟨A1, c1, rfl, own1, g1⟩
  have gg1 : Grew w w1 := ((Grew.refl w).alloc _).trans g1
  have hB1 : Bytes w1 A1 4 c1 (frontB n k) := Bytes.own (frontB_len n k) own1
  have cv1 := conv_bytes hB1
  have cv2 := conv_bytes (HH.out.grew gg1)
  have HB1 := Lib.hid hB1
  clear hB1 own1 g1
  have hf4 := frontB_len n k
  have hadd := run_string_add_lists (P := Try.prog) (w := w1) (frontB n k) rec (by rw [hf4]; decide) (by have := HN.out; omega)
  clear hf4
  go_wp2_with fail
  refine (sum_any (frontB n k ++ rec) _ (by rw [List.length_append, frontB_len, HN.out]; omega)).mono ?_
  rintro e _ ⟨rfl, rfl⟩
  obtain ⟨sm, hsm⟩ : ∃ sm, sumI (frontB n k ++ rec) = sm := ⟨_, rfl⟩
  rw [hsm]
  have HSM := Lib.hid hsm
  clear hsm hadd cv1 cv2
  obtain ⟨m, hnn⟩ : ∃ m : Nat, (13 : Int) + (n : Int) = (m : Int) := ⟨13 + n, by omega⟩
  have hmn : m ≤ 5013 := by omega
  have HM : Hid (m = 13 + n) := by unfold Hid; omega
  have hm0 : 13 ≤ m := by omega
  have hmx : m ≤ maxLen := by unfold maxLen; omega
  go_upto_region 5 with (at_make; refine wpList_make_full _ rfl _ _ 22 rfl w1.heap.size 5 i0 (.int .u8 0) 1 Try.underlying22 hi hz0 hz1 .i64 .i64 m m m rfl rfl rfl rfl (by rw [hz2]; omega) hmx (Nat.le_refl _) ?_; intro w2 own2 hg2; rw [made_zero] at own2; obtain ⟨q0, z0⟩ := own_cell own2 (j := 0) (u := .int .u8 0) (by rw [List.getElem?_map, List.getElem?_replicate, if_pos (by omega)]; rfl); have OWN := Lib.hid own2; have GR := Lib.hid hg2; clear own2 hg2)
  have gg2 : Grew w1 (w2.setCell ⟨w1.heap.size, 0, none⟩ (.int .u8 82)) := ((Grew.refl w1).grown GR.out (by simp)).set (Nat.le_refl _) _
  have own2 := own_store (j := 0) (u := bv 82) OWN.out (by omega)
  rw [← List.map_set] at own2
  obtain ⟨w2', hw2⟩ : ∃ w2', w2' = w2.setCell ⟨w1.heap.size, 0, none⟩ (.int .u8 82) := ⟨_, rfl⟩
  rw [show bv 82 = Value.int .u8 82 from rfl, ← hw2] at own2
  rw [← hw2] at gg2
  rw [← hw2]
  have OWN2 := Lib.hid own2
  have HC := Lib.hid (HB1.out.grew gg2).2.2.2.2.1
  clear own2 hw2 q0 z0 OWN GR
  go_upto_region 6 with (refine wpList_copy_owned _ (by rfl) (.tmp 29) (.tmp 30) 22 (by rfl) 5 Try.underlying22 size5 w1.heap.size (some ⟨w1.heap.size, 0, none⟩) m m _ OWN2.out (some ⟨w1.heap.size, 1, none⟩) A1 (m - 1) (m - 1) 4 c1 1 (by rfl) (by rfl) ((frontB n k).map bv) (by rw [List.length_map, frontB_len]; show 4 = min 4 (m - 1); omega) (fun g hg _ => by injection hg with hg; injection hg with hg; rw [hg]) HC.out (by rw [List.length_map, frontB_len]; omega) (bv_one _) ?_; intro w3 own3 grow3)
  rw [← map_over] at own3
  have gg3 : Grew w1 w3 := gg2.grown grow3.out (by simp [Value.ownBlock])
  have OWN3 := Lib.hid own3.out
  clear own3 grow3 OWN2 HC
  have BU : Hid (Sl (w3.drew.alloc (.cells #[.int .u64 sm] 72)) 1 (some ⟨w3.heap.size, 0, none⟩) 1 1 [.int .u64 sm]) := builtU [sm] _ rfl 1 rfl (by decide)
  have GA : Hid (Grew w1 (w3.drew.alloc (.cells #[.int .u64 sm] 72))) := gg3.drew.alloc _
  have OA : Hid ((w3.drew.alloc (.cells #[.int .u64 sm] 72)).ownsRow w1.heap.size 5 1 (.slice (some ⟨w1.heap.size, 0, none⟩) m m) m ((over ((List.replicate m 0).set 0 82) 1 (frontB n k)).map bv)) := own_grew OWN3.out ((Grew.refl w3).drew.alloc _)
  have b5 : (5 : Int) ≤ (m : Int) := by omega
  have b5' : ¬ m = 5 := by omega
  go_region_law
    (first
      | (go_simp; go_at_call 56; refine (encode8 BU.out).mono ?_; rintro e w4 ⟨A4, c4, rfl, own4, g4⟩; have OWN4 := Lib.hid (own_grew OA.out g4); have HC4 := Lib.hid (Sl.own own4).2.2.2.1; have gg4 : Grew w1 w4 := GA.out.trans g4)
      | (refine step_copy_owned _ (by rfl) (.tmp 33) (.tmp 36) 22 (by rfl) 5 Try.underlying22 size5 w1.heap.size (some ⟨w1.heap.size, 0, none⟩) m m _ OWN4.out (some ⟨w1.heap.size, 5, none⟩) A4 (m - 5) (m - 5) 8 c4 5 (by rfl) (by rfl) ((encB 8 [sm]).map bv) (by rw [List.length_map, encB_len]; show 8 = min 8 (m - 5); omega) (fun g hg _ => by injection hg with hg; injection hg with hg; rw [hg]) HC4.out (by rw [List.length_map, encB_len]; show 5 + 8 ≤ m; omega) (bv_one _) ?_; intro w5 own5 grow5))
  all_goals
    rw [← map_over] at own5
    have gg5 : Grew w1 w5 := gg4.grown grow5.out (by simp [Value.ownBlock])
    have OWN5 := Lib.hid own5.out
    clear own5 grow5 OWN4 HC4 OA OWN3 BU GA own4 g4
    obtain ⟨dp, hdp⟩ : ∃ dp, (if m = 13 then some (⟨w1.heap.size, 0, none⟩ : Addr) else some ⟨w1.heap.size, 13, none⟩) = dp := ⟨_, rfl⟩
    have HDP : Hid (∀ g, some (⟨w1.heap.size, 0, none⟩ : Addr) = some ⟨g, 0, none⟩ → 0 < (rec.map bv).length → dp = some ⟨g, 13, none⟩) := by
      intro g hg hp
      rw [List.length_map, HN.out] at hp
      have := HM.out
      rw [← hdp, if_neg (by omega)]
      injection hg with hg; injection hg with hg; rw [hg]
    have HC := Lib.hid (HH.out.grew (gg1.trans gg5)).2.2.2.2.1
    have b13 : (13 : Int) ≤ (m : Int) := by omega
    have FIN : Hid (((over (over (over ((List.replicate m 0).set 0 82) 1 (frontB n k)) 5 (encB 8 [sm])) 13 rec).map bv) = (codeB rec k).map bv) := by
      unfold Hid; rw [← HSM.out, HM.out, ← HN.out, code_made]
    go_wp2_with (refine wpList_copy_owned _ (by rfl) (.tmp 39) (.tmp 40) 22 (by rfl) 5 Try.underlying22 size5 w1.heap.size (some ⟨w1.heap.size, 0, none⟩) m m _ OWN5.out dp A (m - 13) (m - 13) n c 13 (by rfl) (by rfl) (rec.map bv) (by rw [List.length_map, HN.out]; show n = min n (m - 13); have := HM.out; omega) HDP.out HC.out (by rw [List.length_map, HN.out]; have := HM.out; omega) (bv_one _) ?_; intro w6 own6 grow6)
    rw [← map_over] at own6
    go_ret
    have gg6 : Grew w1 w6 := gg5.grown grow6.out (by simp [Value.ownBlock])
    have own7 := own6.out
    rw [FIN.out] at own7
    rw [← HM.out]
    exact ⟨_, _, rfl, own_base own7 gg1.le, gg1.trans gg6⟩
end Go.Proofs.Ytneipacdpojjkaa
