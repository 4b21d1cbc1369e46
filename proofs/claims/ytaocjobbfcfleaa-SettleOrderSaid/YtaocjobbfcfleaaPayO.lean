/-
  settle.paymentsOf.
-/
import Derived.Test.YtaocjobbfcfleaaBase
namespace Go.Proofs.Ytaocjobbfcfleaa
open Go.RowKit Go.Proofs WageMem WageOrd WageRec WageMap WageReg WageSet

set_option maxRecDepth 100000 in
set_option maxHeartbeats 4000000 in
theorem pays_any (A B : Option Addr) (n c m e : Nat) (l : List Sta) (w : World) (h : Stas w A n c l) (hn : n ≤ 1000) : Calls Try.prog 42 #[.agg #[.slice A n c, .slice B m e]] w (RetE pe 4 27 (l.map (·.p)) w) := by
  obtain ⟨i0, hi, hz0, hz1, hz2⟩ := info_parts info27
  have HH := Lib.hid h
  have HL := Lib.hid h.1.1
  obtain ⟨wd, hwd⟩ : ∃ x, x = w.alloc (.cells #[.slice A n c, .slice B m e] 25) := ⟨_, rfl⟩
  have G0 : Hid (Grew w wd) := by rw [hwd]; exact (Grew.refl _).alloc _
  clear h
  go_enter Try.func42, Try.ntmps42
  go_wp2_with fail
  rw [← hwd]
  clear hwd
  go_loopw [3, 9] (fun v i y => ∃ (k : Nat) (Al : Option Addr) (cl : Nat), k ≤ n ∧ i = .int .i64 k ∧ v = .slice Al k cl ∧ Hid (y.ownsRow w.heap.size 27 4 (.slice Al k cl) k (((l.map (·.p)).take k).flatMap pe)) ∧ Grew w y) (fun _ i _ => n - (intOf i).toNat)
  case atStart => exact ⟨0, none, 0, Nat.zero_le _, rfl, rfl, World.ownsRow_nil _ _ _ _, G0.out⟩
  case round =>
    clear G0
    obtain ⟨k, Al, cl, hk, rfl, rfl, OW, hg⟩ := hrel
    by_cases hlt : k < n
    · obtain ⟨b, o, x, rfl, hx, hr⟩ := (HH.out.1.grew hg).at_ se_ok hlt
      have HX : Hid ((l.map (·.p))[k]? = some x.p) := by unfold Hid; rw [List.getElem?_map, hx]; rfl
      have k0 : (0 : Int) ≤ (k : Int) := by omega
      have k1 : (k : Int) < (n : Int) := by omega
      obtain ⟨c0, c1, c2, c3, c4, c5, c6⟩ := s_cells hr
      obtain ⟨wa, hwa⟩ : ∃ y, y = wr.alloc (.cells #[.int .i64 x.p.id, .string x.p.acc, .int .i64 x.p.c, .int .i64 x.p.d, .int .i64 x.st, .int .i64 x.pd, .int .i64 x.bk] 43) := ⟨_, rfl⟩
      have ga : Grew wr wa := by rw [hwa]; exact (Grew.refl wr).alloc _
      have hrx : wa.rangeAt wr.heap.size 0 (se x) := by rw [hwa]; exact range_new wr (se x) 43
      obtain ⟨x0, x1, x2, x3, x4, x5, x6⟩ := s_cells0 hrx
      have OWa := Lib.hid (own_grew OW.out ga)
      have gA := hg.trans ga
      have BI := Lib.hid (Recs.built (w := wa) pe_ok (t := 27) (l := [x.p]) (n := 1) #[.int .i64 x.p.id, .string x.p.acc, .int .i64 x.p.c, .int .i64 x.p.d] rfl rfl (by decide))
      clear hx hr hrx OW hg ga
      go_upto_region 5 with (fail)
      rw [← hwa]
      clear hwa c0 c1 c2 c3 c4 c5 c6
      go_wp2_with (at_builtin; refine wpList_append_sl _ rfl (.tmp 13) (.tmp 16) 52 rfl w.heap.size 27 i0 _ 4 40 Try.underlying52 hi hz0 hz1 hz2 rfl (by decide) (.slice Al k cl) k _ rfl (OWa.out.alloc _) (some ⟨wa.heap.size, 0, none⟩) 1 1 _ rfl BI.out.2 (flat_one pe_ok _) (by unfold maxLen; omega) (by omega) (by have := gA.le; simp; omega) ?_; intro v3 w3 own3 hg3 hat3; obtain ⟨A3, c3, rfl⟩ := own_form own3)
      have OW3 : Hid (w3.ownsRow w.heap.size 27 4 (.slice A3 (k + 1) c3) (k + 1) (((l.map (·.p)).take (k + 1)).flatMap pe)) := by unfold Hid; rw [flat_snoc _ _ _ _ HX.out]; simpa using own3
      have gE : Grew w w3 := (gA.alloc _).grown hg3 (fun j hj => (OWa.out.lt j hj).1)
      clear own3 hg3 hat3 OWa BI gA x0 x1 x2 x3 x4 x5 x6
      go_roundw
      case rel => exact ⟨k + 1, A3, c3, by omega, by go_num, rfl, OW3, gE⟩
      case measure => simp [intOf]; omega
    · obtain rfl : k = n := by omega
      have OWn := OW.out
      rw [List.take_of_length_le (by rw [List.length_map, HL.out]; exact Nat.le_refl _)] at OWn
      have OWN := Lib.hid OWn
      clear OWn OW
      go_wp2_with fail
      go_ret
      exact ⟨Al, k, cl, rfl, by rw [List.length_map, HL.out], OWN.out, hg⟩
end Go.Proofs.Ytaocjobbfcfleaa
