/-
  The reference's functions on spans: Minus.
-/
import Derived.Test.YtngbkpplkkpagaaRfF
namespace Go.Proofs.Ytngbkpplkkpagaa
open Go.RowKit Go.Proofs WageMem WageSpan

structure MnInv (w : World) (y : List Sp) (k : Nat) (R : List Sp) (fr : Int) (Al : Option Addr) (j cl : Nat) (W : World) : Prop where
  own : W.ownsRow w.heap.size 33 2 (.slice Al j cl) j (flat R)
  len : R.length = j
  rest : R ++ rcompl fr (y.drop k) = rcompl (-1152921504606846976) y
  in64 : In64 R
  grew : Grew w W

set_option maxRecDepth 100000 in
set_option maxHeartbeats 4000000 in
theorem rminus_any (A B : Option Addr) (n m c e : Nat) (a b : List Sp) (w : World) (ha : Spans w A n c a) (hb : Spans w B m e b) (hn : n ≤ 1000) (hm : m ≤ 1000) :
    Calls Try.prog 22 #[.slice A n c, .slice B m e] w (RetR (minus a b) w) := by
  obtain ⟨i0, hi, hz0, hz1, hz2⟩ := info_parts info33
  have LY : Hid ((rnorm b).length ≤ m) := by unfold Hid; rw [← hb.1]; exact rnorm_len b
  have HA := Lib.hid ha
  have HB := Lib.hid hb
  have HU := Lib.hid (rminus_eq a b)
  clear ha hb
  obtain ⟨y, hy⟩ : ∃ y, rnorm b = y := ⟨_, rfl⟩
  rw [hy] at LY HU
  have EY := Lib.hid hy
  clear hy
  go_enter Try.func22, Try.ntmps22
  go_wp2_with fail
  refine (rnormal_val HB.out (by omega) EY.out).mono ?_
  rintro e1 w1 ⟨Ay, ny, cy, rfl, sy, g1⟩
  have hny : ny ≤ 1000 := by have := sy.1; have := LY.out; omega
  have HY := Lib.hid sy
  clear sy HB EY
  go_wp2_with fail
  go_loopw [6, 7, 8] (fun v p q wr => ∃ (k j : Nat) (R : List Sp) (fr : Int) (Al : Option Addr) (cl : Nat), k ≤ ny ∧ j ≤ k ∧ (-9223372036854775808 ≤ fr ∧ fr ≤ 9223372036854775807) ∧ p = .int .i64 fr ∧ q = .int .i64 k ∧ v = .slice Al j cl ∧ Hid (MnInv w1 y k R fr Al j cl wr)) (fun _ _ q _ => ny - (intOf q).toNat)
  case atStart => exact ⟨0, 0, [], -1152921504606846976, none, 0, by omega, by omega, by omega, rfl, rfl, rfl, ⟨World.ownsRow_nil _ _ _ _, rfl, rfl, fun s hs => by simp at hs, Grew.refl _⟩⟩
  case round =>
    obtain ⟨k, j, R, fr, Al, cl, hk', hj', bf, rfl, rfl, rfl, INV⟩ := hrel
    by_cases hkn : k < ny
    · obtain ⟨b2, o2, t, rfl, ht, d1, d2, bt1, bt2⟩ := (HY.out.grew INV.out.grew).at_ hkn
      obtain ⟨t1, t2⟩ := t
      simp only at d1 d2 bt1 bt2
      have hrest := INV.out.rest
      rw [dropS ht, rcompl] at hrest
      have HR := Lib.hid hrest
      have NB2 : Hid (some b2 ≠ (Value.slice Al j cl).ownBlock) := by
        unfold Hid; intro h; have h1 := (INV.out.own.lt _ h.symm).1; have h2 := (HY.out.at_ hkn); obtain ⟨b, o, s, e1, _, h3, _⟩ := h2; injection e1 with e1; injection e1 with e1 e2; subst e1; have := World.block_lt_of_cell? _ _ h3; simp only at this; omega
      clear hrest ht
      have q2 : (0 : Int) ≤ (k : Int) := by omega
      have q3 : (k : Int) < (ny : Int) := by omega
      by_cases huv : fr < t1
      · have t5 : decide (fr < t1) = true := decide_eq_true huv
        have HQ : Hid (R ++ ([(fr, t1)] ++ rcompl t2 (y.drop (k + 1))) = rcompl (-1152921504606846976) y) := by have := HR.out; simp only at this; rw [if_pos huv] at this; exact this
        have hle := INV.out.grew.le
        have BI : Hid (Sl (wr.alloc (.cells #[.int .i64 fr, .int .i64 t1] 33)) 2 (some ⟨wr.heap.size, 0, none⟩) 1 1 (flat [(fr, t1)])) := built 2 1 _ _ rfl rfl (by decide)
        clear huv HR
        go_wp2_with (at_builtin; refine wpList_append_sl _ rfl (.tmp 24) (.tmp 32) 22 rfl w1.heap.size 33 i0 (.agg #[.int .i64 0, .int .i64 0]) 2 16 Try.underlying22 hi hz0 hz1 hz2 rfl (by decide) (.slice Al j cl) j _ rfl (INV.out.own.alloc _) (some ⟨wr.heap.size, 0, none⟩) 1 1 _ rfl BI.out (flat_one _) (by unfold maxLen; omega) (by omega) (by simp; omega) ?_; intro v3 w3 own3 hg3 hat3; obtain ⟨A3, c3, rfl⟩ := own_form own3; replace d2 := hg3.cell (((Grew.refl wr).alloc (.cells #[.int .i64 fr, .int .i64 t1] 33)).cell d2) NB2.out)
        have INV2 : Hid (MnInv w1 y (k + 1) (R ++ [(fr, t1)]) t2 A3 (j + 1) c3 w3) := ⟨by rw [flat_append]; exact own3, by rw [List.length_append, INV.out.len]; rfl, by rw [List.append_assoc]; exact HQ.out, in64_one INV.out.in64 ⟨bf, bt1⟩, (INV.out.grew.alloc _).grown hg3 (fun q hq => (INV.out.own.lt q hq).1)⟩
        clear own3 hg3 hat3 BI INV
        go_roundw
        case rel => exact ⟨k + 1, j + 1, _, t2, A3, c3, by omega, by omega, bt2, rfl, by go_num, rfl, INV2⟩
        case measure => simp [intOf]; omega
      · have t5 : decide (fr < t1) = false := decide_eq_false huv
        have INV2 : Hid (MnInv w1 y (k + 1) R t2 Al j cl wr) := ⟨INV.out.own, INV.out.len, by have := HR.out; simp only at this; rw [if_neg huv] at this; exact this, INV.out.in64, INV.out.grew⟩
        clear huv HR INV
        go_wp2_with fail
        go_roundw
        case rel => exact ⟨k + 1, j, _, t2, Al, cl, by omega, by omega, bt2, rfl, by go_num, rfl, INV2⟩
        case measure => simp [intOf]; omega
    · have hrest := INV.out.rest
      rw [List.drop_of_length_le (by rw [HY.out.1]; omega), rcompl] at hrest
      have HR := Lib.hid hrest
      clear hrest
      by_cases huv : fr < 1152921504606846976
      · have t5 : decide (fr < 1152921504606846976) = true := decide_eq_true huv
        have HQ : Hid (R ++ [(fr, 1152921504606846976)] = rcompl (-1152921504606846976) y) := by have := HR.out; rw [if_pos huv] at this; exact this
        have hle := INV.out.grew.le
        have BI : Hid (Sl (wr.alloc (.cells #[.int .i64 fr, .int .i64 1152921504606846976] 33)) 2 (some ⟨wr.heap.size, 0, none⟩) 1 1 (flat [(fr, 1152921504606846976)])) := built 2 1 _ _ rfl rfl (by decide)
        clear huv HR
        go_wp2_with (at_builtin; refine wpList_append_sl _ rfl (.tmp 41) (.tmp 44) 22 rfl w1.heap.size 33 i0 (.agg #[.int .i64 0, .int .i64 0]) 2 16 Try.underlying22 hi hz0 hz1 hz2 rfl (by decide) (.slice Al j cl) j _ rfl (INV.out.own.alloc _) (some ⟨wr.heap.size, 0, none⟩) 1 1 _ rfl BI.out (flat_one _) (by unfold maxLen; omega) (by omega) (by simp; omega) ?_; intro v3 w3 own3 hg3 hat3; obtain ⟨A3, c3, rfl⟩ := own_form own3)
        have g13 : Grew w1 w3 := (INV.out.grew.alloc _).grown hg3 (fun q hq => (INV.out.own.lt q hq).1)
        have SP : Hid (Spans w3 A3 (j + 1) c3 (rcompl (-1152921504606846976) y)) := by
          unfold Hid; rw [← HQ.out]; exact Spans.own (by rw [List.length_append, INV.out.len]; rfl) (in64_one INV.out.in64 ⟨bf, by simp⟩) (by rw [flat_append]; exact own3)
        clear own3 hg3 hat3 BI INV
        refine (rmeet_val (HA.out.grew (g1.trans g13)) SP.out (by omega) (by omega) HU.out).mono ?_
        rintro e2 w5 ⟨A5, n5, c5, rfl, s5, g5⟩
        go_wp2_with fail
        go_ret
        exact ⟨A5, n5, c5, rfl, s5, (g1.trans g13).trans g5⟩
      · have t5 : decide (fr < 1152921504606846976) = false := decide_eq_false huv
        have SP : Hid (Spans wr Al j cl (rcompl (-1152921504606846976) y)) := by
          unfold Hid; have := HR.out; rw [if_neg huv, List.append_nil] at this; rw [← this]; exact Spans.own INV.out.len INV.out.in64 INV.out.own
        clear huv HR
        go_wp2_with fail
        refine (rmeet_val (HA.out.grew (g1.trans INV.out.grew)) SP.out (by omega) (by omega) HU.out).mono ?_
        rintro e2 w5 ⟨A5, n5, c5, rfl, s5, g5⟩
        go_wp2_with fail
        go_ret
        exact ⟨A5, n5, c5, rfl, s5, (g1.trans INV.out.grew).trans g5⟩
end Go.Proofs.Ytngbkpplkkpagaa
