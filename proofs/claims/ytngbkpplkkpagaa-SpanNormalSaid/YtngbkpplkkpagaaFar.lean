/-
  The law's functions far and moved; a list that is put together of two.
-/
import Derived.Test.YtngbkpplkkpagaaHead
namespace Go.Proofs.Ytngbkpplkkpagaa
open Go.RowKit Go.Proofs WageMem WageSpan

def farB (a b : Int) : Bool := decide (-4611686018427387904 < a ∧ a < 4611686018427387904 ∧ -4611686018427387904 < b ∧ b < 4611686018427387904)
theorem far_iff {a b : Int} : farB a b = true ↔ -4611686018427387904 < a ∧ a < 4611686018427387904 ∧ -4611686018427387904 < b ∧ b < 4611686018427387904 := by unfold farB; exact decide_eq_true_iff
theorem far_any (a b : Int) (w : World) : Calls Try.prog 27 #[.agg #[.int .i64 a, .int .i64 b]] w fun e w' => e = .returned (.bool (farB a b)) ∧ Grew w w' := by
  have hc : (decide (-4611686018427387904 < a) = false ∧ farB a b = false) ∨ (decide (-4611686018427387904 < a) = true ∧ decide (a < 4611686018427387904) = false ∧ farB a b = false) ∨ (decide (-4611686018427387904 < a) = true ∧ decide (a < 4611686018427387904) = true ∧ decide (-4611686018427387904 < b) = false ∧ farB a b = false) ∨
      (decide (-4611686018427387904 < a) = true ∧ decide (a < 4611686018427387904) = true ∧ decide (-4611686018427387904 < b) = true ∧ farB a b = decide (b < 4611686018427387904)) := by
    by_cases h1 : -4611686018427387904 < a
    · by_cases h2 : a < 4611686018427387904
      · by_cases h3 : -4611686018427387904 < b
        · refine .inr (.inr (.inr ⟨decide_eq_true h1, decide_eq_true h2, decide_eq_true h3, ?_⟩))
          unfold farB; rw [decide_eq_decide]; omega
        · refine .inr (.inr (.inl ⟨decide_eq_true h1, decide_eq_true h2, decide_eq_false h3, ?_⟩))
          unfold farB; rw [decide_eq_false_iff_not]; omega
      · refine .inr (.inl ⟨decide_eq_true h1, decide_eq_false h2, ?_⟩)
        unfold farB; rw [decide_eq_false_iff_not]; omega
    · refine .inl ⟨decide_eq_false h1, ?_⟩
      unfold farB; rw [decide_eq_false_iff_not]; omega
  rcases hc with ⟨h1, h2⟩ | ⟨h1, h2, h3⟩ | ⟨h1, h2, h3, h4⟩ | ⟨h1, h2, h3, h4⟩
  · rw [h2]
    clear h2
    go_enter Try.func27, Try.ntmps27
    go_wp2
    go_ret
    exact ⟨rfl, (Grew.refl w).alloc _⟩
  · rw [h3]
    clear h3
    go_enter Try.func27, Try.ntmps27
    go_wp2
    go_ret
    exact ⟨rfl, (Grew.refl w).alloc _⟩
  · rw [h4]
    clear h4
    go_enter Try.func27, Try.ntmps27
    go_wp2
    go_ret
    exact ⟨rfl, (Grew.refl w).alloc _⟩
  · rw [h4]
    clear h4
    go_enter Try.func27, Try.ntmps27
    go_wp2
    go_ret
    exact ⟨rfl, (Grew.refl w).alloc _⟩
theorem far_val {a b : Int} {t : Bool} (h : farB a b = t) (w : World) : Calls Try.prog 27 #[.agg #[.int .i64 a, .int .i64 b]] w fun e w' => e = .returned (.bool t) ∧ Grew w w' := by
  subst h; exact far_any a b w

theorem in64_append {l k : List Sp} (h : In64 l) (h' : In64 k) : In64 (l ++ k) := fun s hs => by
  rcases List.mem_append.1 hs with hs | hs
  · exact h s hs
  · exact h' s hs

set_option maxHeartbeats 4000000 in
theorem moved_any (A : Option Addr) (n c : Nat) (ss : List Sp) (k : Int) (w : World) (h : Spans w A n c ss) (hn : n ≤ 2000) (hb : Near ss) (k0 : -1125899906842624 ≤ k) (k1 : k ≤ 1125899906842624) :
    Calls Try.prog 29 #[.slice A n c, .int .i64 k] w (RetR (shift ss k) w) := by
  obtain ⟨i0, hi, hz0, hz1, hz2⟩ := info_parts info33
  have HH := Lib.hid h
  have HN := Lib.hid hb
  clear h hb
  go_enter Try.func29, Try.ntmps29
  go_wp2_with fail
  go_loopw [5, 10] (fun v i wr => ∃ (j : Nat) (Al : Option Addr) (cl : Nat), j ≤ n ∧ i = .int .i64 j ∧ v = .slice Al j cl ∧ Hid (wr.ownsRow w.heap.size 33 2 (.slice Al j cl) j (flat (shift (ss.take j) k))) ∧ Grew w wr) (fun _ i _ => n - (intOf i).toNat)
  case atStart => exact ⟨0, none, 0, Nat.zero_le _, rfl, rfl, World.ownsRow_nil _ _ _ _, Grew.refl _⟩
  case round =>
    obtain ⟨j, Al, cl, hj, rfl, rfl, OWN, hg⟩ := hrel
    by_cases hlt : j < n
    · obtain ⟨b, o, s, rfl, hs, c1, c2, b1, b2⟩ := (HH.out.grew hg).at_ hlt
      have hnr := HN.out s (List.mem_of_getElem? hs)
      have HT : Hid (flat (shift (ss.take (j + 1)) k) = flat (shift (ss.take j) k) ++ flat [(s.1 + k, s.2 + k)]) := by
        unfold Hid shift
        rw [List.take_add_one, hs, List.map_append, flat_append]; rfl
      obtain ⟨s1, s2⟩ := s
      simp only at c1 c2 b1 b2 hnr HT
      have i0' : (0 : Int) ≤ (j : Int) := by omega
      have i1' : (j : Int) < (n : Int) := by omega
      have hle := hg.le
      obtain ⟨wa, hwa⟩ : ∃ x, x = wr.alloc (.cells #[.int .i64 s1, .int .i64 s2] 33) := ⟨_, rfl⟩
      have ga : Grew wr wa := by rw [hwa]; exact (Grew.refl wr).alloc _
      have e1 : wa.cell? ⟨wr.heap.size, 0, none⟩ = some (.int .i64 s1) := by rw [hwa]; simp
      have e2 : wa.cell? ⟨wr.heap.size, 1, none⟩ = some (.int .i64 s2) := by rw [hwa]; simp
      have hle2 := ga.le
      clear hs
      go_upto_region 5 with (fail)
      rw [← hwa]
      clear hwa c1 c2
      have BI : Hid (Sl (wa.alloc (.cells #[.int .i64 (s1 + k), .int .i64 (s2 + k)] 33)) 2 (some ⟨wa.heap.size, 0, none⟩) 1 1 (flat [(s1 + k, s2 + k)])) := built 2 1 _ _ rfl rfl (by decide)
      go_wp2_with (at_builtin; refine wpList_append_sl _ rfl (.tmp 14) (.tmp 24) 22 rfl w.heap.size 33 i0 (.agg #[.int .i64 0, .int .i64 0]) 2 16 Try.underlying22 hi hz0 hz1 hz2 rfl (by decide) (.slice Al j cl) j _ rfl ((own_grew OWN.out ga).alloc _) (some ⟨wa.heap.size, 0, none⟩) 1 1 _ rfl BI.out (flat_one _) (by unfold maxLen; omega) (by omega) (by simp; omega) ?_; intro v3 w3 own3 hg3 hat3; obtain ⟨A3, c3, rfl⟩ := own_form own3)
      have OWN3 : Hid (w3.ownsRow w.heap.size 33 2 (.slice A3 (j + 1) c3) (j + 1) (flat (shift (ss.take (j + 1)) k))) := by unfold Hid; rw [HT.out]; exact own3
      have hg3' : Grew w w3 := ((hg.trans ga).alloc _).grown hg3 (fun q hq => (OWN.out.lt q hq).1)
      clear own3 hg3 hat3 OWN BI e1 e2 ga
      go_roundw
      case rel => exact ⟨j + 1, A3, c3, by omega, by go_num, rfl, OWN3, hg3'⟩
      case measure => simp [intOf]; omega
    · obtain rfl : j = n := by omega
      have HF : Hid (wr.ownsRow w.heap.size 33 2 (.slice Al j cl) j (flat (shift ss k))) := by
        have := OWN.out
        rw [List.take_of_length_le (by rw [HH.out.1]; omega)] at this
        exact this
      have HI : Hid (In64 (shift ss k)) := by
        intro s hs
        unfold shift at hs
        obtain ⟨x, hx, rfl⟩ := List.mem_map.1 hs
        have := HN.out x hx
        exact ⟨by simp only; omega, by simp only; omega⟩
      have HLn : Hid ((shift ss k).length = j) := by unfold Hid shift; rw [List.length_map]; exact HH.out.1
      go_wp2_with fail
      go_ret
      exact ⟨Al, j, cl, rfl, Spans.own HLn.out HI.out HF.out, hg⟩
theorem moved_val {A : Option Addr} {n c : Nat} {ss : List Sp} {k : Int} {w : World} {r : List Sp} (h : Spans w A n c ss) (hn : n ≤ 2000) (hb : Near ss) (k0 : -1125899906842624 ≤ k) (k1 : k ≤ 1125899906842624) (hr : shift ss k = r) :
    Calls Try.prog 29 #[.slice A n c, .int .i64 k] w (RetR r w) := by subst hr; exact moved_any A n c ss k w h hn hb k0 k1
end Go.Proofs.Ytngbkpplkkpagaa
