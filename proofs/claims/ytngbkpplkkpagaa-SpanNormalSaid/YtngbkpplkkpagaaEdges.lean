/-
  span.edges.
-/
import Derived.Test.YtngbkpplkkpagaaEdge
namespace Go.Proofs.Ytngbkpplkkpagaa
open Go.RowKit Go.Proofs WageMem WageSpan

theorem info51 : (Try.prog.info? 51).map (fun i => (i.zero, i.size, i.bytes)) = some (some (.agg #[.int .i64 0, .int .i64 0, .int .i64 0]), 3, 24) := by kernel_rfl
theorem info33 : (Try.prog.info? 33).map (fun i => (i.zero, i.size, i.bytes)) = some (some (.agg #[.int .i64 0, .int .i64 0]), 2, 16) := by kernel_rfl
/-- A block that was just laid, as a slice. -/
theorem built {w : World} {t : TypeId} (size n : Nat) (cs : Array Value) (xs : List Value) (h : cs = xs.toArray) (hn : xs.length = n * size) (hm : n ≤ 1000) : Sl (w.alloc (.cells cs t)) size (some ⟨w.heap.size, 0, none⟩) n n xs := by
  subst h
  refine ⟨Nat.le_refl _, by unfold maxLen; omega, hn, fun _ => ⟨w.heap.size, 0, rfl, fun j u hu => ?_⟩, fun h => by cases h⟩
  rw [blk_cell (heap_alloc_new w _), Nat.zero_add]
  simpa using hu
theorem edTo {a : List Sp} {k : Nat} {s : Sp} (h : a[k]? = some s) (f : Sp → List Ed) : (a.take (k + 1)).flatMap f = (a.take k).flatMap f ++ f s := by
  rw [List.take_add_one, h, List.flatMap_append]; simp
theorem flatE_append (l k : List Ed) : flatE (l ++ k) = flatE l ++ flatE k := by unfold flatE; rw [List.flatMap_append]
theorem ed_len {f : Sp → List Ed} (hf : ∀ s, (f s).length ≤ 2) : ∀ l : List Sp, (l.flatMap f).length ≤ l.length * 2
  | [] => by simp
  | s :: l => by
    have := hf s
    have := ed_len hf l
    simp only [List.flatMap_cons, List.length_append, List.length_cons]; omega
theorem edF_le (s : Sp) : (edF s).length ≤ 2 := by unfold edF; split <;> simp
theorem edS_le (s : Sp) : (edS s).length ≤ 2 := by unfold edS; split <;> simp

/-- What the loops of edges keep. -/
structure EdInv (w : World) (E : List Ed) (Al : Option Addr) (j cl : Nat) (W : World) : Prop where
  own : W.ownsRow w.heap.size 51 3 (.slice Al j cl) j (flatE E)
  len : E.length = j
  grew : Grew w W

def RetE (E : List Ed) (w : World) (r : Ending) (w' : World) : Prop := ∃ (A : Option Addr) (m c : Nat) (E' : List Ed), r = .returned (.slice A m c) ∧ E'.Perm E ∧ SortedE E' ∧ Edges w' A m E' ∧ m ≤ 100000 ∧ Grew w w'

set_option maxRecDepth 100000 in
set_option maxHeartbeats 4000000 in
theorem edges_any (A B : Option Addr) (n m c e : Nat) (a b : List Sp) (w : World) (ha : Spans w A n c a) (hb : Spans w B m e b) (hn : n ≤ 2000) (hm : m ≤ 2000) :
    Calls Try.prog 39 #[.slice A n c, .slice B m e] w (RetE (edges a b) w) := by
  obtain ⟨i0, hi, hz0, hz1, hz2⟩ := info_parts info51
  have HA := Lib.hid ha
  have HB := Lib.hid hb
  clear ha hb
  go_enter Try.func39, Try.ntmps39
  go_wp2_with fail
  go_loopw [5, 12] (fun v i wr => ∃ (k : Nat) (Al : Option Addr) (j cl : Nat), k ≤ n ∧ j ≤ k * 2 ∧ i = .int .i64 k ∧ v = .slice Al j cl ∧ Hid (EdInv w ((a.take k).flatMap edF) Al j cl wr)) (fun _ i _ => n - (intOf i).toNat)
  case atStart => exact ⟨0, none, 0, 0, Nat.zero_le _, Nat.zero_le _, rfl, rfl, ⟨World.ownsRow_nil _ _ _ _, rfl, Grew.refl _⟩⟩
  case round =>
    obtain ⟨k, Al, j, cl, hk, hj, rfl, rfl, INV⟩ := hrel
    by_cases hlt : k < n
    · obtain ⟨b0, o0, s, rfl, hs, c1, c2, b1, b2⟩ := (HA.out.grew INV.out.grew).at_ hlt
      have hed := edTo hs edF
      obtain ⟨s1, s2⟩ := s
      simp only at c1 c2 b1 b2
      have HED := Lib.hid hed
      have i0' : (0 : Int) ≤ (k : Int) := by omega
      have i1' : (k : Int) < (n : Int) := by omega
      clear hs hed
      obtain ⟨wa, hwa⟩ : ∃ x, x = wr.alloc (.cells #[.int .i64 s1, .int .i64 s2] 33) := ⟨_, rfl⟩
      have ga : Grew wr wa := by rw [hwa]; exact (Grew.refl wr).alloc _
      have e1 : wa.cell? ⟨wr.heap.size, 0, none⟩ = some (.int .i64 s1) := by rw [hwa]; simp
      have e2 : wa.cell? ⟨wr.heap.size, 1, none⟩ = some (.int .i64 s2) := by rw [hwa]; simp
      cases hp : properB (s1, s2) with
      | false =>
        have HP := Lib.hid hp
        have HX : Hid ((a.take (k + 1)).flatMap edF = (a.take k).flatMap edF) := by unfold Hid; rw [HED.out]; unfold edF; rw [hp]; simp
        clear hp
        go_wp2_with fail
        rw [← hwa]
        clear hwa
        refine (proper_val HP.out _).mono ?_
        rintro e w2 ⟨rfl, g2⟩
        have INV2 : Hid (EdInv w ((a.take (k + 1)).flatMap edF) Al j cl w2) := by unfold Hid; rw [HX.out]; exact ⟨own_grew INV.out.own (ga.trans g2), INV.out.len, INV.out.grew.trans (ga.trans g2)⟩
        clear ga g2 INV
        go_wp2_with fail
        go_roundw
        case rel => exact ⟨k + 1, Al, j, cl, by omega, by omega, by go_num, rfl, INV2⟩
        case measure => simp [intOf]; omega
      | true =>
        have HP := Lib.hid hp
        have HX : Hid ((a.take (k + 1)).flatMap edF = (a.take k).flatMap edF ++ [⟨s1, 1, 0⟩, ⟨s2, -1, 0⟩]) := by unfold Hid; rw [HED.out]; unfold edF; rw [hp]; simp
        clear hp
        go_wp2_with fail
        rw [← hwa]
        clear hwa
        refine (proper_val HP.out _).mono ?_
        rintro e w2 ⟨rfl, g2⟩
        replace e1 := g2.cell e1
        replace e2 := g2.cell e2
        have g02 := INV.out.grew.trans (ga.trans g2)
        have O2 := Lib.hid (own_grew INV.out.own (ga.trans g2))
        have hle := g02.le
        have BI : Hid (Sl (w2.alloc (.cells #[.int .i64 s1, .int .i64 1, .int .i64 0, .int .i64 s2, .int .i64 (-1), .int .i64 0] 51)) 3 (some ⟨w2.heap.size, 0, none⟩) 2 2 (flatE [⟨s1, 1, 0⟩, ⟨s2, -1, 0⟩])) := built 3 2 _ _ rfl rfl (by decide)
        go_wp2_with (at_builtin; refine wpList_append_sl _ rfl (.tmp 18) (.tmp 25) 48 rfl w.heap.size 51 i0 (.agg #[.int .i64 0, .int .i64 0, .int .i64 0]) 3 24 Try.underlying48 hi hz0 hz1 hz2 rfl (by decide) (.slice Al j cl) j _ rfl (O2.out.alloc _) (some ⟨w2.heap.size, 0, none⟩) 2 2 _ rfl BI.out (flatE_one _) (by unfold maxLen; omega) (by omega) (by simp; omega) ?_; intro v3 w3 own3 hg3 hat3; obtain ⟨A3, c3, rfl⟩ := own_form own3)
        have INV2 : Hid (EdInv w ((a.take (k + 1)).flatMap edF) A3 (j + 2) c3 w3) := by
          unfold Hid
          rw [HX.out]
          exact ⟨by rw [flatE_append]; exact own3, by rw [List.length_append, INV.out.len]; rfl, (g02.alloc _).grown hg3 (fun q hq => (O2.out.lt q hq).1)⟩
        clear ga g2 INV own3 hg3 hat3 BI O2 e1 e2
        go_roundw
        case rel => exact ⟨k + 1, A3, j + 2, c3, by omega, by omega, by go_num, rfl, INV2⟩
        case measure => simp [intOf]; omega
    · obtain rfl : k = n := by omega
      have INV1 : Hid (EdInv w (a.flatMap edF ++ (b.take 0).flatMap edS) Al j cl wr) := by
        have := INV.out
        rw [List.take_of_length_le (by rw [HA.out.1]; omega)] at this
        unfold Hid
        rw [List.take_zero]
        simpa using this
      obtain ⟨wo, rfl⟩ : ∃ wo : World, wo = wr := ⟨_, rfl⟩
      have hj4 : j ≤ 4000 := by omega
      clear INV
      go_wp2_with fail
      go_loopw [5, 30] (fun v i wr => ∃ (k : Nat) (Al : Option Addr) (j cl : Nat), k ≤ m ∧ j ≤ 4000 + k * 2 ∧ i = .int .i64 k ∧ v = .slice Al j cl ∧ Hid (EdInv w (a.flatMap edF ++ (b.take k).flatMap edS) Al j cl wr)) (fun _ i _ => m - (intOf i).toNat)
      case atStart => exact ⟨0, Al, j, cl, Nat.zero_le _, by omega, rfl, rfl, INV1⟩
      case round =>
        clear INV1
        obtain ⟨k2, Al, j, cl, hk2, hj, rfl, rfl, INV⟩ := hrel
        by_cases hlt2 : k2 < m
        · obtain ⟨b0, o0, s, rfl, hs, c1, c2, b1, b2⟩ := (HB.out.grew INV.out.grew).at_ hlt2
          have hed := edTo hs edS
          obtain ⟨s1, s2⟩ := s
          simp only at c1 c2 b1 b2
          have HED := Lib.hid hed
          have i0' : (0 : Int) ≤ (k2 : Int) := by omega
          have i1' : (k2 : Int) < (m : Int) := by omega
          clear hs hed
          obtain ⟨wa, hwa⟩ : ∃ x, x = wr.alloc (.cells #[.int .i64 s1, .int .i64 s2] 33) := ⟨_, rfl⟩
          have ga : Grew wr wa := by rw [hwa]; exact (Grew.refl wr).alloc _
          have e1 : wa.cell? ⟨wr.heap.size, 0, none⟩ = some (.int .i64 s1) := by rw [hwa]; simp
          have e2 : wa.cell? ⟨wr.heap.size, 1, none⟩ = some (.int .i64 s2) := by rw [hwa]; simp
          cases hp : properB (s1, s2) with
          | false =>
            have HP := Lib.hid hp
            have HX : Hid (a.flatMap edF ++ (b.take (k2 + 1)).flatMap edS = a.flatMap edF ++ (b.take k2).flatMap edS) := by unfold Hid; rw [HED.out]; unfold edS; rw [hp]; simp
            clear hp
            go_wp2_with fail
            rw [← hwa]
            clear hwa
            refine (proper_val HP.out _).mono ?_
            rintro e w2 ⟨rfl, g2⟩
            have INV2 : Hid (EdInv w (a.flatMap edF ++ (b.take (k2 + 1)).flatMap edS) Al j cl w2) := by unfold Hid; rw [HX.out]; exact ⟨own_grew INV.out.own (ga.trans g2), INV.out.len, INV.out.grew.trans (ga.trans g2)⟩
            clear ga g2 INV
            go_wp2_with fail
            go_roundw
            case rel => exact ⟨k2 + 1, Al, j, cl, by omega, by omega, by go_num, rfl, INV2⟩
            case measure => simp [intOf]; omega
          | true =>
            have HP := Lib.hid hp
            have HX : Hid (a.flatMap edF ++ (b.take (k2 + 1)).flatMap edS = (a.flatMap edF ++ (b.take k2).flatMap edS) ++ [⟨s1, 0, 1⟩, ⟨s2, 0, -1⟩]) := by unfold Hid; rw [HED.out]; unfold edS; rw [hp]; simp
            clear hp
            go_wp2_with fail
            rw [← hwa]
            clear hwa
            refine (proper_val HP.out _).mono ?_
            rintro e w2 ⟨rfl, g2⟩
            replace e1 := g2.cell e1
            replace e2 := g2.cell e2
            have g02 := INV.out.grew.trans (ga.trans g2)
            have O2 := Lib.hid (own_grew INV.out.own (ga.trans g2))
            have hle := g02.le
            have BI : Hid (Sl (w2.alloc (.cells #[.int .i64 s1, .int .i64 0, .int .i64 1, .int .i64 s2, .int .i64 0, .int .i64 (-1)] 51)) 3 (some ⟨w2.heap.size, 0, none⟩) 2 2 (flatE [⟨s1, 0, 1⟩, ⟨s2, 0, -1⟩])) := built 3 2 _ _ rfl rfl (by decide)
            go_wp2_with (at_builtin; refine wpList_append_sl _ rfl (.tmp 36) (.tmp 43) 48 rfl w.heap.size 51 i0 (.agg #[.int .i64 0, .int .i64 0, .int .i64 0]) 3 24 Try.underlying48 hi hz0 hz1 hz2 rfl (by decide) (.slice Al j cl) j _ rfl (O2.out.alloc _) (some ⟨w2.heap.size, 0, none⟩) 2 2 _ rfl BI.out (flatE_one _) (by unfold maxLen; omega) (by omega) (by simp; omega) ?_; intro v3 w3 own3 hg3 hat3; obtain ⟨A3, c3, rfl⟩ := own_form own3)
            have INV2 : Hid (EdInv w (a.flatMap edF ++ (b.take (k2 + 1)).flatMap edS) A3 (j + 2) c3 w3) := by
              unfold Hid
              rw [HX.out]
              exact ⟨by rw [flatE_append]; exact own3, by rw [List.length_append, INV.out.len]; rfl, (g02.alloc _).grown hg3 (fun q hq => (O2.out.lt q hq).1)⟩
            clear ga g2 INV own3 hg3 hat3 BI O2 e1 e2
            go_roundw
            case rel => exact ⟨k2 + 1, A3, j + 2, c3, by omega, by omega, by go_num, rfl, INV2⟩
            case measure => simp [intOf]; omega
        · obtain rfl : k2 = m := by omega
          have INV2 : Hid (EdInv w (edges a b) Al j cl wr) := by
            have := INV.out
            rw [List.take_of_length_le (by rw [HB.out.1]; omega)] at this
            exact this
          have hj8 : j ≤ 8000 := by omega
          clear INV
          rcases Al with _ | ad
          · have hc0 : j = 0 ∧ cl = 0 := (Sl.own INV2.out.own).2.2.2.2 rfl
            obtain ⟨rfl, rfl⟩ := hc0
            have hE : Hid (edges a b = []) := List.eq_nil_of_length_eq_zero INV2.out.len
            go_wp2_with fail
            refine (sortBy_none _ _).mono ?_
            rintro e w2 ⟨rfl, g2⟩
            go_wp2_with fail
            go_ret
            rw [hE.out]
            exact ⟨none, 0, 0, [], rfl, List.Perm.refl _, List.Pairwise.nil, ⟨rfl, fun h => absurd h (by decide)⟩, by decide, INV2.out.grew.trans g2⟩
          · obtain ⟨g, hg1, hg2, hg3⟩ : ∃ g, some ad = some ⟨g, 0, none⟩ ∧ w.heap.size ≤ g ∧ g < wr.heap.size := by
              rcases INV2.out.own.2 with ⟨hv, _⟩ | ⟨g, cap, cur, hv, hb, hg, _⟩
              · cases hv
              · injection hv with hv
                exact ⟨g, hv, hb, (Array.getElem?_eq_some_iff.1 hg).1⟩
            injection hg1 with hg1
            subst hg1
            go_wp2_with fail
            refine (sortBy_some g j cl (edges a b) _ INV2.out.own INV2.out.len (by omega) w INV2.out.grew hg2 hg3).mono ?_
            rintro e w2 ⟨rfl, E', p1, p2, p3, p4⟩
            have Q1 := Lib.hid p1
            have Q2 := Lib.hid p2
            have Q3 := Lib.hid p3
            have Q4 := Lib.hid p4
            clear p1 p2 p3 p4 INV2
            go_wp2_with fail
            go_ret
            exact ⟨_, j, cl, E', rfl, Q1.out, Q2.out, Q3.out, by omega, Q4.out⟩
end Go.Proofs.Ytngbkpplkkpagaa
