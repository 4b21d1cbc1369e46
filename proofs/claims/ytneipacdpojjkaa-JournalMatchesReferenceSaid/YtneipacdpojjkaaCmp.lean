/-
  The comparisons of the journal's laws: Same, SameAll, same.
-/
import Derived.Test.YtneipacdpojjkaaRecs
namespace Go.Proofs.Ytneipacdpojjkaa
open Go.RowKit Go.Proofs WageMem WageDisk


set_option maxHeartbeats 2000000 in
theorem jsame_any (A B : Option Addr) (n m c e : Nat) (xs ys : List UInt8) (w : World) (ha : Bytes w A n c xs) (hb : Bytes w B m e ys) :
    Calls Try.prog 41 #[.slice A n c, .slice B m e] w fun r w' => r = .returned (.bool (decide (xs = ys))) ∧ ∃ q, w' = w.drewN q := by
  have hn := ha.1
  have hm := hb.1
  have hnm : n ≤ 9223372036854775807 := Nat.le_trans ha.2.1 ha.2.2.1
  by_cases hne : n = m
  · subst hne
    have hln : Hid (xs.length = n) := hn
    have hlm : Hid (ys.length = n) := hm
    have t0 : ((n : Int) != (n : Int)) = false := by simp
    clear hn hm
    go_enter Try.func41, Try.ntmps41
    go_wp2
    go_loopw [5] (fun i wr => ∃ k : Nat, k ≤ n ∧ i = .int .i64 k ∧ xs.take k = ys.take k ∧ ∃ q, wr = w.drewN q) (fun i _ => n - (intOf i).toNat)
    case atStart => exact ⟨0, Nat.zero_le _, rfl, rfl, 0, rfl⟩
    case round =>
      obtain ⟨k, hk, rfl, heq, q, rfl⟩ := hrel
      have HE := Lib.hid heq
      clear heq
      by_cases hlt : k < n
      · obtain ⟨x, hx⟩ : ∃ x, xs[k]? = some x := ⟨_, List.getElem?_eq_getElem (by rw [hln.out]; exact hlt)⟩
        obtain ⟨y, hy⟩ : ∃ y, ys[k]? = some y := ⟨_, List.getElem?_eq_getElem (by rw [hlm.out]; exact hlt)⟩
        obtain ⟨b1, o1, rfl, hc1⟩ := ha.at_ (by omega)
        obtain ⟨b2, o2, rfl, hc2⟩ := hb.at_ (by omega)
        have c1 := hc1 k x hx
        have c2 := hc2 k y hy
        have HX := Lib.hid hx
        have HY := Lib.hid hy
        clear hc1 hc2 hx hy
        have i0 : (0 : Int) ≤ (k : Int) := by omega
        have i1 : (k : Int) < (n : Int) := by omega
        by_cases hxy : x = y
        · have tt : (((x.toNat : Nat) : Int) != ((y.toNat : Nat) : Int)) = false := by rw [hxy]; simp
          have HXY := Lib.hid hxy
          clear hxy
          go_wp2_with fail
          go_quiet (fail)
          go_wp2_with fail
          go_roundw
          case rel => exact ⟨k + 1, by omega, by go_num, take_eq_succ HX.out HY.out HE.out HXY.out, _, rfl⟩
          case measure => simp [intOf]; omega
        · have tt : (((x.toNat : Nat) : Int) != ((y.toNat : Nat) : Int)) = true := by
            rw [bne_iff_ne]; intro h; apply hxy; exact UInt8.toNat_inj.1 (by omega)
          have HNE : Hid (xs ≠ ys) := by unfold Hid; intro h; rw [h, HY.out] at HX; have := HX.out; injection this with this; exact hxy this.symm
          clear hxy
          go_wp2_with fail
          go_quiet (fail)
          go_wp2_with fail
          go_ret
          exact ⟨by rw [decide_eq_false HNE.out]; rfl, _, World.drewN_drewN _ _ _⟩
      · obtain rfl : k = n := by omega
        have hfin : Hid (xs = ys) := by
          have := HE.out
          rw [List.take_of_length_le (by rw [hln.out]; omega), List.take_of_length_le (by rw [hlm.out]; omega)] at this
          exact this
        go_wp2_with fail
        go_ret
        exact ⟨by rw [decide_eq_true hfin.out]; rfl, _, rfl⟩
  · have t0 : ((n : Int) != (m : Int)) = true := by rw [bne_iff_ne]; omega
    have HNE : Hid (xs ≠ ys) := by unfold Hid; intro h; rw [h] at hn; omega
    clear hn hm
    go_enter Try.func41, Try.ntmps41
    go_wp2
    go_ret
    exact ⟨by rw [decide_eq_false HNE.out]; rfl, 0, rfl⟩


theorem jsame_eq {A B : Option Addr} {n m c e : Nat} {xs ys : List UInt8} {w : World} (ha : Bytes w A n c xs) (hb : Bytes w B m e ys) (h : xs = ys) :
    Calls Try.prog 41 #[.slice A n c, .slice B m e] w fun r w' => r = .returned (.bool true) ∧ ∃ q, w' = w.drewN q := by
  have := jsame_any A B n m c e xs ys w ha hb
  rw [decide_eq_true h] at this
  exact this
theorem jsame_ok {A B : Option Addr} {n m c e : Nat} {xs ys : List UInt8} {w : World} (ha : Bytes w A n c xs) (hb : Bytes w B m e ys) (h : xs = ys) :
    Calls Try.prog 41 #[.slice A n c, .slice B m e] w fun r w' => r = .returned (.bool true) ∧ Grew w w' :=
  (jsame_eq ha hb h).mono fun _ _ ⟨e, q, hq⟩ => ⟨e, by rw [hq]; exact (Grew.refl w).drewN q⟩
theorem jsame_val {A B : Option Addr} {n m c e : Nat} {xs ys : List UInt8} {w : World} (ha : Bytes w A n c xs) (hb : Bytes w B m e ys) {t : Bool} (h : decide (xs = ys) = t) (a : Nat) :
    Calls Try.prog 41 #[.slice A n c, .slice B m e] (w.drewN a) fun r w' => r = .returned (.bool t) ∧ ∃ q, w' = w.drewN q := by
  subst h
  exact (jsame_any A B n m c e xs ys (w.drewN a) (ha.grew ((Grew.refl w).drewN a)) (hb.grew ((Grew.refl w).drewN a))).mono fun _ _ ⟨e, q, hq⟩ => ⟨e, a + q, by rw [hq, World.drewN_drewN]⟩
theorem jsame_quiet {A B : Option Addr} {n m c e : Nat} {xs ys : List UInt8} {w : World} (ha : Bytes w A n c xs) (hb : Bytes w B m e ys) (h : xs = ys) (a : Nat) :
    Calls Try.prog 41 #[.slice A n c, .slice B m e] (w.drewN a) fun r w' => r = .returned (.bool true) ∧ ∃ q, w' = w.drewN q :=
  (jsame_eq (w := w.drewN a) (ha.grew ((Grew.refl w).drewN a)) (hb.grew ((Grew.refl w).drewN a)) h).mono fun _ _ ⟨e, q, hq⟩ => ⟨e, a + q, by rw [hq, World.drewN_drewN]⟩

set_option maxRecDepth 100000 in
set_option maxHeartbeats 4000000 in
theorem jsameD {v u : Value} {d : Ds} {w : World} (h : Disk w v d) (h' : Disk w u d) :
    Calls Try.prog 38 #[v, u] w fun e w' => e = .returned (.bool true) ∧ Grew w w' := by
  obtain ⟨A, n, c, A', n', c', rfl, hB, hW⟩ := h.form
  obtain ⟨A1, n1, c1, A1', n1', c1', rfl, hB1, hW1⟩ := h'.form
  obtain rfl : n1 = n := by have := hB.1; have := hB1.1; omega
  obtain rfl : n1' = n' := by have := hW.1; have := hW1.1; omega
  have hnm : n1' ≤ 9223372036854775807 := Nat.le_trans hW.2.1 hW.2.2.1
  have HN' := Lib.hid hW.1
  have t0 : ((n1' : Int) != (n1' : Int)) = false := by simp
  go_enter Try.func38, Try.ntmps38
  go_wp2_with fail
  obtain ⟨w0, hw0⟩ : ∃ w0, w0 = (w.alloc (.cells #[.slice A n1 c, .slice A' n1' c'] 25)).alloc (.cells #[.slice A1 n1 c1, .slice A1' n1' c1'] 25) := ⟨_, rfl⟩
  have g0 : Grew w w0 := by rw [hw0]; exact ((Grew.refl w).alloc _).alloc _
  have b1 : w0.cell? ⟨w.heap.size, 1, none⟩ = some (.slice A' n1' c') := by rw [hw0]; simp
  have b2 : w0.cell? ⟨w.heap.size + 1, 1, none⟩ = some (.slice A1' n1' c1') := by rw [hw0]; simp
  rw [← hw0]
  clear hw0
  refine (jsame_ok (hB.grew g0) (hB1.grew g0) rfl).mono ?_
  rintro e w1 ⟨rfl, g1⟩
  have b1' := g1.cell b1
  have b2' := g1.cell b2
  have gg := g0.trans g1
  clear b1 b2 g0 g1
  go_wp2_with fail
  go_loopw [24] (fun i wr => ∃ k : Nat, k ≤ n1' ∧ i = .int .i64 k ∧ Grew w1 wr) (fun i _ => n1' - (intOf i).toNat)
  case atStart => exact ⟨0, Nat.zero_le _, rfl, Grew.refl _⟩
  case round =>
    obtain ⟨k, hk, rfl, hg⟩ := hrel
    have e1 := hg.cell b1'
    have e2 := hg.cell b2'
    by_cases hlt : k < n1'
    · obtain ⟨x, hx⟩ : ∃ x, d.pe[k]? = some x := ⟨_, List.getElem?_eq_getElem (by rw [HN'.out]; exact hlt)⟩
      obtain ⟨b, o, rfl, hc⟩ := (hW.grew (gg.trans hg)).2.2.2.2 (by omega)
      obtain ⟨bb, oo, rfl, hcc⟩ := (hW1.grew (gg.trans hg)).2.2.2.2 (by omega)
      obtain ⟨f1, x0, x1, Ax, nx, cx, f2, hbx⟩ := hc k x hx
      obtain ⟨f3, _, _, Ay, ny, cy, f4, hby⟩ := hcc k x hx
      have HX := Lib.hid hbx
      have HY := Lib.hid hby
      clear hc hcc hx hbx hby b1' b2'
      generalize x.off = xo at f1 f3 x0 x1
      have i0 : (0 : Int) ≤ (k : Int) := by omega
      have i1 : (k : Int) < (n1' : Int) := by omega
      have tt : (xo != xo) = false := by simp
      go_wp2_with fail
      go_quiet ((go_at_call 41; exact jsame_quiet HX.out HY.out rfl _))
      go_wp2_with fail
      go_roundw
      case rel => exact ⟨k + 1, by omega, by go_num, hg.drewN _⟩
      case measure => simp [intOf]; omega
    · go_wp2_with fail
      go_ret
      exact ⟨rfl, gg.trans hg⟩

theorem lists_at {w : World} {A : Option Addr} {n c : Nat} {ls : List (List UInt8)} (h : Lists w A n c ls) {k : Nat} (hk : k < n) :
    ∃ b o r A' n' c', A = some ⟨b, o, none⟩ ∧ ls[k]? = some r ∧ w.cell? ⟨b, o + k, none⟩ = some (.slice A' n' c') ∧ Bytes w A' n' c' r := by
  obtain ⟨b, o, e, hc⟩ := h.2.2.2.2 (by omega)
  have hl : k < ls.length := by rw [h.1]; exact hk
  obtain ⟨A', n', c', h1, h2⟩ := hc k ls[k] (List.getElem?_eq_getElem hl)
  exact ⟨b, o, ls[k], A', n', c', e, List.getElem?_eq_getElem hl, h1, h2⟩
theorem takes_eq {α : Type} {xs ys : List α} {k : Nat} {x y : α} (hx : xs[k]? = some x) (hy : ys[k]? = some y) (h : xs.take k = ys.take k) (hxy : x = y) : xs.take (k + 1) = ys.take (k + 1) := by
  rw [List.take_add_one, List.take_add_one, hx, hy, h, hxy]

set_option maxHeartbeats 4000000 in
theorem sameAll_any (A B : Option Addr) (n m c e : Nat) (xs ys : List (List UInt8)) (w : World) (ha : Lists w A n c xs) (hb : Lists w B m e ys) :
    Calls Try.prog 39 #[.slice A n c, .slice B m e] w fun r w' => r = .returned (.bool (decide (xs = ys))) ∧ Grew w w' := by
  have hn := ha.1
  have hm := hb.1
  by_cases h0 : n = m
  · subst h0
    have t0 : ((n : Int) != (n : Int)) = false := by simp
    have HA := Lib.hid ha
    have HB := Lib.hid hb
    have HN := Lib.hid hn
    have HM := Lib.hid hm
    have hmx : n ≤ 9223372036854775807 := Nat.le_trans ha.2.1 ha.2.2.1
    clear ha hb hn hm
    go_enter Try.func39, Try.ntmps39
    go_wp2_with fail
    go_loopw [5] (fun i wr => ∃ k : Nat, k ≤ n ∧ i = .int .i64 k ∧ Hid (xs.take k = ys.take k) ∧ Grew w wr) (fun i _ => n - (intOf i).toNat)
    case atStart => exact ⟨0, Nat.zero_le _, rfl, rfl, Grew.refl _⟩
    case round =>
      obtain ⟨k, hk, rfl, HE, hg⟩ := hrel
      by_cases hlt : k < n
      · obtain ⟨b, o, x, Ax, nx, cx, rfl, hx, c1, hbx⟩ := lists_at (HA.out.grew hg) hlt
        obtain ⟨b', o', y, Ay, ny, cy, rfl, hy, c2, hby⟩ := lists_at (HB.out.grew hg) hlt
        have i0 : (0 : Int) ≤ (k : Int) := by omega
        have i1 : (k : Int) < (n : Int) := by omega
        have HX := Lib.hid hbx
        have HY := Lib.hid hby
        by_cases hxy : x = y
        · have HS := Lib.hid (takes_eq hx hy HE.out hxy)
          have HQ := Lib.hid (decide_eq_true hxy)
          clear hx hy hbx hby hxy
          go_wp2_with fail
          go_quiet ((go_at_call 41; exact jsame_val HX.out HY.out HQ.out _))
          go_wp2_with fail
          go_roundw
          case rel => exact ⟨k + 1, by omega, by go_num, HS.out, hg.drewN _⟩
          case measure => simp [intOf]; omega
        · have HS : Hid (xs ≠ ys) := by
            intro h
            rw [h, hy] at hx
            injection hx with hx
            exact hxy hx.symm
          have HQ := Lib.hid (decide_eq_false hxy)
          clear hx hy hbx hby hxy
          go_wp2_with fail
          go_quiet ((go_at_call 41; exact jsame_val HX.out HY.out HQ.out _))
          go_wp2_with fail
          go_ret
          exact ⟨by rw [decide_eq_false HS.out]; rfl, hg.drewN _⟩
      · have HF : Hid (xs = ys) := by
          have := HE.out
          rw [List.take_of_length_le (by rw [HN.out]; omega), List.take_of_length_le (by rw [HM.out]; omega)] at this
          exact this
        go_wp2_with fail
        go_ret
        exact ⟨by rw [decide_eq_true HF.out]; rfl, hg⟩
  · have t0 : ((n : Int) != (m : Int)) = true := by rw [bne_iff_ne]; omega
    have HNE : Hid (xs ≠ ys) := by unfold Hid; intro h; rw [h] at hn; omega
    clear hn hm ha hb
    go_enter Try.func39, Try.ntmps39
    go_wp2
    go_ret
    exact ⟨by rw [decide_eq_false HNE.out]; rfl, Grew.refl _⟩
end Go.Proofs.Ytneipacdpojjkaa
