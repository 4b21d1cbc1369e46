/-
  span.Normal, Union, Meet, Minus, Valid, Size.
-/
import Derived.Test.YtngbkpplkkpagaaSweep
import Derived.Test.YtngbkpplkkpagaaHas
namespace Go.Proofs.Ytngbkpplkkpagaa
open Go.RowKit Go.Proofs WageMem WageSpan

theorem eg33 : ∀ args w, (callFunc 33 args).run Try.prog w = .ok (.enter 33 args) w := enters_of Try.func33 (by kernel_rfl) rfl
theorem eg35 : ∀ args w, (callFunc 35 args).run Try.prog w = .ok (.enter 35 args) w := enters_of Try.func35 (by kernel_rfl) rfl
theorem eg36 : ∀ args w, (callFunc 36 args).run Try.prog w = .ok (.enter 36 args) w := enters_of Try.func36 (by kernel_rfl) rfl
theorem eg37 : ∀ args w, (callFunc 37 args).run Try.prog w = .ok (.enter 37 args) w := enters_of Try.func37 (by kernel_rfl) rfl
theorem fst_any (x y t : Bool) (w : World) (h : fstB x y = t) : Calls Try.prog 33 #[.bool x, .bool y] w fun e w' => e = .returned (.bool t) ∧ w = w' := by
  subst h
  cases x <;> cases y <;> (go_enter Try.func33, Try.ntmps33; go_wp2; go_ret; exact ⟨rfl, rfl⟩)
theorem or_any (x y t : Bool) (w : World) (h : orB x y = t) : Calls Try.prog 35 #[.bool x, .bool y] w fun e w' => e = .returned (.bool t) ∧ w = w' := by
  subst h
  cases x <;> cases y <;> (go_enter Try.func35, Try.ntmps35; go_wp2; go_ret; exact ⟨rfl, rfl⟩)
theorem and_any (x y t : Bool) (w : World) (h : andB x y = t) : Calls Try.prog 36 #[.bool x, .bool y] w fun e w' => e = .returned (.bool t) ∧ w = w' := by
  subst h
  cases x <;> cases y <;> (go_enter Try.func36, Try.ntmps36; go_wp2; go_ret; exact ⟨rfl, rfl⟩)
theorem but_any (x y t : Bool) (w : World) (h : butB x y = t) : Calls Try.prog 37 #[.bool x, .bool y] w fun e w' => e = .returned (.bool t) ∧ w = w' := by
  subst h
  cases x <;> cases y <;> (go_enter Try.func37, Try.ntmps37; go_wp2; go_ret; exact ⟨rfl, rfl⟩)

theorem swp_len (bf : Bool → Bool → Bool) : ∀ (E : List Ed) (f s : Int) (op : Bool) (st : Int), (swp bf E f s op st).length ≤ E.length
  | [], _, _, _, _ => Nat.le_refl _
  | e :: E, f, s, op, st => by
    rw [swp]
    split
    · have := swp_len bf E (f + e.fi) (s + e.se) op st; simp; omega
    · split
      · have := swp_len bf E (f + e.fi) (s + e.se) op st; simp; omega
      · have := swp_len bf E (f + e.fi) (s + e.se) (bf (decide (0 < f + e.fi)) (decide (0 < s + e.se))) e.off
        cases op <;> simp <;> omega
theorem nf_len (bf : Bool → Bool → Bool) (a b : List Sp) : (nf bf a b).length ≤ a.length * 2 + b.length * 2 := by
  have h1 := swp_len bf (sortE (edges a b)) 0 0 false 0
  have h2 := (sortE_perm (edges a b)).length_eq
  have h3 := ed_len edF_le a
  have h4 := ed_len edS_le b
  have h5 : (edges a b).length = (a.flatMap edF).length + (b.flatMap edS).length := by unfold edges; rw [List.length_append]
  unfold nf
  omega

section
variable {A B : Option Addr} {n m c e : Nat} {a b : List Sp} {w : World}
theorem normal_any (ha : Spans w A n c a) (hn : n ≤ 2000) : Calls Try.prog 15 #[.slice A n c] w (RetS (nrm a) w) := by
  have HA := Lib.hid ha
  clear ha
  go_enter Try.func15, Try.ntmps15
  go_wp2_with fail
  refine (sweep_any 33 fstB rfl eg33 fst_any A none n 0 c 0 a [] _ HA.out Spans.none_ hn (by omega)).mono ?_
  rintro e1 w1 ⟨A1, n1, c1, rfl, h1, h2, h3, g1⟩
  go_wp2_with fail
  go_ret
  exact ⟨A1, n1, c1, rfl, h1, h2, h3, g1⟩
theorem union_any (ha : Spans w A n c a) (hb : Spans w B m e b) (hn : n ≤ 2000) (hm : m ≤ 2000) : Calls Try.prog 17 #[.slice A n c, .slice B m e] w (RetS (uni a b) w) := by
  have HA := Lib.hid ha
  have HB := Lib.hid hb
  clear ha hb
  go_enter Try.func17, Try.ntmps17
  go_wp2_with fail
  refine (sweep_any 35 orB rfl eg35 or_any A B n m c e a b _ HA.out HB.out hn hm).mono ?_
  rintro e1 w1 ⟨A1, n1, c1, rfl, h1, h2, h3, g1⟩
  go_wp2_with fail
  go_ret
  exact ⟨A1, n1, c1, rfl, h1, h2, h3, g1⟩
theorem meet_any (ha : Spans w A n c a) (hb : Spans w B m e b) (hn : n ≤ 2000) (hm : m ≤ 2000) : Calls Try.prog 19 #[.slice A n c, .slice B m e] w (RetS (meet a b) w) := by
  have HA := Lib.hid ha
  have HB := Lib.hid hb
  clear ha hb
  go_enter Try.func19, Try.ntmps19
  go_wp2_with fail
  refine (sweep_any 36 andB rfl eg36 and_any A B n m c e a b _ HA.out HB.out hn hm).mono ?_
  rintro e1 w1 ⟨A1, n1, c1, rfl, h1, h2, h3, g1⟩
  go_wp2_with fail
  go_ret
  exact ⟨A1, n1, c1, rfl, h1, h2, h3, g1⟩
theorem minus_any (ha : Spans w A n c a) (hb : Spans w B m e b) (hn : n ≤ 2000) (hm : m ≤ 2000) : Calls Try.prog 21 #[.slice A n c, .slice B m e] w (RetS (minus a b) w) := by
  have HA := Lib.hid ha
  have HB := Lib.hid hb
  clear ha hb
  go_enter Try.func21, Try.ntmps21
  go_wp2_with fail
  refine (sweep_any 37 butB rfl eg37 but_any A B n m c e a b _ HA.out HB.out hn hm).mono ?_
  rintro e1 w1 ⟨A1, n1, c1, rfl, h1, h2, h3, g1⟩
  go_wp2_with fail
  go_ret
  exact ⟨A1, n1, c1, rfl, h1, h2, h3, g1⟩
end

/-- A contract's end: a slice that reads so. -/
def RetR (ss : List Sp) (w : World) (r : Ending) (w' : World) : Prop := ∃ A n c, r = .returned (.slice A n c) ∧ Spans w' A n c ss ∧ Grew w w'
theorem RetS.read {ss : List Sp} {w : World} {r : Ending} {w' : World} (h : RetS ss w r w') : RetR ss w r w' := by
  obtain ⟨A, n, c, e, h1, h2, h3, g⟩ := h
  exact ⟨A, n, c, e, Spans.own h1 h2 h3, g⟩

section
variable {A B : Option Addr} {n m c e : Nat} {a b r : List Sp} {w : World}
theorem normal_val (ha : Spans w A n c a) (hn : n ≤ 2000) (h : nrm a = r) : Calls Try.prog 15 #[.slice A n c] w (RetR r w) := by subst h; exact (normal_any ha hn).mono fun _ _ h => h.read
theorem union_val (ha : Spans w A n c a) (hb : Spans w B m e b) (hn : n ≤ 2000) (hm : m ≤ 2000) (h : uni a b = r) : Calls Try.prog 17 #[.slice A n c, .slice B m e] w (RetR r w) := by subst h; exact (union_any ha hb hn hm).mono fun _ _ h => h.read
theorem meet_val (ha : Spans w A n c a) (hb : Spans w B m e b) (hn : n ≤ 2000) (hm : m ≤ 2000) (h : meet a b = r) : Calls Try.prog 19 #[.slice A n c, .slice B m e] w (RetR r w) := by subst h; exact (meet_any ha hb hn hm).mono fun _ _ h => h.read
theorem minus_val (ha : Spans w A n c a) (hb : Spans w B m e b) (hn : n ≤ 2000) (hm : m ≤ 2000) (h : minus a b = r) : Calls Try.prog 21 #[.slice A n c, .slice B m e] w (RetR r w) := by subst h; exact (minus_any ha hb hn hm).mono fun _ _ h => h.read
end

set_option maxHeartbeats 1000000 in
theorem valid_any (A : Option Addr) (n c : Nat) (ss : List Sp) (w : World) (h : Spans w A n c ss) (hn2 : n ≤ 2000) :
    Calls Try.prog 12 #[.slice A n c] w fun r w' => r = .returned (.bool (decide (nrm ss = ss))) ∧ Grew w w' := by
  have hn := h.1
  obtain ⟨ys, hys⟩ : ∃ ys, nrm ss = ys := ⟨_, rfl⟩
  rw [hys]
  have HY := Lib.hid hys
  have HH := Lib.hid h
  have HN := Lib.hid hn
  clear hys h hn
  go_enter Try.func12, Try.ntmps12
  go_wp2_with fail
  refine (normal_val HH.out hn2 HY.out).mono ?_
  rintro e1 w1 ⟨B, m, e, rfl, hB, g1⟩
  have HB := Lib.hid hB
  have hm := hB.1
  have G1 := Lib.hid g1
  have HHW := Lib.hid (HH.out.grew g1)
  have hn := HN.out
  clear hB g1 HN HY HH
  by_cases hne : m = n
  · subst hne
    have t0 : ((m : Int) != (m : Int)) = false := by simp
    have HN := Lib.hid hn
    have HM := Lib.hid hm
    clear hn hm
    go_wp2_with fail
    go_loopw [14] (fun i wr => ∃ k : Nat, k ≤ m ∧ i = .int .i64 k ∧ Hid (ys.take k = ss.take k) ∧ ∃ q, wr = w1.drewN q) (fun i _ => m - (intOf i).toNat)
    case atStart => exact ⟨0, Nat.zero_le _, rfl, rfl, 0, rfl⟩
    case round =>
      obtain ⟨k, hk, rfl, HE, q, rfl⟩ := hrel
      by_cases hlt : k < m
      · obtain ⟨b1, o1, x, rfl, hx, c1, c2, bx1, bx2⟩ := HHW.out.at_ hlt
        obtain ⟨b2, o2, y, rfl, hy, c3, c4, by1, by2⟩ := HB.out.at_ hlt
        have i0 : (0 : Int) ≤ (k : Int) := by omega
        have i1 : (k : Int) < (m : Int) := by omega
        have HX := Lib.hid hx
        have HY := Lib.hid hy
        obtain ⟨x1, x2⟩ := x
        obtain ⟨y1, y2⟩ := y
        clear hx hy
        simp only at c1 c2 c3 c4
        by_cases hxy : (x1, x2) = (y1, y2)
        · have HXY := Lib.hid hxy
          have q1 := neq33
          have q2 := guard33
          have q3 : eqS x1 x2 y1 y2 = true := decide_eq_true hxy
          clear hxy
          go_wp2_with fail
          go_quiet (fail)
          go_wp2_with fail
          go_roundw
          case rel => exact ⟨k + 1, by omega, by go_num, takes_eq HY.out HX.out HE.out HXY.out.symm, _, rfl⟩
          case measure => simp [intOf]; omega
        · have HNE : Hid (ys ≠ ss) := by unfold Hid; intro h; rw [h, HX.out] at HY; have := HY.out; injection this with this; exact hxy this
          have q1 := neq33
          have q2 := guard33
          have q3 : eqS x1 x2 y1 y2 = false := decide_eq_false hxy
          clear hxy
          go_wp2_with fail
          go_quiet (fail)
          go_wp2_with fail
          go_ret
          exact ⟨by rw [decide_eq_false HNE.out]; rfl, (G1.out.drewN _).drewN _⟩
      · have hfin : Hid (ys = ss) := by
          have := HE.out
          rw [List.take_of_length_le (by rw [HM.out]; omega), List.take_of_length_le (by rw [HN.out]; omega)] at this
          exact this
        go_wp2_with fail
        go_ret
        exact ⟨by rw [decide_eq_true hfin.out]; rfl, G1.out.drewN _⟩
  · have t0 : ((m : Int) != (n : Int)) = true := by rw [bne_iff_ne]; omega
    have HNE : Hid (ys ≠ ss) := by unfold Hid; intro h; rw [h] at hm; omega
    clear hn hm
    go_wp2_with fail
    go_ret
    exact ⟨by rw [decide_eq_false HNE.out]; rfl, G1.out⟩

theorem normal_take {l : List Sp} (h : Normal l) (k : Nat) : Normal (l.take k) := ⟨fun s hs => h.1 s (List.mem_of_mem_take hs), h.2.sublist (List.take_sublist k l)⟩
theorem size_take {l : List Sp} {k : Nat} {s : Sp} (h : l[k]? = some s) : sizeS (l.take (k + 1)) = sizeS (l.take k) + (s.2 - s.1) := by
  unfold sizeS; rw [List.take_add_one, h, List.map_append, List.sum_append]; simp

set_option maxHeartbeats 1000000 in
theorem size_any (A : Option Addr) (n c : Nat) (ss : List Sp) (w : World) (h : Spans w A n c ss) (hn2 : n ≤ 2000) :
    Calls Try.prog 25 #[.slice A n c] w fun r w' => r = .returned (.int .i64 (sizeS (nrm ss))) ∧ Grew w w' := by
  have hnm := nrm_normal ss
  obtain ⟨ys, hys⟩ : ∃ ys, nrm ss = ys := ⟨_, rfl⟩
  rw [hys] at hnm ⊢
  have HY := Lib.hid hys
  have HNM := Lib.hid hnm
  have HH := Lib.hid h
  clear hys hnm h
  go_enter Try.func25, Try.ntmps25
  go_wp2_with fail
  refine (normal_val HH.out hn2 HY.out).mono ?_
  rintro e1 w1 ⟨B, m, e, rfl, hB, g1⟩
  have HB := Lib.hid hB
  have hml := hB.le
  clear hB HH HY
  go_wp2_with fail
  go_loopw [3, 9] (fun v i wr => ∃ (k : Nat) (z : Int), k ≤ m ∧ v = .int .i64 z ∧ i = .int .i64 k ∧ Hid (sizeS (ys.take k) = z) ∧ Grew w1 wr) (fun _ i _ => m - (intOf i).toNat)
  case atStart => exact ⟨0, 0, Nat.zero_le _, rfl, rfl, rfl, Grew.refl _⟩
  case round =>
    obtain ⟨k, z, hk, rfl, rfl, HZ, hg⟩ := hrel
    by_cases hlt : k < m
    · obtain ⟨b2, o2, y, rfl, hy, c3, c4, by1, by2⟩ := (HB.out.grew hg).at_ hlt
      have h1 := size_take hy
      have h2 := size_bd (normal_take HNM.out k)
      have h3 := size_bd (normal_take HNM.out (k + 1))
      have hpy := proper_iff.1 (HNM.out.1 y (List.mem_of_getElem? hy))
      rw [h1, HZ.out] at h3
      rw [HZ.out] at h1 h2
      obtain ⟨y1, y2⟩ := y
      simp only at c3 c4 h1 h3 hpy
      have H1 := Lib.hid h1
      have i0 : (0 : Int) ≤ (k : Int) := by omega
      have i1 : (k : Int) < (m : Int) := by omega
      clear hy h1 by1 by2
      go_wp2_with fail
      go_roundw
      case rel => exact ⟨k + 1, z + (y2 - y1), by omega, rfl, by go_num, H1, hg.alloc _⟩
      case measure => simp [intOf]; omega
    · have hfin : Hid (sizeS ys = z) := by
        have := HZ.out
        rw [List.take_of_length_le (by rw [HB.out.1]; omega)] at this
        exact this
      go_wp2_with fail
      go_ret
      exact ⟨by rw [hfin.out]; rfl, g1.trans hg⟩
theorem valid_val {A : Option Addr} {n c : Nat} {ss : List Sp} {w : World} {t : Bool} (h : Spans w A n c ss) (hn2 : n ≤ 2000) (ht : decide (nrm ss = ss) = t) :
    Calls Try.prog 12 #[.slice A n c] w fun r w' => r = .returned (.bool t) ∧ Grew w w' := by subst ht; exact valid_any A n c ss w h hn2
theorem size_val {A : Option Addr} {n c : Nat} {ss : List Sp} {w : World} {z : Int} (h : Spans w A n c ss) (hn2 : n ≤ 2000) (hz : sizeS (nrm ss) = z) :
    Calls Try.prog 25 #[.slice A n c] w fun r w' => r = .returned (.int .i64 z) ∧ Grew w w' := by subst hz; exact size_any A n c ss w h hn2
theorem same_val {A B : Option Addr} {n m c e : Nat} {xs ys : List Sp} {w : World} {t : Bool} (ha : Spans w A n c xs) (hb : Spans w B m e ys) (ht : decide (xs = ys) = t) :
    Calls Try.prog 14 #[.slice A n c, .slice B m e] w fun r w' => r = .returned (.bool t) ∧ Grew w w' := by
  subst ht; exact (same_any A B n m c e xs ys w ha hb).mono fun _ _ ⟨h1, q, h2⟩ => ⟨h1, by rw [h2]; exact (Grew.refl w).drewN q⟩
end Go.Proofs.Ytngbkpplkkpagaa
