/-
  The reference's functions on spans: Meet.
-/
import Derived.Test.YtngbkpplkkpagaaRfE
namespace Go.Proofs.Ytngbkpplkkpagaa
open Go.RowKit Go.Proofs WageMem WageSpan

theorem rnorm_len (l : List Sp) : (rnorm l).length ≤ l.length := by
  unfold rnorm; rw [List.length_reverse]; have := rnormR_len (rsorted l); rw [rsorted_len] at this; exact this
structure MtInv (w : World) (x y : List Sp) (i k : Nat) (R : List Sp) (Al : Option Addr) (j cl : Nat) (W : World) : Prop where
  own : W.ownsRow w.heap.size 33 2 (.slice Al j cl) j (flat R)
  len : R.length = j
  rest : R ++ rmeet (x.drop i) (y.drop k) = rmeet x y
  in64 : In64 R
  grew : Grew w W
theorem rmeet_step (s t : Sp) (x y : List Sp) : rmeet (s :: x) (t :: y) = (if max s.1 t.1 < min s.2 t.2 then [(max s.1 t.1, min s.2 t.2)] else []) ++ (if s.2 < t.2 then rmeet x (t :: y) else rmeet (s :: x) y) := by
  rw [rmeet]
theorem rmeet_end {x y : List Sp} (h : x = [] ∨ y = []) : rmeet x y = [] := by
  rcases h with rfl | rfl
  · unfold rmeet; rfl
  · cases x <;> (unfold rmeet; rfl)

set_option maxRecDepth 100000 in
set_option maxHeartbeats 4000000 in
theorem rmeet_any (A B : Option Addr) (n m c e : Nat) (a b : List Sp) (w : World) (ha : Spans w A n c a) (hb : Spans w B m e b) (hn : n ≤ 2000) (hm : m ≤ 2000) :
    Calls Try.prog 20 #[.slice A n c, .slice B m e] w (RetS (rmeet (rnorm a) (rnorm b)) w) := by
  obtain ⟨i0, hi, hz0, hz1, hz2⟩ := info_parts info33
  have LX : Hid ((rnorm a).length ≤ n) := by unfold Hid; rw [← ha.1]; exact rnorm_len a
  have LY : Hid ((rnorm b).length ≤ m) := by unfold Hid; rw [← hb.1]; exact rnorm_len b
  have HA := Lib.hid ha
  have HB := Lib.hid hb
  clear ha hb
  obtain ⟨x, hx⟩ : ∃ x, rnorm a = x := ⟨_, rfl⟩
  obtain ⟨y, hy⟩ : ∃ y, rnorm b = y := ⟨_, rfl⟩
  rw [hx] at LX
  rw [hy] at LY
  rw [hx, hy]
  have EX := Lib.hid hx
  have EY := Lib.hid hy
  clear hx hy
  go_enter Try.func20, Try.ntmps20
  go_wp2_with fail
  refine (rnormal_val HA.out hn EX.out).mono ?_
  rintro e1 w1 ⟨Ax, nx, cx, rfl, sx, g1⟩
  go_wp2_with fail
  refine (rnormal_val (HB.out.grew g1) hm EY.out).mono ?_
  rintro e2 w2 ⟨Ay, ny, cy, rfl, sy, g2⟩
  have hnx : nx ≤ 2000 := by have := sx.1; have := LX.out; omega
  have hny : ny ≤ 2000 := by have := sy.1; have := LY.out; omega
  have HX := Lib.hid (sx.grew g2)
  have HY := Lib.hid sy
  have g02 := g1.trans g2
  clear sx sy HA HB EX EY g1 g2
  go_wp2_with fail
  go_loopw [7, 8, 9] (fun v p q wr => ∃ (i k j : Nat) (R : List Sp) (Al : Option Addr) (cl : Nat), i ≤ nx ∧ k ≤ ny ∧ j ≤ i + k ∧ p = .int .i64 i ∧ q = .int .i64 k ∧ v = .slice Al j cl ∧ Hid (MtInv w2 x y i k R Al j cl wr)) (fun _ p q _ => (nx - (intOf p).toNat) + (ny - (intOf q).toNat))
  case atStart => exact ⟨0, 0, 0, [], none, 0, by omega, by omega, by omega, rfl, rfl, rfl, ⟨World.ownsRow_nil _ _ _ _, rfl, rfl, fun s hs => by simp at hs, Grew.refl _⟩⟩
  case round =>
    obtain ⟨i, k, j, R, Al, cl, hi', hk', hj', rfl, rfl, rfl, INV⟩ := hrel
    by_cases hend : i < nx ∧ k < ny
    · obtain ⟨hin, hkn⟩ := hend
      obtain ⟨b1, o1, s, rfl, hs, c1, c2, bs1, bs2⟩ := (HX.out.grew INV.out.grew).at_ hin
      obtain ⟨b2, o2, t, rfl, ht, d1, d2, bt1, bt2⟩ := (HY.out.grew INV.out.grew).at_ hkn
      obtain ⟨s1, s2⟩ := s
      obtain ⟨t1, t2⟩ := t
      simp only at c1 c2 d1 d2 bs1 bs2 bt1 bt2
      have hrest := INV.out.rest
      rw [dropS hs, dropS ht, rmeet_step, ← dropS hs, ← dropS ht] at hrest
      have HR := Lib.hid hrest
      clear hrest hs ht
      have q0 : (0 : Int) ≤ (i : Int) := by omega
      have q1 : (i : Int) < (nx : Int) := by omega
      have q2 : (0 : Int) ≤ (k : Int) := by omega
      have q3 : (k : Int) < (ny : Int) := by omega
      have p1 : decide ((i : Int) < nx) = true := decide_eq_true (by omega)
      have p2 : decide (i < nx) = true := decide_eq_true (by omega)
      have p3 : decide ((k : Int) < ny) = true := decide_eq_true (by omega)
      have p4 : decide (k < ny) = true := decide_eq_true (by omega)
      obtain ⟨u, hu⟩ : ∃ u, max s1 t1 = u := ⟨_, rfl⟩
      obtain ⟨v, hv⟩ : ∃ v, min s2 t2 = v := ⟨_, rfl⟩
      have bu : -9223372036854775808 ≤ u ∧ u ≤ 9223372036854775807 := by omega
      have bv : -9223372036854775808 ≤ v ∧ v ≤ 9223372036854775807 := by omega
      rw [hu, hv] at HR
      go_upto_region 7 with (fail)
      go_cut [10] (fun s10 wx => s10 = .pointer (some ⟨wr.heap.size, 0, none⟩) ∧ wx.cell? ⟨wr.heap.size, 0, none⟩ = some (.int .i64 u) ∧ wx.cell? ⟨wr.heap.size, 1, none⟩ = some (.int .i64 v) ∧ Hid (Grew wr wx))
      case first =>
        go_region_held3 (fun w' => w'.cell? ⟨b1, o1 + i * 2, none⟩ = some (.int .i64 s1) ∧ w'.cell? ⟨b1, o1 + i * 2 + 1, none⟩ = some (.int .i64 s2) ∧ w'.cell? ⟨b2, o2 + k * 2, none⟩ = some (.int .i64 t1) ∧ w'.cell? ⟨b2, o2 + k * 2 + 1, none⟩ = some (.int .i64 t2)) (go_keep) (fail)
        all_goals
          go_wp2_with fail
          go_meet
          exact ⟨rfl, by rw [← hu]; simp, by rw [← hv]; simp, (Grew.refl wr).drew.alloc _⟩
      case rest =>
        obtain ⟨rfl, x0, x1, GC⟩ := hcut
        obtain ⟨wb, rfl⟩ : ∃ wb : World, wb = wc := ⟨_, rfl⟩
        have g0b := INV.out.grew.trans GC.out
        have OB := Lib.hid (own_grew INV.out.own GC.out)
        replace c2 := GC.out.cell c2
        replace d2 := GC.out.cell d2
        have hsz : wr.heap.size < wb.heap.size := World.block_lt_of_cell? _ _ x0
        have hown : some wr.heap.size ≠ (Value.slice Al j cl).ownBlock := fun h => by have := (INV.out.own.lt _ h.symm).2; omega
        have HOWN := Lib.hid hown
        clear hown hu hv c1 d1
        have NB1 : Hid (some b1 ≠ (Value.slice Al j cl).ownBlock) := by
          unfold Hid; intro h; have h1 := (INV.out.own.lt _ h.symm).1; have h2 := (HX.out.at_ hin); obtain ⟨b, o, s, e1, _, h3, _⟩ := h2; injection e1 with e1; injection e1 with e1 e2; subst e1; have := World.block_lt_of_cell? _ _ h3; simp only at this; omega
        have NB2 : Hid (some b2 ≠ (Value.slice Al j cl).ownBlock) := by
          unfold Hid; intro h; have h1 := (INV.out.own.lt _ h.symm).1; have h2 := (HY.out.at_ hkn); obtain ⟨b, o, s, e1, _, h3, _⟩ := h2; injection e1 with e1; injection e1 with e1 e2; subst e1; have := World.block_lt_of_cell? _ _ h3; simp only at this; omega
        by_cases huv : u < v <;> by_cases hst : s2 < t2
        · have t5 : decide (u < v) = true := decide_eq_true huv
          have t6 : decide (s2 < t2) = true := decide_eq_true hst
          have HQ : Hid (R ++ ([(u, v)] ++ rmeet (x.drop (i + 1)) (y.drop k)) = rmeet x y) := by have := HR.out; rw [if_pos huv, if_pos hst] at this; exact this
          clear huv hst HR
          have hle := g0b.le
          have BI : Hid (Sl (wb.alloc (.cells #[.int .i64 u, .int .i64 v] 33)) 2 (some ⟨wb.heap.size, 0, none⟩) 1 1 (flat [(u, v)])) := built 2 1 _ _ rfl rfl (by decide)
          go_wp2_with (at_builtin; refine wpList_append_sl _ rfl (.tmp 53) (.tmp 55) 22 rfl w2.heap.size 33 i0 (.agg #[.int .i64 0, .int .i64 0]) 2 16 Try.underlying22 hi hz0 hz1 hz2 rfl (by decide) (.slice Al j cl) j _ rfl (OB.out.alloc _) (some ⟨wb.heap.size, 0, none⟩) 1 1 _ rfl BI.out (flat_one _) (by unfold maxLen; omega) (by omega) (by simp; omega) ?_; intro v3 w3 own3 hg3 hat3; obtain ⟨A3, c3, rfl⟩ := own_form own3)
          have INV2 : Hid (MtInv w2 x y (i + 1) k (R ++ [(u, v)]) A3 (j + 1) c3 w3) := ⟨by rw [flat_append]; exact own3, by rw [List.length_append, INV.out.len]; rfl, by rw [List.append_assoc]; exact HQ.out, in64_one INV.out.in64 ⟨bu, bv⟩, (g0b.alloc _).grown hg3 (fun q hq => (OB.out.lt q hq).1)⟩
          have c2' := hg3.cell (((Grew.refl wb).alloc (.cells #[.int .i64 u, .int .i64 v] 33)).cell c2) NB1.out
          have d2' := hg3.cell (((Grew.refl wb).alloc (.cells #[.int .i64 u, .int .i64 v] 33)).cell d2) NB2.out
          clear own3 hg3 hat3 BI INV OB GC g0b c2 d2 x0 x1
          go_quiet (fail)
          obtain ⟨wd, hwd⟩ : ∃ wd, wd = w3.drewN nq := ⟨_, rfl⟩
          have INV3 : Hid (MtInv w2 x y (i + 1) k (R ++ [(u, v)]) A3 (j + 1) c3 wd) := by rw [hwd]; exact ⟨own_grew INV2.out.own ((Grew.refl _).drewN _), INV2.out.len, INV2.out.rest, INV2.out.in64, INV2.out.grew.drewN _⟩
          rw [← hwd]
          clear hwd INV2
          go_wp2_with fail
          go_roundw
          case rel => exact ⟨(i + 1), k, j + 1, _, A3, c3, by omega, by omega, by omega, by go_num, by go_num, rfl, INV3⟩
          case measure => simp [intOf]; omega
        · have t5 : decide (u < v) = true := decide_eq_true huv
          have t6 : decide (s2 < t2) = false := decide_eq_false hst
          have HQ : Hid (R ++ ([(u, v)] ++ rmeet (x.drop i) (y.drop (k + 1))) = rmeet x y) := by have := HR.out; rw [if_pos huv, if_neg hst] at this; exact this
          clear huv hst HR
          have hle := g0b.le
          have BI : Hid (Sl (wb.alloc (.cells #[.int .i64 u, .int .i64 v] 33)) 2 (some ⟨wb.heap.size, 0, none⟩) 1 1 (flat [(u, v)])) := built 2 1 _ _ rfl rfl (by decide)
          go_wp2_with (at_builtin; refine wpList_append_sl _ rfl (.tmp 53) (.tmp 55) 22 rfl w2.heap.size 33 i0 (.agg #[.int .i64 0, .int .i64 0]) 2 16 Try.underlying22 hi hz0 hz1 hz2 rfl (by decide) (.slice Al j cl) j _ rfl (OB.out.alloc _) (some ⟨wb.heap.size, 0, none⟩) 1 1 _ rfl BI.out (flat_one _) (by unfold maxLen; omega) (by omega) (by simp; omega) ?_; intro v3 w3 own3 hg3 hat3; obtain ⟨A3, c3, rfl⟩ := own_form own3)
          have INV2 : Hid (MtInv w2 x y i (k + 1) (R ++ [(u, v)]) A3 (j + 1) c3 w3) := ⟨by rw [flat_append]; exact own3, by rw [List.length_append, INV.out.len]; rfl, by rw [List.append_assoc]; exact HQ.out, in64_one INV.out.in64 ⟨bu, bv⟩, (g0b.alloc _).grown hg3 (fun q hq => (OB.out.lt q hq).1)⟩
          have c2' := hg3.cell (((Grew.refl wb).alloc (.cells #[.int .i64 u, .int .i64 v] 33)).cell c2) NB1.out
          have d2' := hg3.cell (((Grew.refl wb).alloc (.cells #[.int .i64 u, .int .i64 v] 33)).cell d2) NB2.out
          clear own3 hg3 hat3 BI INV OB GC g0b c2 d2 x0 x1
          go_quiet (fail)
          obtain ⟨wd, hwd⟩ : ∃ wd, wd = w3.drewN nq := ⟨_, rfl⟩
          have INV3 : Hid (MtInv w2 x y i (k + 1) (R ++ [(u, v)]) A3 (j + 1) c3 wd) := by rw [hwd]; exact ⟨own_grew INV2.out.own ((Grew.refl _).drewN _), INV2.out.len, INV2.out.rest, INV2.out.in64, INV2.out.grew.drewN _⟩
          rw [← hwd]
          clear hwd INV2
          go_wp2_with fail
          go_roundw
          case rel => exact ⟨i, (k + 1), j + 1, _, A3, c3, by omega, by omega, by omega, by go_num, by go_num, rfl, INV3⟩
          case measure => simp [intOf]; omega
        · have t5 : decide (u < v) = false := decide_eq_false huv
          have t6 : decide (s2 < t2) = true := decide_eq_true hst
          have HQ : Hid (R ++ ([] ++ rmeet (x.drop (i + 1)) (y.drop k)) = rmeet x y) := by have := HR.out; rw [if_neg huv, if_pos hst] at this; exact this
          clear huv hst HR
          have INV2 : Hid (MtInv w2 x y (i + 1) k R Al j cl wb) := ⟨OB.out, INV.out.len, HQ.out, INV.out.in64, g0b⟩
          clear INV OB GC g0b
          go_wp2_with fail
          go_quiet (fail)
          obtain ⟨wd, hwd⟩ : ∃ wd, wd = wb.drewN nq := ⟨_, rfl⟩
          have INV3 : Hid (MtInv w2 x y (i + 1) k R Al (j) cl wd) := by rw [hwd]; exact ⟨own_grew INV2.out.own ((Grew.refl _).drewN _), INV2.out.len, INV2.out.rest, INV2.out.in64, INV2.out.grew.drewN _⟩
          rw [← hwd]
          clear hwd INV2
          go_wp2_with fail
          go_roundw
          case rel => exact ⟨(i + 1), k, j, _, Al, cl, by omega, by omega, by omega, by go_num, by go_num, rfl, INV3⟩
          case measure => simp [intOf]; omega
        · have t5 : decide (u < v) = false := decide_eq_false huv
          have t6 : decide (s2 < t2) = false := decide_eq_false hst
          have HQ : Hid (R ++ ([] ++ rmeet (x.drop i) (y.drop (k + 1))) = rmeet x y) := by have := HR.out; rw [if_neg huv, if_neg hst] at this; exact this
          clear huv hst HR
          have INV2 : Hid (MtInv w2 x y i (k + 1) R Al j cl wb) := ⟨OB.out, INV.out.len, HQ.out, INV.out.in64, g0b⟩
          clear INV OB GC g0b
          go_wp2_with fail
          go_quiet (fail)
          obtain ⟨wd, hwd⟩ : ∃ wd, wd = wb.drewN nq := ⟨_, rfl⟩
          have INV3 : Hid (MtInv w2 x y i (k + 1) R Al (j) cl wd) := by rw [hwd]; exact ⟨own_grew INV2.out.own ((Grew.refl _).drewN _), INV2.out.len, INV2.out.rest, INV2.out.in64, INV2.out.grew.drewN _⟩
          rw [← hwd]
          clear hwd INV2
          go_wp2_with fail
          go_roundw
          case rel => exact ⟨i, (k + 1), j, _, Al, cl, by omega, by omega, by omega, by go_num, by go_num, rfl, INV3⟩
          case measure => simp [intOf]; omega
    · have HF : Hid (R = rmeet x y) := by
        have := INV.out.rest
        rw [rmeet_end (by by_cases q : i < nx
                          · exact .inr (List.drop_of_length_le (by rw [HY.out.1]; omega))
                          · exact .inl (List.drop_of_length_le (by rw [HX.out.1]; omega))), List.append_nil] at this
        exact this
      have hcase : (decide ((i : Int) < nx) = false ∧ decide (i < nx) = false) ∨ (decide ((i : Int) < nx) = true ∧ decide (i < nx) = true ∧ decide ((k : Int) < ny) = false ∧ decide (k < ny) = false) := by
        by_cases q : i < nx
        · exact .inr ⟨decide_eq_true (by omega), decide_eq_true q, decide_eq_false (by omega), decide_eq_false (by omega)⟩
        · exact .inl ⟨decide_eq_false (by omega), decide_eq_false q⟩
      rcases hcase with ⟨q1, q2⟩ | ⟨q1, q2, q3, q4⟩
      all_goals
        go_wp2_with fail
        go_ret
        rw [← HF.out]
        exact ⟨Al, j, cl, rfl, INV.out.len, INV.out.in64, own_base INV.out.own g02.le, g02.trans INV.out.grew⟩
theorem rmeet_val {A B : Option Addr} {n m c e : Nat} {a b r : List Sp} {w : World} (ha : Spans w A n c a) (hb : Spans w B m e b) (hn : n ≤ 2000) (hm : m ≤ 2000) (h : rmeet (rnorm a) (rnorm b) = r) : Calls Try.prog 20 #[.slice A n c, .slice B m e] w (RetR r w) := by
  subst h; exact (rmeet_any A B n m c e a b w ha hb hn hm).mono fun _ _ h => h.read
end Go.Proofs.Ytngbkpplkkpagaa
