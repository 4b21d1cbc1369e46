/-
  SettleOrder: the law's walk.
-/
import Derived.Test.YtaocjobbfcfleaaOrdM
import Derived.Test.YtaocjobbfcfleaaOrdQ
import Derived.Test.YtaocjobbfcfleaaLBnd
import Derived.Test.YtaocjobbfcfleaaRSd
import Derived.Test.YtaocjobbfcfleaaApO
import Derived.Test.YtaocjobbfcfleaaArgS
namespace Go.Proofs.Ytaocjobbfcfleaa
open Go.RowKit Go.Proofs WageMem WageOrd WageRec WageMap WageReg WageSet
/-- What a region that makes the answers' copy leaves behind. -/
structure LX where
  v : Value
  A : Option Addr
  c : Nat
  b : Nat
theorem own_zero {w : World} {base : Nat} (h : base ≤ w.heap.size) : (w.alloc (.cells #[] 29)).ownsRow base 29 5 (.slice (some ⟨w.heap.size, 0, none⟩) 0 0) 0 [] :=
  ⟨rfl, .inr ⟨w.heap.size, 0, #[], rfl, h, heap_alloc_new _ _, Nat.le_refl _, Nat.zero_le _, by simp, rfl⟩⟩
theorem own_left {w : World} {base : Nat} {A : Option Addr} {n c : Nat} {l : List Ans} (h : w.ownsRow base 29 5 (.slice A n c) n (l.flatMap ae)) (hl : l.length = n) (hn : 0 < n) : LeftIs w base A n c l := by
  rcases h.2 with ⟨h1, h2⟩ | ⟨g, cap, cur, h1, h2, h3, h4, h5, h6, h7⟩
  · omega
  · injection h1 with e1 _ e3
    subst e1 e3
    refine ⟨hl, h4, h5, g, 0, rfl, h2, ⟨cur, h3, by omega, ?_⟩, Nat.mul_le_mul_right 5 h4⟩
    rw [List.drop_zero]; exact h7
theorem own_box_ne {w : World} {base : Nat} {v : Value} {n bb : Nat} {xs : List Value} {cs : Array Value} (h : w.ownsRow base 29 5 v n xs) (hb : w.heap[bb]? = some (.cells cs 25 (0, 0))) : v.ownBlock ≠ some bb := by
  intro e
  rcases h.2 with ⟨rfl, _⟩ | ⟨g, cap, cur, rfl, _, h3, _⟩
  · cases e
  · have e2 : g = bb := by simpa [Value.ownBlock] using e
    subst e2
    rw [h3] at hb
    injection hb with hb
    injection hb with _ h5
    cases h5
theorem own_setRow {w : World} {base : Nat} {e : TypeId} {size : Nat} {v : Value} {n : Nat} {xs : List Value} (h : w.ownsRow base e size v n xs) {bb : Nat} (hb : ∀ j, v.ownBlock = some j → j ≠ bb) (cs : Array Value) : (w.setRow bb cs).ownsRow base e size v n xs := by
  refine ⟨h.1, ?_⟩
  rcases h.2 with h2 | ⟨g, cap, cur, h1, h2, h3, h4⟩
  · exact .inl h2
  · exact .inr ⟨g, cap, cur, h1, h2, (setRow_other w bb g cs (hb g (by rw [h1]; rfl))).trans h3, h4⟩
theorem le_of_blk {m h j n c : Nat} (hm : m ≤ h) (hj : (Value.slice (some ⟨h, 0, none⟩) n c).ownBlock = some j) : m ≤ j := by
  have e : h = j := by simpa [Value.ownBlock] using hj
  omega
theorem a_row0 {w : World} {base g off c n : Nat} {x : Ans} {l : List Ans} (h : Row w base g off c (n * 5) ((x :: l).flatMap ae)) : w.cell? ⟨g, off, none⟩ = some (.int .i64 x.q) ∧ w.cell? ⟨g, off + 1, none⟩ = some (.int .i64 x.id) ∧ w.cell? ⟨g, off + 2, none⟩ = some (.int .i64 x.k) ∧ w.cell? ⟨g, off + 3, none⟩ = some (.int .i64 x.c) ∧ w.cell? ⟨g, off + 4, none⟩ = some (.int .i64 x.d) :=
  ⟨h.cell (i := 0) rfl, h.cell (i := 1) rfl, h.cell (i := 2) rfl, h.cell (i := 3) rfl, h.cell (i := 4) rfl⟩
theorem a_rowk {w : World} {base g off c n k : Nat} {y : Ans} {l : List Ans} (h : Row w base g off c (n * 5) (l.flatMap ae)) (hy : l[k]? = some y) : w.cell? ⟨g, off + k * 5, none⟩ = some (.int .i64 y.q) ∧ w.cell? ⟨g, off + k * 5 + 1, none⟩ = some (.int .i64 y.id) ∧ w.cell? ⟨g, off + k * 5 + 2, none⟩ = some (.int .i64 y.k) ∧ w.cell? ⟨g, off + k * 5 + 3, none⟩ = some (.int .i64 y.c) ∧ w.cell? ⟨g, off + k * 5 + 4, none⟩ = some (.int .i64 y.d) := by
  have e : ∀ j u, (ae y)[j]? = some u → w.cell? ⟨g, off + (k * 5 + j), none⟩ = some u := fun j u hu => h.cell (flat_at ae_ok hy hu)
  refine ⟨?_, ?_, ?_, ?_, ?_⟩
  · exact e 0 _ rfl
  · have := e 1 _ rfl; rwa [← Nat.add_assoc] at this
  · have := e 2 _ rfl; rwa [← Nat.add_assoc] at this
  · have := e 3 _ rfl; rwa [← Nat.add_assoc] at this
  · have := e 4 _ rfl; rwa [← Nat.add_assoc] at this
theorem Row.five0 {w : World} {base g off c n : Nat} {x : Ans} {l : List Ans} (h : Row w base g off c (n * 5) ((x :: l).flatMap ae)) (s : Ans) : Row (Go.Proofs.Ytaocjobbfcfleaa.five w g off s) base g off c (n * 5) ((s :: l).flatMap ae) := by
  have := h.five (k := 0) (by simp) s
  simpa using this
theorem five_by {w0 w : World} (g o : Nat) (s : Ans) (h : w0.grownBy w (some g)) : w0.grownBy (five w g o s) (some g) :=
  ((((h.trans (set_grown _ g o _)).trans (set_grown _ g (o + 1) _)).trans (set_grown _ g (o + 2) _)).trans (set_grown _ g (o + 3) _)).trans (set_grown _ g (o + 4) _)
theorem row_box_ne {w : World} {base g off c k b : Nat} {flat : List Value} {cs : Array Value} (h : Row w base g off c k flat) (hb : w.heap[b]? = some (.cells cs 25 (0, 0))) : g ≠ b := by
  rintro rfl
  obtain ⟨cur, h1, _⟩ := h.cells
  rw [h1] at hb
  injection hb with hb
  injection hb with _ h5
  cases h5
/-- The call's own row holds nothing of the slice. -/
def OffN (A : Option Addr) (n k : Nat) : Prop := n = 0 ∨ ∀ x, A = some x → x.block ≠ k
theorem recs_lt {α : Type} {enc : α → List Value} {size : Nat} {w : World} {A : Option Addr} {n c : Nat} {l : List α} (h : Recs enc size w A n c l) (hs : 0 < size) : n = 0 ∨ ∀ x, A = some x → x.block < w.heap.size := by
  rcases Nat.eq_zero_or_pos n with h0 | h0
  · exact .inl h0
  · refine .inr fun x hx => ?_
    have hlen := h.2.2.2.1
    have hpos : 0 < (l.flatMap enc).length := by rw [hlen]; exact Nat.mul_pos h0 hs
    obtain ⟨b, o, e, hc⟩ := h.2.2.2.2.1 (fun e => by rw [e] at hpos; exact absurd hpos (by simp))
    rw [hx] at e
    injection e with e
    subst e
    have h1 := hc 0 _ (List.getElem?_eq_getElem hpos)
    show b < w.heap.size
    rcases Nat.lt_or_ge b w.heap.size with h2 | h2
    · exact h2
    · exfalso
      simp [World.cell?, Array.getElem?_eq_none h2] at h1
theorem recs_off {α : Type} {enc : α → List Value} {size : Nat} {w w' : World} {A : Option Addr} {n c : Nat} {l : List α} {row : Option Nat} (h : Recs enc size w A n c l) (g : w.grownBy w' row) (hr : ∀ k, row = some k → OffN A n k) : Recs enc size w' A n c l := by
  refine ⟨h.1, h.2.1, h.2.2.1, h.2.2.2.1, fun hx => ?_, h.2.2.2.2.2⟩
  obtain ⟨b, o, e, hc⟩ := h.2.2.2.2.1 hx
  refine ⟨b, o, e, fun j u hu => g.cell (hc j u hu) (fun e2 => ?_)⟩
  rcases hr b e2.symm with h0 | h0
  · have hlen := h.2.2.2.1
    rw [h0, Nat.zero_mul] at hlen
    exact hx (List.eq_nil_of_length_eq_zero hlen)
  · exact h0 _ e rfl
theorem app_recs {α : Type} {enc : α → List Value} {size : Nat} {w w' : World} {o : Obj} {A : Option Addr} {n c : Nat} {l : List α} {row : Option Nat} (h : Recs enc size w A n c l) (g : (w.alloc o).grownBy w' row) (hr : ∀ k, row = some k → OffN A n k) : Recs enc size w' A n c l := recs_off (h.grew ((Grew.refl w).alloc o)) g hr
theorem app_off {α : Type} {enc : α → List Value} {size : Nat} {w : World} {o : Obj} {A : Option Addr} {n c : Nat} {l : List α} {v v' : Value} (h : Recs enc size w A n c l) (hs : 0 < size) (hat : v'.ownBlock = v.ownBlock ∨ v'.ownBlock = some (w.alloc o).heap.size) (hr : ∀ k, v.ownBlock = some k → OffN A n k) : ∀ k, v'.ownBlock = some k → OffN A n k := fun k hk => by
  rcases hat with h1 | h1
  · exact hr k (h1.symm.trans hk)
  · rw [hk] at h1
    injection h1 with h1
    subst h1
    rcases recs_lt (h.grew ((Grew.refl w).alloc o)) hs with h2 | h2
    · exact .inl h2
    · exact .inr fun x hx => Nat.ne_of_lt (h2 x hx)
theorem app_box {w w' : World} {o : Obj} {base b n : Nat} {v : Value} {xs : List Value} {cs : Array Value} (ow : w.ownsRow base 29 5 v n xs) (hb : w.heap[b]? = some (.cells cs 25 (0, 0))) (g : (w.alloc o).grownBy w' v.ownBlock) : w'.heap[b]? = some (.cells cs 25 (0, 0)) := by
  have h1 := ((Grew.refl w).alloc o).block hb
  exact (g.block b (Array.getElem?_eq_some_iff.1 h1).1 (fun e => own_box_ne ow hb e.symm)).trans h1
theorem fresh_off {w : World} {A : Option Addr} {n k : Nat} (h : Fresh w A) (hk : k < w.heap.size) : OffN A n k := .inr fun x hx e => by have := h x hx; omega
theorem desk_off {w w' : World} {A B : Option Addr} {n c m e : Nat} {d : Desk} {o : Obj} {row : Option Nat} (h : DeskIs w A n c B m e d) (g : (w.alloc o).grownBy w' row) (ha : ∀ k, row = some k → OffN A n k) (hb : ∀ k, row = some k → OffN B m k) : DeskIs w' A n c B m e d := ⟨⟨app_recs h.1.1 g ha, h.1.2⟩, app_recs h.2 g hb⟩
theorem own_setB {w : World} {base b n : Nat} {v u0 u1 v0 v1 : Value} {xs : List Value} (h : w.ownsRow base 29 5 v n xs) (hb : w.heap[b]? = some (.cells #[u0, u1] 25)) : ((w.setCell ⟨b, 0, none⟩ v0).setCell ⟨b, 1, none⟩ v1).ownsRow base 29 5 v n xs :=
  own_keep h ((set_grown w b 0 v0).trans (set_grown _ b 1 v1)) (fun k hk => by injection hk with hk; subst hk; exact own_box_ne h hb)
set_option maxRecDepth 100000 in
set_option maxHeartbeats 64000000 in
theorem ord_law (A0 : Option Addr) (n0 c0 : Nat) (B0 : Option Addr) (m0 e0 : Nat) (d : Desk) (Q : Option Addr) (M cq : Nat) (ans : List Ans) (P : Option Addr) (np cp : Nat) (ps : List UInt8) (w : World) (h : DeskIs w A0 n0 c0 B0 m0 e0 d) (hq : Anss w Q M cq ans) (hp : Bytes w P np cp ps) : Calls Try.prog 6 #[.agg #[.slice A0 n0 c0, .slice B0 m0 e0], .slice Q M cq, .slice P np cp] w fun e w' => e = .returned (.bool true) ∧ Grew w w' := by
  have HD := Lib.hid h
  have HQ := Lib.hid hq
  have HP := Lib.hid hp
  have um := Recs.le hq
  have up : np ≤ 9223372036854775807 := Nat.le_trans hp.2.1 hp.2.2.1
  have LQ := Lib.hid hq.1
  clear h hq hp
  obtain ⟨b1, hb0⟩ : ∃ b, b = w.heap.size := ⟨_, rfl⟩
  obtain ⟨w1, hw0⟩ : ∃ x, x = w.alloc (.cells #[.slice A0 n0 c0, .slice B0 m0 e0] 25) := ⟨_, rfl⟩
  have g0 : Grew w w1 := by rw [hw0]; exact (Grew.refl w).alloc _
  have sz0 : w1.heap.size = w.heap.size + 1 := by rw [hw0]; simp
  have HRd : Hid (w1.rangeAt b1 0 [.slice A0 n0 c0, .slice B0 m0 e0]) := by
    unfold Hid
    rw [hb0]
    exact range_grew (by rw [hw0]; exact range_new w _ 25) (Grew.refl _)
  have gg : Grew w w1 := g0
  clear sz0 g0
  go_enter Try.func6, Try.ntmps6
  go_upto_region 1 with (fail)
  rw [← hw0]
  rw [← hb0]
  clear hw0 hb0
  replace HD := Lib.hid (HD.out.grew gg)
  replace HQ := Lib.hid (HQ.out.grew gg)
  go_wp2_with fail
  refine (head_true _).mono ?_
  rintro r w4 ⟨rfl, g⟩
  replace HRd := Lib.hid (range_grew HRd.out g)
  replace HD := Lib.hid (HD.out.grew g)
  replace HQ := Lib.hid (HQ.out.grew g)
  replace gg := gg.trans g
  clear g
  obtain ⟨tv, htv⟩ : ∃ t, smallB d = t := ⟨_, rfl⟩
  obtain ⟨z0_0, z0_1⟩ := d_cells HRd.out
  go_wp2_with fail
  clear z0_0 z0_1
  refine (small_val HD.out htv).mono ?_
  rintro r w5 ⟨rfl, g⟩
  replace HRd := Lib.hid (range_grew HRd.out g)
  replace HD := Lib.hid (HD.out.grew g)
  replace HQ := Lib.hid (HQ.out.grew g)
  replace gg := gg.trans g
  clear g
  cases tv with
  | false =>
    go_wp2_with fail
    go_ret
    exact ⟨rfl, gg⟩
  | true =>
    obtain ⟨tv, hvv⟩ : ∃ t, validB d = t := ⟨_, rfl⟩
    obtain ⟨z1_0, z1_1⟩ := d_cells HRd.out
    go_wp2_with fail
    clear z1_0 z1_1
    refine (rvalid_val HD.out hvv).mono ?_
    rintro r w6 ⟨rfl, g⟩
    replace HRd := Lib.hid (range_grew HRd.out g)
    replace HD := Lib.hid (HD.out.grew g)
    replace HQ := Lib.hid (HQ.out.grew g)
    replace gg := gg.trans g
    clear g
    cases tv with
    | false =>
      go_wp2_with fail
      go_ret
      exact ⟨rfl, gg⟩
    | true =>
      have HV := Lib.hid hvv
      have hm60 : d.an.length ≤ 60 := (small_parts htv).2
      clear hvv htv
      by_cases hM : M ≤ 12
      rotate_left
      · have q2 : decide ((M : Int) > 12) = true := decide_eq_true (by omega)
        have q2' : decide ((12 : Int) < (M : Int)) = true := decide_eq_true (by omega)
        go_wp2_with fail
        go_ret
        exact ⟨rfl, gg⟩
      have q2 : decide ((M : Int) > 12) = false := decide_eq_false (by omega)
      have q2' : decide ((12 : Int) < (M : Int)) = false := decide_eq_false (by omega)
      obtain ⟨w7, hw⟩ : ∃ y, y = w6.alloc (.cells #[.slice A0 n0 c0, .slice B0 m0 e0] 25) := ⟨_, rfl⟩
      have g : Grew w6 w7 := by rw [hw]; exact (Grew.refl _).alloc _
      obtain ⟨b8, hb⟩ : ∃ z, z = w6.heap.size := ⟨_, rfl⟩
      have HB : Hid (w7.heap[b8]? = some (.cells #[.slice A0 n0 c0, .slice B0 m0 e0] 25)) := by unfold Hid; rw [hw, hb]; exact heap_alloc_new _ _
      have hbw : w6.heap.size ≤ b8 := by omega
      obtain ⟨r0, r1⟩ := d_cells HRd.out
      go_upto_region 5 with (fail)
      rw [← hw, ← hb]
      clear hw hb r0 r1 q2 q2'
      go_wp2_with fail
      go_loopw [41] (fun i y => ∃ (k : Nat) (x : Desk) (A1 : Option Addr) (n1 c1 : Nat) (B1 : Option Addr) (m1 e1 : Nat), k ≤ M ∧ i = .int .i64 k ∧ Hid (y.heap[b8]? = some (.cells #[.slice A1 n1 c1, .slice B1 m1 e1] 25)) ∧ Hid (DeskIs y A1 n1 c1 B1 m1 e1 x) ∧ Hid (Chain d (ans.take k) x) ∧ Grew w6 y) (fun i _ => M - (intOf i).toNat)
      case atStart => exact ⟨0, d, A0, n0, c0, B0, m0, e0, Nat.zero_le _, rfl, HB, Lib.hid (HD.out.grew g), Chain.nil, g⟩
      case round =>
        clear HB g
        obtain ⟨k, x, A1, n1, c1, B1, m1, e1, hk, rfl, HB, HX, HC, g6⟩ := hrel
        by_cases hlt : k < M
        · obtain ⟨g1, o, a, hAa, ha, hr⟩ := (HQ.out.grew g6).at_ ae_ok hlt
          have HA := Lib.hid ha
          have k0 : (0 : Int) ≤ (k : Int) := by omega
          have k1 : (k : Int) < (M : Int) := by omega
          subst hAa
          obtain ⟨c1', c2', c3', c4', c5'⟩ := a_cells hr
          obtain ⟨wa, hwa⟩ : ∃ y, y = wr.alloc (.cells #[.int .i64 a.q, .int .i64 a.id, .int .i64 a.k, .int .i64 a.c, .int .i64 a.d] 29) := ⟨_, rfl⟩
          have g : Grew wr wa := by rw [hwa]; exact (Grew.refl wr).alloc _
          obtain ⟨bx, hbx⟩ : ∃ b, b = wr.heap.size := ⟨_, rfl⟩
          have HRX : Hid (wa.rangeAt bx 0 (ae a)) := by unfold Hid; rw [hwa, hbx]; exact range_new wr (ae a) 29
          replace HB := Lib.hid (g.block HB.out)
          replace HX := Lib.hid (HX.out.grew g)
          replace g6 := g6.trans g
          clear g hr ha
          go_upto_region 8 with (fail)
          rw [← hwa, ← hbx]
          clear hwa hbx c1' c2' c3' c4' c5'
          obtain ⟨z1, hz1⟩ : ∃ z, applyE x a = z := ⟨_, rfl⟩
          obtain ⟨d1, hd1⟩ : ∃ z, applyD x a = z := ⟨_, rfl⟩
          obtain ⟨c1', c2', c3', c4', c5'⟩ := a_cells0 HRX.out
          obtain ⟨y0, y1⟩ := d_cells (row_at (l := [.slice A1 n1 c1, .slice B1 m1 e1]) HB.out)
          go_wp2_with fail
          clear y0 y1 c1' c2' c3' c4' c5'
          refine (apply_val HX.out hz1 hd1).mono ?_
          rintro r w8 ⟨A2, n2, c2, B2, m2, e2, rfl, hk1, g⟩
          replace HB := Lib.hid (g.block HB.out)
          replace HX := Lib.hid (HX.out.grew g)
          replace g6 := g6.trans g
          clear g HRX
          obtain ⟨w9, hw⟩ : ∃ y, y = w8.alloc (.cells #[.slice A2 n2 c2, .slice B2 m2 e2] 25) := ⟨_, rfl⟩
          have g : Grew w8 w9 := by rw [hw]; exact (Grew.refl _).alloc _
          obtain ⟨b9, hb⟩ : ∃ z, z = w8.heap.size := ⟨_, rfl⟩
          have HR1 : Hid (w9.rangeAt b9 0 [.slice A2 n2 c2, .slice B2 m2 e2]) := by unfold Hid; rw [hw, hb]; exact range_new w8 _ 25
          have HD1 := Lib.hid (hk1.grew g)
          clear hk1
          replace HB := Lib.hid (g.block HB.out)
          replace HX := Lib.hid (HX.out.grew g)
          replace g6 := g6.trans g
          clear g
          go_upto_region 9 with (fail)
          rw [← hw, ← hb]
          clear hw hb
          rcases (Decidable.em (z1 = 0)).symm with hzz | hzz
          · have q : (z1 != (0 : Int)) = true := by simpa using hzz
            have gE := gg.trans g6
            go_wp2_with fail
            go_ret
            exact ⟨rfl, gE⟩
          · subst hzz
            have q : ((0 : Int) != 0) = false := rfl
            have HCN : Hid (Chain d (ans.take (k + 1)) d1) := by unfold Hid; rw [← hd1]; exact HC.out.next HA.out hz1
            obtain ⟨y0, y1⟩ := d_cells (row_at (l := [.slice A1 n1 c1, .slice B1 m1 e1]) HB.out)
            obtain ⟨x0, x1⟩ := d_cells HR1.out
            have f0 := row_free HB.out 0
            have f1 := row_free HB.out 1
            have HB2 := Lib.hid (set2g HB.out (.slice A2 n2 c2) (.slice B2 m2 e2))
            have HD2 := Lib.hid (desk_set2 HD1.out HB.out (.slice A2 n2 c2) (.slice B2 m2 e2))
            have gE := (g6.set (p := ⟨b8, 0, none⟩) hbw (.slice A2 n2 c2)).set (p := ⟨b8, 1, none⟩) hbw (.slice B2 m2 e2)
            clear hz1 hd1 HX HD1 HC
            go_wp2_with fail
            clear y0 y1 x0 x1 f0 f1
            go_roundw
            case rel => exact ⟨k + 1, d1, A2, n2, c2, B2, m2, e2, by omega, by go_num, HB2, HD2, HCN, gE⟩
            case measure => simp [intOf]; omega
        · obtain rfl : M = k := by omega
          have HCH : Hid (Chain d ans x) := by have h1 := HC.out; rw [← LQ.out, List.take_length] at h1; exact h1
          obtain ⟨W, hW⟩ : ∃ y, y = x := ⟨_, rfl⟩
          rw [← hW] at HX HCH
          clear hW HC hlt
          have HDd := Lib.hid (HD.out.grew g6)
          have HRdd := Lib.hid (range_grew HRd.out g6)
          have HQd := Lib.hid (HQ.out.grew g6)
          have gB := gg.trans g6
          obtain ⟨wl, hwl⟩ : ∃ y, y = wr := ⟨_, rfl⟩
          rw [← hwl] at HDd HRdd HQd gB HB HX g6 ⊢
          clear hwl
          go_upto_region 13 with (fail)
          obtain ⟨i0, hi, hz0, hz1, hz2⟩ := info_parts info29
          refine cut_region (X := LX) (by kernel_rfl) (fun wd w' => Grew wd w') (fun a x => (((((a.put (some 56) (.agg #[.slice A0 n0 c0, .slice B0 m0 e0])).put (some 58) (.slice Q M cq)).put (some 57) x.v).put (some 59) (.slice x.A M x.c)).put (some 13) (.pointer (some ⟨x.b, 0, none⟩))).put (some 14) (.slice x.A M x.c)) (fun x w' => Hid (Anss w' x.A M x.c ans) ∧ (2 ≤ M → LeftIs w' wl.heap.size x.A M x.c ans) ∧ Hid (w'.heap[x.b]? = some (.cells #[.slice A0 n0 c0, .slice B0 m0 e0] 25)) ∧ wl.heap.size ≤ x.b ∧ (∀ y, x.A = some y → wl.heap.size ≤ y.block ∧ y.block < w'.heap.size) ∧ Grew wl w') ?_ ?_
          rotate_left
          · intro wx gwx J0
            have HJ := Lib.hid J0
            clear J0
            have HRx := Lib.hid (range_grew HRdd.out gwx)
            have hC : ∀ w', Grew wx w' → w'.cell? ⟨b1, 0, none⟩ = some (.slice A0 n0 c0) ∧ w'.cell? ⟨b1, 1, none⟩ = some (.slice B0 m0 e0) := fun w' g' => d_cells (range_grew HRx.out g')
            have HQx := Lib.hid (HQd.out.grew gwx)
            have hwx : wl.heap.size ≤ wx.heap.size := gwx.le
            refine wpAnyH_takes (fun _ _ _ _ _ h => h) (Grew.refl _) [0, 2] (fuel' := 5) (by kernel_rfl) (by kernel_rfl) (by simp only [pickOps, List.getElem?_toArray, List.getElem?_cons_zero, List.getElem?_cons_succ]; rfl) ?_
            repeat (first
              | (refine TakeP.pure (v := ?_) (by rfl) ?_ ?_; rotate_left; (intro w' g'; obtain ⟨r0, r1⟩ := hC w' g'; go_simp; first | done | with_reducible rfl); (simp only [Act.put, List.setIfInBounds_toArray, List.set_cons_zero, List.set_cons_succ])))
            refine TakeP.nil ?_
            refine wpAnyH_two (i := 1) (j := 4) (by kernel_rfl) (fuel' := 4) (by kernel_rfl) (by simp only [pickOps, List.getElem?_toArray, List.getElem?_cons_zero, List.getElem?_cons_succ]; rfl) rfl (by simp only [pickOps, List.getElem?_toArray, List.getElem?_cons_zero, List.getElem?_cons_succ]; rfl) rfl ?_ ?_
            · intro K hK
              go_simp
              have S1 := (Grew.refl wx).alloc (.cells #[] 29)
              refine hK _ _ S1 ?_
              clear hK K
              have OW : Hid ((wx.alloc (.cells #[] 29)).ownsRow wl.heap.size 29 5 (.slice (some ⟨wx.heap.size, 0, none⟩) 0 0) 0 []) := own_zero (Nat.le_trans hwx (Grew.refl wx).le)
              obtain ⟨v1, hv1⟩ : ∃ y, y = wx.alloc (.cells #[] 29) := ⟨_, rfl⟩
              obtain ⟨h57, hh57⟩ : ∃ y, y = wx.heap.size := ⟨_, rfl⟩
              have h57le : wx.heap.size ≤ h57 := by rw [hh57]; exact (Grew.refl wx).le
              rw [← hv1] at S1 OW ⊢
              rw [← hh57] at OW ⊢
              have gbl : Grew wx v1 := by rw [hv1]; exact (Grew.refl _).alloc _
              clear hv1 hh57
              refine wpAnyH_two (i := 3) (j := 4) (by kernel_rfl) (fuel' := 3) (by kernel_rfl) (by simp only [pickOps, List.getElem?_toArray, List.getElem?_cons_zero, List.getElem?_cons_succ]; rfl) rfl (by simp only [pickOps, List.getElem?_toArray, List.getElem?_cons_zero, List.getElem?_cons_succ]; rfl) rfl ?_ ?_
              · intro K hK
                obtain ⟨vv, v2, run2, own2, gr2, _⟩ := run_append_sl (P := Try.prog) v1 wl.heap.size 23 23 29 i0 _ 5 40 Try.underlying23 hi hz0 hz1 hz2 rfl (by decide) _ 0 _ OW.out _ M cq _ (HQx.out.grew S1).2 (flat_one ae_ok _) (by unfold maxLen; omega) (by omega) (Nat.le_trans hwx (S1).le)
                obtain ⟨A4, c4, rfl⟩ := own_form own2
                rw [Nat.zero_add, List.nil_append] at own2
                rw [Nat.zero_add] at run2
                refine wp_append_run v1 (.tmp 57) (.tmp 58) 23 23 rfl rfl rfl run2 ?_
                have S2 : Grew wx v2 := (S1).grown gr2 (fun j hj => le_of_blk h57le hj)
                refine hK _ _ S2 ?_
                clear hK K run2
                simp only [Act.put, List.setIfInBounds_toArray, List.set_cons_zero, List.set_cons_succ]
                have OV := Lib.hid own2
                clear own2 OW
                refine wpAnyH_step (i := 4) (by kernel_rfl) (fuel' := 2) (by kernel_rfl) (by simp only [pickOps, List.getElem?_toArray, List.getElem?_cons_zero, List.getElem?_cons_succ]; rfl) (by rfl) ?_
                intro K hK
                go_simp
                have S3 := (S2).alloc (.cells #[.slice none 0 0, .slice none 0 0] 25)
                refine hK _ _ S3 ?_
                clear hK K
                obtain ⟨v3, hv3⟩ : ∃ y, y = v2.alloc (.cells #[.slice none 0 0, .slice none 0 0] 25) := ⟨_, rfl⟩
                have HBX : Hid (v3.heap[v2.heap.size]? = some (.cells #[.slice none 0 0, .slice none 0 0] 25)) := by unfold Hid; rw [hv3]; exact heap_alloc_new _ _
                have gal : Grew v2 v3 := by rw [hv3]; exact (Grew.refl _).alloc _
                obtain ⟨bb, hbb⟩ : ∃ y, y = v2.heap.size := ⟨_, rfl⟩
                have hbx : wx.heap.size ≤ bb := by rw [hbb]; exact (S2).le
                rw [← hv3] at S3 ⊢
                rw [← hbb] at HBX ⊢
                clear hv3 hbb
                replace OV := Lib.hid (own_grew OV.out gal)
                refine wpAnyH_step (i := 5) (by kernel_rfl) (fuel' := 1) (by kernel_rfl) (by simp only [pickOps, List.getElem?_toArray, List.getElem?_cons_zero, List.getElem?_cons_succ]; rfl) (by rfl) ?_
                intro K hK
                refine wp_store_row 25 (.tmp 13) (.tmp 56) rfl bb #[.slice A0 n0 c0, .slice B0 m0 e0] rfl rfl 25 _ HBX.out size25 rfl (by simp [Value.oneCell']) ?_
                have SE := grew_setRow S3 hbx #[.slice A0 n0 c0, .slice B0 m0 e0]
                refine hK _ _ SE ?_
                clear hK K
                have HBE := setRow_heap v3 bb _ #[.slice A0 n0 c0, .slice B0 m0 e0] 25 (0, 0) HBX.out
                have hnb : ∀ j, (Value.slice A4 M c4).ownBlock = some j → j ≠ bb := fun j hj e => by
                  subst e
                  rcases OV.out.2 with ⟨h1, _⟩ | ⟨g, cap, cur, h1, _, h3, _⟩
                  · rw [h1] at hj; cases hj
                  · rw [h1] at hj
                    have e2 : g = j := by simpa [Value.ownBlock] using hj
                    subst e2
                    have := HBX.out
                    rw [h3] at this
                    injection this with this
                    injection this with _ h5
                    cases h5
                have OE : Hid ((v3.setRow bb #[.slice A0 n0 c0, .slice B0 m0 e0]).ownsRow wl.heap.size 29 5 (.slice A4 M c4) M (ans.flatMap ae)) := own_setRow OV.out hnb _
                refine wpAnyH_takes (fun _ _ _ _ _ h => h) SE [6] (fuel' := 0) (by kernel_rfl) (by kernel_rfl) (by simp only [pickOps, List.getElem?_toArray, List.getElem?_cons_zero, List.getElem?_cons_succ]; rfl) ?_
                repeat (first
                  | (refine TakeP.pure (v := ?_) (by rfl) ?_ ?_; rotate_left; (intro w' g'; go_simp; first | done | with_reducible rfl); (simp only [Act.put, List.setIfInBounds_toArray, List.set_cons_zero, List.set_cons_succ])))
                refine TakeP.nil ?_
                refine wpAnyH_done (by kernel_rfl) ?_ _
                have HAN : Hid (Anss (v3.setRow bb #[.slice A0 n0 c0, .slice B0 m0 e0]) A4 M c4 ans) := Recs.own LQ.out OE.out
                have J := HJ.out ⟨.slice (some ⟨h57, 0, none⟩) 0 0, A4, c4, bb⟩ _ ⟨HAN, fun h2 => own_left OE.out LQ.out (by omega), Lib.hid HBE, Nat.le_trans hwx hbx, fun y hy => by
                  subst hy
                  have h1 := OE.out.lt y.block rfl
                  exact h1, gwx.trans SE⟩
                simp only [Act.put, List.setIfInBounds_toArray, List.set_cons_zero, List.set_cons_succ] at J
                exact J
              · intro K hK
                go_simp
                have S4 := (S1).alloc (.cells #[.slice none 0 0, .slice none 0 0] 25)
                refine hK _ _ S4 ?_
                clear hK K
                obtain ⟨v4, hv4⟩ : ∃ y, y = v1.alloc (.cells #[.slice none 0 0, .slice none 0 0] 25) := ⟨_, rfl⟩
                have HBX : Hid (v4.heap[v1.heap.size]? = some (.cells #[.slice none 0 0, .slice none 0 0] 25)) := by unfold Hid; rw [hv4]; exact heap_alloc_new _ _
                have gal : Grew v1 v4 := by rw [hv4]; exact (Grew.refl _).alloc _
                obtain ⟨bb, hbb⟩ : ∃ y, y = v1.heap.size := ⟨_, rfl⟩
                have hbx : wx.heap.size ≤ bb := by rw [hbb]; exact (S1).le
                rw [← hv4] at S4 ⊢
                rw [← hbb] at HBX ⊢
                clear hv4 hbb
                replace OW := Lib.hid (own_grew OW.out gal)
                refine wpAnyH_step (i := 3) (by kernel_rfl) (fuel' := 2) (by kernel_rfl) (by simp only [pickOps, List.getElem?_toArray, List.getElem?_cons_zero, List.getElem?_cons_succ]; rfl) (by rfl) ?_
                intro K hK
                obtain ⟨vv, v5, run5, own5, gr5, _⟩ := run_append_sl (P := Try.prog) v4 wl.heap.size 23 23 29 i0 _ 5 40 Try.underlying23 hi hz0 hz1 hz2 rfl (by decide) _ 0 _ OW.out _ M cq _ (HQx.out.grew S4).2 (flat_one ae_ok _) (by unfold maxLen; omega) (by omega) (Nat.le_trans hwx (S4).le)
                obtain ⟨A4, c4, rfl⟩ := own_form own5
                rw [Nat.zero_add, List.nil_append] at own5
                rw [Nat.zero_add] at run5
                refine wp_append_run v4 (.tmp 57) (.tmp 58) 23 23 rfl rfl rfl run5 ?_
                have S5 : Grew wx v5 := (S4).grown gr5 (fun j hj => le_of_blk h57le hj)
                refine hK _ _ S5 ?_
                clear hK K run5
                simp only [Act.put, List.setIfInBounds_toArray, List.set_cons_zero, List.set_cons_succ]
                have OV := Lib.hid own5
                replace HBX : Hid (v5.heap[bb]? = some (.cells #[.slice none 0 0, .slice none 0 0] 25)) := by unfold Hid; rw [gr5.block bb (Array.getElem?_eq_some_iff.1 HBX.out).1 (fun e => own_box_ne OW.out HBX.out e.symm)]; exact HBX.out
                clear own5 OW
                refine wpAnyH_step (i := 5) (by kernel_rfl) (fuel' := 1) (by kernel_rfl) (by simp only [pickOps, List.getElem?_toArray, List.getElem?_cons_zero, List.getElem?_cons_succ]; rfl) (by rfl) ?_
                intro K hK
                refine wp_store_row 25 (.tmp 13) (.tmp 56) rfl bb #[.slice A0 n0 c0, .slice B0 m0 e0] rfl rfl 25 _ HBX.out size25 rfl (by simp [Value.oneCell']) ?_
                have SE := grew_setRow S5 hbx #[.slice A0 n0 c0, .slice B0 m0 e0]
                refine hK _ _ SE ?_
                clear hK K
                have HBE := setRow_heap v5 bb _ #[.slice A0 n0 c0, .slice B0 m0 e0] 25 (0, 0) HBX.out
                have hnb : ∀ j, (Value.slice A4 M c4).ownBlock = some j → j ≠ bb := fun j hj e => by
                  subst e
                  rcases OV.out.2 with ⟨h1, _⟩ | ⟨g, cap, cur, h1, _, h3, _⟩
                  · rw [h1] at hj; cases hj
                  · rw [h1] at hj
                    have e2 : g = j := by simpa [Value.ownBlock] using hj
                    subst e2
                    have := HBX.out
                    rw [h3] at this
                    injection this with this
                    injection this with _ h5
                    cases h5
                have OE : Hid ((v5.setRow bb #[.slice A0 n0 c0, .slice B0 m0 e0]).ownsRow wl.heap.size 29 5 (.slice A4 M c4) M (ans.flatMap ae)) := own_setRow OV.out hnb _
                refine wpAnyH_takes (fun _ _ _ _ _ h => h) SE [6] (fuel' := 0) (by kernel_rfl) (by kernel_rfl) (by simp only [pickOps, List.getElem?_toArray, List.getElem?_cons_zero, List.getElem?_cons_succ]; rfl) ?_
                repeat (first
                  | (refine TakeP.pure (v := ?_) (by rfl) ?_ ?_; rotate_left; (intro w' g'; go_simp; first | done | with_reducible rfl); (simp only [Act.put, List.setIfInBounds_toArray, List.set_cons_zero, List.set_cons_succ])))
                refine TakeP.nil ?_
                refine wpAnyH_done (by kernel_rfl) ?_ _
                have HAN : Hid (Anss (v5.setRow bb #[.slice A0 n0 c0, .slice B0 m0 e0]) A4 M c4 ans) := Recs.own LQ.out OE.out
                have J := HJ.out ⟨.slice (some ⟨h57, 0, none⟩) 0 0, A4, c4, bb⟩ _ ⟨HAN, fun h2 => own_left OE.out LQ.out (by omega), Lib.hid HBE, Nat.le_trans hwx hbx, fun y hy => by
                  subst hy
                  have h1 := OE.out.lt y.block rfl
                  exact h1, gwx.trans SE⟩
                simp only [Act.put, List.setIfInBounds_toArray, List.set_cons_zero, List.set_cons_succ] at J
                exact J
            · intro K hK
              go_simp
              have S6 := (Grew.refl wx).alloc (.cells #[.slice none 0 0, .slice none 0 0] 25)
              refine hK _ _ S6 ?_
              clear hK K
              obtain ⟨v6, hv6⟩ : ∃ y, y = wx.alloc (.cells #[.slice none 0 0, .slice none 0 0] 25) := ⟨_, rfl⟩
              have HBX : Hid (v6.heap[wx.heap.size]? = some (.cells #[.slice none 0 0, .slice none 0 0] 25)) := by unfold Hid; rw [hv6]; exact heap_alloc_new _ _
              have gal : Grew wx v6 := by rw [hv6]; exact (Grew.refl _).alloc _
              obtain ⟨bb, hbb⟩ : ∃ y, y = wx.heap.size := ⟨_, rfl⟩
              have hbx : wx.heap.size ≤ bb := by rw [hbb]; exact (Grew.refl wx).le
              rw [← hv6] at S6 ⊢
              rw [← hbb] at HBX ⊢
              clear hv6 hbb
              refine wpAnyH_step (i := 1) (by kernel_rfl) (fuel' := 3) (by kernel_rfl) (by simp only [pickOps, List.getElem?_toArray, List.getElem?_cons_zero, List.getElem?_cons_succ]; rfl) (by rfl) ?_
              intro K hK
              go_simp
              have S7 := (S6).alloc (.cells #[] 29)
              refine hK _ _ S7 ?_
              clear hK K
              have OW : Hid ((v6.alloc (.cells #[] 29)).ownsRow wl.heap.size 29 5 (.slice (some ⟨v6.heap.size, 0, none⟩) 0 0) 0 []) := own_zero (Nat.le_trans hwx (S6).le)
              obtain ⟨v7, hv7⟩ : ∃ y, y = v6.alloc (.cells #[] 29) := ⟨_, rfl⟩
              obtain ⟨h57, hh57⟩ : ∃ y, y = v6.heap.size := ⟨_, rfl⟩
              have h57le : wx.heap.size ≤ h57 := by rw [hh57]; exact (S6).le
              rw [← hv7] at S7 OW ⊢
              rw [← hh57] at OW ⊢
              have gbl : Grew v6 v7 := by rw [hv7]; exact (Grew.refl _).alloc _
              clear hv7 hh57
              replace HBX := Lib.hid (gbl.block HBX.out)
              refine wpAnyH_step (i := 3) (by kernel_rfl) (fuel' := 2) (by kernel_rfl) (by simp only [pickOps, List.getElem?_toArray, List.getElem?_cons_zero, List.getElem?_cons_succ]; rfl) (by rfl) ?_
              intro K hK
              obtain ⟨vv, v8, run8, own8, gr8, _⟩ := run_append_sl (P := Try.prog) v7 wl.heap.size 23 23 29 i0 _ 5 40 Try.underlying23 hi hz0 hz1 hz2 rfl (by decide) _ 0 _ OW.out _ M cq _ (HQx.out.grew S7).2 (flat_one ae_ok _) (by unfold maxLen; omega) (by omega) (Nat.le_trans hwx (S7).le)
              obtain ⟨A4, c4, rfl⟩ := own_form own8
              rw [Nat.zero_add, List.nil_append] at own8
              rw [Nat.zero_add] at run8
              refine wp_append_run v7 (.tmp 57) (.tmp 58) 23 23 rfl rfl rfl run8 ?_
              have S8 : Grew wx v8 := (S7).grown gr8 (fun j hj => le_of_blk h57le hj)
              refine hK _ _ S8 ?_
              clear hK K run8
              simp only [Act.put, List.setIfInBounds_toArray, List.set_cons_zero, List.set_cons_succ]
              have OV := Lib.hid own8
              replace HBX : Hid (v8.heap[bb]? = some (.cells #[.slice none 0 0, .slice none 0 0] 25)) := by unfold Hid; rw [gr8.block bb (Array.getElem?_eq_some_iff.1 HBX.out).1 (fun e => own_box_ne OW.out HBX.out e.symm)]; exact HBX.out
              clear own8 OW
              refine wpAnyH_step (i := 5) (by kernel_rfl) (fuel' := 1) (by kernel_rfl) (by simp only [pickOps, List.getElem?_toArray, List.getElem?_cons_zero, List.getElem?_cons_succ]; rfl) (by rfl) ?_
              intro K hK
              refine wp_store_row 25 (.tmp 13) (.tmp 56) rfl bb #[.slice A0 n0 c0, .slice B0 m0 e0] rfl rfl 25 _ HBX.out size25 rfl (by simp [Value.oneCell']) ?_
              have SE := grew_setRow S8 hbx #[.slice A0 n0 c0, .slice B0 m0 e0]
              refine hK _ _ SE ?_
              clear hK K
              have HBE := setRow_heap v8 bb _ #[.slice A0 n0 c0, .slice B0 m0 e0] 25 (0, 0) HBX.out
              have hnb : ∀ j, (Value.slice A4 M c4).ownBlock = some j → j ≠ bb := fun j hj e => by
                subst e
                rcases OV.out.2 with ⟨h1, _⟩ | ⟨g, cap, cur, h1, _, h3, _⟩
                · rw [h1] at hj; cases hj
                · rw [h1] at hj
                  have e2 : g = j := by simpa [Value.ownBlock] using hj
                  subst e2
                  have := HBX.out
                  rw [h3] at this
                  injection this with this
                  injection this with _ h5
                  cases h5
              have OE : Hid ((v8.setRow bb #[.slice A0 n0 c0, .slice B0 m0 e0]).ownsRow wl.heap.size 29 5 (.slice A4 M c4) M (ans.flatMap ae)) := own_setRow OV.out hnb _
              refine wpAnyH_takes (fun _ _ _ _ _ h => h) SE [6] (fuel' := 0) (by kernel_rfl) (by kernel_rfl) (by simp only [pickOps, List.getElem?_toArray, List.getElem?_cons_zero, List.getElem?_cons_succ]; rfl) ?_
              repeat (first
                | (refine TakeP.pure (v := ?_) (by rfl) ?_ ?_; rotate_left; (intro w' g'; go_simp; first | done | with_reducible rfl); (simp only [Act.put, List.setIfInBounds_toArray, List.set_cons_zero, List.set_cons_succ])))
              refine TakeP.nil ?_
              refine wpAnyH_done (by kernel_rfl) ?_ _
              have HAN : Hid (Anss (v8.setRow bb #[.slice A0 n0 c0, .slice B0 m0 e0]) A4 M c4 ans) := Recs.own LQ.out OE.out
              have J := HJ.out ⟨.slice (some ⟨h57, 0, none⟩) 0 0, A4, c4, bb⟩ _ ⟨HAN, fun h2 => own_left OE.out LQ.out (by omega), Lib.hid HBE, Nat.le_trans hwx hbx, fun y hy => by
                subst hy
                have h1 := OE.out.lt y.block rfl
                exact h1, gwx.trans SE⟩
              simp only [Act.put, List.setIfInBounds_toArray, List.set_cons_zero, List.set_cons_succ] at J
              exact J
          · rintro ⟨v57, L, cL, b13⟩ w13 ⟨HAL, hleft, HB13, hb13, _, g13⟩
            simp only [Act.put, List.setIfInBounds_toArray, List.set_cons_zero, List.set_cons_succ]
            replace HAL : Hid (Anss w13 L M cL ans) := HAL
            replace hleft : 2 ≤ M → LeftIs w13 wl.heap.size L M cL ans := hleft
            replace HB13 : Hid (w13.heap[b13]? = some (.cells #[.slice A0 n0 c0, .slice B0 m0 e0] 25)) := HB13
            replace hb13 : wl.heap.size ≤ b13 := hb13
            have HPd := Lib.hid (HP.out.grew gB)
            have hu8 : ∀ u : UInt8, u.toNat < 256 := fun u => UInt8.toNat_lt u
            go_wp2_with fail
            go_loopw [14, 62] (fun v i y => ∃ (k : Nat) (L : Option Addr) (cL : Nat) (l : List Ans), k ≤ np ∧ i = .int .i64 k ∧ v = .slice L M cL ∧ Hid (Anss y L M cL l) ∧ (2 ≤ M → LeftIs y wl.heap.size L M cL l) ∧ Hid (l.Perm ans) ∧ Hid (y.heap[b13]? = some (.cells #[.slice A0 n0 c0, .slice B0 m0 e0] 25)) ∧ Grew wl y) (fun _ i _ => np - (intOf i).toNat)
            case atStart => exact ⟨0, L, cL, ans, Nat.zero_le _, rfl, rfl, HAL, hleft, List.Perm.refl _, HB13, g13⟩
            case round =>
              clear HAL hleft HB13 g13
              obtain ⟨k, L, cL, l, hk, rfl, rfl, HAL, hleft, HPM, HB13, g13⟩ := hrel
              by_cases hlt : k < np
              · obtain ⟨bp, op, hPa, hpc⟩ := (HPd.out.grew g13).at_ (show 0 < np by omega)
                obtain ⟨u, hu⟩ : ∃ u, ps[k]? = some u := ⟨_, List.getElem?_eq_getElem (by rw [HPd.out.1]; exact hlt)⟩
                have pc := hpc k u hu
                obtain ⟨V, hV⟩ : ∃ V, V = u.toNat := ⟨_, rfl⟩
                have hV8 : V < 256 := by rw [hV]; exact hu8 u
                rw [← hV] at pc
                have k0 : (0 : Int) ≤ (k : Int) := by omega
                have k1 : (k : Int) < (np : Int) := by omega
                subst hPa
                clear hpc hu hV
                by_cases hM2 : 2 ≤ M
                rotate_left
                · have q1 : decide ((M : Int) > 1) = false := decide_eq_false (by omega)
                  have q1' : decide ((1 : Int) < (M : Int)) = false := decide_eq_false (by omega)
                  have q1n : decide (1 < M) = false := decide_eq_false (by omega)
                  go_wp2_with fail
                  go_roundw
                  case rel => exact ⟨k + 1, L, cL, l, by omega, by go_num, rfl, HAL, hleft, HPM, HB13, g13⟩
                  case measure => simp [intOf]; omega
                have q1 : decide ((M : Int) > 1) = true := decide_eq_true (by omega)
                have q1' : decide ((1 : Int) < (M : Int)) = true := decide_eq_true (by omega)
                have q1n : decide (1 < M) = true := decide_eq_true (by omega)
                by_cases hk40 : k < 40
                rotate_left
                · have q2 : decide ((k : Int) < 40) = false := decide_eq_false (by omega)
                  have q2n : decide (k < 40) = false := decide_eq_false (by omega)
                  go_wp2_with fail
                  go_roundw
                  case rel => exact ⟨k + 1, L, cL, l, by omega, by go_num, rfl, HAL, hleft, HPM, HB13, g13⟩
                  case measure => simp [intOf]; omega
                have q2 : decide ((k : Int) < 40) = true := decide_eq_true (by omega)
                have q2n : decide (k < 40) = true := decide_eq_true (by omega)
                obtain ⟨j, hj⟩ : ∃ j, j = V % M := ⟨_, rfl⟩
                have hjM : j < M := by rw [hj]; exact Nat.mod_lt _ (by omega)
                have e1 : (V : Int).tmod (M : Int) = (j : Int) := by rw [hj]; exact (Int.ofNat_tmod V M).symm
                have e2 : (V : Int) % (M : Int) = (j : Int) := by rw [hj]; exact (Int.natCast_emod V M).symm
                have e3 : V % M = j := hj.symm
                clear hj
                go_upto_region 19 with (fail)
                have HM2 := Lib.hid hM2
                obtain ⟨hl1, hl2, hl3, gL, oL, hLe, hrow⟩ := hleft hM2
                obtain ⟨x, l2, hxl⟩ : ∃ x l2, l = x :: l2 := by
                  match l, hl1 with
                  | [], h => simp at h; omega
                  | x :: l2, _ => exact ⟨x, l2, rfl⟩
                subst hxl hLe
                obtain ⟨y, hy⟩ : ∃ y, (x :: l2)[j]? = some y := ⟨_, List.getElem?_eq_getElem (by rw [hl1]; exact hjM)⟩
                have HSW := Lib.hid (swap_perm hy)
                have HY := Lib.hid hy
                have HL1 := Lib.hid hl1
                have HROW := Lib.hid hrow
                have j0 : (0 : Int) ≤ (j : Int) := by omega
                have j1 : (j : Int) < (M : Int) := by omega
                have m0' : (0 : Int) < (M : Int) := by omega
                have mn : 0 < M := by omega
                clear hl1 hrow hleft hy pc HAL e1 e2 e3
                obtain ⟨wx, hwx⟩ : ∃ y, y = wr.drew := ⟨_, rfl⟩
                have gx : Grew wr wx := by rw [hwx]; exact (Grew.refl wr).drew
                have HRX := Lib.hid (HROW.out.grew gx)
                have HBX := Lib.hid (gx.block HB13.out)
                obtain ⟨x0, x1, x2, x3, x4⟩ := a_row0 HRX.out
                obtain ⟨y0, y1, y2, y3, y4⟩ := a_rowk HRX.out HY.out
                have f := HRX.out.free
                refine wp_region_H (by kernel_rfl) (fun w' => wx.grownBy w' (some gL)) ?_
                rw [← hwx]
                clear hwx
                have SS := World.grownBy.refl wx (some gL)
                refine wpAnyH_takes (fun _ _ _ _ _ h => h) SS [0, 1, 2, 3, 4, 5, 7, 8] (fuel' := 6) (by kernel_rfl) (by kernel_rfl) (by simp only [pickOps, List.getElem?_toArray, List.getElem?_cons_zero, List.getElem?_cons_succ]; rfl) ?_
                repeat (first
                  | (refine TakeP.pure (v := ?_) (by rfl) ?_ ?_; rotate_left; (intro w' g'; go_simp; first | done | with_reducible rfl); (simp only [Act.put, List.setIfInBounds_toArray, List.set_cons_zero, List.set_cons_succ])))
                refine TakeP.nil ?_
                refine wpAnyH_two (i := 6) (j := 9) (by kernel_rfl) (fuel' := 5) (by kernel_rfl) (by simp only [pickOps, List.getElem?_toArray, List.getElem?_cons_zero, List.getElem?_cons_succ]; rfl) rfl (by simp only [pickOps, List.getElem?_toArray, List.getElem?_cons_zero, List.getElem?_cons_succ]; rfl) rfl ?_ ?_
                · intro K hK
                  go_simp
                  refine hK _ _ SS ?_
                  clear hK K
                  try (simp only [Act.put, List.setIfInBounds_toArray, List.set_cons_zero, List.set_cons_succ])
                  refine wpAnyH_step (i := 9) (by kernel_rfl) (fuel' := 4) (by kernel_rfl) (by simp only [pickOps, List.getElem?_toArray, List.getElem?_cons_zero, List.getElem?_cons_succ]; rfl) (by rfl) ?_
                  intro K hK
                  go_simp
                  refine hK _ _ SS ?_
                  clear hK K
                  try (simp only [Act.put, List.setIfInBounds_toArray, List.set_cons_zero, List.set_cons_succ])
                  refine wpAnyH_takes (fun _ _ _ _ _ h => h) SS [10] (fuel' := 3) (by kernel_rfl) (by kernel_rfl) (by simp only [pickOps, List.getElem?_toArray, List.getElem?_cons_zero, List.getElem?_cons_succ]; rfl) ?_
                  repeat (first
                    | (refine TakeP.pure (v := ?_) (by rfl) ?_ ?_; rotate_left; (intro w' g'; go_simp; first | done | with_reducible rfl); (simp only [Act.put, List.setIfInBounds_toArray, List.set_cons_zero, List.set_cons_succ])))
                  refine TakeP.nil ?_
                  refine wpAnyH_step (i := 11) (by kernel_rfl) (fuel' := 2) (by kernel_rfl) (by simp only [pickOps, List.getElem?_toArray, List.getElem?_cons_zero, List.getElem?_cons_succ]; rfl) (by rfl) ?_
                  intro K hK
                  have f0 := f oL
                  have f1 := f (oL + 1)
                  have f2 := f (oL + 2)
                  have f3 := f (oL + 3)
                  have f4 := f (oL + 4)
                  clear y0 y1 y2 y3 y4
                  go_simp
                  clear f0 f1 f2 f3 f4 x0 x1 x2 x3 x4
                  have HR1 : Hid (Row (Go.Proofs.Ytaocjobbfcfleaa.five wx gL oL y) wl.heap.size gL oL cL (M * 5) ((y :: l2).flatMap ae)) := HRX.out.five0 y
                  have S1 : wx.grownBy (Go.Proofs.Ytaocjobbfcfleaa.five wx gL oL y) (some gL) := five_by gL oL y (World.grownBy.refl wx (some gL))
                  have SS1 := S1
                  unfold Go.Proofs.Ytaocjobbfcfleaa.five at SS1
                  refine hK _ _ SS1 ?_
                  clear hK K SS1
                  try (simp only [Act.put, List.setIfInBounds_toArray, List.set_cons_zero, List.set_cons_succ])
                  obtain ⟨wv, hwv⟩ : ∃ z, z = Go.Proofs.Ytaocjobbfcfleaa.five wx gL oL y := ⟨_, rfl⟩
                  have hwv2 := hwv
                  unfold Go.Proofs.Ytaocjobbfcfleaa.five at hwv2
                  rw [← hwv2]
                  rw [← hwv] at HR1 S1
                  clear hwv hwv2
                  have SS := S1
                  refine wpAnyH_takes (fun _ _ _ _ _ h => h) SS [12] (fuel' := 1) (by kernel_rfl) (by kernel_rfl) (by simp only [pickOps, List.getElem?_toArray, List.getElem?_cons_zero, List.getElem?_cons_succ]; rfl) ?_
                  repeat (first
                    | (refine TakeP.pure (v := ?_) (by rfl) ?_ ?_; rotate_left; (intro w' g'; go_simp; first | done | with_reducible rfl); (simp only [Act.put, List.setIfInBounds_toArray, List.set_cons_zero, List.set_cons_succ])))
                  refine TakeP.nil ?_
                  refine wpAnyH_step (i := 13) (by kernel_rfl) (fuel' := 0) (by kernel_rfl) (by simp only [pickOps, List.getElem?_toArray, List.getElem?_cons_zero, List.getElem?_cons_succ]; rfl) (by rfl) ?_
                  intro K hK
                  obtain ⟨z, hz⟩ : ∃ z, (y :: l2)[j]? = some z := ⟨_, List.getElem?_eq_getElem (by have := HL1.out; simp at this ⊢; omega)⟩
                  obtain ⟨y0, y1, y2, y3, y4⟩ := a_rowk HR1.out hz
                  have f := HR1.out.free
                  have f0 := f (oL + j * 5)
                  have f1 := f (oL + j * 5 + 1)
                  have f2 := f (oL + j * 5 + 2)
                  have f3 := f (oL + j * 5 + 3)
                  have f4 := f (oL + j * 5 + 4)
                  clear hz f
                  go_simp
                  clear f0 f1 f2 f3 f4 y0 y1 y2 y3 y4
                  have HR2 : Hid (Row (Go.Proofs.Ytaocjobbfcfleaa.five wv gL (oL + j * 5) x) wl.heap.size gL oL cL (M * 5) ((swapA (x :: l2) j x y).flatMap ae)) := HR1.out.five (k := j) (by have := HL1.out; simp at this ⊢; omega) x
                  have S2 : wx.grownBy (Go.Proofs.Ytaocjobbfcfleaa.five wv gL (oL + j * 5) x) (some gL) := five_by gL (oL + j * 5) x S1
                  have SS2 := S2
                  unfold Go.Proofs.Ytaocjobbfcfleaa.five at SS2
                  refine hK _ _ SS2 ?_
                  clear hK K SS2
                  try (simp only [Act.put, List.setIfInBounds_toArray, List.set_cons_zero, List.set_cons_succ])
                  obtain ⟨wz, hwz⟩ : ∃ z, z = Go.Proofs.Ytaocjobbfcfleaa.five wv gL (oL + j * 5) x := ⟨_, rfl⟩
                  have hwz2 := hwz
                  unfold Go.Proofs.Ytaocjobbfcfleaa.five at hwz2
                  rw [← hwz2]
                  rw [← hwz] at HR2 S2
                  clear hwz hwz2 HR1 S1
                  refine wpAnyH_done (by kernel_rfl) ?_ _
                  have gz : Grew wl wz := (g13.trans gx).grown S2 (fun k hk => by injection hk with hk; rw [← hk]; exact HRX.out.lo)
                  have HBz : Hid (wz.heap[b13]? = some (.cells #[.slice A0 n0 c0, .slice B0 m0 e0] 25)) := by
                    unfold Hid
                    rw [S2.block b13 (Array.getElem?_eq_some_iff.1 HBX.out).1 (fun e => row_box_ne HRX.out HBX.out (by injection e with e; exact e.symm))]
                    exact HBX.out
                  clear S2 HROW HB13 g13 HRX HBX gx
                  go_upto_region 20 with (fail)
                  obtain ⟨x3, l3, hsw⟩ : ∃ x3 l3, swapA (x :: l2) j x y = x3 :: l3 := by
                    unfold swapA
                    cases j with
                    | zero => exact ⟨_, _, rfl⟩
                    | succ j => exact ⟨_, _, rfl⟩
                  have HS3 := HSW
                  rw [hsw] at HR2 HS3
                  have HL3 : Hid ((x3 :: l3).length = M) := by unfold Hid; rw [HS3.out.length_eq]; exact HL1.out
                  have HP3 : Hid ((l3 ++ [x3]).Perm ans) := ((rot_perm x3 l3).trans HS3.out).trans HPM.out
                  clear hsw HS3
                  have hMc : M ≤ cL := hl2
                  have r2 : ∀ w', (Instr.slice 23 (.slice (some ⟨gL, oL, none⟩) M cL) (some (.int .i64 1)) none none).run Try.prog w' = .ok (.slice (some ⟨gL, oL + 5, none⟩) (M - 1) (cL - 1)) w' := fun w' => by
                    have h9 := run_slice_tail (P := Try.prog) w' 23 5 elem23 (sizeE23 w') (some ⟨gL, oL, none⟩) M cL 1 .i64 (by have := HM2.out; omega)
                    unfold tailA at h9
                    rw [if_neg (by have := HM2.out; omega)] at h9
                    simpa [Addr.add] using h9
                  have hrow3 := HR2.out
                  have hC : ∀ w', Grew wz.drew w' → w'.cell? ⟨gL, oL, none⟩ = some (.int .i64 x3.q) ∧ w'.cell? ⟨gL, oL + 1, none⟩ = some (.int .i64 x3.id) ∧ w'.cell? ⟨gL, oL + 2, none⟩ = some (.int .i64 x3.k) ∧ w'.cell? ⟨gL, oL + 3, none⟩ = some (.int .i64 x3.c) ∧ w'.cell? ⟨gL, oL + 4, none⟩ = some (.int .i64 x3.d) := fun w' g' => a_row0 ((hrow3.grew (Grew.refl wz).drew).grew g')
                  clear hrow3
                  refine wp_region_G (G := Grew) (by kernel_rfl) Grew.refl 6 ?_
                  refine wpAnyG_takes Grew.refl (fun _ _ _ => Grew.trans) (fun _ _ _ _ _ h => h) [0, 1, 2, 3, 4] (fuel' := 3) (by kernel_rfl) (by kernel_rfl) (by simp only [pickOps, List.getElem?_toArray, List.getElem?_cons_zero, List.getElem?_cons_succ]; rfl) ?_
                  repeat (first
                    | (refine TakeAll.pure (v := ?_) (by rfl) ?_ ?_; rotate_left; (intro w' g'; obtain ⟨x0, x1, x2, x3', x4⟩ := hC w' g'; go_simp; first | done | with_reducible rfl); (simp only [Act.put, List.setIfInBounds_toArray, List.set_cons_zero, List.set_cons_succ]))
                    | (refine TakeAll.skip (by rfl) ?_; (simp only [Act.put, List.setIfInBounds_toArray, List.set_cons_zero, List.set_cons_succ])))
                  refine TakeAll.nil ?_
                  refine wpAnyG_step (i := 5) (by kernel_rfl) (fuel' := 2) (by kernel_rfl) (by simp only [pickOps, List.getElem?_toArray, List.getElem?_cons_zero, List.getElem?_cons_succ]; rfl) rfl ?_
                  intro w1' g1' K hK
                  go_simp
                  have ga2 := (Grew.refl w1').alloc (.cells #[.int .i64 x3.q, .int .i64 x3.id, .int .i64 x3.k, .int .i64 x3.c, .int .i64 x3.d] 29)
                  refine hK _ _ ga2 ?_
                  clear hK K
                  have BI := Lib.hid (Recs.built (w := w1') ae_ok (t := 29) (l := [x3]) (n := 1) #[.int .i64 x3.q, .int .i64 x3.id, .int .i64 x3.k, .int .i64 x3.c, .int .i64 x3.d] rfl rfl (by decide))
                  obtain ⟨v1, hv1⟩ : ∃ y, y = w1'.alloc (.cells #[.int .i64 x3.q, .int .i64 x3.id, .int .i64 x3.k, .int .i64 x3.c, .int .i64 x3.d] 29) := ⟨_, rfl⟩
                  rw [← hv1] at BI ga2 ⊢
                  obtain ⟨bz, hbz⟩ : ∃ z, z = w1'.heap.size := ⟨_, rfl⟩
                  rw [← hbz] at BI ⊢
                  clear hv1 hbz
                  refine wpAnyG_end (by kernel_rfl) (fuel' := 1) (by kernel_rfl) (by simp only [pickOps, List.getElem?_toArray, List.getElem?_cons_zero, List.getElem?_cons_succ]; rfl) rfl ?_
                  intro v2 g2 K hK
                  have gA : Grew wz v2 := (Grew.refl wz).drew.trans ((g1'.trans ga2).trans g2)
                  obtain ⟨A9, c9, v3, run9, left9, gr9, box9⟩ := LeftIs.rot (w := v2) HL3.out HM2.out (by omega) hMc hl3 (HR2.out.grew gA) (BI.out.grew g2) (gz.trans gA).le i0 hi hz0 hz1 hz2
                  refine wp_append_run v2 (.tmp 92) (.tmp 96) 23 23 rfl rfl rfl run9 ?_
                  refine hK _ _ ?_
                  clear hK K run9
                  try (simp only [Act.put, List.setIfInBounds_toArray, List.set_cons_zero, List.set_cons_succ])
                  have HB9 := Lib.hid (box9 b13 _ (gA.block HBz.out))
                  have gE := gr9 wl (gz.trans gA) (Nat.le_refl _)
                  have HA9 := Lib.hid left9.anss
                  have hlf : 2 ≤ M → LeftIs v3 wl.heap.size A9 M c9 (l3 ++ [x3]) := fun _ => left9
                  clear left9 gr9 box9 hC r2 HR2 BI gA HBz gz
                  refine wpAny_rest (fun _ _ _ _ _ h => h) [7] (by kernel_rfl) (by kernel_rfl) (by kernel_rfl) (by simp only [pickOps, List.getElem?_toArray, List.getElem?_cons_zero, List.getElem?_cons_succ]; rfl) ?_
                  repeat (first
                    | (refine TakeAll.pure (v := ?_) (by rfl) ?_ ?_; rotate_left; (intro w' g'; go_simp; first | done | with_reducible rfl); (simp only [Act.put, List.setIfInBounds_toArray, List.set_cons_zero, List.set_cons_succ]))
                    | (refine TakeAll.skip (by rfl) ?_; (simp only [Act.put, List.setIfInBounds_toArray, List.set_cons_zero, List.set_cons_succ])))
                  refine TakeAll.nil ?_
                  go_wp2_with fail
                  go_roundw
                  case rel => exact ⟨k + 1, A9, c9, l3 ++ [x3], by omega, by go_num, rfl, HA9, hlf, HP3, HB9, gE⟩
                  case measure => simp [intOf]; omega
                · intro K hK
                  go_simp
                  refine hK _ _ SS ?_
                  clear hK K
                  try (simp only [Act.put, List.setIfInBounds_toArray, List.set_cons_zero, List.set_cons_succ])
                  refine wpAnyH_step (i := 6) (by kernel_rfl) (fuel' := 4) (by kernel_rfl) (by simp only [pickOps, List.getElem?_toArray, List.getElem?_cons_zero, List.getElem?_cons_succ]; rfl) (by rfl) ?_
                  intro K hK
                  go_simp
                  refine hK _ _ SS ?_
                  clear hK K
                  try (simp only [Act.put, List.setIfInBounds_toArray, List.set_cons_zero, List.set_cons_succ])
                  refine wpAnyH_takes (fun _ _ _ _ _ h => h) SS [10] (fuel' := 3) (by kernel_rfl) (by kernel_rfl) (by simp only [pickOps, List.getElem?_toArray, List.getElem?_cons_zero, List.getElem?_cons_succ]; rfl) ?_
                  repeat (first
                    | (refine TakeP.pure (v := ?_) (by rfl) ?_ ?_; rotate_left; (intro w' g'; go_simp; first | done | with_reducible rfl); (simp only [Act.put, List.setIfInBounds_toArray, List.set_cons_zero, List.set_cons_succ])))
                  refine TakeP.nil ?_
                  refine wpAnyH_step (i := 11) (by kernel_rfl) (fuel' := 2) (by kernel_rfl) (by simp only [pickOps, List.getElem?_toArray, List.getElem?_cons_zero, List.getElem?_cons_succ]; rfl) (by rfl) ?_
                  intro K hK
                  have f0 := f oL
                  have f1 := f (oL + 1)
                  have f2 := f (oL + 2)
                  have f3 := f (oL + 3)
                  have f4 := f (oL + 4)
                  clear y0 y1 y2 y3 y4
                  go_simp
                  clear f0 f1 f2 f3 f4 x0 x1 x2 x3 x4
                  have HR1 : Hid (Row (Go.Proofs.Ytaocjobbfcfleaa.five wx gL oL y) wl.heap.size gL oL cL (M * 5) ((y :: l2).flatMap ae)) := HRX.out.five0 y
                  have S1 : wx.grownBy (Go.Proofs.Ytaocjobbfcfleaa.five wx gL oL y) (some gL) := five_by gL oL y (World.grownBy.refl wx (some gL))
                  have SS1 := S1
                  unfold Go.Proofs.Ytaocjobbfcfleaa.five at SS1
                  refine hK _ _ SS1 ?_
                  clear hK K SS1
                  try (simp only [Act.put, List.setIfInBounds_toArray, List.set_cons_zero, List.set_cons_succ])
                  obtain ⟨wv, hwv⟩ : ∃ z, z = Go.Proofs.Ytaocjobbfcfleaa.five wx gL oL y := ⟨_, rfl⟩
                  have hwv2 := hwv
                  unfold Go.Proofs.Ytaocjobbfcfleaa.five at hwv2
                  rw [← hwv2]
                  rw [← hwv] at HR1 S1
                  clear hwv hwv2
                  have SS := S1
                  refine wpAnyH_takes (fun _ _ _ _ _ h => h) SS [12] (fuel' := 1) (by kernel_rfl) (by kernel_rfl) (by simp only [pickOps, List.getElem?_toArray, List.getElem?_cons_zero, List.getElem?_cons_succ]; rfl) ?_
                  repeat (first
                    | (refine TakeP.pure (v := ?_) (by rfl) ?_ ?_; rotate_left; (intro w' g'; go_simp; first | done | with_reducible rfl); (simp only [Act.put, List.setIfInBounds_toArray, List.set_cons_zero, List.set_cons_succ])))
                  refine TakeP.nil ?_
                  refine wpAnyH_step (i := 13) (by kernel_rfl) (fuel' := 0) (by kernel_rfl) (by simp only [pickOps, List.getElem?_toArray, List.getElem?_cons_zero, List.getElem?_cons_succ]; rfl) (by rfl) ?_
                  intro K hK
                  obtain ⟨z, hz⟩ : ∃ z, (y :: l2)[j]? = some z := ⟨_, List.getElem?_eq_getElem (by have := HL1.out; simp at this ⊢; omega)⟩
                  obtain ⟨y0, y1, y2, y3, y4⟩ := a_rowk HR1.out hz
                  have f := HR1.out.free
                  have f0 := f (oL + j * 5)
                  have f1 := f (oL + j * 5 + 1)
                  have f2 := f (oL + j * 5 + 2)
                  have f3 := f (oL + j * 5 + 3)
                  have f4 := f (oL + j * 5 + 4)
                  clear hz f
                  go_simp
                  clear f0 f1 f2 f3 f4 y0 y1 y2 y3 y4
                  have HR2 : Hid (Row (Go.Proofs.Ytaocjobbfcfleaa.five wv gL (oL + j * 5) x) wl.heap.size gL oL cL (M * 5) ((swapA (x :: l2) j x y).flatMap ae)) := HR1.out.five (k := j) (by have := HL1.out; simp at this ⊢; omega) x
                  have S2 : wx.grownBy (Go.Proofs.Ytaocjobbfcfleaa.five wv gL (oL + j * 5) x) (some gL) := five_by gL (oL + j * 5) x S1
                  have SS2 := S2
                  unfold Go.Proofs.Ytaocjobbfcfleaa.five at SS2
                  refine hK _ _ SS2 ?_
                  clear hK K SS2
                  try (simp only [Act.put, List.setIfInBounds_toArray, List.set_cons_zero, List.set_cons_succ])
                  obtain ⟨wz, hwz⟩ : ∃ z, z = Go.Proofs.Ytaocjobbfcfleaa.five wv gL (oL + j * 5) x := ⟨_, rfl⟩
                  have hwz2 := hwz
                  unfold Go.Proofs.Ytaocjobbfcfleaa.five at hwz2
                  rw [← hwz2]
                  rw [← hwz] at HR2 S2
                  clear hwz hwz2 HR1 S1
                  refine wpAnyH_done (by kernel_rfl) ?_ _
                  have gz : Grew wl wz := (g13.trans gx).grown S2 (fun k hk => by injection hk with hk; rw [← hk]; exact HRX.out.lo)
                  have HBz : Hid (wz.heap[b13]? = some (.cells #[.slice A0 n0 c0, .slice B0 m0 e0] 25)) := by
                    unfold Hid
                    rw [S2.block b13 (Array.getElem?_eq_some_iff.1 HBX.out).1 (fun e => row_box_ne HRX.out HBX.out (by injection e with e; exact e.symm))]
                    exact HBX.out
                  clear S2 HROW HB13 g13 HRX HBX gx
                  go_upto_region 20 with (fail)
                  obtain ⟨x3, l3, hsw⟩ : ∃ x3 l3, swapA (x :: l2) j x y = x3 :: l3 := by
                    unfold swapA
                    cases j with
                    | zero => exact ⟨_, _, rfl⟩
                    | succ j => exact ⟨_, _, rfl⟩
                  have HS3 := HSW
                  rw [hsw] at HR2 HS3
                  have HL3 : Hid ((x3 :: l3).length = M) := by unfold Hid; rw [HS3.out.length_eq]; exact HL1.out
                  have HP3 : Hid ((l3 ++ [x3]).Perm ans) := ((rot_perm x3 l3).trans HS3.out).trans HPM.out
                  clear hsw HS3
                  have hMc : M ≤ cL := hl2
                  have r2 : ∀ w', (Instr.slice 23 (.slice (some ⟨gL, oL, none⟩) M cL) (some (.int .i64 1)) none none).run Try.prog w' = .ok (.slice (some ⟨gL, oL + 5, none⟩) (M - 1) (cL - 1)) w' := fun w' => by
                    have h9 := run_slice_tail (P := Try.prog) w' 23 5 elem23 (sizeE23 w') (some ⟨gL, oL, none⟩) M cL 1 .i64 (by have := HM2.out; omega)
                    unfold tailA at h9
                    rw [if_neg (by have := HM2.out; omega)] at h9
                    simpa [Addr.add] using h9
                  have hrow3 := HR2.out
                  have hC : ∀ w', Grew wz.drew w' → w'.cell? ⟨gL, oL, none⟩ = some (.int .i64 x3.q) ∧ w'.cell? ⟨gL, oL + 1, none⟩ = some (.int .i64 x3.id) ∧ w'.cell? ⟨gL, oL + 2, none⟩ = some (.int .i64 x3.k) ∧ w'.cell? ⟨gL, oL + 3, none⟩ = some (.int .i64 x3.c) ∧ w'.cell? ⟨gL, oL + 4, none⟩ = some (.int .i64 x3.d) := fun w' g' => a_row0 ((hrow3.grew (Grew.refl wz).drew).grew g')
                  clear hrow3
                  refine wp_region_G (G := Grew) (by kernel_rfl) Grew.refl 6 ?_
                  refine wpAnyG_takes Grew.refl (fun _ _ _ => Grew.trans) (fun _ _ _ _ _ h => h) [0, 1, 2, 3, 4] (fuel' := 3) (by kernel_rfl) (by kernel_rfl) (by simp only [pickOps, List.getElem?_toArray, List.getElem?_cons_zero, List.getElem?_cons_succ]; rfl) ?_
                  repeat (first
                    | (refine TakeAll.pure (v := ?_) (by rfl) ?_ ?_; rotate_left; (intro w' g'; obtain ⟨x0, x1, x2, x3', x4⟩ := hC w' g'; go_simp; first | done | with_reducible rfl); (simp only [Act.put, List.setIfInBounds_toArray, List.set_cons_zero, List.set_cons_succ]))
                    | (refine TakeAll.skip (by rfl) ?_; (simp only [Act.put, List.setIfInBounds_toArray, List.set_cons_zero, List.set_cons_succ])))
                  refine TakeAll.nil ?_
                  refine wpAnyG_step (i := 5) (by kernel_rfl) (fuel' := 2) (by kernel_rfl) (by simp only [pickOps, List.getElem?_toArray, List.getElem?_cons_zero, List.getElem?_cons_succ]; rfl) rfl ?_
                  intro w1' g1' K hK
                  go_simp
                  have ga2 := (Grew.refl w1').alloc (.cells #[.int .i64 x3.q, .int .i64 x3.id, .int .i64 x3.k, .int .i64 x3.c, .int .i64 x3.d] 29)
                  refine hK _ _ ga2 ?_
                  clear hK K
                  have BI := Lib.hid (Recs.built (w := w1') ae_ok (t := 29) (l := [x3]) (n := 1) #[.int .i64 x3.q, .int .i64 x3.id, .int .i64 x3.k, .int .i64 x3.c, .int .i64 x3.d] rfl rfl (by decide))
                  obtain ⟨v1, hv1⟩ : ∃ y, y = w1'.alloc (.cells #[.int .i64 x3.q, .int .i64 x3.id, .int .i64 x3.k, .int .i64 x3.c, .int .i64 x3.d] 29) := ⟨_, rfl⟩
                  rw [← hv1] at BI ga2 ⊢
                  obtain ⟨bz, hbz⟩ : ∃ z, z = w1'.heap.size := ⟨_, rfl⟩
                  rw [← hbz] at BI ⊢
                  clear hv1 hbz
                  refine wpAnyG_end (by kernel_rfl) (fuel' := 1) (by kernel_rfl) (by simp only [pickOps, List.getElem?_toArray, List.getElem?_cons_zero, List.getElem?_cons_succ]; rfl) rfl ?_
                  intro v2 g2 K hK
                  have gA : Grew wz v2 := (Grew.refl wz).drew.trans ((g1'.trans ga2).trans g2)
                  obtain ⟨A9, c9, v3, run9, left9, gr9, box9⟩ := LeftIs.rot (w := v2) HL3.out HM2.out (by omega) hMc hl3 (HR2.out.grew gA) (BI.out.grew g2) (gz.trans gA).le i0 hi hz0 hz1 hz2
                  refine wp_append_run v2 (.tmp 92) (.tmp 96) 23 23 rfl rfl rfl run9 ?_
                  refine hK _ _ ?_
                  clear hK K run9
                  try (simp only [Act.put, List.setIfInBounds_toArray, List.set_cons_zero, List.set_cons_succ])
                  have HB9 := Lib.hid (box9 b13 _ (gA.block HBz.out))
                  have gE := gr9 wl (gz.trans gA) (Nat.le_refl _)
                  have HA9 := Lib.hid left9.anss
                  have hlf : 2 ≤ M → LeftIs v3 wl.heap.size A9 M c9 (l3 ++ [x3]) := fun _ => left9
                  clear left9 gr9 box9 hC r2 HR2 BI gA HBz gz
                  refine wpAny_rest (fun _ _ _ _ _ h => h) [7] (by kernel_rfl) (by kernel_rfl) (by kernel_rfl) (by simp only [pickOps, List.getElem?_toArray, List.getElem?_cons_zero, List.getElem?_cons_succ]; rfl) ?_
                  repeat (first
                    | (refine TakeAll.pure (v := ?_) (by rfl) ?_ ?_; rotate_left; (intro w' g'; go_simp; first | done | with_reducible rfl); (simp only [Act.put, List.setIfInBounds_toArray, List.set_cons_zero, List.set_cons_succ]))
                    | (refine TakeAll.skip (by rfl) ?_; (simp only [Act.put, List.setIfInBounds_toArray, List.set_cons_zero, List.set_cons_succ])))
                  refine TakeAll.nil ?_
                  go_wp2_with fail
                  go_roundw
                  case rel => exact ⟨k + 1, A9, c9, l3 ++ [x3], by omega, by go_num, rfl, HA9, hlf, HP3, HB9, gE⟩
                  case measure => simp [intOf]; omega
              · obtain rfl : np = k := by omega
                have hWm : Hid (∀ y, y ∈ W.an ↔ y ∈ ans ∨ y ∈ d.an) := (chain_res HV.out HCH.out).2.2.1
                have HO : Hid (Out d W ans 0 d l) := Out.begin HV.out HCH.out hm60 (by rw [LQ.out]; exact hM) HPM.out
                have HN := Lib.hid (HDd.out.grew g13)
                clear hlt hleft HV HCH HPM HDd hm60
                go_wp2_with fail
                go_loopw [14, 101] (fun v i y => ∃ (r : Nat) (L : Option Addr) (nl cL : Nat) (left : List Ans) (now : Desk) (A5 : Option Addr) (n5 c5 : Nat) (B5 : Option Addr) (m5 e5 : Nat), r ≤ M ∧ i = .int .i64 r ∧ v = .slice L nl cL ∧ nl ≤ 12 ∧ Hid (Anss y L nl cL left) ∧ Hid (y.heap[b13]? = some (.cells #[.slice A5 n5 c5, .slice B5 m5 e5] 25)) ∧ Hid (DeskIs y A5 n5 c5 B5 m5 e5 now) ∧ Hid (Out d W ans r now left) ∧ Grew wl y) (fun _ i _ => M - (intOf i).toNat)
                case atStart => exact ⟨0, L, M, cL, l, d, A0, n0, c0, B0, m0, e0, Nat.zero_le _, rfl, rfl, hM, HAL, HB13, HN, HO, g13⟩
                case round =>
                  clear HAL HB13 HN HO g13
                  obtain ⟨r, L, nl, cL, left, now, A5, n5, c5, B5, m5, e5, hk, rfl, rfl, hnl, HAL, HB13, HN, HO, g13⟩ := hrel
                  by_cases hlt : r < M
                  · go_wp2_with fail
                    go_loopw [18, 105] (fun v i y => ∃ (j : Nat) (T : Option Addr) (jl ct : Nat) (later : List Ans) (now : Desk) (A6 : Option Addr) (n6 c6 : Nat) (B6 : Option Addr) (m6 e6 : Nat), j ≤ nl ∧ jl ≤ j ∧ i = .int .i64 j ∧ v = .slice T jl ct ∧ Hid (later.length = jl) ∧ Hid (y.ownsRow wl.heap.size 29 5 (.slice T jl ct) jl (later.flatMap ae)) ∧ Hid (Anss y L nl cL left) ∧ Hid (y.heap[b13]? = some (.cells #[.slice A6 n6 c6, .slice B6 m6 e6] 25)) ∧ Hid (DeskIs y A6 n6 c6 B6 m6 e6 now) ∧ Hid (Inn d W ans r now (left.drop j) later) ∧ Hid (∀ g, (Value.slice T jl ct).ownBlock = some g → OffN L nl g ∧ OffN A6 n6 g ∧ OffN B6 m6 g) ∧ Grew wl y) (fun _ i _ => nl - (intOf i).toNat)
                    case atStart => exact ⟨0, none, 0, 0, [], now, A5, n5, c5, B5, m5, e5, Nat.zero_le _, Nat.le_refl _, rfl, rfl, rfl, ⟨rfl, .inl ⟨rfl, rfl⟩⟩, HAL, HB13, HN, Lib.hid HO.out.inn, Lib.hid (fun g hg => by simp [Value.ownBlock] at hg), g13⟩
                    case round =>
                      clear HAL HB13 HN HO g13
                      obtain ⟨j, T, jl, ct, later, now, A6, n6, c6, B6, m6, e6, hj, hjl, rfl, rfl, HTL, OW, HAL, HB13, HN, HI, HOF, g13⟩ := hrel
                      by_cases hlj : j < nl
                      · obtain ⟨gl, o, a, hLa, ha, hr⟩ := HAL.out.at_ ae_ok hlj
                        have HIa : Hid (Inn d W ans r now (a :: left.drop (j + 1)) later) := by
                          have h1 := HI.out
                          obtain ⟨hj2, he2⟩ := List.getElem?_eq_some_iff.1 ha
                          rw [List.drop_eq_getElem_cons hj2, he2] at h1
                          exact h1
                        have k0 : (0 : Int) ≤ (j : Int) := by omega
                        have k1 : (j : Int) < (nl : Int) := by omega
                        subst hLa
                        obtain ⟨c1', c2', c3', c4', c5'⟩ := a_cells hr
                        obtain ⟨wa, hwa⟩ : ∃ y, y = wr.alloc (.cells #[.int .i64 a.q, .int .i64 a.id, .int .i64 a.k, .int .i64 a.c, .int .i64 a.d] 29) := ⟨_, rfl⟩
                        have g : Grew wr wa := by rw [hwa]; exact (Grew.refl wr).alloc _
                        obtain ⟨bx, hbx⟩ : ∃ b, b = wr.heap.size := ⟨_, rfl⟩
                        have HRX : Hid (wa.rangeAt bx 0 (ae a)) := by unfold Hid; rw [hwa, hbx]; exact range_new wr (ae a) 29
                        replace HB13 := Lib.hid (g.block HB13.out)
                        replace HN := Lib.hid (HN.out.grew g)
                        replace HAL := Lib.hid (Recs.grew HAL.out g)
                        replace OW := Lib.hid (own_grew OW.out g)
                        replace g13 := g13.trans g
                        clear g hr ha HI
                        go_upto_region 28 with (fail)
                        rw [← hwa, ← hbx]
                        clear hwa hbx c1' c2' c3' c4' c5'
                        have hTl : Hid (∀ g, (Value.slice T jl ct).ownBlock = some g → g < wa.heap.size) := fun g hg => (OW.out.lt g hg).2
                        rcases Inn.step hWm.out HIa.out with ⟨he, HI2⟩ | ⟨he, HI2⟩
                        · skip
                          obtain ⟨d1, hd1⟩ : ∃ z, applyD now a = z := ⟨_, rfl⟩
                          have HINN := Lib.hid HI2
                          clear HI2
                          obtain ⟨c1', c2', c3', c4', c5'⟩ := a_cells0 HRX.out
                          obtain ⟨y0, y1⟩ := d_cells (row_at (l := [.slice A6 n6 c6, .slice B6 m6 e6]) HB13.out)
                          have hEE := Lib.hid he
                          clear he
                          go_wp2_with fail
                          clear y0 y1 c1' c2' c3' c4' c5'
                          refine (applyF_val HN.out hEE.out hd1).mono ?_
                          rintro rr w8 ⟨A7, n7, c7, B7, m7, e7, rfl, hk1, g, hfA, hfB⟩
                          have HFA := Lib.hid hfA
                          have HFB := Lib.hid hfB
                          replace HB13 := Lib.hid (g.block HB13.out)
                          replace HN := Lib.hid (HN.out.grew g)
                          replace HAL := Lib.hid (Recs.grew HAL.out g)
                          replace OW := Lib.hid (own_grew OW.out g)
                          replace HRX := Lib.hid (range_grew HRX.out g)
                          replace g13 := g13.trans g
                          clear g hfA hfB
                          obtain ⟨w9, hw⟩ : ∃ y, y = w8.alloc (.cells #[.slice A7 n7 c7, .slice B7 m7 e7] 25) := ⟨_, rfl⟩
                          have g : Grew w8 w9 := by rw [hw]; exact (Grew.refl _).alloc _
                          obtain ⟨b9, hb⟩ : ∃ z, z = w8.heap.size := ⟨_, rfl⟩
                          have HR1 : Hid (w9.rangeAt b9 0 [.slice A7 n7 c7, .slice B7 m7 e7]) := by unfold Hid; rw [hw, hb]; exact range_new w8 _ 25
                          have HD1 := Lib.hid (hk1.grew g)
                          clear hk1
                          replace HB13 := Lib.hid (g.block HB13.out)
                          replace HN := Lib.hid (HN.out.grew g)
                          replace HAL := Lib.hid (Recs.grew HAL.out g)
                          replace OW := Lib.hid (own_grew OW.out g)
                          replace HRX := Lib.hid (range_grew HRX.out g)
                          replace g13 := g13.trans g
                          clear g
                          go_upto_region 29 with (fail)
                          rw [← hw, ← hb]
                          clear hw hb
                          have HIN : Hid (Inn d W ans r d1 (left.drop (j + 1)) later) := by unfold Hid; rw [← hd1]; exact HINN.out
                          obtain ⟨y0, y1⟩ := d_cells (row_at (l := [.slice A6 n6 c6, .slice B6 m6 e6]) HB13.out)
                          obtain ⟨x0, x1⟩ := d_cells HR1.out
                          have f0 := row_free HB13.out 0
                          have f1 := row_free HB13.out 1
                          have HB2 := Lib.hid (set2g HB13.out (.slice A7 n7 c7) (.slice B7 m7 e7))
                          have HD2 := Lib.hid (desk_set2 HD1.out HB13.out (.slice A7 n7 c7) (.slice B7 m7 e7))
                          have HA2 := Lib.hid (recs_set2 (v0 := .slice A7 n7 c7) (v1 := .slice B7 m7 e7) HAL.out HB13.out ae_no)
                          have OW2 := Lib.hid (own_setB (v0 := .slice A7 n7 c7) (v1 := .slice B7 m7 e7) OW.out HB13.out)
                          have HF2 : Hid (∀ g, (Value.slice T jl ct).ownBlock = some g → OffN (some ⟨gl, o, none⟩) nl g ∧ OffN A7 n7 g ∧ OffN B7 m7 g) := fun g hg => ⟨(HOF.out g hg).1, fresh_off HFA.out (hTl.out g hg), fresh_off HFB.out (hTl.out g hg)⟩
                          have gE := (g13.set (p := ⟨b13, 0, none⟩) hb13 (.slice A7 n7 c7)).set (p := ⟨b13, 1, none⟩) hb13 (.slice B7 m7 e7)
                          clear hd1 HN HD1 HAL OW HOF HFA HFB hTl HINN HIa hEE
                          go_wp2_with fail
                          clear y0 y1 x0 x1 f0 f1
                          go_roundw
                          case rel => exact ⟨j + 1, T, jl, ct, later, d1, A7, n7, c7, B7, m7, e7, by omega, by omega, by go_num, rfl, HTL, OW2, HA2, HB2, HD2, HIN, HF2, gE⟩
                          case measure => simp [intOf]; omega
                        · skip
                          obtain ⟨d1, hd1⟩ : ∃ z, applyD now a = z := ⟨_, rfl⟩
                          have HINN := Lib.hid HI2
                          clear HI2
                          obtain ⟨c1', c2', c3', c4', c5'⟩ := a_cells0 HRX.out
                          obtain ⟨y0, y1⟩ := d_cells (row_at (l := [.slice A6 n6 c6, .slice B6 m6 e6]) HB13.out)
                          have hEE := Lib.hid he
                          clear he
                          go_wp2_with fail
                          clear y0 y1 c1' c2' c3' c4' c5'
                          refine (applyF_val HN.out hEE.out hd1).mono ?_
                          rintro rr w8 ⟨A7, n7, c7, B7, m7, e7, rfl, hk1, g, hfA, hfB⟩
                          have HFA := Lib.hid hfA
                          have HFB := Lib.hid hfB
                          replace HB13 := Lib.hid (g.block HB13.out)
                          replace HN := Lib.hid (HN.out.grew g)
                          replace HAL := Lib.hid (Recs.grew HAL.out g)
                          replace OW := Lib.hid (own_grew OW.out g)
                          replace HRX := Lib.hid (range_grew HRX.out g)
                          replace g13 := g13.trans g
                          clear g hfA hfB
                          obtain ⟨w9, hw⟩ : ∃ y, y = w8.alloc (.cells #[.slice A7 n7 c7, .slice B7 m7 e7] 25) := ⟨_, rfl⟩
                          have g : Grew w8 w9 := by rw [hw]; exact (Grew.refl _).alloc _
                          obtain ⟨b9, hb⟩ : ∃ z, z = w8.heap.size := ⟨_, rfl⟩
                          have HR1 : Hid (w9.rangeAt b9 0 [.slice A7 n7 c7, .slice B7 m7 e7]) := by unfold Hid; rw [hw, hb]; exact range_new w8 _ 25
                          have HD1 := Lib.hid (hk1.grew g)
                          clear hk1
                          replace HB13 := Lib.hid (g.block HB13.out)
                          replace HN := Lib.hid (HN.out.grew g)
                          replace HAL := Lib.hid (Recs.grew HAL.out g)
                          replace OW := Lib.hid (own_grew OW.out g)
                          replace HRX := Lib.hid (range_grew HRX.out g)
                          replace g13 := g13.trans g
                          clear g
                          go_upto_region 29 with (fail)
                          rw [← hw, ← hb]
                          clear hw hb
                          obtain ⟨x0, x1, x2, x3, x4⟩ := a_cells0 HRX.out
                          have BI := Lib.hid (Recs.built (w := w9) ae_ok (t := 29) (l := [a]) (n := 1) #[.int .i64 a.q, .int .i64 a.id, .int .i64 a.k, .int .i64 a.c, .int .i64 a.d] rfl rfl (by decide))
                          clear hd1 HD1 HR1 HFA HFB hTl HIa hEE
                          go_wp2_with (at_builtin; refine wpList_append_sl _ rfl (.tmp 121) (.tmp 123) 23 rfl wl.heap.size 29 i0 _ 5 40 Try.underlying23 hi hz0 hz1 hz2 rfl (by decide) (.slice T jl ct) jl _ rfl (OW.out.alloc _) (some ⟨w9.heap.size, 0, none⟩) 1 1 _ rfl BI.out.2 (flat_one ae_ok _) (by unfold maxLen; omega) (by omega) (by have := g13.le; simp; omega) ?_; intro v3 w3 own3 hg3 hat3; obtain ⟨A9, c9, rfl⟩ := own_form own3)
                          have OW3 : Hid (w3.ownsRow wl.heap.size 29 5 (.slice A9 (jl + 1) c9) (jl + 1) ((later ++ [a]).flatMap ae)) := by unfold Hid; rw [List.flatMap_append]; simpa using own3
                          have gE : Grew wl w3 := (g13.alloc _).grown hg3 (fun j hj => (OW.out.lt j hj).1)
                          have HB3 := Lib.hid (app_box OW.out HB13.out hg3)
                          have HA3 := Lib.hid (app_recs HAL.out hg3 (fun k hk => (HOF.out k hk).1))
                          have HN3 := Lib.hid (desk_off HN.out hg3 (fun k hk => (HOF.out k hk).2.1) (fun k hk => (HOF.out k hk).2.2))
                          have HF3 : Hid (∀ g, (Value.slice A9 (jl + 1) c9).ownBlock = some g → OffN (some ⟨gl, o, none⟩) nl g ∧ OffN A6 n6 g ∧ OffN B6 m6 g) := fun g hg => ⟨app_off HAL.out (by decide) hat3 (fun k hk => (HOF.out k hk).1) g hg, app_off HN.out.1.1 (by decide) hat3 (fun k hk => (HOF.out k hk).2.1) g hg, app_off HN.out.2 (by decide) hat3 (fun k hk => (HOF.out k hk).2.2) g hg⟩
                          have HT3 : Hid ((later ++ [a]).length = jl + 1) := by unfold Hid; rw [List.length_append, HTL.out]; rfl
                          clear own3 hg3 hat3 BI x0 x1 x2 x3 x4 HN HAL OW HOF HB13 g13
                          go_roundw
                          case rel => exact ⟨j + 1, A9, jl + 1, c9, later ++ [a], now, A6, n6, c6, B6, m6, e6, by omega, by omega, by go_num, rfl, HT3, OW3, HA3, HB3, HN3, HINN, HF3, gE⟩
                          case measure => simp [intOf]; omega
                      · obtain rfl : nl = j := by omega
                        have HOn : Hid (Out d W ans (r + 1) now later) := by
                          have h1 := HI.out
                          rw [List.drop_of_length_le (by rw [HAL.out.1]; exact Nat.le_refl _)] at h1
                          exact h1.out
                        have HLN : Hid (Anss wr T jl ct later) := Recs.own HTL.out OW.out
                        clear HI HTL OW HOF HAL
                        go_wp2_with fail
                        go_roundw
                        case rel => exact ⟨r + 1, T, jl, ct, later, now, A6, n6, c6, B6, m6, e6, by omega, by go_num, rfl, by omega, HLN, HB13, HN, HOn, g13⟩
                        case measure => simp [intOf]; omega
                  · obtain rfl : M = r := by omega
                    obtain ⟨hl0, hnow⟩ := Out.fin hWm.out (show Out d W ans ans.length now left by rw [LQ.out]; exact HO.out)
                    obtain rfl : nl = 0 := by have h1 := HAL.out.1; rw [hl0] at h1; exact h1.symm
                    rw [hnow] at HN
                    clear hl0 hnow HO hWm HAL
                    have HXr := Lib.hid (HX.out.grew g13)
                    have HBr := Lib.hid (g13.block HB.out)
                    obtain ⟨y0, y1⟩ := d_cells (row_at (l := [.slice A5 n5 c5, .slice B5 m5 e5]) HB13.out)
                    obtain ⟨x0, x1⟩ := d_cells (row_at (l := [.slice A1 n1 c1, .slice B1 m1 e1]) HBr.out)
                    go_wp2_with fail
                    clear y0 y1 x0 x1
                    refine (same_val HN.out HXr.out (decide_eq_true rfl)).mono ?_
                    rintro rr w20 ⟨rfl, g⟩
                    go_wp2_with fail
                    go_ret
                    exact ⟨rfl, (gB.trans g13).trans g⟩
end Go.Proofs.Ytaocjobbfcfleaa
namespace Go.Proofs.Ytaocjobbfcfleaa
open Go.ChangeShapes Go.WideShapes Go.ChangeAt Go.RowKit Go.Deep Go.Joins Go.Proofs WageMem WageOrd WageRec WageSet

section
variable {H : Type} {enc : TypeId × Value → H} {w : World} {base : Nat} {spare : Nat → Bool} {held : Bool}
theorem add_at (b o i : Nat) : (⟨b, o, none⟩ : Addr).add i = ⟨b, o + i, none⟩ := by
  unfold Addr.add; split
  · rename_i h; subst h; rfl
  · rfl
/-- The bytes of numbers. -/
def toBytes (zs : List Int) : List UInt8 := zs.map fun z => UInt8.ofNat z.toNat
theorem byte_of {z : Int} (h : (Lit.int .u8 z).wf = true) : ((UInt8.ofNat z.toNat).toNat : Int) = z := by
  have hb := bounds_u8 h
  rw [UInt8.toNat_ofNat']
  omega
set_option maxRecDepth 100000 in
theorem open_bytes {fuel : Nat} {cs : List Value} {x : DataW H × List MemPlace} (h : DataW.trod enc Try.prog w base spare held fuel 47 cs = some x) : ∃ A n c bs, cs = [.slice A n c] ∧ Bytes w A n c bs := by
  rcases open_ints Try.underlying47 Try.underlying5 (by kernel_rfl) h with ⟨hcs, _⟩ | ⟨a, l, c, zs, hcs, _, hl, hm, hz, _, hcell, hwz⟩
  · exact ⟨none, 0, 0, [], hcs, rfl, Nat.le_refl _, Nat.zero_le _, rfl, Cells.nil, fun _ => ⟨rfl, rfl⟩⟩
  · have hlz : l ≤ zs.length := by rw [hz]; split <;> omega
    refine ⟨some a, l, c, toBytes (zs.take l), hcs, by unfold toBytes; simp; omega, hl, hm, by unfold toBytes; simp; omega, fun hne => ?_, fun h => by cases h⟩
    have h0 : 0 < l := by
      rcases Nat.eq_zero_or_pos l with h | h
      · subst h; exact absurd rfl hne
      · exact h
    obtain ⟨b, o, rfl⟩ := plain_row (hcell 0 (by omega))
    refine ⟨b, o, rfl, fun j u hu => ?_⟩
    unfold toBytes at hu
    rw [List.map_map, List.getElem?_map] at hu
    cases hj : (zs.take l)[j]? with
    | none => rw [hj] at hu; cases hu
    | some z =>
      rw [hj] at hu
      have hu' : bv (UInt8.ofNat z.toNat) = u := by simpa using hu
      rw [List.getElem?_take] at hj
      split at hj
      · rename_i hjl
        have hjz : j < zs.length := by omega
        have hc := hcell j hjz
        rw [add_at] at hc
        have hzd : zs.getD j 0 = z := by rw [List.getD_eq_getElem?_getD, hj]; rfl
        rw [hc, hzd, ← hu']
        unfold bv
        rw [byte_of (hwz z (List.mem_of_getElem? hj))]
      · cases hj
set_option maxRecDepth 100000 in
theorem open_byteArg {v : Value} {d : DataW H} {p : List MemPlace} {r : Reach} {b0 : Nat} (hv : Value.okWide Try.prog w r b0 47 v) (h : DataW.Trod enc Try.prog w base spare held 47 v d p) : ∃ A n c bs, v = .slice A n c ∧ Bytes w A n c bs := by
  obtain ⟨a, l, c, rfl⟩ := okWide_slice Try.underlying47 hv
  obtain ⟨fuel, hf⟩ := h
  obtain ⟨A, n, c', bs, e, hB⟩ := open_bytes hf
  simp [Value.cells] at e
  obtain ⟨rfl, rfl, rfl⟩ := e
  exact ⟨_, _, _, bs, rfl, hB⟩
end
end Go.Proofs.Ytaocjobbfcfleaa
