/-
  The law DiskReading, walked.
-/
import Derived.Test.YtneipacdpojjkaaHead
namespace Go.Proofs.Ytneipacdpojjkaa
open Go.RowKit Go.Proofs WageMem WageDisk

theorem over_in {l xs : List UInt8} {o k : Nat} (h : o + xs.length ≤ l.length) (h1 : o ≤ k) (h2 : k < o + xs.length) : (over l o xs)[k]? = xs[k - o]? := by
  unfold over
  rw [List.getElem?_append_right (by simp; omega), List.getElem?_append_left (by simp; omega)]
  simp [Nat.min_eq_left (show o ≤ l.length by omega)]
theorem over_out {l xs : List UInt8} {o k : Nat} (h : o + xs.length ≤ l.length) (h1 : k < o ∨ o + xs.length ≤ k) : (over l o xs)[k]? = l[k]? := by
  unfold over
  rcases h1 with h1 | h1
  · rw [List.getElem?_append_left (by simp; omega), List.getElem?_take, if_pos h1]
  · rw [List.getElem?_append_right (by simp; omega), List.getElem?_append_right (by simp; omega), List.getElem?_drop]
    congr 1
    simp
    omega

/-- all, beside four cells. -/
theorem all_beside {v : Value} {d : Ds} {w : World} {bs : List UInt8} (h : Disk w v d) (hb : readB d 0 d.st.length = bs) {p q r s : Addr} {u1 u2 u3 u4 : Value} (h1 : w.cell? p = some u1) (h2 : w.cell? q = some u2) (h3 : w.cell? r = some u3) (h4 : w.cell? s = some u4) :
    Calls Try.prog 30 #[v] w fun e w' => ∃ A n c, e = .returned (.slice A n c) ∧ w'.cell? p = some u1 ∧ w'.cell? q = some u2 ∧ w'.cell? r = some u3 ∧ w'.cell? s = some u4 ∧ Bytes w' A n c bs ∧ Grew w w' := by
  subst hb
  exact (all_any v d w h).mono fun _ _ ⟨A, n, c, e, hB, g⟩ => ⟨A, n, c, e, g.cell h1, g.cell h2, g.cell h3, g.cell h4, hB, g⟩

theorem read_all {d : Ds} (hv : validB d = true) : readB d 0 d.st.length = applyTo wholeC d.st 0 d.pe := by
  unfold readB
  rw [hv, show insideB 0 d.st.length d.st.length = true by unfold insideB; rw [decide_eq_true_iff]; omega]
  have := apply_len hv (ch := wholeC) (fun _ _ => Nat.le_refl _)
  simp only [Bool.and_self, if_true]
  rw [show (0 : Int).toNat = 0 from rfl, List.drop_zero, Int.toNat_natCast, List.take_of_length_le (by omega)]
theorem write_valid {d : Ds} {off : Int} {data : List UInt8} (hok : writeOk d off data = true) (hlt : d.pe.length < 64) : validB ⟨d.st, d.pe ++ [⟨off, data⟩]⟩ = true := by
  unfold writeOk validB at *
  rw [Bool.and_eq_true, Bool.and_eq_true] at hok
  obtain ⟨⟨h1, h2⟩, h3⟩ := hok
  have h1' := of_decide_eq_true h1
  rw [Bool.and_eq_true]
  refine ⟨decide_eq_true ⟨h1'.1, by simp; omega⟩, ?_⟩
  rw [List.all_append, h2]
  simp [h3]
theorem apply_write (d : Ds) (off : Int) (data : List UInt8) : applyTo wholeC d.st 0 (d.pe ++ [⟨off, data⟩]) = over (applyTo wholeC d.st 0 d.pe) off.toNat data := by
  rw [applyTo_snoc]
  show over _ off.toNat (data.take data.length) = _
  rw [List.take_length]

set_option maxRecDepth 100000 in
set_option maxHeartbeats 16000000 in
theorem reading_skip (A : Option Addr) (n c : Nat) (A' : Option Addr) (n' c' : Nat) (d : Ds) (off : Int) (A3 : Option Addr) (n3 c3 : Nat) (w : World) (h : Disk w (.agg #[.slice A n c, .slice A' n' c']) d)
    (hs : smallB d 600 = false ∨ 600 < n3) :
    Calls Try.prog 4 #[.agg #[.slice A n c, .slice A' n' c'], .int .i64 off, .slice A3 n3 c3] w fun e w' => e = .returned (.bool true) ∧ Grew w w' := by
  have g0 : Grew w (w.alloc (.cells #[.slice A n c, .slice A' n' c'] 25)) := (Grew.refl w).alloc _
  cases hsm : smallB d 600 with
  | false =>
    have HS := Lib.hid hsm
    clear hsm hs
    go_enter Try.func4, Try.ntmps4
    go_wp2_with fail
    refine (head_true _).mono ?_
    rintro e w1 ⟨rfl, g1⟩
    have d0 : w1.cell? ⟨w.heap.size, 0, none⟩ = some (.slice A n c) := g1.cell (by simp)
    have d1 : w1.cell? ⟨w.heap.size, 1, none⟩ = some (.slice A' n' c') := g1.cell (by simp)
    have gg := g0.trans g1
    clear g0 g1
    go_wp2_with fail
    refine (small_any _ d 600 _ (h.grew gg)).mono ?_
    rw [HS.out]
    rintro e w2 ⟨rfl, g2⟩
    clear d0 d1
    go_wp2_with fail
    go_ret
    exact ⟨rfl, gg.trans g2⟩
  | true =>
    have hn3 : 600 < n3 := by rcases hs with hs | hs; rw [hsm] at hs; cases hs; exact hs
    have HS := Lib.hid hsm
    have dd : decide (600 < (n3 : Int)) = true := decide_eq_true (by omega)
    clear hsm hs
    go_enter Try.func4, Try.ntmps4
    go_wp2_with fail
    refine (head_true _).mono ?_
    rintro e w1 ⟨rfl, g1⟩
    have d0 : w1.cell? ⟨w.heap.size, 0, none⟩ = some (.slice A n c) := g1.cell (by simp)
    have d1 : w1.cell? ⟨w.heap.size, 1, none⟩ = some (.slice A' n' c') := g1.cell (by simp)
    have gg := g0.trans g1
    clear g0 g1
    go_wp2_with fail
    refine (small_any _ d 600 _ (h.grew gg)).mono ?_
    rw [HS.out]
    rintro e w2 ⟨rfl, g2⟩
    clear d0 d1
    go_wp2_with fail
    go_ret
    exact ⟨rfl, gg.trans g2⟩

set_option maxRecDepth 100000 in
set_option maxHeartbeats 16000000 in
theorem reading_main (A : Option Addr) (n c : Nat) (A' : Option Addr) (n' c' : Nat) (d : Ds) (off : Int) (A3 : Option Addr) (n3 c3 : Nat) (data : List UInt8) (w : World) (h : Disk w (.agg #[.slice A n c, .slice A' n' c']) d) (hD : Bytes w A3 n3 c3 data)
    (o0 : -9223372036854775808 ≤ off) (o1 : off ≤ 9223372036854775807) (hsm : smallB d 600 = true) (hn3 : n3 ≤ 600) :
    Calls Try.prog 4 #[.agg #[.slice A n c, .slice A' n' c'], .int .i64 off, .slice A3 n3 c3] w fun e w' => e = .returned (.bool true) ∧ Grew w w' := by
  have g0 : Grew w (w.alloc (.cells #[.slice A n c, .slice A' n' c'] 25)) := (Grew.refl w).alloc _
  have dd : decide (600 < (n3 : Int)) = false := decide_eq_false (by omega)
  have HS := Lib.hid hsm
  clear hsm
  by_cases he : writeE d off data = 0
  · have hok : writeOk d off data = true ∧ d.pe.length < 64 := by
      unfold writeE at he
      split at he
      · rename_i h1; split at he
        · rename_i h2; exact ⟨h1, h2⟩
        · cases he
      · cases he
    have hwd : writeD d off data = ⟨d.st, d.pe ++ [⟨off, data⟩]⟩ := by unfold writeD; rw [hok.1, decide_eq_true hok.2]; rfl
    have hvd : validB d = true := by have := hok.1; unfold writeOk at this; rw [Bool.and_eq_true] at this; exact this.1
    have hin := hok.1
    unfold writeOk at hin
    rw [Bool.and_eq_true] at hin
    have hin2 := of_decide_eq_true hin.2
    have hr1 := read_all hvd
    have hr2 : readB ⟨d.st, d.pe ++ [⟨off, data⟩]⟩ 0 d.st.length = applyTo wholeC d.st 0 (d.pe ++ [⟨off, data⟩]) := read_all (write_valid hok.1 hok.2)
    have hlen := apply_len hvd (ch := wholeC) (fun _ _ => Nat.le_refl _)
    rw [apply_write] at hr2
    have hn := h.parts.1.1
    have hl3 := hD.1
    rw [hn, hl3] at hin2
    rw [hn] at hlen
    obtain ⟨i0, i1, i2, i3⟩ := hin2
    have hs1 := (valid_size hvd).1
    have s1 : n ≤ 65536 := by omega
    generalize applyTo wholeC d.st 0 d.pe = av at *
    have HE := Lib.hid he
    have HW := Lib.hid hwd
    have HR1 := Lib.hid hr1
    have HR2 := Lib.hid hr2
    have HL := Lib.hid hlen
    have HL3 := Lib.hid hl3
    have HD := Lib.hid hD
    have HH := Lib.hid h
    have HOL : Hid ((over av off.toNat data).length = n) := by unfold Hid; rw [over_length (by omega), hlen]
    clear he hok hwd hvd hin hr1 hr2 hlen hn hl3 hs1 hD h
    go_enter Try.func4, Try.ntmps4
    go_wp2_with fail
    refine (head_true _).mono ?_
    rintro e w1 ⟨rfl, g1⟩
    have d0 : w1.cell? ⟨w.heap.size, 0, none⟩ = some (.slice A n c) := g1.cell (by simp)
    have d1 : w1.cell? ⟨w.heap.size, 1, none⟩ = some (.slice A' n' c') := g1.cell (by simp)
    have gg := g0.trans g1
    clear g0 g1
    go_wp2_with fail
    refine (small_any _ d 600 _ (HH.out.grew gg)).mono ?_
    rw [HS.out]
    rintro e w2 ⟨rfl, g2⟩
    have d0' := g2.cell d0
    have d1' := g2.cell d1
    have gg2 := gg.trans g2
    clear d0 d1 gg g2
    go_wp2_with fail
    refine (write_val (HH.out.grew gg2) (HD.out.grew gg2) o0 o1 HW.out HE.out).mono ?_
    rintro e w3 ⟨Aw, nw, cw, Aw', nw', cw', rfl, f3, g3⟩
    have d0 := g3.cell d0'
    have d1 := g3.cell d1'
    have gg3 := gg2.trans g3
    clear d0' d1' gg2 g3
    have sz3 : w.heap.size < w3.heap.size := World.block_lt_of_cell? _ _ d0
    go_wp2_with fail
    obtain ⟨w4, hw4⟩ : ∃ w4, w4 = w3.alloc (.cells #[.slice Aw nw cw, .slice Aw' nw' cw'] 25) := ⟨_, rfl⟩
    have g4 : Grew w3 w4 := by rw [hw4]; exact (Grew.refl _).alloc _
    have e0 : w4.cell? ⟨w3.heap.size, 0, none⟩ = some (.slice Aw nw cw) := by rw [hw4]; simp
    have e1 : w4.cell? ⟨w3.heap.size, 1, none⟩ = some (.slice Aw' nw' cw') := by rw [hw4]; simp
    have d0' := g4.cell d0
    have d1' := g4.cell d1
    rw [← hw4]
    have gg4 := gg3.trans g4
    have HD4 := Lib.hid (HH.out.grew gg4)
    have HW4 := Lib.hid (f3.now.grew g4)
    clear hw4 d0 d1 gg3 g4 f3
    go_region_held3 (fun w' => w'.cell? ⟨w.heap.size, 0, none⟩ = some (.slice A n c) ∧ w'.cell? ⟨w.heap.size, 1, none⟩ = some (.slice A' n' c') ∧ w'.cell? ⟨w3.heap.size, 0, none⟩ = some (.slice Aw nw cw) ∧ w'.cell? ⟨w3.heap.size, 1, none⟩ = some (.slice Aw' nw' cw')) (go_keep)
      (first
        | (go_at_call 30; (with_reducible refine (all_beside (w := w4.drew) (HD4.out.grew (Grew.refl w4).drew) HR1.out ((Grew.refl w4).drew.cell d0') ((Grew.refl w4).drew.cell d1') ((Grew.refl w4).drew.cell e0) ((Grew.refl w4).drew.cell e1)).mono ?_); rintro e w5 ⟨A5, n5, c5, rfl, k0, k1, k2, k3, hB5, g5⟩)
        | (go_at_call 30; (refine (all_beside (w := w5) ((HW4.out.grew (Grew.refl w4).drew).grew g5) HR2.out k0 k1 k2 k3).mono ?_); rintro e w6 ⟨A6, n6, c6, rfl, l0, l1, l2, l3, hB6, g6⟩))
    obtain rfl : n5 = n := by have := hB5.1; rw [HL.out] at this; exact this.symm
    obtain rfl : n6 = n5 := by have := hB6.1; rw [HOL.out] at this; exact this.symm
    have gg6 := gg4.trans (((Grew.refl w4).drew.trans g5).trans g6)
    have HB5 := Lib.hid (hB5.grew g6)
    have HB6 := Lib.hid hB6
    have HD6 := Lib.hid (HD.out.grew gg6)
    clear hB5 hB6 g5 g6 gg4 HD4 HW4 k0 k1 k2 k3 d0' d1' e0 e1 HR1 HR2 HW HE HS HH sz3 l1 l2 l3
    have t1 : ((n6 : Int) != (n6 : Int)) = false := by simp
    have t2 : decide (off < 0) = false := decide_eq_false (by omega)
    have t3 : decide ((n6 : Int) < off + (n3 : Int)) = false := decide_eq_false (by omega)
    go_wp2_with fail
    clear l0
    go_loop [12] (fun i => ∃ k : Nat, k ≤ n6 ∧ i = .int .i64 k) (fun i => n6 - (intOf i).toNat)
    case atStart => exact ⟨0, Nat.zero_le _, rfl⟩
    case round =>
      obtain ⟨k, hk, rfl⟩ := hrel
      by_cases hlt : k < n6
      · obtain ⟨x, hx⟩ : ∃ x, av[k]? = some x := ⟨_, List.getElem?_eq_getElem (by rw [HL.out]; exact hlt)⟩
        obtain ⟨b5, o5, rfl, hc5⟩ := HB5.out.at_ (by omega)
        obtain ⟨b6, o6, rfl, hc6⟩ := HB6.out.at_ (by omega)
        have c5' := hc5 k x hx
        by_cases hin : off ≤ (k : Int) ∧ (k : Int) < off + n3
        · obtain ⟨q1, q2⟩ := hin
          obtain ⟨y, hy⟩ : ∃ y, data[k - off.toNat]? = some y := ⟨_, List.getElem?_eq_getElem (by rw [HL3.out]; omega)⟩
          have ho := over_in (l := av) (xs := data) (o := off.toNat) (k := k) (by rw [HL.out, HL3.out]; omega) (by omega) (by rw [HL3.out]; omega)
          rw [hy] at ho
          have c6' := hc6 k y ho
          obtain ⟨b3, o3, rfl, hc3⟩ := HD6.out.at_ (by omega)
          have c3' := hc3 _ y hy
          have e3 : ((k : Int) - off).toNat = k - off.toNat := by omega
          have f0 : 0 ≤ (k : Int) - off := by omega
          have f1 : (k : Int) - off < (n3 : Int) := by omega
          have tt : (((y.toNat : Nat) : Int) != ((y.toNat : Nat) : Int)) = false := by simp
          clear hc5 hc6 hc3 hx hy ho
          go_wp2_with fail
          exact ⟨⟨k + 1, by omega, by go_num⟩, by simp [intOf]; omega⟩
        · have ho := over_out (l := av) (xs := data) (o := off.toNat) (k := k) (by rw [HL.out, HL3.out]; omega) (by rw [HL3.out]; omega)
          rw [hx] at ho
          have c6' := hc6 k x ho
          have tt : (((x.toNat : Nat) : Int) != ((x.toNat : Nat) : Int)) = false := by simp
          clear hc5 hc6 hx ho
          by_cases q1 : off ≤ (k : Int)
          · have q2 : decide ((k : Int) < off + (n3 : Int)) = false := decide_eq_false (by omega)
            have q3 : decide (off ≤ (k : Int)) = true := decide_eq_true q1
            clear hin
            go_wp2_with fail
            exact ⟨⟨k + 1, by omega, by go_num⟩, by simp [intOf]; omega⟩
          · have q3 : decide (off ≤ (k : Int)) = false := decide_eq_false q1
            clear hin
            go_wp2_with fail
            exact ⟨⟨k + 1, by omega, by go_num⟩, by simp [intOf]; omega⟩
      · go_wp2_with fail
        go_ret
        exact ⟨rfl, gg6⟩
  · obtain ⟨er, her⟩ : ∃ er, writeE d off data = er := ⟨_, rfl⟩
    have te : (er != 0) = true := by rw [bne_iff_ne, ← her]; exact he
    have HE := Lib.hid her
    have HD := Lib.hid hD
    have HH := Lib.hid h
    clear he her hD h
    go_enter Try.func4, Try.ntmps4
    go_wp2_with fail
    refine (head_true _).mono ?_
    rintro e w1 ⟨rfl, g1⟩
    have d0 : w1.cell? ⟨w.heap.size, 0, none⟩ = some (.slice A n c) := g1.cell (by simp)
    have d1 : w1.cell? ⟨w.heap.size, 1, none⟩ = some (.slice A' n' c') := g1.cell (by simp)
    have gg := g0.trans g1
    clear g0 g1
    go_wp2_with fail
    refine (small_any _ d 600 _ (HH.out.grew gg)).mono ?_
    rw [HS.out]
    rintro e w2 ⟨rfl, g2⟩
    have d0' := g2.cell d0
    have d1' := g2.cell d1
    have gg2 := gg.trans g2
    clear d0 d1 gg g2
    go_wp2_with fail
    refine (write_val (HH.out.grew gg2) (HD.out.grew gg2) o0 o1 rfl HE.out).mono ?_
    rintro e w3 ⟨Aw, nw, cw, Aw', nw', cw', rfl, f3, g3⟩
    clear d0' d1' f3
    go_wp2_with fail
    go_ret
    exact ⟨rfl, (gg2.trans g3).alloc _⟩

theorem reading_true (v : Value) (d : Ds) (off : Int) (A3 : Option Addr) (n3 c3 : Nat) (data : List UInt8) (w : World) (h : Disk w v d) (hD : Bytes w A3 n3 c3 data)
    (o0 : -9223372036854775808 ≤ off) (o1 : off ≤ 9223372036854775807) :
    Calls Try.prog 4 #[v, .int .i64 off, .slice A3 n3 c3] w fun e w' => e = .returned (.bool true) ∧ Grew w w' := by
  obtain ⟨A, n, c, A', n', c', rfl, _, _⟩ := h.form
  cases hs : smallB d 600 with
  | false => exact reading_skip A n c A' n' c' d off A3 n3 c3 w h (.inl hs)
  | true =>
    by_cases hn : 600 < n3
    · exact reading_skip A n c A' n' c' d off A3 n3 c3 w h (.inr hn)
    · exact reading_main A n c A' n' c' d off A3 n3 c3 data w h hD o0 o1 hs (by omega)
end Go.Proofs.Ytneipacdpojjkaa
