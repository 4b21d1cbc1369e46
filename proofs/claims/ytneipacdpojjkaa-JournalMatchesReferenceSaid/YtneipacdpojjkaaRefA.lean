/-
  The reference functions Bytes, Small, Valid, Same; the law's own function all.
-/
import Derived.Test.YtneipacdpojjkaaNew
import Derived.BigQuiet
import Derived.Deep.QuietTactic
namespace Go.Proofs.Ytneipacdpojjkaa
open Go.RowKit Go.Proofs WageMem WageDisk

theorem take_eq_succ {xs ys : List UInt8} {k : Nat} {x y : UInt8} (hx : xs[k]? = some x) (hy : ys[k]? = some y) (h : xs.take k = ys.take k) (hxy : x = y) : xs.take (k + 1) = ys.take (k + 1) := by
  rw [List.take_add_one, List.take_add_one, hx, hy, h, hxy]

set_option maxHeartbeats 2000000 in
theorem bytes_any (A B : Option Addr) (n m c e : Nat) (xs ys : List UInt8) (w : World) (ha : Bytes w A n c xs) (hb : Bytes w B m e ys) :
    Calls Try.prog 25 #[.slice A n c, .slice B m e] w fun r w' => r = .returned (.bool (decide (xs = ys))) ∧ ∃ q, w' = w.drewN q := by
  have hn := ha.1
  have hm := hb.1
  have hnm : n ≤ 9223372036854775807 := Nat.le_trans ha.2.1 ha.2.2.1
  by_cases hne : n = m
  · subst hne
    have hln : Hid (xs.length = n) := hn
    have hlm : Hid (ys.length = n) := hm
    have t0 : ((n : Int) != (n : Int)) = false := by simp
    clear hn hm
    go_enter Try.func25, Try.ntmps25
    go_wp2
    go_loopw [5] (fun i wr => ∃ k : Nat, k ≤ n ∧ i = .int .i64 k ∧ xs.take k = ys.take k ∧ ∃ q, wr = w.drewN q) (fun i _ => n - (intOf i).toNat)
    case atStart => exact ⟨0, Nat.zero_le _, rfl, rfl, 0, rfl⟩
    case round =>
      obtain ⟨k, hk, rfl, heq, q, rfl⟩ := hrel
      have HE := Lib.hid heq
      clear heq
      by_cases hlt : k < n
      · obtain ⟨x, hx⟩ : ∃ x, xs[k]? = some x := ⟨_, List.getElem?_eq_getElem (by rw [hln.out]; exact hlt)⟩
        obtain ⟨y, hy⟩ : ∃ y, ys[k]? = some y := ⟨_, List.getElem?_eq_getElem (by rw [hlm.out]; exact hlt)⟩
        obtain ⟨b1, o1, rfl, hc1⟩ := ha.at_ (by omega)
        obtain ⟨b2, o2, rfl, hc2⟩ := hb.at_ (by omega)
        have c1 := hc1 k x hx
        have c2 := hc2 k y hy
        have HX := Lib.hid hx
        have HY := Lib.hid hy
        clear hc1 hc2 hx hy
        have i0 : (0 : Int) ≤ (k : Int) := by omega
        have i1 : (k : Int) < (n : Int) := by omega
        by_cases hxy : x = y
        · have tt : (((x.toNat : Nat) : Int) != ((y.toNat : Nat) : Int)) = false := by rw [hxy]; simp
          have HXY := Lib.hid hxy
          clear hxy
          go_wp2_with fail
          go_quiet (fail)
          go_wp2_with fail
          go_roundw
          case rel => exact ⟨k + 1, by omega, by go_num, take_eq_succ HX.out HY.out HE.out HXY.out, _, rfl⟩
          case measure => simp [intOf]; omega
        · have tt : (((x.toNat : Nat) : Int) != ((y.toNat : Nat) : Int)) = true := by
            rw [bne_iff_ne]; intro h; apply hxy; exact UInt8.toNat_inj.1 (by omega)
          have HNE : Hid (xs ≠ ys) := by unfold Hid; intro h; rw [h, HY.out] at HX; have := HX.out; injection this with this; exact hxy this.symm
          clear hxy
          go_wp2_with fail
          go_quiet (fail)
          go_wp2_with fail
          go_ret
          exact ⟨by rw [decide_eq_false HNE.out]; rfl, _, World.drewN_drewN _ _ _⟩
      · obtain rfl : k = n := by omega
        have hfin : Hid (xs = ys) := by
          have := HE.out
          rw [List.take_of_length_le (by rw [hln.out]; omega), List.take_of_length_le (by rw [hlm.out]; omega)] at this
          exact this
        go_wp2_with fail
        go_ret
        exact ⟨by rw [decide_eq_true hfin.out]; rfl, _, rfl⟩
  · have t0 : ((n : Int) != (m : Int)) = true := by rw [bne_iff_ne]; omega
    have HNE : Hid (xs ≠ ys) := by unfold Hid; intro h; rw [h] at hn; omega
    clear hn hm
    go_enter Try.func25, Try.ntmps25
    go_wp2
    go_ret
    exact ⟨by rw [decide_eq_false HNE.out]; rfl, 0, rfl⟩

/-- The first k writes have at most so many bytes. -/
def smallTo (d : Ds) (most : Int) (k : Nat) : Bool := (d.pe.take k).all fun w => decide ((w.data.length : Int) ≤ most)
def smallB (d : Ds) (most : Int) : Bool := decide ((d.st.length : Int) ≤ most ∧ d.pe.length ≤ 70) && smallTo d most d.pe.length
theorem smallTo_succ {d : Ds} {most : Int} {k : Nat} {x : Wr} (hx : d.pe[k]? = some x) : smallTo d most (k + 1) = (smallTo d most k && decide ((x.data.length : Int) ≤ most)) := by
  unfold smallTo
  rw [List.take_add_one, hx, List.all_append]
  simp
theorem smallTo_false {d : Ds} {most : Int} {k m : Nat} (h : smallTo d most k = false) (hk : k ≤ m) : smallTo d most m = false := by
  unfold smallTo at *
  have e : d.pe.take m = d.pe.take k ++ (d.pe.take m).drop k := by
    conv => lhs; rw [← List.take_append_drop k (d.pe.take m), List.take_take, Nat.min_eq_left hk]
  rw [e, List.all_append, h, Bool.false_and]

set_option maxHeartbeats 2000000 in
theorem small_any (v : Value) (d : Ds) (most : Int) (w : World) (h : Disk w v d) :
    Calls Try.prog 20 #[v, .int .i64 most] w fun e w' => e = .returned (.bool (smallB d most)) ∧ Grew w w' := by
  obtain ⟨A, n, c, A', n', c', rfl, hB, hW⟩ := h.form
  have hn := hB.1
  have hn' := hW.1
  have hnm : n' ≤ 9223372036854775807 := Nat.le_trans hW.2.1 hW.2.2.1
  by_cases h1 : most < (n : Int)
  · have d1 : decide (most < (n : Int)) = true := decide_eq_true h1
    have E : Hid (smallB d most = false) := by unfold Hid smallB; rw [decide_eq_false (by omega)]; rfl
    clear hn hn'
    go_enter Try.func20, Try.ntmps20
    go_wp2
    go_ret
    exact ⟨by rw [E.out]; rfl, (Grew.refl _).alloc _⟩
  have d1 : decide (most < (n : Int)) = false := decide_eq_false h1
  by_cases h2 : 70 < n'
  · have d2 : decide (70 < (n' : Int)) = true := decide_eq_true (by omega)
    have E : Hid (smallB d most = false) := by unfold Hid smallB; rw [decide_eq_false (by omega)]; rfl
    clear hn hn'
    go_enter Try.func20, Try.ntmps20
    go_wp2
    go_ret
    exact ⟨by rw [E.out]; rfl, (Grew.refl _).alloc _⟩
  have d2 : decide (70 < (n' : Int)) = false := decide_eq_false (by omega)
  have E : Hid (smallB d most = smallTo d most n') := by
    unfold Hid smallB; rw [decide_eq_true (by omega), hn']; rfl
  have HN' := Lib.hid hn'
  clear hn hn'
  go_enter Try.func20, Try.ntmps20
  go_wp2
  obtain ⟨w0, hw0⟩ : ∃ w0, w0 = w.alloc (.cells #[.slice A n c, .slice A' n' c'] 25) := ⟨_, rfl⟩
  have g0 : Grew w w0 := by rw [hw0]; exact (Grew.refl w).alloc _
  have b1 : w0.cell? ⟨w.heap.size, 1, none⟩ = some (.slice A' n' c') := by rw [hw0]; simp
  rw [← hw0]
  clear hw0
  go_loop [5] (fun i => ∃ k : Nat, k ≤ n' ∧ i = .int .i64 k ∧ smallTo d most k = true) (fun i => n' - (intOf i).toNat)
  case atStart => exact ⟨0, Nat.zero_le _, rfl, by unfold smallTo; rw [List.take_zero]; rfl⟩
  case round =>
    obtain ⟨k, hk, rfl, hin⟩ := hrel
    have HI := Lib.hid hin
    clear hin
    by_cases hlt : k < n'
    · obtain ⟨x, hx⟩ : ∃ x, d.pe[k]? = some x := ⟨_, List.getElem?_eq_getElem (by rw [HN'.out]; exact hlt)⟩
      have hs := smallTo_succ (most := most) hx
      obtain ⟨b, o, rfl, hc⟩ := (hW.grew g0).2.2.2.2 (by omega)
      obtain ⟨c1, x0, x1, Ax, nx, cx, c2, hbx⟩ := hc k x hx
      rw [hbx.1, HI.out, Bool.true_and] at hs
      have HS := Lib.hid hs
      clear hc hx hs hbx c1 x0 x1
      by_cases hm : most < (nx : Int)
      · have dm : decide (most < (nx : Int)) = true := decide_eq_true hm
        have HF : Hid (smallTo d most (k + 1) = false) := by unfold Hid; rw [HS.out, decide_eq_false (by omega)]
        go_wp2_with fail
        go_ret
        exact ⟨by rw [E.out, smallTo_false HF.out (by omega)]; rfl, g0⟩
      · have dm : decide (most < (nx : Int)) = false := decide_eq_false hm
        have HF : Hid (smallTo d most (k + 1) = true) := by unfold Hid; rw [HS.out, decide_eq_true (by omega)]
        go_wp2_with fail
        go_round
        case rel => exact ⟨k + 1, by omega, by go_num, HF.out⟩
        case measure => simp [intOf]; omega
    · obtain rfl : k = n' := by omega
      go_wp2_with fail
      go_ret
      exact ⟨by rw [E.out, HI.out]; rfl, g0⟩

/-- A contract's end: it returns bytes. -/
def RetBytes (bs : List UInt8) (w : World) (r : Ending) (w' : World) : Prop := ∃ A n c, r = .returned (.slice A n c) ∧ Bytes w' A n c bs ∧ Grew w w'

set_option maxHeartbeats 2000000 in
theorem all_any (v : Value) (d : Ds) (w : World) (h : Disk w v d) :
    Calls Try.prog 30 #[v] w (RetBytes (readB d 0 d.st.length) w) := by
  obtain ⟨A, n, c, A', n', c', rfl, hB, hW⟩ := h.form
  have hn := hB.1
  have hnm : n ≤ 9223372036854775807 := Nat.le_trans hB.2.1 hB.2.2.1
  have hE : readE d 0 n = 0 ∨ (readE d 0 n = 1 ∧ readB d 0 n = []) := by
    unfold readE readB
    split
    · exact .inl rfl
    · exact .inr ⟨rfl, rfl⟩
  rw [hn]
  have HE := Lib.hid hE
  clear hn hE
  go_enter Try.func30, Try.ntmps30
  go_wp2_with fail
  refine (read_any _ d 0 n _ (h.grew ((Grew.refl w).alloc _)) (by decide) (by omega) (by decide) (by omega)).mono ?_
  rintro e w1 ⟨A1, n1, c1, rfl, hB1, g1⟩
  have gg := ((Grew.refl w).alloc (.cells #[.slice A n c, .slice A' n' c'] 25)).trans g1
  rcases HE.out with hE | ⟨hE, hR⟩
  · rw [hE]
    clear HE
    go_wp2_with fail
    go_ret
    exact ⟨A1, n1, c1, rfl, hB1.now, gg⟩
  · rw [hE]
    clear HE
    go_wp2_with fail
    go_ret
    rw [hR]
    exact ⟨none, 0, 0, rfl, Bytes.none, gg⟩
end Go.Proofs.Ytneipacdpojjkaa
