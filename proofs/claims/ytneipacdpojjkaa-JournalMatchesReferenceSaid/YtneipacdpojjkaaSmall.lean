/-
  The small functions of the disk layer: Clone, inside, valid, New.
-/
import Derived.Test.YtneipacdpojjkaaProg
import Derived.Test.YtneipacdpojjkaaMem
import Derived.Test.YtneipacdpojjkaaSpec
import Derived.WalkKit
import Derived.WalkSpells
import Derived.Outline
import Derived.LoopTactic
import Derived.KernelRfl
namespace Go.Proofs.Ytneipacdpojjkaa
open Go.RowKit Go.Proofs WageMem WageDisk

theorem info5 : (Try.prog.info? 5).map (fun i => (i.zero, i.size, i.bytes)) = some (some (.int .u8 0), 1, 1) := by kernel_rfl

set_option maxHeartbeats 1000000 in
theorem clone_any (A : Option Addr) (n c : Nat) (bs : List UInt8) (w : World) (h : Bytes w A n c bs) (hn : n ≤ 65536) :
    Calls Try.prog 45 #[.slice A n c] w (RetOwn 5 n (bs.map bv) w) := by
  obtain ⟨i0, hi, hz0, hz1, hz2⟩ := info_parts info5
  have hnil := fun (w : World) (A : Option Addr) (n c : Nat) => Lib.run_eql_slice_nil (P := Try.prog) w 22 5 A n c 0 0 Try.underlying22
  rcases A with _ | ad
  · obtain ⟨rfl, rfl⟩ := h.2.2.2.2.2 rfl
    obtain rfl : bs = [] := List.eq_nil_of_length_eq_zero h.1
    go_enter Try.func45, Try.ntmps45
    go_wp2
    go_ret
    exact ⟨_, _, rfl, World.ownsRow_nil _ _ _ _, Grew.refl _⟩
  · have hsl := Lib.hid h.2
    have hlen : Hid (bs.length = n) := h.1
    clear h
    have hown : (w.alloc (.cells #[] 5)).ownsRow w.heap.size 5 1 (.slice (some ⟨w.heap.size, 0, none⟩) 0 0) 0 [] := World.ownsRow_made w #[] 0 (Nat.le_refl _) (Nat.zero_le _) rfl
    go_enter Try.func45, Try.ntmps45
    go_wp2_with (at_builtin; refine wpList_append_sl _ rfl (.tmp 5) (.tmp 6) 22 rfl w.heap.size 5 i0 (.int .u8 0) 1 1 Try.underlying22 hi hz0 hz1 hz2 rfl (by decide) (.slice (some ⟨w.heap.size, 0, none⟩) 0 0) 0 [] rfl hown (some ad) n c (bs.map bv) rfl (hsl.out.grew ((Grew.refl w).alloc _)) (bv_one bs) (by unfold maxLen; omega) (by omega) (by simp) ?_; intro v1 w1 own1 hg1 hat1)
    go_ret
    rw [Nat.zero_add, List.nil_append] at own1
    obtain ⟨A', c', rfl⟩ := own_form own1
    exact ⟨A', c', rfl, own1, ((Grew.refl w).alloc _).grown hg1 (by simp [Value.ownBlock])⟩

set_option maxHeartbeats 1000000 in
theorem inside_any (a n s : Int) (w : World) (hs : 0 ≤ s) (hs' : s ≤ 9223372036854775807) (ha : -9223372036854775808 ≤ a) :
    Calls Try.prog 44 #[.int .i64 a, .int .i64 n, .int .i64 s] w fun e w' => e = .returned (.bool (insideB a n s)) ∧ w = w' := by
  by_cases h1 : 0 ≤ a
  · have d1 : decide (0 ≤ a) = true := decide_eq_true h1
    by_cases h0 : 0 ≤ n
    · have d0 : decide (0 ≤ n) = true := decide_eq_true h0
      by_cases h2 : a ≤ s
      · have d2 : decide (a ≤ s) = true := decide_eq_true h2
        have E : Hid (insideB a n s = decide (n ≤ s - a)) := by unfold Hid insideB; rw [decide_eq_decide]; omega
        go_enter Try.func44, Try.ntmps44
        go_wp2
        go_ret
        exact ⟨by rw [E.out]; rfl, rfl⟩
      · have d2 : decide (a ≤ s) = false := decide_eq_false h2
        have E : Hid (insideB a n s = false) := by unfold Hid insideB; rw [decide_eq_false_iff_not]; omega
        go_enter Try.func44, Try.ntmps44
        go_wp2
        go_ret
        exact ⟨by rw [E.out]; rfl, rfl⟩
    · have d0 : decide (0 ≤ n) = false := decide_eq_false h0
      have E : Hid (insideB a n s = false) := by unfold Hid insideB; rw [decide_eq_false_iff_not]; omega
      go_enter Try.func44, Try.ntmps44
      go_wp2
      go_ret
      exact ⟨by rw [E.out]; rfl, rfl⟩
  · have d1 : decide (0 ≤ a) = false := decide_eq_false h1
    have E : Hid (insideB a n s = false) := by unfold Hid insideB; rw [decide_eq_false_iff_not]; omega
    go_enter Try.func44, Try.ntmps44
    go_wp2
    go_ret
    exact ⟨by rw [E.out]; rfl, rfl⟩

/-- A slice of writes. -/
def Writes (w : World) (A : Option Addr) (n c : Nat) (ws : List Wr) : Prop :=
  ws.length = n ∧ n ≤ c ∧ c ≤ maxLen ∧ (A = none → n = 0 ∧ c = 0) ∧
  (0 < n → ∃ b o, A = some ⟨b, o, none⟩ ∧ ∀ (j : Nat) (x : Wr), ws[j]? = some x → w.cell? ⟨b, o + j * 2, none⟩ = some (.int .i64 x.off) ∧
    -9223372036854775808 ≤ x.off ∧ x.off ≤ 9223372036854775807 ∧ ∃ A' n' c', w.cell? ⟨b, o + j * 2 + 1, none⟩ = some (.slice A' n' c') ∧ Bytes w A' n' c' x.data)
theorem Writes.grew {w w' : World} {A : Option Addr} {n c : Nat} {ws : List Wr} (h : Writes w A n c ws) (g : Grew w w') : Writes w' A n c ws :=
  ⟨h.1, h.2.1, h.2.2.1, h.2.2.2.1, fun hn => by
    obtain ⟨b, o, e, hc⟩ := h.2.2.2.2 hn
    refine ⟨b, o, e, fun j x hx => ?_⟩
    obtain ⟨h1, h2, h3, A', n', c', h4, h5⟩ := hc j x hx
    exact ⟨g.cell h1, h2, h3, A', n', c', g.cell h4, h5.grew g⟩⟩
/-- A disk. -/
structure Disk (w : World) (v : Value) (d : Ds) : Prop where
  form : ∃ A n c A' n' c', v = .agg #[.slice A n c, .slice A' n' c'] ∧ Bytes w A n c d.st ∧ Writes w A' n' c' d.pe
theorem Disk.grew {w w' : World} {v : Value} {d : Ds} (h : Disk w v d) (g : Grew w w') : Disk w' v d := by
  obtain ⟨A, n, c, A', n', c', e, h1, h2⟩ := h.form
  exact ⟨A, n, c, A', n', c', e, h1.grew g, h2.grew g⟩

/-- The first k writes are inside. -/
def allIn (d : Ds) (k : Nat) : Bool := (d.pe.take k).all fun w => insideB w.off w.data.length d.st.length

theorem allIn_succ {d : Ds} {k : Nat} {x : Wr} (hx : d.pe[k]? = some x) : allIn d (k + 1) = (allIn d k && insideB x.off x.data.length d.st.length) := by
  unfold allIn
  rw [List.take_add_one, hx, List.all_append]
  simp

theorem allIn_false {d : Ds} {k m : Nat} (h : allIn d k = false) (hk : k ≤ m) : allIn d m = false := by
  unfold allIn at *
  have e : d.pe.take m = d.pe.take k ++ (d.pe.take m).drop k := by
    conv => lhs; rw [← List.take_append_drop k (d.pe.take m), List.take_take, Nat.min_eq_left hk]
  rw [e, List.all_append, h, Bool.false_and]

set_option maxHeartbeats 2000000 in
theorem valid_any (v : Value) (d : Ds) (w : World) (h : Disk w v d) :
    Calls Try.prog 43 #[v] w fun e w' => e = .returned (.bool (validB d)) ∧ Grew w w' := by
  obtain ⟨A, n, c, A', n', c', rfl, hB, hW⟩ := h.form
  have hn := hB.1
  have hn' := hW.1
  by_cases h1 : 65536 < n
  · have d1 : decide (65536 < (n : Int)) = true := decide_eq_true (by omega)
    have E : Hid (validB d = false) := by unfold Hid validB; rw [decide_eq_false (by omega)]; rfl
    clear hn hn'
    go_enter Try.func43, Try.ntmps43
    go_wp2
    go_ret
    exact ⟨by rw [E.out]; rfl, (Grew.refl _).alloc _⟩
  by_cases h2 : 64 < n'
  · have d1 : decide (65536 < (n : Int)) = false := decide_eq_false (by omega)
    have d2 : decide (64 < (n' : Int)) = true := decide_eq_true (by omega)
    have E : Hid (validB d = false) := by unfold Hid validB; rw [decide_eq_false (by omega)]; rfl
    clear hn hn'
    go_enter Try.func43, Try.ntmps43
    go_wp2
    go_ret
    exact ⟨by rw [E.out]; rfl, (Grew.refl _).alloc _⟩
  have d1 : decide (65536 < (n : Int)) = false := decide_eq_false (by omega)
  have d2 : decide (64 < (n' : Int)) = false := decide_eq_false (by omega)
  have E : Hid (validB d = allIn d n') := by
    unfold Hid validB allIn; rw [decide_eq_true (by omega), ← hn', List.take_length]; rfl
  have HN := Lib.hid hn
  have HN' := Lib.hid hn'
  clear hn hn'
  go_enter Try.func43, Try.ntmps43
  go_wp2
  obtain ⟨w0, hw0⟩ : ∃ w0, w0 = w.alloc (.cells #[.slice A n c, .slice A' n' c'] 25) := ⟨_, rfl⟩
  have g0 : Grew w w0 := by rw [hw0]; exact (Grew.refl w).alloc _
  have b0 : w0.cell? ⟨w.heap.size, 0, none⟩ = some (.slice A n c) := by rw [hw0]; simp
  rw [← hw0]
  clear hw0
  go_loopw [18] (fun i wr => ∃ k : Nat, k ≤ n' ∧ i = .int .i64 k ∧ allIn d k = true ∧ Grew w0 wr) (fun i _ => n' - (intOf i).toNat)
  case atStart => exact ⟨0, Nat.zero_le _, rfl, by unfold allIn; rw [List.take_zero]; rfl, Grew.refl _⟩
  case round =>
    obtain ⟨k, hk, rfl, hin, hg⟩ := hrel
    have HI := Lib.hid hin
    clear hin
    by_cases hlt : k < n'
    · obtain ⟨x, hx⟩ : ∃ x, d.pe[k]? = some x := ⟨_, List.getElem?_eq_getElem (by rw [HN'.out]; exact hlt)⟩
      have hs := allIn_succ hx
      obtain ⟨b, o, rfl, hc⟩ := (hW.grew (g0.trans hg)).2.2.2.2 (by omega)
      obtain ⟨c1, x0, x1, Ax, nx, cx, c2, hbx⟩ := hc k x hx
      have hb0 := hg.cell b0
      have sz0 : w.heap.size < wr.heap.size := World.block_lt_of_cell? _ _ hb0
      have HX := Lib.hid hx
      have HS := Lib.hid hs
      have hnx : Hid (x.data.length = nx) := hbx.1
      clear hc hx hs
      generalize x.off = xo at c1 x0 x1 HS
      go_wp2_with fail
      refine (inside_any xo nx n _ (by omega) (by omega) x0).mono ?_
      rintro e w1 ⟨rfl, rfl⟩
      have g1 : Grew wr (wr.alloc (.cells #[.int .i64 xo, .slice Ax nx cx] 45)) := (Grew.refl wr).alloc _
      rw [hnx.out, HN.out, HI.out, Bool.true_and] at HS
      cases hi : insideB xo nx n with
      | true =>
        rw [hi] at HS
        clear hi
        go_wp2_with fail
        go_roundw
        case rel => exact ⟨k + 1, by omega, by go_num, HS.out, hg.trans g1⟩
        case measure => simp [intOf]; omega
      | false =>
        rw [hi] at HS
        clear hi
        go_wp2_with fail
        go_ret
        exact ⟨by rw [E.out, allIn_false HS.out (by omega)]; rfl, g0.trans (hg.trans g1)⟩
    · obtain rfl : k = n' := by omega
      go_wp2_with fail
      go_ret
      exact ⟨by rw [E.out, HI.out]; rfl, g0.trans hg⟩
end Go.Proofs.Ytneipacdpojjkaa
