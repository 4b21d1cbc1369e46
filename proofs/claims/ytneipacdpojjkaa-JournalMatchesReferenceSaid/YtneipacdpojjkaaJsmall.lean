/-
  The law's function small.
-/
import Derived.Test.YtneipacdpojjkaaJhead
namespace Go.Proofs.Ytneipacdpojjkaa
open Go.RowKit Go.Proofs WageMem WageDisk

def sumTo (d : Ds) (k : Nat) : Nat := d.st.length + ((d.pe.take k).map fun x => x.data.length).sum
def jsmallB (d : Ds) : Bool := decide (sumTo d d.pe.length ≤ 8000) && decide (d.pe.length ≤ 65)
/-- No slice of it is longer than memory can be. -/
def Modest (d : Ds) : Prop := d.st.length ≤ 140737488355328 ∧ ∀ x ∈ d.pe, x.data.length ≤ 140737488355328
theorem sumTo_succ {d : Ds} {k : Nat} {x : Wr} (hx : d.pe[k]? = some x) : sumTo d (k + 1) = sumTo d k + x.data.length := by
  unfold sumTo; rw [List.take_add_one, hx]; simp; omega
theorem sumTo_bd {d : Ds} {M : Nat} (h1 : d.st.length ≤ M) (h2 : ∀ x ∈ d.pe, x.data.length ≤ M) (k : Nat) : sumTo d k ≤ (k + 1) * M := by
  induction k with
  | zero => unfold sumTo; rw [List.take_zero]; show d.st.length + 0 ≤ (0 + 1) * M; omega
  | succ k ih =>
    rw [Nat.add_mul (k + 1) 1 M, Nat.one_mul]
    cases hx : d.pe[k]? with
    | none =>
      have : d.pe.take (k + 1) = d.pe.take k := by rw [List.take_add_one, hx]; simp
      unfold sumTo at *
      rw [this]; omega
    | some x =>
      have := h2 x (List.mem_of_getElem? hx)
      rw [sumTo_succ hx]; omega
theorem sumTo_le {d : Ds} (h : Modest d) (k : Nat) (hk : k ≤ 65) : sumTo d k ≤ 9288674231451648 := by
  have h1 := sumTo_bd h.1 h.2 k
  have h2 : (k + 1) * 140737488355328 ≤ 66 * 140737488355328 := Nat.mul_le_mul_right _ (by omega)
  omega

set_option maxHeartbeats 4000000 in
theorem jsmall_any (v : Value) (d : Ds) (w : World) (h : Disk w v d) (hm : Modest d) : Calls Try.prog 33 #[v] w fun e w' => e = .returned (.bool (jsmallB d)) ∧ Grew w w' := by
  obtain ⟨A, n, c, A', n', c', rfl, hB, hW⟩ := h.form
  have HN := Lib.hid hB.1
  have HN' := Lib.hid hW.1
  have HH := Lib.hid h
  have hnm : n' ≤ 9223372036854775807 := Nat.le_trans hW.2.1 hW.2.2.1
  have hn0 : n ≤ 140737488355328 := by rw [← hB.1]; exact hm.1
  have HSL := Lib.hid (fun k (hk : k ≤ 65) => sumTo_le hm k hk)
  have h00 : sumTo d 0 = n := by unfold sumTo; rw [hB.1]; simp
  have H00 := Lib.hid h00
  have HM := Lib.hid hm.2
  clear h hB hW h00 hm
  go_enter Try.func33, Try.ntmps33
  go_wp2_with fail
  obtain ⟨w1, hw1⟩ : ∃ w1, w1 = w.alloc (.cells #[.slice A n c, .slice A' n' c'] 25) := ⟨_, rfl⟩
  have g1 : Grew w w1 := by rw [hw1]; exact (Grew.refl _).alloc _
  have D1 : Hid (w1.cell? ⟨w.heap.size, 1, none⟩ = some (.slice A' n' c')) := by unfold Hid; rw [hw1]; simp
  rw [← hw1]
  clear hw1
  go_loopw [3, 12] (fun v i wr => ∃ (k : Nat) (s : Int), k ≤ n' ∧ i = .int .i64 k ∧ v = .int .i64 s ∧ (n' ≤ 65 → s = sumTo d k) ∧ Grew w1 wr) (fun _ i _ => n' - (intOf i).toNat)
  case atStart => exact ⟨0, n, Nat.zero_le _, rfl, rfl, fun _ => by rw [H00.out], Grew.refl _⟩
  case round =>
    obtain ⟨k, s, hk, rfl, rfl, hs, hg⟩ := hrel
    have HS := Lib.hid hs
    have d1 := hg.cell D1.out
    have szr : w.heap.size < wr.heap.size := World.block_lt_of_cell? _ _ d1
    clear hs
    by_cases hlt : k < n'
    · obtain ⟨b, o, x, Ad, nd, cd, rfl, hx, c1, c2, hbx⟩ := (HH.out.grew (g1.trans hg)).parts.2.at_ hlt
      have hsu := sumTo_succ hx
      rw [hbx.1] at hsu
      have HU := Lib.hid hsu
      clear hsu
      by_cases h65 : n' ≤ 65
      · have e1 := HS.out h65
        have e2 := HSL.out k (by omega)
        have e3 : nd ≤ 140737488355328 := by have := HM.out x (List.mem_of_getElem? hx); rw [hbx.1] at this; exact this
        have s0 : 0 ≤ s := by omega
        have s1 : s + nd ≤ 9223372036854775807 := by omega
        clear e1 e2 hx hbx
        go_wp2_with fail
        go_roundw
        case rel => exact ⟨k + 1, _, by omega, by go_num, rfl, fun q => by have := HS.out q; rw [HU.out]; omega, hg.alloc _⟩
        case measure => simp [intOf]; omega
      · clear hx hbx
        go_wp2_with fail
        go_roundw
        case rel => exact ⟨k + 1, _, by omega, by go_num, rfl, fun q => absurd q h65, hg.alloc _⟩
        case measure => simp [intOf]; omega
    · obtain rfl : k = n' := by omega
      by_cases h65 : k ≤ 65
      · have e1 := HS.out h65
        have E : Hid (jsmallB d = (decide (s ≤ 8000) && decide ((k : Int) ≤ 65))) := by
          unfold Hid jsmallB
          rw [HN'.out, e1]
          congr 1
          · rw [decide_eq_decide]; omega
          · rw [decide_eq_decide]; omega
        have t2 : decide ((k : Int) ≤ 65) = true := decide_eq_true (by omega)
        clear e1
        have t1 : decide (s ≤ 8000) = true ∨ decide (s ≤ 8000) = false := by cases decide (s ≤ 8000) <;> simp
        rcases t1 with t1 | t1
        all_goals
          go_wp2_with fail
          go_ret
          exact ⟨by rw [E.out, t1]; first | rfl | (rw [t2]; rfl), g1.trans hg⟩
      · have E : Hid (jsmallB d = false) := by
          unfold Hid jsmallB
          rw [HN'.out, decide_eq_false h65, Bool.and_false]
        have t2 : decide ((k : Int) ≤ 65) = false := decide_eq_false (by omega)
        have t1 : decide (s ≤ 8000) = true ∨ decide (s ≤ 8000) = false := by cases decide (s ≤ 8000) <;> simp
        rcases t1 with t1 | t1
        all_goals
          go_wp2_with fail
          go_ret
          exact ⟨by rw [E.out]; rfl, g1.trans hg⟩
end Go.Proofs.Ytneipacdpojjkaa
