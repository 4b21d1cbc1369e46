/-
  The iterator over the records of bytes.
-/
import Derived.RangeFuncNested
import Derived.RangeFuncBound
import Derived.RangeFuncCalls
import Derived.RangeFuncLeaves
import Derived.Shelf.Abstract
import Derived.Shelf.RegionOpen
import Derived.WalkKit
import Derived.OwnWalkIn
import Derived.TacticsInMore
import Derived.LoopNIn
import Derived.LoopIn
import Derived.Test.YtneipacdpojjkaaRec
import Derived.Test.YtneipacdpojjkaaIter
namespace Go.Proofs.Ytneipacdpojjkaa
open Go.RowKit Go.Shelf Go.Proofs WageMem WageDisk
attribute [local go_sem] Oper.semAt_some

/-- Where the records of bytes lie, from an offset and a number on. -/
def scan (all : List UInt8) : Nat → Nat → Nat → List (Nat × Nat)
  | 0, _, _ => []
  | f + 1, a, k => match recAt all a k with
    | none => []
    | some r => (a + 13, r.length) :: scan all f (a + (13 + r.length)) (k + 1)
def places (all : List UInt8) : List (Nat × Nat) := scan all (all.length + 1) 0 0
theorem recAt_len {all : List UInt8} {a k : Nat} {r : List UInt8} (h : recAt all a k = some r) : 1 ≤ r.length ∧ r.length ≤ 4096 ∧ a + (13 + r.length) ≤ all.length ∧ r = (all.drop (a + 13)).take r.length := by
  unfold recAt at h
  split at h
  · cases h
  · split at h
    · cases h
    · split at h
      · injection h with h
        have hl : r.length = lenAt all a := by rw [← h, List.length_take, List.length_drop]; omega
        refine ⟨by omega, by omega, by omega, by rw [hl, h]⟩
      · cases h

/-- Cells that stay. -/
def KeepG (G : Addr → Prop) (A B : World) : Prop := ∀ p v, G p → A.cell? p = some v → B.cell? p = some v
theorem Bytes.keepG {G : Addr → Prop} {W W' : World} {A : Option Addr} {n c : Nat} {bs : List UInt8} (h : Bytes W A n c bs) (k : KeepG G W W') (hG : ∀ b o, A = some ⟨b, o, Option.none⟩ → ∀ j, j < n → G ⟨b, o + j, Option.none⟩) : Bytes W' A n c bs := by
  refine ⟨h.1, h.2.1, h.2.2.1, h.2.2.2.1, fun hx => ?_, h.2.2.2.2.2⟩
  obtain ⟨b, o, e, hc⟩ := h.2.2.2.2.1 hx
  refine ⟨b, o, e, fun j u hu => k _ _ (hG b o e j ?_) (hc j u hu)⟩
  have := (List.getElem?_eq_some_iff.1 hu).1
  rw [List.length_map, h.1] at this
  exact this

set_option maxRecDepth 100000 in
set_option maxHeartbeats 2000000 in
theorem records1_runs (m Bx : Nat) (A : Option Addr) (n c : Nat) (all : List UInt8) (G : Addr → Prop) (W : World) (hbox : W.cell? ⟨Bx, 0, none⟩ = some (.slice A n c)) (hG : G ⟨Bx, 0, none⟩)
    (hB : Bytes W A n c all) (hGA : ∀ b o, A = some ⟨b, o, Option.none⟩ → ∀ j, j < n → G ⟨b, o + j, Option.none⟩) (hn : n ≤ 65536) :
    IterRunsV Fence.wide m Try.prog 58 #[.pointer (some ⟨Bx, 0, none⟩)] (fun x : Nat × Nat => #[.int .i64 ((x.1 + x.2 : Nat) : Int), .slice (win A c x.1) x.2 (c - x.1)]) Grew (KeepG G) (· = places all) (fun x => x.1 + x.2 ≤ n ∧ 1 ≤ x.2 ∧ x.2 ≤ 4096) (places all).length W := by
  intro l J hJ hY h0
  have HL := Lib.hid hB.1
  refine callsIn_of_wp Try.func58 rfl trivial ?_ rfl
  simp only [Try.ntmps58, List.size_toArray, List.length_cons, List.length_nil, Nat.reduceAdd, Nat.reduceSub, Array.replicate_succ, Array.replicate_zero, List.push_toArray, List.append_toArray, List.nil_append, List.cons_append]
  gi_wp2
  gi_loopw [3, 4] (fun v i wr => ∃ (pre : List (Nat × Nat)) (a : Nat), v = .int .i64 a ∧ i = .int .i64 (pre.length : Int) ∧ a ≤ n ∧ pre.length ≤ a ∧ pre ++ scan all (n + 1 - pre.length) a pre.length = places all ∧ wr.cell? ⟨Bx, 0, none⟩ = some (.slice A n c) ∧ Bytes wr A n c all ∧ J pre wr)
    (fun v _ _ => n - (intOf v).toNat)
  case atStart => exact ⟨[], 0, rfl, rfl, Nat.zero_le _, Nat.le_refl _, by unfold places; rw [HL.out]; rfl, hbox, hB, h0⟩
  case round =>
    obtain ⟨pre, a, rfl, rfl, ha, hpa, hsc, hbx, hBr, hj⟩ := hrel
    have HSC := Lib.hid hsc
    have HB := Lib.hid hBr
    obtain ⟨k, hk⟩ : ∃ k, pre.length = k := ⟨_, rfl⟩
    rw [hk]
    rw [hk] at hpa
    have HK := Lib.hid hk
    clear hsc hBr hbox hB h0 hk
    cases hr : recAt all a k with
    | none =>
      have E : Hid (pre = places all) := by
        have := HSC.out
        rw [HK.out, show n + 1 - k = (n - k) + 1 by omega] at this
        unfold scan at this
        rw [hr] at this
        unfold Hid
        simpa using this
      have HR := Lib.hid hr
      clear hr
      gi_wp2
      refine ⟨trivial, (fun h => by cases h), ?_⟩
      refine (callsIn_wide.2 (recordAt_any A n c all a k _ HB.out hn ha (by omega))).mono ?_
      rw [HR.out]
      rintro e w1 ⟨A1, n1, c1, rfl, g1⟩
      gi_wp2
      refine bodyPost_ret (results_none rfl _ _ _) rfl ?_
      exact ⟨⟨_, rfl⟩, pre, E.out, hJ _ _ _ hj g1⟩
    | some r =>
      obtain ⟨l1, l2, l3, l4⟩ := recAt_len hr
      rw [HL.out] at l3
      have HSN : Hid ((pre ++ [(a + 13, r.length)]) ++ scan all (n + 1 - (k + 1)) (a + (13 + r.length)) (k + 1) = places all) := by
        have := HSC.out
        rw [HK.out, show n + 1 - k = (n - k) + 1 by omega] at this
        unfold scan at this
        rw [hr] at this
        unfold Hid
        rw [← this, List.append_assoc, show n + 1 - (k + 1) = n - k by omega]
        rfl
      have HR := Lib.hid hr
      obtain ⟨rl, hrl⟩ : ∃ rl, r.length = rl := ⟨_, rfl⟩
      rw [hrl] at l1 l2 l3 HSN
      have HRL := Lib.hid hrl
      clear hr l4 hrl
      have hlen : pre.length < (places all).length := by rw [← HSN.out]; simp
      gi_wp2
      refine ⟨trivial, (fun h => by cases h), ?_⟩
      refine (callsIn_wide.2 (recordAt_any A n c all a k _ HB.out hn ha (by omega))).mono ?_
      rw [HR.out]
      rintro e w1 ⟨rfl, g1⟩
      rw [HRL.out]
      have hj1 := hJ _ _ _ hj g1
      have hbx1 := g1.cell hbx
      have HB1 := Lib.hid (HB.out.grew g1)
      have hY' := hY pre (a + 13, rl) w1 hj1 ⟨by show a + 13 + rl ≤ n; omega, l1, l2⟩ hlen
      simp only at hY'
      rw [show ((a + 13 + rl : Nat) : Int) = (a : Int) + (13 + (rl : Int)) by omega] at hY'
      obtain ⟨fn, tmps, assign, body, hy, hR⟩ := hY'
      clear hlen hbx hj hj1
      gi_wp2
      refine ⟨(fun h => by cases h), ?_⟩
      refine hR.mono ?_
      rintro e W3 ⟨rfl, hj3, hk3⟩
      have hbx3 := hk3 _ _ hG hbx1
      have HB3 := Lib.hid (Bytes.keepG HB1.out hk3 hGA)
      clear hR hy hbx1 HB1 hk3
      gi_wp2
      go_roundw
      case rel =>
        refine ⟨pre ++ [(a + 13, rl)], a + (13 + rl), by go_num, ?_, by omega, ?_, ?_, hbx3, HB3.out, hj3⟩
        · rw [List.length_append, HK.out]; simp
        · rw [List.length_append, HK.out]; simp; omega
        · rw [List.length_append, HK.out]; exact HSN.out
      case measure => simp [intOf]; omega
end Go.Proofs.Ytneipacdpojjkaa
