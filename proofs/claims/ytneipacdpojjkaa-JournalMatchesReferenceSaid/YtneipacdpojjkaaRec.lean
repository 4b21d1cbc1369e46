/-
  journal.recordAt.
-/
import Derived.Test.YtneipacdpojjkaaCode
import Derived.Deep.QuietTactic
import Derived.BigQuiet
import Derived.IntWalk
import Derived.Laws.BitsAllLaws
import Derived.Laws.BitsLemmas
namespace Go.Proofs.Ytneipacdpojjkaa
open Go.RowKit Go.Proofs WageMem WageDisk

def lenAt (all : List UInt8) (a : Nat) : Nat := (all.getD (a + 1) 0).toNat * 256 + (all.getD (a + 2) 0).toNat
/-- The record with a number whose encoding begins at an offset. -/
def recAt (all : List UInt8) (a k : Nat) : Option (List UInt8) :=
  if all.length < a + 13 then none
  else if lenAt all a < 1 ∨ 4096 < lenAt all a ∨ all.length < a + (13 + lenAt all a) then none
  else if codeB ((all.drop (a + 13)).take (lenAt all a)) k == (all.drop a).take (13 + lenAt all a) then some ((all.drop (a + 13)).take (lenAt all a)) else none

theorem ofInt_i64 (a : Nat) (ha : a < 9223372036854775808) : (BitVec.ofInt 64 (a : Int)).toNat = a := by
  rw [BitVec.ofInt_natCast, BitVec.toNat_ofNat]; exact Nat.mod_eq_of_lt (by omega)
theorem or_bytes (a b : Nat) (ha : a < 256) (hb : b < 256) : bits .or .i64 ((a : Int) * 256) (b : Int) = ((a * 256 + b : Nat) : Int) := by
  have e : (a : Int) * 256 = ((a * 256 : Nat) : Int) := by omega
  have ho : a * 256 ||| b = a * 256 + b := by
    have := Nat.shiftLeft_add_eq_or_of_lt (show b < 2 ^ 8 by omega) a
    rw [Nat.shiftLeft_eq] at this
    exact this.symm
  show IntKind.i64.wrap ((BitVec.ofInt 64 ((a : Int) * 256) ||| BitVec.ofInt 64 (b : Int)).toNat : Int) = _
  rw [BitVec.toNat_or, e, ofInt_i64 _ (by omega), ofInt_i64 b (by omega), ho, IntKind.wrap_i64]
  omega

theorem addp (b o i : Nat) : (⟨b, o, none⟩ : Addr).add i = ⟨b, o + i, none⟩ := by
  unfold Addr.add; split
  · rename_i h; subst h; rfl
  · rfl
/-- Where a part of a slice begins. -/
def win (A : Option Addr) (c k : Nat) : Option Addr := if c = k then A else A.map fun z => z.add k
def RetNo (w : World) (r : Ending) (w' : World) : Prop := ∃ A n c, r = .returned (.tuple #[.slice A n c, .bool false]) ∧ Grew w w'
def RetRec (A : Option Addr) (c a m : Nat) (w : World) (r : Ending) (w' : World) : Prop := r = .returned (.tuple #[.slice (win A c (a + 13)) m (c - (a + 13)), .bool true]) ∧ Grew w w'
def RetAt (A : Option Addr) (c a : Nat) (o : Option (List UInt8)) (w : World) (r : Ending) (w' : World) : Prop := match o with
  | none => RetNo w r w'
  | some rec => RetRec A c a rec.length w r w'

set_option maxRecDepth 100000 in
set_option maxHeartbeats 4000000 in
theorem recordAt_any (A : Option Addr) (n c : Nat) (all : List UInt8) (a k : Nat) (w : World) (h : Bytes w A n c all) (hn : n ≤ 65536) (ha : a ≤ n) (hk : k ≤ 65536) :
    Calls Try.prog 59 #[.slice A n c, .int .i64 a, .int .i64 k] w (RetAt A c a (recAt all a k) w) := by
  have hl := h.1
  by_cases h1 : n < a + 13
  · have E : Hid (recAt all a k = none) := by unfold Hid recAt; rw [if_pos (by omega)]
    have t1 : decide ((n : Int) - a < 13) = true := decide_eq_true (by omega)
    clear hl h
    go_enter Try.func59, Try.ntmps59
    go_wp2_with fail
    go_ret2
    rw [E.out]
    exact ⟨_, _, _, rfl, Grew.refl _⟩
  · have t1 : decide ((n : Int) - a < 13) = false := decide_eq_false (by omega)
    obtain ⟨x1, hx1⟩ : ∃ x, all[a + 1]? = some x := ⟨_, List.getElem?_eq_getElem (by omega)⟩
    obtain ⟨x2, hx2⟩ : ∃ x, all[a + 2]? = some x := ⟨_, List.getElem?_eq_getElem (by omega)⟩
    obtain ⟨m, hm⟩ : ∃ m : Nat, m = x1.toNat * 256 + x2.toNat := ⟨_, rfl⟩
    have hlen : lenAt all a = m := by unfold lenAt; rw [List.getD_eq_getElem?_getD, List.getD_eq_getElem?_getD, hx1, hx2, hm]; rfl
    have y1 := x1.toNat_lt
    have y2 := x2.toNat_lt
    have hor : bits .or .i64 ((x1.toNat : Int) * 256) (x2.toNat : Int) = (m : Int) := by rw [hm]; exact or_bytes _ _ y1 y2
    have hmm : m ≤ 65535 := by omega
    obtain ⟨b, o, rfl, hc⟩ := h.at_ (by omega)
    have c1 := hc _ _ hx1
    have c2 := hc _ _ hx2
    have HH := Lib.hid h
    have HL := Lib.hid hl
    have HLen := Lib.hid hlen
    have w1 : IntKind.i64.wrap ((a : Int) + 1) = (a : Int) + 1 := IntWalk.i64_in _ (by omega)
    have w2 : IntKind.i64.wrap ((a : Int) + 2) = (a : Int) + 2 := IntWalk.i64_in _ (by omega)
    have e1 : ((a : Int) + 1).toNat = a + 1 := by omega
    have e2 : ((a : Int) + 2).toNat = a + 2 := by omega
    have f1 : (0 : Int) ≤ (a : Int) + 1 := by omega
    have f2 : (0 : Int) ≤ (a : Int) + 2 := by omega
    have f3 : (a : Int) + 1 < (n : Int) := by omega
    have f4 : (a : Int) + 2 < (n : Int) := by omega
    have f5 : (x1.toNat : Int) < 256 := by omega
    clear hm hx1 hx2 hlen hl h hc
    by_cases h2 : m < 1 ∨ 4096 < m ∨ n < a + (13 + m)
    · have E : Hid (recAt all a k = none) := by unfold Hid recAt; rw [if_neg (by rw [HL.out]; omega), HLen.out, HL.out, if_pos h2]
      have hh : (decide ((m : Int) < 1) = true) ∨ (decide ((m : Int) < 1) = false ∧ decide (4096 < (m : Int)) = true) ∨ (decide ((m : Int) < 1) = false ∧ decide (4096 < (m : Int)) = false ∧ decide ((n : Int) - a < 13 + m) = true) := by
        by_cases q1 : m < 1
        · exact .inl (decide_eq_true (by omega))
        · by_cases q2 : 4096 < m
          · exact .inr (.inl ⟨decide_eq_false (by omega), decide_eq_true (by omega)⟩)
          · exact .inr (.inr ⟨decide_eq_false (by omega), decide_eq_false (by omega), decide_eq_true (by omega)⟩)
      clear h2
      rcases hh with q1 | ⟨q1, q2⟩ | ⟨q1, q2, q3⟩
      all_goals
        go_enter Try.func59, Try.ntmps59
        go_wp2_with fail
        go_quiet (fail)
        go_wp2_with fail
        go_ret2
        rw [E.out]
        exact ⟨_, _, _, rfl, (Grew.refl _).drewN _⟩
    · have q1 : decide ((m : Int) < 1) = false := decide_eq_false (by omega)
      have q2 : decide (4096 < (m : Int)) = false := decide_eq_false (by omega)
      have q3 : decide ((n : Int) - a < 13 + m) = false := decide_eq_false (by omega)
      have h3 : a + (13 + m) ≤ n := by omega
      have h4 : m ≤ 4096 := by omega
      have h5 : 1 ≤ m := by omega
      have hcc : n ≤ c := HH.out.2.1
      have hcm : c ≤ 9223372036854775807 := HH.out.2.2.1
      have hp1 := HH.out.part (a := a + 13) (m := m) (by omega)
      have hp2 := HH.out.part (a := a) (m := 13 + m) (by omega)
      have n1 : ¬ c = a + 13 := by omega
      have n2 : ¬ c = a := by omega
      rw [if_neg n1, Option.map_some, addp] at hp1
      rw [if_neg n2, Option.map_some, addp] at hp2
      obtain ⟨ra, hra⟩ : ∃ ra, (all.drop (a + 13)).take m = ra := ⟨_, rfl⟩
      obtain ⟨wh, hwh⟩ : ∃ wh, (all.drop a).take (13 + m) = wh := ⟨_, rfl⟩
      rw [hra] at hp1
      rw [hwh] at hp2
      have E : Hid (recAt all a k = if codeB ra k == wh then some ra else none) := by
        unfold Hid recAt; rw [if_neg (by rw [HL.out]; omega), HLen.out, HL.out, if_neg h2, hra, hwh]
      have hcl : (codeB ra k).length = 13 + m := by rw [codeB_len, hp1.1]
      have HCL := Lib.hid hcl
      have HRL := Lib.hid hp1.1
      clear hcl
      have HP1 := Lib.hid hp1
      have HP2 := Lib.hid hp2
      clear hp1 hp2 hra hwh h2
      have g0 : (0 : Int) ≤ (a : Int) := by omega
      have g1 : (0 : Int) ≤ (a : Int) + 13 := by omega
      have g2 : (0 : Int) ≤ (a : Int) + 13 + m := by omega
      have g3 : (a : Int) + 13 ≤ (a : Int) + 13 + m := by omega
      have g4 : (a : Int) + 13 + m ≤ (c : Int) := by omega
      have g5 : (a : Int) ≤ (a : Int) + 13 + m := by omega
      have w3 : IntKind.i64.wrap ((a : Int) + 13) = (a : Int) + 13 := IntWalk.i64_in _ (by omega)
      have w4 : IntKind.i64.wrap ((a : Int) + 13 + m) = (a : Int) + 13 + m := IntWalk.i64_in _ (by omega)
      have e3 : ((a : Int) + 13).toNat = a + 13 := by omega
      have e4 : ((a : Int) + 13 + m).toNat - (a + 13) = m := by omega
      have e5 : ((a : Int) + 13 + m).toNat - a = 13 + m := by omega
      go_enter Try.func59, Try.ntmps59
      go_wp2_with fail
      go_quiet (fail)
      go_wp2_with fail
      have GD : Hid (Grew w (w.drewN (nq + 1))) := (Grew.refl w).drewN _
      go_region_held3 (fun _ => True) (trivial)
        (first
          | (go_at_call 50; ((with_reducible refine (code_any _ m _ ra k _ (HP1.out.grew GD.out) (by omega) (by omega) (by omega)).mono ?_); rintro e w5 ⟨A5, c5, rfl, own5, g5⟩))
          | (go_at_call 64; ((with_reducible refine (equal_any A5 _ (13 + m) (13 + m) c5 _ (codeB ra k) wh _ (Bytes.own HCL.out own5) (HP2.out.grew (GD.out.trans g5))).mono ?_); rintro e _ ⟨rfl, rfl⟩)))
      go_wp2_with fail
      go_ret2
      rw [E.out]
      cases hq : codeB ra k == wh with
      | false => exact ⟨_, _, _, rfl, GD.out.trans g5⟩
      | true => exact ⟨by rw [win, if_neg n1, Option.map_some, addp, HRL.out]; rfl, GD.out.trans g5⟩
end Go.Proofs.Ytneipacdpojjkaa
