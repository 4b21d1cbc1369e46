/-
  The reference of the journal: the record at an offset.
-/
import Derived.Test.YtneipacdpojjkaaJrefB
namespace Go.Proofs.Ytneipacdpojjkaa
open Go.RowKit Go.Proofs WageMem WageDisk

set_option maxRecDepth 100000 in
set_option maxHeartbeats 1000000 in
theorem rrecord_any (A : Option Addr) (n c : Nat) (all : List UInt8) (a k : Nat) (w : World) (h : Bytes w A n c all) (hn : n ≤ 65536) (ha : a ≤ n) :
    Calls Try.prog 53 #[.slice A n c, .int .i64 a, .int .i64 k] w (RetOwnRec (recAt all a k) w) := by
  have hl := h.1
  obtain ⟨i0, hi, hz0, hz1, hz2⟩ := info_parts info5
  by_cases h1 : n < a + 14
  · have E : Hid (recAt all a k = none) := recAt_14 (by omega)
    have t1 : decide ((n : Int) - a < 14) = true := decide_eq_true (by omega)
    clear hl h
    go_enter Try.func53, Try.ntmps53
    go_wp2_with fail
    go_ret2
    rw [E.out]
    exact ⟨_, _, _, rfl, Grew.refl _⟩
  · have t1 : decide ((n : Int) - a < 14) = false := decide_eq_false (by omega)
    obtain ⟨x0, hx0⟩ : ∃ x, all[a]? = some x := ⟨_, List.getElem?_eq_getElem (by omega)⟩
    obtain ⟨x1, hx1⟩ : ∃ x, all[a + 1]? = some x := ⟨_, List.getElem?_eq_getElem (by omega)⟩
    obtain ⟨x2, hx2⟩ : ∃ x, all[a + 2]? = some x := ⟨_, List.getElem?_eq_getElem (by omega)⟩
    have i0' : (0 : Int) ≤ (a : Int) := by omega
    have i1 : (a : Int) < (n : Int) := by omega
    obtain ⟨b, o, rfl, hc⟩ := h.at_ (by omega)
    have c0 := hc _ _ hx0
    have c1 := hc _ _ hx1
    have c2 := hc _ _ hx2
    by_cases hm : x0 = 82
    · have t2 : ((x0.toNat : Int) != 82) = false := by rw [hm]; rfl
      obtain ⟨m, hmm⟩ : ∃ m : Nat, m = x1.toNat * 256 + x2.toNat := ⟨_, rfl⟩
      have hlen : lenAt all a = m := by unfold lenAt; rw [List.getD_eq_getElem?_getD, List.getD_eq_getElem?_getD, hx1, hx2, hmm]; rfl
      have y1 := x1.toNat_lt
      have y2 := x2.toNat_lt
      have HH := Lib.hid h
      have HL := Lib.hid hl
      have HLen := Lib.hid hlen
      have w1 : IntKind.i64.wrap ((a : Int) + 1) = (a : Int) + 1 := IntWalk.i64_in _ (by omega)
      have w2 : IntKind.i64.wrap ((a : Int) + 2) = (a : Int) + 2 := IntWalk.i64_in _ (by omega)
      have w5 : IntKind.i64.wrap ((x1.toNat : Int) * 256) = (x1.toNat : Int) * 256 := IntWalk.i64_in _ (by omega)
      have w6 : IntKind.i64.wrap ((x1.toNat : Int) * 256 + (x2.toNat : Int)) = (m : Int) := by rw [IntWalk.i64_in _ (by omega)]; omega
      have e1 : ((a : Int) + 1).toNat = a + 1 := by omega
      have e2 : ((a : Int) + 2).toNat = a + 2 := by omega
      have f1 : (0 : Int) ≤ (a : Int) + 1 := by omega
      have f2 : (0 : Int) ≤ (a : Int) + 2 := by omega
      have f3 : (a : Int) + 1 < (n : Int) := by omega
      have f4 : (a : Int) + 2 < (n : Int) := by omega
      have hmb : m ≤ 65535 := by omega
      have f5 : (x1.toNat : Int) < 256 := by omega
      have f6 : (x2.toNat : Int) < 256 := by omega
      clear hmm hx0 hx1 hx2 hlen hl h hc hm y1 y2
      by_cases h2 : m < 1 ∨ 4096 < m ∨ n < a + (13 + m)
      · have E : Hid (recAt all a k = none) := by unfold Hid recAt; rw [if_neg (by rw [HL.out]; omega), HLen.out, HL.out, if_pos h2]
        have hh : (decide ((m : Int) < 1) = true) ∨ (decide ((m : Int) < 1) = false ∧ decide (4096 < (m : Int)) = true) ∨ (decide ((m : Int) < 1) = false ∧ decide (4096 < (m : Int)) = false ∧ decide ((n : Int) - a < 13 + m) = true) := by
          by_cases q1 : m < 1
          · exact .inl (decide_eq_true (by omega))
          · by_cases q2 : 4096 < m
            · exact .inr (.inl ⟨decide_eq_false (by omega), decide_eq_true (by omega)⟩)
            · exact .inr (.inr ⟨decide_eq_false (by omega), decide_eq_false (by omega), decide_eq_true (by omega)⟩)
        clear h2
        rcases hh with q1 | ⟨q1, q2⟩ | ⟨q1, q2, q3⟩
        all_goals
          go_enter Try.func53, Try.ntmps53
          go_wp2_with fail
          go_quiet (fail)
          go_wp2_with fail
          go_ret2
          rw [E.out]
          exact ⟨_, _, _, rfl, (Grew.refl _).drewN _⟩
      · have q1 : decide ((m : Int) < 1) = false := decide_eq_false (by omega)
        have q2 : decide (4096 < (m : Int)) = false := decide_eq_false (by omega)
        have q3 : decide ((n : Int) - a < 13 + m) = false := decide_eq_false (by omega)
        have h3 : a + (13 + m) ≤ n := by omega
        have h4 : m ≤ 4096 := by omega
        have h5 : 1 ≤ m := by omega
        have hcc : n ≤ c := HH.out.2.1
        have hcm : c ≤ 9223372036854775807 := HH.out.2.2.1
        have hp1 := HH.out.part (a := a + 13) (m := m) (by omega)
        have hp2 := HH.out.part (a := a) (m := 13 + m) (by omega)
        have n1 : ¬ c = a + 13 := by omega
        have n2 : ¬ c = a := by omega
        rw [if_neg n1, Option.map_some, addp] at hp1
        rw [if_neg n2, Option.map_some, addp] at hp2
        obtain ⟨ra, hra⟩ : ∃ ra, (all.drop (a + 13)).take m = ra := ⟨_, rfl⟩
        obtain ⟨wh, hwh⟩ : ∃ wh, (all.drop a).take (13 + m) = wh := ⟨_, rfl⟩
        rw [hra] at hp1
        rw [hwh] at hp2
        have E : Hid (recAt all a k = if codeB ra k == wh then some ra else none) := by
          unfold Hid recAt; rw [if_neg (by rw [HL.out]; omega), HLen.out, HL.out, if_neg h2, hra, hwh]
        have hcl : (codeB ra k).length = 13 + m := by rw [codeB_len, hp1.1]
        have HCL := Lib.hid hcl
        have HRL := Lib.hid hp1.1
        clear hcl
        have HP1 := Lib.hid hp1
        have HP2 := Lib.hid hp2
        clear hp1 hp2 hra hwh h2
        have g1 : (0 : Int) ≤ (a : Int) + 13 := by omega
        have g2 : (0 : Int) ≤ (a : Int) + 13 + m := by omega
        have g3 : (a : Int) + 13 ≤ (a : Int) + 13 + m := by omega
        have g4 : (a : Int) + 13 + m ≤ (c : Int) := by omega
        have g5 : (a : Int) ≤ (a : Int) + 13 + m := by omega
        have w3 : IntKind.i64.wrap ((a : Int) + 13) = (a : Int) + 13 := IntWalk.i64_in _ (by omega)
        have w4 : IntKind.i64.wrap ((a : Int) + 13 + m) = (a : Int) + 13 + m := IntWalk.i64_in _ (by omega)
        have e3 : ((a : Int) + 13).toNat = a + 13 := by omega
        have e4 : ((a : Int) + 13 + m).toNat - (a + 13) = m := by omega
        have e5 : ((a : Int) + 13 + m).toNat - a = 13 + m := by omega
        go_enter Try.func53, Try.ntmps53
        go_wp2_with fail
        go_quiet (fail)
        go_upto_region 7 with (fail)
        obtain ⟨w0, hw0⟩ : ∃ x, x = w.drewN nq := ⟨_, rfl⟩
        have g0 : Grew w w0 := by rw [hw0]; exact (Grew.refl w).drewN _
        rw [← hw0]
        clear hw0 c0 c1 c2
        go_upto_region 8 with (at_builtin; refine wpList_append_sl _ rfl (.tmp 51) (.tmp 59) 22 rfl w.heap.size 5 i0 (.int .u8 0) 1 1 Try.underlying22 hi hz0 hz1 hz2 rfl (by decide) (.slice none 0 0) 0 [] rfl (World.ownsRow_nil _ _ _ _) (some ⟨b, o + (a + 13), none⟩) m (c - (a + 13)) (ra.map bv) rfl (HP1.out.grew g0).2 (bv_one ra) (by unfold maxLen; omega) (by omega) g0.le ?_; intro v2 w7 own2 hg2 hat2; obtain ⟨A2, c2, rfl⟩ := own_form own2)
        rw [Nat.zero_add, List.nil_append] at own2
        have g7 : Grew w w7 := g0.grown hg2 (by simp [Value.ownBlock])
        have OWN := Lib.hid own2
        have HRA : Hid (Bytes w7.drew A2 m c2 ra) := (Bytes.own HRL.out own2).grew (Grew.refl w7).drew
        have G7 := Lib.hid g7.drew
        clear own2 hg2 hat2 g7
        go_region_held3 (fun _ => True) (trivial)
          (first
            | (go_at_call 54; ((with_reducible refine (rcode_any _ m _ ra k _ HRA.out (by omega)).mono ?_); rintro e w5 ⟨A5, c5, rfl, own5, g5⟩))
            | (go_at_call 41; ((with_reducible refine (jsame_any A5 _ (13 + m) (13 + m) c5 _ (codeB ra k) wh _ (Bytes.own HCL.out own5) (HP2.out.grew (G7.out.trans g5))).mono ?_); rintro e w8 ⟨rfl, nq2, rfl⟩)))
        go_wp2_with fail
        go_ret2
        rw [E.out]
        cases hq : codeB ra k == wh with
        | false =>
          have hne : codeB ra k ≠ wh := by intro h; rw [h] at hq; simp at hq
          rw [decide_eq_false hne]
          exact ⟨_, _, _, rfl, (G7.out.trans g5).drewN _⟩
        | true =>
          rw [decide_eq_true (eq_of_beq hq)]
          show RetOwnRec (some ra) _ _ _
          unfold RetOwnRec
          simp only
          rw [HRL.out]
          exact ⟨A2, c2, rfl, own_grew OWN.out (((Grew.refl w7).drew.trans g5).drewN _), (G7.out.trans g5).drewN _⟩
    · have t2 : ((x0.toNat : Int) != 82) = true := by rw [bne_iff_ne]; intro h; apply hm; exact UInt8.toNat_inj.1 (by show x0.toNat = 82; omega)
      have E : Hid (recAt all a k = none) := recAt_mark hx0 hm
      clear hl h hc hx0 hx1 hx2 hm
      go_enter Try.func53, Try.ntmps53
      go_wp2_with fail
      go_ret2
      rw [E.out]
      exact ⟨_, _, _, rfl, Grew.refl _⟩
end Go.Proofs.Ytneipacdpojjkaa
