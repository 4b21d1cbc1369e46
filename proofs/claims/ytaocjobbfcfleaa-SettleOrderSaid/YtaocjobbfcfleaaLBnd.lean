/-
  SettleBounds: the law's walk.
-/
import Derived.Test.YtaocjobbfcfleaaLSm
import Derived.Test.YtaocjobbfcfleaaBndP
namespace Go.Proofs.Ytaocjobbfcfleaa
open Go.RowKit Go.Proofs WageMem WageOrd WageRec WageMap WageReg WageSet
theorem key9 : KeyOk Try.prog 9 (fun n : ByteArray => Value.string n) := string_key (by kernel_rfl)
theorem map53 : Try.prog.underlying 53 = some (.map 9 3) := by kernel_rfl
abbrev MapQ (w : World) (b : Nat) (m : List (ByteArray × Int)) : Prop := MapIs (fun n : ByteArray => Value.string n) (fun z : Int => Value.int .i64 z) w b m
theorem set2g {w : World} {b : Nat} {u0 u1 : Value} (h : w.heap[b]? = some (.cells #[u0, u1] 25)) (v0 v1 : Value) : ((w.setCell ⟨b, 0, none⟩ v0).setCell ⟨b, 1, none⟩ v1).heap[b]? = some (.cells #[v0, v1] 25) := by
  have h0 := Go.heap_setCell_same w b 0 _ 25 v0 h
  have h1 := Go.heap_setCell_same _ b 1 _ 25 v1 h0
  simpa using h1
theorem cell_set2 {w : World} {b g o : Nat} {v v0 v1 : Value} {A B : Option Addr} {n c m e : Nat} (h : w.cell? ⟨g, o, none⟩ = some v) (hb : w.heap[b]? = some (.cells #[.slice A n c, .slice B m e] 25)) (hv : ∀ A n c, v ≠ .slice A n c) : ((w.setCell ⟨b, 0, none⟩ v0).setCell ⟨b, 1, none⟩ v1).cell? ⟨g, o, none⟩ = some v := by
  by_cases e : g = b
  · subst e
    exfalso
    have h2 := cell_of_row w g o _ 25 (0, 0) hb
    rw [h] at h2
    have h4 := Array.mem_of_getElem? h2.symm
    simp at h4
    rcases h4 with h4 | h4 <;> exact hv _ _ _ h4
  · exact (World.cell?_setCell_other _ _ _ _ (fun h => e (by injection h with h; exact h.symm))).trans ((World.cell?_setCell_other _ _ _ _ (fun h => e (by injection h with h; exact h.symm))).trans h)
theorem recs_set2 {α : Type} {enc : α → List Value} {size : Nat} {w : World} {b : Nat} {v0 v1 : Value} {A B A' : Option Addr} {n c m e n' c' : Nat} {l : List α} (h : Recs enc size w A' n' c' l) (hb : w.heap[b]? = some (.cells #[.slice A n c, .slice B m e] 25)) (hl : ∀ x, ∀ v ∈ enc x, ∀ A n c, v ≠ .slice A n c) : Recs enc size ((w.setCell ⟨b, 0, none⟩ v0).setCell ⟨b, 1, none⟩ v1) A' n' c' l :=
  ⟨h.1, h.2.1, h.2.2.1, h.2.2.2.1, (fun hx => by
    obtain ⟨g, o, h1, h2⟩ := h.2.2.2.2.1 hx
    refine ⟨g, o, h1, fun j u hu => cell_set2 (h2 j u hu) hb ?_⟩
    obtain ⟨x, _, hx⟩ := List.mem_flatMap.1 (List.mem_of_getElem? hu)
    exact hl x u hx), h.2.2.2.2.2⟩
theorem se_no (x : Sta) : ∀ v ∈ se x, ∀ A n c, v ≠ Value.slice A n c := by
  intro v hv A n c
  unfold se at hv; simp at hv; rcases hv with rfl | rfl | rfl | rfl | rfl | rfl | rfl <;> simp
theorem ae_no (x : Ans) : ∀ v ∈ ae x, ∀ A n c, v ≠ Value.slice A n c := by
  intro v hv A n c
  unfold ae at hv; simp at hv; rcases hv with rfl | rfl | rfl | rfl | rfl <;> simp
theorem desk_set2 {w : World} {b : Nat} {A B A' B' : Option Addr} {n c m e n' c' m' e' : Nat} {d : Desk} (h : DeskIs w A' n' c' B' m' e' d) (hb : w.heap[b]? = some (.cells #[.slice A n c, .slice B m e] 25)) (v0 v1 : Value) : DeskIs ((w.setCell ⟨b, 0, none⟩ v0).setCell ⟨b, 1, none⟩ v1) A' n' c' B' m' e' d :=
  ⟨⟨recs_set2 h.1.1 hb se_no, h.1.2⟩, recs_set2 h.2 hb ae_no⟩
set_option maxRecDepth 100000 in
set_option maxHeartbeats 32000000 in
theorem bnd_law (A : Option Addr) (N c : Nat) (B : Option Addr) (M e : Nat) (ps : List Pay) (zs : List Ans) (w : World) (hp : Pays w A N c ps) (hz : Anss w B M e zs) : Calls Try.prog 8 #[.slice A N c, .slice B M e] w fun e w' => e = .returned (.bool true) ∧ Grew w w' := by
  have HP := Lib.hid hp.1
  have HWP := Lib.hid hp.2
  have HZ := Lib.hid hz
  have LP := Lib.hid hp.1.1
  have LZ := Lib.hid hz.1
  have u1 := hp.1.le
  have u2 := Recs.le hz
  clear hp hz
  by_cases hN : N ≤ 30
  rotate_left
  · have q1 : decide ((N : Int) > 30) = true := decide_eq_true (by omega)
    have q1' : decide ((30 : Int) < (N : Int)) = true := decide_eq_true (by omega)
    go_enter Try.func8, Try.ntmps8
    go_wp2_with fail
    refine (head_true _).mono ?_
    rintro r w4 ⟨rfl, gg⟩
    go_wp2_with fail
    go_ret
    exact ⟨rfl, gg⟩
  have q1 : decide ((N : Int) > 30) = false := decide_eq_false (by omega)
  have q1' : decide ((30 : Int) < (N : Int)) = false := decide_eq_false (by omega)
  by_cases hM : M ≤ 60
  rotate_left
  · have q2 : decide ((M : Int) > 60) = true := decide_eq_true (by omega)
    have q2' : decide ((60 : Int) < (M : Int)) = true := decide_eq_true (by omega)
    go_enter Try.func8, Try.ntmps8
    go_wp2_with fail
    refine (head_true _).mono ?_
    rintro r w4 ⟨rfl, gg⟩
    go_wp2_with fail
    go_ret
    exact ⟨rfl, gg⟩
  have q2 : decide ((M : Int) > 60) = false := decide_eq_false (by omega)
  have q2' : decide ((60 : Int) < (M : Int)) = false := decide_eq_false (by omega)
  go_enter Try.func8, Try.ntmps8
  go_wp2_with fail
  refine (head_true _).mono ?_
  rintro r w4 ⟨rfl, gg⟩
  go_upto_region 4 with (fail)
  clear q1 q1' q2 q2'
  obtain ⟨w5, hw⟩ : ∃ y, y = w4.alloc (.cells #[.slice none 0 0, .slice none 0 0] 25) := ⟨_, rfl⟩
  have g : Grew w4 w5 := by rw [hw]; exact (Grew.refl _).alloc _
  obtain ⟨b, hb⟩ : ∃ z, z = w4.heap.size := ⟨_, rfl⟩
  have HB : Hid (w5.heap[b]? = some (.cells #[.slice none 0 0, .slice none 0 0] 25)) := by unfold Hid; rw [hw, hb]; exact heap_alloc_new _ _
  have hbw : w.heap.size ≤ b := by rw [hb]; exact gg.le
  replace gg := gg.trans g
  clear g
  have HD : Hid (DeskIs w5 none 0 0 none 0 0 (sendAll (ps.take 0))) := by unfold Hid sendAll; rw [List.take_zero]; exact desk_nil _
  go_upto_region 5 with (fail)
  rw [← hw, ← hb]
  clear hw hb
  go_wp2_with fail
  go_loopw [34] (fun i y => ∃ (k : Nat) (A0 : Option Addr) (n0 c0 : Nat) (B0 : Option Addr) (m0 e0 : Nat), k ≤ N ∧ i = .int .i64 k ∧ Hid (y.heap[b]? = some (.cells #[.slice A0 n0 c0, .slice B0 m0 e0] 25)) ∧ Hid (DeskIs y A0 n0 c0 B0 m0 e0 (sendAll (ps.take k))) ∧ Grew w y) (fun i _ => N - (intOf i).toNat)
  case atStart => exact ⟨0, none, 0, 0, none, 0, 0, Nat.zero_le _, rfl, HB, HD, gg⟩
  case round =>
    clear HB HD gg
    obtain ⟨k, A0, n0, c0, B0, m0, e0, hk, rfl, HB, HD, gg⟩ := hrel
    by_cases hlt : k < N
    · obtain ⟨g1, o, x, hAx, hx, hr⟩ := (HP.out.grew gg).at_ pe_ok hlt
      have HX := Lib.hid hx
      have k0 : (0 : Int) ≤ (k : Int) := by omega
      have k1 : (k : Int) < (N : Int) := by omega
      subst hAx
      obtain ⟨c1, c2, c3, c4⟩ := p_cells hr
      obtain ⟨wa, hwa⟩ : ∃ y, y = wr.alloc (.cells #[.int .i64 x.id, .string x.acc, .int .i64 x.c, .int .i64 x.d] 27) := ⟨_, rfl⟩
      have g : Grew wr wa := by rw [hwa]; exact (Grew.refl wr).alloc _
      obtain ⟨bx, hbx⟩ : ∃ b, b = wr.heap.size := ⟨_, rfl⟩
      have HRX : Hid (wa.rangeAt bx 0 (pe x)) := by unfold Hid; rw [hwa, hbx]; exact range_new wr (pe x) 27
      replace HB := Lib.hid (g.block HB.out)
      replace HD := Lib.hid (HD.out.grew g)
      replace gg := gg.trans g
      clear g hr hx
      go_upto_region 8 with (fail)
      rw [← hwa, ← hbx]
      clear hwa hbx c1 c2 c3 c4
      obtain ⟨z1, hz1⟩ : ∃ z, sendE (sendAll (ps.take k)) x = z := ⟨_, rfl⟩
      obtain ⟨d1, hd1⟩ : ∃ z, sendD (sendAll (ps.take k)) x = z := ⟨_, rfl⟩
      obtain ⟨c1, c2, c3, c4⟩ := p_cells0 HRX.out
      obtain ⟨y0, y1⟩ := d_cells (row_at (l := [.slice A0 n0 c0, .slice B0 m0 e0]) HB.out)
      go_wp2_with fail
      clear y0 y1 c1 c2 c3 c4
      refine (send_val HD.out (HWP.out x (List.mem_of_getElem? HX.out)) hz1 hd1).mono ?_
      rintro r w7 ⟨A1, n1, c1, B1, m1, e1, rfl, hk1, g⟩
      replace HB := Lib.hid (g.block HB.out)
      replace HD := Lib.hid (HD.out.grew g)
      replace gg := gg.trans g
      clear g HRX
      obtain ⟨w8, hw⟩ : ∃ y, y = w7.alloc (.cells #[.slice A1 n1 c1, .slice B1 m1 e1] 25) := ⟨_, rfl⟩
      have g : Grew w7 w8 := by rw [hw]; exact (Grew.refl _).alloc _
      obtain ⟨b8, hb⟩ : ∃ z, z = w7.heap.size := ⟨_, rfl⟩
      have HR1 : Hid (w8.rangeAt b8 0 [.slice A1 n1 c1, .slice B1 m1 e1]) := by unfold Hid; rw [hw, hb]; exact range_new w7 _ 25
      have HD1 := Lib.hid (hk1.grew g)
      clear hk1
      replace HB := Lib.hid (g.block HB.out)
      replace HD := Lib.hid (HD.out.grew g)
      replace gg := gg.trans g
      clear g
      go_upto_region 9 with (fail)
      rw [← hw, ← hb]
      clear hw hb
      rcases Decidable.em (z1 = 0) with hzz | hzz
      · subst hzz
        have q : ((0 : Int) == 0) = true := rfl
        have HDN : Hid (sendAll (ps.take (k + 1)) = d1) := by unfold Hid; rw [sendAll_succ HX.out]; unfold sendS; rw [if_pos hz1, hd1]
        obtain ⟨y0, y1⟩ := d_cells (row_at (l := [.slice A0 n0 c0, .slice B0 m0 e0]) HB.out)
        obtain ⟨x0, x1⟩ := d_cells HR1.out
        have f0 := row_free HB.out 0
        have f1 := row_free HB.out 1
        have HB2 := Lib.hid (set2g HB.out (.slice A1 n1 c1) (.slice B1 m1 e1))
        have HD2 := Lib.hid (desk_set2 HD1.out HB.out (.slice A1 n1 c1) (.slice B1 m1 e1))
        have gE := (gg.set (p := ⟨b, 0, none⟩) hbw (.slice A1 n1 c1)).set (p := ⟨b, 1, none⟩) hbw (.slice B1 m1 e1)
        clear hz1 hd1 HD HD1
        go_wp2_with fail
        clear y0 y1 x0 x1 f0 f1
        go_roundw
        case rel => exact ⟨k + 1, A1, n1, c1, B1, m1, e1, by omega, by go_num, HB2, by rw [HDN.out]; exact HD2, gE⟩
        case measure => simp [intOf]; omega
      · have q : (z1 == (0 : Int)) = false := by simpa using hzz
        have HDN : Hid (sendAll (ps.take (k + 1)) = sendAll (ps.take k)) := by unfold Hid; rw [sendAll_succ HX.out]; show (if _ = 0 then _ else _) = _; rw [if_neg (by rw [hz1]; exact hzz)]
        clear hd1
        go_wp2_with fail
        go_roundw
        case rel => exact ⟨k + 1, A0, n0, c0, B0, m0, e0, by omega, by go_num, HB, by rw [HDN.out]; exact HD, gg⟩
        case measure => simp [intOf]; omega
    · obtain rfl : N = k := by omega
      have hps : ps.take N = ps := by rw [← LP.out]; exact List.take_length
      rw [hps] at HD
      obtain ⟨dS, hdS⟩ : ∃ d, sendAll ps = d := ⟨_, rfl⟩
      have HS0 := Lib.hid (sendAll_ok ps)
      rw [hdS] at HS0 HD
      rw [LP.out] at HS0
      clear hps hdS HP HWP
      replace HD : Hid (DeskIs wr A0 n0 c0 B0 m0 e0 (appAll dS (zs.take 0))) := by unfold Hid appAll; rw [List.take_zero]; exact HD.out
      go_wp2_with fail
      go_loopw [50] (fun i y => ∃ (k : Nat) (A0 : Option Addr) (n0 c0 : Nat) (B0 : Option Addr) (m0 e0 : Nat), k ≤ M ∧ i = .int .i64 k ∧ Hid (y.heap[b]? = some (.cells #[.slice A0 n0 c0, .slice B0 m0 e0] 25)) ∧ Hid (DeskIs y A0 n0 c0 B0 m0 e0 (appAll dS (zs.take k))) ∧ Grew w y) (fun i _ => M - (intOf i).toNat)
      case atStart => exact ⟨0, A0, n0, c0, B0, m0, e0, Nat.zero_le _, rfl, HB, HD, gg⟩
      case round =>
        clear HB HD gg
        obtain ⟨k, A0, n0, c0, B0, m0, e0, hk, rfl, HB, HD, gg⟩ := hrel
        by_cases hlt : k < M
        · obtain ⟨g1, o, x, hAx, hx, hr⟩ := (HZ.out.grew gg).at_ ae_ok hlt
          have HX := Lib.hid hx
          have k0 : (0 : Int) ≤ (k : Int) := by omega
          have k1 : (k : Int) < (M : Int) := by omega
          subst hAx
          obtain ⟨c1, c2, c3, c4, c5⟩ := a_cells hr
          obtain ⟨wa, hwa⟩ : ∃ y, y = wr.alloc (.cells #[.int .i64 x.q, .int .i64 x.id, .int .i64 x.k, .int .i64 x.c, .int .i64 x.d] 29) := ⟨_, rfl⟩
          have g : Grew wr wa := by rw [hwa]; exact (Grew.refl wr).alloc _
          obtain ⟨bx, hbx⟩ : ∃ b, b = wr.heap.size := ⟨_, rfl⟩
          have HRX : Hid (wa.rangeAt bx 0 (ae x)) := by unfold Hid; rw [hwa, hbx]; exact range_new wr (ae x) 29
          replace HB := Lib.hid (g.block HB.out)
          replace HD := Lib.hid (HD.out.grew g)
          replace gg := gg.trans g
          clear g hr hx
          go_upto_region 15 with (fail)
          rw [← hwa, ← hbx]
          clear hwa hbx c1 c2 c3 c4 c5
          obtain ⟨z1, hz1⟩ : ∃ z, applyE (appAll dS (zs.take k)) x = z := ⟨_, rfl⟩
          obtain ⟨d1, hd1⟩ : ∃ z, applyD (appAll dS (zs.take k)) x = z := ⟨_, rfl⟩
          obtain ⟨c1, c2, c3, c4, c5⟩ := a_cells0 HRX.out
          obtain ⟨y0, y1⟩ := d_cells (row_at (l := [.slice A0 n0 c0, .slice B0 m0 e0]) HB.out)
          go_wp2_with fail
          clear y0 y1 c1 c2 c3 c4 c5
          refine (apply_val HD.out hz1 hd1).mono ?_
          rintro r w7 ⟨A1, n1, c1, B1, m1, e1, rfl, hk1, g⟩
          replace HB := Lib.hid (g.block HB.out)
          replace HD := Lib.hid (HD.out.grew g)
          replace gg := gg.trans g
          clear g HRX
          obtain ⟨w8, hw⟩ : ∃ y, y = w7.alloc (.cells #[.slice A1 n1 c1, .slice B1 m1 e1] 25) := ⟨_, rfl⟩
          have g : Grew w7 w8 := by rw [hw]; exact (Grew.refl _).alloc _
          obtain ⟨b8, hb⟩ : ∃ z, z = w7.heap.size := ⟨_, rfl⟩
          have HR1 : Hid (w8.rangeAt b8 0 [.slice A1 n1 c1, .slice B1 m1 e1]) := by unfold Hid; rw [hw, hb]; exact range_new w7 _ 25
          have HD1 := Lib.hid (hk1.grew g)
          clear hk1
          replace HB := Lib.hid (g.block HB.out)
          replace HD := Lib.hid (HD.out.grew g)
          replace gg := gg.trans g
          clear g
          go_upto_region 16 with (fail)
          rw [← hw, ← hb]
          clear hw hb
          rcases Decidable.em (z1 = 0) with hzz | hzz
          · subst hzz
            have q : ((0 : Int) == 0) = true := rfl
            have HDN : Hid (appAll dS (zs.take (k + 1)) = d1) := by unfold Hid; rw [appAll_succ HX.out]; unfold appS; rw [if_pos hz1, hd1]
            obtain ⟨y0, y1⟩ := d_cells (row_at (l := [.slice A0 n0 c0, .slice B0 m0 e0]) HB.out)
            obtain ⟨x0, x1⟩ := d_cells HR1.out
            have f0 := row_free HB.out 0
            have f1 := row_free HB.out 1
            have HB2 := Lib.hid (set2g HB.out (.slice A1 n1 c1) (.slice B1 m1 e1))
            have HD2 := Lib.hid (desk_set2 HD1.out HB.out (.slice A1 n1 c1) (.slice B1 m1 e1))
            have gE := (gg.set (p := ⟨b, 0, none⟩) hbw (.slice A1 n1 c1)).set (p := ⟨b, 1, none⟩) hbw (.slice B1 m1 e1)
            clear hz1 hd1 HD HD1
            go_wp2_with fail
            clear y0 y1 x0 x1 f0 f1
            go_roundw
            case rel => exact ⟨k + 1, A1, n1, c1, B1, m1, e1, by omega, by go_num, HB2, by rw [HDN.out]; exact HD2, gE⟩
            case measure => simp [intOf]; omega
          · have q : (z1 == (0 : Int)) = false := by simpa using hzz
            have HDN : Hid (appAll dS (zs.take (k + 1)) = appAll dS (zs.take k)) := by unfold Hid; rw [appAll_succ HX.out]; show (if _ = 0 then _ else _) = _; rw [if_neg (by rw [hz1]; exact hzz)]
            clear hd1
            go_wp2_with fail
            go_roundw
            case rel => exact ⟨k + 1, A0, n0, c0, B0, m0, e0, by omega, by go_num, HB, by rw [HDN.out]; exact HD, gg⟩
            case measure => simp [intOf]; omega
        · obtain rfl : M = k := by omega
          have hzs : zs.take M = zs := by rw [← LZ.out]; exact List.take_length
          rw [hzs] at HD
          obtain ⟨d, hd⟩ : ∃ d, appAll dS zs = d := ⟨_, rfl⟩
          have HV := Lib.hid (appAll_ok HS0.out.1 zs)
          rw [hd] at HV HD
          have hn30 : n0 ≤ 30 := by rw [← HD.out.1.1.1, HV.out.2]; have := HS0.out.2; omega
          have LS := Lib.hid HD.out.1.1.1
          clear hzs hd HZ HS0
          obtain ⟨wv, hwv⟩ : ∃ y, y = wr.alloc (.map #[] 0) := ⟨_, rfl⟩
          have g : Grew wr wv := by rw [hwv]; exact (Grew.refl _).alloc _
          obtain ⟨bm, hbm⟩ : ∃ z, z = wr.heap.size := ⟨_, rfl⟩
          have M1 := MapIs.made (ek := fun n : ByteArray => Value.string n) (ev := fun z : Int => Value.int .i64 z) wr
          rw [← hwv, ← hbm] at M1
          have HM1 : Hid (MapQ wv bm (sumM d.ss 0)) := M1
          have hbmw : w.heap.size ≤ bm := by rw [hbm]; exact gg.le
          have hbb : b ≠ bm := by
            intro e
            have h1 := (Array.getElem?_eq_some_iff.1 HB.out).1
            omega
          replace HB := Lib.hid (g.block HB.out)
          replace HD := Lib.hid (HD.out.grew g)
          replace gg := gg.trans g
          clear g M1
          have hmm := @run_makeMap Try.prog
          go_upto_region 20 with (fail)
          rw [← hwv, ← hbm]
          clear hwv hbm hmm
          obtain ⟨y0, y1⟩ := d_cells (row_at (l := [.slice A0 n0 c0, .slice B0 m0 e0]) HB.out)
          go_wp2_with fail
          clear y0 y1
          go_loopw [16, 68] (fun v i y => ∃ k : Nat, k ≤ n0 ∧ i = .int .i64 k ∧ v = .int .i64 (sm leftF (d.ss.take k)) ∧ Hid (y.heap[b]? = some (.cells #[.slice A0 n0 c0, .slice B0 m0 e0] 25)) ∧ Hid (DeskIs y A0 n0 c0 B0 m0 e0 d) ∧ Hid (MapQ y bm (sumM d.ss k)) ∧ Grew w y) (fun _ i _ => n0 - (intOf i).toNat)
          case atStart => exact ⟨0, Nat.zero_le _, rfl, rfl, HB, HD, HM1, gg⟩
          case round =>
            clear HB HD HM1 gg
            obtain ⟨k, hk, rfl, rfl, HB, HD, HM, gg⟩ := hrel
            have hlb := left_take HV.out.1 k
            obtain ⟨Z, hZ⟩ : ∃ Z, sm leftF (d.ss.take k) = Z := ⟨_, rfl⟩
            have HZZ := Lib.hid hZ
            rw [hZ] at hlb ⊢
            clear hZ
            by_cases hlt : k < n0
            · obtain ⟨g1, o, x, hAx, hx, hr⟩ := HD.out.1.1.at_ se_ok hlt
              have HX := Lib.hid hx
              have hbd := sta_bound HV.out.1 (List.mem_of_getElem? hx)
              have hlx := left_bound HV.out.1 (List.mem_of_getElem? hx)
              have k0 : (0 : Int) ≤ (k : Int) := by omega
              have k1 : (k : Int) < (n0 : Int) := by omega
              have hsp := sumM_spec (l := d.ss) (i := k) (by rw [LS.out]; omega)
              have hac := acc_take HV.out.1 x.p.acc k
              have hgl := hsp.2.1 x.p.acc
              obtain ⟨V, hVV⟩ : ∃ V, sm (accF x.p.acc) (d.ss.take k) = V := ⟨_, rfl⟩
              rw [hVV] at hac hgl
              obtain ⟨c0', c1, c2, c3, c4, c5, c6⟩ := s_cells hr
              obtain ⟨wa, hwa⟩ : ∃ y, y = wr.alloc (.cells #[.int .i64 x.p.id, .string x.p.acc, .int .i64 x.p.c, .int .i64 x.p.d, .int .i64 x.st, .int .i64 x.pd, .int .i64 x.bk] 43) := ⟨_, rfl⟩
              have g : Grew wr wa := by rw [hwa]; exact (Grew.refl wr).alloc _
              obtain ⟨bx, hbx⟩ : ∃ b, b = wr.heap.size := ⟨_, rfl⟩
              have HRX : Hid (wa.rangeAt bx 0 (se x)) := by unfold Hid; rw [hwa, hbx]; exact range_new wr (se x) 43
              have HMA := Lib.hid (HM.out.grew g)
              replace HB := Lib.hid (g.block HB.out)
              replace HD := Lib.hid (HD.out.grew g)
              replace gg := gg.trans g
              have hlk := HMA.out.lookup key9 map53 (zero3 _) x.p.acc false
              simp only [Bool.false_eq_true, if_false] at hlk
              rw [show ((alFind x.p.acc (sumM d.ss k)).map fun z : Int => Value.int .i64 z).getD (.int .i64 0) = .int .i64 V by rw [← hgl]; cases alFind x.p.acc (sumM d.ss k) <;> rfl] at hlk
              obtain ⟨wb, up, M2, gb⟩ := HMA.out.update key9 map53 x.p.acc (V + x.p.c)
              rw [show alPut x.p.acc (V + x.p.c) (sumM d.ss k) = sumM d.ss (k + 1) by rw [sumM_succ HX.out, hgl]] at M2
              have HM2 := Lib.hid M2
              obtain ⟨x0, x1, x2, x3, x4, x5, x6⟩ := s_cells0 HRX.out
              have hnx : bx ≠ bm := cell_ne_map x0 HMA.out
              have HRB : Hid (wb.rangeAt bx 0 (se x)) := range_far HRX.out gb (fun e => hnx (by injection e))
              have HB2 : Hid (wb.heap[b]? = some (.cells #[.slice A0 n0 c0, .slice B0 m0 e0] 25)) := by
                unfold Hid
                rw [gb.block b (Array.getElem?_eq_some_iff.1 HB.out).1 (fun e => hbb (by injection e))]
                exact HB.out
              have HD2 : Hid (DeskIs wb A0 n0 c0 B0 m0 e0 d) := ⟨⟨recs_kept HD.out.1.1 gb (fun p v hc => cell_ne_map hc HMA.out), HD.out.1.2⟩, recs_kept HD.out.2 gb (fun p v hc => cell_ne_map hc HMA.out)⟩
              have gB : Grew w wb := gg.grown gb (fun j hj => by injection hj with hj; omega)
              have HSN : Hid (sm leftF (d.ss.take (k + 1)) = Z + leftF x) := by unfold Hid; rw [sm_take _ HX.out, HZZ.out]
              have hw1 : IntKind.i64.wrap (V + x.p.c) = V + x.p.c := IntWalk.i64_in _ (by omega)
              subst hAx
              clear hr hx hsp hgl hVV M2 gb gg HB HD HM HMA hnx g
              go_upto_region 24 with (fail)
              rw [← hwa, ← hbx]
              clear hwa hbx c0' c1 c2 c3 c4 c5 c6
              go_upto_region 25 with (fail)
              clear up x0 x1 x2 x3 x4 x5 x6 HRX hlk
              have q1 : decide (x.bk < 0) = false := decide_eq_false (by omega)
              have q2 : decide (x.bk > x.pd) = false := decide_eq_false (by omega)
              have q2' : decide (x.pd < x.bk) = false := decide_eq_false (by omega)
              have q3 : decide (x.pd > x.p.c) = false := decide_eq_false (by omega)
              have q3' : decide (x.p.c < x.pd) = false := decide_eq_false (by omega)
              obtain ⟨x0, x1, x2, x3, x4, x5, x6⟩ := s_cells0 HRB.out
              by_cases hst : x.st = 4
              · have q4 : (x.st != 4) = false := by simpa using hst
                have HLF : Hid (Z + leftF x = Z) := by unfold Hid leftF; rw [if_neg (by omega)]; omega
                clear hst
                go_wp2_with fail
                go_roundw
                case rel => exact ⟨k + 1, by omega, by go_num, by rw [HSN.out, HLF.out], HB2, HD2, HM2, gB⟩
                case measure => simp [intOf]; omega
              · have q4 : (x.st != 4) = true := by simpa using hst
                have HLF : Hid (Z + leftF x = Z + (x.p.c - x.bk)) := by unfold Hid leftF; rw [if_pos hst]
                clear hst
                go_wp2_with fail
                go_roundw
                case rel => exact ⟨k + 1, by omega, by go_num, by rw [HSN.out, HLF.out], HB2, HD2, HM2, gB⟩
                case measure => simp [intOf]; omega
            · obtain rfl : n0 = k := by omega
              have HALL : Hid (sm (fun q : ByteArray × Int => spentL d q.1) (sumM d.ss n0) = Z) := by
                have := all_sum HV.out.1
                rw [LS.out] at this
                unfold Hid
                rw [this, ← HZZ.out, ← LS.out, List.take_length]
              have HAT : Hid (∀ q ∈ sumM d.ss n0, q.2 = sm (accF q.1) d.ss) := fun q hq => sumM_at (by rw [LS.out]; exact hq)
              obtain ⟨P, hP⟩ : ∃ P, sumM d.ss n0 = P := ⟨_, rfl⟩
              rw [hP] at HM HALL HAT
              clear hP
              obtain ⟨wl, rn, IT, gl⟩ := HM.out.range (P := Try.prog) map53
              obtain ⟨rr, hrr⟩ : ∃ r, r = wr.heap.size := ⟨_, rfl⟩
              rw [← hrr] at rn IT
              have ITH := Lib.hid IT
              have hrw : w.heap.size ≤ rr := by rw [hrr]; exact gg.le
              have hbr : b ≠ rr := by
                intro e
                have h1 := (Array.getElem?_eq_some_iff.1 HB.out).1
                omega
              replace HB := Lib.hid (gl.block HB.out)
              replace HD := Lib.hid (HD.out.grew gl)
              replace gg := gg.trans gl
              clear HM IT gl hrr
              go_wp2_with fail
              clear rn
              go_loopw [16] (fun v y => ∃ (rest : List (ByteArray × Int)) (t : Int), v = .int .i64 t ∧ Hid (sm (fun q : ByteArray × Int => spentL d q.1) rest = t) ∧ Hid (∀ q ∈ rest, q ∈ P) ∧ t ≤ 400000000000000 ∧ Hid (IterIs (fun n : ByteArray => Value.string n) (fun z : Int => Value.int .i64 z) y rr bm P rest) ∧ Hid (y.heap[b]? = some (.cells #[.slice A0 n0 c0, .slice B0 m0 e0] 25)) ∧ Hid (DeskIs y A0 n0 c0 B0 m0 e0 d) ∧ Grew w y) (fun _ y => iterLeft y bm rr)
              case atStart => exact ⟨P, Z, rfl, HALL, fun q hq => hq, by omega, ITH, HB, HD, gg⟩
              case round =>
                clear ITH HB HD gg
                obtain ⟨w9, rfl⟩ : ∃ wi : World, wi = wr := ⟨_, rfl⟩
                obtain ⟨rest, t, rfl, HSR, HIN, htb, IT, HB, HD, hg⟩ := hrel
                rcases IT.out.next (P := Try.prog) 0 with ⟨hnil, hnx⟩ | ⟨i, y, wn, hy, hnx, IT2, gn, hen⟩
                · subst hnil
                  have ht : t = 0 := by have := HSR.out; simp only [sm] at this; omega
                  subst ht
                  have q : ((0 : Int) == 0) = true := rfl
                  go_wp2_with fail
                  go_ret
                  exact ⟨rfl, hg⟩
                · obtain ⟨q, sv'⟩ := y
                  simp only at hnx hen
                  have HST := Lib.hid (sm_step (fun q : ByteArray × Int => spentL d q.1) hy)
                  have hqm := HIN.out _ (List.mem_of_getElem? hy)
                  have hsum := HAT.out _ hqm
                  simp only at hsum
                  have hsl := spent_le HV.out.1 q
                  obtain ⟨N', hN'⟩ : ∃ N', spentL d q = N' := ⟨_, rfl⟩
                  rw [hN', ← hsum] at hsl
                  have hnn : 0 ≤ sm (fun q : ByteArray × Int => spentL d q.1) (rest.eraseIdx i) := sm_nonneg fun a _ => (spent_le HV.out.1 a.1).1
                  have HTT : Hid (sm (fun q : ByteArray × Int => spentL d q.1) (rest.eraseIdx i) = t - N') := by
                    have h1 := HSR.out
                    have h2 := HST.out
                    unfold Hid
                    simp only [hN'] at h2
                    omega
                  have htn : 0 ≤ t - N' := by rw [← HTT.out]; exact hnn
                  have HIN2 : Hid (∀ q ∈ rest.eraseIdx i, q ∈ P) := fun a ha => HIN.out a (List.mem_of_mem_eraseIdx ha)
                  have gW : Grew w wn := hg.grown gn (fun y hy => by injection hy with hy; omega)
                  have ITn := Lib.hid IT2
                  have HBn : Hid (wn.heap[b]? = some (.cells #[.slice A0 n0 c0, .slice B0 m0 e0] 25)) := by
                    unfold Hid
                    rw [gn.block b (Array.getElem?_eq_some_iff.1 HB.out).1 (fun e => hbr (by injection e))]
                    exact HB.out
                  have HDn : Hid (DeskIs wn A0 n0 c0 B0 m0 e0 d) := ⟨⟨recs_kept HD.out.1.1 gn (fun p v hc => cell_ne_iter hc IT.out), HD.out.1.2⟩, recs_kept HD.out.2 gn (fun p v hc => cell_ne_iter hc IT.out)⟩
                  have HLFT : Hid (iterLeft wn bm rr < iterLeft w9 bm rr) := by
                    unfold Hid
                    rw [IT2.left, IT.out.left]
                    have := (erase_perm hy).length_eq
                    rw [List.length_cons] at this
                    omega
                  clear hy IT2 IT gn HB HD hg HST HSR HIN hnn hsum
                  obtain ⟨y0, y1⟩ := d_cells (row_at (l := [.slice A0 n0 c0, .slice B0 m0 e0]) HBn.out)
                  go_wp2_with fail
                  clear y0 y1
                  refine (spent_val HDn.out hN').mono ?_
                  rintro r v6 ⟨rfl, g6⟩
                  have ITa := Lib.hid (ITn.out.grew g6)
                  have HBa := Lib.hid (g6.block HBn.out)
                  have HDa := Lib.hid (HDn.out.grew g6)
                  have HLa : Hid (iterLeft v6 bm rr = iterLeft wn bm rr) := by unfold Hid; rw [(ITn.out.grew g6).left, ITn.out.left]
                  have gE := gW.trans g6
                  have q1 : decide (N' < 0) = false := decide_eq_false (by omega)
                  have q2 : decide (N' > sv') = false := decide_eq_false (by omega)
                  have q2' : decide (sv' < N') = false := decide_eq_false (by omega)
                  clear g6 ITn HBn HDn gW hN'
                  go_wp2_with fail
                  go_roundw
                  case rel => exact ⟨_, t - N', rfl, HTT, HIN2, by omega, ITa, HBa, HDa, gE⟩
                  case measure => rw [HLa.out]; exact HLFT.out
end Go.Proofs.Ytaocjobbfcfleaa
