/-
  The reference's Standing.
-/
import Derived.Test.YtaocjobbfcfleaaRFind
import Derived.Test.YtaocjobbfcfleaaStands
namespace WageSet
/-- No answer about a payment is older than it. -/
def daysB (p : Pay) (zs : List Ans) : Bool := zs.all fun a => !decide (a.id = p.id) || decide (p.d ≤ a.d)
/-- What the reference's Standing reports. -/
def rstB (p : Pay) (zs : List Ans) : Bool := daysB p zs && okT p (tal p.id zs)
theorem rst_no {p : Pay} {zs : List Ans} (h : okT p (tal p.id zs) = false) : rstB p zs = false := by unfold rstB; rw [h, Bool.and_false]
theorem rst_yes {p : Pay} {zs : List Ans} (hd : daysB p zs = true) (h : okT p (tal p.id zs) = true) : rstB p zs = true := by unfold rstB; rw [h, hd]; rfl
theorem rst_day {p : Pay} {zs : List Ans} {k : Nat} {x : Ans} (hx : zs[k]? = some x) (h : x.id = p.id) (hd : x.d < p.d) : rstB p zs = false := by
  unfold rstB
  have : daysB p zs = false := by
    unfold daysB
    rw [List.all_eq_false]
    exact ⟨x, List.mem_of_getElem? hx, by simp [h]; omega⟩
  rw [this]; rfl
theorem day_in {p : Pay} {zs : List Ans} {k : Nat} {x : Ans} (hx : zs[k]? = some x) (h : daysB p (zs.take k) = true) (hd : ¬ x.d < p.d) : daysB p (zs.take (k + 1)) = true := by
  unfold daysB at *
  rw [List.take_add_one, hx, List.all_append, h]
  simp; omega
theorem day_out {p : Pay} {zs : List Ans} {k : Nat} {x : Ans} (hx : zs[k]? = some x) (h : daysB p (zs.take k) = true) (hd : ¬ x.id = p.id) : daysB p (zs.take (k + 1)) = true := by
  unfold daysB at *
  rw [List.take_add_one, hx, List.all_append, h]
  simp [hd]
theorem tal_all {zs : List Ans} (h : ∀ a ∈ zs, ansB a = true) (hl : zs.length ≤ 2100) (id : Int) (k : Nat) : ((0 ≤ (tal id (zs.take k)).pd ∧ (tal id (zs.take k)).pd ≤ 2100000000000000) ∧ (0 ≤ (tal id (zs.take k)).bk ∧ (tal id (zs.take k)).bk ≤ 2100000000000000) ∧ (0 ≤ (tal id (zs.take k)).tk ∧ (tal id (zs.take k)).tk ≤ 2100000000000000) ∧ 0 ≤ (tal id (zs.take k)).rf ∧ (tal id (zs.take k)).rf ≤ 2100000000000000) := by
  have hl : (zs.take k).length ≤ 2100 := by rw [List.length_take]; omega
  have hc : ∀ a ∈ zs.take k, 0 ≤ a.c ∧ a.c ≤ 1000000000000 := fun a ha => ans_c (h a (List.mem_of_mem_take ha))
  refine ⟨?_, ?_, ?_, ?_⟩ <;> refine sm_bound (fun a ha => ?_) hl <;> have := hc a ha <;> simp only [pdF, bkF, tkF, rfF] <;> split <;> omega
theorem tk_one {t : Tal} {t' : Tal} {x : Ans} (h : t' = talA t x) (hk : x.k = 1) (h0 : 0 ≤ t.tk) : Go.Value.bool true = Go.Value.bool (decide (0 < t'.tk)) := by
  rw [h]; simp [talA, hk]; omega
end WageSet
namespace Go.Proofs.Ytaocjobbfcfleaa
open Go.RowKit Go.Proofs WageMem WageOrd WageRec WageMap WageReg WageSet
/-- What the memory holds while answers are counted. -/
structure StR (y w : World) (b2 b4 b6 : Nat) (p : Pay) (st pd bk : Int) : Prop where
  r2 : y.rangeAt b2 0 (pe p)
  r4 : y.heap[b4]? = some (.cells #[.int .i64 0, .string { data := #[] }, .int .i64 0, .int .i64 0, .int .i64 0, .int .i64 0, .int .i64 0] 43)
  r6 : y.heap[b6]? = some (.cells #[.int .i64 p.id, .string p.acc, .int .i64 p.c, .int .i64 p.d, .int .i64 st, .int .i64 pd, .int .i64 bk] 43)
  g : Grew w y
theorem StR.c6 {y w : World} {b2 b4 b6 : Nat} {p : Pay} {st pd bk : Int} (h : StR y w b2 b4 b6 p st pd bk) : y.rangeAt b6 0 [.int .i64 p.id, .string p.acc, .int .i64 p.c, .int .i64 p.d, .int .i64 st, .int .i64 pd, .int .i64 bk] := row_at h.r6
theorem StR.lt6 {y w : World} {b2 b4 b6 : Nat} {p : Pay} {st pd bk : Int} (h : StR y w b2 b4 b6 p st pd bk) : b6 < y.heap.size := (Array.getElem?_eq_some_iff.1 h.r6).1
theorem StR.grew {y y' w : World} {b2 b4 b6 : Nat} {p : Pay} {st pd bk : Int} (h : StR y w b2 b4 b6 p st pd bk) (g : Grew y y') : StR y' w b2 b4 b6 p st pd bk := ⟨range_grew h.r2 g, g.block h.r4, g.block h.r6, h.g.trans g⟩
theorem StR.cast {y w : World} {b2 b4 b6 : Nat} {p : Pay} {st pd bk pd' bk' : Int} (h : StR y w b2 b4 b6 p st pd bk) (e : pd' = pd) (e' : bk' = bk) : StR y w b2 b4 b6 p st pd' bk' := by subst e e'; exact h
theorem StR.other {y w : World} {b2 b4 b6 : Nat} {p : Pay} {st pd bk st' pd' bk' : Int} {i : Nat} {v : Value} (h : StR y w b2 b4 b6 p st pd bk) (hne : b2 ≠ b6 ∧ b4 ≠ b6 ∧ w.heap.size ≤ b6) (e : (#[.int .i64 p.id, .string p.acc, .int .i64 p.c, .int .i64 p.d, .int .i64 st, .int .i64 pd, .int .i64 bk] : Array Value).setIfInBounds i v = #[.int .i64 p.id, .string p.acc, .int .i64 p.c, .int .i64 p.d, .int .i64 st', .int .i64 pd', .int .i64 bk']) :
    StR (y.setCell ⟨b6, i, none⟩ v) w b2 b4 b6 p st' pd' bk' := by
  refine ⟨fun j u hu => ?_, ?_, ?_, h.g.set hne.2.2 _⟩
  · have h1 := h.r2 j u hu
    rw [Go.World.cell?_setCell_far]
    · exact h1
    · exact fun e => hne.1 e.symm
  · exact (Go.heap_setCell_other y ⟨b6, i, none⟩ b4 v hne.2.1).trans h.r4
  · rw [← e]; exact Go.heap_setCell_same y b6 i _ 43 v h.r6
theorem StR.pay {y w : World} {b2 b4 b6 : Nat} {p : Pay} {st pd bk : Int} (h : StR y w b2 b4 b6 p st pd bk) (hne : b2 ≠ b6 ∧ b4 ≠ b6 ∧ w.heap.size ≤ b6) (x : Int) : StR (y.setCell ⟨b6, 5, none⟩ (.int .i64 x)) w b2 b4 b6 p st x bk := h.other hne rfl
theorem StR.back {y w : World} {b2 b4 b6 : Nat} {p : Pay} {st pd bk : Int} (h : StR y w b2 b4 b6 p st pd bk) (hne : b2 ≠ b6 ∧ b4 ≠ b6 ∧ w.heap.size ≤ b6) (x : Int) : StR (y.setCell ⟨b6, 6, none⟩ (.int .i64 x)) w b2 b4 b6 p st pd x := h.other hne rfl
theorem StR.state {y w : World} {b2 b4 b6 : Nat} {p : Pay} {st pd bk : Int} (h : StR y w b2 b4 b6 p st pd bk) (hne : b2 ≠ b6 ∧ b4 ≠ b6 ∧ w.heap.size ≤ b6) (x : Int) : StR (y.setCell ⟨b6, 4, none⟩ (.int .i64 x)) w b2 b4 b6 p x pd bk := h.other hne rfl
/-- A contract's end: a standing, that of the answers where it is possible. -/
def RetRS (p : Pay) (zs : List Ans) (w : World) (r : Ending) (w' : World) : Prop := ∃ s : Sta, r = .returned (.tuple #[sv s, .bool (rstB p zs)]) ∧ (rstB p zs = true → s = staS p (tal p.id zs)) ∧ Grew w w'

set_option maxRecDepth 100000 in
set_option maxHeartbeats 32000000 in
theorem rstand_any (A : Option Addr) (m e : Nat) (p : Pay) (zs : List Ans) (w : World) (h : Anss w A m e zs) (hz : ∀ a ∈ zs, ansB a = true) (hm : m ≤ 2100) : Calls Try.prog 44 #[pv p, .slice A m e] w (RetRS p zs w) := by
  rw [pv_eq]
  have HZ := Lib.hid h
  have HL := Lib.hid h.1
  obtain ⟨b2, hb2⟩ : ∃ b, b = w.heap.size := ⟨_, rfl⟩
  obtain ⟨b4, hb4'⟩ : ∃ b, b = w.heap.size + 1 := ⟨_, rfl⟩
  obtain ⟨b6, hb6⟩ : ∃ b, b = w.heap.size + 1 + 1 := ⟨_, rfl⟩
  obtain ⟨wi, hwi⟩ : ∃ y, y = (w.alloc (.cells #[.int .i64 p.id, .string p.acc, .int .i64 p.c, .int .i64 p.d] 27)).alloc (.cells #[.int .i64 0, .string { data := #[] }, .int .i64 0, .int .i64 0, .int .i64 0, .int .i64 0, .int .i64 0] 43) := ⟨_, rfl⟩
  obtain ⟨wd, hwd⟩ : ∃ y, y = wi.alloc (.cells #[.int .i64 p.id, .string p.acc, .int .i64 p.c, .int .i64 p.d, .int .i64 1, .int .i64 0, .int .i64 0] 43) := ⟨_, rfl⟩
  have hb4 : w.heap.size ≤ b4 := by omega
  have hne : b2 ≠ b6 ∧ b4 ≠ b6 ∧ w.heap.size ≤ b6 := by omega
  have hsi : wi.heap.size = w.heap.size + 1 + 1 := by rw [hwi]; simp
  have gi : Grew w wi := by rw [hwi]; exact ((Grew.refl w).alloc _).alloc _
  have gd : Grew wi wd := by rw [hwd]; exact (Grew.refl wi).alloc _
  have r2i : wi.rangeAt b2 0 (pe p) := by rw [hwi, hb2]; exact range_grew (range_new w (pe p) 27) ((Grew.refl _).alloc _)
  have HS0 : Hid (StR wd w b2 b4 b6 p 1 0 0) := by
    refine ⟨range_grew r2i gd, gd.block ?_, ?_, gi.trans gd⟩
    · rw [hwi, hb4']
      have := heap_alloc_new (w.alloc (.cells #[.int .i64 p.id, .string p.acc, .int .i64 p.c, .int .i64 p.d] 27)) (.cells #[.int .i64 0, .string { data := #[] }, .int .i64 0, .int .i64 0, .int .i64 0, .int .i64 0, .int .i64 0] 43)
      rw [show (w.alloc (.cells #[.int .i64 p.id, .string p.acc, .int .i64 p.c, .int .i64 p.d] 27)).heap.size = w.heap.size + 1 by simp] at this
      exact this
    · rw [hwd, hb6, ← hsi]; exact heap_alloc_new wi _
  have p0 := r2i 0 _ rfl
  have p1 := r2i 1 _ rfl
  have p2 := r2i 2 _ rfl
  have p3 := r2i 3 _ rfl
  simp only [Nat.zero_add] at p0 p1 p2 p3
  clear h r2i gi gd
  go_enter Try.func44, Try.ntmps44
  go_upto_region 2 with (fail)
  rw [← hwi, ← hwd, ← hb6, ← hb4', ← hb2]
  clear hwi hwd hb6 hb4' hb2 hsi p0 p1 p2 p3
  go_wp2_with fail
  go_loopw [7, 8, 9] (fun f tk i y => ∃ k : Nat, k ≤ m ∧ i = .int .i64 k ∧ f = .int .i64 (tal p.id (zs.take k)).rf ∧ tk = .bool (decide (0 < (tal p.id (zs.take k)).tk)) ∧ Hid (daysB p (zs.take k) = true) ∧ StR y w b2 b4 b6 p 1 (tal p.id (zs.take k)).pd (tal p.id (zs.take k)).bk) (fun _ _ i _ => m - (intOf i).toNat)
  case atStart => exact ⟨0, Nat.zero_le _, rfl, rfl, rfl, rfl, HS0.out⟩
  case round =>
    clear HS0
    obtain ⟨k, hk, rfl, rfl, rfl, HDY, hs⟩ := hrel
    have HS := Lib.hid hs
    have HBD := Lib.hid (tal_all hz (by rw [HL.out]; exact hm) p.id k)
    clear hs
    by_cases hlt : k < m
    · obtain ⟨b, o, x, rfl, hx, hr⟩ := (HZ.out.grew HS.out.g).at_ ae_ok hlt
      have HX := Lib.hid hx
      have HAB : Hid (ansB x = true) := hz x (List.mem_of_getElem? hx)
      have k0 : (0 : Int) ≤ (k : Int) := by omega
      have k1 : (k : Int) < (m : Int) := by omega
      obtain ⟨c0, c1, c2, c3, c4⟩ := a_cells hr
      obtain ⟨wa, hwa⟩ : ∃ y, y = wr.alloc (.cells #[.int .i64 x.q, .int .i64 x.id, .int .i64 x.k, .int .i64 x.c, .int .i64 x.d] 29) := ⟨_, rfl⟩
      have ga : Grew wr wa := by rw [hwa]; exact (Grew.refl wr).alloc _
      have HRX : Hid (wa.rangeAt wr.heap.size 0 (ae x)) := by unfold Hid; rw [hwa]; exact range_new wr (ae x) 29
      obtain ⟨x0, x1, x2, x3, x4⟩ := a_cells0 HRX.out
      have HSA := Lib.hid (HS.out.grew ga)
      have HLA : Hid ((zs.take k).length ≤ 2100) := by unfold Hid; rw [List.length_take]; omega
      have hck := ans_k HAB.out
      have hcc := ans_c HAB.out
      obtain ⟨u0, u1, u2, u3⟩ := HBD.out
      have p0 := HSA.out.r2 0 _ rfl
      have p3 := HSA.out.r2 3 _ rfl
      simp only [Nat.zero_add] at p0 p3
      obtain ⟨ba, hba⟩ : ∃ z, z = wr.heap.size := ⟨_, rfl⟩
      have hneA : ba ≠ b6 := by rw [hba]; intro e; have := HS.out.lt6; omega
      go_upto_region 8 with (fail)
      rw [← hwa, ← hba]
      rw [← hba] at x0 x1 x2 x3 x4
      clear hwa hba c0 c1 c2 c3 c4 hx hr ga HS HRX
      by_cases hid : x.id = p.id
      · have q : (x.id != p.id) = false := by rw [bne_eq_false_iff_eq]; exact hid
        by_cases hd : x.d < p.d
        · have qd : decide (x.d < p.d) = true := decide_eq_true hd
          have HB : Hid (rstB p zs = false) := rst_day HX.out hid hd
          clear hid hd
          have e0 := HSA.out.c6 0 _ rfl
          have e1 := HSA.out.c6 1 _ rfl
          have e2 := HSA.out.c6 2 _ rfl
          have e3 := HSA.out.c6 3 _ rfl
          have e4 := HSA.out.c6 4 _ rfl
          have e5 := HSA.out.c6 5 _ rfl
          have e6 := HSA.out.c6 6 _ rfl
          simp only [Nat.zero_add] at e0 e1 e2 e3 e4 e5 e6
          have y4 := row_at (l := [.int .i64 0, .string { data := #[] }, .int .i64 0, .int .i64 0, .int .i64 0, .int .i64 0, .int .i64 0]) HSA.out.r4
          have f0 := row_free HSA.out.r4 0
          have f1 := row_free HSA.out.r4 1
          have f2 := row_free HSA.out.r4 2
          have f3 := row_free HSA.out.r4 3
          have f4 := row_free HSA.out.r4 4
          have f5 := row_free HSA.out.r4 5
          have f6 := row_free HSA.out.r4 6
          have d0 := y4 0 _ rfl
          have d1 := y4 1 _ rfl
          have d2 := y4 2 _ rfl
          have d3 := y4 3 _ rfl
          have d4 := y4 4 _ rfl
          have d5 := y4 5 _ rfl
          have d6 := y4 6 _ rfl
          simp only [Nat.zero_add] at d0 d1 d2 d3 d4 d5 d6
          go_wp2_with fail
          refine bodyPost_ret (results_std rfl _ _ b4 _ rfl (set7 HSA.out.r4 _ _ _ _ _ _ _) rfl) rfl ?_
          exact ⟨⟨p, _, _, _⟩, ret_pair HB.out.symm, fun hx => absurd (HB.out.symm.trans hx) (by decide), (((((((HSA.out.g.set hb4 _).set hb4 _).set hb4 _).set hb4 _).set hb4 _).set hb4 _).set hb4 _)⟩
        · have qd : decide (x.d < p.d) = false := decide_eq_false hd
          have HDY2 : Hid (daysB p (zs.take (k + 1)) = true) := day_in HX.out HDY.out hd
          have HTK : Hid (tal p.id (zs.take (k + 1)) = talA (tal p.id (zs.take k)) x) := by unfold Hid; rw [List.take_add_one, HX.out]; exact tal_in hid
          have e5 := HSA.out.c6 5 _ rfl
          have e6 := HSA.out.c6 6 _ rfl
          have f5 := row_free HSA.out.r6 5
          have f6 := row_free HSA.out.r6 6
          simp only [Nat.zero_add] at e5 e6
          clear hid hd
          rcases hck with hk1 | hk1 | hk1 | hk1
          · rw [hk1] at x2
            go_wp2_with fail
            go_roundw
            case rel => exact ⟨k + 1, by omega, by go_num, by rw [HTK.out]; simp [talA, hk1], tk_one HTK.out hk1 u2.1, HDY2, HSA.out.cast (by rw [HTK.out]; simp [talA, hk1]) (by rw [HTK.out]; simp [talA, hk1])⟩
            case measure => simp [intOf]; omega
          · rw [hk1] at x2
            go_wp2_with fail
            go_roundw
            case rel => exact ⟨k + 1, by omega, by go_num, by rw [HTK.out]; simp [talA, hk1], by rw [HTK.out]; simp [talA, hk1], HDY2, (HSA.out.pay hne _).cast (by rw [HTK.out]; simp [talA, hk1]) (by rw [HTK.out]; simp [talA, hk1])⟩
            case measure => simp [intOf]; omega
          · rw [hk1] at x2
            go_wp2_with fail
            go_roundw
            case rel => exact ⟨k + 1, by omega, by go_num, by rw [HTK.out]; simp [talA, hk1], by rw [HTK.out]; simp [talA, hk1], HDY2, HSA.out.cast (by rw [HTK.out]; simp [talA, hk1]) (by rw [HTK.out]; simp [talA, hk1])⟩
            case measure => simp [intOf]; omega
          · rw [hk1] at x2
            go_wp2_with fail
            go_roundw
            case rel => exact ⟨k + 1, by omega, by go_num, by rw [HTK.out]; simp [talA, hk1], by rw [HTK.out]; simp [talA, hk1], HDY2, (HSA.out.back hne _).cast (by rw [HTK.out]; simp [talA, hk1]) (by rw [HTK.out]; simp [talA, hk1])⟩
            case measure => simp [intOf]; omega
      · have q : (x.id != p.id) = true := by rw [bne_iff_ne]; exact hid
        have HTK : Hid (tal p.id (zs.take (k + 1)) = (tal p.id (zs.take k))) := by unfold Hid; rw [List.take_add_one, HX.out]; exact tal_out hid
        have HDY2 : Hid (daysB p (zs.take (k + 1)) = true) := day_out HX.out HDY.out hid
        clear hid
        go_wp2_with fail
        go_roundw
        case rel => exact ⟨k + 1, by omega, by go_num, by rw [HTK.out], by rw [HTK.out], HDY2, HSA.out.cast (by rw [HTK.out]) (by rw [HTK.out])⟩
        case measure => simp [intOf]; omega
    · have hkl : k = m := by omega
      subst hkl
      have HT : Hid (zs.take k = zs) := List.take_of_length_le (by rw [HL.out]; exact Nat.le_refl _)
      have HS0 := HS
      rw [HT.out] at HS0 HDY HBD
      obtain ⟨t, ht⟩ : ∃ t, t = tal p.id zs := ⟨_, rfl⟩
      rw [HT.out, ← ht]
      rw [← ht] at HS0 HBD
      have HTT := Lib.hid ht
      obtain ⟨u0, u1, u2, u3⟩ := HBD.out
      obtain ⟨tk, htk⟩ : ∃ b, b = decide (0 < t.tk) := ⟨_, rfl⟩
      rw [← htk]
      have HTB := Lib.hid htk
      clear ht HS HBD htk
      have p2 := HS0.out.r2 2 _ rfl
      simp only [Nat.zero_add] at p2
      have e0 := HS0.out.c6 0 _ rfl
      have e1 := HS0.out.c6 1 _ rfl
      have e2 := HS0.out.c6 2 _ rfl
      have e3 := HS0.out.c6 3 _ rfl
      have e4 := HS0.out.c6 4 _ rfl
      have e5 := HS0.out.c6 5 _ rfl
      have e6 := HS0.out.c6 6 _ rfl
      simp only [Nat.zero_add] at e0 e1 e2 e3 e4 e5 e6
      by_cases z1 : t.pd < t.bk
      · have q1 : decide (t.pd < t.bk) = true := decide_eq_true z1
        have HB : Hid (rstB p zs = false) := rst_no (by rw [← HTT.out]; unfold okT; simp; omega)
        have y4 := row_at (l := [.int .i64 0, .string { data := #[] }, .int .i64 0, .int .i64 0, .int .i64 0, .int .i64 0, .int .i64 0]) HS0.out.r4
        have f0 := row_free HS0.out.r4 0
        have f1 := row_free HS0.out.r4 1
        have f2 := row_free HS0.out.r4 2
        have f3 := row_free HS0.out.r4 3
        have f4 := row_free HS0.out.r4 4
        have f5 := row_free HS0.out.r4 5
        have f6 := row_free HS0.out.r4 6
        have d0 := y4 0 _ rfl
        have d1 := y4 1 _ rfl
        have d2 := y4 2 _ rfl
        have d3 := y4 3 _ rfl
        have d4 := y4 4 _ rfl
        have d5 := y4 5 _ rfl
        have d6 := y4 6 _ rfl
        simp only [Nat.zero_add] at d0 d1 d2 d3 d4 d5 d6
        go_wp2_with fail
        refine bodyPost_ret (results_std rfl _ _ b4 _ rfl (set7 HS0.out.r4 _ _ _ _ _ _ _) rfl) rfl ?_
        exact ⟨⟨p, _, _, _⟩, ret_pair HB.out.symm, fun hx => absurd (HB.out.symm.trans hx) (by decide), (((((((HS0.out.g.set hb4 _).set hb4 _).set hb4 _).set hb4 _).set hb4 _).set hb4 _).set hb4 _)⟩
      have q1 : decide (t.pd < t.bk) = false := decide_eq_false z1
      by_cases z2 : p.c < t.pd
      · have q2 : decide (p.c < t.pd) = true := decide_eq_true z2
        have HB : Hid (rstB p zs = false) := rst_no (by rw [← HTT.out]; unfold okT; simp; omega)
        have y4 := row_at (l := [.int .i64 0, .string { data := #[] }, .int .i64 0, .int .i64 0, .int .i64 0, .int .i64 0, .int .i64 0]) HS0.out.r4
        have f0 := row_free HS0.out.r4 0
        have f1 := row_free HS0.out.r4 1
        have f2 := row_free HS0.out.r4 2
        have f3 := row_free HS0.out.r4 3
        have f4 := row_free HS0.out.r4 4
        have f5 := row_free HS0.out.r4 5
        have f6 := row_free HS0.out.r4 6
        have d0 := y4 0 _ rfl
        have d1 := y4 1 _ rfl
        have d2 := y4 2 _ rfl
        have d3 := y4 3 _ rfl
        have d4 := y4 4 _ rfl
        have d5 := y4 5 _ rfl
        have d6 := y4 6 _ rfl
        simp only [Nat.zero_add] at d0 d1 d2 d3 d4 d5 d6
        go_wp2_with fail
        refine bodyPost_ret (results_std rfl _ _ b4 _ rfl (set7 HS0.out.r4 _ _ _ _ _ _ _) rfl) rfl ?_
        exact ⟨⟨p, _, _, _⟩, ret_pair HB.out.symm, fun hx => absurd (HB.out.symm.trans hx) (by decide), (((((((HS0.out.g.set hb4 _).set hb4 _).set hb4 _).set hb4 _).set hb4 _).set hb4 _).set hb4 _)⟩
      have q2 : decide (p.c < t.pd) = false := decide_eq_false z2
      by_cases z3 : 1 < t.rf
      · have q3 : decide (1 < t.rf) = true := decide_eq_true z3
        have HB : Hid (rstB p zs = false) := rst_no (by rw [← HTT.out]; unfold okT; simp; omega)
        have y4 := row_at (l := [.int .i64 0, .string { data := #[] }, .int .i64 0, .int .i64 0, .int .i64 0, .int .i64 0, .int .i64 0]) HS0.out.r4
        have f0 := row_free HS0.out.r4 0
        have f1 := row_free HS0.out.r4 1
        have f2 := row_free HS0.out.r4 2
        have f3 := row_free HS0.out.r4 3
        have f4 := row_free HS0.out.r4 4
        have f5 := row_free HS0.out.r4 5
        have f6 := row_free HS0.out.r4 6
        have d0 := y4 0 _ rfl
        have d1 := y4 1 _ rfl
        have d2 := y4 2 _ rfl
        have d3 := y4 3 _ rfl
        have d4 := y4 4 _ rfl
        have d5 := y4 5 _ rfl
        have d6 := y4 6 _ rfl
        simp only [Nat.zero_add] at d0 d1 d2 d3 d4 d5 d6
        go_wp2_with fail
        refine bodyPost_ret (results_std rfl _ _ b4 _ rfl (set7 HS0.out.r4 _ _ _ _ _ _ _) rfl) rfl ?_
        exact ⟨⟨p, _, _, _⟩, ret_pair HB.out.symm, fun hx => absurd (HB.out.symm.trans hx) (by decide), (((((((HS0.out.g.set hb4 _).set hb4 _).set hb4 _).set hb4 _).set hb4 _).set hb4 _).set hb4 _)⟩
      have q3 : decide (1 < t.rf) = false := decide_eq_false z3
      by_cases z4 : t.rf = 1
      · have q4 : (t.rf == 1) = true := by rw [beq_iff_eq]; exact z4
        by_cases z5 : 0 < t.pd
        · have q5 : decide (0 < t.pd) = true := decide_eq_true z5
          have HB : Hid (rstB p zs = false) := rst_no (by rw [← HTT.out]; unfold okT; simp; omega)
          have y4 := row_at (l := [.int .i64 0, .string { data := #[] }, .int .i64 0, .int .i64 0, .int .i64 0, .int .i64 0, .int .i64 0]) HS0.out.r4
          have f0 := row_free HS0.out.r4 0
          have f1 := row_free HS0.out.r4 1
          have f2 := row_free HS0.out.r4 2
          have f3 := row_free HS0.out.r4 3
          have f4 := row_free HS0.out.r4 4
          have f5 := row_free HS0.out.r4 5
          have f6 := row_free HS0.out.r4 6
          have d0 := y4 0 _ rfl
          have d1 := y4 1 _ rfl
          have d2 := y4 2 _ rfl
          have d3 := y4 3 _ rfl
          have d4 := y4 4 _ rfl
          have d5 := y4 5 _ rfl
          have d6 := y4 6 _ rfl
          simp only [Nat.zero_add] at d0 d1 d2 d3 d4 d5 d6
          go_wp2_with fail
          refine bodyPost_ret (results_std rfl _ _ b4 _ rfl (set7 HS0.out.r4 _ _ _ _ _ _ _) rfl) rfl ?_
          exact ⟨⟨p, _, _, _⟩, ret_pair HB.out.symm, fun hx => absurd (HB.out.symm.trans hx) (by decide), (((((((HS0.out.g.set hb4 _).set hb4 _).set hb4 _).set hb4 _).set hb4 _).set hb4 _).set hb4 _)⟩
        have q5 : decide (0 < t.pd) = false := decide_eq_false z5
        have HB : Hid (rstB p zs = true) := rst_yes HDY.out (by rw [← HTT.out]; unfold okT; simp; omega)
        have HS : Hid ((⟨p, 4, t.pd, t.bk⟩ : Sta) = staS p (tal p.id zs)) := by unfold Hid staS stOf; rw [← HTT.out, if_pos (by omega)]
        clear z1 z2 z3 z4 z5
        clear e0 e1 e2 e3 e4 e5 e6
        have f6s := row_free HS0.out.r6 4
        have e0 := HS0.out.c6 0 _ rfl
        have e1 := HS0.out.c6 1 _ rfl
        have e2 := HS0.out.c6 2 _ rfl
        have e3 := HS0.out.c6 3 _ rfl
        have e4 := HS0.out.c6 4 _ rfl
        have e5 := HS0.out.c6 5 _ rfl
        have e6 := HS0.out.c6 6 _ rfl
        simp only [Nat.zero_add] at e0 e1 e2 e3 e4 e5 e6
        go_upto_region 30 with (fail)
        have HS1 := Lib.hid (HS0.out.state hne 4)
        obtain ⟨w5, hw5⟩ : ∃ x, x = wr.setCell ⟨b6, 4, none⟩ (.int .i64 4) := ⟨_, rfl⟩
        rw [← hw5] at HS1 ⊢
        clear hw5 e0 e1 e2 e3 e4 e5 e6 f6s
        have e0 := HS1.out.c6 0 _ rfl
        have e1 := HS1.out.c6 1 _ rfl
        have e2 := HS1.out.c6 2 _ rfl
        have e3 := HS1.out.c6 3 _ rfl
        have e4 := HS1.out.c6 4 _ rfl
        have e5 := HS1.out.c6 5 _ rfl
        have e6 := HS1.out.c6 6 _ rfl
        simp only [Nat.zero_add] at e0 e1 e2 e3 e4 e5 e6
        have y4 := row_at (l := [.int .i64 0, .string { data := #[] }, .int .i64 0, .int .i64 0, .int .i64 0, .int .i64 0, .int .i64 0]) HS1.out.r4
        have f0 := row_free HS1.out.r4 0
        have f1 := row_free HS1.out.r4 1
        have f2 := row_free HS1.out.r4 2
        have f3 := row_free HS1.out.r4 3
        have f4 := row_free HS1.out.r4 4
        have f5 := row_free HS1.out.r4 5
        have f6 := row_free HS1.out.r4 6
        have d0 := y4 0 _ rfl
        have d1 := y4 1 _ rfl
        have d2 := y4 2 _ rfl
        have d3 := y4 3 _ rfl
        have d4 := y4 4 _ rfl
        have d5 := y4 5 _ rfl
        have d6 := y4 6 _ rfl
        simp only [Nat.zero_add] at d0 d1 d2 d3 d4 d5 d6
        go_wp2_with fail
        refine bodyPost_ret (results_std rfl _ _ b4 _ rfl (set7 HS1.out.r4 _ _ _ _ _ _ _) rfl) rfl ?_
        exact ⟨⟨p, _, _, _⟩, ret_pair HB.out.symm, fun _ => HS.out, (((((((HS1.out.g.set hb4 _).set hb4 _).set hb4 _).set hb4 _).set hb4 _).set hb4 _).set hb4 _)⟩
      have q4 : (t.rf == 1) = false := by rw [beq_eq_false_iff_ne]; exact z4
      have HB : Hid (rstB p zs = true) := rst_yes HDY.out (by rw [← HTT.out]; unfold okT; simp; omega)
      by_cases z6 : 0 < t.bk
      · have q6 : decide (0 < t.bk) = true := decide_eq_true z6
        have HS : Hid ((⟨p, 5, t.pd, t.bk⟩ : Sta) = staS p (tal p.id zs)) := by unfold Hid staS stOf; rw [← HTT.out, if_neg (by omega), if_pos z6]
        clear z1 z2 z3 z4 z6
        clear e0 e1 e2 e3 e4 e5 e6
        have f6s := row_free HS0.out.r6 4
        have e0 := HS0.out.c6 0 _ rfl
        have e1 := HS0.out.c6 1 _ rfl
        have e2 := HS0.out.c6 2 _ rfl
        have e3 := HS0.out.c6 3 _ rfl
        have e4 := HS0.out.c6 4 _ rfl
        have e5 := HS0.out.c6 5 _ rfl
        have e6 := HS0.out.c6 6 _ rfl
        simp only [Nat.zero_add] at e0 e1 e2 e3 e4 e5 e6
        go_upto_region 30 with (fail)
        have HS1 := Lib.hid (HS0.out.state hne 5)
        obtain ⟨w5, hw5⟩ : ∃ x, x = wr.setCell ⟨b6, 4, none⟩ (.int .i64 5) := ⟨_, rfl⟩
        rw [← hw5] at HS1 ⊢
        clear hw5 e0 e1 e2 e3 e4 e5 e6 f6s
        have e0 := HS1.out.c6 0 _ rfl
        have e1 := HS1.out.c6 1 _ rfl
        have e2 := HS1.out.c6 2 _ rfl
        have e3 := HS1.out.c6 3 _ rfl
        have e4 := HS1.out.c6 4 _ rfl
        have e5 := HS1.out.c6 5 _ rfl
        have e6 := HS1.out.c6 6 _ rfl
        simp only [Nat.zero_add] at e0 e1 e2 e3 e4 e5 e6
        have y4 := row_at (l := [.int .i64 0, .string { data := #[] }, .int .i64 0, .int .i64 0, .int .i64 0, .int .i64 0, .int .i64 0]) HS1.out.r4
        have f0 := row_free HS1.out.r4 0
        have f1 := row_free HS1.out.r4 1
        have f2 := row_free HS1.out.r4 2
        have f3 := row_free HS1.out.r4 3
        have f4 := row_free HS1.out.r4 4
        have f5 := row_free HS1.out.r4 5
        have f6 := row_free HS1.out.r4 6
        have d0 := y4 0 _ rfl
        have d1 := y4 1 _ rfl
        have d2 := y4 2 _ rfl
        have d3 := y4 3 _ rfl
        have d4 := y4 4 _ rfl
        have d5 := y4 5 _ rfl
        have d6 := y4 6 _ rfl
        simp only [Nat.zero_add] at d0 d1 d2 d3 d4 d5 d6
        go_wp2_with fail
        refine bodyPost_ret (results_std rfl _ _ b4 _ rfl (set7 HS1.out.r4 _ _ _ _ _ _ _) rfl) rfl ?_
        exact ⟨⟨p, _, _, _⟩, ret_pair HB.out.symm, fun _ => HS.out, (((((((HS1.out.g.set hb4 _).set hb4 _).set hb4 _).set hb4 _).set hb4 _).set hb4 _).set hb4 _)⟩
      have q6 : decide (0 < t.bk) = false := decide_eq_false z6
      by_cases z5 : 0 < t.pd
      · have q5 : decide (0 < t.pd) = true := decide_eq_true z5
        have HS : Hid ((⟨p, 3, t.pd, t.bk⟩ : Sta) = staS p (tal p.id zs)) := by unfold Hid staS stOf; rw [← HTT.out, if_neg (by omega), if_neg z6, if_pos z5]
        clear z1 z2 z3 z4 z5 z6
        clear e0 e1 e2 e3 e4 e5 e6
        have f6s := row_free HS0.out.r6 4
        have e0 := HS0.out.c6 0 _ rfl
        have e1 := HS0.out.c6 1 _ rfl
        have e2 := HS0.out.c6 2 _ rfl
        have e3 := HS0.out.c6 3 _ rfl
        have e4 := HS0.out.c6 4 _ rfl
        have e5 := HS0.out.c6 5 _ rfl
        have e6 := HS0.out.c6 6 _ rfl
        simp only [Nat.zero_add] at e0 e1 e2 e3 e4 e5 e6
        go_upto_region 30 with (fail)
        have HS1 := Lib.hid (HS0.out.state hne 3)
        obtain ⟨w5, hw5⟩ : ∃ x, x = wr.setCell ⟨b6, 4, none⟩ (.int .i64 3) := ⟨_, rfl⟩
        rw [← hw5] at HS1 ⊢
        clear hw5 e0 e1 e2 e3 e4 e5 e6 f6s
        have e0 := HS1.out.c6 0 _ rfl
        have e1 := HS1.out.c6 1 _ rfl
        have e2 := HS1.out.c6 2 _ rfl
        have e3 := HS1.out.c6 3 _ rfl
        have e4 := HS1.out.c6 4 _ rfl
        have e5 := HS1.out.c6 5 _ rfl
        have e6 := HS1.out.c6 6 _ rfl
        simp only [Nat.zero_add] at e0 e1 e2 e3 e4 e5 e6
        have y4 := row_at (l := [.int .i64 0, .string { data := #[] }, .int .i64 0, .int .i64 0, .int .i64 0, .int .i64 0, .int .i64 0]) HS1.out.r4
        have f0 := row_free HS1.out.r4 0
        have f1 := row_free HS1.out.r4 1
        have f2 := row_free HS1.out.r4 2
        have f3 := row_free HS1.out.r4 3
        have f4 := row_free HS1.out.r4 4
        have f5 := row_free HS1.out.r4 5
        have f6 := row_free HS1.out.r4 6
        have d0 := y4 0 _ rfl
        have d1 := y4 1 _ rfl
        have d2 := y4 2 _ rfl
        have d3 := y4 3 _ rfl
        have d4 := y4 4 _ rfl
        have d5 := y4 5 _ rfl
        have d6 := y4 6 _ rfl
        simp only [Nat.zero_add] at d0 d1 d2 d3 d4 d5 d6
        go_wp2_with fail
        refine bodyPost_ret (results_std rfl _ _ b4 _ rfl (set7 HS1.out.r4 _ _ _ _ _ _ _) rfl) rfl ?_
        exact ⟨⟨p, _, _, _⟩, ret_pair HB.out.symm, fun _ => HS.out, (((((((HS1.out.g.set hb4 _).set hb4 _).set hb4 _).set hb4 _).set hb4 _).set hb4 _).set hb4 _)⟩
      have q5 : decide (0 < t.pd) = false := decide_eq_false z5
      by_cases z7 : 0 < t.tk
      · obtain rfl : tk = true := by rw [HTB.out]; exact decide_eq_true z7
        have HS : Hid ((⟨p, 2, t.pd, t.bk⟩ : Sta) = staS p (tal p.id zs)) := by unfold Hid staS stOf; rw [← HTT.out, if_neg (by omega), if_neg z6, if_neg z5, if_pos z7]
        clear z1 z2 z3 z4 z5 z6 z7
        clear e0 e1 e2 e3 e4 e5 e6
        have f6s := row_free HS0.out.r6 4
        have e0 := HS0.out.c6 0 _ rfl
        have e1 := HS0.out.c6 1 _ rfl
        have e2 := HS0.out.c6 2 _ rfl
        have e3 := HS0.out.c6 3 _ rfl
        have e4 := HS0.out.c6 4 _ rfl
        have e5 := HS0.out.c6 5 _ rfl
        have e6 := HS0.out.c6 6 _ rfl
        simp only [Nat.zero_add] at e0 e1 e2 e3 e4 e5 e6
        go_upto_region 30 with (fail)
        have HS1 := Lib.hid (HS0.out.state hne 2)
        obtain ⟨w5, hw5⟩ : ∃ x, x = wr.setCell ⟨b6, 4, none⟩ (.int .i64 2) := ⟨_, rfl⟩
        rw [← hw5] at HS1 ⊢
        clear hw5 e0 e1 e2 e3 e4 e5 e6 f6s
        have e0 := HS1.out.c6 0 _ rfl
        have e1 := HS1.out.c6 1 _ rfl
        have e2 := HS1.out.c6 2 _ rfl
        have e3 := HS1.out.c6 3 _ rfl
        have e4 := HS1.out.c6 4 _ rfl
        have e5 := HS1.out.c6 5 _ rfl
        have e6 := HS1.out.c6 6 _ rfl
        simp only [Nat.zero_add] at e0 e1 e2 e3 e4 e5 e6
        have y4 := row_at (l := [.int .i64 0, .string { data := #[] }, .int .i64 0, .int .i64 0, .int .i64 0, .int .i64 0, .int .i64 0]) HS1.out.r4
        have f0 := row_free HS1.out.r4 0
        have f1 := row_free HS1.out.r4 1
        have f2 := row_free HS1.out.r4 2
        have f3 := row_free HS1.out.r4 3
        have f4 := row_free HS1.out.r4 4
        have f5 := row_free HS1.out.r4 5
        have f6 := row_free HS1.out.r4 6
        have d0 := y4 0 _ rfl
        have d1 := y4 1 _ rfl
        have d2 := y4 2 _ rfl
        have d3 := y4 3 _ rfl
        have d4 := y4 4 _ rfl
        have d5 := y4 5 _ rfl
        have d6 := y4 6 _ rfl
        simp only [Nat.zero_add] at d0 d1 d2 d3 d4 d5 d6
        go_wp2_with fail
        refine bodyPost_ret (results_std rfl _ _ b4 _ rfl (set7 HS1.out.r4 _ _ _ _ _ _ _) rfl) rfl ?_
        exact ⟨⟨p, _, _, _⟩, ret_pair HB.out.symm, fun _ => HS.out, (((((((HS1.out.g.set hb4 _).set hb4 _).set hb4 _).set hb4 _).set hb4 _).set hb4 _).set hb4 _)⟩
      obtain rfl : tk = false := by rw [HTB.out]; exact decide_eq_false z7
      have HS : Hid ((⟨p, 1, t.pd, t.bk⟩ : Sta) = staS p (tal p.id zs)) := by unfold Hid staS stOf; rw [← HTT.out, if_neg (by omega), if_neg z6, if_neg z5, if_neg z7]
      clear z1 z2 z3 z4 z5 z6 z7
      clear e0 e1 e2 e3 e4 e5 e6
      have e0 := HS0.out.c6 0 _ rfl
      have e1 := HS0.out.c6 1 _ rfl
      have e2 := HS0.out.c6 2 _ rfl
      have e3 := HS0.out.c6 3 _ rfl
      have e4 := HS0.out.c6 4 _ rfl
      have e5 := HS0.out.c6 5 _ rfl
      have e6 := HS0.out.c6 6 _ rfl
      simp only [Nat.zero_add] at e0 e1 e2 e3 e4 e5 e6
      have y4 := row_at (l := [.int .i64 0, .string { data := #[] }, .int .i64 0, .int .i64 0, .int .i64 0, .int .i64 0, .int .i64 0]) HS0.out.r4
      have f0 := row_free HS0.out.r4 0
      have f1 := row_free HS0.out.r4 1
      have f2 := row_free HS0.out.r4 2
      have f3 := row_free HS0.out.r4 3
      have f4 := row_free HS0.out.r4 4
      have f5 := row_free HS0.out.r4 5
      have f6 := row_free HS0.out.r4 6
      have d0 := y4 0 _ rfl
      have d1 := y4 1 _ rfl
      have d2 := y4 2 _ rfl
      have d3 := y4 3 _ rfl
      have d4 := y4 4 _ rfl
      have d5 := y4 5 _ rfl
      have d6 := y4 6 _ rfl
      simp only [Nat.zero_add] at d0 d1 d2 d3 d4 d5 d6
      go_wp2_with fail
      refine bodyPost_ret (results_std rfl _ _ b4 _ rfl (set7 HS0.out.r4 _ _ _ _ _ _ _) rfl) rfl ?_
      exact ⟨⟨p, _, _, _⟩, ret_pair HB.out.symm, fun _ => HS.out, (((((((HS0.out.g.set hb4 _).set hb4 _).set hb4 _).set hb4 _).set hb4 _).set hb4 _).set hb4 _)⟩
theorem rstand_val {A : Option Addr} {m e : Nat} {p : Pay} {zs : List Ans} {w : World} {t : Bool} (h : Anss w A m e zs) (hz : ∀ a ∈ zs, ansB a = true) (hm : m ≤ 2100) (ht : rstB p zs = t) :
    Calls Try.prog 44 #[pv p, .slice A m e] w fun r w' => ∃ s : Sta, r = .returned (.tuple #[sv s, .bool t]) ∧ (t = true → s = staS p (tal p.id zs)) ∧ Grew w w' := by subst ht; exact rstand_any A m e p zs w h hz hm
end Go.Proofs.Ytaocjobbfcfleaa
