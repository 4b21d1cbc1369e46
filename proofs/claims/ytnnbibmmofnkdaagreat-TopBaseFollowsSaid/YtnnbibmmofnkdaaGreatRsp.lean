/-
 The reference: zone.Split; its error is that of the program.
-/
import Derived.Test.YtnnbibmmofnkdaaGreatZoneF
import Derived.Test.YtnnbibmmofnkdaaGreatRz
import Derived.Test.YtnnbibmmofnkdaaGreatKit
namespace Go.Proofs.YtnnbibmmofnkdaaGreat
open Go.RowKit Go.Proofs WageMem WageReg WageRec WageSpan WageTop
/-- The offset at an instant, as the reference finds it. -/
def offR (t : Int) : List (Int × Int) → Int → Int
 | [], off => off
 | (a, o) :: l, off => if a ≤ t then offR t l o else off
theorem offR_bd {t : Int} : ∀ {ch : List (Int × Int)} {off : Int} {pv : Option Int}, -840 ≤ off ∧ off ≤ 840 → chB off pv ch = true → -840 ≤ offR t ch off ∧ offR t ch off ≤ 840
 | [], off, _, h, _ => h
 | (a, o) :: l, off, pv, h, hc => by
  unfold chB at hc
  simp only [Bool.and_eq_true, decide_eq_true_eq] at hc
  unfold offR
  split
  ·exact offR_bd hc.2.2.1 hc.2.2.2.2
  ·exact h
/-- The offsets of the stretches are those of their instants. -/
theorem strG_off {t : Int} : ∀ {ch : List (Int × Int)} {off f : Int} {pv : Option Int} {x : Int × Int × Int}, -840 ≤ off ∧ off ≤ 840 → chB off pv ch = true → x ∈ strG ch off f t → ∀ u, x.1 ≤ u → u < x.2.1 → offR u ch off = x.2.2
 | [], off, f, pv, x, _, _, h, u, h1, h2 => by
  unfold strG at h
  split at h
  ·rw [List.mem_singleton] at h; subst h; rfl
  ·cases h
 | (a, o) :: l, off, f, pv, x, hb, hc, h, u, h1, h2 => by
  unfold chB at hc
  simp only [Bool.and_eq_true, decide_eq_true_eq] at hc
  rw [str_cons] at h
  unfold offR
  split at h
  ·rcases List.mem_cons.1 h with rfl | h
   ·simp only at h1 h2
    rw [if_neg (by omega)]
   ·have hm := strG_mem hc.2.2.1 hc.2.2.2.2 h
    rw [if_pos (by omega)]
    exact strG_off hc.2.2.1 hc.2.2.2.2 h u h1 h2
  ·have hm := strG_mem hc.2.2.1 hc.2.2.2.2 h
   rw [if_pos (by omega)]
   exact strG_off hc.2.2.1 hc.2.2.2.2 h u h1 h2
theorem splitB_of {zb : Int} {ch : List (Int × Int)} {f e : Int} (hz : znB ⟨zb, ch⟩ = true) (h : ∀ u, f ≤ u → u < e → dayOk ((u + offR u ch zb) / 1440) = true) : splitB ⟨zb, ch⟩ f e = true := by
 unfold znB at hz
 simp only [Bool.and_eq_true, decide_eq_true_eq] at hz
 obtain ⟨_, hb, hc⟩ := hz
 unfold splitB
 rw [List.all_eq_true]
 intro d hd
 obtain ⟨p, hp, rfl⟩ := List.mem_map.1 ((List.mergeSort_perm _ _).mem_iff.1 hd)
 obtain ⟨q, hq, e1⟩ := cntM_mem _ p hp
 obtain ⟨x, hx, hqx⟩ := List.mem_flatMap.1 hq
 have h1 := strG_mem hb hc hx
 have h2 := pieces_mem (show q ∈ piecesG (x.2.1 - x.1).toNat (x.1 + x.2.2) (x.2.1 + x.2.2) from hqx)
 have h3 := strG_off hb hc hx (max (x.1 + x.2.2) (q.1 * 1440) - x.2.2) (by omega) (by omega)
 have h4 := h (max (x.1 + x.2.2) (q.1 * 1440) - x.2.2) (by omega) (by omega)
 rw [h3] at h4
 rw [← e1, show (max (x.1 + x.2.2) (q.1 * 1440) - x.2.2 + x.2.2) / 1440 = q.1 by omega] at *
 exact h4
theorem offset155 (nm : ByteArray) (zb : Int) (C : Option Addr) (n c : Nat) (ch : List Sp) (t z : Int) (w : World) (hs : Spans w C n c ch) (hz : offR t ch zb = z) :
  Calls Tryz.prog 155 #[.agg #[.string nm, .int .i64 zb, .slice C n c], .int .i64 t] w fun r w' => r = .returned (.int .i64 z) ∧ Grew w w' := by
 have HS := Lib.hid hs
 have HZ := Lib.hid hz
 clear hs hz
 obtain ⟨w1, hw1⟩ : ∃ y, y = w.alloc (.cells #[.string nm, .int .i64 zb, .slice C n c] 24) := ⟨_, rfl⟩
 have g1 : Grew w w1 := by rw [hw1]; exact (Grew.refl w).alloc _
 have x0 : w1.heap[w.heap.size]? = some (.cells #[.string nm, .int .i64 zb, .slice C n c] 24) := by rw [hw1]; exact World.alloc_heap_new w _
 have H1 := Lib.hid (HS.out.grew g1)
 have v1 : w1.cell? ⟨w.heap.size, 1, none⟩ = some (.int .i64 zb) := by simp [World.cell?, x0]
 have v2 : w1.cell? ⟨w.heap.size, 2, none⟩ = some (.slice C n c) := by simp [World.cell?, x0]
 go_enter Tryz.func155, Tryz.ntmps155
 go_upto_region 1 with (fail)
 rw [← hw1]
 clear hw1 x0
 have hnl : ch.length = n := H1.out.1
 have HNL := Lib.hid hnl
 have hn9 := H1.out.le
 clear hnl
 go_wp2_with fail
 go_loopw [5, 6] (fun i o y => ∃ (k : Nat) (q : Int), k ≤ n ∧ o = .int .i64 k ∧ i = .int .i64 q ∧ Hid (offR t (ch.drop k) q = z) ∧ y = w1) (fun _ o _ => n - (intOf o).toNat)
 case atStart => exact ⟨0, zb, Nat.zero_le _, rfl, rfl, by unfold Hid; rw [List.drop_zero]; exact HZ.out, rfl⟩
 case round =>
  obtain ⟨k, q, hk, rfl, rfl, HQ, rfl⟩ := hrel
  by_cases hlt : k < n
  ·obtain ⟨b, o, s, hA, hsk, r1, r2, l1, l2⟩ := H1.out.at_ hlt
   subst hA
   have HQ2 : Hid (offR t (s :: ch.drop (k + 1)) q = z) := by
    have := HQ.out
    rw [List.drop_eq_getElem_cons (by rw [HNL.out]; exact hlt), (List.getElem?_eq_some_iff.1 hsk).2] at this
    exact this
   obtain ⟨s1, s2⟩ := s
   simp only at r1 r2
   have e1 : (0 : Int) ≤ (k : Int) := by omega
   have e2 : (k : Int) < (n : Int) := by omega
   clear HQ hsk
   by_cases hle : s1 ≤ t
   ·have HQ3 : Hid (offR t (ch.drop (k + 1)) s2 = z) := by have := HQ2.out; unfold offR at this; rwa [if_pos hle] at this
    have qle : decide (s1 ≤ t) = true := decide_eq_true hle
    go_wp2_with fail
    go_roundw
    case rel => exact ⟨k + 1, s2, by omega, by go_num, rfl, HQ3, trivial⟩
    case measure => simp [intOf]; omega
   ·have HQ3 : Hid (q = z) := by have := HQ2.out; unfold offR at this; rwa [if_neg hle] at this
    have qle : decide (s1 ≤ t) = false := decide_eq_false hle
    go_wp2
    go_ret
    exact ⟨congrArg (fun b => Ending.returned (Value.int .i64 b)) HQ3.out, g1⟩
  ·obtain rfl : n = k := by omega
   have HQ3 : Hid (q = z) := by have := HQ.out; rw [← HNL.out, List.drop_length] at this; exact this
   go_wp2
   go_ret
   exact ⟨congrArg (fun b => Ending.returned (Value.int .i64 b)) HQ3.out, g1⟩
theorem quo1440 (a : Int) (h : 0 ≤ a) : a.tdiv 1440 = a / 1440 := Int.tdiv_eq_ediv_of_nonneg h
theorem local136 (nm : ByteArray) (zb : Int) (C : Option Addr) (n c : Nat) (ch : List Sp) (t q z : Int) (w : World) (hs : Spans w C n c ch) (hq : offR t ch zb = q) (hz : (if t + q < 0 then -1 else (t + q) / 1440) = z) (ht : -1000000000 ≤ t ∧ t ≤ 1000000000) (hb : -840 ≤ q ∧ q ≤ 840) :
  Calls Tryz.prog 136 #[.agg #[.string nm, .int .i64 zb, .slice C n c], .int .i64 t] w fun r w' => (∃ m, r = .returned (.tuple #[.int .i64 z, .int .i64 m])) ∧ Grew w w' := by
 have HS := Lib.hid hs
 have HQ := Lib.hid hq
 clear hs hq
 have g1 : Grew w (w.alloc (.cells #[.string nm, .int .i64 zb, .slice C n c] 24)) := (Grew.refl w).alloc _
 have x0 : (w.alloc (.cells #[.string nm, .int .i64 zb, .slice C n c] 24)).heap[w.heap.size]? = some (.cells #[.string nm, .int .i64 zb, .slice C n c] 24) := World.alloc_heap_new w _
 have e1 : IntKind.i64.wrap (t + q) = t + q := IntWalk.i64_in _ (by omega)
 go_enter Tryz.func136, Tryz.ntmps136
 go_wp2_with fail
 refine (offset155 nm zb C n c ch t q _ (HS.out.grew g1) HQ.out).mono ?_
 rintro r w1 ⟨rfl, g2⟩
 have G := g1.trans g2
 clear g1 g2 x0
 by_cases hn : t + q < 0
 ·obtain rfl : -1 = z := by rw [← hz, if_pos hn]
  have qn : decide (t + q < 0) = true := decide_eq_true hn
  go_wp2
  go_ret2
  exact ⟨⟨_, rfl⟩, G⟩
 ·obtain rfl : (t + q) / 1440 = z := by rw [← hz, if_neg hn]
  have qn : decide (t + q < 0) = false := decide_eq_false hn
  have e2 : IntKind.i64.wrap ((t + q).tdiv 1440) = (t + q) / 1440 := by rw [quo1440 _ (by omega)]; exact IntWalk.i64_in _ (by omega)
  go_wp2
  go_ret2
  exact ⟨⟨_, rfl⟩, G⟩
theorem encS_ok : EncOk encS 2 := ⟨fun _ => rfl, by decide, fun x u hu => by
 simp only [encS, List.mem_cons, List.not_mem_nil, or_false] at hu
 rcases hu with rfl | rfl <;> rfl⟩
theorem flat_take' (l : List Sp) (q : Nat) : (flat l).take (q * 2) = flat (l.take q) := flat_take encS_ok l q
theorem flat_drop' (l : List Sp) (q : Nat) : (flat l).drop (q * 2) = flat (l.drop q) := flat_drop encS_ok l q
theorem wp_value {o : Oper} {a : Act} {w w' : World} {v : Value} {K : Act → World → Prop} {Q : Exit → Act → World → Prop} (hx : (execOp a.eval o).run Tryz.prog w = .ok (.value v) w') (h : K (a.put o.dst v) w') : o.wp Tryz.prog a w K Q := by
 unfold Oper.wp
 rw [hx]
 exact h
theorem flat_set {w : World} {base : Nat} {g n c k : Nat} {l : List Sp} {d m : Int} (hk : k < l.length) (hc : w.cell? ⟨g, k * 2, none⟩ = some (.int .i64 d)) (h : w.ownsRow base 49 2 (.slice (some ⟨g, 0, none⟩) n c) n (flat l)) : flat (l.set k (d, m)) = (flat l).set (k * 2 + 1) (.int .i64 m) := by
 have hn : k * 2 < n * 2 := by have := h.1; rw [flat_len] at this; omega
 have h1 := (h.cellAt (k * 2) hn).symm.trans hc
 obtain ⟨s, hs⟩ : ∃ s, l[k]? = some s := ⟨_, List.getElem?_eq_getElem hk⟩
 have h2 := (Go.Proofs.YtnnbibmmofnkdaaGreat.flat_at l k s hs).1
 rw [h1] at h2
 injection h2 with h2
 injection h2 with _ h2
 clear h1 hc h hn
 subst h2
 induction l generalizing k with
 | nil => simp at hk
 | cons x l ih =>
  cases k with
  | zero => simp at hs; subst hs; rfl
  | succ k =>
   have := ih (k := k) (by simpa using hk) (by simpa using hs)
   rw [uz1, show flat (x :: l.set k (s.1, m)) = .int .i64 x.1 :: .int .i64 x.2 :: flat (l.set k (s.1, m)) from rfl, this, show flat (x :: l) = .int .i64 x.1 :: .int .i64 x.2 :: flat l from rfl, show (k + 1) * 2 + 1 = (k * 2 + 1) + 1 + 1 by omega]
   rfl
theorem size49 (w : World) : (Go.sizeOf (Tryz.prog.elem 43)).run Tryz.prog w = .ok 2 w := by kernel_rfl
theorem elem43 : Tryz.prog.underlying 43 = some (.slice (Tryz.prog.elem 43)) := by kernel_rfl
theorem empty43 (x : World) : (Instr.buildSlice 43 0 #[]).run Tryz.prog x = .ok (.slice (some ⟨x.heap.size, 0, none⟩) 0 0) (x.alloc (.cells #[] 49)) := by kernel_rfl
/-- What count returns: a row of its own or the caller's. -/
def RetO (base n : Nat) (w : World) (r : Ending) (w' : World) : Prop :=
 ∃ (A : Option Addr) (m c : Nat) (l : List Sp), r = .returned (.slice A m c) ∧ w'.ownsRow base 49 2 (.slice A m c) m (flat l) ∧ l.length = m ∧ m ≤ n + 1 ∧ Below base w w'
set_option maxRecDepth 100000 in
set_option maxHeartbeats 32000000 in
theorem count138 (base : Nat) (A : Option Addr) (n c : Nat) (l : List Sp) (day : Int) (w : World) (h : w.ownsRow base 49 2 (.slice A n c) n (flat l)) (hl : l.length = n) (hb : base ≤ w.heap.size) (hn : n ≤ 50000) :
  Calls Tryz.prog 138 #[.slice A n c, .int .i64 day] w (RetO base n w) := by
 obtain ⟨i0, hi, hz0, hz1, hz2⟩ := info_parts info49
 have OW0 := Lib.hid h
 have HL := Lib.hid hl
 have HSL : Hid (Sl w 2 A n c (flat l)) := Sl.own h
 have hcap : n ≤ c := HSL.out.1
 have hcm : c ≤ 9223372036854775807 := HSL.out.2.1
 have hcell : Hid (∀ k, k < n → ∃ g, A = some ⟨g, 0, none⟩ ∧ ∃ d m, w.cell? ⟨g, k * 2, none⟩ = some (.int .i64 d) ∧ w.cell? ⟨g, k * 2 + 1, none⟩ = some (.int .i64 m)) := by
  intro k hk
  rcases h.2 with ⟨_, h0⟩ | ⟨g, cap, cur, hv, _⟩
  ·omega
  ·injection hv with e1 e2 e3
   subst e1
   obtain ⟨s, hs⟩ : ∃ s, l[k]? = some s := ⟨_, List.getElem?_eq_getElem (by omega)⟩
   exact ⟨g, rfl, s.1, s.2, (h.cellAt _ (by omega)).trans (Go.Proofs.YtnnbibmmofnkdaaGreat.flat_at l k s hs).1, (h.cellAt _ (by omega)).trans (Go.Proofs.YtnnbibmmofnkdaaGreat.flat_at l k s hs).2⟩
 clear h hl
 go_enter Tryz.func138, Tryz.ntmps138
 go_wp2_with fail
 go_loopw [5] (fun i y => ∃ k : Nat, k ≤ n ∧ i = .int .i64 k ∧ y = w) (fun i _ => (intOf i).toNat)
 case atStart => exact ⟨n, Nat.le_refl _, rfl, rfl⟩
 case round =>
  obtain ⟨k, hk, rfl, hy⟩ := hrel
  obtain rfl : w = wr := hy.symm
  clear hy
  by_cases hk0 : 0 < k
  ·obtain ⟨m, hm⟩ : ∃ m, k = m + 1 := ⟨k - 1, by omega⟩
   have HM := Lib.hid hm
   obtain ⟨g, hA, d, mi, c1, c2⟩ := hcell.out m (by omega)
   have e1 : IntKind.i64.wrap ((k : Int) - 1) = (m : Int) := by rw [show (k : Int) - 1 = (m : Int) by omega]; exact IntWalk.i64_in _ (by omega)
   have e0 : (0 : Int) < (k : Int) := by omega
   have e2 : (0 : Int) ≤ (m : Int) := by omega
   have e3 : (m : Int) < (n : Int) := by omega
   clear hm
   subst hA
   by_cases hd : day ≤ d
   ·have qd : decide (day ≤ d) = true := decide_eq_true hd
    go_wp2_with fail
    go_roundw
    case rel => exact ⟨m, by have := HM.out; omega, by go_num, trivial⟩
    case measure => have := HM.out; simp [intOf]; omega
   ·have qd : decide (day ≤ d) = false := decide_eq_false hd
    have hkn' : k < n ∨ k = n := by omega
    rcases hkn' with hkn | hkn
    ·obtain ⟨gk, hAk, dk, mk, ck1, ck2⟩ := hcell.out k hkn
     have qkn : decide ((k : Int) < (n : Int)) = true := decide_eq_true (by omega)
     have f0 : (0 : Int) ≤ (k : Int) := by omega
     have f1 : (k : Int) < (n : Int) := by omega
     injection hAk with hAk; injection hAk with hAk; subst hAk
     by_cases hdk : dk = day
     ·have qdk : (dk == day) = true := by simpa using hdk
      have fz := OW0.out.frozenAt (k * 2 + 1)
      have hst := OW0.out.stored (k * 2 + 1) (.int .i64 (wrap64 (mk + 1)))
      have HST := Lib.hid hst.1
      clear hst
      have HDK := Lib.hid hdk
      clear hdk
      go_wp2
      go_ret
      refine ⟨_, n, c, l.set k (day, wrap64 (mk + 1)), rfl, ?_, by rw [List.length_set]; exact HL.out, by omega, Below.setCell (Below.refl _ _) (show base ≤ (⟨g, k * 2 + 1, none⟩ : Addr).block from (OW0.out.lt g rfl).1) _⟩
      rw [← HDK.out, flat_set (by rw [HL.out]; exact hkn) ck1 (OW0.out)]
      exact HST.out
     ·have qdk : (dk == day) = false := by simpa using hdk
      clear hdk
      go_upto_region 7 with (fail)
      clear ck1 ck2
      obtain ⟨wx, hwx⟩ : ∃ y, y = w.drew := ⟨_, rfl⟩
      have gx : Grew w wx := by rw [hwx]; exact (Grew.refl w).drew
      have hbx : base ≤ wx.heap.size := Nat.le_trans hb gx.le
      have hbw : base ≤ w.heap.size := hb
      have HSd := Lib.hid (HSL.out.grew gx)
      have SH : Hid (Sl wx 2 (some ⟨g, 0, none⟩) k c (flat (l.take k))) := by unfold Hid; rw [← flat_take']; exact HSd.out.head hk (by omega) (Nat.le_refl _)
      have ST : Hid (Sl wx 2 (tailA (some ⟨g, 0, none⟩) c k 2) (n - k) (c - k) (flat (l.drop k))) := by unfold Hid; rw [← flat_drop']; exact HSd.out.tail hk
      have r1 : ∀ x, (Instr.slice 43 (.slice (some ⟨g, 0, none⟩) n c) none (some (.int .i64 (k : Int))) none).run Tryz.prog x = .ok (.slice (some ⟨g, 0, none⟩) k c) x := fun x => run_slice_head x 43 2 elem43 (size49 x) (some ⟨g, 0, none⟩) n c k _ (by omega)
      have r2 : ∀ x, (Instr.slice 43 (.slice (some ⟨g, 0, none⟩) n c) (some (.int .i64 (k : Int))) none none).run Tryz.prog x = .ok (.slice (tailA (some ⟨g, 0, none⟩) c k 2) (n - k) (c - k)) x := fun x => run_slice_tail x 43 2 elem43 (size49 x) (some ⟨g, 0, none⟩) n c k _ hk
      have hE : ∀ x, (Instr.buildSlice 43 0 #[]).run Tryz.prog x = .ok (.slice (some ⟨x.heap.size, 0, none⟩) 0 0) (x.alloc (.cells #[] 49)) := fun x => empty43 x
      refine wp_region_H (by kernel_rfl) (fun w' => Grew wx w') ?_
      rw [← hwx]
      clear hwx
      refine wpAnyH_takes (fun _ _ _ _ _ h => h) (Grew.refl _) [1, 2, 3, 5, 6, 9, 10, 11] (fuel' := 6) (by kernel_rfl) (by kernel_rfl) (by simp only [pickOps, ugT, ug0, ug1]; rfl) ?_
      repeat (first
       | (refine TakeP.pure (v := ?_) (by rfl) ?_ ?_; rotate_left; (intro w' g'; go_simp; first | done | with_reducible rfl); (simp only [Act.put, uzT, uz0, uz1])))
      refine TakeP.nil ?_
      refine wpAnyH_two (i := 0) (j := 7) (by kernel_rfl) (fuel' := 5) (by kernel_rfl) (by simp only [pickOps, ugT, ug0]; rfl) rfl (by simp only [pickOps, ugT, ug0, ug1]; rfl) rfl ?_ ?_
      ·intro K hK
       refine wp_value (v := .slice (some ⟨wx.heap.size, 0, none⟩) 0 0) (w' := wx.alloc (.cells #[] 49)) (by kernel_rfl) ?_
       have S2 := (Grew.refl wx).alloc (.cells #[] 49)
       refine hK _ _ S2 ?_
       clear hK K
       try simp only [Act.put, uzT, uz0, uz1]
       obtain ⟨w2, hw2⟩ : ∃ y, y = wx.alloc (.cells #[] 49) := ⟨_, rfl⟩
       obtain ⟨b2, hb2⟩ : ∃ z, z = wx.heap.size := ⟨_, rfl⟩
       have OE : Hid (w2.ownsRow wx.heap.size 49 2 (.slice (some ⟨b2, 0, none⟩) 0 0) 0 []) := by unfold Hid; rw [hw2, hb2]; exact World.ownsRow_lit wx #[] 0 (Grew.refl wx).le (by decide) rfl
       have LBb2 : b2 < w2.heap.size := by rw [hw2, hb2]; simp
       rw [← hw2] at S2 ⊢
       rw [← hb2]
       clear hw2 hb2
       refine wpAnyH_two (i := 4) (j := 7) (by kernel_rfl) (fuel' := 4) (by kernel_rfl) (by simp only [pickOps, ugT, ug0, ug1]; rfl) rfl (by simp only [pickOps, ugT, ug0, ug1]; rfl) rfl ?_ ?_
       ·intro K hK
        refine wp_append_sl _ (.tmp 44) (.tmp 47) 43 rfl wx.heap.size 49 i0 (.agg #[.int .i64 0, .int .i64 0]) 2 16 Tryz.underlying43 hi hz0 hz1 hz2 rfl (by decide) (.slice (some ⟨b2, 0, none⟩) 0 0) 0 _ rfl OE.out (some ⟨g, 0, none⟩) k c _ rfl (SH.out.grew S2) (flat_one _) (by unfold maxLen; omega) (by omega) S2.le ?_
        intro v3 w3 own3 hg3 hat3
        obtain ⟨A3, c3, rfl⟩ := own_form own3
        rw [Nat.zero_add, List.nil_append] at own3
        have S3 : Grew wx w3 := S2.grown hg3 (fun j hj => (OE.out.lt j hj).1)
        rw [Nat.zero_add]
        refine hK _ _ S3 ?_
        clear hK K
        try simp only [Act.put, uzT, uz0, uz1]
        have OW3 := Lib.hid own3
        clear own3 hat3 hg3 OE
        refine wpAnyH_step (i := 7) (by kernel_rfl) (fuel' := 3) (by kernel_rfl) (by simp only [pickOps, ugT, ug0, ug1]; rfl) (by rfl) ?_
        intro K hK
        go_simp
        have S4 := S3.alloc (.cells #[.int .i64 day, .int .i64 1] 49)
        refine hK _ _ S4 ?_
        clear hK K
        try simp only [Act.put, uzT, uz0, uz1]
        obtain ⟨w4, hw4⟩ : ∃ y, y = w3.alloc (.cells #[.int .i64 day, .int .i64 1] 49) := ⟨_, rfl⟩
        obtain ⟨b4, hb4⟩ : ∃ z, z = w3.heap.size := ⟨_, rfl⟩
        have BI : Hid (Sl w4 2 (some ⟨b4, 0, none⟩) 1 1 (flat [(day, 1)])) := by unfold Hid; rw [hw4, hb4]; exact builtS (w := w3) (t := 49) 2 1 #[.int .i64 day, .int .i64 1] (flat [(day, 1)]) rfl rfl (by decide)
        have LBb4 : b4 < w4.heap.size := by rw [hw4, hb4]; simp
        rw [← hw4] at S4 ⊢
        rw [← hb4]
        have OW := Lib.hid (OW3.out.alloc (.cells #[.int .i64 day, .int .i64 1] 49))
        rw [← hw4] at OW
        clear hw4 hb4 OW3
        refine wpAnyH_step (i := 8) (by kernel_rfl) (fuel' := 2) (by kernel_rfl) (by simp only [pickOps, ugT, ug0, ug1]; rfl) (by rfl) ?_
        intro K hK
        refine wp_append_sl _ (.tmp 48) (.tmp 51) 43 rfl wx.heap.size 49 i0 (.agg #[.int .i64 0, .int .i64 0]) 2 16 Tryz.underlying43 hi hz0 hz1 hz2 rfl (by decide) (.slice A3 k c3) k _ rfl OW.out (some ⟨b4, 0, none⟩) 1 1 _ rfl BI.out (flat_one _) (by unfold maxLen; omega) (by omega) S4.le ?_
        intro v5 w5 own5 hg5 hat5
        obtain ⟨A5, c5, rfl⟩ := own_form own5
        have S5 : Grew wx w5 := S4.grown hg5 (fun j hj => (OW.out.lt j hj).1)
        refine hK _ _ S5 ?_
        clear hK K
        try simp only [Act.put, uzT, uz0, uz1]
        have OW5 := Lib.hid own5
        clear own5 hg5 hat5 OW BI S4
        refine wpAnyH_step (i := 12) (by kernel_rfl) (fuel' := 1) (by kernel_rfl) (by simp only [pickOps, ugT, ug0, ug1]; rfl) (by rfl) ?_
        intro K hK
        refine wp_append_sl _ (.tmp 52) (.tmp 55) 43 rfl wx.heap.size 49 i0 (.agg #[.int .i64 0, .int .i64 0]) 2 16 Tryz.underlying43 hi hz0 hz1 hz2 rfl (by decide) (.slice A5 (k + 1) c5) (k + 1) _ rfl OW5.out (tailA (some ⟨g, 0, none⟩) c k 2) (n - k) (c - k) _ rfl (ST.out.grew S5) (flat_one _) (by unfold maxLen; omega) (by omega) S5.le ?_
        intro v7 w7 own7 hg7 hat7
        obtain ⟨A7, c7, rfl⟩ := own_form own7
        have S7 : Grew wx w7 := S5.grown hg7 (fun j hj => (OW5.out.lt j hj).1)
        refine hK _ _ S7 ?_
        clear hK K
        try simp only [Act.put, uzT, uz0, uz1]
        rw [← flat_append, ← flat_append] at own7
        have OW7 := Lib.hid own7
        clear own7 hg7 hat7 OW5 S5
        refine wpAnyH_takes (fun _ _ _ _ _ h => h) S7 [13] (fuel' := 0) (by kernel_rfl) (by kernel_rfl) (by simp only [pickOps, ugT, ug0, ug1]; rfl) ?_
        repeat (first
         | (refine TakeP.pure (v := ?_) (by rfl) ?_ ?_; rotate_left; (intro w' g'; go_simp; first | done | with_reducible rfl); (simp only [Act.put, uzT, uz0, uz1])))
        refine TakeP.nil ?_
        refine wpAnyH_done (by kernel_rfl) ?_ _
        go_wp2
        go_ret
        refine ⟨A7, _, c7, (l.take k ++ [(day, 1)]) ++ l.drop k, rfl, own_base OW7.out hbx, ?_, by omega, (Below.trans (Below.refl _ _) (Below.mono (gx.trans S7) hbw))⟩
        rw [List.length_append, List.length_append, List.length_take, List.length_drop, HL.out]; show min k n + 1 + (n - k) = _; omega
       ·intro K hK
        go_simp
        have S4 := S2.alloc (.cells #[.int .i64 day, .int .i64 1] 49)
        refine hK _ _ S4 ?_
        clear hK K
        try simp only [Act.put, uzT, uz0, uz1]
        obtain ⟨w4, hw4⟩ : ∃ y, y = w2.alloc (.cells #[.int .i64 day, .int .i64 1] 49) := ⟨_, rfl⟩
        obtain ⟨b4, hb4⟩ : ∃ z, z = w2.heap.size := ⟨_, rfl⟩
        have BI : Hid (Sl w4 2 (some ⟨b4, 0, none⟩) 1 1 (flat [(day, 1)])) := by unfold Hid; rw [hw4, hb4]; exact builtS (w := w2) (t := 49) 2 1 #[.int .i64 day, .int .i64 1] (flat [(day, 1)]) rfl rfl (by decide)
        have LBb4 : b4 < w4.heap.size := by rw [hw4, hb4]; simp
        rw [← hw4] at S4 ⊢
        rw [← hb4]
        replace OE := Lib.hid (OE.out.alloc (.cells #[.int .i64 day, .int .i64 1] 49))
        rw [← hw4] at OE
        clear hw4
        refine wpAnyH_step (i := 4) (by kernel_rfl) (fuel' := 3) (by kernel_rfl) (by simp only [pickOps, ugT, ug0, ug1]; rfl) (by rfl) ?_
        intro K hK
        refine wp_append_sl _ (.tmp 44) (.tmp 47) 43 rfl wx.heap.size 49 i0 (.agg #[.int .i64 0, .int .i64 0]) 2 16 Tryz.underlying43 hi hz0 hz1 hz2 rfl (by decide) (.slice (some ⟨b2, 0, none⟩) 0 0) 0 _ rfl OE.out (some ⟨g, 0, none⟩) k c _ rfl (SH.out.grew S4) (flat_one _) (by unfold maxLen; omega) (by omega) S4.le ?_
        intro v3 w3 own3 hg3 hat3
        obtain ⟨A3, c3, rfl⟩ := own_form own3
        rw [Nat.zero_add, List.nil_append] at own3
        have S3 : Grew wx w3 := S4.grown hg3 (fun j hj => (OE.out.lt j hj).1)
        rw [Nat.zero_add]
        refine hK _ _ S3 ?_
        clear hK K
        try simp only [Act.put, uzT, uz0, uz1]
        have OW3 := Lib.hid own3
        replace BI := Lib.hid (KeepB.sl BI.out (KeepB.grown (G := fun k => k ≠ b2) hg3 (fun h => h rfl)) (fun b o h _ => by injection h with h; injection h with h; omega))
        clear own3 hat3 hg3 OE
        clear S4
        have S4 := S3
        have OW := OW3
        refine wpAnyH_step (i := 8) (by kernel_rfl) (fuel' := 2) (by kernel_rfl) (by simp only [pickOps, ugT, ug0, ug1]; rfl) (by rfl) ?_
        intro K hK
        refine wp_append_sl _ (.tmp 48) (.tmp 51) 43 rfl wx.heap.size 49 i0 (.agg #[.int .i64 0, .int .i64 0]) 2 16 Tryz.underlying43 hi hz0 hz1 hz2 rfl (by decide) (.slice A3 k c3) k _ rfl OW.out (some ⟨b4, 0, none⟩) 1 1 _ rfl BI.out (flat_one _) (by unfold maxLen; omega) (by omega) S4.le ?_
        intro v5 w5 own5 hg5 hat5
        obtain ⟨A5, c5, rfl⟩ := own_form own5
        have S5 : Grew wx w5 := S4.grown hg5 (fun j hj => (OW.out.lt j hj).1)
        refine hK _ _ S5 ?_
        clear hK K
        try simp only [Act.put, uzT, uz0, uz1]
        have OW5 := Lib.hid own5
        clear own5 hg5 hat5 OW BI S4
        refine wpAnyH_step (i := 12) (by kernel_rfl) (fuel' := 1) (by kernel_rfl) (by simp only [pickOps, ugT, ug0, ug1]; rfl) (by rfl) ?_
        intro K hK
        refine wp_append_sl _ (.tmp 52) (.tmp 55) 43 rfl wx.heap.size 49 i0 (.agg #[.int .i64 0, .int .i64 0]) 2 16 Tryz.underlying43 hi hz0 hz1 hz2 rfl (by decide) (.slice A5 (k + 1) c5) (k + 1) _ rfl OW5.out (tailA (some ⟨g, 0, none⟩) c k 2) (n - k) (c - k) _ rfl (ST.out.grew S5) (flat_one _) (by unfold maxLen; omega) (by omega) S5.le ?_
        intro v7 w7 own7 hg7 hat7
        obtain ⟨A7, c7, rfl⟩ := own_form own7
        have S7 : Grew wx w7 := S5.grown hg7 (fun j hj => (OW5.out.lt j hj).1)
        refine hK _ _ S7 ?_
        clear hK K
        try simp only [Act.put, uzT, uz0, uz1]
        rw [← flat_append, ← flat_append] at own7
        have OW7 := Lib.hid own7
        clear own7 hg7 hat7 OW5 S5
        refine wpAnyH_takes (fun _ _ _ _ _ h => h) S7 [13] (fuel' := 0) (by kernel_rfl) (by kernel_rfl) (by simp only [pickOps, ugT, ug0, ug1]; rfl) ?_
        repeat (first
         | (refine TakeP.pure (v := ?_) (by rfl) ?_ ?_; rotate_left; (intro w' g'; go_simp; first | done | with_reducible rfl); (simp only [Act.put, uzT, uz0, uz1])))
        refine TakeP.nil ?_
        refine wpAnyH_done (by kernel_rfl) ?_ _
        go_wp2
        go_ret
        refine ⟨A7, _, c7, (l.take k ++ [(day, 1)]) ++ l.drop k, rfl, own_base OW7.out hbx, ?_, by omega, (Below.trans (Below.refl _ _) (Below.mono (gx.trans S7) hbw))⟩
        rw [List.length_append, List.length_append, List.length_take, List.length_drop, HL.out]; show min k n + 1 + (n - k) = _; omega
      ·intro K hK
       go_simp
       have S2 := (Grew.refl wx).alloc (.cells #[.int .i64 day, .int .i64 1] 49)
       refine hK _ _ S2 ?_
       clear hK K
       try simp only [Act.put, uzT, uz0, uz1]
       obtain ⟨w2, hw2⟩ : ∃ y, y = wx.alloc (.cells #[.int .i64 day, .int .i64 1] 49) := ⟨_, rfl⟩
       obtain ⟨b4, hb4⟩ : ∃ z, z = wx.heap.size := ⟨_, rfl⟩
       have BI : Hid (Sl w2 2 (some ⟨b4, 0, none⟩) 1 1 (flat [(day, 1)])) := by unfold Hid; rw [hw2, hb4]; exact builtS (w := wx) (t := 49) 2 1 #[.int .i64 day, .int .i64 1] (flat [(day, 1)]) rfl rfl (by decide)
       have LBb4 : b4 < w2.heap.size := by rw [hw2, hb4]; simp
       rw [← hw2] at S2 ⊢
       rw [← hb4]
       clear hw2 hb4
       refine wpAnyH_step (i := 0) (by kernel_rfl) (fuel' := 4) (by kernel_rfl) (by simp only [pickOps, ugT, ug0]; rfl) (by rfl) ?_
       intro K hK
       refine wp_value (v := .slice (some ⟨w2.heap.size, 0, none⟩) 0 0) (w' := w2.alloc (.cells #[] 49)) (by kernel_rfl) ?_
       have S4 := S2.alloc (.cells #[] 49)
       refine hK _ _ S4 ?_
       clear hK K
       try simp only [Act.put, uzT, uz0, uz1]
       obtain ⟨w4, hw4⟩ : ∃ y, y = w2.alloc (.cells #[] 49) := ⟨_, rfl⟩
       obtain ⟨b2, hb2⟩ : ∃ z, z = w2.heap.size := ⟨_, rfl⟩
       have OE : Hid (w4.ownsRow wx.heap.size 49 2 (.slice (some ⟨b2, 0, none⟩) 0 0) 0 []) := by unfold Hid; rw [hw4, hb2]; exact World.ownsRow_lit w2 #[] 0 S2.le (by decide) rfl
       have LBb2 : b2 < w4.heap.size := by rw [hw4, hb2]; simp
       rw [← hw4] at S4 ⊢
       rw [← hb2]
       replace BI := Lib.hid (BI.out.grew ((Grew.refl w2).alloc (.cells #[] 49)))
       rw [← hw4] at BI
       clear hw4
       refine wpAnyH_step (i := 4) (by kernel_rfl) (fuel' := 3) (by kernel_rfl) (by simp only [pickOps, ugT, ug0, ug1]; rfl) (by rfl) ?_
       intro K hK
       refine wp_append_sl _ (.tmp 44) (.tmp 47) 43 rfl wx.heap.size 49 i0 (.agg #[.int .i64 0, .int .i64 0]) 2 16 Tryz.underlying43 hi hz0 hz1 hz2 rfl (by decide) (.slice (some ⟨b2, 0, none⟩) 0 0) 0 _ rfl OE.out (some ⟨g, 0, none⟩) k c _ rfl (SH.out.grew S4) (flat_one _) (by unfold maxLen; omega) (by omega) S4.le ?_
       intro v3 w3 own3 hg3 hat3
       obtain ⟨A3, c3, rfl⟩ := own_form own3
       rw [Nat.zero_add, List.nil_append] at own3
       have S3 : Grew wx w3 := S4.grown hg3 (fun j hj => (OE.out.lt j hj).1)
       rw [Nat.zero_add]
       refine hK _ _ S3 ?_
       clear hK K
       try simp only [Act.put, uzT, uz0, uz1]
       have OW3 := Lib.hid own3
       replace BI := Lib.hid (KeepB.sl BI.out (KeepB.grown (G := fun k => k ≠ b2) hg3 (fun h => h rfl)) (fun b o h _ => by injection h with h; injection h with h; omega))
       clear own3 hat3 hg3 OE
       clear S4
       have S4 := S3
       have OW := OW3
       refine wpAnyH_step (i := 8) (by kernel_rfl) (fuel' := 2) (by kernel_rfl) (by simp only [pickOps, ugT, ug0, ug1]; rfl) (by rfl) ?_
       intro K hK
       refine wp_append_sl _ (.tmp 48) (.tmp 51) 43 rfl wx.heap.size 49 i0 (.agg #[.int .i64 0, .int .i64 0]) 2 16 Tryz.underlying43 hi hz0 hz1 hz2 rfl (by decide) (.slice A3 k c3) k _ rfl OW.out (some ⟨b4, 0, none⟩) 1 1 _ rfl BI.out (flat_one _) (by unfold maxLen; omega) (by omega) S4.le ?_
       intro v5 w5 own5 hg5 hat5
       obtain ⟨A5, c5, rfl⟩ := own_form own5
       have S5 : Grew wx w5 := S4.grown hg5 (fun j hj => (OW.out.lt j hj).1)
       refine hK _ _ S5 ?_
       clear hK K
       try simp only [Act.put, uzT, uz0, uz1]
       have OW5 := Lib.hid own5
       clear own5 hg5 hat5 OW BI S4
       refine wpAnyH_step (i := 12) (by kernel_rfl) (fuel' := 1) (by kernel_rfl) (by simp only [pickOps, ugT, ug0, ug1]; rfl) (by rfl) ?_
       intro K hK
       refine wp_append_sl _ (.tmp 52) (.tmp 55) 43 rfl wx.heap.size 49 i0 (.agg #[.int .i64 0, .int .i64 0]) 2 16 Tryz.underlying43 hi hz0 hz1 hz2 rfl (by decide) (.slice A5 (k + 1) c5) (k + 1) _ rfl OW5.out (tailA (some ⟨g, 0, none⟩) c k 2) (n - k) (c - k) _ rfl (ST.out.grew S5) (flat_one _) (by unfold maxLen; omega) (by omega) S5.le ?_
       intro v7 w7 own7 hg7 hat7
       obtain ⟨A7, c7, rfl⟩ := own_form own7
       have S7 : Grew wx w7 := S5.grown hg7 (fun j hj => (OW5.out.lt j hj).1)
       refine hK _ _ S7 ?_
       clear hK K
       try simp only [Act.put, uzT, uz0, uz1]
       rw [← flat_append, ← flat_append] at own7
       have OW7 := Lib.hid own7
       clear own7 hg7 hat7 OW5 S5
       refine wpAnyH_takes (fun _ _ _ _ _ h => h) S7 [13] (fuel' := 0) (by kernel_rfl) (by kernel_rfl) (by simp only [pickOps, ugT, ug0, ug1]; rfl) ?_
       repeat (first
        | (refine TakeP.pure (v := ?_) (by rfl) ?_ ?_; rotate_left; (intro w' g'; go_simp; first | done | with_reducible rfl); (simp only [Act.put, uzT, uz0, uz1])))
       refine TakeP.nil ?_
       refine wpAnyH_done (by kernel_rfl) ?_ _
       go_wp2
       go_ret
       refine ⟨A7, _, c7, (l.take k ++ [(day, 1)]) ++ l.drop k, rfl, own_base OW7.out hbx, ?_, by omega, (Below.trans (Below.refl _ _) (Below.mono (gx.trans S7) hbw))⟩
       rw [List.length_append, List.length_append, List.length_take, List.length_drop, HL.out]; show min k n + 1 + (n - k) = _; omega
    ·have qkn : decide ((k : Int) < (n : Int)) = false := decide_eq_false (by omega)
     have qkn2 : ¬ (k < n) := by omega
     have qkn3 : ¬ ((k : Int) < (n : Int)) := by omega
     clear hkn
     go_upto_region 7 with (fail)
     obtain ⟨wx, hwx⟩ : ∃ y, y = w.drew := ⟨_, rfl⟩
     have gx : Grew w wx := by rw [hwx]; exact (Grew.refl w).drew
     have hbx : base ≤ wx.heap.size := Nat.le_trans hb gx.le
     have hbw : base ≤ w.heap.size := hb
     have HSd := Lib.hid (HSL.out.grew gx)
     have SH : Hid (Sl wx 2 (some ⟨g, 0, none⟩) k c (flat (l.take k))) := by unfold Hid; rw [← flat_take']; exact HSd.out.head hk (by omega) (Nat.le_refl _)
     have ST : Hid (Sl wx 2 (tailA (some ⟨g, 0, none⟩) c k 2) (n - k) (c - k) (flat (l.drop k))) := by unfold Hid; rw [← flat_drop']; exact HSd.out.tail hk
     have r1 : ∀ x, (Instr.slice 43 (.slice (some ⟨g, 0, none⟩) n c) none (some (.int .i64 (k : Int))) none).run Tryz.prog x = .ok (.slice (some ⟨g, 0, none⟩) k c) x := fun x => run_slice_head x 43 2 elem43 (size49 x) (some ⟨g, 0, none⟩) n c k _ (by omega)
     have r2 : ∀ x, (Instr.slice 43 (.slice (some ⟨g, 0, none⟩) n c) (some (.int .i64 (k : Int))) none none).run Tryz.prog x = .ok (.slice (tailA (some ⟨g, 0, none⟩) c k 2) (n - k) (c - k)) x := fun x => run_slice_tail x 43 2 elem43 (size49 x) (some ⟨g, 0, none⟩) n c k _ hk
     have hE : ∀ x, (Instr.buildSlice 43 0 #[]).run Tryz.prog x = .ok (.slice (some ⟨x.heap.size, 0, none⟩) 0 0) (x.alloc (.cells #[] 49)) := fun x => empty43 x
     refine wp_region_H (by kernel_rfl) (fun w' => Grew wx w') ?_
     rw [← hwx]
     clear hwx
     refine wpAnyH_takes (fun _ _ _ _ _ h => h) (Grew.refl _) [1, 2, 3, 5, 6, 9, 10, 11] (fuel' := 6) (by kernel_rfl) (by kernel_rfl) (by simp only [pickOps, ugT, ug0, ug1]; rfl) ?_
     repeat (first
      | (refine TakeP.pure (v := ?_) (by rfl) ?_ ?_; rotate_left; (intro w' g'; go_simp; first | done | with_reducible rfl); (simp only [Act.put, uzT, uz0, uz1])))
     refine TakeP.nil ?_
     refine wpAnyH_two (i := 0) (j := 7) (by kernel_rfl) (fuel' := 5) (by kernel_rfl) (by simp only [pickOps, ugT, ug0]; rfl) rfl (by simp only [pickOps, ugT, ug0, ug1]; rfl) rfl ?_ ?_
     ·intro K hK
      refine wp_value (v := .slice (some ⟨wx.heap.size, 0, none⟩) 0 0) (w' := wx.alloc (.cells #[] 49)) (by kernel_rfl) ?_
      have S2 := (Grew.refl wx).alloc (.cells #[] 49)
      refine hK _ _ S2 ?_
      clear hK K
      try simp only [Act.put, uzT, uz0, uz1]
      obtain ⟨w2, hw2⟩ : ∃ y, y = wx.alloc (.cells #[] 49) := ⟨_, rfl⟩
      obtain ⟨b2, hb2⟩ : ∃ z, z = wx.heap.size := ⟨_, rfl⟩
      have OE : Hid (w2.ownsRow wx.heap.size 49 2 (.slice (some ⟨b2, 0, none⟩) 0 0) 0 []) := by unfold Hid; rw [hw2, hb2]; exact World.ownsRow_lit wx #[] 0 (Grew.refl wx).le (by decide) rfl
      have LBb2 : b2 < w2.heap.size := by rw [hw2, hb2]; simp
      rw [← hw2] at S2 ⊢
      rw [← hb2]
      clear hw2 hb2
      refine wpAnyH_two (i := 4) (j := 7) (by kernel_rfl) (fuel' := 4) (by kernel_rfl) (by simp only [pickOps, ugT, ug0, ug1]; rfl) rfl (by simp only [pickOps, ugT, ug0, ug1]; rfl) rfl ?_ ?_
      ·intro K hK
       refine wp_append_sl _ (.tmp 44) (.tmp 47) 43 rfl wx.heap.size 49 i0 (.agg #[.int .i64 0, .int .i64 0]) 2 16 Tryz.underlying43 hi hz0 hz1 hz2 rfl (by decide) (.slice (some ⟨b2, 0, none⟩) 0 0) 0 _ rfl OE.out (some ⟨g, 0, none⟩) k c _ rfl (SH.out.grew S2) (flat_one _) (by unfold maxLen; omega) (by omega) S2.le ?_
       intro v3 w3 own3 hg3 hat3
       obtain ⟨A3, c3, rfl⟩ := own_form own3
       rw [Nat.zero_add, List.nil_append] at own3
       have S3 : Grew wx w3 := S2.grown hg3 (fun j hj => (OE.out.lt j hj).1)
       rw [Nat.zero_add]
       refine hK _ _ S3 ?_
       clear hK K
       try simp only [Act.put, uzT, uz0, uz1]
       have OW3 := Lib.hid own3
       clear own3 hat3 hg3 OE
       refine wpAnyH_step (i := 7) (by kernel_rfl) (fuel' := 3) (by kernel_rfl) (by simp only [pickOps, ugT, ug0, ug1]; rfl) (by rfl) ?_
       intro K hK
       go_simp
       have S4 := S3.alloc (.cells #[.int .i64 day, .int .i64 1] 49)
       refine hK _ _ S4 ?_
       clear hK K
       try simp only [Act.put, uzT, uz0, uz1]
       obtain ⟨w4, hw4⟩ : ∃ y, y = w3.alloc (.cells #[.int .i64 day, .int .i64 1] 49) := ⟨_, rfl⟩
       obtain ⟨b4, hb4⟩ : ∃ z, z = w3.heap.size := ⟨_, rfl⟩
       have BI : Hid (Sl w4 2 (some ⟨b4, 0, none⟩) 1 1 (flat [(day, 1)])) := by unfold Hid; rw [hw4, hb4]; exact builtS (w := w3) (t := 49) 2 1 #[.int .i64 day, .int .i64 1] (flat [(day, 1)]) rfl rfl (by decide)
       have LBb4 : b4 < w4.heap.size := by rw [hw4, hb4]; simp
       rw [← hw4] at S4 ⊢
       rw [← hb4]
       have OW := Lib.hid (OW3.out.alloc (.cells #[.int .i64 day, .int .i64 1] 49))
       rw [← hw4] at OW
       clear hw4 hb4 OW3
       refine wpAnyH_step (i := 8) (by kernel_rfl) (fuel' := 2) (by kernel_rfl) (by simp only [pickOps, ugT, ug0, ug1]; rfl) (by rfl) ?_
       intro K hK
       refine wp_append_sl _ (.tmp 48) (.tmp 51) 43 rfl wx.heap.size 49 i0 (.agg #[.int .i64 0, .int .i64 0]) 2 16 Tryz.underlying43 hi hz0 hz1 hz2 rfl (by decide) (.slice A3 k c3) k _ rfl OW.out (some ⟨b4, 0, none⟩) 1 1 _ rfl BI.out (flat_one _) (by unfold maxLen; omega) (by omega) S4.le ?_
       intro v5 w5 own5 hg5 hat5
       obtain ⟨A5, c5, rfl⟩ := own_form own5
       have S5 : Grew wx w5 := S4.grown hg5 (fun j hj => (OW.out.lt j hj).1)
       refine hK _ _ S5 ?_
       clear hK K
       try simp only [Act.put, uzT, uz0, uz1]
       have OW5 := Lib.hid own5
       clear own5 hg5 hat5 OW BI S4
       refine wpAnyH_step (i := 12) (by kernel_rfl) (fuel' := 1) (by kernel_rfl) (by simp only [pickOps, ugT, ug0, ug1]; rfl) (by rfl) ?_
       intro K hK
       refine wp_append_sl _ (.tmp 52) (.tmp 55) 43 rfl wx.heap.size 49 i0 (.agg #[.int .i64 0, .int .i64 0]) 2 16 Tryz.underlying43 hi hz0 hz1 hz2 rfl (by decide) (.slice A5 (k + 1) c5) (k + 1) _ rfl OW5.out (tailA (some ⟨g, 0, none⟩) c k 2) (n - k) (c - k) _ rfl (ST.out.grew S5) (flat_one _) (by unfold maxLen; omega) (by omega) S5.le ?_
       intro v7 w7 own7 hg7 hat7
       obtain ⟨A7, c7, rfl⟩ := own_form own7
       have S7 : Grew wx w7 := S5.grown hg7 (fun j hj => (OW5.out.lt j hj).1)
       refine hK _ _ S7 ?_
       clear hK K
       try simp only [Act.put, uzT, uz0, uz1]
       rw [← flat_append, ← flat_append] at own7
       have OW7 := Lib.hid own7
       clear own7 hg7 hat7 OW5 S5
       refine wpAnyH_takes (fun _ _ _ _ _ h => h) S7 [13] (fuel' := 0) (by kernel_rfl) (by kernel_rfl) (by simp only [pickOps, ugT, ug0, ug1]; rfl) ?_
       repeat (first
        | (refine TakeP.pure (v := ?_) (by rfl) ?_ ?_; rotate_left; (intro w' g'; go_simp; first | done | with_reducible rfl); (simp only [Act.put, uzT, uz0, uz1])))
       refine TakeP.nil ?_
       refine wpAnyH_done (by kernel_rfl) ?_ _
       go_wp2
       go_ret
       refine ⟨A7, _, c7, (l.take k ++ [(day, 1)]) ++ l.drop k, rfl, own_base OW7.out hbx, ?_, by omega, (Below.trans (Below.refl _ _) (Below.mono (gx.trans S7) hbw))⟩
       rw [List.length_append, List.length_append, List.length_take, List.length_drop, HL.out]; show min k n + 1 + (n - k) = _; omega
      ·intro K hK
       go_simp
       have S4 := S2.alloc (.cells #[.int .i64 day, .int .i64 1] 49)
       refine hK _ _ S4 ?_
       clear hK K
       try simp only [Act.put, uzT, uz0, uz1]
       obtain ⟨w4, hw4⟩ : ∃ y, y = w2.alloc (.cells #[.int .i64 day, .int .i64 1] 49) := ⟨_, rfl⟩
       obtain ⟨b4, hb4⟩ : ∃ z, z = w2.heap.size := ⟨_, rfl⟩
       have BI : Hid (Sl w4 2 (some ⟨b4, 0, none⟩) 1 1 (flat [(day, 1)])) := by unfold Hid; rw [hw4, hb4]; exact builtS (w := w2) (t := 49) 2 1 #[.int .i64 day, .int .i64 1] (flat [(day, 1)]) rfl rfl (by decide)
       have LBb4 : b4 < w4.heap.size := by rw [hw4, hb4]; simp
       rw [← hw4] at S4 ⊢
       rw [← hb4]
       replace OE := Lib.hid (OE.out.alloc (.cells #[.int .i64 day, .int .i64 1] 49))
       rw [← hw4] at OE
       clear hw4
       refine wpAnyH_step (i := 4) (by kernel_rfl) (fuel' := 3) (by kernel_rfl) (by simp only [pickOps, ugT, ug0, ug1]; rfl) (by rfl) ?_
       intro K hK
       refine wp_append_sl _ (.tmp 44) (.tmp 47) 43 rfl wx.heap.size 49 i0 (.agg #[.int .i64 0, .int .i64 0]) 2 16 Tryz.underlying43 hi hz0 hz1 hz2 rfl (by decide) (.slice (some ⟨b2, 0, none⟩) 0 0) 0 _ rfl OE.out (some ⟨g, 0, none⟩) k c _ rfl (SH.out.grew S4) (flat_one _) (by unfold maxLen; omega) (by omega) S4.le ?_
       intro v3 w3 own3 hg3 hat3
       obtain ⟨A3, c3, rfl⟩ := own_form own3
       rw [Nat.zero_add, List.nil_append] at own3
       have S3 : Grew wx w3 := S4.grown hg3 (fun j hj => (OE.out.lt j hj).1)
       rw [Nat.zero_add]
       refine hK _ _ S3 ?_
       clear hK K
       try simp only [Act.put, uzT, uz0, uz1]
       have OW3 := Lib.hid own3
       replace BI := Lib.hid (KeepB.sl BI.out (KeepB.grown (G := fun k => k ≠ b2) hg3 (fun h => h rfl)) (fun b o h _ => by injection h with h; injection h with h; omega))
       clear own3 hat3 hg3 OE
       clear S4
       have S4 := S3
       have OW := OW3
       refine wpAnyH_step (i := 8) (by kernel_rfl) (fuel' := 2) (by kernel_rfl) (by simp only [pickOps, ugT, ug0, ug1]; rfl) (by rfl) ?_
       intro K hK
       refine wp_append_sl _ (.tmp 48) (.tmp 51) 43 rfl wx.heap.size 49 i0 (.agg #[.int .i64 0, .int .i64 0]) 2 16 Tryz.underlying43 hi hz0 hz1 hz2 rfl (by decide) (.slice A3 k c3) k _ rfl OW.out (some ⟨b4, 0, none⟩) 1 1 _ rfl BI.out (flat_one _) (by unfold maxLen; omega) (by omega) S4.le ?_
       intro v5 w5 own5 hg5 hat5
       obtain ⟨A5, c5, rfl⟩ := own_form own5
       have S5 : Grew wx w5 := S4.grown hg5 (fun j hj => (OW.out.lt j hj).1)
       refine hK _ _ S5 ?_
       clear hK K
       try simp only [Act.put, uzT, uz0, uz1]
       have OW5 := Lib.hid own5
       clear own5 hg5 hat5 OW BI S4
       refine wpAnyH_step (i := 12) (by kernel_rfl) (fuel' := 1) (by kernel_rfl) (by simp only [pickOps, ugT, ug0, ug1]; rfl) (by rfl) ?_
       intro K hK
       refine wp_append_sl _ (.tmp 52) (.tmp 55) 43 rfl wx.heap.size 49 i0 (.agg #[.int .i64 0, .int .i64 0]) 2 16 Tryz.underlying43 hi hz0 hz1 hz2 rfl (by decide) (.slice A5 (k + 1) c5) (k + 1) _ rfl OW5.out (tailA (some ⟨g, 0, none⟩) c k 2) (n - k) (c - k) _ rfl (ST.out.grew S5) (flat_one _) (by unfold maxLen; omega) (by omega) S5.le ?_
       intro v7 w7 own7 hg7 hat7
       obtain ⟨A7, c7, rfl⟩ := own_form own7
       have S7 : Grew wx w7 := S5.grown hg7 (fun j hj => (OW5.out.lt j hj).1)
       refine hK _ _ S7 ?_
       clear hK K
       try simp only [Act.put, uzT, uz0, uz1]
       rw [← flat_append, ← flat_append] at own7
       have OW7 := Lib.hid own7
       clear own7 hg7 hat7 OW5 S5
       refine wpAnyH_takes (fun _ _ _ _ _ h => h) S7 [13] (fuel' := 0) (by kernel_rfl) (by kernel_rfl) (by simp only [pickOps, ugT, ug0, ug1]; rfl) ?_
       repeat (first
        | (refine TakeP.pure (v := ?_) (by rfl) ?_ ?_; rotate_left; (intro w' g'; go_simp; first | done | with_reducible rfl); (simp only [Act.put, uzT, uz0, uz1])))
       refine TakeP.nil ?_
       refine wpAnyH_done (by kernel_rfl) ?_ _
       go_wp2
       go_ret
       refine ⟨A7, _, c7, (l.take k ++ [(day, 1)]) ++ l.drop k, rfl, own_base OW7.out hbx, ?_, by omega, (Below.trans (Below.refl _ _) (Below.mono (gx.trans S7) hbw))⟩
       rw [List.length_append, List.length_append, List.length_take, List.length_drop, HL.out]; show min k n + 1 + (n - k) = _; omega
     ·intro K hK
      go_simp
      have S2 := (Grew.refl wx).alloc (.cells #[.int .i64 day, .int .i64 1] 49)
      refine hK _ _ S2 ?_
      clear hK K
      try simp only [Act.put, uzT, uz0, uz1]
      obtain ⟨w2, hw2⟩ : ∃ y, y = wx.alloc (.cells #[.int .i64 day, .int .i64 1] 49) := ⟨_, rfl⟩
      obtain ⟨b4, hb4⟩ : ∃ z, z = wx.heap.size := ⟨_, rfl⟩
      have BI : Hid (Sl w2 2 (some ⟨b4, 0, none⟩) 1 1 (flat [(day, 1)])) := by unfold Hid; rw [hw2, hb4]; exact builtS (w := wx) (t := 49) 2 1 #[.int .i64 day, .int .i64 1] (flat [(day, 1)]) rfl rfl (by decide)
      have LBb4 : b4 < w2.heap.size := by rw [hw2, hb4]; simp
      rw [← hw2] at S2 ⊢
      rw [← hb4]
      clear hw2 hb4
      refine wpAnyH_step (i := 0) (by kernel_rfl) (fuel' := 4) (by kernel_rfl) (by simp only [pickOps, ugT, ug0]; rfl) (by rfl) ?_
      intro K hK
      refine wp_value (v := .slice (some ⟨w2.heap.size, 0, none⟩) 0 0) (w' := w2.alloc (.cells #[] 49)) (by kernel_rfl) ?_
      have S4 := S2.alloc (.cells #[] 49)
      refine hK _ _ S4 ?_
      clear hK K
      try simp only [Act.put, uzT, uz0, uz1]
      obtain ⟨w4, hw4⟩ : ∃ y, y = w2.alloc (.cells #[] 49) := ⟨_, rfl⟩
      obtain ⟨b2, hb2⟩ : ∃ z, z = w2.heap.size := ⟨_, rfl⟩
      have OE : Hid (w4.ownsRow wx.heap.size 49 2 (.slice (some ⟨b2, 0, none⟩) 0 0) 0 []) := by unfold Hid; rw [hw4, hb2]; exact World.ownsRow_lit w2 #[] 0 S2.le (by decide) rfl
      have LBb2 : b2 < w4.heap.size := by rw [hw4, hb2]; simp
      rw [← hw4] at S4 ⊢
      rw [← hb2]
      replace BI := Lib.hid (BI.out.grew ((Grew.refl w2).alloc (.cells #[] 49)))
      rw [← hw4] at BI
      clear hw4
      refine wpAnyH_step (i := 4) (by kernel_rfl) (fuel' := 3) (by kernel_rfl) (by simp only [pickOps, ugT, ug0, ug1]; rfl) (by rfl) ?_
      intro K hK
      refine wp_append_sl _ (.tmp 44) (.tmp 47) 43 rfl wx.heap.size 49 i0 (.agg #[.int .i64 0, .int .i64 0]) 2 16 Tryz.underlying43 hi hz0 hz1 hz2 rfl (by decide) (.slice (some ⟨b2, 0, none⟩) 0 0) 0 _ rfl OE.out (some ⟨g, 0, none⟩) k c _ rfl (SH.out.grew S4) (flat_one _) (by unfold maxLen; omega) (by omega) S4.le ?_
      intro v3 w3 own3 hg3 hat3
      obtain ⟨A3, c3, rfl⟩ := own_form own3
      rw [Nat.zero_add, List.nil_append] at own3
      have S3 : Grew wx w3 := S4.grown hg3 (fun j hj => (OE.out.lt j hj).1)
      rw [Nat.zero_add]
      refine hK _ _ S3 ?_
      clear hK K
      try simp only [Act.put, uzT, uz0, uz1]
      have OW3 := Lib.hid own3
      replace BI := Lib.hid (KeepB.sl BI.out (KeepB.grown (G := fun k => k ≠ b2) hg3 (fun h => h rfl)) (fun b o h _ => by injection h with h; injection h with h; omega))
      clear own3 hat3 hg3 OE
      clear S4
      have S4 := S3
      have OW := OW3
      refine wpAnyH_step (i := 8) (by kernel_rfl) (fuel' := 2) (by kernel_rfl) (by simp only [pickOps, ugT, ug0, ug1]; rfl) (by rfl) ?_
      intro K hK
      refine wp_append_sl _ (.tmp 48) (.tmp 51) 43 rfl wx.heap.size 49 i0 (.agg #[.int .i64 0, .int .i64 0]) 2 16 Tryz.underlying43 hi hz0 hz1 hz2 rfl (by decide) (.slice A3 k c3) k _ rfl OW.out (some ⟨b4, 0, none⟩) 1 1 _ rfl BI.out (flat_one _) (by unfold maxLen; omega) (by omega) S4.le ?_
      intro v5 w5 own5 hg5 hat5
      obtain ⟨A5, c5, rfl⟩ := own_form own5
      have S5 : Grew wx w5 := S4.grown hg5 (fun j hj => (OW.out.lt j hj).1)
      refine hK _ _ S5 ?_
      clear hK K
      try simp only [Act.put, uzT, uz0, uz1]
      have OW5 := Lib.hid own5
      clear own5 hg5 hat5 OW BI S4
      refine wpAnyH_step (i := 12) (by kernel_rfl) (fuel' := 1) (by kernel_rfl) (by simp only [pickOps, ugT, ug0, ug1]; rfl) (by rfl) ?_
      intro K hK
      refine wp_append_sl _ (.tmp 52) (.tmp 55) 43 rfl wx.heap.size 49 i0 (.agg #[.int .i64 0, .int .i64 0]) 2 16 Tryz.underlying43 hi hz0 hz1 hz2 rfl (by decide) (.slice A5 (k + 1) c5) (k + 1) _ rfl OW5.out (tailA (some ⟨g, 0, none⟩) c k 2) (n - k) (c - k) _ rfl (ST.out.grew S5) (flat_one _) (by unfold maxLen; omega) (by omega) S5.le ?_
      intro v7 w7 own7 hg7 hat7
      obtain ⟨A7, c7, rfl⟩ := own_form own7
      have S7 : Grew wx w7 := S5.grown hg7 (fun j hj => (OW5.out.lt j hj).1)
      refine hK _ _ S7 ?_
      clear hK K
      try simp only [Act.put, uzT, uz0, uz1]
      rw [← flat_append, ← flat_append] at own7
      have OW7 := Lib.hid own7
      clear own7 hg7 hat7 OW5 S5
      refine wpAnyH_takes (fun _ _ _ _ _ h => h) S7 [13] (fuel' := 0) (by kernel_rfl) (by kernel_rfl) (by simp only [pickOps, ugT, ug0, ug1]; rfl) ?_
      repeat (first
       | (refine TakeP.pure (v := ?_) (by rfl) ?_ ?_; rotate_left; (intro w' g'; go_simp; first | done | with_reducible rfl); (simp only [Act.put, uzT, uz0, uz1])))
      refine TakeP.nil ?_
      refine wpAnyH_done (by kernel_rfl) ?_ _
      go_wp2
      go_ret
      refine ⟨A7, _, c7, (l.take k ++ [(day, 1)]) ++ l.drop k, rfl, own_base OW7.out hbx, ?_, by omega, (Below.trans (Below.refl _ _) (Below.mono (gx.trans S7) hbw))⟩
      rw [List.length_append, List.length_append, List.length_take, List.length_drop, HL.out]; show min k n + 1 + (n - k) = _; omega
  ·have qk0 : decide ((0 : Int) < (k : Int)) = false := decide_eq_false (by omega)
   have hkn' : k < n ∨ k = n := by omega
   rcases hkn' with hkn | hkn
   ·obtain ⟨gk, hAk, dk, mk, ck1, ck2⟩ := hcell.out k hkn
    have qkn : decide ((k : Int) < (n : Int)) = true := decide_eq_true (by omega)
    have f0 : (0 : Int) ≤ (k : Int) := by omega
    have f1 : (k : Int) < (n : Int) := by omega
    subst hAk
    by_cases hdk : dk = day
    ·have qdk : (dk == day) = true := by simpa using hdk
     have fz := OW0.out.frozenAt (k * 2 + 1)
     have hst := OW0.out.stored (k * 2 + 1) (.int .i64 (wrap64 (mk + 1)))
     have HST := Lib.hid hst.1
     clear hst
     have HDK := Lib.hid hdk
     clear hdk
     go_wp2
     go_ret
     refine ⟨_, n, c, l.set k (day, wrap64 (mk + 1)), rfl, ?_, by rw [List.length_set]; exact HL.out, by omega, Below.setCell (Below.refl _ _) (show base ≤ (⟨gk, k * 2 + 1, none⟩ : Addr).block from (OW0.out.lt gk rfl).1) _⟩
     rw [← HDK.out, flat_set (by rw [HL.out]; exact hkn) ck1 (OW0.out)]
     exact HST.out
    ·have qdk : (dk == day) = false := by simpa using hdk
     clear hdk
     go_upto_region 7 with (fail)
     clear ck1 ck2
     obtain ⟨wx, hwx⟩ : ∃ y, y = w.drew := ⟨_, rfl⟩
     have gx : Grew w wx := by rw [hwx]; exact (Grew.refl w).drew
     have hbx : base ≤ wx.heap.size := Nat.le_trans hb gx.le
     have hbw : base ≤ w.heap.size := hb
     have HSd := Lib.hid (HSL.out.grew gx)
     have SH : Hid (Sl wx 2 (some ⟨gk, 0, none⟩) k c (flat (l.take k))) := by unfold Hid; rw [← flat_take']; exact HSd.out.head hk (by omega) (Nat.le_refl _)
     have ST : Hid (Sl wx 2 (tailA (some ⟨gk, 0, none⟩) c k 2) (n - k) (c - k) (flat (l.drop k))) := by unfold Hid; rw [← flat_drop']; exact HSd.out.tail hk
     have r1 : ∀ x, (Instr.slice 43 (.slice (some ⟨gk, 0, none⟩) n c) none (some (.int .i64 (k : Int))) none).run Tryz.prog x = .ok (.slice (some ⟨gk, 0, none⟩) k c) x := fun x => run_slice_head x 43 2 elem43 (size49 x) (some ⟨gk, 0, none⟩) n c k _ (by omega)
     have r2 : ∀ x, (Instr.slice 43 (.slice (some ⟨gk, 0, none⟩) n c) (some (.int .i64 (k : Int))) none none).run Tryz.prog x = .ok (.slice (tailA (some ⟨gk, 0, none⟩) c k 2) (n - k) (c - k)) x := fun x => run_slice_tail x 43 2 elem43 (size49 x) (some ⟨gk, 0, none⟩) n c k _ hk
     have hE : ∀ x, (Instr.buildSlice 43 0 #[]).run Tryz.prog x = .ok (.slice (some ⟨x.heap.size, 0, none⟩) 0 0) (x.alloc (.cells #[] 49)) := fun x => empty43 x
     refine wp_region_H (by kernel_rfl) (fun w' => Grew wx w') ?_
     rw [← hwx]
     clear hwx
     refine wpAnyH_takes (fun _ _ _ _ _ h => h) (Grew.refl _) [1, 2, 3, 5, 6, 9, 10, 11] (fuel' := 6) (by kernel_rfl) (by kernel_rfl) (by simp only [pickOps, ugT, ug0, ug1]; rfl) ?_
     repeat (first
      | (refine TakeP.pure (v := ?_) (by rfl) ?_ ?_; rotate_left; (intro w' g'; go_simp; first | done | with_reducible rfl); (simp only [Act.put, uzT, uz0, uz1])))
     refine TakeP.nil ?_
     refine wpAnyH_two (i := 0) (j := 7) (by kernel_rfl) (fuel' := 5) (by kernel_rfl) (by simp only [pickOps, ugT, ug0]; rfl) rfl (by simp only [pickOps, ugT, ug0, ug1]; rfl) rfl ?_ ?_
     ·intro K hK
      refine wp_value (v := .slice (some ⟨wx.heap.size, 0, none⟩) 0 0) (w' := wx.alloc (.cells #[] 49)) (by kernel_rfl) ?_
      have S2 := (Grew.refl wx).alloc (.cells #[] 49)
      refine hK _ _ S2 ?_
      clear hK K
      try simp only [Act.put, uzT, uz0, uz1]
      obtain ⟨w2, hw2⟩ : ∃ y, y = wx.alloc (.cells #[] 49) := ⟨_, rfl⟩
      obtain ⟨b2, hb2⟩ : ∃ z, z = wx.heap.size := ⟨_, rfl⟩
      have OE : Hid (w2.ownsRow wx.heap.size 49 2 (.slice (some ⟨b2, 0, none⟩) 0 0) 0 []) := by unfold Hid; rw [hw2, hb2]; exact World.ownsRow_lit wx #[] 0 (Grew.refl wx).le (by decide) rfl
      have LBb2 : b2 < w2.heap.size := by rw [hw2, hb2]; simp
      rw [← hw2] at S2 ⊢
      rw [← hb2]
      clear hw2 hb2
      refine wpAnyH_two (i := 4) (j := 7) (by kernel_rfl) (fuel' := 4) (by kernel_rfl) (by simp only [pickOps, ugT, ug0, ug1]; rfl) rfl (by simp only [pickOps, ugT, ug0, ug1]; rfl) rfl ?_ ?_
      ·intro K hK
       refine wp_append_sl _ (.tmp 44) (.tmp 47) 43 rfl wx.heap.size 49 i0 (.agg #[.int .i64 0, .int .i64 0]) 2 16 Tryz.underlying43 hi hz0 hz1 hz2 rfl (by decide) (.slice (some ⟨b2, 0, none⟩) 0 0) 0 _ rfl OE.out (some ⟨gk, 0, none⟩) k c _ rfl (SH.out.grew S2) (flat_one _) (by unfold maxLen; omega) (by omega) S2.le ?_
       intro v3 w3 own3 hg3 hat3
       obtain ⟨A3, c3, rfl⟩ := own_form own3
       rw [Nat.zero_add, List.nil_append] at own3
       have S3 : Grew wx w3 := S2.grown hg3 (fun j hj => (OE.out.lt j hj).1)
       rw [Nat.zero_add]
       refine hK _ _ S3 ?_
       clear hK K
       try simp only [Act.put, uzT, uz0, uz1]
       have OW3 := Lib.hid own3
       clear own3 hat3 hg3 OE
       refine wpAnyH_step (i := 7) (by kernel_rfl) (fuel' := 3) (by kernel_rfl) (by simp only [pickOps, ugT, ug0, ug1]; rfl) (by rfl) ?_
       intro K hK
       go_simp
       have S4 := S3.alloc (.cells #[.int .i64 day, .int .i64 1] 49)
       refine hK _ _ S4 ?_
       clear hK K
       try simp only [Act.put, uzT, uz0, uz1]
       obtain ⟨w4, hw4⟩ : ∃ y, y = w3.alloc (.cells #[.int .i64 day, .int .i64 1] 49) := ⟨_, rfl⟩
       obtain ⟨b4, hb4⟩ : ∃ z, z = w3.heap.size := ⟨_, rfl⟩
       have BI : Hid (Sl w4 2 (some ⟨b4, 0, none⟩) 1 1 (flat [(day, 1)])) := by unfold Hid; rw [hw4, hb4]; exact builtS (w := w3) (t := 49) 2 1 #[.int .i64 day, .int .i64 1] (flat [(day, 1)]) rfl rfl (by decide)
       have LBb4 : b4 < w4.heap.size := by rw [hw4, hb4]; simp
       rw [← hw4] at S4 ⊢
       rw [← hb4]
       have OW := Lib.hid (OW3.out.alloc (.cells #[.int .i64 day, .int .i64 1] 49))
       rw [← hw4] at OW
       clear hw4 hb4 OW3
       refine wpAnyH_step (i := 8) (by kernel_rfl) (fuel' := 2) (by kernel_rfl) (by simp only [pickOps, ugT, ug0, ug1]; rfl) (by rfl) ?_
       intro K hK
       refine wp_append_sl _ (.tmp 48) (.tmp 51) 43 rfl wx.heap.size 49 i0 (.agg #[.int .i64 0, .int .i64 0]) 2 16 Tryz.underlying43 hi hz0 hz1 hz2 rfl (by decide) (.slice A3 k c3) k _ rfl OW.out (some ⟨b4, 0, none⟩) 1 1 _ rfl BI.out (flat_one _) (by unfold maxLen; omega) (by omega) S4.le ?_
       intro v5 w5 own5 hg5 hat5
       obtain ⟨A5, c5, rfl⟩ := own_form own5
       have S5 : Grew wx w5 := S4.grown hg5 (fun j hj => (OW.out.lt j hj).1)
       refine hK _ _ S5 ?_
       clear hK K
       try simp only [Act.put, uzT, uz0, uz1]
       have OW5 := Lib.hid own5
       clear own5 hg5 hat5 OW BI S4
       refine wpAnyH_step (i := 12) (by kernel_rfl) (fuel' := 1) (by kernel_rfl) (by simp only [pickOps, ugT, ug0, ug1]; rfl) (by rfl) ?_
       intro K hK
       refine wp_append_sl _ (.tmp 52) (.tmp 55) 43 rfl wx.heap.size 49 i0 (.agg #[.int .i64 0, .int .i64 0]) 2 16 Tryz.underlying43 hi hz0 hz1 hz2 rfl (by decide) (.slice A5 (k + 1) c5) (k + 1) _ rfl OW5.out (tailA (some ⟨gk, 0, none⟩) c k 2) (n - k) (c - k) _ rfl (ST.out.grew S5) (flat_one _) (by unfold maxLen; omega) (by omega) S5.le ?_
       intro v7 w7 own7 hg7 hat7
       obtain ⟨A7, c7, rfl⟩ := own_form own7
       have S7 : Grew wx w7 := S5.grown hg7 (fun j hj => (OW5.out.lt j hj).1)
       refine hK _ _ S7 ?_
       clear hK K
       try simp only [Act.put, uzT, uz0, uz1]
       rw [← flat_append, ← flat_append] at own7
       have OW7 := Lib.hid own7
       clear own7 hg7 hat7 OW5 S5
       refine wpAnyH_takes (fun _ _ _ _ _ h => h) S7 [13] (fuel' := 0) (by kernel_rfl) (by kernel_rfl) (by simp only [pickOps, ugT, ug0, ug1]; rfl) ?_
       repeat (first
        | (refine TakeP.pure (v := ?_) (by rfl) ?_ ?_; rotate_left; (intro w' g'; go_simp; first | done | with_reducible rfl); (simp only [Act.put, uzT, uz0, uz1])))
       refine TakeP.nil ?_
       refine wpAnyH_done (by kernel_rfl) ?_ _
       go_wp2
       go_ret
       refine ⟨A7, _, c7, (l.take k ++ [(day, 1)]) ++ l.drop k, rfl, own_base OW7.out hbx, ?_, by omega, (Below.trans (Below.refl _ _) (Below.mono (gx.trans S7) hbw))⟩
       rw [List.length_append, List.length_append, List.length_take, List.length_drop, HL.out]; show min k n + 1 + (n - k) = _; omega
      ·intro K hK
       go_simp
       have S4 := S2.alloc (.cells #[.int .i64 day, .int .i64 1] 49)
       refine hK _ _ S4 ?_
       clear hK K
       try simp only [Act.put, uzT, uz0, uz1]
       obtain ⟨w4, hw4⟩ : ∃ y, y = w2.alloc (.cells #[.int .i64 day, .int .i64 1] 49) := ⟨_, rfl⟩
       obtain ⟨b4, hb4⟩ : ∃ z, z = w2.heap.size := ⟨_, rfl⟩
       have BI : Hid (Sl w4 2 (some ⟨b4, 0, none⟩) 1 1 (flat [(day, 1)])) := by unfold Hid; rw [hw4, hb4]; exact builtS (w := w2) (t := 49) 2 1 #[.int .i64 day, .int .i64 1] (flat [(day, 1)]) rfl rfl (by decide)
       have LBb4 : b4 < w4.heap.size := by rw [hw4, hb4]; simp
       rw [← hw4] at S4 ⊢
       rw [← hb4]
       replace OE := Lib.hid (OE.out.alloc (.cells #[.int .i64 day, .int .i64 1] 49))
       rw [← hw4] at OE
       clear hw4
       refine wpAnyH_step (i := 4) (by kernel_rfl) (fuel' := 3) (by kernel_rfl) (by simp only [pickOps, ugT, ug0, ug1]; rfl) (by rfl) ?_
       intro K hK
       refine wp_append_sl _ (.tmp 44) (.tmp 47) 43 rfl wx.heap.size 49 i0 (.agg #[.int .i64 0, .int .i64 0]) 2 16 Tryz.underlying43 hi hz0 hz1 hz2 rfl (by decide) (.slice (some ⟨b2, 0, none⟩) 0 0) 0 _ rfl OE.out (some ⟨gk, 0, none⟩) k c _ rfl (SH.out.grew S4) (flat_one _) (by unfold maxLen; omega) (by omega) S4.le ?_
       intro v3 w3 own3 hg3 hat3
       obtain ⟨A3, c3, rfl⟩ := own_form own3
       rw [Nat.zero_add, List.nil_append] at own3
       have S3 : Grew wx w3 := S4.grown hg3 (fun j hj => (OE.out.lt j hj).1)
       rw [Nat.zero_add]
       refine hK _ _ S3 ?_
       clear hK K
       try simp only [Act.put, uzT, uz0, uz1]
       have OW3 := Lib.hid own3
       replace BI := Lib.hid (KeepB.sl BI.out (KeepB.grown (G := fun k => k ≠ b2) hg3 (fun h => h rfl)) (fun b o h _ => by injection h with h; injection h with h; omega))
       clear own3 hat3 hg3 OE
       clear S4
       have S4 := S3
       have OW := OW3
       refine wpAnyH_step (i := 8) (by kernel_rfl) (fuel' := 2) (by kernel_rfl) (by simp only [pickOps, ugT, ug0, ug1]; rfl) (by rfl) ?_
       intro K hK
       refine wp_append_sl _ (.tmp 48) (.tmp 51) 43 rfl wx.heap.size 49 i0 (.agg #[.int .i64 0, .int .i64 0]) 2 16 Tryz.underlying43 hi hz0 hz1 hz2 rfl (by decide) (.slice A3 k c3) k _ rfl OW.out (some ⟨b4, 0, none⟩) 1 1 _ rfl BI.out (flat_one _) (by unfold maxLen; omega) (by omega) S4.le ?_
       intro v5 w5 own5 hg5 hat5
       obtain ⟨A5, c5, rfl⟩ := own_form own5
       have S5 : Grew wx w5 := S4.grown hg5 (fun j hj => (OW.out.lt j hj).1)
       refine hK _ _ S5 ?_
       clear hK K
       try simp only [Act.put, uzT, uz0, uz1]
       have OW5 := Lib.hid own5
       clear own5 hg5 hat5 OW BI S4
       refine wpAnyH_step (i := 12) (by kernel_rfl) (fuel' := 1) (by kernel_rfl) (by simp only [pickOps, ugT, ug0, ug1]; rfl) (by rfl) ?_
       intro K hK
       refine wp_append_sl _ (.tmp 52) (.tmp 55) 43 rfl wx.heap.size 49 i0 (.agg #[.int .i64 0, .int .i64 0]) 2 16 Tryz.underlying43 hi hz0 hz1 hz2 rfl (by decide) (.slice A5 (k + 1) c5) (k + 1) _ rfl OW5.out (tailA (some ⟨gk, 0, none⟩) c k 2) (n - k) (c - k) _ rfl (ST.out.grew S5) (flat_one _) (by unfold maxLen; omega) (by omega) S5.le ?_
       intro v7 w7 own7 hg7 hat7
       obtain ⟨A7, c7, rfl⟩ := own_form own7
       have S7 : Grew wx w7 := S5.grown hg7 (fun j hj => (OW5.out.lt j hj).1)
       refine hK _ _ S7 ?_
       clear hK K
       try simp only [Act.put, uzT, uz0, uz1]
       rw [← flat_append, ← flat_append] at own7
       have OW7 := Lib.hid own7
       clear own7 hg7 hat7 OW5 S5
       refine wpAnyH_takes (fun _ _ _ _ _ h => h) S7 [13] (fuel' := 0) (by kernel_rfl) (by kernel_rfl) (by simp only [pickOps, ugT, ug0, ug1]; rfl) ?_
       repeat (first
        | (refine TakeP.pure (v := ?_) (by rfl) ?_ ?_; rotate_left; (intro w' g'; go_simp; first | done | with_reducible rfl); (simp only [Act.put, uzT, uz0, uz1])))
       refine TakeP.nil ?_
       refine wpAnyH_done (by kernel_rfl) ?_ _
       go_wp2
       go_ret
       refine ⟨A7, _, c7, (l.take k ++ [(day, 1)]) ++ l.drop k, rfl, own_base OW7.out hbx, ?_, by omega, (Below.trans (Below.refl _ _) (Below.mono (gx.trans S7) hbw))⟩
       rw [List.length_append, List.length_append, List.length_take, List.length_drop, HL.out]; show min k n + 1 + (n - k) = _; omega
     ·intro K hK
      go_simp
      have S2 := (Grew.refl wx).alloc (.cells #[.int .i64 day, .int .i64 1] 49)
      refine hK _ _ S2 ?_
      clear hK K
      try simp only [Act.put, uzT, uz0, uz1]
      obtain ⟨w2, hw2⟩ : ∃ y, y = wx.alloc (.cells #[.int .i64 day, .int .i64 1] 49) := ⟨_, rfl⟩
      obtain ⟨b4, hb4⟩ : ∃ z, z = wx.heap.size := ⟨_, rfl⟩
      have BI : Hid (Sl w2 2 (some ⟨b4, 0, none⟩) 1 1 (flat [(day, 1)])) := by unfold Hid; rw [hw2, hb4]; exact builtS (w := wx) (t := 49) 2 1 #[.int .i64 day, .int .i64 1] (flat [(day, 1)]) rfl rfl (by decide)
      have LBb4 : b4 < w2.heap.size := by rw [hw2, hb4]; simp
      rw [← hw2] at S2 ⊢
      rw [← hb4]
      clear hw2 hb4
      refine wpAnyH_step (i := 0) (by kernel_rfl) (fuel' := 4) (by kernel_rfl) (by simp only [pickOps, ugT, ug0]; rfl) (by rfl) ?_
      intro K hK
      refine wp_value (v := .slice (some ⟨w2.heap.size, 0, none⟩) 0 0) (w' := w2.alloc (.cells #[] 49)) (by kernel_rfl) ?_
      have S4 := S2.alloc (.cells #[] 49)
      refine hK _ _ S4 ?_
      clear hK K
      try simp only [Act.put, uzT, uz0, uz1]
      obtain ⟨w4, hw4⟩ : ∃ y, y = w2.alloc (.cells #[] 49) := ⟨_, rfl⟩
      obtain ⟨b2, hb2⟩ : ∃ z, z = w2.heap.size := ⟨_, rfl⟩
      have OE : Hid (w4.ownsRow wx.heap.size 49 2 (.slice (some ⟨b2, 0, none⟩) 0 0) 0 []) := by unfold Hid; rw [hw4, hb2]; exact World.ownsRow_lit w2 #[] 0 S2.le (by decide) rfl
      have LBb2 : b2 < w4.heap.size := by rw [hw4, hb2]; simp
      rw [← hw4] at S4 ⊢
      rw [← hb2]
      replace BI := Lib.hid (BI.out.grew ((Grew.refl w2).alloc (.cells #[] 49)))
      rw [← hw4] at BI
      clear hw4
      refine wpAnyH_step (i := 4) (by kernel_rfl) (fuel' := 3) (by kernel_rfl) (by simp only [pickOps, ugT, ug0, ug1]; rfl) (by rfl) ?_
      intro K hK
      refine wp_append_sl _ (.tmp 44) (.tmp 47) 43 rfl wx.heap.size 49 i0 (.agg #[.int .i64 0, .int .i64 0]) 2 16 Tryz.underlying43 hi hz0 hz1 hz2 rfl (by decide) (.slice (some ⟨b2, 0, none⟩) 0 0) 0 _ rfl OE.out (some ⟨gk, 0, none⟩) k c _ rfl (SH.out.grew S4) (flat_one _) (by unfold maxLen; omega) (by omega) S4.le ?_
      intro v3 w3 own3 hg3 hat3
      obtain ⟨A3, c3, rfl⟩ := own_form own3
      rw [Nat.zero_add, List.nil_append] at own3
      have S3 : Grew wx w3 := S4.grown hg3 (fun j hj => (OE.out.lt j hj).1)
      rw [Nat.zero_add]
      refine hK _ _ S3 ?_
      clear hK K
      try simp only [Act.put, uzT, uz0, uz1]
      have OW3 := Lib.hid own3
      replace BI := Lib.hid (KeepB.sl BI.out (KeepB.grown (G := fun k => k ≠ b2) hg3 (fun h => h rfl)) (fun b o h _ => by injection h with h; injection h with h; omega))
      clear own3 hat3 hg3 OE
      clear S4
      have S4 := S3
      have OW := OW3
      refine wpAnyH_step (i := 8) (by kernel_rfl) (fuel' := 2) (by kernel_rfl) (by simp only [pickOps, ugT, ug0, ug1]; rfl) (by rfl) ?_
      intro K hK
      refine wp_append_sl _ (.tmp 48) (.tmp 51) 43 rfl wx.heap.size 49 i0 (.agg #[.int .i64 0, .int .i64 0]) 2 16 Tryz.underlying43 hi hz0 hz1 hz2 rfl (by decide) (.slice A3 k c3) k _ rfl OW.out (some ⟨b4, 0, none⟩) 1 1 _ rfl BI.out (flat_one _) (by unfold maxLen; omega) (by omega) S4.le ?_
      intro v5 w5 own5 hg5 hat5
      obtain ⟨A5, c5, rfl⟩ := own_form own5
      have S5 : Grew wx w5 := S4.grown hg5 (fun j hj => (OW.out.lt j hj).1)
      refine hK _ _ S5 ?_
      clear hK K
      try simp only [Act.put, uzT, uz0, uz1]
      have OW5 := Lib.hid own5
      clear own5 hg5 hat5 OW BI S4
      refine wpAnyH_step (i := 12) (by kernel_rfl) (fuel' := 1) (by kernel_rfl) (by simp only [pickOps, ugT, ug0, ug1]; rfl) (by rfl) ?_
      intro K hK
      refine wp_append_sl _ (.tmp 52) (.tmp 55) 43 rfl wx.heap.size 49 i0 (.agg #[.int .i64 0, .int .i64 0]) 2 16 Tryz.underlying43 hi hz0 hz1 hz2 rfl (by decide) (.slice A5 (k + 1) c5) (k + 1) _ rfl OW5.out (tailA (some ⟨gk, 0, none⟩) c k 2) (n - k) (c - k) _ rfl (ST.out.grew S5) (flat_one _) (by unfold maxLen; omega) (by omega) S5.le ?_
      intro v7 w7 own7 hg7 hat7
      obtain ⟨A7, c7, rfl⟩ := own_form own7
      have S7 : Grew wx w7 := S5.grown hg7 (fun j hj => (OW5.out.lt j hj).1)
      refine hK _ _ S7 ?_
      clear hK K
      try simp only [Act.put, uzT, uz0, uz1]
      rw [← flat_append, ← flat_append] at own7
      have OW7 := Lib.hid own7
      clear own7 hg7 hat7 OW5 S5
      refine wpAnyH_takes (fun _ _ _ _ _ h => h) S7 [13] (fuel' := 0) (by kernel_rfl) (by kernel_rfl) (by simp only [pickOps, ugT, ug0, ug1]; rfl) ?_
      repeat (first
       | (refine TakeP.pure (v := ?_) (by rfl) ?_ ?_; rotate_left; (intro w' g'; go_simp; first | done | with_reducible rfl); (simp only [Act.put, uzT, uz0, uz1])))
      refine TakeP.nil ?_
      refine wpAnyH_done (by kernel_rfl) ?_ _
      go_wp2
      go_ret
      refine ⟨A7, _, c7, (l.take k ++ [(day, 1)]) ++ l.drop k, rfl, own_base OW7.out hbx, ?_, by omega, (Below.trans (Below.refl _ _) (Below.mono (gx.trans S7) hbw))⟩
      rw [List.length_append, List.length_append, List.length_take, List.length_drop, HL.out]; show min k n + 1 + (n - k) = _; omega
   ·have qkn : decide ((k : Int) < (n : Int)) = false := decide_eq_false (by omega)
    have qkn2 : ¬ (k < n) := by omega
    have qkn3 : ¬ ((k : Int) < (n : Int)) := by omega
    clear hkn
    go_upto_region 7 with (fail)
    obtain ⟨wx, hwx⟩ : ∃ y, y = w.drew := ⟨_, rfl⟩
    have gx : Grew w wx := by rw [hwx]; exact (Grew.refl w).drew
    have hbx : base ≤ wx.heap.size := Nat.le_trans hb gx.le
    have hbw : base ≤ w.heap.size := hb
    have HSd := Lib.hid (HSL.out.grew gx)
    have SH : Hid (Sl wx 2 A k c (flat (l.take k))) := by unfold Hid; rw [← flat_take']; exact HSd.out.head hk (by omega) (Nat.le_refl _)
    have ST : Hid (Sl wx 2 (tailA A c k 2) (n - k) (c - k) (flat (l.drop k))) := by unfold Hid; rw [← flat_drop']; exact HSd.out.tail hk
    have r1 : ∀ x, (Instr.slice 43 (.slice A n c) none (some (.int .i64 (k : Int))) none).run Tryz.prog x = .ok (.slice A k c) x := fun x => run_slice_head x 43 2 elem43 (size49 x) A n c k _ (by omega)
    have r2 : ∀ x, (Instr.slice 43 (.slice A n c) (some (.int .i64 (k : Int))) none none).run Tryz.prog x = .ok (.slice (tailA A c k 2) (n - k) (c - k)) x := fun x => run_slice_tail x 43 2 elem43 (size49 x) A n c k _ hk
    have hE : ∀ x, (Instr.buildSlice 43 0 #[]).run Tryz.prog x = .ok (.slice (some ⟨x.heap.size, 0, none⟩) 0 0) (x.alloc (.cells #[] 49)) := fun x => empty43 x
    refine wp_region_H (by kernel_rfl) (fun w' => Grew wx w') ?_
    rw [← hwx]
    clear hwx
    refine wpAnyH_takes (fun _ _ _ _ _ h => h) (Grew.refl _) [1, 2, 3, 5, 6, 9, 10, 11] (fuel' := 6) (by kernel_rfl) (by kernel_rfl) (by simp only [pickOps, ugT, ug0, ug1]; rfl) ?_
    repeat (first
     | (refine TakeP.pure (v := ?_) (by rfl) ?_ ?_; rotate_left; (intro w' g'; go_simp; first | done | with_reducible rfl); (simp only [Act.put, uzT, uz0, uz1])))
    refine TakeP.nil ?_
    refine wpAnyH_two (i := 0) (j := 7) (by kernel_rfl) (fuel' := 5) (by kernel_rfl) (by simp only [pickOps, ugT, ug0]; rfl) rfl (by simp only [pickOps, ugT, ug0, ug1]; rfl) rfl ?_ ?_
    ·intro K hK
     refine wp_value (v := .slice (some ⟨wx.heap.size, 0, none⟩) 0 0) (w' := wx.alloc (.cells #[] 49)) (by kernel_rfl) ?_
     have S2 := (Grew.refl wx).alloc (.cells #[] 49)
     refine hK _ _ S2 ?_
     clear hK K
     try simp only [Act.put, uzT, uz0, uz1]
     obtain ⟨w2, hw2⟩ : ∃ y, y = wx.alloc (.cells #[] 49) := ⟨_, rfl⟩
     obtain ⟨b2, hb2⟩ : ∃ z, z = wx.heap.size := ⟨_, rfl⟩
     have OE : Hid (w2.ownsRow wx.heap.size 49 2 (.slice (some ⟨b2, 0, none⟩) 0 0) 0 []) := by unfold Hid; rw [hw2, hb2]; exact World.ownsRow_lit wx #[] 0 (Grew.refl wx).le (by decide) rfl
     have LBb2 : b2 < w2.heap.size := by rw [hw2, hb2]; simp
     rw [← hw2] at S2 ⊢
     rw [← hb2]
     clear hw2 hb2
     refine wpAnyH_two (i := 4) (j := 7) (by kernel_rfl) (fuel' := 4) (by kernel_rfl) (by simp only [pickOps, ugT, ug0, ug1]; rfl) rfl (by simp only [pickOps, ugT, ug0, ug1]; rfl) rfl ?_ ?_
     ·intro K hK
      refine wp_append_sl _ (.tmp 44) (.tmp 47) 43 rfl wx.heap.size 49 i0 (.agg #[.int .i64 0, .int .i64 0]) 2 16 Tryz.underlying43 hi hz0 hz1 hz2 rfl (by decide) (.slice (some ⟨b2, 0, none⟩) 0 0) 0 _ rfl OE.out A k c _ rfl (SH.out.grew S2) (flat_one _) (by unfold maxLen; omega) (by omega) S2.le ?_
      intro v3 w3 own3 hg3 hat3
      obtain ⟨A3, c3, rfl⟩ := own_form own3
      rw [Nat.zero_add, List.nil_append] at own3
      have S3 : Grew wx w3 := S2.grown hg3 (fun j hj => (OE.out.lt j hj).1)
      rw [Nat.zero_add]
      refine hK _ _ S3 ?_
      clear hK K
      try simp only [Act.put, uzT, uz0, uz1]
      have OW3 := Lib.hid own3
      clear own3 hat3 hg3 OE
      refine wpAnyH_step (i := 7) (by kernel_rfl) (fuel' := 3) (by kernel_rfl) (by simp only [pickOps, ugT, ug0, ug1]; rfl) (by rfl) ?_
      intro K hK
      go_simp
      have S4 := S3.alloc (.cells #[.int .i64 day, .int .i64 1] 49)
      refine hK _ _ S4 ?_
      clear hK K
      try simp only [Act.put, uzT, uz0, uz1]
      obtain ⟨w4, hw4⟩ : ∃ y, y = w3.alloc (.cells #[.int .i64 day, .int .i64 1] 49) := ⟨_, rfl⟩
      obtain ⟨b4, hb4⟩ : ∃ z, z = w3.heap.size := ⟨_, rfl⟩
      have BI : Hid (Sl w4 2 (some ⟨b4, 0, none⟩) 1 1 (flat [(day, 1)])) := by unfold Hid; rw [hw4, hb4]; exact builtS (w := w3) (t := 49) 2 1 #[.int .i64 day, .int .i64 1] (flat [(day, 1)]) rfl rfl (by decide)
      have LBb4 : b4 < w4.heap.size := by rw [hw4, hb4]; simp
      rw [← hw4] at S4 ⊢
      rw [← hb4]
      have OW := Lib.hid (OW3.out.alloc (.cells #[.int .i64 day, .int .i64 1] 49))
      rw [← hw4] at OW
      clear hw4 hb4 OW3
      refine wpAnyH_step (i := 8) (by kernel_rfl) (fuel' := 2) (by kernel_rfl) (by simp only [pickOps, ugT, ug0, ug1]; rfl) (by rfl) ?_
      intro K hK
      refine wp_append_sl _ (.tmp 48) (.tmp 51) 43 rfl wx.heap.size 49 i0 (.agg #[.int .i64 0, .int .i64 0]) 2 16 Tryz.underlying43 hi hz0 hz1 hz2 rfl (by decide) (.slice A3 k c3) k _ rfl OW.out (some ⟨b4, 0, none⟩) 1 1 _ rfl BI.out (flat_one _) (by unfold maxLen; omega) (by omega) S4.le ?_
      intro v5 w5 own5 hg5 hat5
      obtain ⟨A5, c5, rfl⟩ := own_form own5
      have S5 : Grew wx w5 := S4.grown hg5 (fun j hj => (OW.out.lt j hj).1)
      refine hK _ _ S5 ?_
      clear hK K
      try simp only [Act.put, uzT, uz0, uz1]
      have OW5 := Lib.hid own5
      clear own5 hg5 hat5 OW BI S4
      refine wpAnyH_step (i := 12) (by kernel_rfl) (fuel' := 1) (by kernel_rfl) (by simp only [pickOps, ugT, ug0, ug1]; rfl) (by rfl) ?_
      intro K hK
      refine wp_append_sl _ (.tmp 52) (.tmp 55) 43 rfl wx.heap.size 49 i0 (.agg #[.int .i64 0, .int .i64 0]) 2 16 Tryz.underlying43 hi hz0 hz1 hz2 rfl (by decide) (.slice A5 (k + 1) c5) (k + 1) _ rfl OW5.out (tailA A c k 2) (n - k) (c - k) _ rfl (ST.out.grew S5) (flat_one _) (by unfold maxLen; omega) (by omega) S5.le ?_
      intro v7 w7 own7 hg7 hat7
      obtain ⟨A7, c7, rfl⟩ := own_form own7
      have S7 : Grew wx w7 := S5.grown hg7 (fun j hj => (OW5.out.lt j hj).1)
      refine hK _ _ S7 ?_
      clear hK K
      try simp only [Act.put, uzT, uz0, uz1]
      rw [← flat_append, ← flat_append] at own7
      have OW7 := Lib.hid own7
      clear own7 hg7 hat7 OW5 S5
      refine wpAnyH_takes (fun _ _ _ _ _ h => h) S7 [13] (fuel' := 0) (by kernel_rfl) (by kernel_rfl) (by simp only [pickOps, ugT, ug0, ug1]; rfl) ?_
      repeat (first
       | (refine TakeP.pure (v := ?_) (by rfl) ?_ ?_; rotate_left; (intro w' g'; go_simp; first | done | with_reducible rfl); (simp only [Act.put, uzT, uz0, uz1])))
      refine TakeP.nil ?_
      refine wpAnyH_done (by kernel_rfl) ?_ _
      go_wp2
      go_ret
      refine ⟨A7, _, c7, (l.take k ++ [(day, 1)]) ++ l.drop k, rfl, own_base OW7.out hbx, ?_, by omega, (Below.trans (Below.refl _ _) (Below.mono (gx.trans S7) hbw))⟩
      rw [List.length_append, List.length_append, List.length_take, List.length_drop, HL.out]; show min k n + 1 + (n - k) = _; omega
     ·intro K hK
      go_simp
      have S4 := S2.alloc (.cells #[.int .i64 day, .int .i64 1] 49)
      refine hK _ _ S4 ?_
      clear hK K
      try simp only [Act.put, uzT, uz0, uz1]
      obtain ⟨w4, hw4⟩ : ∃ y, y = w2.alloc (.cells #[.int .i64 day, .int .i64 1] 49) := ⟨_, rfl⟩
      obtain ⟨b4, hb4⟩ : ∃ z, z = w2.heap.size := ⟨_, rfl⟩
      have BI : Hid (Sl w4 2 (some ⟨b4, 0, none⟩) 1 1 (flat [(day, 1)])) := by unfold Hid; rw [hw4, hb4]; exact builtS (w := w2) (t := 49) 2 1 #[.int .i64 day, .int .i64 1] (flat [(day, 1)]) rfl rfl (by decide)
      have LBb4 : b4 < w4.heap.size := by rw [hw4, hb4]; simp
      rw [← hw4] at S4 ⊢
      rw [← hb4]
      replace OE := Lib.hid (OE.out.alloc (.cells #[.int .i64 day, .int .i64 1] 49))
      rw [← hw4] at OE
      clear hw4
      refine wpAnyH_step (i := 4) (by kernel_rfl) (fuel' := 3) (by kernel_rfl) (by simp only [pickOps, ugT, ug0, ug1]; rfl) (by rfl) ?_
      intro K hK
      refine wp_append_sl _ (.tmp 44) (.tmp 47) 43 rfl wx.heap.size 49 i0 (.agg #[.int .i64 0, .int .i64 0]) 2 16 Tryz.underlying43 hi hz0 hz1 hz2 rfl (by decide) (.slice (some ⟨b2, 0, none⟩) 0 0) 0 _ rfl OE.out A k c _ rfl (SH.out.grew S4) (flat_one _) (by unfold maxLen; omega) (by omega) S4.le ?_
      intro v3 w3 own3 hg3 hat3
      obtain ⟨A3, c3, rfl⟩ := own_form own3
      rw [Nat.zero_add, List.nil_append] at own3
      have S3 : Grew wx w3 := S4.grown hg3 (fun j hj => (OE.out.lt j hj).1)
      rw [Nat.zero_add]
      refine hK _ _ S3 ?_
      clear hK K
      try simp only [Act.put, uzT, uz0, uz1]
      have OW3 := Lib.hid own3
      replace BI := Lib.hid (KeepB.sl BI.out (KeepB.grown (G := fun k => k ≠ b2) hg3 (fun h => h rfl)) (fun b o h _ => by injection h with h; injection h with h; omega))
      clear own3 hat3 hg3 OE
      clear S4
      have S4 := S3
      have OW := OW3
      refine wpAnyH_step (i := 8) (by kernel_rfl) (fuel' := 2) (by kernel_rfl) (by simp only [pickOps, ugT, ug0, ug1]; rfl) (by rfl) ?_
      intro K hK
      refine wp_append_sl _ (.tmp 48) (.tmp 51) 43 rfl wx.heap.size 49 i0 (.agg #[.int .i64 0, .int .i64 0]) 2 16 Tryz.underlying43 hi hz0 hz1 hz2 rfl (by decide) (.slice A3 k c3) k _ rfl OW.out (some ⟨b4, 0, none⟩) 1 1 _ rfl BI.out (flat_one _) (by unfold maxLen; omega) (by omega) S4.le ?_
      intro v5 w5 own5 hg5 hat5
      obtain ⟨A5, c5, rfl⟩ := own_form own5
      have S5 : Grew wx w5 := S4.grown hg5 (fun j hj => (OW.out.lt j hj).1)
      refine hK _ _ S5 ?_
      clear hK K
      try simp only [Act.put, uzT, uz0, uz1]
      have OW5 := Lib.hid own5
      clear own5 hg5 hat5 OW BI S4
      refine wpAnyH_step (i := 12) (by kernel_rfl) (fuel' := 1) (by kernel_rfl) (by simp only [pickOps, ugT, ug0, ug1]; rfl) (by rfl) ?_
      intro K hK
      refine wp_append_sl _ (.tmp 52) (.tmp 55) 43 rfl wx.heap.size 49 i0 (.agg #[.int .i64 0, .int .i64 0]) 2 16 Tryz.underlying43 hi hz0 hz1 hz2 rfl (by decide) (.slice A5 (k + 1) c5) (k + 1) _ rfl OW5.out (tailA A c k 2) (n - k) (c - k) _ rfl (ST.out.grew S5) (flat_one _) (by unfold maxLen; omega) (by omega) S5.le ?_
      intro v7 w7 own7 hg7 hat7
      obtain ⟨A7, c7, rfl⟩ := own_form own7
      have S7 : Grew wx w7 := S5.grown hg7 (fun j hj => (OW5.out.lt j hj).1)
      refine hK _ _ S7 ?_
      clear hK K
      try simp only [Act.put, uzT, uz0, uz1]
      rw [← flat_append, ← flat_append] at own7
      have OW7 := Lib.hid own7
      clear own7 hg7 hat7 OW5 S5
      refine wpAnyH_takes (fun _ _ _ _ _ h => h) S7 [13] (fuel' := 0) (by kernel_rfl) (by kernel_rfl) (by simp only [pickOps, ugT, ug0, ug1]; rfl) ?_
      repeat (first
       | (refine TakeP.pure (v := ?_) (by rfl) ?_ ?_; rotate_left; (intro w' g'; go_simp; first | done | with_reducible rfl); (simp only [Act.put, uzT, uz0, uz1])))
      refine TakeP.nil ?_
      refine wpAnyH_done (by kernel_rfl) ?_ _
      go_wp2
      go_ret
      refine ⟨A7, _, c7, (l.take k ++ [(day, 1)]) ++ l.drop k, rfl, own_base OW7.out hbx, ?_, by omega, (Below.trans (Below.refl _ _) (Below.mono (gx.trans S7) hbw))⟩
      rw [List.length_append, List.length_append, List.length_take, List.length_drop, HL.out]; show min k n + 1 + (n - k) = _; omega
    ·intro K hK
     go_simp
     have S2 := (Grew.refl wx).alloc (.cells #[.int .i64 day, .int .i64 1] 49)
     refine hK _ _ S2 ?_
     clear hK K
     try simp only [Act.put, uzT, uz0, uz1]
     obtain ⟨w2, hw2⟩ : ∃ y, y = wx.alloc (.cells #[.int .i64 day, .int .i64 1] 49) := ⟨_, rfl⟩
     obtain ⟨b4, hb4⟩ : ∃ z, z = wx.heap.size := ⟨_, rfl⟩
     have BI : Hid (Sl w2 2 (some ⟨b4, 0, none⟩) 1 1 (flat [(day, 1)])) := by unfold Hid; rw [hw2, hb4]; exact builtS (w := wx) (t := 49) 2 1 #[.int .i64 day, .int .i64 1] (flat [(day, 1)]) rfl rfl (by decide)
     have LBb4 : b4 < w2.heap.size := by rw [hw2, hb4]; simp
     rw [← hw2] at S2 ⊢
     rw [← hb4]
     clear hw2 hb4
     refine wpAnyH_step (i := 0) (by kernel_rfl) (fuel' := 4) (by kernel_rfl) (by simp only [pickOps, ugT, ug0]; rfl) (by rfl) ?_
     intro K hK
     refine wp_value (v := .slice (some ⟨w2.heap.size, 0, none⟩) 0 0) (w' := w2.alloc (.cells #[] 49)) (by kernel_rfl) ?_
     have S4 := S2.alloc (.cells #[] 49)
     refine hK _ _ S4 ?_
     clear hK K
     try simp only [Act.put, uzT, uz0, uz1]
     obtain ⟨w4, hw4⟩ : ∃ y, y = w2.alloc (.cells #[] 49) := ⟨_, rfl⟩
     obtain ⟨b2, hb2⟩ : ∃ z, z = w2.heap.size := ⟨_, rfl⟩
     have OE : Hid (w4.ownsRow wx.heap.size 49 2 (.slice (some ⟨b2, 0, none⟩) 0 0) 0 []) := by unfold Hid; rw [hw4, hb2]; exact World.ownsRow_lit w2 #[] 0 S2.le (by decide) rfl
     have LBb2 : b2 < w4.heap.size := by rw [hw4, hb2]; simp
     rw [← hw4] at S4 ⊢
     rw [← hb2]
     replace BI := Lib.hid (BI.out.grew ((Grew.refl w2).alloc (.cells #[] 49)))
     rw [← hw4] at BI
     clear hw4
     refine wpAnyH_step (i := 4) (by kernel_rfl) (fuel' := 3) (by kernel_rfl) (by simp only [pickOps, ugT, ug0, ug1]; rfl) (by rfl) ?_
     intro K hK
     refine wp_append_sl _ (.tmp 44) (.tmp 47) 43 rfl wx.heap.size 49 i0 (.agg #[.int .i64 0, .int .i64 0]) 2 16 Tryz.underlying43 hi hz0 hz1 hz2 rfl (by decide) (.slice (some ⟨b2, 0, none⟩) 0 0) 0 _ rfl OE.out A k c _ rfl (SH.out.grew S4) (flat_one _) (by unfold maxLen; omega) (by omega) S4.le ?_
     intro v3 w3 own3 hg3 hat3
     obtain ⟨A3, c3, rfl⟩ := own_form own3
     rw [Nat.zero_add, List.nil_append] at own3
     have S3 : Grew wx w3 := S4.grown hg3 (fun j hj => (OE.out.lt j hj).1)
     rw [Nat.zero_add]
     refine hK _ _ S3 ?_
     clear hK K
     try simp only [Act.put, uzT, uz0, uz1]
     have OW3 := Lib.hid own3
     replace BI := Lib.hid (KeepB.sl BI.out (KeepB.grown (G := fun k => k ≠ b2) hg3 (fun h => h rfl)) (fun b o h _ => by injection h with h; injection h with h; omega))
     clear own3 hat3 hg3 OE
     clear S4
     have S4 := S3
     have OW := OW3
     refine wpAnyH_step (i := 8) (by kernel_rfl) (fuel' := 2) (by kernel_rfl) (by simp only [pickOps, ugT, ug0, ug1]; rfl) (by rfl) ?_
     intro K hK
     refine wp_append_sl _ (.tmp 48) (.tmp 51) 43 rfl wx.heap.size 49 i0 (.agg #[.int .i64 0, .int .i64 0]) 2 16 Tryz.underlying43 hi hz0 hz1 hz2 rfl (by decide) (.slice A3 k c3) k _ rfl OW.out (some ⟨b4, 0, none⟩) 1 1 _ rfl BI.out (flat_one _) (by unfold maxLen; omega) (by omega) S4.le ?_
     intro v5 w5 own5 hg5 hat5
     obtain ⟨A5, c5, rfl⟩ := own_form own5
     have S5 : Grew wx w5 := S4.grown hg5 (fun j hj => (OW.out.lt j hj).1)
     refine hK _ _ S5 ?_
     clear hK K
     try simp only [Act.put, uzT, uz0, uz1]
     have OW5 := Lib.hid own5
     clear own5 hg5 hat5 OW BI S4
     refine wpAnyH_step (i := 12) (by kernel_rfl) (fuel' := 1) (by kernel_rfl) (by simp only [pickOps, ugT, ug0, ug1]; rfl) (by rfl) ?_
     intro K hK
     refine wp_append_sl _ (.tmp 52) (.tmp 55) 43 rfl wx.heap.size 49 i0 (.agg #[.int .i64 0, .int .i64 0]) 2 16 Tryz.underlying43 hi hz0 hz1 hz2 rfl (by decide) (.slice A5 (k + 1) c5) (k + 1) _ rfl OW5.out (tailA A c k 2) (n - k) (c - k) _ rfl (ST.out.grew S5) (flat_one _) (by unfold maxLen; omega) (by omega) S5.le ?_
     intro v7 w7 own7 hg7 hat7
     obtain ⟨A7, c7, rfl⟩ := own_form own7
     have S7 : Grew wx w7 := S5.grown hg7 (fun j hj => (OW5.out.lt j hj).1)
     refine hK _ _ S7 ?_
     clear hK K
     try simp only [Act.put, uzT, uz0, uz1]
     rw [← flat_append, ← flat_append] at own7
     have OW7 := Lib.hid own7
     clear own7 hg7 hat7 OW5 S5
     refine wpAnyH_takes (fun _ _ _ _ _ h => h) S7 [13] (fuel' := 0) (by kernel_rfl) (by kernel_rfl) (by simp only [pickOps, ugT, ug0, ug1]; rfl) ?_
     repeat (first
      | (refine TakeP.pure (v := ?_) (by rfl) ?_ ?_; rotate_left; (intro w' g'; go_simp; first | done | with_reducible rfl); (simp only [Act.put, uzT, uz0, uz1])))
     refine TakeP.nil ?_
     refine wpAnyH_done (by kernel_rfl) ?_ _
     go_wp2
     go_ret
     refine ⟨A7, _, c7, (l.take k ++ [(day, 1)]) ++ l.drop k, rfl, own_base OW7.out hbx, ?_, by omega, (Below.trans (Below.refl _ _) (Below.mono (gx.trans S7) hbw))⟩
     rw [List.length_append, List.length_append, List.length_take, List.length_drop, HL.out]; show min k n + 1 + (n - k) = _; omega
/-- What the reference's Split returns. -/
def RetR3 (z : Zn) (f e : Int) (w : World) (r : Ending) (w' : World) : Prop :=
 ∃ (A : Option Addr) (m k : Nat) (er : Int), r = .returned (.tuple #[.slice A m k, .int .i64 er]) ∧ (er = 0 → splitB z f e = true) ∧ Grew w w'
theorem RetR3.from {z : Zn} {f e : Int} {w w1 : World} {r : Ending} {w' : World} (g : Grew w w1) (h : RetR3 z f e w1 r w') : RetR3 z f e w r w' := by
 obtain ⟨A, m, k, er, h1, h2, h3⟩ := h
 exact ⟨A, m, k, er, h1, h2, g.trans h3⟩
set_option maxRecDepth 100000 in
set_option maxHeartbeats 8000000 in
theorem rsplit108 (nm : ByteArray) (zb : Int) (C : Option Addr) (n c : Nat) (ch : List Sp) (f e : Int) (w : World) (hs : Spans w C n c ch) (hz : znB ⟨zb, ch⟩ = true) (hf : 0 ≤ f) (hfe : f ≤ e) (he : e ≤ 52596000) (hl : e - f ≤ 44640) :
  Calls Tryz.prog 108 #[.agg #[.string nm, .int .i64 zb, .slice C n c], .int .i64 f, .int .i64 e] w (RetR3 ⟨zb, ch⟩ f e w) := by
 have HS := Lib.hid hs
 have HZ := Lib.hid hz
 have hz2 := hz
 unfold znB at hz2
 simp only [Bool.and_eq_true, decide_eq_true_eq] at hz2
 have HB := Lib.hid hz2.2
 clear hs hz hz2
 have g1 : Grew w (w.alloc (.cells #[.string nm, .int .i64 zb, .slice C n c] 24)) := (Grew.refl w).alloc _
 have x0 : (w.alloc (.cells #[.string nm, .int .i64 zb, .slice C n c] 24)).heap[w.heap.size]? = some (.cells #[.string nm, .int .i64 zb, .slice C n c] 24) := World.alloc_heap_new w _
 have X0 := Lib.hid x0
 go_enter Tryz.func108, Tryz.ntmps108
 go_wp2_with fail
 refine (rzvalid51 nm zb C n c ch _ true (HS.out.grew g1) HZ.out).mono ?_
 rintro r w1 ⟨rfl, g2⟩
 clear x0
 go_wp2_with fail
 refine (stretch135 f e true _ (decide_eq_true ⟨hf, hfe, he⟩)).mono ?_
 rintro r w2 ⟨rfl, g3⟩
 have G2 := g1.trans (g2.trans g3)
 have HG := Lib.hid G2
 have X2 := Lib.hid ((g2.trans g3).block X0.out)
 have H2 := Lib.hid (HS.out.grew G2)
 have es : IntKind.i64.wrap (e - f) = e - f := IntWalk.i64_in _ (by omega)
 have ed : decide (44640 < e - f) = false := decide_eq_false (by omega)
 clear g1 g2 g3 G2 X0 HS
 go_wp2_with fail
 go_loopw [8, 9] (fun o i y => ∃ (t : Int) (A : Option Addr) (m k : Nat) (l : List Sp), i = .int .i64 t ∧ o = .slice A m k ∧ f ≤ t ∧ t ≤ e ∧ Hid (y.ownsRow w2.heap.size 49 2 (.slice A m k) m (flat l)) ∧ Hid (l.length = m) ∧ Hid ((m : Int) ≤ t - f) ∧ Hid (∀ u, f ≤ u → u < t → dayOk ((u + offR u ch zb) / 1440) = true) ∧ Hid (Grew w2 y)) (fun _ i _ => (e - intOf i).toNat)
 case atStart => exact ⟨f, none, 0, 0, [], rfl, rfl, Int.le_refl _, hfe, World.ownsRow_nil _ _ _ _, rfl, by unfold Hid; omega, fun u h1 h2 => by omega, Grew.refl _⟩
 case round =>
  obtain ⟨t, A, m, k, l, rfl, rfl, hft, hte, OW, HL, HM, HD, HR⟩ := hrel
  have x2 := HR.out.block X2.out
  have v0 : wr.cell? ⟨w.heap.size, 0, none⟩ = some (.string nm) := by simp [World.cell?, x2]
  have v1 : wr.cell? ⟨w.heap.size, 1, none⟩ = some (.int .i64 zb) := by simp [World.cell?, x2]
  have v2 : wr.cell? ⟨w.heap.size, 2, none⟩ = some (.slice C n c) := by simp [World.cell?, x2]
  clear x2
  by_cases hlt : t < e
  ·obtain ⟨q, hq⟩ : ∃ q, offR t ch zb = q := ⟨_, rfl⟩
   have HQ := Lib.hid hq
   have hqb := offR_bd (t := t) HB.out.1 HB.out.2
   rw [hq] at hqb
   obtain ⟨d, hd⟩ : ∃ d, (if t + q < 0 then -1 else (t + q) / 1440) = d := ⟨_, rfl⟩
   have HDD := Lib.hid hd
   clear hq hd
   go_wp2_with fail
   refine (local136 nm zb C n c ch t q d wr (H2.out.grew HR.out) HQ.out HDD.out ⟨by omega, by omega⟩ hqb).mono ?_
   rintro r w3 ⟨⟨mi, rfl⟩, g3⟩
   clear v0 v1 v2
   obtain ⟨b, hb⟩ : ∃ b, decide (0 ≤ d ∧ d ≤ 36524) = b := ⟨_, rfl⟩
   have HBB := Lib.hid hb
   clear hb
   go_wp2_with fail
   refine (day137 d b w3 HBB.out).mono ?_
   rintro r w4 ⟨rfl, g4⟩
   have g34 := g3.trans g4
   have HR4 := Lib.hid (HR.out.trans g34)
   have OW4 := Lib.hid (own_grew OW.out g34)
   clear g3 g4 g34 OW HR
   cases b with
   | false =>
    go_wp2
    go_ret2
    exact ⟨_, _, _, _, rfl, (fun h => by cases h), HG.out.trans HR4.out⟩
   | true =>
    have hd0 := of_decide_eq_true HBB.out
    have hm0 := HM.out
    go_wp2_with fail
    refine (count138 w2.heap.size A m k l d w4 OW4.out HL.out HR4.out.le (by omega)).mono ?_
    clear OW4
    rintro r w5 ⟨A5, m5, k5, l5, rfl, OW5, hl5, hm5, g5⟩
    have OW5h := Lib.hid OW5
    have HL5 := Lib.hid hl5
    have HR5 : Hid (Grew w2 w5) := Below.trans HR4.out g5
    have HD5 : Hid (∀ u, f ≤ u → u < t + 1 → dayOk ((u + offR u ch zb) / 1440) = true) := fun u h1 h2 => by
     by_cases hu : u < t
     ·exact HD.out u h1 hu
     ·obtain rfl : u = t := by omega
      have := HDD.out
      rw [HQ.out]
      unfold dayOk
      split at this
      ·omega
      ·rw [this]; exact HBB.out
    have HM5 : Hid ((m5 : Int) ≤ t + 1 - f) := by unfold Hid; omega
    have et : wrap64 (t + 1) = t + 1 := wrap64_id (by omega) (by omega)
    clear OW5 hl5 g5 hd0 hm0 hm5 HD HR4 HM
    go_wp2_with fail
    go_roundw
    case rel => exact ⟨t + 1, A5, m5, k5, l5, rfl, rfl, by omega, by omega, OW5h, HL5, HM5, HD5, HR5⟩
    case measure => simp [intOf]; omega
  ·obtain rfl : e = t := by omega
   go_wp2
   go_ret2
   exact ⟨_, _, _, _, rfl, (fun _ => splitB_of HZ.out HD.out), HG.out.trans HR.out⟩
end Go.Proofs.YtnnbibmmofnkdaaGreat
