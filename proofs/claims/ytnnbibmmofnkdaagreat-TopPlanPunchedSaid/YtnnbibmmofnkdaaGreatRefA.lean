/-
 Refutations: require, within, negate.
-/
import Derived.Test.YtnnbibmmofnkdaaGreatEok
import Derived.Test.YtnnbibmmofnkdaaGreatPlnH
import Derived.Defers
import Derived.Recover
namespace Go.Proofs.YtnnbibmmofnkdaaGreat
open Go.RowKit Go.Proofs WageMem WageReg WageRec WageSpan WageTop
/-- A failed condition. -/
def failC : List PanicEntry := [{ v := .iface 188 (.agg #[]), recovered := false }]
/-- A judgement's end. -/
def Judge (t : Bool) (e : Ending) : Prop := e = if t then .returned (.tuple #[]) else .panicked failC
theorem require96 (t : Bool) (w : World) : Calls Tryz.prog 96 #[.bool t] w fun e w' => Judge t e ∧ w' = w := by
 cases t with
 | true =>
  go_enter Tryz.func96, Tryz.ntmps96
  go_wp2
  refine bodyPost_end (results_none rfl _ _ _) rfl ?_
  exact ⟨rfl, rfl⟩
 | false =>
  go_enter Tryz.func96, Tryz.ntmps96
  go_wp2
  exact ⟨rfl, rfl, rfl⟩
set_option maxRecDepth 100000 in
set_option maxHeartbeats 4000000 in
theorem worker89 (x : Wo) (t : Bool) (w : World) (hs : Spans w x.A x.n x.c x.aw) (h : wOk x = t) : Calls Tryz.prog 89 #[woV x] w fun r w' => r = .returned (.bool t) ∧ Grew w w' := by
 obtain ⟨nm, sk, mi, wg, A, n, c, aw⟩ := x
 have HT := Lib.hid h
 have HS := Lib.hid hs
 have hnl : aw.length = n := hs.1
 have HNL := Lib.hid hnl
 have hn9 : n ≤ 9223372036854775807 := hs.le
 clear h hs hnl
 show Calls Tryz.prog 89 #[.agg #[.string nm, .int .i64 sk, .bool mi, .int .i64 wg, .slice A n c]] w _
 have gb : Grew w (w.alloc (.cells #[.string nm, .int .i64 sk, .bool mi, .int .i64 wg, .slice A n c] 56)) := (Grew.refl w).alloc _
 have X0 := Lib.hid (World.alloc_heap_new w (.cells #[.string nm, .int .i64 sk, .bool mi, .int .i64 wg, .slice A n c] 56))
 obtain ⟨t0, ht0⟩ : ∃ t, decide (0 ≤ sk ∧ sk ≤ 65535) = t := ⟨_, rfl⟩
 obtain ⟨t1, ht1⟩ : ∃ t, decide (0 ≤ wg ∧ wg ≤ 1000000) = t := ⟨_, rfl⟩
 obtain ⟨t3, ht3⟩ : ∃ t, decide (nrm aw = aw) = t := ⟨_, rfl⟩
 have HE : Hid ((t0 && (t1 && (decide (n ≤ 400) && (t3 && awOk aw)))) = t) := by unfold Hid; rw [← HT.out, ← ht0, ← ht1, ← ht3]; rfl
 have T0 := Lib.hid ht0
 have T1 := Lib.hid ht1
 have T3 := Lib.hid ht3
 clear ht0 ht1 ht3 HT
 go_enter Tryz.func89, Tryz.ntmps89
 go_wp2_with fail
 refine (within88 sk 65535 t0 _ T0.out).mono ?_
 rintro r w1 ⟨rfl, g1⟩
 have G1 := gb.trans g1
 have x1 := g1.block X0.out
 cases t0 with
 | false =>
  go_wp2
  go_ret
  exact ⟨congrArg (fun b => Ending.returned (Value.bool b)) HE.out, G1⟩
 | true =>
  have v3 : w1.cell? ⟨w.heap.size, 3, none⟩ = some (.int .i64 wg) := by simp [World.cell?, x1]
  have XX := Lib.hid x1
  clear x1 gb
  go_wp2_with fail
  refine (within88 wg 1000000 t1 _ T1.out).mono ?_
  rintro r w2 ⟨rfl, g2⟩
  have G2 := G1.trans g2
  have x1 := g2.block XX.out
  cases t1 with
  | false =>
   go_wp2
   go_ret
   exact ⟨congrArg (fun b => Ending.returned (Value.bool b)) HE.out, G2⟩
  | true =>
   clear v3
   have v4 : w2.cell? ⟨w.heap.size, 4, none⟩ = some (.slice A n c) := by simp [World.cell?, x1]
   have XY := Lib.hid x1
   clear x1
   by_cases hn4 : n ≤ 400
   ·have q4 : decide ((400 : Int) < (n : Int)) = false := decide_eq_false (by omega)
    have q5 : ¬ ((400 : Int) < (n : Int)) := by omega
    have q6 : decide (400 < n) = false := decide_eq_false (by omega)
    have HE2 : Hid ((t3 && awOk aw) = t) := by unfold Hid; rw [← HE.out, decide_eq_true hn4]; rfl
    have H2 := Lib.hid (HS.out.grew G2)
    clear HE
    go_wp2_with fail
    refine (valid_val H2.out (by omega) T3.out).mono ?_
    rintro r w3 ⟨rfl, g3⟩
    have G3 := Lib.hid (G2.trans g3)
    have x1 := g3.block XY.out
    cases t3 with
    | false =>
     go_wp2
     go_ret
     exact ⟨congrArg (fun b => Ending.returned (Value.bool b)) HE2.out, G3.out⟩
    | true =>
     clear v4
     have v4 : w3.cell? ⟨w.heap.size, 4, none⟩ = some (.slice A n c) := by simp [World.cell?, x1]
     have H3 := Lib.hid (HS.out.grew G3.out)
     clear x1 q4 q5 q6 XX XY g1 g2 g3 G1 G2
     go_wp2_with fail
     clear v4
     go_loopw [28] (fun i y => ∃ k : Nat, k ≤ n ∧ i = .int .i64 k ∧ Hid (awOk (aw.drop k) = t) ∧ Hid (Grew w3 y)) (fun i _ => n - (intOf i).toNat)
     case atStart => exact ⟨0, Nat.zero_le _, rfl, HE2.out, Grew.refl _⟩
     case round =>
      obtain ⟨k, hk, rfl, HK, HR⟩ := hrel
      by_cases hlt : k < n
      ·obtain ⟨b, o, s, hA, hsk, r1, r2, l1, l2⟩ := (H3.out.grew HR.out).at_ hlt
       subst hA
       have HK2 : Hid ((decide (0 ≤ s.1 ∧ s.2 ≤ 52596000) && awOk (aw.drop (k + 1))) = t) := by
        have := HK.out
        rw [List.drop_eq_getElem_cons (by rw [HNL.out]; exact hlt), (List.getElem?_eq_some_iff.1 hsk).2] at this
        exact this
       obtain ⟨s1, s2⟩ := s
       simp only at r1 r2 l1 l2
       have e1 : (0 : Int) ≤ (k : Int) := by omega
       have e2 : (k : Int) < (n : Int) := by omega
       clear HK hsk
       have HKx : Hid ((decide (0 ≤ s1 ∧ s2 ≤ 52596000) && awOk (aw.drop (k + 1))) = t) := HK2
       clear HK2
       obtain ⟨w5, hw5⟩ : ∃ y, y = wr.alloc (.cells #[.int .i64 s1, .int .i64 s2] 28) := ⟨_, rfl⟩
       obtain ⟨ab, hab⟩ : ∃ z, z = wr.heap.size := ⟨_, rfl⟩
       have HB5 : Hid (Blk w5 ab 28 [.int .i64 s1, .int .i64 s2]) := by unfold Hid; rw [hw5, hab]; exact Blk.new wr 28 [.int .i64 s1, .int .i64 s2]
       have HR5 : Hid (Grew w3 w5) := by unfold Hid; rw [hw5]; exact HR.out.alloc _
       go_upto_region 8 with (fail)
       rw [← hw5, ← hab]
       have d0 : w5.cell? ⟨ab, 0, none⟩ = some (.int .i64 s1) := HB5.out.cell rfl
       have d1 : w5.cell? ⟨ab, 1, none⟩ = some (.int .i64 s2) := HB5.out.cell rfl
       clear hw5 hab HR r1 r2
       by_cases h0 : s1 < 0
       ·have q0 : decide (s1 < 0) = true := decide_eq_true h0
        have HF : Hid (false = t) := by unfold Hid; rw [← HKx.out, decide_eq_false (by omega)]; rfl
        go_wp2
        go_ret
        exact ⟨congrArg (fun b => Ending.returned (Value.bool b)) HF.out, G3.out.trans HR5.out⟩
       ·have q0 : decide (s1 < 0) = false := decide_eq_false h0
        by_cases h1 : 52596000 < s2
        ·have q1 : decide (52596000 < s2) = true := decide_eq_true h1
         have HF : Hid (false = t) := by unfold Hid; rw [← HKx.out, decide_eq_false (by omega)]; rfl
         go_wp2
         go_ret
         exact ⟨congrArg (fun b => Ending.returned (Value.bool b)) HF.out, G3.out.trans HR5.out⟩
        ·have q1 : decide (52596000 < s2) = false := decide_eq_false h1
         have HF : Hid (awOk (aw.drop (k + 1)) = t) := by unfold Hid; rw [← HKx.out, decide_eq_true (by omega)]; rfl
         clear HKx
         go_wp2_with fail
         go_roundw
         case rel => exact ⟨k + 1, by omega, by go_num, HF, HR5⟩
         case measure => simp [intOf]; omega
      ·obtain rfl : n = k := by omega
       have HF : Hid (true = t) := by unfold Hid; rw [← HK.out, ← HNL.out, List.drop_length]; rfl
       go_wp2
       go_ret
       exact ⟨congrArg (fun b => Ending.returned (Value.bool b)) HF.out, G3.out.trans HR.out⟩
   ·have q4 : decide ((400 : Int) < (n : Int)) = true := decide_eq_true (by omega)
    have q5 : (400 : Int) < (n : Int) := by omega
    have q6 : decide (400 < n) = true := decide_eq_true (by omega)
    have HE2 : Hid (false = t) := by unfold Hid; rw [← HE.out, decide_eq_false hn4]; rfl
    go_wp2
    go_ret
    exact ⟨congrArg (fun b => Ending.returned (Value.bool b)) HE2.out, G2⟩
theorem size122 : (Tryz.prog.info? 122).map (·.size) = some 3 := by kernel_rfl
theorem results_li {fn : Func} {p : Tmp} (h : fn.results = #[.cell p 122]) (tmps : Array Value) (w : World) (b : Nat) (cs : Array Value) (hp : tmps.getD p undef = .pointer (some ⟨b, 0, none⟩)) (hb : w.heap[b]? = some (.cells cs 122 (0, 0))) (hs : cs.size = 3) :
  (results fn tmps).run Tryz.prog w = .ok (.agg cs) w :=
 results_cell_row h tmps w b 122 cs (0, 0) _ hp hb Tryz.underlying122 rfl (by rw [hs]; exact size122)
theorem negate123 (l : Li) (w : World) : Calls Tryz.prog 123 #[.agg #[.int .i64 l.d, .int .i64 l.w, .bool l.is]] w fun r w' => r = .returned (.agg #[.int .i64 l.neg.d, .int .i64 l.neg.w, .bool l.neg.is]) ∧ Grew w w' := by
 obtain ⟨d, v, is⟩ := l
 show Calls Tryz.prog 123 #[.agg #[.int .i64 d, .int .i64 v, .bool is]] w fun r w' => r = .returned (.agg #[.int .i64 d, .int .i64 v, .bool (!is)]) ∧ Grew w w'
 obtain ⟨w1, hw1⟩ : ∃ y, y = (w.alloc (.cells #[.int .i64 d, .int .i64 v, .bool is] 122)).alloc (.cells #[.int .i64 0, .int .i64 0, .bool false] 122) := ⟨_, rfl⟩
 have g1 : Grew w w1 := by rw [hw1]; exact ((Grew.refl w).alloc _).alloc _
 obtain ⟨a, ha⟩ : ∃ z, z = w.heap.size := ⟨_, rfl⟩
 have HA : Hid (Blk w1 a 122 [.int .i64 d, .int .i64 v, .bool is]) := by unfold Hid; rw [hw1, ha]; exact (Blk.new w 122 [.int .i64 d, .int .i64 v, .bool is]).grew ((Grew.refl _).alloc _)
 have HR : Hid (Blk w1 (a + 1) 122 [.int .i64 0, .int .i64 0, .bool false]) := by
  have h1 := Blk.new (w.alloc (.cells #[.int .i64 d, .int .i64 v, .bool is] 122)) 122 [.int .i64 0, .int .i64 0, .bool false]
  rw [World.size_alloc] at h1
  unfold Hid; rw [hw1, ha]; exact h1
 have hge : w.heap.size ≤ a := by omega
 go_enter Tryz.func123, Tryz.ntmps123
 go_upto_region 1 with (fail)
 rw [← hw1, ← ha]
 clear hw1 ha
 have c2 : w1.cell? ⟨a, 2, none⟩ = some (.bool is) := HA.out.cell rfl
 have f2 := HA.out.frozen 2
 obtain ⟨w2, hw2⟩ : ∃ y, y = w1.setCell ⟨a, 2, none⟩ (.bool (!is)) := ⟨_, rfl⟩
 go_upto_region 2 with (fail)
 rw [← hw2]
 have k2 := grown_set w1 a 2 (.bool (!is))
 rw [← hw2] at k2
 have HA2 : Hid (Blk w2 a 122 [.int .i64 d, .int .i64 v, .bool (!is)]) := by unfold Hid; rw [hw2]; exact HA.out.set 2 _
 have HR2 : Hid (Blk w2 (a + 1) 122 [.int .i64 0, .int .i64 0, .bool false]) := HR.out.kept k2 (fun e => by injection e; omega)
 have g2 : Grew w w2 := g1.grown k2 (fun q hq => by injection hq; omega)
 clear hw2 k2 c2 f2 HA HR
 have v0 : w2.cell? ⟨a, 0, none⟩ = some (.int .i64 d) := HA2.out.cell rfl
 have v1 : w2.cell? ⟨a, 1, none⟩ = some (.int .i64 v) := HA2.out.cell rfl
 have v2 : w2.cell? ⟨a, 2, none⟩ = some (.bool (!is)) := HA2.out.cell rfl
 go_wp2_with (refine wpList_store_row rfl 122 (.tmp 2) (.tmp 7) rfl (a + 1) #[.int .i64 d, .int .i64 v, .bool (!is)] rfl rfl 122 _ HR2.out size122 rfl (by simp [Value.oneCell']) ?_)
 have HB := setRow_heap w2 (a + 1) _ #[.int .i64 d, .int .i64 v, .bool (!is)] 122 (0, 0) HR2.out
 have GF : Grew w (w2.setRow (a + 1) #[.int .i64 d, .int .i64 v, .bool (!is)]) := grew_setRow g2 (by omega) _
 refine bodyPost_ret (results_li rfl _ _ (a + 1) _ rfl HB rfl) rfl ?_
 exact ⟨rfl, GF⟩
end Go.Proofs.YtnnbibmmofnkdaaGreat
