/-
 Refutations: a checker in memory; proper, denied.
-/
import Derived.Test.YtnnbibmmofnkdaaGreatRefC
import Derived.Test.YtnnbibmmofnkdaaGreatPlnB
namespace Go.Proofs.YtnnbibmmofnkdaaGreat
open Go.RowKit Go.Proofs WageMem WageReg WageRec WageSpan WageTop
end Go.Proofs.YtnnbibmmofnkdaaGreat
namespace WageReg
open Go
section
variable {P : Program} {Q : Exit → Act → World → Prop}
/-- A call that returns or panics. -/
theorem wp_callJ {o : Oper} {a : Act} {w : World} {K : Act → World → Prop} (f : FuncId) (args : Array Value) (hx : (execOp a.eval o).run P w = .ok (.enter f args) w)
  (h : Calls P f args w fun e w1 => (∃ v, e = .returned v ∧ K (a.put o.dst v) w1) ∨ (∃ c, e = .panicked c ∧ Q (.panic c) a w1)) : o.wp P a w K Q := by
 unfold Oper.wp
 rw [hx]
 simp only [Oper.upon]
 refine h.mono ?_
 rintro e w1 (⟨v, rfl, hk⟩ | ⟨c, rfl, hk⟩)
 ·exact hk
 ·exact hk
end
end WageReg
namespace Go.Proofs.YtnnbibmmofnkdaaGreat
open Go.RowKit Go.Proofs WageMem WageReg WageRec WageSpan WageTop
/-- A step in memory, as it reads. -/
structure StRd (w : World) (q : Qs) (s : Stp) : Prop where
 ru : q.ru = s.rule
 cl : Recs encL 3 w q.cl.A q.cl.n q.cl.c s.cl
 fr : Ints w q.fr.A q.fr.n q.fr.c s.frm
theorem StRd.grew {w w' : World} {q : Qs} {s : Stp} (h : StRd w q s) (g : Grew w w') : StRd w' q s := ⟨h.ru, h.cl.grew g, h.fr.grew g⟩
/-- A log in memory, as it reads. -/
def LgRd (w : World) (A : Option Addr) (n c : Nat) (log : List Stp) : Prop := ∃ qs : List Qs, Recs encQ 3 w A n c qs ∧ qs.length = log.length ∧ ∀ (i : Nat) q s, qs[i]? = some q → log[i]? = some s → StRd w q s
theorem LgRd.grew {w w' : World} {A : Option Addr} {n c : Nat} {log : List Stp} (h : LgRd w A n c log) (g : Grew w w') : LgRd w' A n c log := by
 obtain ⟨qs, h1, h2, h3⟩ := h
 exact ⟨qs, h1.grew g, h2, fun i q s hq hs => (h3 i q s hq hs).grew g⟩
theorem LgRd.of_log {base : Nat} {Pr : Nat → Prop} {w : World} {A : Option Addr} {n c : Nat} {log : List Stp} (h : LogAt base Pr w (.slice A n c) log) (hn : log.length = n) : LgRd w A n c log := by
 obtain ⟨qs, h1, h2, h3⟩ := h
 rw [hn] at h1
 exact ⟨qs, Recs.own (by omega) h1, h2, fun i q s hq hs => by
  have h4 := h3 i q s hq hs
  exact ⟨h4.ru, Recs.own h4.cn h4.cl, Ints.own h4.fn h4.fr⟩⟩
theorem LgRd.len {w : World} {A : Option Addr} {n c : Nat} {log : List Stp} (h : LgRd w A n c log) : log.length = n := by
 obtain ⟨qs, h1, h2, _⟩ := h
 rw [← h2]; exact h1.1
theorem LgRd.le {w : World} {A : Option Addr} {n c : Nat} {log : List Stp} (h : LgRd w A n c log) : n ≤ 9223372036854775807 := by
 obtain ⟨qs, h1, _⟩ := h
 exact h1.le
theorem LgRd.at_ {w : World} {A : Option Addr} {n c : Nat} {log : List Stp} (h : LgRd w A n c log) {k : Nat} (hk : k < n) : ∃ b o q s, A = some ⟨b, o, none⟩ ∧ log[k]? = some s ∧ StRd w q s ∧ (w.cell? ⟨b, o + k * 3, none⟩ = some (pcV q.cl) ∧ w.cell? ⟨b, o + k * 3 + 1, none⟩ = some (.int .i64 q.ru) ∧ w.cell? ⟨b, o + k * 3 + 2, none⟩ = some (pcV q.fr)) := by
 have hl := h.len
 obtain ⟨qs, h1, h2, h3⟩ := h
 obtain ⟨b, o, q, hA, hq, hr⟩ := h1.at_ encQ_ok hk
 obtain ⟨s, hs⟩ : ∃ s, log[k]? = some s := ⟨_, List.getElem?_eq_getElem (by omega)⟩
 exact ⟨b, o, q, s, hA, hs, h3 k q s hq hs, hr 0 _ rfl, hr 1 _ rfl, hr 2 _ rfl⟩
/-- A checker's cells. -/
def chC (p : Pl) (M N : Pc) (bound : Int) (A : Option Addr) (n c : Nat) (k : Int) : List Value := npC p M N (cheapest (envP p) p.wn) ++ [.int .i64 bound, .slice A n c, .int .i64 k]
/-- A checker in memory. -/
structure CrAt (w : World) (cb : Nat) (p : Pl) (M N : Pc) (ps : List Pc) (bound : Int) (A : Option Addr) (n c : Nat) (log : List Stp) (k : Int) : Prop where
 blk : Blk w cb 104 (chC p M N bound A n c k)
 fact : FactAt w p M N ps
 ok : planB p = true
 lg : LgRd w A n c log
theorem CrAt.grew {w w' : World} {cb : Nat} {p : Pl} {M N : Pc} {ps : List Pc} {bound : Int} {A : Option Addr} {n c : Nat} {log : List Stp} {k : Int} (h : CrAt w cb p M N ps bound A n c log k) (g : Grew w w') : CrAt w' cb p M N ps bound A n c log k :=
 ⟨h.blk.grew g, h.fact.grew g, h.ok, h.lg.grew g⟩
theorem CrAt.rp {w : World} {cb : Nat} {p : Pl} {M N : Pc} {ps : List Pc} {bound : Int} {A : Option Addr} {n c : Nat} {log : List Stp} {k : Int} (h : CrAt w cb p M N ps bound A n c log k) : RpAt w cb p M N ps :=
 ⟨fun i v hv => h.blk.cell (by unfold chC; rw [List.getElem?_append_left (List.getElem?_eq_some_iff.1 hv).1]; exact hv), h.fact, h.ok⟩
theorem Recs.lit {w : World} {A : Option Addr} {n c : Nat} {ls : List Li} (h : Recs encL 3 w A n c ls) {k : Nat} (hk : k < n) : ∃ b o l, A = some ⟨b, o, none⟩ ∧ ls[k]? = some l ∧ (w.cell? ⟨b, o + k * 3, none⟩ = some (.int .i64 l.d) ∧ w.cell? ⟨b, o + k * 3 + 1, none⟩ = some (.int .i64 l.w) ∧ w.cell? ⟨b, o + k * 3 + 2, none⟩ = some (.bool l.is)) := by
 obtain ⟨b, o, l, hA, hl, hr⟩ := h.at_ encL_ok hk
 exact ⟨b, o, l, hA, hl, hr 0 _ rfl, hr 1 _ rfl, hr 2 _ rfl⟩
theorem make_full (base n : Nat) (hn : n ≤ 1000) (w : World) (hb : base ≤ w.heap.size) : ∃ w', (Instr.makeSlice 38 (.int .i64 (n : Int)) (.int .i64 (n : Int))).run Tryz.prog w = .ok (.slice (some ⟨w.heap.size, 0, none⟩) n n) w' ∧ w'.ownsRow base 3 1 (.slice (some ⟨w.heap.size, 0, none⟩) n n) n ((List.replicate n (0 : Int)).map iv) ∧ Grew w w' := by
 obtain ⟨i0, hi, hz0, hz1, hz2⟩ := info_parts info3
 obtain ⟨w', h1, h2, h3⟩ := run_makeSlice_full (P := Tryz.prog) w base 38 3 i0 (.int .i64 0) 1 Tryz.underlying38 hi hz0 hz1 .i64 .i64 n (by omega) (by rw [hz2]; omega) (by unfold maxLen; omega) hb
 refine ⟨w', h1, ?_, (Grew.refl w).grown h3 (fun j hj => by cases hj)⟩
 rw [show (Value.int .i64 0).cells = #[Value.int .i64 0] from rfl, Nat.mul_one, toList_madeCells_one] at h2
 rw [List.map_replicate]; exact h2
theorem fillI_set {l : List Int} {n j : Nat} {v : Int} (hl : l.length = n) (hv : l[j]? = some v) : ((l.take j ++ List.replicate (n - j) 0).map iv).set j (iv v) = (l.take (j + 1) ++ List.replicate (n - (j + 1)) 0).map iv := by
 have hj : j < n := by rw [← hl]; exact (List.getElem?_eq_some_iff.1 hv).1
 rw [List.map_append, List.set_append_right _ _ (by rw [List.length_map, List.length_take]; omega), List.length_map, List.length_take, show j - min j l.length = 0 by omega, show n - j = (n - (j + 1)) + 1 by omega, List.replicate_succ, List.map_cons, uz0, List.take_add_one, hv]
 simp
theorem fillI_at {l : List Int} {n j : Nat} (hl : l.length = n) (hj : j < n) : ((l.take j ++ List.replicate (n - j) 0).map iv)[j]? = some (.int .i64 0) := by
 rw [List.map_append, List.getElem?_append_right (by rw [List.length_map, List.length_take]; omega), List.length_map, List.length_take, show j - min j l.length = 0 by omega, show n - j = (n - (j + 1)) + 1 by omega, List.replicate_succ]
 rfl
theorem fillI_all {l : List Int} {n : Nat} (hl : l.length = n) : l.take n ++ List.replicate (n - n) 0 = l := by
 rw [Nat.sub_self, List.replicate_zero, List.append_nil, ← hl, List.take_length]
set_option maxRecDepth 100000 in
set_option maxHeartbeats 8000000 in
theorem proper97 {w : World} {cb : Nat} {p : Pl} {M N : Pc} {ps : List Pc} (h : RpAt w cb p M N ps) (l : Li) :
  Calls Tryz.prog 97 #[.pointer (some ⟨cb, 0, none⟩), .agg #[.int .i64 l.d, .int .i64 l.w, .bool l.is]] w fun r w' => r = .returned (.bool (proper (envP p) l)) ∧ Grew w w' := by
 obtain ⟨d, v, is⟩ := l
 show Calls Tryz.prog 97 #[.pointer (some ⟨cb, 0, none⟩), .agg #[.int .i64 d, .int .i64 v, .bool is]] w fun r w' => r = .returned (.bool (decide (0 ≤ d ∧ d < (p.dn : Int) ∧ 0 ≤ v ∧ v < (p.wn : Int)))) ∧ Grew w w'
 obtain ⟨w1, hw1⟩ : ∃ y, y = w.alloc (.cells #[.int .i64 d, .int .i64 v, .bool is] 122) := ⟨_, rfl⟩
 obtain ⟨lb, hlb⟩ : ∃ z, z = w.heap.size := ⟨_, rfl⟩
 have G1 : Hid (Grew w w1) := by unfold Hid; rw [hw1]; exact (Grew.refl w).alloc _
 have HL : Blk w1 lb 122 [.int .i64 d, .int .i64 v, .bool is] := by rw [hw1, hlb]; exact Blk.new w 122 [.int .i64 d, .int .i64 v, .bool is]
 have hrp := h.grew G1.out
 have hA : ∀ w', Grew w1.drew w' → (w'.cell? ⟨lb, 0, none⟩ = some (.int .i64 d) ∧ w'.cell? ⟨lb, 1, none⟩ = some (.int .i64 v)) ∧ w'.cell? ⟨cb, 3, none⟩ = some (.slice p.D p.dn p.dc) ∧ w'.cell? ⟨cb, 4, none⟩ = some (.slice p.W p.wn p.wc) := fun w' g' => by
  have gg := (Grew.refl w1).drew.trans g'
  exact ⟨⟨gg.cell (HL.cell rfl), gg.cell (HL.cell rfl)⟩, gg.cell (hrp.cells 3 _ rfl), gg.cell (hrp.cells 4 _ rfl)⟩
 have HA := Lib.hid hA
 clear hA hrp HL h
 by_cases h0 : 0 ≤ d
 ·skip
  by_cases h1 : d < (p.dn : Int)
  ·skip
   by_cases h2 : 0 ≤ v
   ·skip
    by_cases h3 : v < (p.wn : Int)
    ·skip
     have q0_0 : decide (d ≥ 0) = true := decide_eq_true (by omega)
     have q0_1 : decide (0 ≤ d) = true := decide_eq_true (by omega)
     have q1_0 : decide (d < (p.dn : Int)) = true := decide_eq_true (by omega)
     have q2_0 : decide (v ≥ 0) = true := decide_eq_true (by omega)
     have q2_1 : decide (0 ≤ v) = true := decide_eq_true (by omega)
     have q3_0 : decide (v < (p.wn : Int)) = true := decide_eq_true (by omega)
     rw [decide_eq_true (show 0 ≤ d ∧ d < (p.dn : Int) ∧ 0 ≤ v ∧ v < (p.wn : Int) from ⟨h0, h1, h2, h3⟩)]
     clear h0 h1 h2 h3
     go_enter Tryz.func97, Tryz.ntmps97
     go_upto_region 1 with (fail)
     rw [← hw1, ← hlb]
     clear hw1 hlb
     refine wp_region_seq (by kernel_rfl) Grew.refl (fun _ _ _ => Grew.trans) (fun _ _ _ _ _ h => h) (by kernel_rfl) ?_
     repeat (first
      | (refine TakeAll.pure (v := ?_) (by rfl) ?_ ?_; rotate_left; (intro w' g'; obtain ⟨⟨y0, y1⟩, y2, y3⟩ := HA.out w' g'; go_simp; first | done | with_reducible rfl); (simp only [Act.put, uzT, uz0, uz1]))
      | (refine TakeAll.skip (by rfl) ?_; (simp only [Act.put, uzT, uz0, uz1])))
     refine TakeAll.nil ?_
     intro w5 g5
     have GF := G1.out.trans ((Grew.refl w1).drew.trans g5)
     clear HA g5
     go_wp2
     go_ret
     exact ⟨rfl, GF⟩
    ·skip
     have q0_0 : decide (d ≥ 0) = true := decide_eq_true (by omega)
     have q0_1 : decide (0 ≤ d) = true := decide_eq_true (by omega)
     have q1_0 : decide (d < (p.dn : Int)) = true := decide_eq_true (by omega)
     have q2_0 : decide (v ≥ 0) = true := decide_eq_true (by omega)
     have q2_1 : decide (0 ≤ v) = true := decide_eq_true (by omega)
     have q3_0 : decide (v < (p.wn : Int)) = false := decide_eq_false (by omega)
     rw [decide_eq_false (show ¬ (0 ≤ d ∧ d < (p.dn : Int) ∧ 0 ≤ v ∧ v < (p.wn : Int)) by omega)]
     clear h0 h1 h2 h3
     go_enter Tryz.func97, Tryz.ntmps97
     go_upto_region 1 with (fail)
     rw [← hw1, ← hlb]
     clear hw1 hlb
     refine wp_region_seq (by kernel_rfl) Grew.refl (fun _ _ _ => Grew.trans) (fun _ _ _ _ _ h => h) (by kernel_rfl) ?_
     repeat (first
      | (refine TakeAll.pure (v := ?_) (by rfl) ?_ ?_; rotate_left; (intro w' g'; obtain ⟨⟨y0, y1⟩, y2, y3⟩ := HA.out w' g'; go_simp; first | done | with_reducible rfl); (simp only [Act.put, uzT, uz0, uz1]))
      | (refine TakeAll.skip (by rfl) ?_; (simp only [Act.put, uzT, uz0, uz1])))
     refine TakeAll.nil ?_
     intro w5 g5
     have GF := G1.out.trans ((Grew.refl w1).drew.trans g5)
     clear HA g5
     go_wp2
     go_ret
     exact ⟨rfl, GF⟩
   ·skip
    have q0_0 : decide (d ≥ 0) = true := decide_eq_true (by omega)
    have q0_1 : decide (0 ≤ d) = true := decide_eq_true (by omega)
    have q1_0 : decide (d < (p.dn : Int)) = true := decide_eq_true (by omega)
    have q2_0 : decide (v ≥ 0) = false := decide_eq_false (by omega)
    have q2_1 : decide (0 ≤ v) = false := decide_eq_false (by omega)
    rw [decide_eq_false (show ¬ (0 ≤ d ∧ d < (p.dn : Int) ∧ 0 ≤ v ∧ v < (p.wn : Int)) by omega)]
    clear h0 h1 h2
    go_enter Tryz.func97, Tryz.ntmps97
    go_upto_region 1 with (fail)
    rw [← hw1, ← hlb]
    clear hw1 hlb
    refine wp_region_seq (by kernel_rfl) Grew.refl (fun _ _ _ => Grew.trans) (fun _ _ _ _ _ h => h) (by kernel_rfl) ?_
    repeat (first
     | (refine TakeAll.pure (v := ?_) (by rfl) ?_ ?_; rotate_left; (intro w' g'; obtain ⟨⟨y0, y1⟩, y2, y3⟩ := HA.out w' g'; go_simp; first | done | with_reducible rfl); (simp only [Act.put, uzT, uz0, uz1]))
     | (refine TakeAll.skip (by rfl) ?_; (simp only [Act.put, uzT, uz0, uz1])))
    refine TakeAll.nil ?_
    intro w5 g5
    have GF := G1.out.trans ((Grew.refl w1).drew.trans g5)
    clear HA g5
    go_wp2
    go_ret
    exact ⟨rfl, GF⟩
  ·skip
   have q0_0 : decide (d ≥ 0) = true := decide_eq_true (by omega)
   have q0_1 : decide (0 ≤ d) = true := decide_eq_true (by omega)
   have q1_0 : decide (d < (p.dn : Int)) = false := decide_eq_false (by omega)
   rw [decide_eq_false (show ¬ (0 ≤ d ∧ d < (p.dn : Int) ∧ 0 ≤ v ∧ v < (p.wn : Int)) by omega)]
   clear h0 h1
   go_enter Tryz.func97, Tryz.ntmps97
   go_upto_region 1 with (fail)
   rw [← hw1, ← hlb]
   clear hw1 hlb
   refine wp_region_seq (by kernel_rfl) Grew.refl (fun _ _ _ => Grew.trans) (fun _ _ _ _ _ h => h) (by kernel_rfl) ?_
   repeat (first
    | (refine TakeAll.pure (v := ?_) (by rfl) ?_ ?_; rotate_left; (intro w' g'; obtain ⟨⟨y0, y1⟩, y2, y3⟩ := HA.out w' g'; go_simp; first | done | with_reducible rfl); (simp only [Act.put, uzT, uz0, uz1]))
    | (refine TakeAll.skip (by rfl) ?_; (simp only [Act.put, uzT, uz0, uz1])))
   refine TakeAll.nil ?_
   intro w5 g5
   have GF := G1.out.trans ((Grew.refl w1).drew.trans g5)
   clear HA g5
   go_wp2
   go_ret
   exact ⟨rfl, GF⟩
 ·skip
  have q0_0 : decide (d ≥ 0) = false := decide_eq_false (by omega)
  have q0_1 : decide (0 ≤ d) = false := decide_eq_false (by omega)
  rw [decide_eq_false (show ¬ (0 ≤ d ∧ d < (p.dn : Int) ∧ 0 ≤ v ∧ v < (p.wn : Int)) by omega)]
  clear h0
  go_enter Tryz.func97, Tryz.ntmps97
  go_upto_region 1 with (fail)
  rw [← hw1, ← hlb]
  clear hw1 hlb
  refine wp_region_seq (by kernel_rfl) Grew.refl (fun _ _ _ => Grew.trans) (fun _ _ _ _ _ h => h) (by kernel_rfl) ?_
  repeat (first
   | (refine TakeAll.pure (v := ?_) (by rfl) ?_ ?_; rotate_left; (intro w' g'; obtain ⟨⟨y0, y1⟩, y2, y3⟩ := HA.out w' g'; go_simp; first | done | with_reducible rfl); (simp only [Act.put, uzT, uz0, uz1]))
   | (refine TakeAll.skip (by rfl) ?_; (simp only [Act.put, uzT, uz0, uz1])))
  refine TakeAll.nil ?_
  intro w5 g5
  have GF := G1.out.trans ((Grew.refl w1).drew.trans g5)
  clear HA g5
  go_wp2
  go_ret
  exact ⟨rfl, GF⟩
/-- What denied ends with. -/
def RetDn (D : Option (List Int)) (n : Nat) (w : World) (e : Ending) (w' : World) : Prop :=
 match D with
 | none => e = .panicked failC ∧ Grew w w'
 | some r => ∃ A c, e = .returned (.slice A n c) ∧ w'.ownsRow w.heap.size 3 1 (.slice A n c) n (r.map iv) ∧ r.length = n ∧ Grew w w'
theorem RetDn.bad {D : Option (List Int)} {n : Nat} {w w' : World} (h : D = none) (g : Grew w w') : RetDn D n w (.panicked failC) w' := by subst h; exact ⟨rfl, g⟩
set_option maxRecDepth 100000 in
set_option maxHeartbeats 16000000 in
theorem denied122 {w : World} {cb : Nat} {p : Pl} {M N : Pc} {ps : List Pc} {q : Qs} {s : Stp} (h : RpAt w cb p M N ps) (hs : StRd w q s) (hp : s.cl.all (proper (envP p)) = true) :
  Calls Tryz.prog 122 #[.pointer (some ⟨cb, 0, none⟩), .agg #[pcV q.cl, .int .i64 q.ru, pcV q.fr]] w (RetDn (denied (envP p) s) p.dn w) := by
 obtain ⟨⟨CA, cn, cc⟩, ru, FA, fn, fc⟩ := q
 obtain ⟨cl, rule, frm⟩ := s
 have HRP := Lib.hid h
 have HCL : Hid (Recs encL 3 w CA cn cc cl) := hs.cl
 have hcl : cl.length = cn := hs.cl.1
 have hfl : frm.length = fn := hs.fr.1
 have HLN := Lib.hid hcl
 have cn9 : cn ≤ 9223372036854775807 := hs.cl.le
 have HPR := Lib.hid (List.all_eq_true.1 hp)
 have hd24 : p.dn ≤ 24 := (dn_le h.ok).1
 obtain ⟨D, hD⟩ : ∃ D, denied (envP p) ⟨cl, rule, frm⟩ = D := ⟨_, rfl⟩
 rw [hD]
 have HDE : Hid ((if fn = 0 ∧ cn ≠ 0 then deny (List.replicate p.dn (-1)) cl else none) = D) := by
  unfold Hid
  rw [← hD]
  unfold denied
  show _ = if (frm.isEmpty && !cl.isEmpty) = true then deny (List.replicate p.dn (-1)) cl else none
  rw [← hcl, ← hfl]
  cases frm <;> cases cl <;> simp
 have c3 : w.cell? ⟨cb, 3, none⟩ = some (.slice p.D p.dn p.dc) := h.cells 3 _ rfl
 have HC3 := Lib.hid c3
 clear h hs hp hD hcl hfl c3
 show Calls Tryz.prog 122 #[.pointer (some ⟨cb, 0, none⟩), .agg #[.slice CA cn cc, .int .i64 ru, .slice FA fn fc]] w _
 obtain ⟨w1, hw1⟩ : ∃ y, y = w.alloc (.cells #[.slice CA cn cc, .int .i64 ru, .slice FA fn fc] 71) := ⟨_, rfl⟩
 obtain ⟨sb, hsb⟩ : ∃ z, z = w.heap.size := ⟨_, rfl⟩
 have G1 : Hid (Grew w w1) := by unfold Hid; rw [hw1]; exact (Grew.refl w).alloc _
 have HSB : Hid (Blk w1 sb 71 [.slice CA cn cc, .int .i64 ru, .slice FA fn fc]) := by unfold Hid; rw [hw1, hsb]; exact Blk.new w 71 [.slice CA cn cc, .int .i64 ru, .slice FA fn fc]
 have HW1 : Hid (w1.heap.size = sb + 1 ∧ w.heap.size = sb) := by unfold Hid; rw [hw1, hsb]; simp
 go_enter Tryz.func122, Tryz.ntmps122
 go_upto_region 1 with (fail)
 rw [← hw1, ← hsb]
 clear hw1 hsb
 have s0 : w1.cell? ⟨sb, 0, none⟩ = some (.slice CA cn cc) := HSB.out.cell rfl
 have s2 : w1.cell? ⟨sb, 2, none⟩ = some (.slice FA fn fc) := HSB.out.cell rfl
 by_cases h1 : fn = 0
 ·have r1 : (fn == 0) = true := by simpa using h1
  have r2 : ((fn : Int) == 0) = true := by simp; omega
  by_cases h2 : cn = 0
  ·have r3 : decide (0 < cn) = false := decide_eq_false (by omega)
   have r4 : decide ((0 : Int) < (cn : Int)) = false := decide_eq_false (by omega)
   have r5 : decide ((cn : Int) > 0) = false := decide_eq_false (by omega)
   have HN : Hid (D = none) := by unfold Hid; rw [← HDE.out, if_neg (by omega)]
   clear h1 h2
   go_wp2_with fail
   refine (require96 _ _).mono ?_
   rintro r w4 ⟨hj, rfl⟩
   obtain rfl : r = .panicked failC := hj
   exact ⟨rfl, RetDn.bad HN.out G1.out⟩
  ·have r3 : decide (0 < cn) = true := decide_eq_true (by omega)
   have r4 : decide ((0 : Int) < (cn : Int)) = true := decide_eq_true (by omega)
   have r5 : decide ((cn : Int) > 0) = true := decide_eq_true (by omega)
   have HDD : Hid (deny (List.replicate p.dn (-1)) cl = D) := by unfold Hid; rw [← HDE.out, if_pos ⟨h1, h2⟩]
   clear h1 h2 HDE
   go_wp2_with fail
   refine (require96 _ _).mono ?_
   rintro r w4 ⟨hj, rfl⟩
   obtain rfl : r = .returned (.tuple #[]) := hj
   clear r1 r2 r3 r4 r5 s0 s2
   obtain ⟨w3, rfl⟩ : ∃ y : World, y = w4 := ⟨_, rfl⟩
   have c3 := G1.out.cell HC3.out
   obtain ⟨wm, hmk, hown, gm⟩ := make_full w.heap.size p.dn (by omega) w3 G1.out.le
   obtain ⟨rb, hrb⟩ : ∃ z, z = w3.heap.size := ⟨_, rfl⟩
   rw [← hrb] at hmk hown
   have HRB : Hid (w.heap.size ≤ rb) := by unfold Hid; rw [hrb]; exact G1.out.le
   obtain ⟨l0, hl0⟩ : ∃ l, l = List.replicate p.dn (-1 : Int) := ⟨_, rfl⟩
   have HLL : Hid (l0.length = p.dn) := by unfold Hid; rw [hl0, List.length_replicate]
   have HL0 : Hid (∀ j, j < p.dn → l0[j]? = some (-1)) := fun j hj => by rw [hl0, List.getElem?_replicate]; simp [hj]
   rw [← hl0] at HDD
   have HOW : Hid (wm.ownsRow w.heap.size 3 1 (.slice (some ⟨rb, 0, none⟩) p.dn p.dn) p.dn ((l0.take 0 ++ List.replicate (p.dn - 0) 0).map iv)) := hown
   have HGM := Lib.hid (G1.out.trans gm)
   have HSM := Lib.hid (HSB.out.grew gm)
   have HBR : Hid (sb ≠ rb) := by unfold Hid; have := HW1.out; omega
   clear hown gm hl0 hrb
   go_upto_region 3 with (fail)
   clear hmk c3
   go_wp2_with fail
   go_loopw [30] (fun i y => ∃ j : Nat, j ≤ p.dn ∧ i = .int .i64 j ∧ Hid (y.ownsRow w.heap.size 3 1 (.slice (some ⟨rb, 0, none⟩) p.dn p.dn) p.dn ((l0.take j ++ List.replicate (p.dn - j) 0).map iv)) ∧ Hid (Blk y sb 71 [.slice CA cn cc, .int .i64 ru, .slice FA fn fc]) ∧ Hid (Grew w y)) (fun i _ => p.dn - (intOf i).toNat)
   case atStart => exact ⟨0, Nat.zero_le _, rfl, HOW.out, HSM.out, HGM.out⟩
   case round =>
    clear HOW HSM HGM
    obtain ⟨j, hj, rfl, OW, HS, HR⟩ := hrel
    by_cases hlj : j < p.dn
    ·have e1 : (0 : Int) ≤ (j : Int) := by omega
     have e2 : (j : Int) < (p.dn : Int) := by omega
     have c0 := (OW.out.cellAt j (by omega)).trans (fillI_at HLL.out hlj)
     have f0 := OW.out.frozenAt j
     have OS := OW.out.stored j (iv (-1))
     rw [fillI_set HLL.out (HL0.out j hlj)] at OS
     have HOS := Lib.hid OS.1
     have HSn := Lib.hid (HS.out.kept OS.2 (fun e => HBR.out (by injection e)))
     have HRn := Lib.hid (HR.out.grown OS.2 (fun q hq => by injection hq with hq; have := HRB.out; omega))
     obtain ⟨wn, hwn⟩ : ∃ y, y = wr.setCell ⟨rb, j, none⟩ (iv (-1)) := ⟨_, rfl⟩
     rw [← hwn] at HOS HSn HRn
     have hwn' : wn = wr.setCell ⟨rb, j, none⟩ (.int .i64 (-1)) := hwn
     clear OS OW HS HR hwn
     go_upto_region 7 with (fail)
     rw [← hwn']
     clear hwn' c0 f0
     go_wp2_with fail
     go_roundw
     case rel => exact ⟨j + 1, by omega, by go_num, HOS, HSn, HRn⟩
     case measure => simp [intOf]; omega
    ·obtain rfl : p.dn = j := by omega
     have OWl : Hid (wr.ownsRow w.heap.size 3 1 (.slice (some ⟨rb, 0, none⟩) p.dn p.dn) p.dn (l0.map iv)) := by have h1 := OW.out; rw [fillI_all HLL.out] at h1; exact h1
     clear OW
     have s0 : wr.cell? ⟨sb, 0, none⟩ = some (.slice CA cn cc) := HS.out.cell rfl
     obtain ⟨w6, rfl⟩ : ∃ y : World, y = wr := ⟨_, rfl⟩
     go_wp2_with fail
     clear s0
     go_loopw [40] (fun i y => ∃ (k : Nat) (r : List Int), k ≤ cn ∧ i = .int .i64 k ∧ Hid (deny r (cl.drop k) = D) ∧ Hid (r.length = p.dn) ∧ Hid (y.ownsRow w.heap.size 3 1 (.slice (some ⟨rb, 0, none⟩) p.dn p.dn) p.dn (r.map iv)) ∧ Hid (Grew w y)) (fun i _ => cn - (intOf i).toNat)
     case atStart => exact ⟨0, l0, Nat.zero_le _, rfl, HDD.out, HLL.out, OWl.out, HR.out⟩
     case round =>
      clear HDD HLL HL0 OWl HR HS
      obtain ⟨k, r, hk, rfl, HDK, HRL, OW, HR⟩ := hrel
      by_cases hlt : k < cn
      ·obtain ⟨b, o, l, hA, hl, c0, c1, c2⟩ := Recs.lit (HCL.out.grew HR.out) hlt
       have hpl := of_decide_eq_true (HPR.out l (List.mem_of_getElem? hl))
       have HDS : Hid ((if (!l.is && decide (r.getD l.d.toNat 0 < 0)) = true then deny (r.set l.d.toNat l.w) (cl.drop (k + 1)) else none) = D) := by
        have h1 := HDK.out
        rw [drop_at' hl] at h1
        unfold deny at h1
        exact h1
       clear HDK hl
       obtain ⟨ld, lw, lis⟩ := l
       have hpl2 : 0 ≤ ld ∧ ld < (p.dn : Int) ∧ 0 ≤ lw ∧ lw < (p.wn : Int) := hpl
       obtain ⟨dN, rfl⟩ : ∃ z : Nat, ld = (z : Int) := ⟨ld.toNat, by omega⟩
       have hdN : dN < p.dn := by omega
       obtain ⟨x, hx⟩ : ∃ x, r[dN]? = some x := ⟨_, List.getElem?_eq_getElem (by rw [HRL.out]; exact hdN)⟩
       have HDT : Hid ((if (!lis && decide (x < 0)) = true then deny (r.set dN lw) (cl.drop (k + 1)) else none) = D) := by
        have hgx : r.getD dN 0 = x := by rw [List.getD_eq_getElem?_getD, hx]; rfl
        have h1 : (if (!lis && decide (r.getD dN 0 < 0)) = true then deny (r.set dN lw) (cl.drop (k + 1)) else none) = D := HDS.out
        simp only [hgx] at h1
        exact h1
       have hxc : (r.map iv)[dN]? = some (.int .i64 x) := by rw [List.getElem?_map, hx]; rfl
       simp only at c0 c1 c2
       clear HDS hpl hx
       have e1 : (0 : Int) ≤ (k : Int) := by omega
       have e2 : (k : Int) < (cn : Int) := by omega
       subst hA
       obtain ⟨wa, hwa⟩ : ∃ y, y = wr.alloc (.cells #[.int .i64 (dN : Int), .int .i64 lw, .bool lis] 122) := ⟨_, rfl⟩
       obtain ⟨ba, hba⟩ : ∃ z, z = wr.heap.size := ⟨_, rfl⟩
       have HBA : Hid (Blk wa ba 122 [.int .i64 (dN : Int), .int .i64 lw, .bool lis]) := by unfold Hid; rw [hwa, hba]; exact Blk.new wr 122 [.int .i64 (dN : Int), .int .i64 lw, .bool lis]
       have ga : Grew wr wa := by rw [hwa]; exact (Grew.refl wr).alloc _
       go_upto_region 11 with (fail)
       rw [← hwa, ← hba]
       have OWa := Lib.hid (own_grew OW.out ga)
       have HRa := Lib.hid (HR.out.trans ga)
       clear hwa hba c0 c1 c2 ga OW HR
       have u0 : wa.cell? ⟨ba, 0, none⟩ = some (.int .i64 (dN : Int)) := HBA.out.cell rfl
       have u1 : wa.cell? ⟨ba, 1, none⟩ = some (.int .i64 lw) := HBA.out.cell rfl
       have u2 : wa.cell? ⟨ba, 2, none⟩ = some (.bool lis) := HBA.out.cell rfl
       have i1 : (0 : Int) ≤ (dN : Int) := by omega
       have i2 : (dN : Int) < (p.dn : Int) := by omega
       have cR := (OWa.out.cellAt dN (by omega)).trans hxc
       have fR := OWa.out.frozenAt dN
       cases lis with
       | true =>
        have HN : Hid (D = none) := by unfold Hid; rw [← HDT.out]; rfl
        go_wp2_with fail
        refine (require96 _ _).mono ?_
        rintro r w4 ⟨hj, rfl⟩
        obtain rfl : r = .panicked failC := hj
        exact ⟨rfl, RetDn.bad HN.out HRa.out⟩
       | false =>
        by_cases hx0 : x < 0
        ·have z0 : decide (x < 0) = true := decide_eq_true hx0
         have HD2 : Hid (deny (r.set dN lw) (cl.drop (k + 1)) = D) := by unfold Hid; rw [← HDT.out, z0]; rfl
         clear HDT hx0
         go_wp2_with fail
         refine (require96 _ _).mono ?_
         rintro r' w4 ⟨hj, rfl⟩
         obtain rfl : r' = .returned (.tuple #[]) := hj
         clear z0
         have OS := OWa.out.stored dN (iv lw)
         have HOS1 := OS.1
         rw [← List.map_set] at HOS1
         have HOS := Lib.hid HOS1
         have HRn := Lib.hid (HRa.out.grown OS.2 (fun q hq => by injection hq with hq; have := HRB.out; omega))
         have HRLn : Hid ((r.set dN lw).length = p.dn) := by unfold Hid; rw [List.length_set]; exact HRL.out
         clear OS HOS1
         go_wp2_with fail
         go_roundw
         case rel => exact ⟨k + 1, r.set dN lw, by omega, by go_num, HD2, HRLn, HOS, HRn⟩
         case measure => simp [intOf]; omega
        ·have z0 : decide (x < 0) = false := decide_eq_false hx0
         have HN : Hid (D = none) := by unfold Hid; rw [← HDT.out, z0]; rfl
         go_wp2_with fail
         refine (require96 _ _).mono ?_
         rintro r w4 ⟨hj, rfl⟩
         obtain rfl : r = .panicked failC := hj
         exact ⟨rfl, RetDn.bad HN.out HRa.out⟩
      ·obtain rfl : cn = k := by omega
       have HDF : Hid (some r = D) := by have h1 := HDK.out; rw [← HLN.out, List.drop_length] at h1; exact h1
       go_wp2
       go_ret
       rw [← HDF.out]
       exact ⟨_, _, rfl, OW.out, HRL.out, HR.out⟩
 ·have r1 : (fn == 0) = false := by simpa using h1
  have r2 : ((fn : Int) == 0) = false := by simp; omega
  have HN : Hid (D = none) := by unfold Hid; rw [← HDE.out, if_neg (by omega)]
  clear h1
  go_wp2_with fail
  refine (require96 _ _).mono ?_
  rintro r w4 ⟨hj, rfl⟩
  obtain rfl : r = .panicked failC := hj
  exact ⟨rfl, RetDn.bad HN.out G1.out⟩
end Go.Proofs.YtnnbibmmofnkdaaGreat
