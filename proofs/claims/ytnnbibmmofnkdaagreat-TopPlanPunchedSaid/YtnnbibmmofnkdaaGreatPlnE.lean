/-
 The planner: its log, append, some.
-/
import Derived.Test.YtnnbibmmofnkdaaGreatPlnD
namespace Go.Proofs.YtnnbibmmofnkdaaGreat
open Go.RowKit Go.Proofs WageMem WageReg WageRec WageSpan WageTop
/-- A literal's and a step's cells. -/
def encL (l : Li) : List Value := [.int .i64 l.d, .int .i64 l.w, .bool l.is]
theorem encL_ok : EncOk encL 3 := ⟨fun _ => rfl, by decide, fun x u hu => by
 simp only [encL, List.mem_cons, List.not_mem_nil, or_false] at hu
 rcases hu with rfl | rfl | rfl <;> rfl⟩
structure Qs where
 cl : Pc
 ru : Int
 fr : Pc
def encQ (q : Qs) : List Value := [pcV q.cl, .int .i64 q.ru, pcV q.fr]
theorem encQ_ok : EncOk encQ 3 := ⟨fun _ => rfl, by decide, fun x u hu => by
 simp only [encQ, List.mem_cons, List.not_mem_nil, or_false] at hu
 rcases hu with rfl | rfl | rfl <;> rfl⟩
/-- A step in memory, its parts in rows of their own; where it comes from lies in a block as Pr says. -/
structure StepAt (base : Nat) (Pr : Nat → Prop) (y : World) (q : Qs) (s : Stp) : Prop where
 ru : q.ru = s.rule
 cn : s.cl.length = q.cl.n
 cl : y.ownsRow base 122 3 (pcV q.cl) q.cl.n (s.cl.flatMap encL)
 fn : s.frm.length = q.fr.n
 fr : y.ownsRow base 3 1 (pcV q.fr) q.fr.n (s.frm.map iv)
 pr : ∀ b, (pcV q.fr).ownBlock = some b → Pr b
/-- A log in memory. -/
structure LogAt (base : Nat) (Pr : Nat → Prop) (y : World) (G : Value) (log : List Stp) : Prop where
 ex : ∃ qs : List Qs, y.ownsRow base 71 3 G log.length (qs.flatMap encQ) ∧ qs.length = log.length ∧ ∀ (i : Nat) q s, qs[i]? = some q → log[i]? = some s → StepAt base Pr y q s
theorem StepAt.kept {base : Nat} {Pr : Nat → Prop} {y y' : World} {q : Qs} {s : Stp} (h : StepAt base Pr y q s) {row : Option Nat} (g : y.grownBy y' row) (h1 : (pcV q.cl).ownBlock = none ∨ (pcV q.cl).ownBlock ≠ row) (h2 : (pcV q.fr).ownBlock = none ∨ (pcV q.fr).ownBlock ≠ row) : StepAt base Pr y' q s :=
 ⟨h.ru, h.cn, h.cl.kept g h1, h.fn, h.fr.kept g h2, h.pr⟩
theorem LogAt.nil {base : Nat} {Pr : Nat → Prop} {y : World} : LogAt base Pr y (.slice none 0 0) [] := ⟨[], World.ownsRow_nil _ _ _ _, rfl, fun i q s h => by simp at h⟩
/-- A log stays where a block of another type is written, that is not one of its rows. -/
theorem LogAt.kept {base : Nat} {Pr : Nat → Prop} {y y' : World} {G : Value} {log : List Stp} (h : LogAt base Pr y G log) {row : Option Nat} (g : y.grownBy y' row)
  (h71 : ∀ v n xs, y.ownsRow base 71 3 v n xs → v.ownBlock = none ∨ v.ownBlock ≠ row) (h122 : ∀ v n xs, y.ownsRow base 122 3 v n xs → v.ownBlock = none ∨ v.ownBlock ≠ row)
  (h3 : ∀ v n xs, y.ownsRow base 3 1 v n xs → (∀ b, v.ownBlock = some b → Pr b) → v.ownBlock = none ∨ v.ownBlock ≠ row) : LogAt base Pr y' G log := by
 obtain ⟨qs, h4, h5, h6⟩ := h
 exact ⟨qs, h4.kept g (h71 _ _ _ h4), h5, fun i q s hq hs => by
  have h7 := h6 i q s hq hs
  exact h7.kept g (h122 _ _ _ h7.cl) (h3 _ _ _ h7.fr h7.pr)⟩
theorem LogAt.grew {base : Nat} {Pr : Nat → Prop} {y y' : World} {G : Value} {log : List Stp} (h : LogAt base Pr y G log) (g : Grew y y') : LogAt base Pr y' G log := by
 obtain ⟨qs, h4, h5, h6⟩ := h
 exact ⟨qs, own_grew h4 g, h5, fun i q s hq hs => by
  obtain ⟨a1, a2, a3, a4, a5, a6⟩ := h6 i q s hq hs
  exact ⟨a1, a2, own_grew a3 g, a4, own_grew a5 g, a6⟩⟩
theorem LogAt.imp {base : Nat} {Pr Pr' : Nat → Prop} {y : World} {G : Value} {log : List Stp} (h : LogAt base Pr y G log) (hi : ∀ b, b < y.heap.size → Pr b → Pr' b) : LogAt base Pr' y G log := by
 obtain ⟨qs, h4, h5, h6⟩ := h
 exact ⟨qs, h4, h5, fun i q s hq hs => by
  obtain ⟨a1, a2, a3, a4, a5, a6⟩ := h6 i q s hq hs
  exact ⟨a1, a2, a3, a4, a5, fun b hb => hi b (a5.lt b hb).2 (a6 b hb)⟩⟩
theorem LogAt.blk {base : Nat} {Pr : Nat → Prop} {y : World} {G : Value} {log : List Stp} (h : LogAt base Pr y G log) {b : Nat} {t : TypeId} {cs : List Value} (hb : Blk y b t cs) (h1 : t ≠ 71) (h2 : t ≠ 122) (h3 : t ≠ 3) (i : Nat) (u : Value) : LogAt base Pr (y.setCell ⟨b, i, none⟩ u) G log :=
 h.kept (grown_set y b i u) (fun _ _ _ h => own_blk' h hb h1.symm) (fun _ _ _ h => own_blk' h hb h2.symm) (fun _ _ _ h _ => own_blk' h hb h3.symm)
/-- A step more. -/
theorem LogAt.snoc {base : Nat} {Pr : Nat → Prop} {y y' : World} {G G' : Value} {log : List Stp} (h : LogAt base Pr y G log) {q : Qs} {s : Stp} (hs : StepAt base Pr y q s) (g : y.grownBy y' G.ownBlock)
  (hnew : ∀ qs : List Qs, y.ownsRow base 71 3 G log.length (qs.flatMap encQ) → y'.ownsRow base 71 3 G' (log.length + 1) (qs.flatMap encQ ++ encQ q)) : LogAt base Pr y' G' (log ++ [s]) := by
 obtain ⟨qs, h4, h5, h6⟩ := h
 have h7 := hnew qs h4
 have k : ∀ q s, StepAt base Pr y q s → StepAt base Pr y' q s := fun q s h => h.kept g (own_apart h.cl h4 (by decide)) (own_apart h.fr h4 (by decide))
 refine ⟨qs ++ [q], by rw [List.length_append, List.flatMap_append, List.flatMap_singleton]; exact h7, by rw [List.length_append, List.length_append, h5]; rfl, fun i q' s' hq hs' => ?_⟩
 by_cases hi : i < qs.length
 ·rw [List.getElem?_append_left hi] at hq
  rw [List.getElem?_append_left (by omega)] at hs'
  exact k _ _ (h6 i q' s' hq hs')
 ·rw [List.getElem?_append_right (by omega)] at hq hs'
  have h8 : i - qs.length = 0 := by have := (List.getElem?_eq_some_iff.1 hq).1; simp at this; omega
  rw [h8] at hq
  rw [← h5, h8] at hs'
  simp at hq hs'
  subst hq hs'
  exact k _ _ hs
/-- Nothing changes but the search, the prefix and rows of steps. -/
def KeepT (sb pb : Nat) (y y' : World) : Prop := y.heap.size ≤ y'.heap.size ∧ ∀ (k : Nat) (o : Obj), y.heap[k]? = some o → k ≠ sb → k ≠ pb → (∀ cs fz, o ≠ .cells cs 71 fz) → y'.heap[k]? = some o
theorem KeepT.refl (sb pb : Nat) (y : World) : KeepT sb pb y y := ⟨Nat.le_refl _, fun _ _ h _ _ _ => h⟩
theorem KeepT.trans {sb pb : Nat} {a b c : World} (h : KeepT sb pb a b) (k : KeepT sb pb b c) : KeepT sb pb a c := ⟨Nat.le_trans h.1 k.1, fun i o h1 h2 h3 h4 => k.2 i o (h.2 i o h1 h2 h3 h4) h2 h3 h4⟩
theorem KeepT.grew {sb pb : Nat} {a b : World} (g : Grew a b) : KeepT sb pb a b := ⟨g.le, fun _ _ h _ _ _ => g.block h⟩
theorem KeepT.grown {sb pb : Nat} {a b : World} {row : Option Nat} (g : a.grownBy b row) (hr : ∀ q, row = some q → q = sb ∨ q = pb ∨ ∃ cs fz, a.heap[q]? = some (.cells cs 71 fz)) : KeepT sb pb a b :=
 ⟨g.size, fun k o h1 h2 h3 h4 => (g.block k (Array.getElem?_eq_some_iff.1 h1).1 (fun h => by
  rcases hr k h.symm with h5 | h5 | ⟨cs, fz, h5⟩
  ·exact h2 h5
  ·exact h3 h5
  ·rw [h1] at h5; injection h5 with h5; exact h4 cs fz h5)).trans h1⟩
theorem own_keepT {sb pb : Nat} {y y' : World} {base : Nat} {e : TypeId} {size : Nat} {v : Value} {n : Nat} {xs : List Value} (h : y.ownsRow base e size v n xs) (k : KeepT sb pb y y') (he : e ≠ 71) (h1 : ∀ q, v.ownBlock = some q → q ≠ sb ∧ q ≠ pb) : y'.ownsRow base e size v n xs := by
 refine ⟨h.1, ?_⟩
 rcases h.2 with h0 | ⟨g, cap, cur, a1, a2, a3, a4⟩
 ·exact .inl h0
 ·obtain ⟨b1, b2⟩ := h1 g (by rw [a1]; rfl)
  exact .inr ⟨g, cap, cur, a1, a2, k.2 _ _ a3 b1 b2 (fun cs fz hh => by injection hh with _ hh _; exact he hh), a4⟩
theorem own_row71 {y : World} {base : Nat} {G : Value} {n : Nat} {xs : List Value} (h : y.ownsRow base 71 3 G n xs) : ∀ q, G.ownBlock = some q → ∃ cs fz, y.heap[q]? = some (.cells cs 71 fz) := by
 intro q hq
 rcases h.2 with ⟨rfl, _⟩ | ⟨g, cap, cur, rfl, _, h3, _⟩
 ·cases hq
 ·injection hq with hq
  simp only at hq
  subst hq
  exact ⟨_, _, h3⟩
/-- The search in memory while it refutes. -/
structure RefAt (p : Pl) (w1 : World) (cb sb lb : Nat) (V B : Value) (cost : Int) (Pr : Nat → Prop) (y : World) (s : Rs) : Prop where
 ex : ∃ GA gc, Blk y sb 94 (srC p cb (.slice (some ⟨lb, 0, none⟩) (p.dn + 1) (p.dn + 1)) s.fuel V true B cost (.slice GA s.log.length gc)) ∧ LogAt w1.heap.size Pr y (.slice GA s.log.length gc) s.log
 lst : Blk y lb 3 (lstF (envP p) p.dn 0)
 fuel : -1 ≤ s.fuel ∧ s.fuel ≤ 1000000
theorem RefAt.grew {p : Pl} {w1 : World} {cb sb lb : Nat} {V B : Value} {cost : Int} {Pr : Nat → Prop} {y y' : World} {s : Rs} (h : RefAt p w1 cb sb lb V B cost Pr y s) (g : Grew y y') : RefAt p w1 cb sb lb V B cost Pr y' s := by
 obtain ⟨⟨GA, gc, h1, h2⟩, h3, h4⟩ := h
 exact ⟨⟨GA, gc, h1.grew g, h2.grew g⟩, h3.grew g, h4⟩
theorem info71 : (Tryz.prog.info? 71).map (fun i => (i.zero, i.size, i.bytes)) = some (some (.agg #[.slice none 0 0, .int .i64 0, .slice none 0 0]), 3, 56) := by kernel_rfl
theorem own_inj {w : World} {base base' : Nat} {e : TypeId} {size : Nat} {v : Value} {n : Nat} {xs ys : List Value} (h : w.ownsRow base e size v n xs) (h' : w.ownsRow base' e size v n ys) : xs = ys := by
 rcases h.2 with ⟨rfl, rfl⟩ | ⟨g, cap, cur, rfl, _, h3, _, _, _, h7⟩
 ·have h1 := h.1
  have h2 := h'.1
  simp at h1 h2
  rw [h1, h2]
 ·rcases h'.2 with ⟨h0, _⟩ | ⟨g', cap', cur', h1, _, h3', _, _, _, h7'⟩
  ·cases h0
  ·injection h1 with h1 _ _
   injection h1 with h1
   injection h1 with h1
   subst h1
   rw [h3] at h3'
   injection h3' with h3'
   injection h3' with h3' _ _
   subst h3'
   rw [← h7, ← h7']
theorem ret_two {a b c d : Int} (h : a = b) (k : c = d) : Ending.returned (.tuple #[.int .i64 a, .int .i64 c]) = .returned (.tuple #[.int .i64 b, .int .i64 d]) := by rw [h, k]
/-- What append returns. -/
def RetAp (p : Pl) (w1 : World) (cb sb lb pb : Nat) (V B : Value) (cost : Int) (Pr : Nat → Prop) (y : World) (fin : Rs × Option Int) (r : Ending) (y' : World) : Prop :=
 ∃ j, r = .returned (.tuple #[.int .i64 j, .int .i64 (if fin.2.isSome then 0 else 201)]) ∧ (fin.2 = none ∨ (fin.2 = some j ∧ RefAt p w1 cb sb lb V B cost Pr y' fin.1 ∧ KeepT sb pb y y')) ∧ Grew w1 y'
set_option maxRecDepth 100000 in
set_option maxHeartbeats 16000000 in
theorem app81 {p : Pl} {w1 : World} {cb sb lb pb : Nat} {V B : Value} {cost : Int} {Pr : Nat → Prop} {y : World} {s : Rs} (h : RefAt p w1 cb sb lb V B cost Pr y s) (hne : lb ≠ sb ∧ w1.heap.size ≤ sb) (hg : Grew w1 y)
  {CA : Option Addr} {cn cc : Nat} {cl : List Li} {FA : Option Addr} {fn fc : Nat} {fr : List Int} {ru : Int} (hcl : y.ownsRow w1.heap.size 122 3 (.slice CA cn cc) cn (cl.flatMap encL)) (hcn : cl.length = cn) (hfr : y.ownsRow w1.heap.size 3 1 (.slice FA fn fc) fn (fr.map iv)) (hfn : fr.length = fn) (hpr : ∀ b, (Value.slice FA fn fc).ownBlock = some b → Pr b) :
  Calls Tryz.prog 81 #[.pointer (some ⟨sb, 0, none⟩), .agg #[.slice CA cn cc, .int .i64 ru, .slice FA fn fc]] y (RetAp p w1 cb sb lb pb V B cost Pr y (appendS ⟨cl, ru, fr⟩ s)) := by
 obtain ⟨i0, hi0, hz0, hz1, hz2⟩ := info_parts info71
 obtain ⟨⟨GA, gc, hb, hlog⟩, hl, hfu⟩ := h
 have HFU := Lib.hid hfu
 have HNE := Lib.hid hne
 have HCL := Lib.hid hcl
 have HCN := Lib.hid hcn
 have HFR := Lib.hid hfr
 have HFN := Lib.hid hfn
 have HPR := Lib.hid hpr
 obtain ⟨y1, hy1⟩ : ∃ q, q = y.alloc (.cells #[.slice CA cn cc, .int .i64 ru, .slice FA fn fc] 71) := ⟨_, rfl⟩
 obtain ⟨bx, hbx⟩ : ∃ z, z = y.heap.size := ⟨_, rfl⟩
 have g1 : Grew y y1 := by rw [hy1]; exact (Grew.refl y).alloc _
 have HBX : Hid (Blk y1 bx 71 [.slice CA cn cc, .int .i64 ru, .slice FA fn fc]) := by unfold Hid; rw [hy1, hbx]; exact Blk.new y 71 [.slice CA cn cc, .int .i64 ru, .slice FA fn fc]
 have HROW : Hid (∀ q, (Value.slice GA s.log.length gc).ownBlock = some q → q < bx) := fun q hq => by obtain ⟨qs, h1, _⟩ := hlog.ex; rw [hbx]; exact (h1.lt q hq).2
 have HBS : Hid (bx ≠ sb) := by have := hb.lt; unfold Hid; omega
 have HB1 := Lib.hid (hb.grew g1)
 have HL1 := Lib.hid (hl.grew g1)
 have HLG1 := Lib.hid (hlog.grew g1)
 have HGy := Lib.hid g1
 have HG1 := Lib.hid (hg.trans g1)
 have HGo := Lib.hid hg
 have c17 : y1.cell? ⟨sb, 17, none⟩ = some (.slice GA s.log.length gc) := HB1.out.cell rfl
 go_enter Tryz.func81, Tryz.ntmps81
 go_upto_region 1 with (fail)
 rw [← hy1, ← hbx]
 have hlen : s.log.length < 20000 ∨ 20000 ≤ s.log.length := by omega
 clear hy1 hbx hb hl hlog hg g1 hcl hcn hfr hfn hpr hne hfu
 rcases hlen with hlen | hlen
 ·have q1 : ¬ ((20000 : Int) ≤ (s.log.length : Int)) := by omega
  have q2 : ¬ (20000 ≤ s.log.length) := by omega
  go_upto_region 3 with (fail)
  clear c17
  obtain ⟨yx, hyx⟩ : ∃ q, q = y1.drew := ⟨_, rfl⟩
  have gx : Grew y1 yx := by rw [hyx]; exact (Grew.refl y1).drew
  have HS0 : yx.cell? ⟨bx, 0, none⟩ = some (.slice CA cn cc) ∧ yx.cell? ⟨bx, 1, none⟩ = some (.int .i64 ru) ∧ yx.cell? ⟨bx, 2, none⟩ = some (.slice FA fn fc) := by
   have hb := HBX.out.grew gx; exact ⟨hb.cell rfl, hb.cell rfl, hb.cell rfl⟩
  refine wp_region_H (by kernel_rfl) (fun w' => w'.cell? ⟨bx, 0, none⟩ = some (.slice CA cn cc) ∧ w'.cell? ⟨bx, 1, none⟩ = some (.int .i64 ru) ∧ w'.cell? ⟨bx, 2, none⟩ = some (.slice FA fn fc)) ?_
  rw [← hyx]
  clear hyx
  refine wpAnyH_takes (fun _ _ _ _ _ h => h) HS0 [0, 1, 2, 3, 5] (fuel' := 6) (by kernel_rfl) (by kernel_rfl) (by simp only [pickOps, ugT, ug0, ug1]; rfl) ?_
  repeat (first
   | (refine TakeP.pure (v := ?_) (by rfl) ?_ ?_; rotate_left; (intro w' u0; obtain ⟨u0, u1, u2⟩ := u0; go_simp; first | done | with_reducible rfl); simp only [Act.put, uzT, uz0, uz1]))
  refine TakeP.nil ?_
  refine wpAnyH_two (i := 4) (j := 6) (by kernel_rfl) (fuel' := 5) (by kernel_rfl) (by simp only [pickOps, ugT, ug0, ug1]; rfl) rfl (by simp only [pickOps, ugT, ug0, ug1]; rfl) rfl ?_ ?_
  ·intro K hK
   have c17 : yx.cell? ⟨sb, 17, none⟩ = some (.slice GA s.log.length gc) := (HB1.out.grew gx).cell rfl
   go_simp
   refine hK _ _ HS0 ?_
   clear hK K c17
   refine wpAnyH_step (i := 6) (by kernel_rfl) (fuel' := 4) (by kernel_rfl) (by simp only [pickOps, ugT, ug0, ug1]; rfl) (by rfl) ?_
   intro K hK
   go_simp
   have g45 : Grew yx (yx.alloc (.cells #[.slice CA cn cc, .int .i64 ru, .slice FA fn fc] 71)) := (Grew.refl yx).alloc _
   refine hK _ _ ⟨g45.cell HS0.1, g45.cell HS0.2.1, g45.cell HS0.2.2⟩ ?_
   clear hK K
   have BI := Lib.hid (builtS (w := yx) (t := 71) 3 1 #[.slice CA cn cc, .int .i64 ru, .slice FA fn fc] (encQ ⟨⟨CA, cn, cc⟩, ru, ⟨FA, fn, fc⟩⟩) rfl rfl (by decide))
   obtain ⟨y5, hy5⟩ : ∃ q, q = yx.alloc (.cells #[.slice CA cn cc, .int .i64 ru, .slice FA fn fc] 71) := ⟨_, rfl⟩
   have HS5 : y5.cell? ⟨bx, 0, none⟩ = some (.slice CA cn cc) ∧ y5.cell? ⟨bx, 1, none⟩ = some (.int .i64 ru) ∧ y5.cell? ⟨bx, 2, none⟩ = some (.slice FA fn fc) := by rw [hy5]; exact ⟨g45.cell HS0.1, g45.cell HS0.2.1, g45.cell HS0.2.2⟩
   rw [← hy5] at BI g45 ⊢
   clear hy5
   have G5 := gx.trans g45
   refine wpAnyH_step (i := 7) (by kernel_rfl) (fuel' := 3) (by kernel_rfl) (by simp only [pickOps, ugT, ug0, ug1]; rfl) (by rfl) ?_
   intro K hK
   have HLG5 := HLG1.out.grew G5
   obtain ⟨qs0, ho71, _, _⟩ := HLG5.ex
   refine wp_append_sl y5 (.tmp 16) (.tmp 18) 39 rfl w1.heap.size 71 i0 (.agg #[.slice none 0 0, .int .i64 0, .slice none 0 0]) 3 56 Tryz.underlying39 hi0 hz0 hz1 hz2 rfl (by decide) (.slice GA s.log.length gc) s.log.length _ rfl ho71 (some ⟨yx.heap.size, 0, none⟩) 1 1 _ rfl BI.out (fun u hu => encQ_ok.one _ u hu) (by unfold maxLen; omega) (by omega) (HG1.out.trans G5).le ?_
   intro v7 y7 own7 hg7 hat7
   obtain ⟨A7, c7, rfl⟩ := own_form own7
   have hrow : ∀ q, (Value.slice GA s.log.length gc).ownBlock = some q → q < bx := HROW.out
   have hbx7 : Blk y7 bx 71 [.slice CA cn cc, .int .i64 ru, .slice FA fn fc] := (HBX.out.grew G5).kept hg7 (fun e => by have := hrow bx e.symm; omega)
   have hS7 : y7.cell? ⟨bx, 0, none⟩ = some (.slice CA cn cc) ∧ y7.cell? ⟨bx, 1, none⟩ = some (.int .i64 ru) ∧ y7.cell? ⟨bx, 2, none⟩ = some (.slice FA fn fc) := ⟨hbx7.cell rfl, hbx7.cell rfl, hbx7.cell rfl⟩
   refine hK _ _ hS7 ?_
   clear hK K
   have HB7 := Lib.hid ((HB1.out.grew G5).kept hg7 (own_blk ho71 (HB1.out.grew G5) (by decide)))
   have HL7 := Lib.hid ((HL1.out.grew G5).kept hg7 (own_blk ho71 (HL1.out.grew G5) (by decide)))
   have HST5 : StepAt w1.heap.size Pr y5 ⟨⟨CA, cn, cc⟩, ru, ⟨FA, fn, fc⟩⟩ ⟨cl, ru, fr⟩ := ⟨rfl, HCN.out, own_grew HCL.out (HGy.out.trans G5), HFN.out, own_grew HFR.out (HGy.out.trans G5), HPR.out⟩
   have HLG7 : Hid (LogAt w1.heap.size Pr y7 (.slice A7 (s.log.length + 1) c7) (s.log ++ [⟨cl, ru, fr⟩])) := HLG5.snoc HST5 hg7 (fun qs h => by
    have h1 : qs.flatMap encQ = qs0.flatMap encQ := own_inj h ho71
    rw [h1]; exact own7)
   have HG7 := Lib.hid ((HG1.out.trans G5).grown hg7 (fun q hq => (ho71.lt q hq).1))
   have HK7 : Hid (KeepT sb pb y y7) := (KeepT.grew (HGy.out.trans G5)).trans (KeepT.grown hg7 (fun q hq => .inr (.inr (own_row71 ho71 q hq))))
   have c17 : y7.cell? ⟨sb, 17, none⟩ = some (.slice GA s.log.length gc) := HB7.out.cell rfl
   have f17 := HB7.out.frozen 17
   clear own7 hg7 hat7 HLG5 HST5 hrow hbx7 ho71 BI G5 HBX HB1 HL1 HLG1
   refine wpAnyH_takes (fun _ _ _ _ _ h => h) hS7 [8, 9] (fuel' := 1) (by kernel_rfl) (by kernel_rfl) (by simp only [pickOps, ugT, ug0, ug1]; rfl) ?_
   repeat (first
    | (refine TakeP.pure (v := ?_) (by rfl) ?_ ?_; rotate_left; (intro w' u0; obtain ⟨u0, u1, u2⟩ := u0; go_simp; first | done | with_reducible rfl); simp only [Act.put, uzT, uz0, uz1]))
   refine TakeP.nil ?_
   refine wpAnyH_step (i := 10) (by kernel_rfl) (fuel' := 0) (by kernel_rfl) (by simp only [pickOps, ugT, ug0, ug1]; rfl) (by rfl) ?_
   intro K hK
   go_simp
   have hS8 : (y7.setCell ⟨sb, 17, none⟩ (.slice A7 (s.log.length + 1) c7)).cell? ⟨bx, 0, none⟩ = some (.slice CA cn cc) ∧ (y7.setCell ⟨sb, 17, none⟩ (.slice A7 (s.log.length + 1) c7)).cell? ⟨bx, 1, none⟩ = some (.int .i64 ru) ∧ (y7.setCell ⟨sb, 17, none⟩ (.slice A7 (s.log.length + 1) c7)).cell? ⟨bx, 2, none⟩ = some (.slice FA fn fc) :=
    ⟨(World.cell?_setCell_other _ _ _ _ (by simp)).trans hS7.1, (World.cell?_setCell_other _ _ _ _ (by simp)).trans hS7.2.1, (World.cell?_setCell_other _ _ _ _ (by simp)).trans hS7.2.2⟩
   refine hK _ _ hS8 ?_
   clear hK K c17 f17 hS7 hS8
   refine wpAnyH_done (by kernel_rfl) ?_ _
   have k17 := grown_set y7 sb 17 (.slice A7 (s.log.length + 1) c7)
   have HB8 := Lib.hid (HB7.out.set 17 (.slice A7 (s.log.length + 1) c7))
   have HL8 := Lib.hid (HL7.out.kept k17 (fun e => HNE.out.1 (by injection e)))
   have HLG8 := Lib.hid (HLG7.out.blk HB7.out (by decide) (by decide) (by decide) 17 (.slice A7 (s.log.length + 1) c7))
   have HG8 := Lib.hid (HG7.out.grown k17 (fun q hq => by injection hq with hq; have := HNE.out.2; omega))
   have HK8 := Lib.hid (HK7.out.trans (KeepT.grown (pb := pb) k17 (fun q hq => .inl (by injection hq with hq; exact hq.symm))))
   obtain ⟨y8, hy8⟩ : ∃ q, q = y7.setCell ⟨sb, 17, none⟩ (.slice A7 (s.log.length + 1) c7) := ⟨_, rfl⟩
   rw [← hy8] at HB8 HL8 HLG8 HG8 HK8 ⊢
   clear hy8 k17 HB7 HL7 HLG7 HG7 HK7
   have c17 : y8.cell? ⟨sb, 17, none⟩ = some (.slice A7 (s.log.length + 1) c7) := HB8.out.cell rfl
   have m1 : IntKind.i64.wrap (((s.log.length + 1 : Nat) : Int) - 1) = (s.log.length : Int) := by rw [show ((s.log.length + 1 : Nat) : Int) - 1 = (s.log.length : Int) by omega]; exact IntWalk.i64_in _ (by omega)
   have m2 : IntKind.i64.wrap ((s.log.length : Int) + 1 - 1) = (s.log.length : Int) := by rw [show (s.log.length : Int) + 1 - 1 = (s.log.length : Int) by omega]; exact IntWalk.i64_in _ (by omega)
   go_wp2
   go_ret2
   have HA : Hid (appendS ⟨cl, ru, fr⟩ s = (⟨s.fuel, s.log ++ [⟨cl, ru, fr⟩]⟩, some (s.log.length : Int))) := by unfold Hid appendS; rw [if_neg (by omega)]
   refine ⟨(s.log.length : Int), by rw [HA.out]; exact ret_two (by first | exact m2 | exact m1 | omega) rfl, .inr ⟨by rw [HA.out], ?_, HK8.out⟩, HG8.out⟩
   rw [HA.out]
   exact ⟨⟨A7, c7, by have := HB8.out; rw [show (s.log ++ [(⟨cl, ru, fr⟩ : Stp)]).length = s.log.length + 1 by simp]; exact this, by rw [show (s.log ++ [(⟨cl, ru, fr⟩ : Stp)]).length = s.log.length + 1 by simp]; exact HLG8.out⟩, HL8.out, HFU.out⟩
  ·intro K hK
   go_simp
   have g45 : Grew yx (yx.alloc (.cells #[.slice CA cn cc, .int .i64 ru, .slice FA fn fc] 71)) := (Grew.refl yx).alloc _
   refine hK _ _ ⟨g45.cell HS0.1, g45.cell HS0.2.1, g45.cell HS0.2.2⟩ ?_
   clear hK K
   have BI := Lib.hid (builtS (w := yx) (t := 71) 3 1 #[.slice CA cn cc, .int .i64 ru, .slice FA fn fc] (encQ ⟨⟨CA, cn, cc⟩, ru, ⟨FA, fn, fc⟩⟩) rfl rfl (by decide))
   obtain ⟨y5, hy5⟩ : ∃ q, q = yx.alloc (.cells #[.slice CA cn cc, .int .i64 ru, .slice FA fn fc] 71) := ⟨_, rfl⟩
   have HS5 : y5.cell? ⟨bx, 0, none⟩ = some (.slice CA cn cc) ∧ y5.cell? ⟨bx, 1, none⟩ = some (.int .i64 ru) ∧ y5.cell? ⟨bx, 2, none⟩ = some (.slice FA fn fc) := by rw [hy5]; exact ⟨g45.cell HS0.1, g45.cell HS0.2.1, g45.cell HS0.2.2⟩
   rw [← hy5] at BI g45 ⊢
   clear hy5
   refine wpAnyH_step (i := 4) (by kernel_rfl) (fuel' := 4) (by kernel_rfl) (by simp only [pickOps, ugT, ug0, ug1]; rfl) (by rfl) ?_
   intro K hK
   have c17 : y5.cell? ⟨sb, 17, none⟩ = some (.slice GA s.log.length gc) := (HB1.out.grew (gx.trans g45)).cell rfl
   go_simp
   refine hK _ _ HS5 ?_
   clear hK K c17
   have G5 := gx.trans g45
   refine wpAnyH_step (i := 7) (by kernel_rfl) (fuel' := 3) (by kernel_rfl) (by simp only [pickOps, ugT, ug0, ug1]; rfl) (by rfl) ?_
   intro K hK
   have HLG5 := HLG1.out.grew G5
   obtain ⟨qs0, ho71, _, _⟩ := HLG5.ex
   refine wp_append_sl y5 (.tmp 16) (.tmp 18) 39 rfl w1.heap.size 71 i0 (.agg #[.slice none 0 0, .int .i64 0, .slice none 0 0]) 3 56 Tryz.underlying39 hi0 hz0 hz1 hz2 rfl (by decide) (.slice GA s.log.length gc) s.log.length _ rfl ho71 (some ⟨yx.heap.size, 0, none⟩) 1 1 _ rfl BI.out (fun u hu => encQ_ok.one _ u hu) (by unfold maxLen; omega) (by omega) (HG1.out.trans G5).le ?_
   intro v7 y7 own7 hg7 hat7
   obtain ⟨A7, c7, rfl⟩ := own_form own7
   have hrow : ∀ q, (Value.slice GA s.log.length gc).ownBlock = some q → q < bx := HROW.out
   have hbx7 : Blk y7 bx 71 [.slice CA cn cc, .int .i64 ru, .slice FA fn fc] := (HBX.out.grew G5).kept hg7 (fun e => by have := hrow bx e.symm; omega)
   have hS7 : y7.cell? ⟨bx, 0, none⟩ = some (.slice CA cn cc) ∧ y7.cell? ⟨bx, 1, none⟩ = some (.int .i64 ru) ∧ y7.cell? ⟨bx, 2, none⟩ = some (.slice FA fn fc) := ⟨hbx7.cell rfl, hbx7.cell rfl, hbx7.cell rfl⟩
   refine hK _ _ hS7 ?_
   clear hK K
   have HB7 := Lib.hid ((HB1.out.grew G5).kept hg7 (own_blk ho71 (HB1.out.grew G5) (by decide)))
   have HL7 := Lib.hid ((HL1.out.grew G5).kept hg7 (own_blk ho71 (HL1.out.grew G5) (by decide)))
   have HST5 : StepAt w1.heap.size Pr y5 ⟨⟨CA, cn, cc⟩, ru, ⟨FA, fn, fc⟩⟩ ⟨cl, ru, fr⟩ := ⟨rfl, HCN.out, own_grew HCL.out (HGy.out.trans G5), HFN.out, own_grew HFR.out (HGy.out.trans G5), HPR.out⟩
   have HLG7 : Hid (LogAt w1.heap.size Pr y7 (.slice A7 (s.log.length + 1) c7) (s.log ++ [⟨cl, ru, fr⟩])) := HLG5.snoc HST5 hg7 (fun qs h => by
    have h1 : qs.flatMap encQ = qs0.flatMap encQ := own_inj h ho71
    rw [h1]; exact own7)
   have HG7 := Lib.hid ((HG1.out.trans G5).grown hg7 (fun q hq => (ho71.lt q hq).1))
   have HK7 : Hid (KeepT sb pb y y7) := (KeepT.grew (HGy.out.trans G5)).trans (KeepT.grown hg7 (fun q hq => .inr (.inr (own_row71 ho71 q hq))))
   have c17 : y7.cell? ⟨sb, 17, none⟩ = some (.slice GA s.log.length gc) := HB7.out.cell rfl
   have f17 := HB7.out.frozen 17
   clear own7 hg7 hat7 HLG5 HST5 hrow hbx7 ho71 BI G5 HBX HB1 HL1 HLG1
   refine wpAnyH_takes (fun _ _ _ _ _ h => h) hS7 [8, 9] (fuel' := 1) (by kernel_rfl) (by kernel_rfl) (by simp only [pickOps, ugT, ug0, ug1]; rfl) ?_
   repeat (first
    | (refine TakeP.pure (v := ?_) (by rfl) ?_ ?_; rotate_left; (intro w' u0; obtain ⟨u0, u1, u2⟩ := u0; go_simp; first | done | with_reducible rfl); simp only [Act.put, uzT, uz0, uz1]))
   refine TakeP.nil ?_
   refine wpAnyH_step (i := 10) (by kernel_rfl) (fuel' := 0) (by kernel_rfl) (by simp only [pickOps, ugT, ug0, ug1]; rfl) (by rfl) ?_
   intro K hK
   go_simp
   have hS8 : (y7.setCell ⟨sb, 17, none⟩ (.slice A7 (s.log.length + 1) c7)).cell? ⟨bx, 0, none⟩ = some (.slice CA cn cc) ∧ (y7.setCell ⟨sb, 17, none⟩ (.slice A7 (s.log.length + 1) c7)).cell? ⟨bx, 1, none⟩ = some (.int .i64 ru) ∧ (y7.setCell ⟨sb, 17, none⟩ (.slice A7 (s.log.length + 1) c7)).cell? ⟨bx, 2, none⟩ = some (.slice FA fn fc) :=
    ⟨(World.cell?_setCell_other _ _ _ _ (by simp)).trans hS7.1, (World.cell?_setCell_other _ _ _ _ (by simp)).trans hS7.2.1, (World.cell?_setCell_other _ _ _ _ (by simp)).trans hS7.2.2⟩
   refine hK _ _ hS8 ?_
   clear hK K c17 f17 hS7 hS8
   refine wpAnyH_done (by kernel_rfl) ?_ _
   have k17 := grown_set y7 sb 17 (.slice A7 (s.log.length + 1) c7)
   have HB8 := Lib.hid (HB7.out.set 17 (.slice A7 (s.log.length + 1) c7))
   have HL8 := Lib.hid (HL7.out.kept k17 (fun e => HNE.out.1 (by injection e)))
   have HLG8 := Lib.hid (HLG7.out.blk HB7.out (by decide) (by decide) (by decide) 17 (.slice A7 (s.log.length + 1) c7))
   have HG8 := Lib.hid (HG7.out.grown k17 (fun q hq => by injection hq with hq; have := HNE.out.2; omega))
   have HK8 := Lib.hid (HK7.out.trans (KeepT.grown (pb := pb) k17 (fun q hq => .inl (by injection hq with hq; exact hq.symm))))
   obtain ⟨y8, hy8⟩ : ∃ q, q = y7.setCell ⟨sb, 17, none⟩ (.slice A7 (s.log.length + 1) c7) := ⟨_, rfl⟩
   rw [← hy8] at HB8 HL8 HLG8 HG8 HK8 ⊢
   clear hy8 k17 HB7 HL7 HLG7 HG7 HK7
   have c17 : y8.cell? ⟨sb, 17, none⟩ = some (.slice A7 (s.log.length + 1) c7) := HB8.out.cell rfl
   have m1 : IntKind.i64.wrap (((s.log.length + 1 : Nat) : Int) - 1) = (s.log.length : Int) := by rw [show ((s.log.length + 1 : Nat) : Int) - 1 = (s.log.length : Int) by omega]; exact IntWalk.i64_in _ (by omega)
   have m2 : IntKind.i64.wrap ((s.log.length : Int) + 1 - 1) = (s.log.length : Int) := by rw [show (s.log.length : Int) + 1 - 1 = (s.log.length : Int) by omega]; exact IntWalk.i64_in _ (by omega)
   go_wp2
   go_ret2
   have HA : Hid (appendS ⟨cl, ru, fr⟩ s = (⟨s.fuel, s.log ++ [⟨cl, ru, fr⟩]⟩, some (s.log.length : Int))) := by unfold Hid appendS; rw [if_neg (by omega)]
   refine ⟨(s.log.length : Int), by rw [HA.out]; exact ret_two (by first | exact m2 | exact m1 | omega) rfl, .inr ⟨by rw [HA.out], ?_, HK8.out⟩, HG8.out⟩
   rw [HA.out]
   exact ⟨⟨A7, c7, by have := HB8.out; rw [show (s.log ++ [(⟨cl, ru, fr⟩ : Stp)]).length = s.log.length + 1 by simp]; exact this, by rw [show (s.log ++ [(⟨cl, ru, fr⟩ : Stp)]).length = s.log.length + 1 by simp]; exact HLG8.out⟩, HL8.out, HFU.out⟩
 ·have q1 : ((20000 : Int) ≤ (s.log.length : Int)) := by omega
  have q2 : (20000 ≤ s.log.length) := by omega
  go_wp2
  go_ret2
  have HA : Hid (appendS ⟨cl, ru, fr⟩ s = (s, none)) := by unfold Hid appendS; rw [if_pos hlen]
  exact ⟨0, by rw [HA.out]; rfl, .inl (by rw [HA.out]), HG1.out⟩
end Go.Proofs.YtnnbibmmofnkdaaGreat
namespace Go.Proofs.YtnnbibmmofnkdaaGreat
open Go.RowKit Go.Proofs WageMem WageReg WageRec WageSpan WageTop
theorem someCl_snoc : ∀ (d : Int) (n w : Nat), someCl d w (n + 1) = someCl d w n ++ [⟨d, ((w + n : Nat) : Int), true⟩]
 | d, 0, w => by simp [someCl]
 | d, n + 1, w => by
  rw [someCl, someCl_snoc d n (w + 1)]
  conv => rhs; rw [someCl]
  rw [List.cons_append, show w + 1 + n = w + (n + 1) by omega]
theorem someLog_snoc {E : Env} {d : Nat} (h : d < E.nD) : (someLog E).take (d + 1) = (someLog E).take d ++ [⟨someCl (d : Int) 0 E.nW, 1, []⟩] := by
 rw [List.take_add_one, someLog_at h]; rfl
theorem info122 : (Tryz.prog.info? 122).map (fun i => (i.zero, i.size, i.bytes)) = some (some (.agg #[.int .i64 0, .int .i64 0, .bool false]), 3, 24) := by kernel_rfl
/-- What some returns. -/
def RetSome (p : Pl) (w1 : World) (cb sb : Nat) (L : Value) (fuel : Int) (V : Value) (fd : Bool) (B : Value) (cost : Int) (Pr : Nat → Prop) (y : World) (r : Ending) (y' : World) : Prop :=
 r = .returned (.tuple #[]) ∧ ∃ GA gc, Blk y' sb 94 (srC p cb L fuel V fd B cost (.slice GA p.dn gc)) ∧ LogAt w1.heap.size Pr y' (.slice GA p.dn gc) (someLog (envP p)) ∧ KeepT sb sb y y' ∧ Grew w1 y'
set_option maxRecDepth 100000 in
set_option maxHeartbeats 16000000 in
theorem some36 {p : Pl} {w1 : World} {cb sb : Nat} {L V B : Value} {fuel cost : Int} {fd : Bool} {Pr : Nat → Prop} (ok : planB p = true) (hsb : w1.heap.size ≤ sb) {y : World} (hg : Grew w1 y) (hb : Blk y sb 94 (srC p cb L fuel V fd B cost (.slice none 0 0))) :
  Calls Tryz.prog 36 #[.pointer (some ⟨sb, 0, none⟩)] y (RetSome p w1 cb sb L fuel V fd B cost Pr y) := by
 obtain ⟨i0, hi0, hz0, hz1, hz2⟩ := info_parts info71
 obtain ⟨i1, hi1, hy0, hy1, hy2⟩ := info_parts info122
 have hdn : p.dn ≤ 24 ∧ p.wn ≤ 12 := by
  have := ok
  unfold planB at this
  simp only [Bool.and_eq_true, decide_eq_true_eq] at this
  exact ⟨this.2.1, this.2.2.1⟩
 have hdn1 := hdn.1
 have hwn1 := hdn.2
 have HG := Lib.hid hg
 have HB := Lib.hid hb
 have HSB := Lib.hid hsb
 have c3 : y.cell? ⟨sb, 3, none⟩ = some (.slice p.D p.dn p.dc) := hb.cell rfl
 clear ok hsb hg hb hdn
 go_enter Tryz.func36, Tryz.ntmps36
 go_wp2_with fail
 clear c3
 go_loopw [11] (fun i v => ∃ (k gc : Nat) (GA : Option Addr), k ≤ p.dn ∧ i = .int .i64 k ∧ Hid (Blk v sb 94 (srC p cb L fuel V fd B cost (.slice GA k gc))) ∧ Hid (LogAt w1.heap.size Pr v (.slice GA k gc) ((someLog (envP p)).take k)) ∧ Hid (KeepT sb sb y v) ∧ Hid (Grew w1 v)) (fun i _ => p.dn - (intOf i).toNat)
 case atStart => exact ⟨0, 0, none, Nat.zero_le _, rfl, HB.out, LogAt.nil, KeepT.refl _ _ _, HG.out⟩
 case round =>
  clear HB HG
  obtain ⟨k, gc, GA, hk, rfl, HB, HLG, HK, HG⟩ := hrel
  by_cases hlt : k < p.dn
  ·have e1 : (k : Int) < (p.dn : Int) := by omega
   have c4 : wr.cell? ⟨sb, 4, none⟩ = some (.slice p.W p.wn p.wc) := HB.out.cell rfl
   obtain ⟨wq, hwq⟩ : ∃ q, q = wr := ⟨_, rfl⟩
   rw [← hwq] at HB HLG HK HG c4 ⊢
   clear hwq
   go_wp2_with fail
   clear c4
   go_loopw [3, 20] (fun v i z => ∃ (j c : Nat) (A : Option Addr), j ≤ p.wn ∧ v = .slice A j c ∧ i = .int .i64 j ∧ Hid (z.ownsRow wq.heap.size 122 3 (.slice A j c) j ((someCl (k : Int) 0 j).flatMap encL)) ∧ Hid (Grew wq z)) (fun _ i _ => p.wn - (intOf i).toNat)
   case atStart => exact ⟨0, 0, none, Nat.zero_le _, rfl, rfl, World.ownsRow_nil _ _ _ _, Grew.refl _⟩
   case round =>
    obtain ⟨j, c, A, hj, rfl, rfl, HO, HR⟩ := hrel
    by_cases hjt : j < p.wn
    ·have e2 : (j : Int) < (p.wn : Int) := by omega
     obtain ⟨wy, hwy⟩ : ∃ y, y = wr.alloc (.cells #[.int .i64 (k : Int), .int .i64 (j : Int), .bool true] 122) := ⟨_, rfl⟩
     have gy : Grew wr wy := by rw [hwy]; exact (Grew.refl wr).alloc _
     have BI : Hid (Sl wy 3 (some ⟨wr.heap.size, 0, none⟩) 1 1 (encL ⟨(k : Int), (j : Int), true⟩)) := by unfold Hid; rw [hwy]; exact builtS (w := wr) (t := 122) 3 1 #[.int .i64 (k : Int), .int .i64 (j : Int), .bool true] _ rfl rfl (by decide)
     have OWy := Lib.hid (own_grew HO.out gy)
     have HRy := Lib.hid (HR.out.trans gy)
     clear gy HO HR
     go_upto_region 8 with (at_builtin; rw [← hwy]; refine wpList_append_sl _ rfl (.tmp 23) (.tmp 27) 69 rfl wq.heap.size 122 i1 (.agg #[.int .i64 0, .int .i64 0, .bool false]) 3 24 Tryz.underlying69 hi1 hy0 hy1 hy2 rfl (by decide) (.slice A j c) j _ rfl OWy.out (some ⟨wr.heap.size, 0, none⟩) 1 1 _ rfl BI.out (fun u hu => encL_ok.one _ u hu) (by unfold maxLen; omega) (by omega) HRy.out.le ?_; intro v7 w7 own7 hg7 hat7; obtain ⟨A7, c7, rfl⟩ := own_form own7)
     have HO7 : Hid (w7.ownsRow wq.heap.size 122 3 (.slice A7 (j + 1) c7) (j + 1) ((someCl (k : Int) 0 (j + 1)).flatMap encL)) := by
      unfold Hid; rw [someCl_snoc, List.flatMap_append, List.flatMap_singleton, Nat.zero_add]; exact own7
     have HR7 := Lib.hid (HRy.out.grown hg7 (fun q hq => (OWy.out.lt q hq).1))
     clear hwy own7 hg7 hat7 OWy HRy BI
     go_wp2_with fail
     go_roundw
     case rel => exact ⟨j + 1, c7, A7, by omega, rfl, by go_num, HO7, HR7⟩
     case measure => simp [intOf]; omega
    ·obtain rfl : j = p.wn := by omega
     have HBr := Lib.hid (HB.out.grew HR.out)
     have c17 : wr.cell? ⟨sb, 17, none⟩ = some (.slice GA k gc) := HBr.out.cell rfl
     obtain ⟨wy, hwy⟩ : ∃ y, y = wr.alloc (.cells #[.slice A p.wn c, .int .i64 1, .slice none 0 0] 71) := ⟨_, rfl⟩
     have gy : Grew wr wy := by rw [hwy]; exact (Grew.refl wr).alloc _
     have BI : Hid (Sl wy 3 (some ⟨wr.heap.size, 0, none⟩) 1 1 (encQ ⟨⟨A, p.wn, c⟩, 1, ⟨none, 0, 0⟩⟩)) := by unfold Hid; rw [hwy]; exact builtS (w := wr) (t := 71) 3 1 #[.slice A p.wn c, .int .i64 1, .slice none 0 0] _ rfl rfl (by decide)
     have gg := HR.out.trans gy
     have HLGy := HLG.out.grew gg
     obtain ⟨qs0, ho71, hql, _⟩ := HLGy.ex
     have hln : ((someLog (envP p)).take k).length = k := by rw [List.length_take, someLog_len]; exact Nat.min_eq_left hk
     have HO71 := Lib.hid ho71
     rw [hln] at HO71
     have HBy := Lib.hid (HB.out.grew gg)
     have HGy := Lib.hid (HG.out.trans gg)
     have HKy := Lib.hid (HK.out.trans (KeepT.grew gg))
     have HST : Hid (StepAt w1.heap.size Pr wy ⟨⟨A, p.wn, c⟩, 1, ⟨none, 0, 0⟩⟩ ⟨someCl (k : Int) 0 p.wn, 1, []⟩) := ⟨rfl, by rw [someCl_len], own_grew (own_base HO.out HG.out.le) gy, rfl, World.ownsRow_nil _ _ _ _, fun b hb => by cases hb⟩
     have HLGY := Lib.hid HLGy
     have HLN := Lib.hid hln
     clear gy gg HLGy ho71 hql hln HB HLG HK HG HO HR HBr
     go_upto_region 10 with (at_builtin; rw [← hwy]; refine wpList_append_sl _ rfl (.tmp 34) (.tmp 37) 39 rfl w1.heap.size 71 i0 (.agg #[.slice none 0 0, .int .i64 0, .slice none 0 0]) 3 56 Tryz.underlying39 hi0 hz0 hz1 hz2 rfl (by decide) (.slice GA k gc) k _ rfl HO71.out (some ⟨wr.heap.size, 0, none⟩) 1 1 _ rfl BI.out (fun u hu => encQ_ok.one _ u hu) (by unfold maxLen; omega) (by omega) HGy.out.le ?_; intro v7 w7 own7 hg7 hat7; obtain ⟨A7, c7, rfl⟩ := own_form own7; have HB7 := Lib.hid (HBy.out.kept hg7 (own_blk HO71.out HBy.out (by decide))); have c7' := HB7.out.cell (i := 17) (v := .slice GA k gc) rfl; have f7 := HB7.out.frozen 17)
     have HLG7 : Hid (LogAt w1.heap.size Pr w7 (.slice A7 (k + 1) c7) ((someLog (envP p)).take k ++ [⟨someCl (k : Int) 0 p.wn, 1, []⟩])) := HLGY.out.snoc HST.out hg7 (fun qs h => by
      rw [HLN.out] at h ⊢
      have h1 : qs.flatMap encQ = qs0.flatMap encQ := own_inj h HO71.out
      rw [h1]; exact own7)
     have HG7 := Lib.hid (HGy.out.grown hg7 (fun q hq => (HO71.out.lt q hq).1))
     have HK7 := Lib.hid (HKy.out.trans (KeepT.grown (sb := sb) (pb := sb) hg7 (fun q hq => .inr (.inr (own_row71 HO71.out q hq)))))
     obtain ⟨w8, hw8⟩ : ∃ y, y = w7.setCell ⟨sb, 17, none⟩ (.slice A7 (k + 1) c7) := ⟨_, rfl⟩
     have k17 := grown_set w7 sb 17 (.slice A7 (k + 1) c7)
     have HB8 : Hid (Blk w8 sb 94 (srC p cb L fuel V fd B cost (.slice A7 (k + 1) c7))) := by unfold Hid; rw [hw8]; exact HB7.out.set 17 _
     have HLG8 : Hid (LogAt w1.heap.size Pr w8 (.slice A7 (k + 1) c7) ((someLog (envP p)).take (k + 1))) := by unfold Hid; rw [hw8, someLog_snoc (E := envP p) hlt]; exact HLG7.out.blk HB7.out (by decide) (by decide) (by decide) 17 _
     have HG8 : Hid (Grew w1 w8) := by unfold Hid; rw [hw8]; exact HG7.out.grown k17 (fun q hq => by injection hq with hq; have := HSB.out; omega)
     have HK8 : Hid (KeepT sb sb y w8) := by unfold Hid; rw [hw8]; exact HK7.out.trans (KeepT.grown (pb := sb) k17 (fun q hq => .inl (by injection hq with hq; exact hq.symm)))
     rw [← hw8]
     clear k17 hw8 hwy own7 hg7 hat7 HB7 c7' f7 HLG7 HG7 HK7 HBy HGy HKy HST HLGY HO71 BI c17
     go_wp2_with fail
     go_roundw
     case rel => exact ⟨k + 1, c7, A7, by omega, by go_num, HB8, HLG8, HK8, HG8⟩
     case measure => simp [intOf]; omega
  ·obtain rfl : k = p.dn := by omega
   have HLG2 : Hid (LogAt w1.heap.size Pr wr (.slice GA p.dn gc) (someLog (envP p))) := by
    have h1 := HLG.out
    rw [List.take_of_length_le (by rw [someLog_len]; exact Nat.le_refl _)] at h1
    exact h1
   clear HLG
   go_wp2
   refine bodyPost_end (results_none rfl _ _ _) rfl ?_
   exact ⟨rfl, GA, gc, HB.out, HLG2.out, HK.out, HG.out⟩
end Go.Proofs.YtnnbibmmofnkdaaGreat
