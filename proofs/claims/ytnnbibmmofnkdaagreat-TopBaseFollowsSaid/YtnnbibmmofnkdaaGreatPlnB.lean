/-
 The planner: newSearch, burn, clean, clone, extend.
-/
import Derived.Test.YtnnbibmmofnkdaaGreatRosE
import Derived.Laws.EntriesVeiled
namespace Go.Proofs.YtnnbibmmofnkdaaGreat
open Go.RowKit Go.Proofs WageMem WageReg WageRec WageSpan WageTop
/-- The cells of a search. -/
def srC (p : Pl) (cb : Nat) (L : Value) (fuel : Int) (V : Value) (fd : Bool) (B : Value) (cost : Int) (G : Value) : List Value :=
 planC p ++ [.pointer (some ⟨cb, 0, none⟩), L, .int .i64 fuel, V, .bool fd, B, .int .i64 cost, G]
/-- The least wages of the last duties, as they are laid from the end on. -/
def lstF (E : Env) (n d : Nat) : List Value := (List.range (n + 1)).map fun i => iv (if d ≤ i then leastR E (n - i) else 0)
theorem cheap_step (E : Env) (k : Nat) : cheapest E (k + 1) = if k = 0 ∨ E.wage k < cheapest E k then E.wage k else cheapest E k := by
 cases k with
 | zero => rfl
 | succ k =>
  show (if E.wage (k + 1) < cheapest E (k + 1) then E.wage (k + 1) else cheapest E (k + 1)) = _
  by_cases h : E.wage (k + 1) < cheapest E (k + 1)
  ·rw [if_pos h, if_pos (.inr h)]
  ·rw [if_neg h, if_neg (fun h1 => h1.elim (fun h2 => by omega) h)]
theorem cheap_bd {E : Env} {W : Int} (hW : 0 ≤ W) (h : ∀ k, 0 ≤ E.wage k ∧ E.wage k ≤ W) : ∀ k, 0 ≤ cheapest E k ∧ cheapest E k ≤ W
 | 0 => ⟨Int.le_refl _, hW⟩
 | k + 1 => by
  have h1 := cheap_bd hW h k
  have h2 := h k
  rw [cheap_step]
  split <;> assumption
/-- Bounds of a plan's numbers. -/
structure EnvBd (E : Env) : Prop where
 wage : ∀ k, 0 ≤ E.wage k ∧ E.wage k ≤ 1000000
 dur : ∀ k, 0 ≤ E.dur k ∧ E.dur k ≤ 1440
 nD : E.nD ≤ 24
theorem mul_bd {a b : Int} (ha : 0 ≤ a ∧ a ≤ 1000000) (hb : 0 ≤ b ∧ b ≤ 1440) : 0 ≤ a * b ∧ a * b ≤ 1440000000 := by
 refine ⟨Int.mul_nonneg ha.1 hb.1, ?_⟩
 have h1 : a * b ≤ 1000000 * b := Int.mul_le_mul_of_nonneg_right ha.2 hb.1
 have h2 : (1000000 : Int) * b ≤ 1000000 * 1440 := Int.mul_le_mul_of_nonneg_left hb.2 (by decide)
 omega
theorem env_bd {w : World} {p : Pl} (hp : PlanAt w p) (ok : planB p = true) : EnvBd (envP p) := by
 have h0 := ok
 unfold planB at h0
 simp only [Bool.and_eq_true, decide_eq_true_eq] at h0
 refine ⟨fun k => ?_, fun k => ?_, h0.2.1⟩
 ·show 0 ≤ (match p.ws[k]? with | some x => x.wg | none => 0) ∧ (match p.ws[k]? with | some x => x.wg | none => 0) ≤ 1000000
  cases hk : p.ws[k]? with
  | none => exact ⟨Int.le_refl _, by decide⟩
  | some x =>
   have h1 := List.all_eq_true.1 h0.2.2.2.2.1 x (List.mem_of_getElem? hk)
   unfold wOk at h1
   simp only [Bool.and_eq_true, decide_eq_true_eq] at h1
   exact h1.2.1
 ·show 0 ≤ (p.du k).b - (p.du k).a ∧ (p.du k).b - (p.du k).a ≤ 1440
  by_cases hk : k < p.dn
  ·have h1 := durOk_of ok hp hk
   unfold dOk durOk at h1
   simp only [Bool.and_eq_true, decide_eq_true_eq] at h1
   omega
  ·have : p.du k = ⟨0, 0, 0⟩ := by unfold Pl.du; rw [List.getD_eq_getElem?_getD, List.getElem?_eq_none (by rw [hp.ds.len]; omega)]; rfl
   rw [this]
   exact ⟨by decide, by decide⟩
theorem wage_envP {p : Pl} {k : Nat} {x : Wo} (h : p.ws[k]? = some x) : (envP p).wage k = x.wg := by
 show (match p.ws[k]? with | some x => x.wg | none => 0) = _
 rw [h]
end Go.Proofs.YtnnbibmmofnkdaaGreat
namespace Go.Proofs.YtnnbibmmofnkdaaGreat
open Go.RowKit Go.Proofs WageMem WageReg WageRec WageSpan WageTop
/-- A block of numbers. -/
def T3 (y : World) (b : Nat) : Prop := ∃ cs fz, y.heap[b]? = some (.cells cs 3 fz)
end Go.Proofs.YtnnbibmmofnkdaaGreat
namespace Go.Proofs.YtnnbibmmofnkdaaGreat
open Go.RowKit Go.Proofs WageMem WageReg WageRec WageSpan WageTop
/-- The search in memory while it improves. -/
structure ImpAt (p : Pl) (w1 : World) (cb sb lb pb : Nat) (y : World) (st : St) : Prop where
 blk : ∃ BA bn bc, Blk y sb 94 (srC p cb (.slice (some ⟨lb, 0, none⟩) (p.dn + 1) (p.dn + 1)) st.fuel (.func (.func 35) #[.pointer (some ⟨sb, 0, none⟩)] #[]) st.found (.slice BA bn bc) st.cost (.slice none 0 0)) ∧
  (st.found = true → bn = p.dn ∧ y.ownsRow w1.heap.size 3 1 (.slice BA bn bc) bn (st.best.map iv) ∧ ∀ q, (Value.slice BA bn bc).ownBlock = some q → q ≠ pb)
 lst : Blk y lb 3 (lstF (envP p) p.dn 0)
 fuel : 0 ≤ st.fuel ∧ st.fuel ≤ 1000000
 cost : 0 ≤ st.cost ∧ st.cost ≤ 1000000000000
theorem ImpAt.kept {p : Pl} {w1 : World} {cb sb lb pb : Nat} {y y' : World} {st : St} (h : ImpAt p w1 cb sb lb pb y st) (g : y.grownBy y' (some pb)) (h1 : sb ≠ pb) (h2 : lb ≠ pb) : ImpAt p w1 cb sb lb pb y' st := by
 obtain ⟨⟨BA, bn, bc, hb, hf⟩, hl, h3, h4⟩ := h
 refine ⟨⟨BA, bn, bc, hb.kept g (fun e => h1 (by injection e)), fun hh => ?_⟩, hl.kept g (fun e => h2 (by injection e)), h3, h4⟩
 obtain ⟨e1, e2, e3⟩ := hf hh
 exact ⟨e1, e2.kept g (.inr fun e => e3 pb e rfl), e3⟩
end Go.Proofs.YtnnbibmmofnkdaaGreat
namespace Go.Proofs.YtnnbibmmofnkdaaGreat
open Go.RowKit Go.Proofs WageMem WageReg WageRec WageSpan WageTop
/-- A literal's and a step's cells. -/
def encL (l : Li) : List Value := [.int .i64 l.d, .int .i64 l.w, .bool l.is]
theorem encL_ok : EncOk encL 3 := ⟨fun _ => rfl, by decide, fun x u hu => by
 simp only [encL, List.mem_cons, List.not_mem_nil, or_false] at hu
 rcases hu with rfl | rfl | rfl <;> rfl⟩
structure Qs where
 cl : Pc
 ru : Int
 fr : Pc
def encQ (q : Qs) : List Value := [pcV q.cl, .int .i64 q.ru, pcV q.fr]
theorem encQ_ok : EncOk encQ 3 := ⟨fun _ => rfl, by decide, fun x u hu => by
 simp only [encQ, List.mem_cons, List.not_mem_nil, or_false] at hu
 rcases hu with rfl | rfl | rfl <;> rfl⟩
/-- A step in memory, its parts in rows of their own; where it comes from lies in a block as Pr says. -/
structure StepAt (base : Nat) (Pr : Nat → Prop) (y : World) (q : Qs) (s : Stp) : Prop where
 ru : q.ru = s.rule
 cn : s.cl.length = q.cl.n
 cl : y.ownsRow base 122 3 (pcV q.cl) q.cl.n (s.cl.flatMap encL)
 fn : s.frm.length = q.fr.n
 fr : y.ownsRow base 3 1 (pcV q.fr) q.fr.n (s.frm.map iv)
 pr : ∀ b, (pcV q.fr).ownBlock = some b → Pr b
/-- A log in memory. -/
structure LogAt (base : Nat) (Pr : Nat → Prop) (y : World) (G : Value) (log : List Stp) : Prop where
 ex : ∃ qs : List Qs, y.ownsRow base 71 3 G log.length (qs.flatMap encQ) ∧ qs.length = log.length ∧ ∀ (i : Nat) q s, qs[i]? = some q → log[i]? = some s → StepAt base Pr y q s
theorem StepAt.kept {base : Nat} {Pr : Nat → Prop} {y y' : World} {q : Qs} {s : Stp} (h : StepAt base Pr y q s) {row : Option Nat} (g : y.grownBy y' row) (h1 : (pcV q.cl).ownBlock = none ∨ (pcV q.cl).ownBlock ≠ row) (h2 : (pcV q.fr).ownBlock = none ∨ (pcV q.fr).ownBlock ≠ row) : StepAt base Pr y' q s :=
 ⟨h.ru, h.cn, h.cl.kept g h1, h.fn, h.fr.kept g h2, h.pr⟩
theorem LogAt.nil {base : Nat} {Pr : Nat → Prop} {y : World} : LogAt base Pr y (.slice none 0 0) [] := ⟨[], World.ownsRow_nil _ _ _ _, rfl, fun i q s h => by simp at h⟩
/-- A log stays where a block of another type is written, that is not one of its rows. -/
theorem LogAt.kept {base : Nat} {Pr : Nat → Prop} {y y' : World} {G : Value} {log : List Stp} (h : LogAt base Pr y G log) {row : Option Nat} (g : y.grownBy y' row)
  (h71 : ∀ v n xs, y.ownsRow base 71 3 v n xs → v.ownBlock = none ∨ v.ownBlock ≠ row) (h122 : ∀ v n xs, y.ownsRow base 122 3 v n xs → v.ownBlock = none ∨ v.ownBlock ≠ row)
  (h3 : ∀ v n xs, y.ownsRow base 3 1 v n xs → (∀ b, v.ownBlock = some b → Pr b) → v.ownBlock = none ∨ v.ownBlock ≠ row) : LogAt base Pr y' G log := by
 obtain ⟨qs, h4, h5, h6⟩ := h
 exact ⟨qs, h4.kept g (h71 _ _ _ h4), h5, fun i q s hq hs => by
  have h7 := h6 i q s hq hs
  exact h7.kept g (h122 _ _ _ h7.cl) (h3 _ _ _ h7.fr h7.pr)⟩
theorem LogAt.grew {base : Nat} {Pr : Nat → Prop} {y y' : World} {G : Value} {log : List Stp} (h : LogAt base Pr y G log) (g : Grew y y') : LogAt base Pr y' G log := by
 obtain ⟨qs, h4, h5, h6⟩ := h
 exact ⟨qs, own_grew h4 g, h5, fun i q s hq hs => by
  obtain ⟨a1, a2, a3, a4, a5, a6⟩ := h6 i q s hq hs
  exact ⟨a1, a2, own_grew a3 g, a4, own_grew a5 g, a6⟩⟩
theorem LogAt.imp {base : Nat} {Pr Pr' : Nat → Prop} {y : World} {G : Value} {log : List Stp} (h : LogAt base Pr y G log) (hi : ∀ b, b < y.heap.size → Pr b → Pr' b) : LogAt base Pr' y G log := by
 obtain ⟨qs, h4, h5, h6⟩ := h
 exact ⟨qs, h4, h5, fun i q s hq hs => by
  obtain ⟨a1, a2, a3, a4, a5, a6⟩ := h6 i q s hq hs
  exact ⟨a1, a2, a3, a4, a5, fun b hb => hi b (a5.lt b hb).2 (a6 b hb)⟩⟩
theorem LogAt.blk {base : Nat} {Pr : Nat → Prop} {y : World} {G : Value} {log : List Stp} (h : LogAt base Pr y G log) {b : Nat} {t : TypeId} {cs : List Value} (hb : Blk y b t cs) (h1 : t ≠ 71) (h2 : t ≠ 122) (h3 : t ≠ 3) (i : Nat) (u : Value) : LogAt base Pr (y.setCell ⟨b, i, none⟩ u) G log :=
 h.kept (grown_set y b i u) (fun _ _ _ h => own_blk' h hb h1.symm) (fun _ _ _ h => own_blk' h hb h2.symm) (fun _ _ _ h _ => own_blk' h hb h3.symm)
/-- A step more. -/
theorem LogAt.snoc {base : Nat} {Pr : Nat → Prop} {y y' : World} {G G' : Value} {log : List Stp} (h : LogAt base Pr y G log) {q : Qs} {s : Stp} (hs : StepAt base Pr y q s) (g : y.grownBy y' G.ownBlock)
  (hnew : ∀ qs : List Qs, y.ownsRow base 71 3 G log.length (qs.flatMap encQ) → y'.ownsRow base 71 3 G' (log.length + 1) (qs.flatMap encQ ++ encQ q)) : LogAt base Pr y' G' (log ++ [s]) := by
 obtain ⟨qs, h4, h5, h6⟩ := h
 have h7 := hnew qs h4
 have k : ∀ q s, StepAt base Pr y q s → StepAt base Pr y' q s := fun q s h => h.kept g (own_apart h.cl h4 (by decide)) (own_apart h.fr h4 (by decide))
 refine ⟨qs ++ [q], by rw [List.length_append, List.flatMap_append, List.flatMap_singleton]; exact h7, by rw [List.length_append, List.length_append, h5]; rfl, fun i q' s' hq hs' => ?_⟩
 by_cases hi : i < qs.length
 ·rw [List.getElem?_append_left hi] at hq
  rw [List.getElem?_append_left (by omega)] at hs'
  exact k _ _ (h6 i q' s' hq hs')
 ·rw [List.getElem?_append_right (by omega)] at hq hs'
  have h8 : i - qs.length = 0 := by have := (List.getElem?_eq_some_iff.1 hq).1; simp at this; omega
  rw [h8] at hq
  rw [← h5, h8] at hs'
  simp at hq hs'
  subst hq hs'
  exact k _ _ hs
/-- Nothing changes but the search, the prefix and rows of steps. -/
def KeepT (sb pb : Nat) (y y' : World) : Prop := y.heap.size ≤ y'.heap.size ∧ ∀ (k : Nat) (o : Obj), y.heap[k]? = some o → k ≠ sb → k ≠ pb → (∀ cs fz, o ≠ .cells cs 71 fz) → y'.heap[k]? = some o
theorem KeepT.refl (sb pb : Nat) (y : World) : KeepT sb pb y y := ⟨Nat.le_refl _, fun _ _ h _ _ _ => h⟩
theorem KeepT.trans {sb pb : Nat} {a b c : World} (h : KeepT sb pb a b) (k : KeepT sb pb b c) : KeepT sb pb a c := ⟨Nat.le_trans h.1 k.1, fun i o h1 h2 h3 h4 => k.2 i o (h.2 i o h1 h2 h3 h4) h2 h3 h4⟩
theorem KeepT.grew {sb pb : Nat} {a b : World} (g : Grew a b) : KeepT sb pb a b := ⟨g.le, fun _ _ h _ _ _ => g.block h⟩
theorem KeepT.grown {sb pb : Nat} {a b : World} {row : Option Nat} (g : a.grownBy b row) (hr : ∀ q, row = some q → q = sb ∨ q = pb ∨ ∃ cs fz, a.heap[q]? = some (.cells cs 71 fz)) : KeepT sb pb a b :=
 ⟨g.size, fun k o h1 h2 h3 h4 => (g.block k (Array.getElem?_eq_some_iff.1 h1).1 (fun h => by
  rcases hr k h.symm with h5 | h5 | ⟨cs, fz, h5⟩
  ·exact h2 h5
  ·exact h3 h5
  ·rw [h1] at h5; injection h5 with h5; exact h4 cs fz h5)).trans h1⟩
/-- The search in memory while it refutes. -/
structure RefAt (p : Pl) (w1 : World) (cb sb lb : Nat) (V B : Value) (cost : Int) (Pr : Nat → Prop) (y : World) (s : Rs) : Prop where
 ex : ∃ GA gc, Blk y sb 94 (srC p cb (.slice (some ⟨lb, 0, none⟩) (p.dn + 1) (p.dn + 1)) s.fuel V true B cost (.slice GA s.log.length gc)) ∧ LogAt w1.heap.size Pr y (.slice GA s.log.length gc) s.log
 lst : Blk y lb 3 (lstF (envP p) p.dn 0)
 fuel : -1 ≤ s.fuel ∧ s.fuel ≤ 1000000
theorem RefAt.grew {p : Pl} {w1 : World} {cb sb lb : Nat} {V B : Value} {cost : Int} {Pr : Nat → Prop} {y y' : World} {s : Rs} (h : RefAt p w1 cb sb lb V B cost Pr y s) (g : Grew y y') : RefAt p w1 cb sb lb V B cost Pr y' s := by
 obtain ⟨⟨GA, gc, h1, h2⟩, h3, h4⟩ := h
 exact ⟨⟨GA, gc, h1.grew g, h2.grew g⟩, h3.grew g, h4⟩
theorem info71 : (Tryz.prog.info? 71).map (fun i => (i.zero, i.size, i.bytes)) = some (some (.agg #[.slice none 0 0, .int .i64 0, .slice none 0 0]), 3, 56) := by kernel_rfl
theorem own_inj {w : World} {base base' : Nat} {e : TypeId} {size : Nat} {v : Value} {n : Nat} {xs ys : List Value} (h : w.ownsRow base e size v n xs) (h' : w.ownsRow base' e size v n ys) : xs = ys := by
 rcases h.2 with ⟨rfl, rfl⟩ | ⟨g, cap, cur, rfl, _, h3, _, _, _, h7⟩
 ·have h1 := h.1
  have h2 := h'.1
  simp at h1 h2
  rw [h1, h2]
 ·rcases h'.2 with ⟨h0, _⟩ | ⟨g', cap', cur', h1, _, h3', _, _, _, h7'⟩
  ·cases h0
  ·injection h1 with h1 _ _
   injection h1 with h1
   injection h1 with h1
   subst h1
   rw [h3] at h3'
   injection h3' with h3'
   injection h3' with h3' _ _
   subst h3'
   rw [← h7, ← h7']
end Go.Proofs.YtnnbibmmofnkdaaGreat
namespace Go.Proofs.YtnnbibmmofnkdaaGreat
open Go.RowKit Go.Proofs WageMem WageReg WageRec WageSpan WageTop
theorem info122 : (Tryz.prog.info? 122).map (fun i => (i.zero, i.size, i.bytes)) = some (some (.agg #[.int .i64 0, .int .i64 0, .bool false]), 3, 24) := by kernel_rfl
end Go.Proofs.YtnnbibmmofnkdaaGreat
namespace Go.Proofs.YtnnbibmmofnkdaaGreat
open Go.RowKit Go.Proofs WageMem WageReg WageRec WageSpan WageTop
theorem KeepT.blk {sb pb : Nat} {a b : World} (h : KeepT sb pb a b) {k : Nat} {t : TypeId} {cs : List Value} (hb : Blk a k t cs) (h1 : k ≠ sb) (h2 : k ≠ pb) (h3 : t ≠ 71) : Blk b k t cs :=
 h.2 k _ hb h1 h2 (fun cs fz e => by injection e with _ e _; exact h3 e)
theorem T3.kept {y y' : World} {b : Nat} {row : Option Nat} (h : T3 y b) (g : y.grownBy y' row) (hne : some b ≠ row) : T3 y' b := by
 obtain ⟨cs, fz, h1⟩ := h
 exact ⟨cs, fz, (g.block b (Array.getElem?_eq_some_iff.1 h1).1 hne).trans h1⟩
theorem T3.apart {y : World} {b : Nat} (h : T3 y b) {base : Nat} {e : TypeId} {size : Nat} {v : Value} {n : Nat} {xs : List Value} (h' : y.ownsRow base e size v n xs) (he : e ≠ 3) : v.ownBlock = none ∨ v.ownBlock ≠ some b := by
 obtain ⟨cs, fz, h1⟩ := h
 rcases h'.2 with ⟨rfl, _⟩ | ⟨g, cap, cur, rfl, _, hg, _⟩
 ·exact .inl rfl
 ·refine .inr fun hh => ?_
  injection hh with hh
  simp only at hh
  subst hh
  rw [h1] at hg
  injection hg with hg
  injection hg with _ h2 _
  exact he h2.symm
theorem RefAt.kept {p : Pl} {w1 : World} {cb sb lb : Nat} {V B : Value} {cost : Int} {Pr : Nat → Prop} {y y' : World} {s : Rs} (h : RefAt p w1 cb sb lb V B cost Pr y s) {x : Nat} (g : y.grownBy y' (some x)) (h1 : sb ≠ x) (h2 : lb ≠ x) (h3 : T3 y x) (h4 : ∀ b, Pr b → b ≠ x) : RefAt p w1 cb sb lb V B cost Pr y' s := by
 obtain ⟨⟨GA, gc, hb, hl⟩, hlb, hf⟩ := h
 exact ⟨⟨GA, gc, hb.kept g (fun e => h1 (by injection e)), hl.kept g (fun _ _ _ h => h3.apart h (by decide)) (fun _ _ _ h => h3.apart h (by decide)) (fun v n xs h hp => by
  cases hv : v.ownBlock with
  | none => exact .inl rfl
  | some b => exact .inr fun e => h4 b (hp b hv) (by injection e))⟩, hlb.kept g (fun e => h2 (by injection e)), hf⟩
/-- While a prefix's extensions are refuted: the steps' numbers lie in a row of their own. -/
structure RfSp (p : Pl) (w1 : World) (cb sb lb pb : Nat) (V B : Value) (cost : Int) (Pr : Nat → Prop) (yb : World) (fb k : Nat) (v : World) (s : Rs × List Int) : Prop where
 ex : ∃ FA fc, Blk v fb 38 [.slice FA k fc] ∧ v.ownsRow w1.heap.size 3 1 (.slice FA k fc) k (s.2.map iv) ∧ (∀ q, (Value.slice FA k fc).ownBlock = some q → yb.heap.size ≤ q) ∧ RefAt p w1 cb sb lb V B cost (fun b => Pr b ∧ some b ≠ (Value.slice FA k fc).ownBlock) v s.1
 len : s.2.length = k
 keep : KeepT sb pb yb v
 t3 : T3 v pb
theorem RfSp.kept {p : Pl} {w1 : World} {cb sb lb pb : Nat} {V B : Value} {cost : Int} {Pr : Nat → Prop} {yb : World} {fb k : Nat} {v v' : World} {s : Rs × List Int} (h : RfSp p w1 cb sb lb pb V B cost Pr yb fb k v s) (h1 : sb ≠ pb ∧ lb ≠ pb ∧ pb < yb.heap.size ∧ yb.heap.size ≤ fb) (hp : ∀ b, Pr b → b ≠ pb) (g : v.grownBy v' (some pb)) (ht : T3 v' pb) : RfSp p w1 cb sb lb pb V B cost Pr yb fb k v' s := by
 obtain ⟨⟨FA, fc, hb, ho, hq, hr⟩, hl, hk, h3⟩ := h
 refine ⟨⟨FA, fc, hb.kept g (fun e => by injection e; omega), ho.kept g (.inr fun e => by have := hq pb e; omega), hq, hr.kept g h1.1 h1.2.1 h3 (fun b hb => hp b hb.1)⟩, hl, ⟨Nat.le_trans hk.1 g.size, fun i o a1 a2 a3 a4 => ?_⟩, ht⟩
 have h5 := hk.2 i o a1 a2 a3 a4
 exact (g.block i (Array.getElem?_eq_some_iff.1 h5).1 (fun e => a3 (by injection e))).trans h5
end Go.Proofs.YtnnbibmmofnkdaaGreat
namespace Go.Proofs.YtnnbibmmofnkdaaGreat
open Go.RowKit Go.Proofs WageMap WageMem WageReg WageRec WageSpan WageTop
/-- The sum of a key. -/
def keyT (k : Int) : List (Int × Int) → Int
 | [] => 0
 | q :: l => (if q.1 = k then q.2 else 0) + keyT k l
theorem keyT_bd {B : Int} (hB : 0 ≤ B) (k : Int) : ∀ (l : List (Int × Int)), (∀ q ∈ l, 0 ≤ q.2 ∧ q.2 ≤ B) → 0 ≤ keyT k l ∧ keyT k l ≤ (l.length : Int) * B
 | [], _ => ⟨Int.le_refl _, by simp [keyT]⟩
 | q :: l, h => by
  have h1 := keyT_bd hB k l (fun x hx => h x (List.mem_cons_of_mem _ hx))
  have h2 := h q List.mem_cons_self
  have e : ((q :: l).length : Int) * B = (l.length : Int) * B + B := by rw [List.length_cons, Int.natCast_add, Int.add_mul]; simp
  rw [e]
  generalize (l.length : Int) * B = z at *
  unfold keyT
  split <;> omega
theorem keyT_sub {k : Int} {l l' : List (Int × Int)} (h : l.Sublist l') : (∀ q ∈ l', 0 ≤ q.2) → keyT k l ≤ keyT k l' := by
 induction h with
 | slnil => intro _; exact Int.le_refl _
 | cons a h ih =>
  intro hb
  have h1 := ih (fun q hq => hb q (List.mem_cons_of_mem _ hq))
  have h2 := hb a List.mem_cons_self
  show _ ≤ (if a.1 = k then a.2 else 0) + keyT k _
  split <;> omega
 | cons_cons a h ih =>
  intro hb
  have h1 := ih (fun q hq => hb q (List.mem_cons_of_mem _ hq))
  show (if a.1 = k then a.2 else 0) + keyT k _ ≤ (if a.1 = k then a.2 else 0) + keyT k _
  omega
theorem fold_keyT : ∀ (l m : List (Int × Int)), (∀ q ∈ l, 0 ≤ q.2) → (∀ k, 0 ≤ (alFind k m).getD 0 ∧ (alFind k m).getD 0 + keyT k l ≤ 4611686018427387904) → ∀ k, (alFind k (l.foldl putC m)).getD 0 = (alFind k m).getD 0 + keyT k l
 | [], m, _, _, k => by simp [keyT]
 | x :: l, m, hb, h, k => by
  have hx := hb x List.mem_cons_self
  have hl : ∀ k, 0 ≤ keyT k l := fun k => by
   have := keyT_sub (k := k) (List.nil_sublist l) (fun q hq => hb q (List.mem_cons_of_mem _ hq))
   exact this
  have key : ∀ k, (alFind k (putC m x)).getD 0 = (alFind k m).getD 0 + (if x.1 = k then x.2 else 0) := fun k => by
   unfold putC
   by_cases hk : k = x.1
   ·subst hk
    rw [alFind_put_self, if_pos rfl]
    have h1 := h x.1
    unfold keyT at h1
    rw [if_pos rfl] at h1
    have h2 := hl x.1
    exact wrap64_id (by omega) (by omega)
   ·rw [alFind_put_ne _ hk, if_neg (fun e => hk e.symm)]
    omega
  have h3 := fold_keyT l (putC m x) (fun q hq => hb q (List.mem_cons_of_mem _ hq)) (fun k => by
   rw [key k]
   have h1 := h k
   unfold keyT at h1
   split at h1 <;> rename_i hk
   ·rw [if_pos hk]; omega
   ·rw [if_neg hk]; omega) k
  show (alFind k (l.foldl putC (putC m x))).getD 0 = _
  rw [h3, key k]
  show _ = (alFind k m).getD 0 + ((if x.1 = k then x.2 else 0) + keyT k l)
  omega
theorem cnt_get {l : List (Int × Int)} {B : Int} (hB : 0 ≤ B) (hb : ∀ q ∈ l, 0 ≤ q.2 ∧ q.2 ≤ B) (hs : (l.length : Int) * B ≤ 4611686018427387904) (k : Int) : (alFind k (cntM l)).getD 0 = keyT k l := by
 have h1 := fold_keyT l [] (fun q hq => (hb q hq).1) (fun k => by
  have := keyT_bd hB k l hb
  show (0 : Int) ≤ 0 ∧ 0 + keyT k l ≤ _
  omega) k
 unfold cntM
 rw [h1]
 show 0 + keyT k l = _
 omega
theorem fold_keys : ∀ (l m : List (Int × Int)) (k : Int), k ∈ (l.foldl putC m).map Prod.fst ↔ k ∈ m.map Prod.fst ∨ k ∈ l.map Prod.fst
 | [], m, k => by simp
 | x :: l, m, k => by
  show k ∈ (l.foldl putC (putC m x)).map Prod.fst ↔ _
  rw [fold_keys l (putC m x) k]
  have e : (putC m x).map Prod.fst = if x.1 ∈ m.map Prod.fst then m.map Prod.fst else m.map Prod.fst ++ [x.1] := by unfold putC; exact alPut_keys _ _ _
  rw [e, List.map_cons, List.mem_cons]
  by_cases h : x.1 ∈ m.map Prod.fst
  ·rw [if_pos h]
   constructor
   ·rintro (h1 | h1)
    ·exact .inl h1
    ·exact .inr (.inr h1)
   ·rintro (h1 | h1 | h1)
    ·exact .inl h1
    ·subst h1; exact .inl h
    ·exact .inr h1
  ·rw [if_neg h, List.mem_append, List.mem_singleton]
   constructor
   ·rintro ((h1 | h1) | h1)
    ·exact .inl h1
    ·exact .inr (.inl h1)
    ·exact .inr (.inr h1)
   ·rintro (h1 | h1 | h1)
    ·exact .inl (.inl h1)
    ·exact .inl (.inr h1)
    ·exact .inr h1
theorem cnt_keys (l : List (Int × Int)) (k : Int) : k ∈ (cntM l).map Prod.fst ↔ k ∈ l.map Prod.fst := by
 unfold cntM
 rw [fold_keys]
 simp
theorem find_of_mem : ∀ {m : List (Int × Int)}, Keys m → ∀ {k v : Int}, (k, v) ∈ m → (alFind k m).getD 0 = v
 | [], _, _, _, h => by cases h
 | q :: m, hk, k, v, h => by
  unfold Keys at hk
  rw [List.map_cons, List.nodup_cons] at hk
  unfold alFind
  rcases List.mem_cons.1 h with h1 | h1
  ·rw [← h1, if_pos rfl]; rfl
  ·rw [if_neg (fun e => hk.1 (List.mem_map.2 ⟨_, h1, e⟩))]
   exact find_of_mem hk.2 h1
theorem pieces_bd : ∀ (k : Nat) (a e : Int), ∀ q ∈ piecesG k a e, 0 ≤ q.2 ∧ q.2 ≤ 1440
 | 0, _, _, q, h => by cases h
 | k + 1, a, e, q, h => by
  unfold piecesG at h
  split at h
  ·rcases List.mem_cons.1 h with h1 | h1
   ·subst h1
    show 0 ≤ min _ _ - a ∧ min _ _ - a ≤ 1440
    omega
   ·exact pieces_bd k _ e q h1
  ·cases h
theorem parts_bd (z : Zn) (f t : Int) : ∀ q ∈ partsG z f t, 0 ≤ q.2 ∧ q.2 ≤ 1440 := fun q hq => by
 unfold partsG at hq
 obtain ⟨⟨a, e, o⟩, _, h⟩ := List.mem_flatMap.1 hq
 exact pieces_bd _ _ _ q h
theorem split_bd (z : Zn) (f t : Int) (h0 : 0 ≤ t - f) (h1 : t - f ≤ 1440) : ∀ q ∈ splitL z f t, 0 ≤ q.2 ∧ q.2 ≤ 2073600 := fun q hq => by
 unfold splitL at hq
 obtain ⟨d, _, h⟩ := List.mem_flatMap.1 hq
 have hl : ((partsG z f t).length : Int) ≤ 1440 := by
  have : (partsG z f t).length ≤ (t - f).toNat := strG_len (by omega)
  omega
 have hm : ((partsG z f t).length : Int) * 1440 ≤ 2073600 := by
  have := Int.mul_le_mul_of_nonneg_right hl (show (0 : Int) ≤ 1440 by decide)
  omega
 have e := cnt_get (l := partsG z f t) (B := 1440) (by decide) (parts_bd z f t) (by omega) d
 have hb := keyT_bd (B := 1440) (by decide) d (partsG z f t) (parts_bd z f t)
 unfold portF at h
 split at h
 ·cases h
 ·rw [List.mem_singleton] at h
  subst h
  show 0 ≤ (alFind d _).getD 0 ∧ (alFind d _).getD 0 ≤ 2073600
  rw [e]
  omega
theorem flatMap_sub {β : Type} (f : Nat → List β) {l l' : List Nat} (h : l.Sublist l') : (l.flatMap f).Sublist (l'.flatMap f) := by
 induction h with
 | slnil => exact List.Sublist.refl _
 | cons a h ih => rw [List.flatMap_cons]; exact ih.trans (List.sublist_append_right _ _)
 | cons_cons a h ih => rw [List.flatMap_cons, List.flatMap_cons]; exact (List.Sublist.refl _).append ih
theorem weekS_bd {m : List (Int × Int)} {M : Int} (hM : M ≤ 1000000000000) (h : ∀ k, 0 ≤ (alFind k m).getD 0 ∧ (alFind k m).getD 0 ≤ M) (day : Int) : ∀ k : Nat, k ≤ 7 → 0 ≤ weekS m day k ∧ weekS m day k ≤ (k : Int) * 1000000000000
 | 0, _ => ⟨Int.le_refl _, by simp [weekS]⟩
 | k + 1, hk => by
  have h1 := weekS_bd hM h day k (by omega)
  have h2 := h (wrap64 (day + k))
  have e : wrap64 (weekS m day k + (alFind (wrap64 (day + k)) m).getD 0) = weekS m day k + (alFind (wrap64 (day + k)) m).getD 0 := wrap64_id (by omega) (by omega)
  unfold weekS
  rw [e]
  omega
theorem weekS_mono {m m' : List (Int × Int)} {M : Int} (hM : M ≤ 1000000000000) (h : ∀ k, 0 ≤ (alFind k m).getD 0 ∧ (alFind k m).getD 0 ≤ (alFind k m').getD 0 ∧ (alFind k m').getD 0 ≤ M) (day : Int) : ∀ k : Nat, k ≤ 7 → weekS m day k ≤ weekS m' day k
 | 0, _ => Int.le_refl _
 | k + 1, hk => by
  have h0 := weekS_mono hM h day k (by omega)
  have h1 := weekS_bd hM (fun k => ⟨(h k).1, Int.le_trans (h k).2.1 (h k).2.2⟩) day k (by omega)
  have h1' := weekS_bd hM (fun k => ⟨Int.le_trans (h k).1 (h k).2.1, (h k).2.2⟩) day k (by omega)
  have h2 := h (wrap64 (day + k))
  have e : wrap64 (weekS m day k + (alFind (wrap64 (day + k)) m).getD 0) = weekS m day k + (alFind (wrap64 (day + k)) m).getD 0 := wrap64_id (by omega) (by omega)
  have e' : wrap64 (weekS m' day k + (alFind (wrap64 (day + k)) m').getD 0) = weekS m' day k + (alFind (wrap64 (day + k)) m').getD 0 := wrap64_id (by omega) (by omega)
  show wrap64 (weekS m day k + _) ≤ wrap64 (weekS m' day k + _)
  rw [e, e']
  omega
theorem rs_sub {p : Pl} {l l' : List Nat} (h : l.Sublist l') : rsV p l = true → rsV p l' = true := by
 induction h with
 | slnil => exact id
 | cons a h ih => intro h1; show (_ || rsV p _) = true; rw [ih h1, Bool.or_true]
 | cons_cons a h ih =>
  intro h1
  have h2 : (_ || rsV p _) = true := h1
  show (_ || rsV p _) = true
  rw [Bool.or_eq_true] at h2 ⊢
  rcases h2 with h2 | h2
  ·rw [List.any_eq_true] at h2 ⊢
   obtain ⟨x, hx, h3⟩ := h2
   exact .inl ⟨x, h.subset hx, h3⟩
  ·exact .inr (ih h2)
theorem any_sub {f : Nat → Bool} {l l' : List Nat} (h : l.Sublist l') (h1 : l.any f = true) : l'.any f = true := by
 rw [List.any_eq_true] at h1 ⊢
 obtain ⟨x, hx, h2⟩ := h1
 exact ⟨x, h.subset hx, h2⟩
theorem mins_len {p : Pl} (hb : ∀ k, 0 ≤ (p.du k).b - (p.du k).a ∧ (p.du k).b - (p.du k).a ≤ 1440) : ∀ ds : List Nat, (ds.flatMap (minsF p)).length ≤ ds.length * 1440
 | [] => Nat.le_refl _
 | d :: ds => by
  have h1 := mins_len hb ds
  have h2 : (minsF p d).length ≤ ((p.du d).b - (p.du d).a).toNat := splitL_len _ _ _ (by have := hb d; omega)
  have h3 := hb d
  rw [List.flatMap_cons, List.length_append, List.length_cons]
  omega
/-- The minutes by days grow with the duties. -/
theorem day_mono {p : Pl} (hb : ∀ k, 0 ≤ (p.du k).b - (p.du k).a ∧ (p.du k).b - (p.du k).a ≤ 1440) {ds ds' : List Nat} (h : ds.Sublist ds') (hl : ds'.length ≤ 24) : ∀ k, 0 ≤ (alFind k (dayM p ds)).getD 0 ∧ (alFind k (dayM p ds)).getD 0 ≤ (alFind k (dayM p ds')).getD 0 ∧ (alFind k (dayM p ds')).getD 0 ≤ 1000000000000 := fun k => by
 have hq : ∀ ds : List Nat, ∀ q ∈ ds.flatMap (minsF p), 0 ≤ q.2 ∧ q.2 ≤ 2073600 := fun ds q hq => by
  obtain ⟨d, _, h1⟩ := List.mem_flatMap.1 hq
  exact split_bd _ _ _ (hb d).1 (hb d).2 q h1
 have hn : ∀ ds : List Nat, ds.length ≤ 24 → (((ds.flatMap (minsF p)).length : Nat) : Int) * 2073600 ≤ 71663616000 := fun ds hd => by
  have h1 := mins_len hb ds
  have h2 : (((ds.flatMap (minsF p)).length : Nat) : Int) ≤ 34560 := by omega
  have := Int.mul_le_mul_of_nonneg_right h2 (show (0 : Int) ≤ 2073600 by decide)
  omega
 have hl0 := h.length_le
 have e1 := cnt_get (B := 2073600) (by decide) (hq ds) (by have := hn ds (by omega); omega) k
 have e2 := cnt_get (B := 2073600) (by decide) (hq ds') (by have := hn ds' hl; omega) k
 have b1 := keyT_bd (B := 2073600) (by decide) k _ (hq ds)
 have b2 := keyT_bd (B := 2073600) (by decide) k _ (hq ds')
 have b3 := keyT_sub (k := k) (flatMap_sub (minsF p) h) (fun q h => (hq ds' q h).1)
 have b4 := hn ds' hl
 unfold dayM
 rw [e1, e2]
 omega
theorem day_keys {p : Pl} {ds ds' : List Nat} (h : ds.Sublist ds') {q : Int × Int} (hq : q ∈ dayM p ds) : ∃ q' ∈ dayM p ds', q'.1 = q.1 := by
 have h1 := (cnt_keys _ _).1 (List.mem_map.2 ⟨q, hq, rfl⟩)
 obtain ⟨x, hx, e⟩ := List.mem_map.1 h1
 have h2 := (cnt_keys (ds'.flatMap (minsF p)) q.1).2 (List.mem_map.2 ⟨x, (flatMap_sub (minsF p) h).subset hx, e⟩)
 obtain ⟨y, hy, e2⟩ := List.mem_map.1 h2
 exact ⟨y, hy, e2⟩
theorem viol_mono {p : Pl} (hb : ∀ k, 0 ≤ (p.du k).b - (p.du k).a ∧ (p.du k).b - (p.du k).a ≤ 1440) {x : Wo} {ds ds' : List Nat} (h : ds.Sublist ds') (hl : ds'.length ≤ 24) (hv : violW p x ds = true) : violW p x ds' = true := by
 unfold violW at hv ⊢
 rw [List.any_eq_true] at hv ⊢
 obtain ⟨k, hk, hv⟩ := hv
 refine ⟨k, hk, ?_⟩
 have hd := day_mono hb h hl
 match k with
 | 0 => exact any_sub h hv
 | 1 => exact any_sub h hv
 | 2 => exact rs_sub h hv
 | 3 =>
  have hv : (dayM p ds).any (fun q => decide (p.lm.week < weekS (dayM p ds) q.1 7)) = true := hv
  show (dayM p ds').any (fun q => decide (p.lm.week < weekS (dayM p ds') q.1 7)) = true
  rw [List.any_eq_true] at hv ⊢
  obtain ⟨q, hq, h1⟩ := hv
  obtain ⟨q', hq', e⟩ := day_keys h hq
  have h2 := weekS_mono (Int.le_refl _) hd q.1 7 (Nat.le_refl _)
  have h3 := of_decide_eq_true h1
  exact ⟨q', hq', decide_eq_true (by rw [e]; omega)⟩
 | 4 =>
  have hv : (x.mi && ngV p ds) = true := hv
  show (x.mi && ngV p ds') = true
  rw [Bool.and_eq_true] at hv ⊢
  exact ⟨hv.1, any_sub h hv.2⟩
 | 5 =>
  have hv : (x.mi && mnV p ds) = true := hv
  show (x.mi && mnV p ds') = true
  rw [Bool.and_eq_true] at hv ⊢
  refine ⟨hv.1, ?_⟩
  have hv2 : (dayM p ds).any (fun q => decide (p.lm.mn < q.2)) = true := hv.2
  show (dayM p ds').any (fun q => decide (p.lm.mn < q.2)) = true
  rw [List.any_eq_true] at hv2 ⊢
  obtain ⟨q, hq, h1⟩ := hv2
  obtain ⟨q', hq', e⟩ := day_keys h hq
  have e1 := find_of_mem (cntM_keys _) (show (q.1, q.2) ∈ dayM p ds from hq)
  have e2 := find_of_mem (cntM_keys _) (show (q'.1, q'.2) ∈ dayM p ds' from hq')
  have h2 := hd q.1
  have h3 := of_decide_eq_true h1
  unfold dayM at h2
  rw [e] at e2
  exact ⟨q', hq', decide_eq_true (by rw [e1, e2] at h2; omega)⟩
 | k + 6 => cases hv
theorem env_ok {w : World} {p : Pl} (hp : PlanAt w p) (ok : planB p = true) : (envP p).Ok := by
 have hb := env_bd hp ok
 refine ⟨fun k ds ds' h hl _ hv => ?_, fun k _ => (hb.dur k).1, fun k _ => (hb.wage k).1⟩
 have hv : violP p k ds = true := hv
 show violP p k ds' = true
 unfold violP at hv ⊢
 split at hv
 ·rename_i x hx
  exact viol_mono (fun k => hb.dur k) h (Nat.le_trans hl hb.nD) hv
 ·cases hv
end Go.Proofs.YtnnbibmmofnkdaaGreat
namespace Go.Proofs.YtnnbibmmofnkdaaGreat
open Go.RowKit Go.Proofs WageMem WageReg WageRec WageSpan WageTop
theorem LogAt.base {a b : Nat} {Pr : Nat → Prop} {y : World} {G : Value} {log : List Stp} (h : LogAt a Pr y G log) (hb : b ≤ a) : LogAt b (fun _ => True) y G log := by
 obtain ⟨qs, h4, h5, h6⟩ := h
 exact ⟨qs, own_base h4 hb, h5, fun i q s hq hs => by
  obtain ⟨a1, a2, a3, a4, a5, _⟩ := h6 i q s hq hs
  exact ⟨a1, a2, own_base a3 hb, a4, own_base a5 hb, fun _ _ => trivial⟩⟩
end Go.Proofs.YtnnbibmmofnkdaaGreat
