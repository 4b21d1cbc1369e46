/-
 zone.Split.
-/
import Derived.RangeFuncNested
import Derived.RangeFuncBound
import Derived.RangeFuncCalls
import Derived.RangeFuncLeaves
import Derived.Shelf.Abstract
import Derived.Shelf.RegionOpen
import Derived.WalkKit
import Derived.OwnWalkIn
import Derived.TacticsInMore
import Derived.LoopNIn
import Derived.LoopIn
import Derived.Test.YtnnbibmmofnkdaaGreatKit
import Derived.Test.YtnnbibmmofnkdaaGreatZoneE
import Derived.Test.YtnnbibmmofnkdaaGreatKeys
import Derived.Test.YtnnbibmmofnkdaaGreatSpA
import Derived.Test.YtnnbibmmofnkdaaGreatEqT
namespace Go.Proofs.YtnnbibmmofnkdaaGreat
open Go.RowKit Go.Shelf Go.Proofs WageMap WageMem WageReg WageRec WageSpan WageTop
attribute [local go_sem] Oper.semAt_some
def putC (m : List (Int × Int)) (p : Int × Int) : List (Int × Int) := alPut p.1 (wrap64 ((alFind p.1 m).getD 0 + p.2)) m
def cntM (ps : List (Int × Int)) : List (Int × Int) := ps.foldl putC []
def prt (x : Int × Int × Int) : List (Int × Int) := piecesG (x.2.1 - x.1).toNat (x.1 + x.2.2) (x.2.1 + x.2.2)
theorem cntM_keys (ps : List (Int × Int)) : Keys (cntM ps) := by
 unfold cntM
 have : ∀ (l : List (Int × Int)) (m : List (Int × Int)), Keys m → Keys (l.foldl putC m) := fun l => by
  induction l with
  | nil => exact fun m h => h
  | cons x l ih => exact fun m h => ih _ (h.put _ _)
 exact this ps [] Keys.nil
theorem cntM_mem (ps : List (Int × Int)) : ∀ p ∈ cntM ps, ∃ q ∈ ps, q.1 = p.1 := by
 unfold cntM
 have : ∀ (l : List (Int × Int)) (m : List (Int × Int)), ∀ p ∈ l.foldl putC m, (∃ q ∈ l, q.1 = p.1) ∨ ∃ q ∈ m, q.1 = p.1 := fun l => by
  induction l with
  | nil => exact fun m p hp => .inr ⟨p, hp, rfl⟩
  | cons x l ih =>
   intro m p hp
   rcases ih _ p hp with ⟨q, hq, e⟩ | ⟨q, hq, e⟩
   ·exact .inl ⟨q, List.mem_cons_of_mem _ hq, e⟩
   ·unfold putC at hq
    rcases alPut_mem hq with rfl | hq
    ·exact .inl ⟨x, List.mem_cons_self, e⟩
    ·exact .inr ⟨q, hq, e⟩
 intro p hp
 rcases this ps [] p hp with h | ⟨q, hq, _⟩
 ·exact h
 ·cases hq
theorem cntM_len (ps : List (Int × Int)) : (cntM ps).length ≤ ps.length := by
 unfold cntM
 have : ∀ (l : List (Int × Int)) (m : List (Int × Int)), (l.foldl putC m).length ≤ m.length + l.length := fun l => by
  induction l with
  | nil => exact fun m => Nat.le_refl _
  | cons x l ih =>
   intro m
   have h1 := ih (putC m x)
   have h2 := alPut_length x.1 (wrap64 ((alFind x.1 m).getD 0 + x.2)) m
   unfold putC at h1
   show (l.foldl putC (putC m x)).length ≤ _
   rw [List.length_cons]
   unfold putC
   omega
 have := this ps []
 simpa using this
theorem pieces_mem : ∀ {k : Nat} {a e : Int} {p : Int × Int}, p ∈ piecesG k a e → a / 1440 ≤ p.1 ∧ p.1 * 1440 < e
 | 0, _, _, _, h => by cases h
 | k + 1, a, e, p, h => by
  unfold piecesG at h
  split at h
  ·rcases List.mem_cons.1 h with rfl | h
   ·exact ⟨Int.le_refl _, by show a / 1440 * 1440 < e; omega⟩
   ·have := pieces_mem h
    omega
  ·cases h
theorem pieces_len : ∀ (k : Nat) (a e : Int), (piecesG k a e).length ≤ k
 | 0, _, _ => Nat.le_refl _
 | k + 1, a, e => by
  unfold piecesG
  split
  ·rw [List.length_cons]
   have := pieces_len k (min ((a / 1440 + 1) * 1440) e) e
   omega
  ·exact Nat.zero_le _
theorem strG_len {t : Int} : ∀ {ch : List (Int × Int)} {off f : Int}, f ≤ t → ((strG ch off f t).flatMap prt).length ≤ (t - f).toNat
 | [], off, f, h => by
  unfold strG
  split
  ·rw [List.flatMap_cons, List.length_append]
   have := pieces_len (t - f).toNat (f + off) (t + off)
   simpa [prt] using this
  ·exact Nat.zero_le _
 | (a, o) :: l, off, f, h => by
  rw [str_cons]
  split
  ·rename_i hlt
   rw [List.flatMap_cons, List.length_append]
   have h1 := strG_len (ch := l) (off := o) (f := min a t) (t := t) (by omega)
   have h2 : (prt (f, min a t, off)).length ≤ (min a t - f).toNat := pieces_len _ _ _
   omega
  ·exact strG_len h
theorem pieces_end (k : Nat) {l e : Int} (h : e ≤ l) : piecesG k l e = [] := by
 cases k with
 | zero => rfl
 | succ k => unfold piecesG; rw [if_neg (by omega)]
theorem pieces_step {l e : Int} (h : l < e) {nx : Int} (hn : nx = min ((l / 1440 + 1) * 1440) e) : piecesG (e - l).toNat l e = (l / 1440, nx - l) :: piecesG (e - nx).toNat nx e := by
 subst hn
 obtain ⟨k, hk⟩ : ∃ k, (e - l).toNat = k + 1 := ⟨(e - l).toNat - 1, by omega⟩
 rw [hk]
 have e1 : piecesG (k + 1) l e = if l < e then (l / 1440, min ((l / 1440 + 1) * 1440) e - l) :: piecesG k (min ((l / 1440 + 1) * 1440) e) e else [] := rfl
 rw [e1, if_pos h]
 obtain ⟨j, hj⟩ : ∃ j, k = (e - min ((l / 1440 + 1) * 1440) e).toNat + j := ⟨k - (e - min ((l / 1440 + 1) * 1440) e).toNat, by omega⟩
 rw [hj, piecesG_more _ _ _ (Nat.le_refl _)]
theorem builtS {w : World} {t : TypeId} (size n : Nat) (cs : Array Value) (xs : List Value) (h : cs = xs.toArray) (hn : xs.length = n * size) (hm : n ≤ 1000) : Sl (w.alloc (.cells cs t)) size (some ⟨w.heap.size, 0, none⟩) n n xs := by
 subst h
 refine ⟨Nat.le_refl _, by unfold maxLen; omega, hn, fun _ => ⟨w.heap.size, 0, rfl, fun j u hu => ?_⟩, fun h => by cases h⟩
 have := range_new w xs t j u (by simpa using hu)
 simpa using this
theorem wpListIn_append_run {F : Fence} {n : Nat} {P : Program} (w : World) {ops : Array Oper} {rest : List Oper} {o : Oper} {a : Act} {Q : Exit → Act → World → Prop}
  (hg : o.guard = none) (s x : Operand) (t ty : TypeId) (hop : o.op = Op.call { callee := Callee.builtin Builtin.append, args := #[s, x], argTypes := #[t, t] }) (hty : o.type = ty)
  (v u v' : Value) (w' : World) (hs : a.eval s = v) (hx : a.eval x = u) (hrun : (Builtin.append_ #[t, t] ty #[v, u]).run P w = .ok v' w')
  (hK : wpListIn F n P ops Q rest (a.put o.dst v') w') : wpListIn F n P ops Q (o :: rest) a w := by
 refine wpListIn_plain hg fun K hK' => ?_
 subst hty
 unfold Oper.wpIn
 refine ⟨?_, ?_⟩
 ·simp [Oper.about, hop, resolve, Target.leads, Sem.run_pure]
 ·rw [Oper.semAt_plain F _ _ (by rw [hop]; intro c hc'; cases hc')]
  simp [execOp, hop, resolve, invoke, builtin, hs, hx, hrun, Result.andThen]
  exact hK' _ _ hK
theorem wrap_in (z : Int) : -9223372036854775808 ≤ wrap64 z ∧ wrap64 z ≤ 9223372036854775807 := by unfold wrap64; omega
theorem cntM_in64 (ps : List (Int × Int)) : ∀ d, -9223372036854775808 ≤ (alFind d (cntM ps)).getD 0 ∧ (alFind d (cntM ps)).getD 0 ≤ 9223372036854775807 := by
 unfold cntM
 have : ∀ (l : List (Int × Int)) (m : List (Int × Int)), (∀ d, -9223372036854775808 ≤ (alFind d m).getD 0 ∧ (alFind d m).getD 0 ≤ 9223372036854775807) → ∀ d, -9223372036854775808 ≤ (alFind d (l.foldl putC m)).getD 0 ∧ (alFind d (l.foldl putC m)).getD 0 ≤ 9223372036854775807 := fun l => by
  induction l with
  | nil => exact fun m h => h
  | cons x l ih =>
   intro m h
   refine ih _ fun d => ?_
   unfold putC
   by_cases hd : d = x.1
   ·subst hd
    rw [alFind_put_self]
    exact wrap_in _
   ·rw [alFind_put_ne _ hd]
    exact h d
 exact this ps [] fun d => by show (-9223372036854775808 : Int) ≤ 0 ∧ (0 : Int) ≤ 9223372036854775807; omega
theorem info49 : (Tryz.prog.info? 49).map (fun i => (i.zero, i.size, i.bytes)) = some (some (.agg #[.int .i64 0, .int .i64 0]), 2, 16) := by kernel_rfl
theorem key3 : KeyOk Tryz.prog 3 zk := int_key (by kernel_rfl)
theorem map179 : Tryz.prog.underlying 179 = some (.map 3 3) := by kernel_rfl
theorem zero3 (w : World) : (zeroValue 3).run Tryz.prog w = .ok (.int .i64 0) w := by kernel_rfl
/-- The days of a stretch of time that are no days. -/
def dayOk (d : Int) : Bool := decide (0 ≤ d ∧ d ≤ 36524)
def portF (m : List (Int × Int)) (d : Int) : List (Int × Int) := if (alFind d m).getD 0 = 0 then [] else [(d, (alFind d m).getD 0)]
/-- The minutes of a stretch of time by days. -/
def splitL (z : Zn) (f t : Int) : List (Int × Int) := (sortI ((cntM (partsG z f t)).map Prod.fst)).flatMap (portF (cntM (partsG z f t)))
def splitB (z : Zn) (f t : Int) : Bool := (sortI ((cntM (partsG z f t)).map Prod.fst)).all dayOk
/-- What Split returns. -/
def RetSp (z : Zn) (f t : Int) (w : World) (r : Ending) (w' : World) : Prop :=
 (splitB z f t = true ∧ ∃ A n c, r = .returned (.tuple #[.slice A n c, .int .i64 0]) ∧ (Spans w' A n c (splitL z f t) ∧ w'.ownsRow w.heap.size 49 2 (.slice A n c) n (flat (splitL z f t))) ∧ Grew w w') ∨
 (splitB z f t = false ∧ r = .returned (.tuple #[.slice none 0 0, .int .i64 21]) ∧ Grew w w')
def SplI (w3 : World) (pre : List (Int × Int × Int)) (W : World) : Prop := MapIs zk zk W w3.heap.size (cntM (pre.flatMap prt)) ∧ Boxed W (w3.heap.size + 1) 179 (.map (some w3.heap.size)) ∧ Grew w3 W
def offS (w3 : World) (k : Nat) : Prop := k ≠ w3.heap.size ∧ k ≠ w3.heap.size + 6
theorem map_step {A B : World} {b bf : Nat} {m : List (Int × Int)} (h : MapIs zk zk A b m) (g : StepZ bf A B) (hb : b ≠ bf) : MapIs zk zk B b m := by
 obtain ⟨es, clock, h1, h2⟩ := h
 exact ⟨es, clock, g.2 _ _ hb h1, h2⟩
theorem KeepB.grown {G : Nat → Prop} {A B : World} {b : Nat} (h : A.grownBy B (some b)) (hb : ¬ G b) : KeepB G A B :=
 ⟨h.size, fun k o hk ho => (h.block k (Array.getElem?_eq_some_iff.1 ho).1 (by rintro e; injection e with e; subst e; exact hb hk)).trans ho⟩
theorem map_put {W : World} {b : Nat} {m : List (Int × Int)} (h : MapIs zk zk W b m) {k : Nat} (o' : Obj) (hk : b ≠ k) : MapIs zk zk (W.putObj k o') b m := h.same (World.putObj_heap_other hk)
set_option maxRecDepth 100000 in
set_option maxHeartbeats 8000000 in
theorem split39 (nm : ByteArray) (zb : Int) (C : Option Addr) (n c : Nat) (ch : List Sp) (f e : Int) (w : World) (hs : Spans w C n c ch) (hz : znB ⟨zb, ch⟩ = true)
  (hf : 0 ≤ f) (hfe : f ≤ e) (he : e ≤ 52596000) (hl : e - f ≤ 44640) :
  Calls Tryz.prog 39 #[.agg #[.string nm, .int .i64 zb, .slice C n c], .int .i64 f, .int .i64 e] w (RetSp ⟨zb, ch⟩ f e w) := by
 have HS := Lib.hid hs
 have HZ := Lib.hid hz
 clear hs hz
 refine (callsIn_wide (n := 3)).1 ?_
 refine callsIn_of_wp_marks Tryz.func39 rfl trivial ?_ rfl
 simp only [Tryz.ntmps39, List.size_toArray, List.length_cons, List.length_nil, Nat.reduceAdd, Nat.reduceSub, Array.replicate_succ, Array.replicate_zero, List.push_toArray, List.append_toArray, List.nil_append, List.cons_append]
 have g2 : Grew w (w.alloc (.cells #[.string nm, .int .i64 zb, .slice C n c] 24)) := (Grew.refl w).alloc _
 gi_wp2
 refine ⟨trivial, ?_⟩
 refine (callsIn_wide.2 (check83 (t := true) (HS.out.grew g2) ⟨by omega, by omega⟩ ⟨by omega, by omega⟩ (by rw [HZ.out, Bool.true_and]; exact decide_eq_true ⟨hf, hfe, he⟩))).mono ?_
 rintro r w3 ⟨rfl, g3⟩
 have xz := g3.block (World.alloc_heap_new w (.cells #[.string nm, .int .i64 zb, .slice C n c] 24))
 have XZ := Lib.hid xz
 have G3 := g2.trans g3
 have hw3 : w.heap.size + 1 ≤ w3.heap.size := by have := g3.le; simpa using this
 have H3 := Lib.hid (HS.out.grew G3)
 have gt := ((Grew.refl w3).alloc (.map #[] 0)).alloc (.cells #[.map (some w3.heap.size)] 179)
 have v0 := gt.cell (show w3.cell? ⟨w.heap.size, 0, none⟩ = some (.string nm) by simp [World.cell?, xz])
 have v1 := gt.cell (show w3.cell? ⟨w.heap.size, 1, none⟩ = some (.int .i64 zb) by simp [World.cell?, xz])
 have v2 := gt.cell (show w3.cell? ⟨w.heap.size, 2, none⟩ = some (.slice C n c) by simp [World.cell?, xz])
 have hmm := @run_makeMap Tryz.prog
 clear g2 g3 HS xz gt
 gi_wp2_with (refine ⟨trivial, ?_⟩; gi_at_call 84; refine (callsIn_wide.2 (stretches84 _ _ _ _ _ _ _ _ _ rfl)).mono ?_; rintro r w' ⟨rfl, rfl⟩)
 obtain ⟨w6, hw6⟩ : ∃ y, y = ((((w3.alloc (.map #[] 0)).alloc (.cells #[.map (some w3.heap.size)] 179)).alloc (.cells #[.string nm, .int .i64 zb, .slice C n c] 24)).alloc (.cells #[.int .i64 f] 3)).alloc (.cells #[.int .i64 e] 3) := ⟨_, rfl⟩
 have hs6 : w6.heap.size = w3.heap.size + 5 := by rw [hw6]; simp
 have g6 : Grew w3 w6 := by rw [hw6]; exact (((((Grew.refl w3).alloc _).alloc _).alloc _).alloc _).alloc _
 have kM : MapIs zk zk w6 w3.heap.size [] := by rw [hw6]; exact (MapIs.made w3).grew ((((Grew.refl _).alloc _).alloc _).alloc _ |>.alloc _)
 have k9 : Boxed w6 (w3.heap.size + 1) 179 (.map (some w3.heap.size)) := by
  rw [hw6]; have := (((Boxed.new (w3.alloc (.map #[] 0)) 179 (.map (some w3.heap.size))).alloc (.cells #[.string nm, .int .i64 zb, .slice C n c] 24)).alloc (.cells #[.int .i64 f] 3)).alloc (.cells #[.int .i64 e] 3); rwa [World.size_alloc] at this
 have kz : w6.heap[w3.heap.size + 1 + 1]? = some (.cells #[.string nm, .int .i64 zb, .slice C n c] 24) := by
  rw [hw6]; have := (((Grew.refl _).alloc (.cells #[.int .i64 f] 3)).alloc (.cells #[.int .i64 e] 3)).block (World.alloc_heap_new ((w3.alloc (.map #[] 0)).alloc (.cells #[.map (some w3.heap.size)] 179)) (.cells #[.string nm, .int .i64 zb, .slice C n c] 24)); rwa [World.size_alloc, World.size_alloc] at this
 have k2 : Boxed w6 (w3.heap.size + 1 + 1 + 1) 3 (.int .i64 f) := by
  rw [hw6]; have := (Boxed.new (((w3.alloc (.map #[] 0)).alloc (.cells #[.map (some w3.heap.size)] 179)).alloc (.cells #[.string nm, .int .i64 zb, .slice C n c] 24)) 3 (.int .i64 f)).alloc (.cells #[.int .i64 e] 3); rwa [World.size_alloc, World.size_alloc, World.size_alloc] at this
 have k3 : Boxed w6 (w3.heap.size + 1 + 1 + 1 + 1) 3 (.int .i64 e) := by
  rw [hw6]; have := Boxed.new ((((w3.alloc (.map #[] 0)).alloc (.cells #[.map (some w3.heap.size)] 179)).alloc (.cells #[.string nm, .int .i64 zb, .slice C n c] 24)).alloc (.cells #[.int .i64 f] 3)) 3 (.int .i64 e); rwa [World.size_alloc, World.size_alloc, World.size_alloc, World.size_alloc] at this
 rw [← hw6]
 have KZ := Lib.hid kz
 have HBL : Hid (∀ b o, C = some ⟨b, o, none⟩ → 0 < n → b < w3.heap.size) := fun b o h hp => by
  obtain ⟨b', o', y, h', _, hr, _⟩ := H3.out.at_ hp
  rw [h] at h'
  injection h' with h'
  injection h' with e1 e2
  subst e1
  exact World.block_lt_of_cell? _ _ hr
 obtain ⟨hzo, hzc⟩ : (-840 ≤ zb ∧ zb ≤ 840) ∧ chB zb none ch = true := by
  have := HZ.out
  unfold znB at this
  simp only [Bool.and_eq_true, decide_eq_true_eq] at this
  exact ⟨this.2.1, this.2.2⟩
 have HZC := Lib.hid hzc
 clear hw6 v0 v1 v2 kz hzc hmm
 refine wpIn_rangeFunc_goesOnY rfl (by decide) (gf := 117) (lb := #[.pointer (some ⟨w3.heap.size + 1 + 1, 0, none⟩), .pointer (some ⟨w3.heap.size + 1 + 1 + 1 + 1, 0, none⟩), .pointer (some ⟨w3.heap.size + 1 + 1 + 1, 0, none⟩)]) rfl trivial (enters_of Tryz.func117 (by kernel_rfl) rfl) (encs := stE) (fun _ => rfl)
  (fun o1 o2 => stretch_runs 2 (w3.heap.size + 1 + 1) (w3.heap.size + 1 + 1 + 1 + 1) (w3.heap.size + 1 + 1 + 1) zb C n c ch f e (offS w3) _ (by have := (((Grew.refl w6).alloc o1).alloc o2).block KZ.out; simp [World.cell?, this]) (by have := (((Grew.refl w6).alloc o1).alloc o2).block KZ.out; simp [World.cell?, this]) ((k3.alloc o1).alloc o2).cell ((k2.alloc o1).alloc o2) (H3.out.grew ((g6.alloc o1).alloc o2))
   (by omega) (fun b o h hn => by have := HBL.out b o h hn; omega) ⟨by omega, by omega⟩ ⟨by omega, by omega⟩ (fun b o h hn => by have := HBL.out b o h hn; exact ⟨by omega, by omega⟩) (fun k hk => by simp [hs6] at hk; exact ⟨by omega, by omega⟩) (by omega) (by omega) (by omega) (by omega))
  (fun A B C h k => h.trans k) ?kb ?st (SplI w3) ?is ?ib ?start ?round ?done
 case kb =>
  intro W o'
  exact KeepB.put W o' (fun h => h.2 (by rw [hs6]))
 case st => exact fun A B g k o hk ho => g.2 k o (by omega) ho
 case is => exact fun s A B h g => ⟨map_step h.1 g (by omega), g.2 _ _ (by omega) h.2.1, h.2.2.step g (by omega)⟩
 case ib =>
  intro s W o' _ h
  exact ⟨map_put h.1 o' (by omega), (World.putObj_heap_other (by omega)).trans h.2.1, h.2.2.grown (grownBy_putObj' W _ o') (fun j hj => by injection hj with hj; omega)⟩
 case start =>
  intro o1 o2
  exact ⟨kM.grew (((Grew.refl w6).alloc o1).alloc o2), (k9.alloc o1).alloc o2, (g6.alloc o1).alloc o2⟩
 case round =>
  intro l pre x W hI hsz hV hlen
  obtain ⟨hx1, hx2, hx3, hx4, hx5⟩ := strG_mem hzo HZC.out hV
  obtain ⟨hM, hI1, hI2⟩ := hI
  obtain ⟨x0, x1, x2⟩ := x
  simp only at hx1 hx2 hx3 hx4 hx5
  obtain ⟨M, hT⟩ : ∃ M, cntM (pre.flatMap prt) = M := ⟨_, rfl⟩
  rw [hT] at hM
  have HT := Lib.hid hT
  have HM := Lib.hid hM
  have HI1 := Lib.hid hI1
  have HI2 := Lib.hid hI2
  have HS6 := Lib.hid hs6
  clear hT kM k9 k2 k3 hV hlen hI1 hI2 hs6 hM
  simp only [stE]
  gi_wp2
  refine ⟨fun k o hk ho => ((Grew.refl W).alloc _).block ho, KeepB.grew ((Grew.refl W).alloc _), fun o' => ?_⟩
  have ga := (Grew.refl W).alloc (.cells #[.int .i64 x0, .int .i64 x1] 28)
  obtain ⟨Wb, hWb⟩ : ∃ y, y = (W.alloc (.cells #[.int .i64 x0, .int .i64 x1] 28)).putObj (w6.heap.size + 1) o' := ⟨_, rfl⟩
  obtain ⟨bx, hbx⟩ : ∃ y, y = W.heap.size := ⟨_, rfl⟩
  have B0 : Hid (MapIs zk zk Wb w3.heap.size M) := by rw [hWb]; exact map_put (HM.out.grew ga) o' (by have := HS6.out; omega)
  have B1 : Hid (Boxed Wb (w3.heap.size + 1) 179 (.map (some w3.heap.size))) := by rw [hWb]; exact (World.putObj_heap_other (by have := HS6.out; omega)).trans (ga.block HI1.out)
  have B2 : Hid (Grew w3 Wb) := by rw [hWb]; exact (HI2.out.trans ga).grown (grownBy_putObj' _ _ o') (fun j hj => by injection hj with hj; have := HS6.out; omega)
  have HXB : Hid (Wb.heap[bx]? = some (.cells #[.int .i64 x0, .int .i64 x1] 28)) := by rw [hWb, hbx]; exact (World.putObj_heap_other (by omega)).trans (World.alloc_heap_new W _)
  have c0 : Wb.cell? ⟨bx, 0, none⟩ = some (.int .i64 x0) := by simp [World.cell?, HXB.out]
  have c1 : Wb.cell? ⟨bx, 1, none⟩ = some (.int .i64 x1) := by simp [World.cell?, HXB.out]
  rw [← hWb, ← hbx]
  clear hWb hbx ga HI1 HI2 HM
  gi_wp2
  have e1 : IntKind.i64.wrap (x0 + x2) = x0 + x2 := IntWalk.i64_in _ (by omega)
  have e2 : IntKind.i64.wrap (x1 + x2) = x1 + x2 := IntWalk.i64_in _ (by omega)
  have hC : ∀ w', Grew Wb.drew w' → w'.cell? ⟨bx, 0, none⟩ = some (.int .i64 x0) ∧ w'.cell? ⟨bx, 1, none⟩ = some (.int .i64 x1) := fun w' g' => ⟨g'.cell ((Grew.refl Wb).drew.cell c0), g'.cell ((Grew.refl Wb).drew.cell c1)⟩
  refine wpIn_region_seqR (by kernel_rfl) (by kernel_rfl) (by rintro ⟨_, _, h⟩; exact h) Grew.refl (fun _ _ _ => Grew.trans) (fun _ _ _ _ _ h => h) (by kernel_rfl) ?_
  repeat' (first
   | (refine TakeAll.pure (v := ?_) (by rfl) ?_ ?_; rotate_left; (intro w' g'; obtain ⟨q_0, q_1⟩ := hC w' g'; go_simp; first | done | with_reducible rfl); (simp only [Act.put, uzT, uz0, uz1]))
   | (refine TakeAll.skip (by rfl) ?_; (simp only [Act.put, uzT, uz0, uz1]))
   | (refine TakeAll.part ?_ ?_ <;> (intro h; simp only [gvalB, ugT, ug0, ug1, Option.bind_some] at h; simp only [h]; (try simp at h)))
   | (refine TakeAll.nil ?_))
  all_goals clear hC
  intro w5 g5
  clear e1 e2 c0 c1
  have G5 : Grew Wb w5 := (Grew.refl Wb).drew.trans g5
  have B0' := Lib.hid (B0.out.grew G5)
  have B1' := Lib.hid (show Boxed w5 (w3.heap.size + 1) 179 (.map (some w3.heap.size)) from G5.block B1.out)
  have B2' := Lib.hid (B2.out.trans G5)
  have B3' := Lib.hid (keepsFrom_grew (B := w6.heap.size) G5)
  have B4' := Lib.hid (KeepB.grew (G := offS w3) G5)
  obtain ⟨R, hR⟩ : ∃ R, (prt (x0, x1, x2)).foldl putC M = R := ⟨_, rfl⟩
  have HR0 := Lib.hid hR
  clear hR g5 G5 B0 B1 B2
  gi_wp2
  gi_loopw [11] (fun v wr => ∃ (lc : Int) (m : List (Int × Int)), v = .int .i64 lc ∧ (x0 + x2 ≤ lc ∧ lc ≤ x1 + x2) ∧ Hid (MapIs zk zk wr w3.heap.size m) ∧ Hid (Boxed wr (w3.heap.size + 1) 179 (.map (some w3.heap.size))) ∧ Hid (Grew w3 wr) ∧ Hid (KeepsFrom w6.heap.size Wb wr) ∧ Hid (KeepB (offS w3) Wb wr) ∧ Hid ((piecesG (x1 + x2 - lc).toNat lc (x1 + x2)).foldl putC m = R))
   (fun v _ => (x1 + x2 - intOf v).toNat)
  case atStart => exact ⟨x0 + x2, M, rfl, ⟨Int.le_refl _, by omega⟩, B0', B1', B2', B3', B4', by unfold Hid; rw [← HR0.out]; unfold prt; rw [show x1 + x2 - (x0 + x2) = x1 - x0 by omega]⟩
  case round =>
   clear B0' B1' B2' B3' B4'
   obtain ⟨lc, m, rfl, ⟨hlo, hhi⟩, B0, B1, B2, B3, B4, HR⟩ := hrel
   by_cases hlt : lc < x1 + x2
   ·obtain ⟨d, hd⟩ : ∃ d, lc / 1440 = d := ⟨_, rfl⟩
    have HD := Lib.hid hd
    have hd1 : d * 1440 ≤ lc := by omega
    have hd2 : lc < d * 1440 + 1440 := by omega
    clear hd
    have m1 : wrap64 ((d + 1) * 1440) = (d + 1) * 1440 := wrap64_id (by omega) (by omega)
    have c9 := B1.out.cell
    obtain ⟨V, hV⟩ : ∃ V, (alFind d m).getD 0 = V := ⟨_, rfl⟩
    have hlk := B0.out.lookup key3 map179 (zero3 _) d false
    simp only [Bool.false_eq_true, if_false] at hlk
    rw [show ((alFind d m).map zk).getD (.int .i64 0) = .int .i64 V by rw [← hV]; cases alFind d m <;> rfl] at hlk
    replace hlk : (Instr.lookup 179 (.map (some w3.heap.size)) (.int .i64 d) false).run Tryz.prog wr = .ok (.int .i64 V) wr := hlk
    have s2 : wrap64 ((min ((d + 1) * 1440) (x1 + x2)) - lc) = (min ((d + 1) * 1440) (x1 + x2)) - lc := wrap64_id (by omega) (by omega)
    obtain ⟨wu, up, M2, gb⟩ := B0.out.update key3 map179 d (wrap64 (V + ((min ((d + 1) * 1440) (x1 + x2)) - lc)))
    have HM2 : Hid (MapIs zk zk wu w3.heap.size (putC m (d, (min ((d + 1) * 1440) (x1 + x2)) - lc))) := by
     unfold Hid putC
     rw [hV]
     exact M2
    have HHV := Lib.hid hV
    replace up : (Instr.mapUpdate 179 (.map (some w3.heap.size)) (.int .i64 d) (.int .i64 (wrap64 (V + ((min ((d + 1) * 1440) (x1 + x2)) - lc))))).run Tryz.prog wr = .ok () wu := up
    have B1' : Hid (Boxed wu (w3.heap.size + 1) 179 (.map (some w3.heap.size))) := B1.out.kept gb (fun e => by injection e; omega)
    have B2' : Hid (Grew w3 wu) := B2.out.grown gb (fun j hj => by injection hj with hj; omega)
    have B3' : Hid (KeepsFrom w6.heap.size Wb wu) := B3.out.trans (KeepsFrom.of_grownBy gb (fun j hj => by injection hj with hj; have := HS6.out; omega))
    have B4' : Hid (KeepB (offS w3) Wb wu) := B4.out.trans (KeepB.grown gb (fun h => h.1 rfl))
    clear hV M2 gb B0 B1 B2 B3 B4
    gi_wp2_with (refine ⟨trivial, ?_⟩; gi_at_call 85; refine (CallsIn.inRound l (callsIn_wide.2 (floor85 lc d _ (by omega) (by omega) HD.out))).mono ?_; rintro r w' ⟨rfl, hww⟩; obtain rfl : wr = w' := hww.symm)
    go_roundw
    case rel => exact ⟨(min ((d + 1) * 1440) (x1 + x2)), putC m (d, (min ((d + 1) * 1440) (x1 + x2)) - lc), rfl, ⟨by omega, by omega⟩, HM2, B1', B2', B3', B4', by unfold Hid; rw [← HR.out, pieces_step hlt (nx := (min ((d + 1) * 1440) (x1 + x2))) (by rw [HD.out]), HD.out]; rfl⟩
    case measure => simp [intOf]; omega
   ·have hend : lc = x1 + x2 := by omega
    have HF : Hid (m = R) := by unfold Hid; rw [← HR.out, pieces_end _ (by omega)]; rfl
    gi_wp2
    exact ⟨B3.out, B4.out, by rw [List.flatMap_append, List.flatMap_singleton]; unfold cntM; rw [List.foldl_append]; show MapIs _ _ _ _ ((prt (x0, x1, x2)).foldl putC (cntM (pre.flatMap prt))); rw [HT.out, HR0.out, ← HF.out]; exact B0.out, B1.out, B2.out⟩
 case done =>
  rintro xs W rfl hG hK
  obtain ⟨hM, hBx, hGr⟩ := hG
  have HM := Lib.hid hM
  have c9 := hBx.cell
  have HG := Lib.hid hGr
  have HBX := Lib.hid hBx
  have HK := Lib.hid hK
  obtain ⟨M, hMM⟩ : ∃ M, M = cntM ((strG ch zb f e).flatMap prt) := ⟨_, rfl⟩
  have HMM := Lib.hid hMM
  rw [← hMM] at HM
  have hml : M.length ≤ 44640 := by
   rw [hMM]
   refine Nat.le_trans (cntM_len _) (Nat.le_trans (strG_len hfe) ?_)
   omega
  have HKY : Hid (Keys M) := by rw [hMM]; exact cntM_keys _
  have HW : Hid (∀ p ∈ M, -9223372036854775808 ≤ p.1 ∧ p.1 ≤ 9223372036854775807) := by
   intro p hp
   rw [hMM] at hp
   obtain ⟨q, hq, e1⟩ := cntM_mem _ p hp
   obtain ⟨x, hx, hqx⟩ := List.mem_flatMap.1 hq
   have h1 := strG_mem hzo HZC.out hx
   have h2 := pieces_mem hqx
   omega
  have ga := (Grew.refl W).alloc (.cells #[.map (some w3.heap.size)] 179)
  have HM1 := Lib.hid (HM.out.grew ga)
  have cb : (W.alloc (.cells #[.map (some w3.heap.size)] 179)).cell? ⟨W.heap.size, 0, none⟩ = some (.map (some w3.heap.size)) := by simp
  have HCB := Lib.hid cb
  have hWs : w3.heap.size + 5 + 1 ≤ W.heap.size := by have := (Array.getElem?_eq_some_iff.1 hK).1; omega
  clear hM hBx hGr hK hMM cb kM k9 k2 k3 g6
  gi_wp2_with (first
   | (refine ⟨trivial, ?_⟩; gi_at_call 87; refine (callsIn_wide.2 (keys87 _ _)).mono ?_; rintro r w' ⟨rfl, rfl⟩)
   | (refine ⟨trivial, ?_⟩; gi_at_call 86; refine (callsIn_wide.2 (sorted86 HCB.out HM1.out HKY.out HW.out (by omega))).mono ?_; rintro r W2 ⟨v, rfl, own, g2⟩; obtain ⟨A2, c2, rfl⟩ := own_form own))
  have HI : Hid (Ints W2 A2 M.length c2 (sortI (M.map Prod.fst))) := Ints.own (by unfold sortI; rw [List.length_mergeSort, List.length_map]) own
  obtain ⟨i0, hi, hz0, hz1, hz2⟩ := info_parts info49
  have GW2 : Grew W W2 := ga.trans g2
  have HM2 := Lib.hid (HM.out.grew GW2)
  have HBX2 := Lib.hid (show Boxed W2 (w3.heap.size + 1) 179 (.map (some w3.heap.size)) from GW2.block HBX.out)
  have HK2 := Lib.hid (GW2.block HK.out)
  have HG2 := Lib.hid (HG.out.trans GW2)
  have hW2 : w3.heap.size + 5 + 1 ≤ W2.heap.size := Nat.le_trans hWs GW2.le
  have hdl : (sortI (M.map Prod.fst)).length = M.length := HI.out.1
  have HDL := Lib.hid hdl
  have HSP : Hid (splitL ⟨zb, ch⟩ f e = (sortI (M.map Prod.fst)).flatMap (portF M)) := by
   unfold Hid splitL
   rw [show cntM (partsG ⟨zb, ch⟩ f e) = M from HMM.out.symm]
  have HSB : Hid (splitB ⟨zb, ch⟩ f e = (sortI (M.map Prod.fst)).all dayOk) := by
   unfold Hid splitB
   rw [show cntM (partsG ⟨zb, ch⟩ f e) = M from HMM.out.symm]
  obtain ⟨ds, hds⟩ : ∃ ds, sortI (M.map Prod.fst) = ds := ⟨_, rfl⟩
  rw [hds] at HI HSP HSB HDL
  have HD64 : Hid (∀ d ∈ ds, -9223372036854775808 ≤ d ∧ d ≤ 9223372036854775807) := by
   intro d hd
   rw [← hds] at hd
   obtain ⟨p, hp, rfl⟩ := List.mem_map.1 ((List.mergeSort_perm _ _).mem_iff.1 hd)
   exact HW.out p hp
  have HV64 : Hid (∀ d, -9223372036854775808 ≤ (alFind d M).getD 0 ∧ (alFind d M).getD 0 ≤ 9223372036854775807) := by
   intro d
   rw [HMM.out]
   exact cntM_in64 _ d
  clear hds hdl own g2 ga HM1 HCB HBX HM HK HG GW2 HKY HW
  gi_loopw [15, 65] (fun v i wr => ∃ (j cnt cl : Nat) (Al : Option Addr), j ≤ M.length ∧ i = .int .i64 j ∧ v = .slice Al cnt cl ∧ cnt ≤ j ∧ Hid (wr.ownsRow W2.heap.size 49 2 (.slice Al cnt cl) cnt (flat ((ds.take j).flatMap (portF M)))) ∧ Hid (((ds.take j).flatMap (portF M)).length = cnt) ∧ Hid ((ds.take j).all dayOk = true) ∧ Hid (Grew W2 wr))
   (fun _ i _ => M.length - (intOf i).toNat)
  case atStart => exact ⟨0, 0, 0, none, Nat.zero_le _, rfl, rfl, Nat.le_refl _, World.ownsRow_nil _ _ _ _, rfl, rfl, Grew.refl _⟩
  case round =>
   obtain ⟨j, cnt, cl, Al, hj, rfl, rfl, hcj, OWN, HLN, HAL, HGR⟩ := hrel
   have c9 : wr.cell? ⟨w3.heap.size + 1, 0, none⟩ = some (.map (some w3.heap.size)) := HGR.out.cell (Boxed.cell HBX2.out)
   have hKr := HGR.out.block HK2.out
   rw [hs6] at hKr
   have GF : Grew w wr := (G3.trans HG2.out).trans HGR.out
   by_cases hlt : j < M.length
   ·obtain ⟨bI, oI, hAI, hcI⟩ := (HI.out.grew HGR.out).at_ (by omega)
    obtain ⟨d, hd⟩ : ∃ d, ds[j]? = some d := ⟨_, List.getElem?_eq_getElem (by rw [HDL.out]; exact hlt)⟩
    have hcd := hcI j d hd
    obtain ⟨hd1, hd2⟩ := HD64.out d (List.mem_of_getElem? hd)
    have hTK : ds.take (j + 1) = ds.take j ++ [d] := by rw [List.take_add_one, hd]; rfl
    have HTK := Lib.hid hTK
    have HDJ := Lib.hid hd
    have i0' : (0 : Int) ≤ (j : Int) := by omega
    have i1' : (j : Int) < (M.length : Int) := by omega
    obtain ⟨V, hV⟩ : ∃ V, (alFind d M).getD 0 = V := ⟨_, rfl⟩
    obtain ⟨hV1, hV2⟩ := HV64.out d
    rw [hV] at hV1 hV2
    have hlk := (HM2.out.grew HGR.out).lookup key3 map179 (zero3 _) d false
    simp only [Bool.false_eq_true, if_false] at hlk
    rw [show ((alFind d M).map zk).getD (.int .i64 0) = .int .i64 V by rw [← hV]; cases alFind d M <;> rfl] at hlk
    replace hlk : (Instr.lookup 179 (.map (some w3.heap.size)) (.int .i64 d) false).run Tryz.prog wr = .ok (.int .i64 V) wr := hlk
    have HVV := Lib.hid hV
    subst hAI
    clear hd hV hTK hcI
    cases hok : dayOk d with
    | false =>
     have HBAD : Hid (splitB ⟨zb, ch⟩ f e = false) := by
      unfold Hid
      rw [HSB.out]
      refine Bool.eq_false_iff.2 fun h => ?_
      have := List.all_eq_true.1 h d (List.mem_of_getElem? HDJ.out)
      rw [hok] at this
      cases this
     have hok2 : ¬ (0 ≤ d ∧ d ≤ 36524) := of_decide_eq_false hok
     clear hok
     have HKR := Lib.hid hKr
     clear hKr
     gi_wp2
     all_goals
      refine ⟨by simp, .inl ⟨_, _, rfl, run_takeDeferred HKR.out, ?_⟩⟩
      refine ⟨_, results_tmp2 rfl _ _ _, .inr ⟨HBAD.out, rfl, ?_⟩⟩
      exact GF.grown (grownBy_putObj' _ _ _) (fun j hj => by injection hj with hj; have := G3.le; omega)
    | true =>
     obtain ⟨hk1, hk2⟩ : 0 ≤ d ∧ d ≤ 36524 := of_decide_eq_true hok
     have HAL' : Hid ((ds.take (j + 1)).all dayOk = true) := by
      unfold Hid
      rw [HTK.out, List.all_append, HAL.out]
      show (true && (dayOk d && true)) = true
      rw [hok]; rfl
     clear hok hKr
     have gp : Grew wr (wr.alloc (.cells #[.int .i64 d, .int .i64 V] 49)) := (Grew.refl wr).alloc _
     rcases Decidable.em (V = 0) with hv | hv
     ·have hq : ∀ W', (binOp .neq 49 (.agg #[.int .i64 d, .int .i64 V]) (.agg #[.int .i64 d, .int .i64 0])).run Tryz.prog W' = .ok (.bool false) W' := fun W' => by
       rw [neq49, show eqT49 d d V 0 = true from eqT49_iff.2 ⟨rfl, hv⟩]; rfl
      have HP : Hid (portF M d = []) := by unfold Hid portF; rw [HVV.out, if_pos hv]
      have OWN' : Hid ((wr.alloc (.cells #[.int .i64 d, .int .i64 V] 49)).ownsRow W2.heap.size 49 2 (.slice Al cnt cl) cnt (flat ((ds.take (j + 1)).flatMap (portF M)))) := by
       unfold Hid
       rw [HTK.out, List.flatMap_append, List.flatMap_singleton, HP.out, List.append_nil]
       exact own_grew OWN.out gp
      have HLN' : Hid (((ds.take (j + 1)).flatMap (portF M)).length = cnt) := by
       unfold Hid
       rw [HTK.out, List.flatMap_append, List.flatMap_singleton, HP.out, List.append_nil]
       exact HLN.out
      have HGR' := Lib.hid (HGR.out.trans gp)
      clear hv
      gi_wp2
      go_roundw
      case rel => exact ⟨j + 1, cnt, cl, Al, by omega, by go_num, rfl, by omega, OWN', HLN', HAL', HGR'⟩
      case measure => simp [intOf]; omega
     ·have hq : ∀ W', (binOp .neq 49 (.agg #[.int .i64 d, .int .i64 V]) (.agg #[.int .i64 d, .int .i64 0])).run Tryz.prog W' = .ok (.bool true) W' := fun W' => by
       rw [neq49, show eqT49 d d V 0 = false from Bool.eq_false_iff.2 fun h => hv (eqT49_iff.1 h).2]; rfl
      have HP : Hid (portF M d = [(d, V)]) := by unfold Hid portF; rw [HVV.out, if_neg hv]
      have BI : Hid (Sl ((wr.alloc (.cells #[.int .i64 d, .int .i64 V] 49)).alloc (.cells #[.int .i64 d, .int .i64 V] 49)) 2 (some ⟨(wr.alloc (.cells #[.int .i64 d, .int .i64 V] 49)).heap.size, 0, none⟩) 1 1 (flat [(d, V)])) := builtS 2 1 _ _ rfl rfl (by decide)
      have gq := gp.alloc (.cells #[.int .i64 d, .int .i64 V] 49)
      obtain ⟨v3, w9, r3, own3, hg3, hat3⟩ := run_append_sl (P := Tryz.prog) ((wr.alloc (.cells #[.int .i64 d, .int .i64 V] 49)).alloc (.cells #[.int .i64 d, .int .i64 V] 49)) W2.heap.size 43 43 49 i0 (.agg #[.int .i64 0, .int .i64 0]) 2 16 Tryz.underlying43 hi hz0 hz1 hz2 rfl (by decide) (.slice Al cnt cl) cnt _ (own_grew OWN.out gq) (some ⟨(wr.alloc (.cells #[.int .i64 d, .int .i64 V] 49)).heap.size, 0, none⟩) 1 1 _ BI.out (flat_one _) (by unfold maxLen; omega) (by omega) (by have := HGR.out.le; simp; omega)
      obtain ⟨A3, c3, rfl⟩ := own_form own3
      rw [World.size_alloc] at r3
      have R3 := Lib.hid r3
      have OWN' : Hid (w9.ownsRow W2.heap.size 49 2 (.slice A3 (cnt + 1) c3) (cnt + 1) (flat ((ds.take (j + 1)).flatMap (portF M)))) := by
       unfold Hid
       rw [HTK.out, List.flatMap_append, List.flatMap_singleton, HP.out, flat_append]
       exact own3
      have HLN' : Hid (((ds.take (j + 1)).flatMap (portF M)).length = cnt + 1) := by
       unfold Hid
       rw [HTK.out, List.flatMap_append, List.flatMap_singleton, HP.out, List.length_append, HLN.out]; rfl
      have HGR' : Hid (Grew W2 w9) := (HGR.out.trans gq).grown hg3 (fun q hq => (OWN.out.lt q hq).1)
      clear hv own3 hg3 hat3 gq r3
      gi_wp2_with (gi_at_builtin; refine wpListIn_append_run _ (by rfl) (.tmp 84) (.tmp 86) 43 43 (by rfl) (by rfl) _ _ _ _ (by rfl) (by rfl) R3.out ?_)
      go_roundw
      case rel => exact ⟨j + 1, cnt + 1, c3, A3, by omega, by go_num, rfl, by omega, OWN', HLN', HAL', HGR'⟩
      case measure => simp [intOf]; omega
   ·obtain rfl : M.length = j := by omega
    have HF : Hid (ds.take M.length = ds) := by unfold Hid; rw [← HDL.out, List.take_length]
    rw [HF.out] at OWN HLN HAL
    have HKR := Lib.hid hKr
    clear hKr
    gi_wp2
    refine ⟨by simp, .inl ⟨_, _, rfl, run_takeDeferred HKR.out, ?_⟩⟩
    refine ⟨_, results_tmp2 rfl _ _ _, .inl ⟨by rw [HSB.out]; exact HAL.out, Al, cnt, cl, rfl, ?_, ?_⟩⟩
    ·rw [HSP.out]
     refine ⟨?_, own_base (ownsRow_putObj OWN.out _ HKR.out rfl) (G3.trans HG2.out).le⟩
     refine Spans.own HLN.out (fun s hs => ?_) (ownsRow_putObj OWN.out _ HKR.out rfl)
     obtain ⟨d, hd, hs⟩ := List.mem_flatMap.1 hs
     unfold portF at hs
     split at hs
     ·cases hs
     ·rw [List.mem_singleton] at hs
      subst hs
      exact ⟨HD64.out d hd, HV64.out d⟩
    ·exact GF.grown (grownBy_putObj' _ _ _) (fun j hj => by injection hj with hj; have := G3.le; omega)
end Go.Proofs.YtnnbibmmofnkdaaGreat
