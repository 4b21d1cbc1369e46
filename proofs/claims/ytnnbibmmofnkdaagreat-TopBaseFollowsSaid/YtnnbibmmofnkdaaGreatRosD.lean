/-
 The checks of a roster: minutes by days.
-/
import Derived.Test.YtnnbibmmofnkdaaGreatRosC
import Derived.Test.YtnnbibmmofnkdaaGreatKeys
namespace Go.Proofs.YtnnbibmmofnkdaaGreat
open Go.RowKit Go.Proofs WageMem WageReg WageRec WageSpan WageTop
open WageMap
/-- The duties of the days, each a row of its own. -/
structure DayD (w : World) (base B : Nat) (m : List (Int × Pc)) : Prop where
 row : ∀ d q, alFind d m = some q → 1 ≤ q.n ∧ q.n ≤ B ∧ ∃ l : List Int, l.length = q.n ∧ w.ownsRow base 3 1 (pcV q) q.n (l.map iv)
 apart : ∀ d d' q q', alFind d m = some q → alFind d' m = some q' → d ≠ d' → (pcV q).ownBlock ≠ (pcV q').ownBlock
theorem DayD.nil {w : World} {base B : Nat} : DayD w base B [] := ⟨fun _ _ h => (by cases h), fun _ _ _ _ h => (by cases h)⟩
theorem DayD.grew {w w' : World} {base B : Nat} {m : List (Int × Pc)} (h : DayD w base B m) (g : Grew w w') : DayD w' base B m :=
 ⟨fun d q hq => by obtain ⟨h1, h2, l, h3, h4⟩ := h.row d q hq; exact ⟨h1, h2, l, h3, own_grew h4 g⟩, h.apart⟩
theorem own_some {w : World} {base : Nat} {e : TypeId} {size : Nat} {v : Value} {n : Nat} {xs : List Value} (h : w.ownsRow base e size v n xs) (hn : 1 ≤ n) : ∃ g, v.ownBlock = some g ∧ g < w.heap.size ∧ base ≤ g := by
 rcases h.2 with ⟨_, h0⟩ | ⟨g, cap, cur, rfl, hb, hg, _⟩
 ·omega
 ·exact ⟨g, rfl, (Array.getElem?_eq_some_iff.1 hg).1, hb⟩
theorem own_map {κ β : Type} {ek : κ → Value} {ev : β → Value} {w : World} {base : Nat} {e : TypeId} {size : Nat} {v : Value} {n : Nat} {xs : List Value} (h : w.ownsRow base e size v n xs) {b : Nat} {m : List (κ × β)} (hm : MapIs ek ev w b m) : some b ≠ v.ownBlock := by
 rcases h.2 with ⟨rfl, _⟩ | ⟨g, cap, cur, rfl, hb, hg, _⟩
 ·intro h; cases h
 ·intro hh
  injection hh with hh
  simp only at hh
  subst hh
  obtain ⟨es, clock, h1, _⟩ := hm
  rw [h1] at hg
  cases hg
/-- A duty more on a day. -/
theorem DayD.put {w w' w'' : World} {base B : Nat} {m : List (Int × Pc)} (h : DayD w base B m) {d : Int} {q : Pc} {A : Option Addr} {c : Nat} {l : List Int} (hq : (alFind d m).getD ⟨none, 0, 0⟩ = q) (hl : l.length = q.n + 1) 
  (own : w'.ownsRow base 3 1 (.slice A (q.n + 1) c) (q.n + 1) (l.map iv)) (hg : w.grownBy w' (pcV q).ownBlock) (hat : (Value.slice A (q.n + 1) c).ownBlock = (pcV q).ownBlock ∨ (Value.slice A (q.n + 1) c).ownBlock = some w.heap.size)
  (hk : ∀ e size v n xs, w'.ownsRow base e size v n xs → w''.ownsRow base e size v n xs) : DayD w'' base (B + 1) (alPut d ⟨A, q.n + 1, c⟩ m) := by
 have hqB : q.n ≤ B := by
  cases hf : alFind d m with
  | none => rw [hf] at hq; subst hq; exact Nat.zero_le _
  | some q0 => rw [hf] at hq; have : q0 = q := hq; subst this; exact (h.row d q0 hf).2.1
 have hold : ∀ d' q', alFind d' m = some q' → d' ≠ d → (pcV q').ownBlock ≠ (pcV q).ownBlock := by
  intro d' q' h1 h2
  cases hf : alFind d m with
  | none =>
   rw [hf] at hq
   subst hq
   obtain ⟨h3, _, l', _, h5⟩ := h.row d' q' h1
   obtain ⟨g, hg1, _⟩ := own_some h5 h3
   rw [hg1]
   intro h6
   cases h6
  | some q0 =>
   rw [hf] at hq
   have : q0 = q := hq
   subst this
   exact h.apart d' d q' q0 h1 hf h2
 constructor
 ·intro d' q' h1
  by_cases hd : d' = d
  ·subst hd
   rw [alFind_put_self] at h1
   injection h1 with h1
   subst h1
   exact ⟨by show 1 ≤ q.n + 1; omega, by show q.n + 1 ≤ B + 1; omega, l, hl, hk _ _ _ _ _ own⟩
  ·rw [alFind_put_ne _ hd] at h1
   obtain ⟨h2, h3, l', h4, h5⟩ := h.row d' q' h1
   exact ⟨h2, Nat.le_succ_of_le h3, l', h4, hk _ _ _ _ _ (h5.kept hg (.inr (hold d' q' h1 hd)))⟩
 ·have hnew : ∀ d' q', alFind d' m = some q' → d' ≠ d → (pcV q').ownBlock ≠ (Value.slice A (q.n + 1) c).ownBlock := by
   intro d' q' h1 h2
   rcases hat with h3 | h3
   ·rw [h3]; exact hold d' q' h1 h2
   ·obtain ⟨h4, _, l', _, h5⟩ := h.row d' q' h1
    obtain ⟨g, hg1, hg2, _⟩ := own_some h5 h4
    rw [h3, hg1]
    intro h6
    injection h6 with h6
    omega
  intro d1 d2 q1 q2 h1 h2 hne
  by_cases e1 : d1 = d
  ·subst e1
   rw [alFind_put_self] at h1
   injection h1 with h1
   subst h1
   rw [alFind_put_ne _ (fun h => hne h.symm)] at h2
   exact (hnew d2 q2 h2 (fun h => hne h.symm)).symm
  ·rw [alFind_put_ne _ e1] at h1
   by_cases e2 : d2 = d
   ·subst e2
    rw [alFind_put_self] at h2
    injection h2 with h2
    subst h2
    exact hnew d1 q1 h1 hne
   ·rw [alFind_put_ne _ e2] at h2
    exact h.apart d1 d2 q1 q2 h1 h2 hne
theorem map297 : Tryz.prog.underlying 297 = some (.map 3 38) := by kernel_rfl
theorem zero38 (w : World) : (zeroValue 38).run Tryz.prog w = .ok (.slice none 0 0) w := by kernel_rfl
theorem ck_min {w : World} {cb : Nat} {p : Pl} {M N B K : Pc} {ps qs : List Pc} {kb : Nat} (hp : PlanAt w p) (h : CkIs w cb p M N B K ps qs kb) {d : Nat} (hd : d < p.dn) :
  ∃ (b o : Nat) (q : Pc), w.cell? ⟨cb, 10, none⟩ = some (.slice (some ⟨b, o, none⟩) M.n M.c) ∧ d < M.n ∧ M.n ≤ 9223372036854775807 ∧ w.cell? ⟨b, o + d, none⟩ = some (.slice q.A q.n q.c) ∧ Spans w q.A q.n q.c (minsF p d) := by
 have hlt : d < p.ds.length := by rw [hp.ds.len]; exact hd
 have hq1 := h.minE.1
 unfold minsL at hq1
 rw [List.length_map] at hq1
 have hn := h.mins.1
 obtain ⟨b, o, q, hA, hq, hr⟩ := h.mins.at_ encP_ok (show d < M.n by omega)
 have hb := h.minE.2 d q (minsF p d) hq (by unfold minsL minsF; rw [List.getElem?_map, List.getElem?_eq_getElem hlt, du_at (List.getElem?_eq_getElem hlt)]; rfl)
 have h0 := hr 0 _ rfl
 rw [Nat.mul_one] at h0
 exact ⟨b, o, q, by rw [← hA]; exact h.blk.cell rfl, by omega, h.mins.le, h0, hb⟩
/-- What byDays returns. -/
def RetDays (p : Pl) (ds : List Nat) (w : World) (r : Ending) (w' : World) : Prop :=
 ∃ b1 b2 m, r = .returned (.tuple #[.map (some b1), .map (some b2)]) ∧ MapIs zk zk w' b1 (dayM p ds) ∧ MapIs zk pcV w' b2 m ∧ m.map Prod.fst = (dayM p ds).map Prod.fst ∧ DayD w' w.heap.size 100000 m ∧ Grew w w'
theorem put_keys {β : Type} {m1 : List (Int × Int)} {m2 : List (Int × β)} (h : m2.map Prod.fst = m1.map Prod.fst) (d : Int) (v : Int) (u : β) : (alPut d u m2).map Prod.fst = (alPut d v m1).map Prod.fst := by
 rw [alPut_keys, alPut_keys, h]
theorem splitL_len (z : Zn) (f t : Int) (h : f ≤ t) : (splitL z f t).length ≤ (t - f).toNat := by
 have h1 : ∀ (m : List (Int × Int)) (l : List Int), (l.flatMap (portF m)).length ≤ l.length := by
  intro m l
  induction l with
  | nil => simp
  | cons x l ih =>
   rw [List.flatMap_cons, List.length_append, List.length_cons]
   have : (portF m x).length ≤ 1 := by unfold portF; split <;> simp
   omega
 unfold splitL
 refine Nat.le_trans (h1 _ _) ?_
 unfold sortI
 rw [List.length_mergeSort, List.length_map]
 exact Nat.le_trans (cntM_len _) (strG_len h)
set_option maxRecDepth 100000 in
set_option maxHeartbeats 16000000 in
theorem days217 {w : World} {cb : Nat} {p : Pl} {wk : Nat} {x : Wo} {T : Option Addr} {tn tc : Nat} {ds : List Nat} (h : TaskOk w cb p wk x T tn tc ds) :
  Calls Tryz.prog 217 #[taskV cb wk T tn tc] w (RetDays p ds w) := by
 obtain ⟨i3, hi3, hz3, hs3, hb3⟩ := info_parts info3
 have HTK := Lib.hid h
 have HNL : Hid (ds.length = tn) := by unfold Hid; rw [← idxL_len]; exact h.ints.1
 have htn := h.le
 show Calls Tryz.prog 217 #[.agg #[.pointer (some ⟨cb, 0, none⟩), .int .i64 (wk : Int), .slice T tn tc]] w _
 obtain ⟨w1, hw1⟩ : ∃ y, y = w.alloc (.cells #[.pointer (some ⟨cb, 0, none⟩), .int .i64 (wk : Int), .slice T tn tc] 197) := ⟨_, rfl⟩
 obtain ⟨tb, htb⟩ : ∃ z, z = w.heap.size := ⟨_, rfl⟩
 have g1 : Grew w w1 := by rw [hw1]; exact (Grew.refl w).alloc _
 have X1 : Hid (w1.heap[tb]? = some (.cells #[.pointer (some ⟨cb, 0, none⟩), .int .i64 (wk : Int), .slice T tn tc] 197)) := by unfold Hid; rw [hw1, htb]; exact World.alloc_heap_new w _
 have hsz1 : w1.heap.size = tb + 1 := by rw [hw1, htb]; simp
 obtain ⟨b1, hb1⟩ : ∃ z, z = tb + 1 := ⟨_, rfl⟩
 obtain ⟨b2, hb2⟩ : ∃ z, z = b1 + 1 := ⟨_, rfl⟩
 obtain ⟨w3, hw3⟩ : ∃ y, y = (w1.alloc (.map #[] 0)).alloc (.map #[] 0) := ⟨_, rfl⟩
 have g3 : Grew w1 w3 := by rw [hw3]; exact ((Grew.refl w1).alloc _).alloc _
 have HM1 : Hid (MapIs zk zk w3 b1 ([] : List (Int × Int))) := by unfold Hid; rw [hw3, hb1, ← hsz1]; exact (MapIs.made w1).grew ((Grew.refl _).alloc _)
 have HM2 : Hid (MapIs zk pcV w3 b2 ([] : List (Int × Pc))) := by unfold Hid; rw [hw3, hb2, hb1, ← hsz1]; have := MapIs.made (ek := zk) (ev := pcV) (w1.alloc (.map #[] 0)); rw [World.size_alloc] at this; exact this
 have HBB : Hid (b1 ≠ b2) := by unfold Hid; omega
 have HTB : Hid (tb ≠ b1 ∧ tb ≠ b2) := by unfold Hid; omega
 have HB1 : Hid (w.heap.size ≤ b1) := by unfold Hid; rw [hb1, ← hsz1]; exact g1.le
 have HB2 : Hid (w.heap.size ≤ b2) := by unfold Hid; rw [hb2, hb1, ← hsz1]; exact Nat.le_succ_of_le g1.le
 have hmm := @run_makeMap Tryz.prog
 go_enter Tryz.func217, Tryz.ntmps217
 go_upto_region 3 with (fail)
 rw [← hw1, ← htb, ← hw3, ← hb1, ← hb2]
 have G3 := g1.trans g3
 have HG3 := Lib.hid G3
 have X3 := Lib.hid (g3.block X1.out)
 have x1 := X3.out
 have t2 : w3.cell? ⟨tb, 2, none⟩ = some (.slice T tn tc) := by simp [World.cell?, x1]
 clear hmm hw1 htb hw3 hb1 hb2 hsz1 x1 h g1 g3 G3 X1
 go_wp2_with fail
 clear t2
 go_loopw [15] (fun i y => ∃ (k : Nat) (m : List (Int × Pc)), k ≤ tn ∧ i = .int .i64 k ∧ Hid (MapIs zk zk y b1 (cntM ((ds.take k).flatMap (minsF p)))) ∧ Hid (MapIs zk pcV y b2 m) ∧ Hid (m.map Prod.fst = (cntM ((ds.take k).flatMap (minsF p))).map Prod.fst) ∧ Hid (DayD y w.heap.size (k * 1440) m) ∧ Hid (Blk y tb 197 [.pointer (some ⟨cb, 0, none⟩), .int .i64 (wk : Int), .slice T tn tc]) ∧ Hid (Grew w y)) (fun i _ => tn - (intOf i).toNat)
 case atStart => exact ⟨0, [], Nat.zero_le _, rfl, HM1.out, HM2.out, rfl, DayD.nil, X3.out, HG3.out⟩
 case round =>
  clear HM1 HM2
  obtain ⟨k, m, hk, rfl, HM1, HM2, HKY, HDD, HXX, HR⟩ := hrel
  by_cases hlt : k < tn
  ·have htk := HTK.out
   obtain ⟨⟨hp, M, N, B, K, ps, qs, kb, hc⟩, hok, _, hi, _, hdl⟩ := htk
   obtain ⟨bb, oo, hA, hcc⟩ := hi.at_ (by omega)
   obtain ⟨d, hd⟩ : ∃ d, ds[k]? = some d := ⟨_, List.getElem?_eq_getElem (by rw [HNL.out]; exact hlt)⟩
   have c0 := hcc k _ (idxL_at hd)
   have hdn := hdl d (List.mem_of_getElem? hd)
   have HD := Lib.hid hd
   obtain ⟨bm, om, q, c10, hq1, hq2, cq, hsp⟩ := ck_min hp hc hdn
   have hdur := durOk_of hok hp hdn
   have HSP := Lib.hid hsp
   have HPL : Hid ((minsF p d).length ≤ 1440) := by
    unfold dOk durOk at hdur
    simp only [Bool.and_eq_true, decide_eq_true_eq] at hdur
    have h1 := splitL_len p.z (p.du d).a (p.du d).b (by omega)
    show (minsF p d).length ≤ 1440
    unfold minsF
    omega
   have HTK1 : Hid ((ds.take (k + 1)).flatMap (minsF p) = (ds.take k).flatMap (minsF p) ++ minsF p d) := by
    unfold Hid; rw [List.take_add_one, hd, Option.toList, List.flatMap_append, List.flatMap_singleton]
   obtain ⟨qA, qn, qc⟩ := q
   simp only at cq
   have HSPq : Hid (Spans w qA qn qc (minsF p d)) := HSP
   have hqn : qn ≤ 1440 := by have := HSPq.out.1; have := HPL.out; omega
   obtain ⟨pl, hpl⟩ : ∃ l, minsF p d = l := ⟨_, rfl⟩
   rw [hpl] at HSPq HTK1
   obtain ⟨pre, hpre⟩ : ∃ l, (ds.take k).flatMap (minsF p) = l := ⟨_, rfl⟩
   rw [hpre] at HM1 HKY HTK1
   have hdn9 := hp.ds.le
   have e1 : (0 : Int) ≤ (k : Int) := by omega
   have e2 : (k : Int) < (tn : Int) := by omega
   have e3 : (0 : Int) ≤ (d : Int) := by omega
   have e4 : (d : Int) < (M.n : Int) := by omega
   have x1 := HXX.out
   have t0 : wr.cell? ⟨tb, 0, none⟩ = some (.pointer (some ⟨cb, 0, none⟩)) := x1.cell rfl
   have t2 : wr.cell? ⟨tb, 2, none⟩ = some (.slice T tn tc) := x1.cell rfl
   replace c0 := HR.out.cell c0
   replace c10 := HR.out.cell c10
   replace cq := HR.out.cell cq
   subst hA
   clear x1 hp hc hi hcc hd hdl hok hsp HSP hdur hpl hpre
   go_upto_region 6 with (fail)
   clear c0
   go_wp2_with fail
   clear t0 t2 c10 cq
   go_loopw [28] (fun i y => ∃ (j : Nat) (m : List (Int × Pc)), j ≤ qn ∧ i = .int .i64 j ∧ Hid (MapIs zk zk y b1 (cntM (pre ++ pl.take j))) ∧ Hid (MapIs zk pcV y b2 m) ∧ Hid (m.map Prod.fst = (cntM (pre ++ pl.take j)).map Prod.fst) ∧ Hid (DayD y w.heap.size (k * 1440 + j) m) ∧ Hid (Blk y tb 197 [.pointer (some ⟨cb, 0, none⟩), .int .i64 (wk : Int), .slice (some ⟨bb, oo, none⟩) tn tc]) ∧ Hid (Grew w y)) (fun i _ => qn - (intOf i).toNat)
   case atStart => exact ⟨0, m, Nat.zero_le _, rfl, by unfold Hid; rw [List.take_zero, List.append_nil]; exact HM1.out, HM2.out, by unfold Hid; rw [List.take_zero, List.append_nil]; exact HKY.out, HDD.out, HXX.out, HR.out⟩
   case round =>
    clear HM1 HM2 HKY HDD HXX HR
    obtain ⟨j, m, hj, rfl, HM1, HM2, HKY, HDD, HXX, HR⟩ := hrel
    by_cases hlj : j < qn
    ·obtain ⟨b', o', y, hA', hy, d0, d1, l1, l2⟩ := (HSPq.out.grew HR.out).at_ hlj
     have HTJ : Hid (pl.take (j + 1) = pl.take j ++ [y]) := by unfold Hid; rw [List.take_add_one, hy]; rfl
     obtain ⟨da, mi⟩ := y
     simp only at d0 d1 l1 l2
     subst hA'
     clear hy
     have f1 : (0 : Int) ≤ (j : Int) := by omega
     have f2 : (j : Int) < (qn : Int) := by omega
     obtain ⟨wa, hwa⟩ : ∃ y, y = wr.alloc (.cells #[.int .i64 da, .int .i64 mi] 49) := ⟨_, rfl⟩
     obtain ⟨ba, hba⟩ : ∃ z, z = wr.heap.size := ⟨_, rfl⟩
     have HBA : Hid (Blk wa ba 49 [.int .i64 da, .int .i64 mi]) := by unfold Hid; rw [hwa, hba]; exact Blk.new wr 49 [.int .i64 da, .int .i64 mi]
     have ga : Grew wr wa := by rw [hwa]; exact (Grew.refl wr).alloc _
     go_upto_region 9 with (fail)
     rw [← hwa, ← hba]
     have HN1 : Hid (ba ≠ b1 ∧ ba ≠ b2) := by have h1 := HM1.out.lt; have h2 := HM2.out.lt; unfold Hid; omega
     have HM1a := Lib.hid (HM1.out.grew ga)
     have HM2a := Lib.hid (HM2.out.grew ga)
     have HDDa := Lib.hid (HDD.out.grew ga)
     have HXXa := Lib.hid (HXX.out.grew ga)
     have HRa := Lib.hid (HR.out.trans ga)
     clear hwa hba d0 d1 HM1 HM2 HDD HXX HR ga
     obtain ⟨V, hV⟩ : ∃ V, (alFind da (cntM (pre ++ pl.take j))).getD 0 = V := ⟨_, rfl⟩
     have hlk := HM1a.out.lookup key3 map179 (zero3 _) da false
     simp only [Bool.false_eq_true, if_false] at hlk
     rw [show ((alFind da (cntM (pre ++ pl.take j))).map zk).getD (.int .i64 0) = .int .i64 V by rw [← hV]; cases alFind da (cntM (pre ++ pl.take j)) <;> rfl] at hlk
     replace hlk : (Instr.lookup 179 (.map (some b1)) (.int .i64 da) false).run Tryz.prog wa = .ok (.int .i64 V) wa := hlk
     obtain ⟨wu, up, M2, gb⟩ := HM1a.out.update key3 map179 da (wrap64 (V + mi))
     have HCM : Hid (alPut da (wrap64 (V + mi)) (cntM (pre ++ pl.take j)) = cntM (pre ++ pl.take (j + 1))) := by
      unfold Hid
      rw [HTJ.out, ← List.append_assoc, show cntM (pre ++ pl.take j ++ [(da, mi)]) = putC (cntM (pre ++ pl.take j)) (da, mi) by unfold cntM; rw [List.foldl_append]; rfl]
      unfold putC
      simp only
      rw [hV]
     rw [HCM.out] at M2
     have HM1u := Lib.hid M2
     replace up : (Instr.mapUpdate 179 (.map (some b1)) (.int .i64 da) (.int .i64 (wrap64 (V + mi)))).run Tryz.prog wa = .ok () wu := up
     have HM2u := Lib.hid (HM2a.out.kept gb (fun e => HBB.out (by injection e with e; exact e.symm)))
     have hk1 : ∀ e size v n xs, wa.ownsRow w.heap.size e size v n xs → wu.ownsRow w.heap.size e size v n xs := fun e size v n xs h => h.kept gb (.inr (fun hh => own_map h HM1a.out hh.symm))
     have HDDu : Hid (DayD wu w.heap.size (k * 1440 + j) m) := ⟨fun d q h => by obtain ⟨h1, h2, l, h3, h4⟩ := HDDa.out.row d q h; exact ⟨h1, h2, l, h3, hk1 _ _ _ _ _ h4⟩, HDDa.out.apart⟩
     have HXXu := Lib.hid (HXXa.out.kept gb (fun e => HTB.out.1 (by injection e)))
     have HBAu := Lib.hid (HBA.out.kept gb (fun e => HN1.out.1 (by injection e)))
     have HRu := Lib.hid (HRa.out.grown gb (fun q hq => by injection hq with hq; have := HB1.out; omega))
     have u0 : wa.cell? ⟨ba, 0, none⟩ = some (.int .i64 da) := HBA.out.cell rfl
     have u1 : wa.cell? ⟨ba, 1, none⟩ = some (.int .i64 mi) := HBA.out.cell rfl
     clear hV M2 gb hk1 HM1a HM2a HDDa HXXa HRa
     go_upto_region 10 with (fail)
     clear hlk up u0 u1 HBA
     obtain ⟨q0, hq0⟩ : ∃ q, (alFind da m).getD ⟨none, 0, 0⟩ = q := ⟨_, rfl⟩
     have HQ0 := Lib.hid hq0
     have hL : ∀ w', Grew wu.drew w' → (Instr.lookup 297 (.map (some b2)) (.int .i64 da) false).run Tryz.prog w' = .ok (.slice q0.A q0.n q0.c) w' := fun w' g' => by
      have h1 := ((HM2u.out.grew (Grew.refl wu).drew).grew g').lookup key3 map297 (zero38 _) da false
      simp only [Bool.false_eq_true, if_false] at h1
      rw [show ((alFind da m).map pcV).getD (.slice none 0 0) = .slice q0.A q0.n q0.c by rw [← hq0]; cases alFind da m <;> rfl] at h1
      exact h1
     have HL := Lib.hid hL
     obtain ⟨l0, hl0, hown0, hq0n⟩ : ∃ l0 : List Int, l0.length = q0.n ∧ wu.ownsRow w.heap.size 3 1 (.slice q0.A q0.n q0.c) q0.n (l0.map iv) ∧ q0.n ≤ k * 1440 + j := by
      cases hf : alFind da m with
      | none => rw [hf] at hq0; subst hq0; exact ⟨[], rfl, World.ownsRow_nil _ _ _ _, Nat.zero_le _⟩
      | some q => rw [hf] at hq0; have : q = q0 := hq0; subst this; obtain ⟨_, h2, l, h3, h4⟩ := HDDu.out.row da q hf; exact ⟨l, h3, h4, h2⟩
     have HL0 := Lib.hid hl0
     have HOW0 := Lib.hid hown0
     obtain ⟨q0A, q0n, q0c⟩ := q0
     simp only at hq0n
     have HLx : Hid (∀ w', Grew wu.drew w' → (Instr.lookup 297 (.map (some b2)) (.int .i64 da) false).run Tryz.prog w' = .ok (.slice q0A q0n q0c) w') := HL
     have HOWx : Hid (wu.ownsRow w.heap.size 3 1 (.slice q0A q0n q0c) q0n (l0.map iv)) := HOW0
     have HLL : Hid (l0.length = q0n) := HL0
     clear hq0 hL hl0 hown0 HL HL0 HOW0
     obtain ⟨wx, hwx⟩ : ∃ y, y = wu.drew := ⟨_, rfl⟩
     have gx : Grew wu wx := by rw [hwx]; exact (Grew.refl wu).drew
     have HS0 := (HBAu.out.grew gx).cell (i := 0) (v := .int .i64 da) rfl
     refine wp_region_H (by kernel_rfl) (fun w' => w'.cell? ⟨ba, 0, none⟩ = some (.int .i64 da)) ?_
     have HLy : Hid (∀ w', Grew wx w' → (Instr.lookup 297 (.map (some b2)) (.int .i64 da) false).run Tryz.prog w' = .ok (.slice q0A q0n q0c) w') := fun w' g' => HLx.out w' (by rw [← hwx]; exact g')
     rw [← hwx]
     clear hwx HLx
     refine wpAnyH_takes (fun _ _ _ _ _ h => h) HS0 [0, 1, 2, 3, 4, 5, 7] (fuel' := 4) (by kernel_rfl) (by kernel_rfl) (by simp only [pickOps, ugT, ug0, ug1]; rfl) ?_
     repeat (first
      | (refine TakeP.pure (v := ?_) (by rfl) ?_ ?_; rotate_left; (intro w' u0; go_simp; first | done | with_reducible rfl); (simp only [Act.put, uzT, uz0, uz1])))
     refine TakeP.nil ?_
     refine wpAnyH_two (i := 6) (j := 8) (by kernel_rfl) (fuel' := 3) (by kernel_rfl) (by simp only [pickOps, ugT, ug0, ug1]; rfl) rfl (by simp only [pickOps, ugT, ug0, ug1]; rfl) rfl ?_ ?_
     ·intro K hK
      have hl := HLy.out wx (Grew.refl _)
      go_simp
      refine hK _ _ HS0 ?_
      clear hK K hl
      refine wpAnyH_step (i := 8) (by kernel_rfl) (fuel' := 2) (by kernel_rfl) (by simp only [pickOps, ugT, ug0, ug1]; rfl) (by rfl) ?_
      intro K hK
      go_simp
      have g45 : Grew wx (wx.alloc (.cells #[.int .i64 (d : Int)] 3)) := (Grew.refl wx).alloc _
      refine hK _ _ (g45.cell HS0) ?_
      clear hK K
      have BI := Lib.hid (builtS (w := wx) (t := 3) 1 1 #[.int .i64 (d : Int)] ([(d : Int)].map iv) rfl rfl (by decide))
      obtain ⟨w5, hw5⟩ : ∃ y, y = wx.alloc (.cells #[.int .i64 (d : Int)] 3) := ⟨_, rfl⟩
      have HS5 := g45.cell HS0
      rw [← hw5] at BI g45 HS5 ⊢
      clear hw5
      have G5 := gx.trans g45
      refine wpAnyH_step (i := 9) (by kernel_rfl) (fuel' := 1) (by kernel_rfl) (by simp only [pickOps, ugT, ug0, ug1]; rfl) (by rfl) ?_
      intro K hK
      have OW6 := Lib.hid (own_grew HOWx.out G5)
      refine wp_append_sl w5 (.tmp 45) (.tmp 47) 38 rfl w.heap.size 3 i3 (.int .i64 0) 1 8 Tryz.underlying38 hi3 hz3 hs3 hb3 rfl (by decide) (.slice q0A q0n q0c) q0n _ rfl OW6.out (some ⟨wx.heap.size, 0, none⟩) 1 1 _ rfl BI.out (iv_one _) (by unfold maxLen; omega) (by omega) (HRu.out.trans G5).le ?_
      intro v7 w7 own7 hg7 hat7
      obtain ⟨A7, c7, rfl⟩ := own_form own7
      have HBA6 := HBAu.out.grew G5
      have HBA7 := HBA6.kept hg7 (own_blk OW6.out HBA6 (by decide))
      refine hK _ _ (HBA7.cell rfl) ?_
      clear hK K
      have HM16 := HM1u.out.grew G5
      have HM26 := HM2u.out.grew G5
      have HM1_7 := Lib.hid (HM16.kept hg7 (own_map OW6.out HM16))
      have HM2_7 := Lib.hid (HM26.kept hg7 (own_map OW6.out HM26))
      have HXX7 := Lib.hid ((HXXu.out.grew G5).kept hg7 (own_blk OW6.out (HXXu.out.grew G5) (by decide)))
      have HR7 := Lib.hid ((HRu.out.trans G5).grown hg7 (fun q hq => (OW6.out.lt q hq).1))
      obtain ⟨wv, up2, M3, gb2⟩ := HM2_7.out.update key3 map297 da (⟨A7, q0n + 1, c7⟩ : Pc)
      replace up2 : (Instr.mapUpdate 297 (.map (some b2)) (.int .i64 da) (.slice A7 (q0n + 1) c7)).run Tryz.prog w7 = .ok () wv := up2
      have HM1v := Lib.hid (HM1_7.out.kept gb2 (fun e => HBB.out (by injection e)))
      have HM2v := Lib.hid M3
      have HXXv := Lib.hid (HXX7.out.kept gb2 (fun e => HTB.out.2 (by injection e)))
      have HRv := Lib.hid (HR7.out.grown gb2 (fun q hq => by injection hq with hq; have := HB2.out; omega))
      have HBAv := HBA7.kept gb2 (fun e => HN1.out.2 (by injection e))
      have hk2 : ∀ e size v n xs, w7.ownsRow w.heap.size e size v n xs → wv.ownsRow w.heap.size e size v n xs := fun e size v n xs h => h.kept gb2 (.inr (fun hh => own_map h HM2_7.out hh.symm))
      have HDDv : Hid (DayD wv w.heap.size (k * 1440 + j + 1) (alPut da ⟨A7, q0n + 1, c7⟩ m)) :=
       DayD.put (l := l0 ++ [(d : Int)]) (HDDu.out.grew G5) HQ0.out (by rw [List.length_append, HLL.out]; rfl) (by rw [List.map_append]; exact own7) hg7 hat7 hk2
      have HKYv : Hid ((alPut da (⟨A7, q0n + 1, c7⟩ : Pc) m).map Prod.fst = (cntM (pre ++ pl.take (j + 1))).map Prod.fst) := by
       unfold Hid; rw [← HCM.out]; exact put_keys HKY.out da _ _
      have HSv := HBAv.cell (i := 0) (v := .int .i64 da) rfl
      clear M3 gb2 hk2 own7 hg7 hat7 HM16 HM26 HM1_7 HXX7 HR7 OW6 G5 BI HM1u HM2u HDDu HXXu HRu HKY HBAu HOWx HLL HBA6 HBA7 HBAv HS0 gx
      refine wpAnyH_step (i := 10) (by kernel_rfl) (fuel' := 0) (by kernel_rfl) (by simp only [pickOps, ugT, ug0, ug1]; rfl) (by rfl) ?_
      intro K hK
      go_simp
      refine hK _ _ HSv ?_
      clear hK K up2 HM2_7 HSv
      refine wpAnyH_done (by kernel_rfl) ?_ _
      go_wp2_with fail
      go_roundw
      case rel => exact ⟨j + 1, _, by omega, by go_num, HM1v, HM2v, HKYv, HDDv, HXXv, HRv⟩
      case measure => simp [intOf]; omega
     ·intro K hK
      go_simp
      have g45 : Grew wx (wx.alloc (.cells #[.int .i64 (d : Int)] 3)) := (Grew.refl wx).alloc _
      refine hK _ _ (g45.cell HS0) ?_
      clear hK K
      have BI := Lib.hid (builtS (w := wx) (t := 3) 1 1 #[.int .i64 (d : Int)] ([(d : Int)].map iv) rfl rfl (by decide))
      obtain ⟨w5, hw5⟩ : ∃ y, y = wx.alloc (.cells #[.int .i64 (d : Int)] 3) := ⟨_, rfl⟩
      have HS5 := g45.cell HS0
      rw [← hw5] at BI g45 HS5 ⊢
      clear hw5
      refine wpAnyH_step (i := 6) (by kernel_rfl) (fuel' := 2) (by kernel_rfl) (by simp only [pickOps, ugT, ug0, ug1]; rfl) (by rfl) ?_
      intro K hK
      have hl := HLy.out w5 g45
      go_simp
      refine hK _ _ HS5 ?_
      clear hK K hl
      have G5 := gx.trans g45
      refine wpAnyH_step (i := 9) (by kernel_rfl) (fuel' := 1) (by kernel_rfl) (by simp only [pickOps, ugT, ug0, ug1]; rfl) (by rfl) ?_
      intro K hK
      have OW6 := Lib.hid (own_grew HOWx.out G5)
      refine wp_append_sl w5 (.tmp 45) (.tmp 47) 38 rfl w.heap.size 3 i3 (.int .i64 0) 1 8 Tryz.underlying38 hi3 hz3 hs3 hb3 rfl (by decide) (.slice q0A q0n q0c) q0n _ rfl OW6.out (some ⟨wx.heap.size, 0, none⟩) 1 1 _ rfl BI.out (iv_one _) (by unfold maxLen; omega) (by omega) (HRu.out.trans G5).le ?_
      intro v7 w7 own7 hg7 hat7
      obtain ⟨A7, c7, rfl⟩ := own_form own7
      have HBA6 := HBAu.out.grew G5
      have HBA7 := HBA6.kept hg7 (own_blk OW6.out HBA6 (by decide))
      refine hK _ _ (HBA7.cell rfl) ?_
      clear hK K
      have HM16 := HM1u.out.grew G5
      have HM26 := HM2u.out.grew G5
      have HM1_7 := Lib.hid (HM16.kept hg7 (own_map OW6.out HM16))
      have HM2_7 := Lib.hid (HM26.kept hg7 (own_map OW6.out HM26))
      have HXX7 := Lib.hid ((HXXu.out.grew G5).kept hg7 (own_blk OW6.out (HXXu.out.grew G5) (by decide)))
      have HR7 := Lib.hid ((HRu.out.trans G5).grown hg7 (fun q hq => (OW6.out.lt q hq).1))
      obtain ⟨wv, up2, M3, gb2⟩ := HM2_7.out.update key3 map297 da (⟨A7, q0n + 1, c7⟩ : Pc)
      replace up2 : (Instr.mapUpdate 297 (.map (some b2)) (.int .i64 da) (.slice A7 (q0n + 1) c7)).run Tryz.prog w7 = .ok () wv := up2
      have HM1v := Lib.hid (HM1_7.out.kept gb2 (fun e => HBB.out (by injection e)))
      have HM2v := Lib.hid M3
      have HXXv := Lib.hid (HXX7.out.kept gb2 (fun e => HTB.out.2 (by injection e)))
      have HRv := Lib.hid (HR7.out.grown gb2 (fun q hq => by injection hq with hq; have := HB2.out; omega))
      have HBAv := HBA7.kept gb2 (fun e => HN1.out.2 (by injection e))
      have hk2 : ∀ e size v n xs, w7.ownsRow w.heap.size e size v n xs → wv.ownsRow w.heap.size e size v n xs := fun e size v n xs h => h.kept gb2 (.inr (fun hh => own_map h HM2_7.out hh.symm))
      have HDDv : Hid (DayD wv w.heap.size (k * 1440 + j + 1) (alPut da ⟨A7, q0n + 1, c7⟩ m)) :=
       DayD.put (l := l0 ++ [(d : Int)]) (HDDu.out.grew G5) HQ0.out (by rw [List.length_append, HLL.out]; rfl) (by rw [List.map_append]; exact own7) hg7 hat7 hk2
      have HKYv : Hid ((alPut da (⟨A7, q0n + 1, c7⟩ : Pc) m).map Prod.fst = (cntM (pre ++ pl.take (j + 1))).map Prod.fst) := by
       unfold Hid; rw [← HCM.out]; exact put_keys HKY.out da _ _
      have HSv := HBAv.cell (i := 0) (v := .int .i64 da) rfl
      clear M3 gb2 hk2 own7 hg7 hat7 HM16 HM26 HM1_7 HXX7 HR7 OW6 G5 BI HM1u HM2u HDDu HXXu HRu HKY HBAu HOWx HLL HBA6 HBA7 HBAv HS0 gx
      refine wpAnyH_step (i := 10) (by kernel_rfl) (fuel' := 0) (by kernel_rfl) (by simp only [pickOps, ugT, ug0, ug1]; rfl) (by rfl) ?_
      intro K hK
      go_simp
      refine hK _ _ HSv ?_
      clear hK K up2 HM2_7 HSv
      refine wpAnyH_done (by kernel_rfl) ?_ _
      go_wp2_with fail
      go_roundw
      case rel => exact ⟨j + 1, _, by omega, by go_num, HM1v, HM2v, HKYv, HDDv, HXXv, HRv⟩
      case measure => simp [intOf]; omega
    ·obtain rfl : qn = j := by omega
     have HPLq : Hid (pl.take qn = pl) := by unfold Hid; rw [← HSPq.out.1, List.take_length]
     have HM1' : Hid (MapIs zk zk wr b1 (cntM ((ds.take (k + 1)).flatMap (minsF p)))) := by unfold Hid; rw [HTK1.out, ← HPLq.out]; exact HM1.out
     have HKY' : Hid (m.map Prod.fst = (cntM ((ds.take (k + 1)).flatMap (minsF p))).map Prod.fst) := by unfold Hid; rw [HTK1.out, ← HPLq.out]; exact HKY.out
     have HDD' : Hid (DayD wr w.heap.size ((k + 1) * 1440) m) := ⟨fun d q h => by obtain ⟨h1, h2, h3⟩ := HDD.out.row d q h; exact ⟨h1, by omega, h3⟩, HDD.out.apart⟩
     clear HM1 HKY HDD
     go_wp2_with fail
     go_roundw
     case rel => exact ⟨k + 1, m, by omega, by go_num, HM1', HM2, HKY', HDD', HXX, HR⟩
     case measure => simp [intOf]; omega
  ·obtain rfl : tn = k := by omega
   go_wp2
   go_ret2
   exact ⟨b1, b2, m, rfl, by have := HM1.out; rw [← HNL.out, List.take_length] at this; exact this, HM2.out, by have := HKY.out; rw [← HNL.out, List.take_length] at this; exact this, ⟨fun d q h => by obtain ⟨h1, h2, h3⟩ := HDD.out.row d q h; exact ⟨h1, by omega, h3⟩, HDD.out.apart⟩, HR.out⟩
/-- What add returns: a row of the caller's, not empty. -/
def RetAdd (base n : Nat) (w : World) (r : Ending) (w' : World) : Prop :=
 ∃ (A : Option Addr) (m c : Nat) (vs : List Vi), r = .returned (.slice A m c) ∧ w'.ownsRow base 109 4 (.slice A m c) m (vs.flatMap encV) ∧ vs.length = m ∧ 1 ≤ m ∧ m ≤ n + 1 ∧ Below base w w'
set_option maxRecDepth 100000 in
set_option maxHeartbeats 8000000 in
theorem add218 (base : Nat) (A : Option Addr) (n c : Nat) (vs : List Vi) (v0 v1 v2 v3 : Int) (w : World) (h : w.ownsRow base 109 4 (.slice A n c) n (vs.flatMap encV)) (hl : vs.length = n) (hb : base ≤ w.heap.size) (hn : n ≤ 1000000) :
  Calls Tryz.prog 218 #[.slice A n c, .agg #[.int .i64 v0, .int .i64 v1, .int .i64 v2, .int .i64 v3]] w (RetAdd base n w) := by
 obtain ⟨i0, hi0, hz0, hz1, hz2⟩ := info_parts info109
 have HRC : Hid (Recs encV 4 w A n c vs) := Recs.own hl h
 have HOW := Lib.hid h
 have HL := Lib.hid hl
 obtain ⟨w1, hw1⟩ : ∃ y, y = w.alloc (.cells #[.int .i64 v0, .int .i64 v1, .int .i64 v2, .int .i64 v3] 109) := ⟨_, rfl⟩
 obtain ⟨vb, hvb⟩ : ∃ z, z = w.heap.size := ⟨_, rfl⟩
 have g1 : Grew w w1 := by rw [hw1]; exact (Grew.refl w).alloc _
 have HV : Hid (Blk w1 vb 109 [.int .i64 v0, .int .i64 v1, .int .i64 v2, .int .i64 v3]) := by unfold Hid; rw [hw1, hvb]; exact Blk.new w 109 [.int .i64 v0, .int .i64 v1, .int .i64 v2, .int .i64 v3]
 clear h hl
 go_enter Tryz.func218, Tryz.ntmps218
 go_upto_region 1 with (fail)
 rw [← hw1, ← hvb]
 clear hw1 hvb
 go_wp2_with fail
 go_loopw [9] (fun i y => ∃ k : Nat, k ≤ n ∧ i = .int .i64 k ∧ Hid (Grew w1 y)) (fun i _ => n - (intOf i).toNat)
 case atStart => exact ⟨0, Nat.zero_le _, rfl, Grew.refl _⟩
 case round =>
  obtain ⟨k, hk, rfl, HR⟩ := hrel
  have hv := HV.out.grew HR.out
  by_cases hlt : k < n
  ·obtain ⟨b, o, x, hA, hx, hr⟩ := ((HRC.out.grew g1).grew HR.out).at_ encV_ok hlt
   obtain ⟨x0, x1, x2, x3⟩ := x
   have c0 : wr.cell? ⟨b, o + k * 4, none⟩ = some (.int .i64 x0) := hr 0 _ rfl
   have c1 : wr.cell? ⟨b, o + k * 4 + 1, none⟩ = some (.int .i64 x1) := hr 1 _ rfl
   have c2 : wr.cell? ⟨b, o + k * 4 + 2, none⟩ = some (.int .i64 x2) := hr 2 _ rfl
   have c3 : wr.cell? ⟨b, o + k * 4 + 3, none⟩ = some (.int .i64 x3) := hr 3 _ rfl
   have e1 : (0 : Int) ≤ (k : Int) := by omega
   have e2 : (k : Int) < (n : Int) := by omega
   subst hA
   obtain ⟨wa, hwa⟩ : ∃ y, y = wr.alloc (.cells #[.int .i64 x0, .int .i64 x1, .int .i64 x2, .int .i64 x3] 109) := ⟨_, rfl⟩
   obtain ⟨ba, hba⟩ : ∃ z, z = wr.heap.size := ⟨_, rfl⟩
   have HBA : Hid (Blk wa ba 109 [.int .i64 x0, .int .i64 x1, .int .i64 x2, .int .i64 x3]) := by unfold Hid; rw [hwa, hba]; exact Blk.new wr 109 [.int .i64 x0, .int .i64 x1, .int .i64 x2, .int .i64 x3]
   have ga : Grew wr wa := by rw [hwa]; exact (Grew.refl wr).alloc _
   have hva := hv.grew ga
   clear hr hx
   go_upto_region 4 with (fail)
   rw [← hwa, ← hba]
   have HRa := Lib.hid (HR.out.trans ga)
   clear hwa hba c0 c1 c2 c3 ga HR
   have a0 : wa.cell? ⟨ba, 0, none⟩ = some (.int .i64 x0) := HBA.out.cell rfl
   have a1 : wa.cell? ⟨ba, 1, none⟩ = some (.int .i64 x1) := HBA.out.cell rfl
   have a2 : wa.cell? ⟨ba, 2, none⟩ = some (.int .i64 x2) := HBA.out.cell rfl
   have a3 : wa.cell? ⟨ba, 3, none⟩ = some (.int .i64 x3) := HBA.out.cell rfl
   have y0 : wa.cell? ⟨vb, 0, none⟩ = some (.int .i64 v0) := hva.cell rfl
   have y1 : wa.cell? ⟨vb, 1, none⟩ = some (.int .i64 v1) := hva.cell rfl
   have y2 : wa.cell? ⟨vb, 2, none⟩ = some (.int .i64 v2) := hva.cell rfl
   have y3 : wa.cell? ⟨vb, 3, none⟩ = some (.int .i64 v3) := hva.cell rfl
   obtain ⟨bq, hbq⟩ : ∃ q, eqT109 x0 v0 x1 v1 x2 v2 x3 v3 = q := ⟨_, rfl⟩
   have hq : ∀ W', (binOp .eql 109 (.agg #[.int .i64 x0, .int .i64 x1, .int .i64 x2, .int .i64 x3]) (.agg #[.int .i64 v0, .int .i64 v1, .int .i64 v2, .int .i64 v3])).run Tryz.prog W' = .ok (.bool bq) W' := fun W' => by rw [eql109, hbq]
   clear hbq hv hva
   cases bq with
   | true =>
    go_wp2
    go_ret
    exact ⟨_, n, c, vs, rfl, own_grew HOW.out (g1.trans HRa.out), HL.out, by omega, by omega, Below.mono (g1.trans HRa.out) hb⟩
   | false =>
    go_wp2_with fail
    go_roundw
    case rel => exact ⟨k + 1, by omega, by go_num, HRa⟩
    case measure => simp [intOf]; omega
  ·obtain rfl : n = k := by omega
   have y0 : wr.cell? ⟨vb, 0, none⟩ = some (.int .i64 v0) := hv.cell rfl
   have y1 : wr.cell? ⟨vb, 1, none⟩ = some (.int .i64 v1) := hv.cell rfl
   have y2 : wr.cell? ⟨vb, 2, none⟩ = some (.int .i64 v2) := hv.cell rfl
   have y3 : wr.cell? ⟨vb, 3, none⟩ = some (.int .i64 v3) := hv.cell rfl
   obtain ⟨wy, hwy⟩ : ∃ y, y = wr.alloc (.cells #[.int .i64 v0, .int .i64 v1, .int .i64 v2, .int .i64 v3] 109) := ⟨_, rfl⟩
   have gy : Grew wr wy := by rw [hwy]; exact (Grew.refl wr).alloc _
   have BI : Hid (Sl wy 4 (some ⟨wr.heap.size, 0, none⟩) 1 1 (encV ⟨v0, v1, v2, v3⟩)) := by unfold Hid; rw [hwy]; exact builtS (w := wr) (t := 109) 4 1 #[.int .i64 v0, .int .i64 v1, .int .i64 v2, .int .i64 v3] _ rfl rfl (by decide)
   have GY := g1.trans (HR.out.trans gy)
   have OWy := Lib.hid (own_grew HOW.out GY)
   have HBY : Hid (base ≤ wy.heap.size) := Nat.le_trans hb GY.le
   clear hv gy
   go_wp2_with (at_builtin; rw [← hwy]; refine wpList_append_sl _ rfl (.tmp 18) (.tmp 20) 57 rfl base 109 i0 (.agg #[.int .i64 0, .int .i64 0, .int .i64 0, .int .i64 0]) 4 32 Tryz.underlying57 hi0 hz0 hz1 hz2 rfl (by decide) (.slice A n c) n _ rfl OWy.out (some ⟨wr.heap.size, 0, none⟩) 1 1 _ rfl BI.out (fun u hu => encV_ok.one _ u hu) (by unfold maxLen; omega) (by omega) HBY.out ?_; intro v7 w7 own7 hg7 hat7; obtain ⟨A7, c7, rfl⟩ := own_form own7)
   go_ret
   refine ⟨A7, n + 1, c7, vs ++ [⟨v0, v1, v2, v3⟩], rfl, ?_, by rw [List.length_append, HL.out]; rfl, by omega, Nat.le_refl _, Below.grown (Below.mono GY hb) hg7 HBY.out (fun j hj => (OWy.out.lt j hj).1)⟩
   rw [List.flatMap_append, List.flatMap_singleton]; exact own7
theorem size109 : (Tryz.prog.info? 109).map (·.size) = some 4 := by kernel_rfl
theorem mins_in {w : World} {cb : Nat} {p : Pl} {ds : List Nat} (h : CkAt w cb p) (hd : ∀ d ∈ ds, d < p.dn) : ∀ q ∈ ds.flatMap (minsF p), (-9223372036854775808 ≤ q.1 ∧ q.1 ≤ 9223372036854775807) ∧ (-9223372036854775808 ≤ q.2 ∧ q.2 ≤ 9223372036854775807) := by
 obtain ⟨hp, M, N, B, K, ps, qs, kb, hc⟩ := h
 intro q hq
 obtain ⟨d, h1, h2⟩ := List.mem_flatMap.1 hq
 obtain ⟨b, o, r, _, _, _, _, hs⟩ := ck_min hp hc (hd d h1)
 exact hs.2.2 q h2
theorem day_in {w : World} {cb : Nat} {p : Pl} {ds : List Nat} (h : CkAt w cb p) (hd : ∀ d ∈ ds, d < p.dn) : ∀ q ∈ dayM p ds, -9223372036854775808 ≤ q.1 ∧ q.1 ≤ 9223372036854775807 := by
 intro q hq
 obtain ⟨r, h1, h2⟩ := cntM_mem _ q hq
 have := (mins_in h hd r h1).1
 omega
theorem flat_len_le {α β : Type} {f : α → List β} {n : Nat} : ∀ {l : List α}, (∀ x ∈ l, (f x).length ≤ n) → (l.flatMap f).length ≤ l.length * n
 | [], _ => by simp
 | x :: l, h => by
  rw [List.flatMap_cons, List.length_append, List.length_cons, Nat.add_mul, Nat.one_mul]
  have h1 := h x (List.mem_cons_self ..)
  have h2 := flat_len_le (l := l) (fun y hy => h y (List.mem_cons_of_mem _ hy))
  omega
theorem day_len {w : World} {cb : Nat} {p : Pl} {ds : List Nat} (h : CkAt w cb p) (hok : planB p = true) (hd : ∀ d ∈ ds, d < p.dn) (hl : ds.length ≤ 24) : (dayM p ds).length ≤ 34560 := by
 refine Nat.le_trans (cntM_len _) ?_
 have : (ds.flatMap (minsF p)).length ≤ ds.length * 1440 := flat_len_le fun d hdm => by
  have hdur := durOk_of hok h.1 (hd d hdm)
  unfold dOk durOk at hdur
  simp only [Bool.and_eq_true, decide_eq_true_eq] at hdur
  have h1 := splitL_len p.z (p.du d).a (p.du d).b (by omega)
  unfold minsF
  omega
 omega
theorem any_sort (f : Int → Bool) (m : List (Int × Int)) : (sortI (m.map Prod.fst)).any f = m.any fun q => f q.1 := by
 unfold sortI
 rw [(List.mergeSort_perm _ _).any_eq, List.any_map]; rfl
theorem key_some {β : Type} {m : List (Int × β)} {d : Int} (h : d ∈ m.map Prod.fst) : ∃ q, alFind d m = some q := by
 cases hf : alFind d m with
 | none => exact absurd h (alFind_none.1 hf)
 | some q => exact ⟨q, rfl⟩
theorem any_find {f : Int → Bool} {M : List (Int × Int)} (h : Keys M) : (M.any fun q => f ((alFind q.1 M).getD 0)) = M.any fun q => f q.2 := by
 have : ∀ q ∈ M, f ((alFind q.1 M).getD 0) = f q.2 := fun q hq => by rw [mem_alFind h (a := q.1) (v := q.2) hq]; rfl
 rw [Bool.eq_iff_iff, List.any_eq_true, List.any_eq_true]
 exact ⟨fun ⟨q, h1, h2⟩ => ⟨q, h1, by rw [← this q h1]; exact h2⟩, fun ⟨q, h1, h2⟩ => ⟨q, h1, by rw [this q h1]; exact h2⟩⟩
theorem any_takeI {b : Int → Bool} {ds : List Int} {k : Nat} {d : Int} (h : ds[k]? = some d) : (ds.take (k + 1)).any b = ((ds.take k).any b || b d) := by
 rw [List.take_add_one, h, Option.toList, List.any_append]; simp
set_option maxRecDepth 100000 in
set_option maxHeartbeats 16000000 in
theorem find216 {w : World} {cb : Nat} {p : Pl} {wk : Nat} {x : Wo} {T : Option Addr} {tn tc : Nat} {ds : List Nat} (h : TaskOk w cb p wk x T tn tc ds) : Calls Tryz.prog 216 #[.agg #[], taskV cb wk T tn tc] w (RetVs (kindV p x ds 3) 100000 w) := by
 have HTK := Lib.hid h
 show Calls Tryz.prog 216 #[.agg #[], .agg #[.pointer (some ⟨cb, 0, none⟩), .int .i64 (wk : Int), .slice T tn tc]] w _
 obtain ⟨w1, hw1⟩ : ∃ y, y = (w.alloc (.cells #[] 163)).alloc (.cells #[.pointer (some ⟨cb, 0, none⟩), .int .i64 (wk : Int), .slice T tn tc] 197) := ⟨_, rfl⟩
 obtain ⟨tb, htb⟩ : ∃ z, z = w.heap.size + 1 := ⟨_, rfl⟩
 have g1 : Grew w w1 := by rw [hw1]; exact ((Grew.refl w).alloc _).alloc _
 have x1 : w1.heap[tb]? = some (.cells #[.pointer (some ⟨cb, 0, none⟩), .int .i64 (wk : Int), .slice T tn tc] 197) := by
  rw [hw1, htb]; have := World.alloc_heap_new (w.alloc (.cells #[] 163)) (.cells #[.pointer (some ⟨cb, 0, none⟩), .int .i64 (wk : Int), .slice T tn tc] 197); rwa [World.size_alloc] at this
 have X1 := Lib.hid x1
 have t0 : w1.cell? ⟨tb, 0, none⟩ = some (.pointer (some ⟨cb, 0, none⟩)) := by simp [World.cell?, x1]
 have t1 : w1.cell? ⟨tb, 1, none⟩ = some (.int .i64 (wk : Int)) := by simp [World.cell?, x1]
 have t2 : w1.cell? ⟨tb, 2, none⟩ = some (.slice T tn tc) := by simp [World.cell?, x1]
 clear x1 h
 go_enter Tryz.func216, Tryz.ntmps216
 go_upto_region 1 with (fail)
 rw [← hw1, ← htb]
 clear hw1 htb
 have HNL : Hid (ds.length = tn) := by unfold Hid; rw [← idxL_len]; exact HTK.out.ints.1
 go_wp2_with fail
 refine (days217 (HTK.out.grew g1)).mono ?_
 intro r w2 hdays
 obtain ⟨b1, b2, m, rfl, hm1, hm2, hky, hdd, g2⟩ := hdays
 have HM1 := Lib.hid hm1
 have HM2 := Lib.hid hm2
 have HKY := Lib.hid hky
 have HDD := Lib.hid hdd
 clear hm1 hm2 hky hdd
 obtain ⟨M, hM⟩ : ∃ M, dayM p ds = M := ⟨_, rfl⟩
 have HMM := Lib.hid hM
 have HW : Hid (∀ q ∈ M, -9223372036854775808 ≤ q.1 ∧ q.1 ≤ 9223372036854775807) := by unfold Hid; rw [← hM]; exact day_in HTK.out.ck HTK.out.lt
 have HML : Hid (M.length ≤ 34560) := by unfold Hid; rw [← hM]; exact day_len HTK.out.ck HTK.out.ok HTK.out.lt (by rw [HNL.out]; exact HTK.out.le)
 have HMK : Hid (Keys M) := by unfold Hid; rw [← hM]; exact cntM_keys _
 rw [hM] at HM1 HKY
 clear hM
 have g12 := g1.trans g2
 clear t0 t1 t2
 have X2 := Lib.hid (g2.block X1.out)
 clear X1
 go_wp2_with fail
 refine (keys87 _ _).mono ?_
 rintro r w3 ⟨rfl, rfl⟩
 have ga := (Grew.refl w2).alloc (.cells #[.map (some b1)] 179)
 have HM1a := Lib.hid (HM1.out.grew ga)
 have hcb : (w2.alloc (.cells #[.map (some b1)] 179)).cell? ⟨w2.heap.size, 0, none⟩ = some (.map (some b1)) := by simp
 have HCB := Lib.hid hcb
 clear hcb
 go_wp2_with fail
 refine (sorted86 HCB.out HM1a.out HMK.out HW.out (by have := HML.out; omega)).mono ?_
 rintro r w4 ⟨v, rfl, own, g4⟩
 obtain ⟨A2, c2, rfl⟩ := own_form own
 have HI : Hid (Ints w4 A2 M.length c2 (sortI (M.map Prod.fst))) := Ints.own (by unfold sortI; rw [List.length_mergeSort, List.length_map]) own
 have g24 := ga.trans g4
 have HM14 := Lib.hid (HM1.out.grew g24)
 have HM24 := Lib.hid (HM2.out.grew g24)
 have HDD4 := Lib.hid (HDD.out.grew g24)
 have X4 := Lib.hid (g24.block X2.out)
 have HG4 := Lib.hid (g12.trans g24)
 obtain ⟨dl, hdl⟩ : ∃ l, sortI (M.map Prod.fst) = l := ⟨_, rfl⟩
 have HDL := Lib.hid hdl
 rw [hdl] at HI
 have HLL : Hid (dl.length = M.length) := HI.out.1
 clear hdl own ga HM1a HCB g4 g24 g12 HM1 HM2 HDD X2 g2
 go_wp2_with fail
 go_loopw [5, 21] (fun v i y => ∃ (k j c : Nat) (A : Option Addr) (vs : List Vi), k ≤ M.length ∧ i = .int .i64 k ∧ v = .slice A j c ∧ j ≤ k ∧ Hid (y.ownsRow w4.heap.size 109 4 (.slice A j c) j (vs.flatMap encV)) ∧ Hid (vs.length = j) ∧ Hid (j = 0 ↔ (dl.take k).any (fun d => decide (p.lm.week < weekS M d 7)) = false) ∧ Hid (Grew w4 y)) (fun _ i _ => M.length - (intOf i).toNat)
 case atStart => exact ⟨0, 0, 0, none, [], Nat.zero_le _, rfl, rfl, Nat.zero_le _, World.ownsRow_nil _ _ _ _, rfl, ⟨fun _ => rfl, fun _ => rfl⟩, Grew.refl _⟩
 case round =>
  obtain ⟨k, j, c, A, vs, hk, rfl, rfl, hj, OW, HL, HZ, HR⟩ := hrel
  have hml := HML.out
  by_cases hlt : k < M.length
  ·obtain ⟨bb, oo, hA, hcc⟩ := (HI.out.grew HR.out).at_ (by omega)
   obtain ⟨d, hd⟩ : ∃ d, dl[k]? = some d := ⟨_, List.getElem?_eq_getElem (by rw [HLL.out]; exact hlt)⟩
   have c0 := hcc k _ hd
   have HD := Lib.hid hd
   have hmem : d ∈ M.map Prod.fst := by have h1 := List.mem_of_getElem? hd; rw [← HDL.out] at h1; exact (List.mergeSort_perm _ _).mem_iff.1 h1
   have HMEM := Lib.hid hmem
   have e1 : (0 : Int) ≤ (k : Int) := by omega
   have e2 : (k : Int) < (M.length : Int) := by omega
   subst hA
   clear hcc hd hmem
   go_upto_region 7 with (fail)
   clear c0
   go_wp2_with fail
   go_loopw [10, 25] (fun s i y => ∃ q : Nat, q ≤ 7 ∧ i = .int .i64 q ∧ s = .int .i64 (weekS M d q) ∧ y = wr) (fun _ i _ => 7 - (intOf i).toNat)
   case atStart => exact ⟨0, by omega, rfl, rfl, rfl⟩
   case round =>
    obtain ⟨q, hq, rfl, rfl, hy⟩ := hrel
    subst hy
    by_cases hlq : q < 7
    ·have f0 : (q : Int) < 7 := by omega
     have f1 : q < 7 := hlq
     obtain ⟨V, hV⟩ : ∃ V, (alFind (wrap64 (d + (q : Int))) M).getD 0 = V := ⟨_, rfl⟩
     have HVV := Lib.hid hV
     have hlk := (HM14.out.grew HR.out).lookup key3 map179 (zero3 _) (wrap64 (d + (q : Int))) false
     simp only [Bool.false_eq_true, if_false] at hlk
     rw [show ((alFind (wrap64 (d + (q : Int))) M).map zk).getD (.int .i64 0) = .int .i64 V by rw [← hV]; cases alFind (wrap64 (d + (q : Int))) M <;> rfl] at hlk
     obtain ⟨wk', hwk'⟩ : ∃ z, weekS M d q = z := ⟨_, rfl⟩
     have HWK := Lib.hid hwk'
     have hlk2 : (Instr.lookup 179 (.map (some b1)) (.int .i64 (wrap64 (d + (q : Int)))) false).run Tryz.prog _ = .ok (.int .i64 V) _ := hlk
     rw [hwk']
     clear hV hwk' hlk
     go_wp2_with fail
     go_roundw
     case rel => exact ⟨q + 1, by omega, by go_num, by rw [show weekS M d (q + 1) = wrap64 (wk' + V) by unfold weekS; rw [HWK.out, HVV.out]], trivial⟩
     case measure => simp [intOf]; omega
    ·obtain rfl : q = 7 := by omega
     obtain ⟨S, hS⟩ : ∃ z, weekS M d 7 = z := ⟨_, rfl⟩
     have HSS := Lib.hid hS
     rw [hS]
     clear hS
     have x4 := HR.out.block X4.out
     have t0 : wr.cell? ⟨tb, 0, none⟩ = some (.pointer (some ⟨cb, 0, none⟩)) := by simp [World.cell?, x4]
     have t1 : wr.cell? ⟨tb, 1, none⟩ = some (.int .i64 (wk : Int)) := by simp [World.cell?, x4]
     have c6 : wr.cell? ⟨cb, 6, none⟩ = some (.int .i64 p.lm.week) := by
      obtain ⟨_, M', N', B', K', ps', qs', kb', hc⟩ := (HTK.out.ck.grew (HG4.out.trans HR.out))
      exact hc.blk.cell rfl
     have HT2 := Lib.hid (any_takeI (b := fun d => decide (p.lm.week < weekS M d 7)) HD.out)
     clear x4
     by_cases hb : p.lm.week < S
     ·have q1 : decide (p.lm.week < S) = true := decide_eq_true hb
      have HB2 : Hid ((dl.take (k + 1)).any (fun d => decide (p.lm.week < weekS M d 7)) = true) := by unfold Hid; rw [HT2.out, HSS.out, decide_eq_true hb, Bool.or_true]
      clear hb
      obtain ⟨q0, hq0⟩ := key_some (m := m) (d := d) (by rw [HKY.out]; exact HMEM.out)
      obtain ⟨hq1, _, l0, hl0, hown0⟩ := HDD4.out.row d q0 hq0
      have HQ0 := Lib.hid hq0
      obtain ⟨b0, o0, hA0, hcell0⟩ := ((Ints.own hl0 hown0).grew HR.out).at_ hq1
      obtain ⟨z0, hz0⟩ : ∃ z, l0[0]? = some z := ⟨_, List.getElem?_eq_getElem (by omega)⟩
      have c00 := hcell0 0 z0 hz0
      obtain ⟨q0A, q0n, q0c⟩ := q0
      simp only at hA0 hq1
      subst hA0
      have HQx : Hid (alFind d m = some ⟨some ⟨b0, o0, none⟩, q0n, q0c⟩) := HQ0
      have hA : ∀ w', Grew wr.drew w' → (w'.cell? ⟨tb, 1, none⟩ = some (.int .i64 (wk : Int)) ∧ w'.cell? ⟨b0, o0, none⟩ = some (.int .i64 z0)) ∧ (Instr.lookup 297 (.map (some b2)) (.int .i64 d) false).run Tryz.prog w' = .ok (.slice (some ⟨b0, o0, none⟩) q0n q0c) w' := fun w' g' => by
       have gg := (Grew.refl wr).drew.trans g'
       refine ⟨⟨gg.cell t1, gg.cell c00⟩, ?_⟩
       have h1 := ((HM24.out.grew HR.out).grew gg).lookup key3 map297 (zero38 _) d false
       simp only [Bool.false_eq_true, if_false] at h1
       rw [HQx.out] at h1
       exact h1
      have HA := Lib.hid hA
      have i1 : (0 : Int) < (q0n : Int) := by omega
      have i2 : 0 < q0n := by omega
      clear hq0 hl0 hown0 hcell0 hz0 c00 hA t1 HQ0
      go_upto_region 13 with (fail)
      clear t0 c6 q1
      refine wp_region_G (by kernel_rfl) Grew.refl 9 ?_
      refine wpAnyG_takes Grew.refl (fun _ _ _ => Grew.trans) (fun _ _ _ _ _ h => h) [0, 1, 2, 3, 4, 5, 6, 7, 8] (fuel' := 2) (by kernel_rfl) (by kernel_rfl) (by simp only [pickOps, ugT, ug0, ug1]; rfl) ?_
      repeat (first
       | (refine TakeAll.pure (v := ?_) (by rfl) ?_ ?_; rotate_left; (intro w' g'; obtain ⟨⟨y1, y2⟩, y3⟩ := HA.out w' g'; go_simp; first | done | with_reducible rfl); (simp only [Act.put, uzT, uz0, uz1]))
       | (refine TakeAll.skip (by rfl) ?_; (simp only [Act.put, uzT, uz0, uz1])))
      refine TakeAll.nil ?_
      refine wpAnyG_end (by kernel_rfl) (fuel' := 1) (by kernel_rfl) (by simp only [pickOps, ugT, ug0, ug1]; rfl) rfl ?_
      intro w5 g5 K hK
      have G5 := (Grew.refl wr).drew.trans g5
      refine wp_call 218 _ (by go_simp; first | done | rfl) ?_
      refine (add218 w4.heap.size A j c vs 4 (wk : Int) z0 (-1) w5 (own_grew OW.out G5) HL.out (HR.out.trans G5).le (by omega)).mono ?_
      rintro r w6 ⟨A6, j6, c6, vs6, rfl, own6, hl6, h16, hj6, g6⟩
      refine ⟨_, rfl, hK _ _ ?_⟩
      clear hK K
      have OW6 := Lib.hid own6
      have HL6 := Lib.hid hl6
      have HR6 : Hid (Grew w4 w6) := Below.trans (HR.out.trans G5) g6
      have HZ6 : Hid (j6 = 0 ↔ (dl.take (k + 1)).any (fun d => decide (p.lm.week < weekS M d 7)) = false) := by unfold Hid; rw [HB2.out]; exact ⟨fun h => by omega, fun h => by cases h⟩
      clear own6 hl6 g6 g5 G5 HA OW HR HZ
      simp only [Act.put, uzT, uz0, uz1]
      refine wpAny_rest (fun _ _ _ _ _ h => h) [10] (by kernel_rfl) (by kernel_rfl) (by kernel_rfl) rfl ?_
      repeat (first
       | (refine TakeAll.pure (v := ?_) (by rfl) ?_ ?_; rotate_left; (intro w' g'; go_simp; first | done | with_reducible rfl); (simp only [Act.put, uzT])))
      refine TakeAll.nil ?_
      go_wp2_with fail
      go_roundw
      case rel => exact ⟨k + 1, j6, c6, A6, vs6, by omega, by go_num, rfl, by omega, OW6, HL6, HZ6, HR6⟩
      case measure => simp [intOf]; omega
     ·have q1 : decide (p.lm.week < S) = false := decide_eq_false hb
      have HZ6 : Hid (j = 0 ↔ (dl.take (k + 1)).any (fun d => decide (p.lm.week < weekS M d 7)) = false) := by unfold Hid; rw [HT2.out, HSS.out, decide_eq_false hb, Bool.or_false]; exact HZ.out
      clear t1
      go_wp2_with fail
      go_roundw
      case rel => exact ⟨k + 1, j, c, A, vs, by omega, by go_num, rfl, by omega, OW, HL, HZ6, HR⟩
      case measure => simp [intOf]; omega
  ·obtain rfl : M.length = k := by omega
   have HZ2 : Hid (j = 0 ↔ kindV p x ds 3 = false) := by
    have h1 := HZ.out
    rw [← HLL.out, List.take_length, ← HDL.out, any_sort, ← HMM.out] at h1
    exact h1
   go_wp2
   go_ret
   exact ⟨A, j, c, vs, rfl, Recs.own HL.out OW.out, HZ2.out, by omega, HG4.out.trans HR.out⟩
set_option maxRecDepth 100000 in
set_option maxHeartbeats 16000000 in
theorem find221 {w : World} {cb : Nat} {p : Pl} {wk : Nat} {x : Wo} {T : Option Addr} {tn tc : Nat} {ds : List Nat} (h : TaskOk w cb p wk x T tn tc ds) : Calls Tryz.prog 221 #[.agg #[], taskV cb wk T tn tc] w (RetVs (kindV p x ds 5) 100000 w) := by
 have HTK := Lib.hid h
 show Calls Tryz.prog 221 #[.agg #[], .agg #[.pointer (some ⟨cb, 0, none⟩), .int .i64 (wk : Int), .slice T tn tc]] w _
 obtain ⟨w1, hw1⟩ : ∃ y, y = (w.alloc (.cells #[] 165)).alloc (.cells #[.pointer (some ⟨cb, 0, none⟩), .int .i64 (wk : Int), .slice T tn tc] 197) := ⟨_, rfl⟩
 obtain ⟨tb, htb⟩ : ∃ z, z = w.heap.size + 1 := ⟨_, rfl⟩
 have g1 : Grew w w1 := by rw [hw1]; exact ((Grew.refl w).alloc _).alloc _
 have x1 : w1.heap[tb]? = some (.cells #[.pointer (some ⟨cb, 0, none⟩), .int .i64 (wk : Int), .slice T tn tc] 197) := by
  rw [hw1, htb]; have := World.alloc_heap_new (w.alloc (.cells #[] 165)) (.cells #[.pointer (some ⟨cb, 0, none⟩), .int .i64 (wk : Int), .slice T tn tc] 197); rwa [World.size_alloc] at this
 have X1 := Lib.hid x1
 have t0 : w1.cell? ⟨tb, 0, none⟩ = some (.pointer (some ⟨cb, 0, none⟩)) := by simp [World.cell?, x1]
 have t1 : w1.cell? ⟨tb, 1, none⟩ = some (.int .i64 (wk : Int)) := by simp [World.cell?, x1]
 have t2 : w1.cell? ⟨tb, 2, none⟩ = some (.slice T tn tc) := by simp [World.cell?, x1]
 clear x1 h
 go_enter Tryz.func221, Tryz.ntmps221
 go_upto_region 1 with (fail)
 rw [← hw1, ← htb]
 clear hw1 htb
 have HNL : Hid (ds.length = tn) := by unfold Hid; rw [← idxL_len]; exact HTK.out.ints.1
 go_wp2_with fail
 refine (who210 (HTK.out.grew g1)).mono ?_
 rintro r wq ⟨rfl, gq⟩
 obtain ⟨nm, sk, mi, wg, xA, xn, xc, xaw⟩ := x
 unfold woV
 have hfl := fun W => field56_2 W nm sk mi wg xA xn xc
 clear t0 t1 t2
 have x1 := gq.block X1.out
 have t0 : wq.cell? ⟨tb, 0, none⟩ = some (.pointer (some ⟨cb, 0, none⟩)) := by simp [World.cell?, x1]
 have t1 : wq.cell? ⟨tb, 1, none⟩ = some (.int .i64 (wk : Int)) := by simp [World.cell?, x1]
 have t2 : wq.cell? ⟨tb, 2, none⟩ = some (.slice T tn tc) := by simp [World.cell?, x1]
 clear x1
 have G1q := g1.trans gq
 have X1q := Lib.hid (gq.block X1.out)
 cases mi with
 | false =>
  go_wp2
  go_ret
  exact ⟨none, 0, 0, [], rfl, Recs.none_, ⟨fun _ => rfl, fun _ => rfl⟩, Nat.zero_le _, G1q⟩
 | true =>
  clear g1 gq X1
  go_wp2_with fail
  refine (days217 (HTK.out.grew G1q)).mono ?_
  intro r w2 hdays
  obtain ⟨b1, b2, m, rfl, hm1, hm2, hky, hdd, g2⟩ := hdays
  have HM1 := Lib.hid hm1
  have HM2 := Lib.hid hm2
  have HKY := Lib.hid hky
  have HDD := Lib.hid hdd
  clear hm1 hm2 hky hdd
  obtain ⟨M, hM⟩ : ∃ M, dayM p ds = M := ⟨_, rfl⟩
  have HMM := Lib.hid hM
  have HW : Hid (∀ q ∈ M, -9223372036854775808 ≤ q.1 ∧ q.1 ≤ 9223372036854775807) := by unfold Hid; rw [← hM]; exact day_in HTK.out.ck HTK.out.lt
  have HML : Hid (M.length ≤ 34560) := by unfold Hid; rw [← hM]; exact day_len HTK.out.ck HTK.out.ok HTK.out.lt (by rw [HNL.out]; exact HTK.out.le)
  have HMK : Hid (Keys M) := by unfold Hid; rw [← hM]; exact cntM_keys _
  rw [hM] at HM1 HKY
  clear hM
  have g12 := G1q.trans g2
  clear t0 t1 t2
  have X2 := Lib.hid (g2.block X1q.out)
  clear X1q
  go_wp2_with fail
  refine (keys87 _ _).mono ?_
  rintro r w3 ⟨rfl, rfl⟩
  have ga := (Grew.refl w2).alloc (.cells #[.map (some b1)] 179)
  have HM1a := Lib.hid (HM1.out.grew ga)
  have hcb : (w2.alloc (.cells #[.map (some b1)] 179)).cell? ⟨w2.heap.size, 0, none⟩ = some (.map (some b1)) := by simp
  have HCB := Lib.hid hcb
  clear hcb
  go_wp2_with fail
  refine (sorted86 HCB.out HM1a.out HMK.out HW.out (by have := HML.out; omega)).mono ?_
  rintro r w4 ⟨v, rfl, own, g4⟩
  obtain ⟨A2, c2, rfl⟩ := own_form own
  have HI : Hid (Ints w4 A2 M.length c2 (sortI (M.map Prod.fst))) := Ints.own (by unfold sortI; rw [List.length_mergeSort, List.length_map]) own
  have g24 := ga.trans g4
  have HM14 := Lib.hid (HM1.out.grew g24)
  have HM24 := Lib.hid (HM2.out.grew g24)
  have HDD4 := Lib.hid (HDD.out.grew g24)
  have X4 := Lib.hid (g24.block X2.out)
  have HG4 := Lib.hid (g12.trans g24)
  obtain ⟨dl, hdl⟩ : ∃ l, sortI (M.map Prod.fst) = l := ⟨_, rfl⟩
  have HDL := Lib.hid hdl
  rw [hdl] at HI
  have HLL : Hid (dl.length = M.length) := HI.out.1
  clear hdl own ga HM1a HCB g4 g24 g12 HM1 HM2 HDD X2 g2
  go_wp2_with fail
  go_loopw [5, 25] (fun v i y => ∃ (k j c : Nat) (A : Option Addr) (vs : List Vi), k ≤ M.length ∧ i = .int .i64 k ∧ v = .slice A j c ∧ j ≤ k ∧ Hid (y.ownsRow w4.heap.size 109 4 (.slice A j c) j (vs.flatMap encV)) ∧ Hid (vs.length = j) ∧ Hid (j = 0 ↔ (dl.take k).any (fun d => decide (p.lm.mn < (alFind d M).getD 0)) = false) ∧ Hid (Grew w4 y)) (fun _ i _ => M.length - (intOf i).toNat)
  case atStart => exact ⟨0, 0, 0, none, [], Nat.zero_le _, rfl, rfl, Nat.zero_le _, World.ownsRow_nil _ _ _ _, rfl, ⟨fun _ => rfl, fun _ => rfl⟩, Grew.refl _⟩
  case round =>
   obtain ⟨k, j, c, A, vs, hk, rfl, rfl, hj, OW, HL, HZ, HR⟩ := hrel
   have hml := HML.out
   by_cases hlt : k < M.length
   ·obtain ⟨bb, oo, hA, hcc⟩ := (HI.out.grew HR.out).at_ (by omega)
    obtain ⟨d, hd⟩ : ∃ d, dl[k]? = some d := ⟨_, List.getElem?_eq_getElem (by rw [HLL.out]; exact hlt)⟩
    have c0 := hcc k _ hd
    have HD := Lib.hid hd
    have hmem : d ∈ M.map Prod.fst := by have h1 := List.mem_of_getElem? hd; rw [← HDL.out] at h1; exact (List.mergeSort_perm _ _).mem_iff.1 h1
    have HMEM := Lib.hid hmem
    have e1 : (0 : Int) ≤ (k : Int) := by omega
    have e2 : (k : Int) < (M.length : Int) := by omega
    subst hA
    clear hcc hd hmem
    go_upto_region 8 with (fail)
    clear c0
    obtain ⟨V, hV⟩ : ∃ V, (alFind d M).getD 0 = V := ⟨_, rfl⟩
    have HVV := Lib.hid hV
    have x4 := HR.out.block X4.out
    have t0 : wr.cell? ⟨tb, 0, none⟩ = some (.pointer (some ⟨cb, 0, none⟩)) := by simp [World.cell?, x4]
    have c9 : wr.cell? ⟨cb, 9, none⟩ = some (.int .i64 p.lm.mn) := by
     obtain ⟨_, M', N', B', K', ps', qs', kb', hc⟩ := (HTK.out.ck.grew (HG4.out.trans HR.out))
     exact hc.blk.cell rfl
    have hA : ∀ w', Grew wr.drew w' → (w'.cell? ⟨tb, 0, none⟩ = some (.pointer (some ⟨cb, 0, none⟩)) ∧ w'.cell? ⟨cb, 9, none⟩ = some (.int .i64 p.lm.mn)) ∧ (Instr.lookup 179 (.map (some b1)) (.int .i64 d) false).run Tryz.prog w' = .ok (.int .i64 V) w' := fun w' g' => by
     have gg := (Grew.refl wr).drew.trans g'
     refine ⟨⟨gg.cell t0, gg.cell c9⟩, ?_⟩
     have h1 := ((HM14.out.grew HR.out).grew gg).lookup key3 map179 (zero3 _) d false
     simp only [Bool.false_eq_true, if_false] at h1
     rw [show ((alFind d M).map zk).getD (.int .i64 0) = .int .i64 V by rw [← hV]; cases alFind d M <;> rfl] at h1
     exact h1
    have HA := Lib.hid hA
    have HT2 := Lib.hid (any_takeI (b := fun d => decide (p.lm.mn < (alFind d M).getD 0)) HD.out)
    clear hA t0 c9 x4 hV
    by_cases hb : V ≤ p.lm.mn
    ·have q1 : decide (V ≤ p.lm.mn) = true := decide_eq_true hb
     have HZ6 : Hid (j = 0 ↔ (dl.take (k + 1)).any (fun d => decide (p.lm.mn < (alFind d M).getD 0)) = false) := by unfold Hid; rw [HT2.out, HVV.out, decide_eq_false (by omega), Bool.or_false]; exact HZ.out
     refine wp_region_seq (by kernel_rfl) Grew.refl (fun _ _ _ => Grew.trans) (fun _ _ _ _ _ h => h) (by kernel_rfl) ?_
     repeat (first
      | (refine TakeAll.pure (v := ?_) (by rfl) ?_ ?_; rotate_left; (intro w' g'; obtain ⟨⟨y1, y2⟩, y3⟩ := HA.out w' g'; go_simp; first | done | with_reducible rfl); (simp only [Act.put, uzT, uz0, uz1]))
      | (refine TakeAll.skip (by rfl) ?_; (simp only [Act.put, uzT, uz0, uz1])))
     refine TakeAll.nil ?_
     intro w5 g5
     have G5 := (Grew.refl wr).drew.trans g5
     have OW5 := Lib.hid (own_grew OW.out G5)
     have HR5 := Lib.hid (HR.out.trans G5)
     clear HA g5 G5 OW HR HZ
     go_wp2_with fail
     go_roundw
     case rel => exact ⟨k + 1, j, c, A, vs, by omega, by go_num, rfl, by omega, OW5, HL, HZ6, HR5⟩
     case measure => simp [intOf]; omega
    ·have q1 : decide (V ≤ p.lm.mn) = false := decide_eq_false hb
     have HB2 : Hid ((dl.take (k + 1)).any (fun d => decide (p.lm.mn < (alFind d M).getD 0)) = true) := by unfold Hid; rw [HT2.out, HVV.out, decide_eq_true (by omega), Bool.or_true]
     refine wp_region_seq (by kernel_rfl) Grew.refl (fun _ _ _ => Grew.trans) (fun _ _ _ _ _ h => h) (by kernel_rfl) ?_
     repeat (first
      | (refine TakeAll.pure (v := ?_) (by rfl) ?_ ?_; rotate_left; (intro w' g'; obtain ⟨⟨y1, y2⟩, y3⟩ := HA.out w' g'; go_simp; first | done | with_reducible rfl); (simp only [Act.put, uzT, uz0, uz1]))
      | (refine TakeAll.skip (by rfl) ?_; (simp only [Act.put, uzT, uz0, uz1])))
     refine TakeAll.nil ?_
     intro w5 g5
     have G5 := (Grew.refl wr).drew.trans g5
     have OW5 := Lib.hid (own_grew OW.out G5)
     have HR5 := Lib.hid (HR.out.trans G5)
     clear HA g5 G5 OW HR HZ
     obtain ⟨q0, hq0⟩ := key_some (m := m) (d := d) (by rw [HKY.out]; exact HMEM.out)
     obtain ⟨hq1, hqB, l0, hl0, hown0⟩ := HDD4.out.row d q0 hq0
     have HQ0 := Lib.hid hq0
     obtain ⟨b0, o0, hA0, hcell0⟩ := (Ints.own hl0 hown0).at_ hq1
     obtain ⟨z0, hz0⟩ : ∃ z, l0[0]? = some z := ⟨_, List.getElem?_eq_getElem (by omega)⟩
     obtain ⟨z1, hz1⟩ : ∃ z, l0[q0.n - 1]? = some z := ⟨_, List.getElem?_eq_getElem (by omega)⟩
     have c00 := hcell0 0 z0 hz0
     have c01 := hcell0 (q0.n - 1) z1 hz1
     obtain ⟨q0A, q0n, q0c⟩ := q0
     simp only at hA0 hq1 hqB c01
     subst hA0
     have HQx : Hid (alFind d m = some ⟨some ⟨b0, o0, none⟩, q0n, q0c⟩) := HQ0
     have HC0 : Hid (w4.cell? ⟨b0, o0, none⟩ = some (.int .i64 z0)) := c00
     have HC1 : Hid (w4.cell? ⟨b0, o0 + (q0n - 1), none⟩ = some (.int .i64 z1)) := c01
     have HLK : Hid (∀ w', Grew w4 w' → (Instr.lookup 297 (.map (some b2)) (.int .i64 d) false).run Tryz.prog w' = .ok (.slice (some ⟨b0, o0, none⟩) q0n q0c) w') := fun w' g' => by
      have h1 := (HM24.out.grew g').lookup key3 map297 (zero38 _) d false
      simp only [Bool.false_eq_true, if_false] at h1
      rw [HQx.out] at h1
      exact h1
     have HX5 := Lib.hid (HR5.out.block X4.out)
     have i1 : (0 : Int) < (q0n : Int) := by omega
     have i2 : 0 < q0n := by omega
     clear hq0 hl0 hown0 hcell0 hz0 hz1 c00 c01 HQ0
     go_upto_region 9 with (fail)
     clear q1
     have hA : ∀ w', Grew w5.drew w' → (w'.cell? ⟨tb, 1, none⟩ = some (.int .i64 (wk : Int)) ∧ w'.cell? ⟨b0, o0, none⟩ = some (.int .i64 z0)) ∧ (Instr.lookup 297 (.map (some b2)) (.int .i64 d) false).run Tryz.prog w' = .ok (.slice (some ⟨b0, o0, none⟩) q0n q0c) w' := fun w' g' => by
      have gg := (Grew.refl w5).drew.trans g'
      have x5 := gg.block HX5.out
      exact ⟨⟨by simp [World.cell?, x5], (HR5.out.trans gg).cell HC0.out⟩, HLK.out w' (HR5.out.trans gg)⟩
     have HA := Lib.hid hA
     clear hA
     refine wp_region_G (by kernel_rfl) Grew.refl 9 ?_
     refine wpAnyG_takes Grew.refl (fun _ _ _ => Grew.trans) (fun _ _ _ _ _ h => h) [0, 1, 2, 3, 4, 5, 6, 7] (fuel' := 2) (by kernel_rfl) (by kernel_rfl) (by simp only [pickOps, ugT, ug0, ug1]; rfl) ?_
     repeat (first
      | (refine TakeAll.pure (v := ?_) (by rfl) ?_ ?_; rotate_left; (intro w' g'; obtain ⟨⟨y1, y2⟩, y3⟩ := HA.out w' g'; go_simp; first | done | with_reducible rfl); (simp only [Act.put, uzT, uz0, uz1]))
      | (refine TakeAll.skip (by rfl) ?_; (simp only [Act.put, uzT, uz0, uz1])))
     refine TakeAll.nil ?_
     refine wpAnyG_step (i := 8) (by kernel_rfl) (fuel' := 1) (by kernel_rfl) (by simp only [pickOps, ugT, ug0, ug1]; rfl) rfl ?_
     intro w6 g6 K hK
     go_simp
     refine hK _ _ ((Grew.refl w6).alloc _) ?_
     clear hK K
     have G6 := (Grew.refl w5).drew.trans g6
     have gal := (Grew.refl w6).alloc (.cells #[.int .i64 0, .int .i64 0, .int .i64 0, .int .i64 0] 109)
     have HB6 := Lib.hid (Blk.new w6 109 [.int .i64 0, .int .i64 0, .int .i64 0, .int .i64 0])
     refine wpAnyG_end (by kernel_rfl) (fuel' := 0) (by kernel_rfl) (by simp only [pickOps, ugT, ug0, ug1]; rfl) rfl ?_
     intro w7 g7 K hK
     have HB7 := Lib.hid (HB6.out.grew g7)
     refine wp_store_row 109 (.tmp 10) (.tmp 47) rfl w6.heap.size #[.int .i64 6, .int .i64 (wk : Int), .int .i64 z0, .int .i64 (-1)] rfl rfl 109 _ HB7.out size109 rfl (by simp [Value.oneCell']) ?_
     refine hK _ _ ?_
     clear hK K
     have HB8 : Hid (Blk (w7.setRow w6.heap.size #[.int .i64 6, .int .i64 (wk : Int), .int .i64 z0, .int .i64 (-1)]) w6.heap.size 109 [.int .i64 6, .int .i64 (wk : Int), .int .i64 z0, .int .i64 (-1)]) := setRow_heap w7 w6.heap.size _ _ 109 (0, 0) HB7.out
     have G8 : Hid (Grew w5 (w7.setRow w6.heap.size #[.int .i64 6, .int .i64 (wk : Int), .int .i64 z0, .int .i64 (-1)])) := grew_setRow (G6.trans (gal.trans g7)) G6.le _
     obtain ⟨w8, hw8⟩ : ∃ y, y = w7.setRow w6.heap.size #[.int .i64 6, .int .i64 (wk : Int), .int .i64 z0, .int .i64 (-1)] := ⟨_, rfl⟩
     obtain ⟨vb, hvb⟩ : ∃ z, z = w6.heap.size := ⟨_, rfl⟩
     have HVB : Hid (w5.heap.size ≤ vb) := by unfold Hid; rw [hvb]; exact G6.le
     rw [← hvb] at hw8 HB8 G8 ⊢
     rw [← hw8] at HB8 G8 ⊢
     clear hw8 hvb HB6 HB7 gal g7 g6 G6 HA
     refine wpAny_rest (fun _ _ _ _ _ h => h) [] (by kernel_rfl) (by kernel_rfl) (by kernel_rfl) rfl (TakeAll.nil ?_)
     have OW8 := Lib.hid (own_grew OW5.out G8.out)
     have HR8 := Lib.hid (HR5.out.trans G8.out)
     have hl8 := HLK.out w8 HR8.out
     by_cases hq2 : 1 < q0n
     ·have s1 : (1 : Int) < (q0n : Int) := by omega
      have m1 : IntKind.i64.wrap ((q0n : Int) - 1) = (q0n : Int) - 1 := IntWalk.i64_in _ (by omega)
      have m2 : ((q0n : Int) - 1).toNat = q0n - 1 := by omega
      have m3 : (0 : Int) ≤ (q0n : Int) - 1 := by omega
      have m4 : (q0n : Int) - 1 < (q0n : Int) := by omega
      have m3' : (1 : Int) ≤ (q0n : Int) := by omega
      have c1 := HR8.out.cell HC1.out
      have cv := HB8.out.cell (i := 3) (v := .int .i64 (-1)) rfl
      have fv := HB8.out.frozen 3
      go_upto_region 13 with (fail)
      have HB9 := Lib.hid (HB8.out.set 3 (.int .i64 z1))
      have G9 : Hid (Grew w5 (w8.setCell ⟨vb, 3, none⟩ (.int .i64 z1))) := G8.out.set HVB.out _
      obtain ⟨w9, hw9⟩ : ∃ y, y = w8.setCell ⟨vb, 3, none⟩ (.int .i64 z1) := ⟨_, rfl⟩
      rw [← hw9] at HB9 G9 ⊢
      have OW9 := Lib.hid (own_grew OW5.out G9.out)
      have HR9 := Lib.hid (HR5.out.trans G9.out)
      have y0 : w9.cell? ⟨vb, 0, none⟩ = some (.int .i64 6) := HB9.out.cell rfl
      have y1 : w9.cell? ⟨vb, 1, none⟩ = some (.int .i64 (wk : Int)) := HB9.out.cell rfl
      have y2 : w9.cell? ⟨vb, 2, none⟩ = some (.int .i64 z0) := HB9.out.cell rfl
      have y3 : w9.cell? ⟨vb, 3, none⟩ = some (.int .i64 z1) := HB9.out.cell rfl
      clear hw9 hl8 c1 cv fv m1 m2 m3 m4 m3' s1 OW8 HR8 HB8 G8
      go_wp2_with fail
      refine (add218 w4.heap.size A j c vs 6 (wk : Int) z0 z1 w9 OW9.out HL.out HR9.out.le (by omega)).mono ?_
      rintro r wf ⟨A6, j6, c6, vs6, rfl, own6, hl6, h16, hj6, g6⟩
      have OWf := Lib.hid own6
      have HLf := Lib.hid hl6
      have HRf : Hid (Grew w4 wf) := Below.trans HR9.out g6
      have HZf : Hid (j6 = 0 ↔ (dl.take (k + 1)).any (fun d => decide (p.lm.mn < (alFind d M).getD 0)) = false) := by unfold Hid; rw [HB2.out]; exact ⟨fun h => by omega, fun h => by cases h⟩
      clear own6 hl6 g6 y0 y1 y2 y3
      go_wp2_with fail
      go_roundw
      case rel => exact ⟨k + 1, j6, c6, A6, vs6, by omega, by go_num, rfl, by omega, OWf, HLf, HZf, HRf⟩
      case measure => simp [intOf]; omega
     ·have s1 : ¬ ((1 : Int) < (q0n : Int)) := by omega
      have y0 : w8.cell? ⟨vb, 0, none⟩ = some (.int .i64 6) := HB8.out.cell rfl
      have y1 : w8.cell? ⟨vb, 1, none⟩ = some (.int .i64 (wk : Int)) := HB8.out.cell rfl
      have y2 : w8.cell? ⟨vb, 2, none⟩ = some (.int .i64 z0) := HB8.out.cell rfl
      have y3 : w8.cell? ⟨vb, 3, none⟩ = some (.int .i64 (-1)) := HB8.out.cell rfl
      go_wp2_with fail
      refine (add218 w4.heap.size A j c vs 6 (wk : Int) z0 (-1) w8 OW8.out HL.out HR8.out.le (by omega)).mono ?_
      rintro r wf ⟨A6, j6, c6, vs6, rfl, own6, hl6, h16, hj6, g6⟩
      have OWf := Lib.hid own6
      have HLf := Lib.hid hl6
      have HRf : Hid (Grew w4 wf) := Below.trans HR8.out g6
      have HZf : Hid (j6 = 0 ↔ (dl.take (k + 1)).any (fun d => decide (p.lm.mn < (alFind d M).getD 0)) = false) := by unfold Hid; rw [HB2.out]; exact ⟨fun h => by omega, fun h => by cases h⟩
      clear own6 hl6 g6 y0 y1 y2 y3
      go_wp2_with fail
      go_roundw
      case rel => exact ⟨k + 1, j6, c6, A6, vs6, by omega, by go_num, rfl, by omega, OWf, HLf, HZf, HRf⟩
      case measure => simp [intOf]; omega
   ·obtain rfl : M.length = k := by omega
    have HZ2 : Hid (j = 0 ↔ mnV p ds = false) := by
     have h1 := HZ.out
     rw [← HLL.out, List.take_length, ← HDL.out, any_sort, any_find (f := fun z => decide (p.lm.mn < z)) HMK.out, ← HMM.out] at h1
     exact h1
    go_wp2
    go_ret
    exact ⟨A, j, c, vs, rfl, Recs.own HL.out OW.out, HZ2.out, by omega, HG4.out.trans HR.out⟩
end Go.Proofs.YtnnbibmmofnkdaaGreat
