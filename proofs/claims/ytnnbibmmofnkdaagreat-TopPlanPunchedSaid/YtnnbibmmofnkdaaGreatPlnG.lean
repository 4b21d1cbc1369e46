/-
 The planner: refute.
-/
import Derived.Test.YtnnbibmmofnkdaaGreatPlnE
namespace Go.Proofs.YtnnbibmmofnkdaaGreat
open Go.RowKit Go.Proofs WageMem WageReg WageRec WageSpan WageTop
theorem KeepT.fresh {sb pb : Nat} {a b c : World} {row : Option Nat} (h : KeepT sb pb a b) (g : b.grownBy c row) (hr : ∀ q, row = some q → a.heap.size ≤ q) : KeepT sb pb a c :=
 ⟨Nat.le_trans h.1 g.size, fun k o h1 h2 h3 h4 => (g.block k (Array.getElem?_eq_some_iff.1 (h.2 k o h1 h2 h3 h4)).1 (fun e => by
  have h5 := hr k e.symm
  have h6 := (Array.getElem?_eq_some_iff.1 h1).1
  omega)).trans (h.2 k o h1 h2 h3 h4)⟩
theorem KeepT.weak {sb pb : Nat} {a b : World} (h : KeepT sb sb a b) : KeepT sb pb a b := ⟨h.1, fun k o h1 h2 _ h4 => h.2 k o h1 h2 h2 h4⟩
theorem KeepT.blk {sb pb : Nat} {a b : World} (h : KeepT sb pb a b) {k : Nat} {t : TypeId} {cs : List Value} (hb : Blk a k t cs) (h1 : k ≠ sb) (h2 : k ≠ pb) (h3 : t ≠ 71) : Blk b k t cs :=
 h.2 k _ hb h1 h2 (fun cs fz e => by injection e with _ e _; exact h3 e)
theorem T3.kept {y y' : World} {b : Nat} {row : Option Nat} (h : T3 y b) (g : y.grownBy y' row) (hne : some b ≠ row) : T3 y' b := by
 obtain ⟨cs, fz, h1⟩ := h
 exact ⟨cs, fz, (g.block b (Array.getElem?_eq_some_iff.1 h1).1 hne).trans h1⟩
theorem T3.apart {y : World} {b : Nat} (h : T3 y b) {base : Nat} {e : TypeId} {size : Nat} {v : Value} {n : Nat} {xs : List Value} (h' : y.ownsRow base e size v n xs) (he : e ≠ 3) : v.ownBlock = none ∨ v.ownBlock ≠ some b := by
 obtain ⟨cs, fz, h1⟩ := h
 rcases h'.2 with ⟨rfl, _⟩ | ⟨g, cap, cur, rfl, _, hg, _⟩
 ·exact .inl rfl
 ·refine .inr fun hh => ?_
  injection hh with hh
  simp only at hh
  subst hh
  rw [h1] at hg
  injection hg with hg
  injection hg with _ h2 _
  exact he h2.symm
theorem RefAt.kept {p : Pl} {w1 : World} {cb sb lb : Nat} {V B : Value} {cost : Int} {Pr : Nat → Prop} {y y' : World} {s : Rs} (h : RefAt p w1 cb sb lb V B cost Pr y s) {x : Nat} (g : y.grownBy y' (some x)) (h1 : sb ≠ x) (h2 : lb ≠ x) (h3 : T3 y x) (h4 : ∀ b, Pr b → b ≠ x) : RefAt p w1 cb sb lb V B cost Pr y' s := by
 obtain ⟨⟨GA, gc, hb, hl⟩, hlb, hf⟩ := h
 exact ⟨⟨GA, gc, hb.kept g (fun e => h1 (by injection e)), hl.kept g (fun _ _ _ h => h3.apart h (by decide)) (fun _ _ _ h => h3.apart h (by decide)) (fun v n xs h hp => by
  cases hv : v.ownBlock with
  | none => exact .inl rfl
  | some b => exact .inr fun e => h4 b (hp b hv) (by injection e))⟩, hlb.kept g (fun e => h2 (by injection e)), hf⟩
/-- While a prefix's extensions are refuted: the steps' numbers lie in a row of their own. -/
structure RfSp (p : Pl) (w1 : World) (cb sb lb pb : Nat) (V B : Value) (cost : Int) (Pr : Nat → Prop) (yb : World) (fb k : Nat) (v : World) (s : Rs × List Int) : Prop where
 ex : ∃ FA fc, Blk v fb 38 [.slice FA k fc] ∧ v.ownsRow w1.heap.size 3 1 (.slice FA k fc) k (s.2.map iv) ∧ (∀ q, (Value.slice FA k fc).ownBlock = some q → yb.heap.size ≤ q) ∧ RefAt p w1 cb sb lb V B cost (fun b => Pr b ∧ some b ≠ (Value.slice FA k fc).ownBlock) v s.1
 len : s.2.length = k
 keep : KeepT sb pb yb v
 t3 : T3 v pb
theorem RfSp.kept {p : Pl} {w1 : World} {cb sb lb pb : Nat} {V B : Value} {cost : Int} {Pr : Nat → Prop} {yb : World} {fb k : Nat} {v v' : World} {s : Rs × List Int} (h : RfSp p w1 cb sb lb pb V B cost Pr yb fb k v s) (h1 : sb ≠ pb ∧ lb ≠ pb ∧ pb < yb.heap.size ∧ yb.heap.size ≤ fb) (hp : ∀ b, Pr b → b ≠ pb) (g : v.grownBy v' (some pb)) (ht : T3 v' pb) : RfSp p w1 cb sb lb pb V B cost Pr yb fb k v' s := by
 obtain ⟨⟨FA, fc, hb, ho, hq, hr⟩, hl, hk, h3⟩ := h
 refine ⟨⟨FA, fc, hb.kept g (fun e => by injection e; omega), ho.kept g (.inr fun e => by have := hq pb e; omega), hq, hr.kept g h1.1 h1.2.1 h3 (fun b hb => hp b hb.1)⟩, hl, ⟨Nat.le_trans hk.1 g.size, fun i o a1 a2 a3 a4 => ?_⟩, ht⟩
 have h5 := hk.2 i o a1 a2 a3 a4
 exact (g.block i (Array.getElem?_eq_some_iff.1 h5).1 (fun e => a3 (by injection e))).trans h5
set_option maxRecDepth 100000 in
set_option maxHeartbeats 4000000 in
theorem each82 {p : Pl} {w1 : World} {cb sb lb pb : Nat} {V B : Value} {cost : Int} {Pr : Nat → Prop} {yb : World} {fb k : Nat} {v : World} {s : Rs × List Int} {j : Int} {dn : Nat} (hk : k ≤ 12) (h : RfSp p w1 cb sb lb pb V B cost Pr yb fb k v s) (h1 : sb < yb.heap.size ∧ lb < yb.heap.size ∧ pb < yb.heap.size ∧ yb.heap.size ≤ fb ∧ w1.heap.size ≤ yb.heap.size) (hg : Grew w1 v) :
  Calls Tryz.prog 82 (#[.int .i64 j] ++ #[.pointer (some ⟨fb, 0, none⟩)]) v fun r v' => r = .returned (.tuple #[]) ∧ Grew w1 v' ∧ RfSp p w1 cb sb lb pb V B cost Pr yb fb (k + 1) v' (s.1, s.2 ++ [j]) ∧ ∀ n xs, v.ownsRow w1.heap.size 3 1 (.slice (some ⟨pb, 0, none⟩) n dn) n xs → v'.ownsRow w1.heap.size 3 1 (.slice (some ⟨pb, 0, none⟩) n dn) n xs := by
 show Calls Tryz.prog 82 #[.int .i64 j, .pointer (some ⟨fb, 0, none⟩)] v _
 obtain ⟨i3, hi3, hz3, hs3, hb3⟩ := info_parts info3
 obtain ⟨⟨FA, fc, hb, ho, hq, hr⟩, hl, hkp, h3⟩ := h
 have H1 := Lib.hid h1
 have HB := Lib.hid hb
 have HO := Lib.hid ho
 have HQ := Lib.hid hq
 have HRF := Lib.hid hr
 have HL := Lib.hid hl
 have HKP := Lib.hid hkp
 have HT := Lib.hid h3
 have HG := Lib.hid hg
 have c0 : v.cell? ⟨fb, 0, none⟩ = some (.slice FA k fc) := hb.cell rfl
 obtain ⟨wy, hwy⟩ : ∃ y, y = v.alloc (.cells #[.int .i64 j] 3) := ⟨_, rfl⟩
 have gy : Grew v wy := by rw [hwy]; exact (Grew.refl v).alloc _
 have BI : Hid (Sl wy 1 (some ⟨v.heap.size, 0, none⟩) 1 1 ([j].map iv)) := by unfold Hid; rw [hwy]; exact builtS (w := v) (t := 3) 1 1 #[.int .i64 j] _ rfl rfl (by decide)
 have OWy := Lib.hid (own_grew ho gy)
 have HBy := Lib.hid (hb.grew gy)
 have HGy := Lib.hid (hg.trans gy)
 have GY := Lib.hid gy
 clear h1 hb ho hq hr hl hkp h3 hg gy
 go_enter Tryz.func82, Tryz.ntmps82
 go_wp2_with (at_builtin; rw [← hwy]; refine wpList_append_sl _ rfl (.tmp 3) (.tmp 5) 38 rfl w1.heap.size 3 i3 (.int .i64 0) 1 8 Tryz.underlying38 hi3 hz3 hs3 hb3 rfl (by decide) (.slice FA k fc) k _ rfl OWy.out (some ⟨v.heap.size, 0, none⟩) 1 1 _ rfl BI.out (iv_one _) (by unfold maxLen; omega) (by omega) HGy.out.le ?_; intro v7 w7 own7 hg7 hat7; obtain ⟨A7, c7, rfl⟩ := own_form own7; have HB7 := Lib.hid (HBy.out.kept hg7 (own_blk OWy.out HBy.out (by decide))); have c7' := HB7.out.cell (i := 0) (v := .slice FA k fc) rfl; have f7 := HB7.out.frozen 0)
 refine bodyPost_end (results_none rfl _ _ _) rfl ?_
 obtain ⟨b1, b2, b3, b4, b5⟩ := H1.out
 have k0 := grown_set w7 fb 0 (.slice A7 (k + 1) c7)
 have hfq : ∀ q, (Value.slice FA k fc).ownBlock = some q → yb.heap.size ≤ q := HQ.out
 have hvy : v.heap.size ≤ wy.heap.size := GY.out.le
 have hyv : yb.heap.size ≤ v.heap.size := HKP.out.1
 have hq7 : ∀ q, (Value.slice A7 (k + 1) c7).ownBlock = some q → yb.heap.size ≤ q := fun q hq => by
  rcases hat7 with e | e
  ·rw [e] at hq; exact hfq q hq
  ·rw [e] at hq; injection hq with hq; omega
 obtain ⟨⟨GA, gc, rb, rl⟩, rlb, rf⟩ := HRF.out.grew GY.out
 have rl2 : LogAt w1.heap.size (fun b => (Pr b ∧ some b ≠ (Value.slice FA k fc).ownBlock) ∧ (Pr b ∧ some b ≠ (Value.slice A7 (k + 1) c7).ownBlock)) wy (.slice GA s.1.log.length gc) s.1.log := rl.imp fun b hb hp => ⟨hp, hp.1, by
  rcases hat7 with e | e
  ·rw [e]; exact hp.2
  ·rw [e]; intro e2; injection e2; omega⟩
 have rl3 := rl2.kept hg7 (fun _ _ _ h => own_apart h OWy.out (by decide)) (fun _ _ _ h => own_apart h OWy.out (by decide)) (fun v' n xs h hp => by
  cases hv : v'.ownBlock with
  | none => exact .inl rfl
  | some b => exact .inr (hp b hv).1.2)
 have rl4 := (rl3.imp (Pr' := fun b => Pr b ∧ some b ≠ (Value.slice A7 (k + 1) c7).ownBlock) fun b _ hp => hp.2).blk HB7.out (by decide) (by decide) (by decide) 0 (.slice A7 (k + 1) c7)
 have hlq : ∀ b, b < yb.heap.size → some b ≠ (Value.slice FA k fc).ownBlock := fun b hb e => by have := hfq b e.symm; omega
 have hfb : ∀ b, b < yb.heap.size → some b ≠ some fb := fun b hb e => by injection e; omega
 refine ⟨rfl, (HGy.out.grown hg7 (fun q hq => by have := hfq q hq; omega)).grown k0 (fun q hq => by injection hq with hq; omega), ⟨⟨A7, c7, HB7.out.set 0 _, own_set (by rw [List.map_append]; exact own7) HB7.out (by decide) _ _, hq7, ⟨⟨GA, gc, (rb.kept hg7 (hlq sb b1)).kept k0 (hfb sb b1), rl4⟩, (rlb.kept hg7 (hlq lb b2)).kept k0 (hfb lb b2), rf⟩⟩, by rw [List.length_append, HL.out]; rfl, ((HKP.out.trans (KeepT.grew GY.out)).fresh hg7 hfq).fresh k0 (fun q hq => by injection hq with hq; omega), ?_⟩, fun n xs h => own_set ((own_grew h GY.out).kept hg7 (.inr (hlq pb b3))) HB7.out (by decide) _ _⟩
 obtain ⟨cs, fz, h5⟩ := HT.out
 have h6 : T3 wy pb := ⟨cs, fz, GY.out.block h5⟩
 exact (h6.kept hg7 (hlq pb b3)).kept k0 (hfb pb b3)
theorem costF_bd {E : Env} (h : EnvBd E) : ∀ (k : Nat) (r : List Int), 0 ≤ costF E k r ∧ costF E k r ≤ (r.length : Int) * 1440000000
 | _, [] => ⟨Int.le_refl _, by simp [costF]⟩
 | k, x :: r => by
  have h1 := costF_bd h (k + 1) r
  have h2 := mul_bd (h.wage x.toNat) (h.dur k)
  unfold costF
  rw [List.length_cons, Int.natCast_add, Int.add_mul]
  obtain ⟨a, ha⟩ : ∃ a, E.wage x.toNat * E.dur k = a := ⟨_, rfl⟩
  obtain ⟨b, hb⟩ : ∃ b, costF E (k + 1) r = b := ⟨_, rfl⟩
  obtain ⟨n, hn⟩ : ∃ n, (r.length : Int) * 1440000000 = n := ⟨_, rfl⟩
  rw [ha] at h2
  rw [hb, hn] at h1
  rw [ha, hb, hn]
  omega
def refTail (E : Env) (b : Int) : Nat → List Int → Int → Rs → Rs × Option Int
 | 0, _, _, s => (s, none)
 | k + 1, pre, c, s => match extR (fun w s => refuteF E b k (pre ++ [(w : Int)]) (c + E.wage w * E.dur pre.length) s) (List.range E.nW) [] s with
  | (s', some fr) => appendS ⟨litsOf 0 pre, 5, fr ++ [(pre.length : Int)]⟩ s'
  | (s', none) => (s', none)
theorem refuteF_eq (E : Env) (b : Int) (k : Nat) (pre : List Int) (c : Int) (s : Rs) : refuteF E b k pre c s =
  if s.fuel - 1 < 0 then (⟨s.fuel - 1, s.log⟩, none)
  else if !pre.isEmpty && decide (b ≤ c + leastR E k) then appendS ⟨litsOf 0 pre, 4, []⟩ ⟨s.fuel - 1, s.log⟩
  else if !clean E pre then appendS ⟨litsOf 0 pre, 3, []⟩ ⟨s.fuel - 1, s.log⟩
  else refTail E b k pre c ⟨s.fuel - 1, s.log⟩ := by cases k <;> rfl
theorem ext_R (f : Nat → Rs → Rs × Option Int) : ∀ (ws : List Nat) (acc : List Int) (s : Rs),
  (∀ s' fr, extR f ws acc s = (s', some fr) → extG (fun i (x : Rs × List Int) => (((f i x.1).1, x.2), (f i x.1).2)) (fun j x => (x.1, x.2 ++ [j])) ws (s, acc) = ((s', fr), true)) ∧
  (∀ s', extR f ws acc s = (s', none) → (extG (fun i (x : Rs × List Int) => (((f i x.1).1, x.2), (f i x.1).2)) (fun j x => (x.1, x.2 ++ [j])) ws (s, acc)).2 = false)
 | [], acc, s => by
  refine ⟨fun s' fr h => ?_, fun s' h => ?_⟩
  ·injection h with h1 h2; injection h2 with h2; subst h1 h2; rfl
  ·injection h with _ h; cases h
 | w :: ws, acc, s => by
  unfold extR extG
  cases hf : f w s with
  | mk t o =>
   cases o with
   | none => exact ⟨fun s' fr h => (by injection h with _ h; cases h), fun s' h => rfl⟩
   | some j => exact ext_R f ws (acc ++ [j]) t
theorem cleanAll_pre {E : Env} {pre : List Int} (hq : ∀ q, q ++ [lastW pre] = pre → CleanAll E q) (hc : clean E pre = true) : CleanAll E pre := by
 rcases List.eq_nil_or_concat pre with h1 | ⟨q, x, h1⟩
 ·rw [h1]; exact cleanAll_nil
 ·have h1 : pre = q ++ [x] := by simpa using h1
  subst h1
  rw [clean_snoc] at hc
  exact cleanAll_snoc.2 ⟨hq q (by unfold lastW; simp), by simpa using hc⟩
theorem lits_snoc {pre : List Int} {j : Nat} {x : Int} (h : pre[j]? = some x) : litsOf 0 (pre.take (j + 1)) = litsOf 0 (pre.take j) ++ [⟨(j : Int), x, false⟩] := by
 have hj := (List.getElem?_eq_some_iff.1 h).1
 rw [List.take_add_one, h, litsOf_append]
 have e : 0 + (pre.take j).length = j := by rw [List.length_take]; omega
 rw [e]; rfl
theorem lits_len : ∀ (k : Nat) (r : List Int), (litsOf k r).length = r.length
 | _, [] => rfl
 | k, x :: r => by unfold litsOf; rw [List.length_cons, lits_len, List.length_cons]
theorem snoc_last {pre : List Int} {x : Int} (q : List Int) (h : q ++ [lastW (pre ++ [x])] = pre ++ [x]) : q = pre := (List.append_inj' h rfl).1
/-- What refute returns. -/
def RetRf (p : Pl) (w1 : World) (cb sb lb pb : Nat) (B : Value) (cost : Int) (Pr : Nat → Prop) (y : World) (pre : List Int) (fin : Rs × Option Int) : Ending → World → Prop :=
 RetVi (fun y' s' => RefAt p w1 cb sb lb (.func (.func 37) #[.pointer (some ⟨sb, 0, none⟩)] #[]) B cost Pr y' s' ∧ KeepT sb pb y y') w1 pb p.dn pre fin
/-- After append: from a world y6 that keeps. -/
theorem ret_ap {p : Pl} {w1 : World} {cb sb lb pb : Nat} {B : Value} {cost : Int} {Pr : Nat → Prop} {y y6 : World} {pre : List Int} {fin : Rs × Option Int} (hne : sb ≠ pb) (hk : KeepT sb pb y y6) (ho : y6.ownsRow w1.heap.size 3 1 (.slice (some ⟨pb, 0, none⟩) pre.length p.dn) pre.length (pre.map iv)) {r : Ending} {y7 : World} {j : Int}
  (hr : r = .returned (.tuple #[.int .i64 j, .int .i64 (if fin.2.isSome then 0 else 201)])) (h : fin.2 = none ∨ (fin.2 = some j ∧ RefAt p w1 cb sb lb (.func (.func 37) #[.pointer (some ⟨sb, 0, none⟩)] #[]) B cost Pr y7 fin.1 ∧ KeepT sb sb y6 y7)) (hg : Grew w1 y7) : RetRf p w1 cb sb lb pb B cost Pr y pre fin r y7 :=
 ⟨hg, j, hr, h.imp id fun h => ⟨h.1, ⟨h.2.1, hk.trans h.2.2.weak⟩, own_keepT ho h.2.2 (by decide) (fun q hq => by injection hq with hq; simp only at hq; subst hq; exact ⟨fun e => hne e.symm, fun e => hne e.symm⟩)⟩⟩
set_option maxRecDepth 100000 in
set_option maxHeartbeats 16000000 in
theorem ref_step {p : Pl} {w1 : World} {cb sb lb pb : Nat} (hck : CkAt w1 cb p) (ok : planB p = true) (hne : sb ≠ pb ∧ lb ≠ pb ∧ lb ≠ sb ∧ w1.heap.size ≤ sb ∧ w1.heap.size ≤ pb) {B : Value} {cost : Int} (hd0 : 0 < p.dn) (hleast : ∀ a, Work (envP p) [] a → cost ≤ costF (envP p) 0 a) {k : Nat}
  (IH : ∀ j, k = j + 1 → ∀ (Pr : Nat → Prop) (pre : List Int), pre.length + j = p.dn → (∀ x ∈ pre, 0 ≤ x ∧ x < p.wn) → (∀ q, q ++ [lastW pre] = pre → CleanAll (envP p) q) → (∀ b, Pr b → b ≠ pb) → ∀ (y : World) (s : Rs), (∀ b, y.heap.size ≤ b → Pr b) → Grew w1 y → RefAt p w1 cb sb lb (.func (.func 37) #[.pointer (some ⟨sb, 0, none⟩)] #[]) B cost Pr y s → y.ownsRow w1.heap.size 3 1 (.slice (some ⟨pb, 0, none⟩) pre.length p.dn) pre.length (pre.map iv) →
   Calls Tryz.prog 37 #[.pointer (some ⟨sb, 0, none⟩), .slice (some ⟨pb, 0, none⟩) pre.length p.dn, .int .i64 (costF (envP p) 0 pre)] y (RetRf p w1 cb sb lb pb B cost Pr y pre (refuteF (envP p) cost j pre (costF (envP p) 0 pre) s)))
  {Pr : Nat → Prop} {pre : List Int} (hk : pre.length + k = p.dn) (hpr : ∀ x ∈ pre, 0 ≤ x ∧ x < p.wn) (hq : ∀ q, q ++ [lastW pre] = pre → CleanAll (envP p) q) (hPr : ∀ b, Pr b → b ≠ pb) {y : World} {s : Rs} (hPn : ∀ b, y.heap.size ≤ b → Pr b) (hg : Grew w1 y) (hI : RefAt p w1 cb sb lb (.func (.func 37) #[.pointer (some ⟨sb, 0, none⟩)] #[]) B cost Pr y s) (ho : y.ownsRow w1.heap.size 3 1 (.slice (some ⟨pb, 0, none⟩) pre.length p.dn) pre.length (pre.map iv)) :
  Calls Tryz.prog 37 #[.pointer (some ⟨sb, 0, none⟩), .slice (some ⟨pb, 0, none⟩) pre.length p.dn, .int .i64 (costF (envP p) 0 pre)] y (RetRf p w1 cb sb lb pb B cost Pr y pre (refuteF (envP p) cost k pre (costF (envP p) 0 pre) s)) := by
 obtain ⟨i1, hi1, hy0, hy1, hy2⟩ := info_parts info122
 obtain ⟨i3, hi3, hz3, hs3, hb3⟩ := info_parts info3
 obtain ⟨⟨GA, gc, hb, hlog⟩, hl, hfu⟩ := hI
 obtain ⟨fuel, log⟩ := s
 simp only at hb hlog hl hfu
 obtain ⟨gn, hgn⟩ : ∃ n, log.length = n := ⟨_, rfl⟩
 have HGN := Lib.hid hgn
 rw [hgn] at hb hlog
 have HCK := Lib.hid hck
 have HBD := Lib.hid (env_bd hck.1 ok)
 have dn24 : p.dn ≤ 24 := HBD.out.nD
 have hwn : p.wn ≤ 12 := by
  have := ok
  unfold planB at this
  simp only [Bool.and_eq_true, decide_eq_true_eq] at this
  exact this.2.2.1
 have hcb := costF_bd HBD.out 0 pre
 have hlk := least_bd HBD.out k
 have HIH := Lib.hid IH
 have HB := Lib.hid hb
 have HL := Lib.hid hl
 have HLG := Lib.hid hlog
 have HO := Lib.hid ho
 have HG := Lib.hid hg
 have HPRE := Lib.hid hpr
 have HQ := Lib.hid hq
 have HPR := Lib.hid hPr
 have HPN := Lib.hid hPn
 have HNE := Lib.hid hne
 have HLS := Lib.hid hleast
 obtain ⟨m, hmm⟩ : ∃ m, pre.length = m := ⟨_, rfl⟩
 have HMM := Lib.hid hmm
 rw [hmm] at HO hk hcb ⊢
 obtain ⟨z, hz⟩ : ∃ z, leastR (envP p) k = z := ⟨_, rfl⟩
 rw [hz] at hlk
 have HZ := Lib.hid hz
 obtain ⟨c, hc⟩ : ∃ c, costF (envP p) 0 pre = c := ⟨_, rfl⟩
 have HC := Lib.hid hc
 rw [hc] at hcb ⊢
 obtain ⟨FIN, hfin⟩ : ∃ q, refuteF (envP p) cost k pre c ⟨fuel, log⟩ = q := ⟨_, rfl⟩
 have HFIN : Hid (FIN = if fuel - 1 < 0 then (⟨fuel - 1, log⟩, none) else if !pre.isEmpty && decide (cost ≤ c + z) then appendS ⟨litsOf 0 pre, 4, []⟩ ⟨fuel - 1, log⟩ else if !clean (envP p) pre then appendS ⟨litsOf 0 pre, 3, []⟩ ⟨fuel - 1, log⟩ else refTail (envP p) cost k pre c ⟨fuel - 1, log⟩) := by unfold Hid; rw [← hfin, refuteF_eq, hz]
 rw [hfin]
 clear hck hb hl hlog ho hg hpr hq hPr hPn hne hleast IH hmm hz hc hgn hfin
 obtain ⟨t, ht⟩ : ∃ t, decide (1 ≤ fuel) = t := ⟨_, rfl⟩
 have HT := Lib.hid ht
 clear ht
 go_enter Tryz.func37, Tryz.ntmps37
 go_wp2_with fail
 refine (burn76 HB.out ⟨by omega, by omega⟩ HT.out).mono ?_
 rintro r w2 ⟨rfl, hw2⟩
 have hset := grown_set y sb 12 (.int .i64 (fuel - 1))
 rw [← hw2] at hset
 have HB2 : Hid (Blk w2 sb 94 (srC p cb (.slice (some ⟨lb, 0, none⟩) (p.dn + 1) (p.dn + 1)) (fuel - 1) (.func (.func 37) #[.pointer (some ⟨sb, 0, none⟩)] #[]) true B cost (.slice GA gn gc))) := by unfold Hid; rw [hw2]; exact HB.out.set 12 _
 have HL2 : Hid (Blk w2 lb 3 (lstF (envP p) p.dn 0)) := HL.out.kept hset (fun e => HNE.out.2.2.1 (by injection e))
 have HO2 : Hid (w2.ownsRow w1.heap.size 3 1 (.slice (some ⟨pb, 0, none⟩) m p.dn) m (pre.map iv)) := HO.out.kept hset (own_blk' HO.out HB.out (by decide))
 have HG2 : Hid (Grew w1 w2) := HG.out.grown hset (fun q hq => by injection hq with hq; have := HNE.out.2.2.2.1; omega)
 have HLG2 : Hid (LogAt w1.heap.size Pr w2 (.slice GA gn gc) log) := by unfold Hid; rw [hw2]; exact HLG.out.blk HB.out (by decide) (by decide) (by decide) 12 _
 have HK2 : Hid (KeepT sb pb y w2) := KeepT.grown hset (fun q hq => .inl (by injection hq with hq; exact hq.symm))
 clear hset hw2 HB HL HO HG HLG
 cases t with
 | false =>
  have HM : Hid (FIN = (⟨fuel - 1, log⟩, none)) := by
   have := of_decide_eq_false HT.out
   unfold Hid; rw [HFIN.out, if_pos (by omega)]
  go_wp2
  go_ret2
  exact ⟨HG2.out, 0, by rw [HM.out]; rfl, .inl (by rw [HM.out])⟩
 | true =>
  have hf1 : 1 ≤ fuel := of_decide_eq_true HT.out
  have HM : Hid (FIN = if !pre.isEmpty && decide (cost ≤ c + z) then appendS ⟨litsOf 0 pre, 4, []⟩ ⟨fuel - 1, log⟩ else if !clean (envP p) pre then appendS ⟨litsOf 0 pre, 3, []⟩ ⟨fuel - 1, log⟩ else refTail (envP p) cost k pre c ⟨fuel - 1, log⟩) := by
   unfold Hid; rw [HFIN.out, if_neg (by omega)]
  clear HFIN
  have HIN : Hid (Ints w2 (some ⟨pb, 0, none⟩) m p.dn pre) := Ints.own HMM.out HO2.out
  go_wp2_with fail
  go_loopw [8, 18] (fun v i z => ∃ (j c : Nat) (A : Option Addr), j ≤ m ∧ v = .slice A j c ∧ i = .int .i64 j ∧ Hid (z.ownsRow w2.heap.size 122 3 (.slice A j c) j ((litsOf 0 (pre.take j)).flatMap encL)) ∧ Hid (Grew w2 z)) (fun _ i _ => m - (intOf i).toNat)
  case atStart => exact ⟨0, 0, none, Nat.zero_le _, rfl, rfl, World.ownsRow_nil _ _ _ _, Grew.refl _⟩
  case round =>
   obtain ⟨j, cc, CA, hj, rfl, rfl, HCL, HR⟩ := hrel
   by_cases hjt : j < m
   ·have e2 : (j : Int) < (m : Int) := by omega
    have e3 : (0 : Int) ≤ (j : Int) := by omega
    obtain ⟨x, hx⟩ : ∃ x, pre[j]? = some x := ⟨_, List.getElem?_eq_getElem (by rw [HMM.out]; exact hjt)⟩
    obtain ⟨b', o', hA', hcc⟩ := (HIN.out.grew HR.out).at_ (show 0 < m by omega)
    have c0 := hcc j x hx
    injection hA' with hA'
    injection hA' with hA1 hA2
    subst hA1 hA2
    rw [Nat.zero_add] at c0
    have HLS2 := Lib.hid (lits_snoc hx)
    obtain ⟨wy, hwy⟩ : ∃ y, y = wr.alloc (.cells #[.int .i64 (j : Int), .int .i64 x, .bool false] 122) := ⟨_, rfl⟩
    have gy : Grew wr wy := by rw [hwy]; exact (Grew.refl wr).alloc _
    have BI : Hid (Sl wy 3 (some ⟨wr.heap.size, 0, none⟩) 1 1 (encL ⟨(j : Int), x, false⟩)) := by unfold Hid; rw [hwy]; exact builtS (w := wr) (t := 122) 3 1 #[.int .i64 (j : Int), .int .i64 x, .bool false] _ rfl rfl (by decide)
    have OWy := Lib.hid (own_grew HCL.out gy)
    have HRy := Lib.hid (HR.out.trans gy)
    clear gy HCL HR hcc hx
    go_upto_region 8 with (at_builtin; rw [← hwy]; refine wpList_append_sl _ rfl (.tmp 23) (.tmp 27) 69 rfl w2.heap.size 122 i1 (.agg #[.int .i64 0, .int .i64 0, .bool false]) 3 24 Tryz.underlying69 hi1 hy0 hy1 hy2 rfl (by decide) (.slice CA j cc) j _ rfl OWy.out (some ⟨wr.heap.size, 0, none⟩) 1 1 _ rfl BI.out (fun u hu => encL_ok.one _ u hu) (by unfold maxLen; omega) (by omega) HRy.out.le ?_; intro v7 w7 own7 hg7 hat7; obtain ⟨A7, c7, rfl⟩ := own_form own7)
    have HO7 : Hid (w7.ownsRow w2.heap.size 122 3 (.slice A7 (j + 1) c7) (j + 1) ((litsOf 0 (pre.take (j + 1))).flatMap encL)) := by
     unfold Hid; rw [HLS2.out, List.flatMap_append, List.flatMap_singleton]; exact own7
    have HR7 := Lib.hid (HRy.out.grown hg7 (fun q hq => (OWy.out.lt q hq).1))
    clear hwy own7 hg7 hat7 OWy HRy BI c0 HLS2
    go_wp2_with fail
    go_roundw
    case rel => exact ⟨j + 1, c7, A7, by omega, rfl, by go_num, HO7, HR7⟩
    case measure => simp [intOf]; omega
   ·obtain rfl : m = j := by omega
    have HCW : Hid (wr.ownsRow w1.heap.size 122 3 (.slice CA m cc) m ((litsOf 0 pre).flatMap encL)) := by
     have h1 := HCL.out
     rw [← HMM.out, List.take_length] at h1
     rw [HMM.out] at h1
     exact own_base h1 HG2.out.le
    have HRF : Hid (RefAt p w1 cb sb lb (.func (.func 37) #[.pointer (some ⟨sb, 0, none⟩)] #[]) B cost Pr wr ⟨fuel - 1, log⟩) := by
     refine ⟨⟨GA, gc, ?_, ?_⟩, HL2.out.grew HR.out, by show -1 ≤ fuel - 1; omega, by show fuel - 1 ≤ 1000000; omega⟩
     ·show Blk wr sb 94 (srC p cb (.slice (some ⟨lb, 0, none⟩) (p.dn + 1) (p.dn + 1)) (fuel - 1) (.func (.func 37) #[.pointer (some ⟨sb, 0, none⟩)] #[]) true B cost (.slice GA log.length gc))
      rw [HGN.out]; exact HB2.out.grew HR.out
     ·show LogAt _ _ _ (.slice GA log.length gc) _
      rw [HGN.out]; exact HLG2.out.grew HR.out
    have HBR := Lib.hid (HB2.out.grew HR.out)
    have HLR := Lib.hid (HL2.out.grew HR.out)
    have HOR := Lib.hid (own_grew HO2.out HR.out)
    have HGR := Lib.hid (HG2.out.trans HR.out)
    have HKR := Lib.hid (HK2.out.trans (KeepT.grew (sb := sb) (pb := pb) HR.out))
    have HCN : Hid ((litsOf 0 pre).length = m) := by unfold Hid; rw [lits_len]; exact HMM.out
    clear hjt hj HCL HR HB2 HL2 HO2 HG2 HLG2 HK2 HIN
    obtain ⟨w3, hw3⟩ : ∃ q, q = wr := ⟨_, rfl⟩
    rw [← hw3] at HCW HRF HBR HLR HOR HGR HKR ⊢
    clear hw3
    have e1 : IntKind.i64.wrap (c + z) = c + z := IntWalk.i64_in _ (by omega)
    have i1 : (0 : Int) ≤ (m : Int) := by omega
    have i2 : (m : Int) < (p.dn : Int) + 1 := by omega
    have hA : ∀ w', Grew w3.drew w' → w'.cell? ⟨sb, 11, none⟩ = some (.slice (some ⟨lb, 0, none⟩) (p.dn + 1) (p.dn + 1)) ∧ w'.cell? ⟨lb, m, none⟩ = some (.int .i64 z) ∧ w'.cell? ⟨sb, 16, none⟩ = some (.int .i64 cost) := fun w' g' => by
     have gg := (Grew.refl w3).drew.trans g'
     have hbg := HBR.out.grew gg
     refine ⟨hbg.cell rfl, ?_, hbg.cell rfl⟩
     have h1 := (HLR.out.grew gg).cell (lstF_at (E := envP p) (n := p.dn) (d := 0) (i := m) (by omega))
     rw [if_pos (Nat.zero_le _), show p.dn - m = k by omega, HZ.out] at h1
     exact h1
    have HA := Lib.hid hA
    clear hA
    by_cases hm0 : m = 0
    ·have HE : Hid ((!pre.isEmpty && decide (cost ≤ c + z)) = false) := by
      have h1 : pre = [] := List.eq_nil_of_length_eq_zero (by rw [HMM.out]; exact hm0)
      unfold Hid; rw [h1]; rfl
     have q8 : ¬ (0 < m) := by omega
     have q9 : ¬ ((0 : Int) < (m : Int)) := by omega
     have HM0 := Lib.hid hm0
     clear hm0
     go_upto_region 9 with (fail)
     refine wp_region_seq (by kernel_rfl) Grew.refl (fun _ _ _ => Grew.trans) (fun _ _ _ _ _ h => h) (by kernel_rfl) ?_
     repeat (first
      | (refine TakeAll.pure (v := ?_) (by rfl) ?_ ?_; rotate_left; (intro w' g'; obtain ⟨q0, q1, q2⟩ := HA.out w' g'; go_simp; first | done | with_reducible rfl); (simp only [Act.put, uzT, uz0, uz1]))
      | (refine TakeAll.skip (by rfl) ?_; (simp only [Act.put, uzT, uz0, uz1])))
     refine TakeAll.nil ?_
     intro w5 g5
     have G5 := Lib.hid ((Grew.refl w3).drew.trans g5)
     clear HA g5
     have HM2 : Hid (FIN = if !clean (envP p) pre then appendS ⟨litsOf 0 pre, 3, []⟩ ⟨fuel - 1, log⟩ else refTail (envP p) cost k pre c ⟨fuel - 1, log⟩) := by unfold Hid; rw [HM.out, if_neg (by rw [HE.out]; simp)]
     clear HM HE
     obtain ⟨t2, ht2⟩ : ∃ t, clean (envP p) pre = t := ⟨_, rfl⟩
     have HT2 := Lib.hid ht2
     clear ht2
     go_wp2_with fail
     refine (clean77 (HBR.out.grew G5.out) (HCK.out.grew (HGR.out.trans G5.out)) ok ((Ints.own HMM.out HOR.out).grew G5.out) (by omega) HPRE.out HT2.out).mono ?_
     rintro r w6 ⟨rfl, g6⟩
     have G6 := Lib.hid (G5.out.trans g6)
     clear g6 G5
     cases t2 with
     | false =>
      have HM3 : Hid (FIN = appendS ⟨litsOf 0 pre, 3, []⟩ ⟨fuel - 1, log⟩) := by unfold Hid; rw [HM2.out, HT2.out]; rfl
      clear HM2
      go_wp2_with fail
      refine (app81 (pb := sb) (HRF.out.grew G6.out) ⟨HNE.out.2.2.1, HNE.out.2.2.2.1⟩ (HGR.out.trans G6.out) (ru := 3) (own_grew HCW.out G6.out) HCN.out (fr := []) (World.ownsRow_nil _ _ _ _) rfl (fun b hb => by cases hb)).mono ?_
      rintro r y7 hR
      rw [← HM3.out] at hR
      obtain ⟨j, hr, hj, hg7⟩ := hR
      obtain ⟨er, her⟩ : ∃ e : Int, (if FIN.2.isSome then (0 : Int) else 201) = e := ⟨_, rfl⟩
      rw [her] at hr
      subst hr
      have HER := Lib.hid her
      have HJ := Lib.hid hj
      have HG7 := Lib.hid hg7
      clear hj hg7 her
      go_wp2
      go_ret2
      exact ret_ap HNE.out.1 (HKR.out.trans (KeepT.grew G6.out)) (by rw [HMM.out]; exact own_grew HOR.out G6.out) (by rw [HER.out]; rfl) HJ.out HG7.out
     | true =>
      have HM3 : Hid (FIN = refTail (envP p) cost k pre c ⟨fuel - 1, log⟩) := by unfold Hid; rw [HM2.out, HT2.out]; rfl
      have HCA : Hid (CleanAll (envP p) pre) := cleanAll_pre HQ.out HT2.out
      clear HM2
      cases k with
      | zero =>
       exfalso
       have hw : Work (envP p) [] pre := ⟨⟨by rw [HMM.out]; show m = p.dn; omega, HPRE.out⟩, HCA.out, List.nil_prefix⟩
       have h1 := HLS.out pre hw
       rw [HC.out] at h1
       have hz0 : z = 0 := by rw [← HZ.out]; rfl
       have := HM0.out; omega
      | succ k =>
       have HRE := Lib.hid (HRF.out.grew G6.out)
       have HCE := Lib.hid (own_grew HCW.out G6.out)
       have HOE := Lib.hid (own_grew HOR.out G6.out)
       have HGE := Lib.hid (HGR.out.trans G6.out)
       have HKE := Lib.hid (HKR.out.trans (KeepT.grew G6.out))
       clear HRF HCW HOR HGR HKR G6 HBR HLR
       obtain ⟨yb, hyb⟩ : ∃ q, q = w6 := ⟨_, rfl⟩
       rw [← hyb] at HRE HCE HOE HGE HKE ⊢
       clear hyb
       obtain ⟨yc, hyc⟩ : ∃ q, q = yb.alloc (.cells #[.slice none 0 0] 38) := ⟨_, rfl⟩
       obtain ⟨fb, hfb⟩ : ∃ q, q = yb.heap.size := ⟨_, rfl⟩
       have gyc : Grew yb yc := by rw [hyc]; exact (Grew.refl yb).alloc _
       have HFB : Hid (Blk yc fb 38 [.slice none 0 0]) := by unfold Hid; rw [hyc, hfb]; exact Blk.new yb 38 [.slice none 0 0]
       have HFE := Lib.hid hfb
       have HOC := Lib.hid (own_grew HOE.out gyc)
       have hsz : sb < yb.heap.size ∧ lb < yb.heap.size ∧ pb < yb.heap.size ∧ yb.heap.size ≤ fb ∧ w1.heap.size ≤ yb.heap.size := by
        obtain ⟨⟨_, _, hb, _⟩, hl, _⟩ := HRE.out
        refine ⟨hb.lt, hl.lt, ?_, by omega, HGE.out.le⟩
        obtain ⟨cs, fz, h5⟩ := own_t3 HOE.out
        exact (Array.getElem?_eq_some_iff.1 h5).1
       have HSZ := Lib.hid hsz
       have HSP0 : Hid (RfSp p w1 cb sb lb pb (.func (.func 37) #[.pointer (some ⟨sb, 0, none⟩)] #[]) B cost Pr yb fb 0 yc (⟨fuel - 1, log⟩, [])) :=
        ⟨⟨none, 0, HFB.out, World.ownsRow_nil _ _ _ _, fun q hq => by (first | (cases hq) | (simp [Value.ownBlock] at hq)), by
         obtain ⟨⟨GA', gc', h1, h2⟩, h3, h4⟩ := HRE.out.grew gyc
         exact ⟨⟨GA', gc', h1, h2.imp fun b _ hb => ⟨hb, by simp [Value.ownBlock]⟩⟩, h3, h4⟩⟩, rfl, KeepT.grew gyc, own_t3 HOC.out⟩
       have hx := extend79 HCK.out.1 ok (sb := sb) (pb := pb) (pre := pre) (c := c) (by rw [HMM.out]; omega) ⟨by omega, by omega⟩ (RfSp p w1 cb sb lb pb (.func (.func 37) #[.pointer (some ⟨sb, 0, none⟩)] #[]) B cost Pr yb fb)
        (fun i (x : Rs × List Int) => (((refuteF (envP p) cost k (pre ++ [(i : Int)]) (c + (envP p).wage i * (envP p).dur pre.length) x.1).1, x.2), (refuteF (envP p) cost k (pre ++ [(i : Int)]) (c + (envP p).wage i * (envP p).dur pre.length) x.1).2)) (fun j x => (x.1, x.2 ++ [j])) 37 82 #[.pointer (some ⟨fb, 0, none⟩)] (enters_of Tryz.func37 (by kernel_rfl) rfl) (enters_of Tryz.func82 (by kernel_rfl) rfl)
        (fun i y y' s h g ht => h.kept ⟨HNE.out.1, HNE.out.2.1, HSZ.out.2.2.1, HSZ.out.2.2.2.1⟩ HPR.out g ht)
        (fun i y s h => by obtain ⟨⟨FA, fc, _, _, _, ⟨⟨GA, gc, hb, _⟩, _⟩⟩, _⟩ := h; exact ⟨_, hb, rfl, rfl, rfl⟩)
        (fun y s i hi hg hs ho => by
         obtain ⟨⟨FA, fc, sb1, sb2, sb3, sb4⟩, sl, sk, st⟩ := hs
         have ec : c + (envP p).wage i * (envP p).dur pre.length = costF (envP p) 0 (pre ++ [(i : Int)]) := by rw [costF_append, HC.out]; simp [costF]
         have h1 := HIH.out k rfl (fun b => Pr b ∧ some b ≠ (Value.slice FA i fc).ownBlock) (pre ++ [(i : Int)]) (by rw [List.length_append, HMM.out]; show m + 1 + k = p.dn; omega) (fun x hx => by
          rcases List.mem_append.1 hx with h | h
          ·exact HPRE.out x h
          ·rw [List.mem_singleton] at h; subst h; exact ⟨by omega, by omega⟩) (fun q hq => by rw [snoc_last q hq]; exact HCA.out) (fun b hb => HPR.out b hb.1) y s.1 (fun b hb => ⟨HPN.out b (Nat.le_trans HKE.out.1 (Nat.le_trans sk.1 hb)), fun e => by have := (sb2.lt b e.symm).2; omega⟩) hg sb4 (by rw [List.length_append]; exact ho)
         rw [← ec, show (pre ++ [(i : Int)]).length = pre.length + 1 from List.length_append] at h1
         refine h1.mono fun r y' h2 => ?_
         obtain ⟨g2, j, rfl, h3⟩ := h2
         refine ⟨g2, j, rfl, h3.imp id fun h3 => ?_⟩
         obtain ⟨e3, ⟨r3, k3⟩, o3⟩ := h3
         refine ⟨e3, ⟨⟨FA, fc, k3.blk sb1 (fun e => by have := HSZ.out.1; have := HSZ.out.2.2.2.1; omega) (fun e => by have := HSZ.out.2.2.1; have := HSZ.out.2.2.2.1; omega) (by decide), own_keepT sb2 k3 (by decide) (fun q hq => by have := sb3 q hq; have := HSZ.out.1; have := HSZ.out.2.2.1; omega), sb3, r3⟩, sl, sk.trans k3, own_t3 o3⟩, o3⟩)
        (fun i y s j hi hg hs _ => each82 (by omega) hs HSZ.out hg) (HGE.out.trans gyc) HSP0.out (by rw [HMM.out]; exact HOC.out)
       rw [HMM.out] at hx
       have HX := Lib.hid hx
       have HFR := HFB.out.frozen 0
       obtain ⟨fin, hfin⟩ : ∃ q, extG (fun i (x : Rs × List Int) => (((refuteF (envP p) cost k (pre ++ [(i : Int)]) (c + (envP p).wage i * (envP p).dur m) x.1).1, x.2), (refuteF (envP p) cost k (pre ++ [(i : Int)]) (c + (envP p).wage i * (envP p).dur m) x.1).2)) (fun j x => (x.1, x.2 ++ [j])) (List.range p.wn) ((⟨fuel - 1, log⟩ : Rs), ([] : List Int)) = q := ⟨_, rfl⟩
       rw [hfin] at HX
       have HRX : Hid ((∃ s', FIN = (s', none) ∧ fin.2 = false) ∨ (∃ s' fr, FIN = appendS ⟨litsOf 0 pre, 5, fr ++ [(pre.length : Int)]⟩ s' ∧ fin = ((s', fr), true))) := by
        have h1 := HM3.out
        rw [← HMM.out] at hfin
        have h2 := ext_R (fun w s => refuteF (envP p) cost k (pre ++ [(w : Int)]) (c + (envP p).wage w * (envP p).dur pre.length) s) (List.range p.wn) [] ⟨fuel - 1, log⟩
        have h3 : FIN = match extR (fun w s => refuteF (envP p) cost k (pre ++ [(w : Int)]) (c + (envP p).wage w * (envP p).dur pre.length) s) (List.range p.wn) [] ⟨fuel - 1, log⟩ with
         | (s', some fr) => appendS ⟨litsOf 0 pre, 5, fr ++ [(pre.length : Int)]⟩ s'
         | (s', none) => (s', none) := h1
        cases hE : extR (fun w s => refuteF (envP p) cost k (pre ++ [(w : Int)]) (c + (envP p).wage w * (envP p).dur pre.length) s) (List.range p.wn) [] ⟨fuel - 1, log⟩ with
        | mk s' o =>
         rw [hE] at h3
         cases o with
         | none => exact .inl ⟨s', h3, by rw [← hfin]; exact h2.2 s' hE⟩
         | some fr => exact .inr ⟨s', fr, h3, by rw [← hfin]; exact h2.1 s' fr hE⟩
       clear hx hfin gyc hsz HFB HOC HSP0 HM3
       go_wp2_with fail
       rw [← hyc, ← hfb]
       clear hyc hfb
       refine HX.out.mono ?_
       rintro r y9 ⟨hg9, rfl, hs9⟩
       have HG9 := Lib.hid hg9
       have HS9 := Lib.hid hs9
       clear hg9 hs9 HX
       rcases HRX.out with ⟨s', hF, h2⟩ | ⟨s', fr, hF, h2⟩
       ·have HF := Lib.hid hF
        obtain ⟨x9, b9⟩ := fin
        simp only at h2
        subst h2
        clear hF HRX
        go_wp2
        go_ret2
        exact ⟨HG9.out, 0, by rw [HF.out]; rfl, .inl (by rw [HF.out])⟩
       ·have HF := Lib.hid hF
        subst h2
        clear hF HRX
        obtain ⟨⟨⟨FA, fc, fb9, fo9, fq9, fr9⟩, fl9, fk9, ft9⟩, h8⟩ := HS9.out rfl
        rw [HMM.out] at h8
        have cF : y9.cell? ⟨fb, 0, none⟩ = some (.slice FA p.wn fc) := fb9.cell rfl
        obtain ⟨wy, hwy⟩ : ∃ y, y = y9.alloc (.cells #[.int .i64 (m : Int)] 3) := ⟨_, rfl⟩
        have gy : Grew y9 wy := by rw [hwy]; exact (Grew.refl y9).alloc _
        have BI : Hid (Sl wy 1 (some ⟨y9.heap.size, 0, none⟩) 1 1 ([(m : Int)].map iv)) := by unfold Hid; rw [hwy]; exact builtS (w := y9) (t := 3) 1 1 #[.int .i64 (m : Int)] _ rfl rfl (by decide)
        have OWy := Lib.hid (own_grew fo9 gy)
        have HGy := Lib.hid (HG9.out.trans gy)
        have GY := Lib.hid gy
        have FQ := Lib.hid fq9
        have FR := Lib.hid fr9
        have FL := Lib.hid fl9
        have FK := Lib.hid fk9
        have H8 := Lib.hid h8
        clear fb9 fo9 fq9 fr9 fl9 fk9 ft9 h8 gy HS9 HG9
        go_wp2_with (at_builtin; rw [← hwy]; refine wpList_append_sl _ rfl (.tmp 78) (.tmp 81) 38 rfl w1.heap.size 3 i3 (.int .i64 0) 1 8 Tryz.underlying38 hi3 hz3 hs3 hb3 rfl (by decide) (.slice FA p.wn fc) p.wn _ rfl OWy.out (some ⟨y9.heap.size, 0, none⟩) 1 1 _ rfl BI.out (iv_one _) (by unfold maxLen; omega) (by omega) HGy.out.le ?_; intro v7 w7 own7 hg7 hat7; obtain ⟨A7, c7, rfl⟩ := own_form own7)
        obtain ⟨b1, b2, b3, b4, b5⟩ := HSZ.out
        have hfq : ∀ q, (Value.slice FA p.wn fc).ownBlock = some q → yb.heap.size ≤ q := FQ.out
        have hvy : y9.heap.size ≤ wy.heap.size := GY.out.le
        have hyv : yb.heap.size ≤ y9.heap.size := FK.out.1
        have hyy : y.heap.size ≤ yb.heap.size := HKE.out.1
        have hlq : ∀ b, b < yb.heap.size → some b ≠ (Value.slice FA p.wn fc).ownBlock := fun b hb e => by have := hfq b e.symm; omega
        have hR7 : RefAt p w1 cb sb lb (.func (.func 37) #[.pointer (some ⟨sb, 0, none⟩)] #[]) B cost Pr w7 s' := by
         obtain ⟨⟨GA', gc', rb, rl⟩, rlb, rf⟩ := FR.out.grew GY.out
         have rl3 := rl.kept hg7 (fun _ _ _ h => own_apart h OWy.out (by decide)) (fun _ _ _ h => own_apart h OWy.out (by decide)) (fun v' n xs h hp => by
          cases hv : v'.ownBlock with
          | none => exact .inl rfl
          | some b => exact .inr (hp b hv).2)
         exact ⟨⟨GA', gc', rb.kept hg7 (hlq sb b1), rl3.imp fun b _ hp => hp.1⟩, rlb.kept hg7 (hlq lb b2), rf⟩
        have hC7 : w7.ownsRow w1.heap.size 122 3 (.slice CA m cc) m ((litsOf 0 pre).flatMap encL) := by
         refine (own_grew (own_keepT HCE.out FK.out (by decide) fun q hq => ?_) GY.out).kept hg7 (own_apart (own_grew (own_keepT HCE.out FK.out (by decide) fun q hq => ?_) GY.out) OWy.out (by decide))
         all_goals
          obtain ⟨⟨_, _, hb, _⟩, _⟩ := HRE.out
          have a1 := own_blk HCE.out hb (by decide)
          rw [hq] at a1
          refine ⟨fun e => a1 (by rw [e]), fun e => ?_⟩
          rcases (own_t3 HOE.out).apart HCE.out (by decide) with a2 | a2
          ·rw [hq] at a2; cases a2
          ·rw [hq] at a2; exact a2 (by rw [e])
        have hK7 : KeepT sb pb y w7 := ((HKE.out.trans FK.out).trans (KeepT.grew GY.out)).fresh hg7 (fun q hq => by have := hfq q hq; omega)
        have hO7 : w7.ownsRow w1.heap.size 3 1 (.slice (some ⟨pb, 0, none⟩) m p.dn) m (pre.map iv) := (own_grew H8.out GY.out).kept hg7 (.inr (hlq pb b3))
        have hp7 : ∀ b, (Value.slice A7 (p.wn + 1) c7).ownBlock = some b → Pr b := fun b hb => HPN.out b (by
         rcases hat7 with e | e
         ·rw [e] at hb; have := hfq b hb; omega
         ·rw [e] at hb; injection hb; omega)
        have hg7' : Grew w1 w7 := HGy.out.grown hg7 (fun q hq => by have := hfq q hq; omega)
        have hF7 : w7.ownsRow w1.heap.size 3 1 (.slice A7 (p.wn + 1) c7) (p.wn + 1) ((fr ++ [(pre.length : Int)]).map iv) := by rw [HMM.out, List.map_append]; exact own7
        refine (app81 (pb := sb) hR7 ⟨HNE.out.2.2.1, HNE.out.2.2.2.1⟩ hg7' (ru := 5) hC7 HCN.out hF7 (by rw [List.length_append, FL.out]; rfl) hp7).mono ?_
        have HK7 := Lib.hid hK7
        have HO7 := Lib.hid hO7
        clear hK7 hO7 hp7 hg7' hF7 hR7 hC7 hlq hfq own7 hg7 hat7 cF hwy b1 b2 b3 b4 b5 hvy hyv hyy
        rintro r y7 hR
        rw [← HF.out] at hR
        obtain ⟨j, hr, hj, hg7⟩ := hR
        obtain ⟨er, her⟩ : ∃ e : Int, (if FIN.2.isSome then (0 : Int) else 201) = e := ⟨_, rfl⟩
        rw [her] at hr
        subst hr
        have HER := Lib.hid her
        have HJ := Lib.hid hj
        have HG7 := Lib.hid hg7
        clear hj hg7 her
        go_wp2
        go_ret2
        exact ret_ap HNE.out.1 HK7.out (by rw [HMM.out]; exact HO7.out) (by rw [HER.out]; rfl) HJ.out HG7.out
    ·have HE : Hid ((!pre.isEmpty && decide (cost ≤ c + z)) = decide (cost ≤ c + z)) := by
      have h1 : pre.isEmpty = false := by
       cases pre with
       | nil => have := HMM.out; simp at this; omega
       | cons x l => rfl
      unfold Hid; rw [h1]; rfl
     have q8 : 0 < m := by omega
     have q9 : (0 : Int) < (m : Int) := by omega
     clear hm0
     by_cases hge : cost ≤ c + z
     ·have q7 : decide (cost ≤ c + z) = true := decide_eq_true hge
      have HM4 : Hid (FIN = appendS ⟨litsOf 0 pre, 4, []⟩ ⟨fuel - 1, log⟩) := by unfold Hid; rw [HM.out, if_pos (by rw [HE.out, q7])]
      clear HM HE
      go_upto_region 9 with (fail)
      refine wp_region_seq (by kernel_rfl) Grew.refl (fun _ _ _ => Grew.trans) (fun _ _ _ _ _ h => h) (by kernel_rfl) ?_
      repeat (first
       | (refine TakeAll.pure (v := ?_) (by rfl) ?_ ?_; rotate_left; (intro w' g'; obtain ⟨q0, q1, q2⟩ := HA.out w' g'; go_simp; first | done | with_reducible rfl); (simp only [Act.put, uzT, uz0, uz1]))
       | (refine TakeAll.skip (by rfl) ?_; (simp only [Act.put, uzT, uz0, uz1])))
      refine TakeAll.nil ?_
      intro w5 g5
      have G5 := Lib.hid ((Grew.refl w3).drew.trans g5)
      clear HA g5
      go_wp2_with fail
      refine (app81 (pb := sb) (HRF.out.grew G5.out) ⟨HNE.out.2.2.1, HNE.out.2.2.2.1⟩ (HGR.out.trans G5.out) (ru := 4) (own_grew HCW.out G5.out) HCN.out (fr := []) (World.ownsRow_nil _ _ _ _) rfl (fun b hb => by cases hb)).mono ?_
      rintro r y7 hR
      rw [← HM4.out] at hR
      obtain ⟨j, hr, hj, hg7⟩ := hR
      obtain ⟨er, her⟩ : ∃ e : Int, (if FIN.2.isSome then (0 : Int) else 201) = e := ⟨_, rfl⟩
      rw [her] at hr
      subst hr
      have HER := Lib.hid her
      have HJ := Lib.hid hj
      have HG7 := Lib.hid hg7
      clear hj hg7 her
      go_wp2
      go_ret2
      exact ret_ap HNE.out.1 (HKR.out.trans (KeepT.grew G5.out)) (by rw [HMM.out]; exact own_grew HOR.out G5.out) (by rw [HER.out]; rfl) HJ.out HG7.out
     ·have q7 : decide (cost ≤ c + z) = false := decide_eq_false hge
      have HGE2 := Lib.hid hge
      have HE : Hid ((!pre.isEmpty && decide (cost ≤ c + z)) = false) := by unfold Hid; rw [HE.out, q7]
      clear hge
      go_upto_region 9 with (fail)
      refine wp_region_seq (by kernel_rfl) Grew.refl (fun _ _ _ => Grew.trans) (fun _ _ _ _ _ h => h) (by kernel_rfl) ?_
      repeat (first
       | (refine TakeAll.pure (v := ?_) (by rfl) ?_ ?_; rotate_left; (intro w' g'; obtain ⟨q0, q1, q2⟩ := HA.out w' g'; go_simp; first | done | with_reducible rfl); (simp only [Act.put, uzT, uz0, uz1]))
       | (refine TakeAll.skip (by rfl) ?_; (simp only [Act.put, uzT, uz0, uz1])))
      refine TakeAll.nil ?_
      intro w5 g5
      have G5 := Lib.hid ((Grew.refl w3).drew.trans g5)
      clear HA g5
      have HM2 : Hid (FIN = if !clean (envP p) pre then appendS ⟨litsOf 0 pre, 3, []⟩ ⟨fuel - 1, log⟩ else refTail (envP p) cost k pre c ⟨fuel - 1, log⟩) := by unfold Hid; rw [HM.out, if_neg (by rw [HE.out]; simp)]
      clear HM HE
      obtain ⟨t2, ht2⟩ : ∃ t, clean (envP p) pre = t := ⟨_, rfl⟩
      have HT2 := Lib.hid ht2
      clear ht2
      go_wp2_with fail
      refine (clean77 (HBR.out.grew G5.out) (HCK.out.grew (HGR.out.trans G5.out)) ok ((Ints.own HMM.out HOR.out).grew G5.out) (by omega) HPRE.out HT2.out).mono ?_
      rintro r w6 ⟨rfl, g6⟩
      have G6 := Lib.hid (G5.out.trans g6)
      clear g6 G5
      cases t2 with
      | false =>
       have HM3 : Hid (FIN = appendS ⟨litsOf 0 pre, 3, []⟩ ⟨fuel - 1, log⟩) := by unfold Hid; rw [HM2.out, HT2.out]; rfl
       clear HM2
       go_wp2_with fail
       refine (app81 (pb := sb) (HRF.out.grew G6.out) ⟨HNE.out.2.2.1, HNE.out.2.2.2.1⟩ (HGR.out.trans G6.out) (ru := 3) (own_grew HCW.out G6.out) HCN.out (fr := []) (World.ownsRow_nil _ _ _ _) rfl (fun b hb => by cases hb)).mono ?_
       rintro r y7 hR
       rw [← HM3.out] at hR
       obtain ⟨j, hr, hj, hg7⟩ := hR
       obtain ⟨er, her⟩ : ∃ e : Int, (if FIN.2.isSome then (0 : Int) else 201) = e := ⟨_, rfl⟩
       rw [her] at hr
       subst hr
       have HER := Lib.hid her
       have HJ := Lib.hid hj
       have HG7 := Lib.hid hg7
       clear hj hg7 her
       go_wp2
       go_ret2
       exact ret_ap HNE.out.1 (HKR.out.trans (KeepT.grew G6.out)) (by rw [HMM.out]; exact own_grew HOR.out G6.out) (by rw [HER.out]; rfl) HJ.out HG7.out
      | true =>
       have HM3 : Hid (FIN = refTail (envP p) cost k pre c ⟨fuel - 1, log⟩) := by unfold Hid; rw [HM2.out, HT2.out]; rfl
       have HCA : Hid (CleanAll (envP p) pre) := cleanAll_pre HQ.out HT2.out
       clear HM2
       cases k with
       | zero =>
        exfalso
        have hw : Work (envP p) [] pre := ⟨⟨by rw [HMM.out]; show m = p.dn; omega, HPRE.out⟩, HCA.out, List.nil_prefix⟩
        have h1 := HLS.out pre hw
        rw [HC.out] at h1
        have hz0 : z = 0 := by rw [← HZ.out]; rfl
        have := HGE2.out; omega
       | succ k =>
        have HRE := Lib.hid (HRF.out.grew G6.out)
        have HCE := Lib.hid (own_grew HCW.out G6.out)
        have HOE := Lib.hid (own_grew HOR.out G6.out)
        have HGE := Lib.hid (HGR.out.trans G6.out)
        have HKE := Lib.hid (HKR.out.trans (KeepT.grew G6.out))
        clear HRF HCW HOR HGR HKR G6 HBR HLR
        obtain ⟨yb, hyb⟩ : ∃ q, q = w6 := ⟨_, rfl⟩
        rw [← hyb] at HRE HCE HOE HGE HKE ⊢
        clear hyb
        obtain ⟨yc, hyc⟩ : ∃ q, q = yb.alloc (.cells #[.slice none 0 0] 38) := ⟨_, rfl⟩
        obtain ⟨fb, hfb⟩ : ∃ q, q = yb.heap.size := ⟨_, rfl⟩
        have gyc : Grew yb yc := by rw [hyc]; exact (Grew.refl yb).alloc _
        have HFB : Hid (Blk yc fb 38 [.slice none 0 0]) := by unfold Hid; rw [hyc, hfb]; exact Blk.new yb 38 [.slice none 0 0]
        have HFE := Lib.hid hfb
        have HOC := Lib.hid (own_grew HOE.out gyc)
        have hsz : sb < yb.heap.size ∧ lb < yb.heap.size ∧ pb < yb.heap.size ∧ yb.heap.size ≤ fb ∧ w1.heap.size ≤ yb.heap.size := by
         obtain ⟨⟨_, _, hb, _⟩, hl, _⟩ := HRE.out
         refine ⟨hb.lt, hl.lt, ?_, by omega, HGE.out.le⟩
         obtain ⟨cs, fz, h5⟩ := own_t3 HOE.out
         exact (Array.getElem?_eq_some_iff.1 h5).1
        have HSZ := Lib.hid hsz
        have HSP0 : Hid (RfSp p w1 cb sb lb pb (.func (.func 37) #[.pointer (some ⟨sb, 0, none⟩)] #[]) B cost Pr yb fb 0 yc (⟨fuel - 1, log⟩, [])) :=
         ⟨⟨none, 0, HFB.out, World.ownsRow_nil _ _ _ _, fun q hq => by (first | (cases hq) | (simp [Value.ownBlock] at hq)), by
          obtain ⟨⟨GA', gc', h1, h2⟩, h3, h4⟩ := HRE.out.grew gyc
          exact ⟨⟨GA', gc', h1, h2.imp fun b _ hb => ⟨hb, by simp [Value.ownBlock]⟩⟩, h3, h4⟩⟩, rfl, KeepT.grew gyc, own_t3 HOC.out⟩
        have hx := extend79 HCK.out.1 ok (sb := sb) (pb := pb) (pre := pre) (c := c) (by rw [HMM.out]; omega) ⟨by omega, by omega⟩ (RfSp p w1 cb sb lb pb (.func (.func 37) #[.pointer (some ⟨sb, 0, none⟩)] #[]) B cost Pr yb fb)
         (fun i (x : Rs × List Int) => (((refuteF (envP p) cost k (pre ++ [(i : Int)]) (c + (envP p).wage i * (envP p).dur pre.length) x.1).1, x.2), (refuteF (envP p) cost k (pre ++ [(i : Int)]) (c + (envP p).wage i * (envP p).dur pre.length) x.1).2)) (fun j x => (x.1, x.2 ++ [j])) 37 82 #[.pointer (some ⟨fb, 0, none⟩)] (enters_of Tryz.func37 (by kernel_rfl) rfl) (enters_of Tryz.func82 (by kernel_rfl) rfl)
         (fun i y y' s h g ht => h.kept ⟨HNE.out.1, HNE.out.2.1, HSZ.out.2.2.1, HSZ.out.2.2.2.1⟩ HPR.out g ht)
         (fun i y s h => by obtain ⟨⟨FA, fc, _, _, _, ⟨⟨GA, gc, hb, _⟩, _⟩⟩, _⟩ := h; exact ⟨_, hb, rfl, rfl, rfl⟩)
         (fun y s i hi hg hs ho => by
          obtain ⟨⟨FA, fc, sb1, sb2, sb3, sb4⟩, sl, sk, st⟩ := hs
          have ec : c + (envP p).wage i * (envP p).dur pre.length = costF (envP p) 0 (pre ++ [(i : Int)]) := by rw [costF_append, HC.out]; simp [costF]
          have h1 := HIH.out k rfl (fun b => Pr b ∧ some b ≠ (Value.slice FA i fc).ownBlock) (pre ++ [(i : Int)]) (by rw [List.length_append, HMM.out]; show m + 1 + k = p.dn; omega) (fun x hx => by
           rcases List.mem_append.1 hx with h | h
           ·exact HPRE.out x h
           ·rw [List.mem_singleton] at h; subst h; exact ⟨by omega, by omega⟩) (fun q hq => by rw [snoc_last q hq]; exact HCA.out) (fun b hb => HPR.out b hb.1) y s.1 (fun b hb => ⟨HPN.out b (Nat.le_trans HKE.out.1 (Nat.le_trans sk.1 hb)), fun e => by have := (sb2.lt b e.symm).2; omega⟩) hg sb4 (by rw [List.length_append]; exact ho)
          rw [← ec, show (pre ++ [(i : Int)]).length = pre.length + 1 from List.length_append] at h1
          refine h1.mono fun r y' h2 => ?_
          obtain ⟨g2, j, rfl, h3⟩ := h2
          refine ⟨g2, j, rfl, h3.imp id fun h3 => ?_⟩
          obtain ⟨e3, ⟨r3, k3⟩, o3⟩ := h3
          refine ⟨e3, ⟨⟨FA, fc, k3.blk sb1 (fun e => by have := HSZ.out.1; have := HSZ.out.2.2.2.1; omega) (fun e => by have := HSZ.out.2.2.1; have := HSZ.out.2.2.2.1; omega) (by decide), own_keepT sb2 k3 (by decide) (fun q hq => by have := sb3 q hq; have := HSZ.out.1; have := HSZ.out.2.2.1; omega), sb3, r3⟩, sl, sk.trans k3, own_t3 o3⟩, o3⟩)
         (fun i y s j hi hg hs _ => each82 (by omega) hs HSZ.out hg) (HGE.out.trans gyc) HSP0.out (by rw [HMM.out]; exact HOC.out)
        rw [HMM.out] at hx
        have HX := Lib.hid hx
        have HFR := HFB.out.frozen 0
        obtain ⟨fin, hfin⟩ : ∃ q, extG (fun i (x : Rs × List Int) => (((refuteF (envP p) cost k (pre ++ [(i : Int)]) (c + (envP p).wage i * (envP p).dur m) x.1).1, x.2), (refuteF (envP p) cost k (pre ++ [(i : Int)]) (c + (envP p).wage i * (envP p).dur m) x.1).2)) (fun j x => (x.1, x.2 ++ [j])) (List.range p.wn) ((⟨fuel - 1, log⟩ : Rs), ([] : List Int)) = q := ⟨_, rfl⟩
        rw [hfin] at HX
        have HRX : Hid ((∃ s', FIN = (s', none) ∧ fin.2 = false) ∨ (∃ s' fr, FIN = appendS ⟨litsOf 0 pre, 5, fr ++ [(pre.length : Int)]⟩ s' ∧ fin = ((s', fr), true))) := by
         have h1 := HM3.out
         rw [← HMM.out] at hfin
         have h2 := ext_R (fun w s => refuteF (envP p) cost k (pre ++ [(w : Int)]) (c + (envP p).wage w * (envP p).dur pre.length) s) (List.range p.wn) [] ⟨fuel - 1, log⟩
         have h3 : FIN = match extR (fun w s => refuteF (envP p) cost k (pre ++ [(w : Int)]) (c + (envP p).wage w * (envP p).dur pre.length) s) (List.range p.wn) [] ⟨fuel - 1, log⟩ with
          | (s', some fr) => appendS ⟨litsOf 0 pre, 5, fr ++ [(pre.length : Int)]⟩ s'
          | (s', none) => (s', none) := h1
         cases hE : extR (fun w s => refuteF (envP p) cost k (pre ++ [(w : Int)]) (c + (envP p).wage w * (envP p).dur pre.length) s) (List.range p.wn) [] ⟨fuel - 1, log⟩ with
         | mk s' o =>
          rw [hE] at h3
          cases o with
          | none => exact .inl ⟨s', h3, by rw [← hfin]; exact h2.2 s' hE⟩
          | some fr => exact .inr ⟨s', fr, h3, by rw [← hfin]; exact h2.1 s' fr hE⟩
        clear hx hfin gyc hsz HFB HOC HSP0 HM3
        go_wp2_with fail
        rw [← hyc, ← hfb]
        clear hyc hfb
        refine HX.out.mono ?_
        rintro r y9 ⟨hg9, rfl, hs9⟩
        have HG9 := Lib.hid hg9
        have HS9 := Lib.hid hs9
        clear hg9 hs9 HX
        rcases HRX.out with ⟨s', hF, h2⟩ | ⟨s', fr, hF, h2⟩
        ·have HF := Lib.hid hF
         obtain ⟨x9, b9⟩ := fin
         simp only at h2
         subst h2
         clear hF HRX
         go_wp2
         go_ret2
         exact ⟨HG9.out, 0, by rw [HF.out]; rfl, .inl (by rw [HF.out])⟩
        ·have HF := Lib.hid hF
         subst h2
         clear hF HRX
         obtain ⟨⟨⟨FA, fc, fb9, fo9, fq9, fr9⟩, fl9, fk9, ft9⟩, h8⟩ := HS9.out rfl
         rw [HMM.out] at h8
         have cF : y9.cell? ⟨fb, 0, none⟩ = some (.slice FA p.wn fc) := fb9.cell rfl
         obtain ⟨wy, hwy⟩ : ∃ y, y = y9.alloc (.cells #[.int .i64 (m : Int)] 3) := ⟨_, rfl⟩
         have gy : Grew y9 wy := by rw [hwy]; exact (Grew.refl y9).alloc _
         have BI : Hid (Sl wy 1 (some ⟨y9.heap.size, 0, none⟩) 1 1 ([(m : Int)].map iv)) := by unfold Hid; rw [hwy]; exact builtS (w := y9) (t := 3) 1 1 #[.int .i64 (m : Int)] _ rfl rfl (by decide)
         have OWy := Lib.hid (own_grew fo9 gy)
         have HGy := Lib.hid (HG9.out.trans gy)
         have GY := Lib.hid gy
         have FQ := Lib.hid fq9
         have FR := Lib.hid fr9
         have FL := Lib.hid fl9
         have FK := Lib.hid fk9
         have H8 := Lib.hid h8
         clear fb9 fo9 fq9 fr9 fl9 fk9 ft9 h8 gy HS9 HG9
         go_wp2_with (at_builtin; rw [← hwy]; refine wpList_append_sl _ rfl (.tmp 78) (.tmp 81) 38 rfl w1.heap.size 3 i3 (.int .i64 0) 1 8 Tryz.underlying38 hi3 hz3 hs3 hb3 rfl (by decide) (.slice FA p.wn fc) p.wn _ rfl OWy.out (some ⟨y9.heap.size, 0, none⟩) 1 1 _ rfl BI.out (iv_one _) (by unfold maxLen; omega) (by omega) HGy.out.le ?_; intro v7 w7 own7 hg7 hat7; obtain ⟨A7, c7, rfl⟩ := own_form own7)
         obtain ⟨b1, b2, b3, b4, b5⟩ := HSZ.out
         have hfq : ∀ q, (Value.slice FA p.wn fc).ownBlock = some q → yb.heap.size ≤ q := FQ.out
         have hvy : y9.heap.size ≤ wy.heap.size := GY.out.le
         have hyv : yb.heap.size ≤ y9.heap.size := FK.out.1
         have hyy : y.heap.size ≤ yb.heap.size := HKE.out.1
         have hlq : ∀ b, b < yb.heap.size → some b ≠ (Value.slice FA p.wn fc).ownBlock := fun b hb e => by have := hfq b e.symm; omega
         have hR7 : RefAt p w1 cb sb lb (.func (.func 37) #[.pointer (some ⟨sb, 0, none⟩)] #[]) B cost Pr w7 s' := by
          obtain ⟨⟨GA', gc', rb, rl⟩, rlb, rf⟩ := FR.out.grew GY.out
          have rl3 := rl.kept hg7 (fun _ _ _ h => own_apart h OWy.out (by decide)) (fun _ _ _ h => own_apart h OWy.out (by decide)) (fun v' n xs h hp => by
           cases hv : v'.ownBlock with
           | none => exact .inl rfl
           | some b => exact .inr (hp b hv).2)
          exact ⟨⟨GA', gc', rb.kept hg7 (hlq sb b1), rl3.imp fun b _ hp => hp.1⟩, rlb.kept hg7 (hlq lb b2), rf⟩
         have hC7 : w7.ownsRow w1.heap.size 122 3 (.slice CA m cc) m ((litsOf 0 pre).flatMap encL) := by
          refine (own_grew (own_keepT HCE.out FK.out (by decide) fun q hq => ?_) GY.out).kept hg7 (own_apart (own_grew (own_keepT HCE.out FK.out (by decide) fun q hq => ?_) GY.out) OWy.out (by decide))
          all_goals
           obtain ⟨⟨_, _, hb, _⟩, _⟩ := HRE.out
           have a1 := own_blk HCE.out hb (by decide)
           rw [hq] at a1
           refine ⟨fun e => a1 (by rw [e]), fun e => ?_⟩
           rcases (own_t3 HOE.out).apart HCE.out (by decide) with a2 | a2
           ·rw [hq] at a2; cases a2
           ·rw [hq] at a2; exact a2 (by rw [e])
         have hK7 : KeepT sb pb y w7 := ((HKE.out.trans FK.out).trans (KeepT.grew GY.out)).fresh hg7 (fun q hq => by have := hfq q hq; omega)
         have hO7 : w7.ownsRow w1.heap.size 3 1 (.slice (some ⟨pb, 0, none⟩) m p.dn) m (pre.map iv) := (own_grew H8.out GY.out).kept hg7 (.inr (hlq pb b3))
         have hp7 : ∀ b, (Value.slice A7 (p.wn + 1) c7).ownBlock = some b → Pr b := fun b hb => HPN.out b (by
          rcases hat7 with e | e
          ·rw [e] at hb; have := hfq b hb; omega
          ·rw [e] at hb; injection hb; omega)
         have hg7' : Grew w1 w7 := HGy.out.grown hg7 (fun q hq => by have := hfq q hq; omega)
         have hF7 : w7.ownsRow w1.heap.size 3 1 (.slice A7 (p.wn + 1) c7) (p.wn + 1) ((fr ++ [(pre.length : Int)]).map iv) := by rw [HMM.out, List.map_append]; exact own7
         refine (app81 (pb := sb) hR7 ⟨HNE.out.2.2.1, HNE.out.2.2.2.1⟩ hg7' (ru := 5) hC7 HCN.out hF7 (by rw [List.length_append, FL.out]; rfl) hp7).mono ?_
         have HK7 := Lib.hid hK7
         have HO7 := Lib.hid hO7
         clear hK7 hO7 hp7 hg7' hF7 hR7 hC7 hlq hfq own7 hg7 hat7 cF hwy b1 b2 b3 b4 b5 hvy hyv hyy
         rintro r y7 hR
         rw [← HF.out] at hR
         obtain ⟨j, hr, hj, hg7⟩ := hR
         obtain ⟨er, her⟩ : ∃ e : Int, (if FIN.2.isSome then (0 : Int) else 201) = e := ⟨_, rfl⟩
         rw [her] at hr
         subst hr
         have HER := Lib.hid her
         have HJ := Lib.hid hj
         have HG7 := Lib.hid hg7
         clear hj hg7 her
         go_wp2
         go_ret2
         exact ret_ap HNE.out.1 HK7.out (by rw [HMM.out]; exact HO7.out) (by rw [HER.out]; rfl) HJ.out HG7.out
theorem refute37 {p : Pl} {w1 : World} {cb sb lb pb : Nat} (hck : CkAt w1 cb p) (ok : planB p = true) (hne : sb ≠ pb ∧ lb ≠ pb ∧ lb ≠ sb ∧ w1.heap.size ≤ sb ∧ w1.heap.size ≤ pb) {B : Value} {cost : Int} (hd0 : 0 < p.dn) (hleast : ∀ a, Work (envP p) [] a → cost ≤ costF (envP p) 0 a) :
  ∀ (k : Nat) (Pr : Nat → Prop) (pre : List Int), pre.length + k = p.dn → (∀ x ∈ pre, 0 ≤ x ∧ x < p.wn) → (∀ q, q ++ [lastW pre] = pre → CleanAll (envP p) q) → (∀ b, Pr b → b ≠ pb) → ∀ (y : World) (s : Rs), (∀ b, y.heap.size ≤ b → Pr b) → Grew w1 y → RefAt p w1 cb sb lb (.func (.func 37) #[.pointer (some ⟨sb, 0, none⟩)] #[]) B cost Pr y s → y.ownsRow w1.heap.size 3 1 (.slice (some ⟨pb, 0, none⟩) pre.length p.dn) pre.length (pre.map iv) →
   Calls Tryz.prog 37 #[.pointer (some ⟨sb, 0, none⟩), .slice (some ⟨pb, 0, none⟩) pre.length p.dn, .int .i64 (costF (envP p) 0 pre)] y (RetRf p w1 cb sb lb pb B cost Pr y pre (refuteF (envP p) cost k pre (costF (envP p) 0 pre) s))
 | 0, _, _, hk, hpr, hq, hPr, _, _, hPn, hg, hI, ho => ref_step hck ok hne hd0 hleast (fun j h => by cases h) hk hpr hq hPr hPn hg hI ho
 | k + 1, _, _, hk, hpr, hq, hPr, _, _, hPn, hg, hI, ho => ref_step hck ok hne hd0 hleast (fun j h => by injection h with h; subst h; exact refute37 hck ok hne hd0 hleast k) hk hpr hq hPr hPn hg hI ho
end Go.Proofs.YtnnbibmmofnkdaaGreat
