/-
 A plan moved by some minutes, walked.
-/
import Derived.Test.YtnnbibmmofnkdaaGreatMovP
import Derived.Test.YtnnbibmmofnkdaaGreatTopC
namespace Go.Proofs.YtnnbibmmofnkdaaGreat
open Go.RowKit Go.Proofs WageMem WageReg WageRec WageSpan WageTop

end Go.Proofs.YtnnbibmmofnkdaaGreat
namespace WageReg
open Go
section
variable {P : Program} {ops : Array Oper} {Q : Exit → Act → World → Prop} {md : Region.Mode}
/-- One operation alone, in the world as it is. -/
theorem wpAny_step {i : Nat} {o : Oper} {fuel fuel' : Nat} {listed : Array Bool} {a : Act} {w : World} (hr : Region.ready md ops listed = [i]) (hf : fuel = fuel' + 1) (ho : pickOps ops [i] = [o]) (hw : Region.wanted o (yielded ops a.tmps) = true)
  (h : ∀ K : Act → World → Prop, (∀ a1 w1, wpAny P md ops Q fuel' (listed.setIfInBounds i true) a1 w1 → K a1 w1) → o.wp P a w K Q) : wpAny P md ops Q fuel listed a w := by
 subst hf
 refine wpAny_all hr (by simp) fun j hj => ?_
 obtain rfl : j = i := by simpa using hj
 unfold wpOp
 simp only [pick_one ho, hw, if_true]
 exact .inl (h _ fun a1 w1 h1 => h1)
end
end WageReg
namespace Go.Proofs.YtnnbibmmofnkdaaGreat
open Go.RowKit Go.Proofs WageMem WageReg WageRec WageSpan WageTop

def zero10 : List Value := [.string ⟨#[]⟩, .int .i64 0, .slice none 0 0, .slice none 0 0, .slice none 0 0, .int .i64 0, .int .i64 0, .int .i64 0, .int .i64 0, .int .i64 0]
def movC (p : Pl) (DA : Option Addr) (dn dc : Nat) (WA : Option Addr) (wn wc : Nat) : List Value := [.string p.nm, .int .i64 p.zb, .slice p.C p.cn p.cc, .slice DA dn dc, .slice WA wn wc, .int .i64 p.lm.rest, .int .i64 p.lm.week, .int .i64 p.lm.nf, .int .i64 p.lm.nt, .int .i64 p.lm.mn]
theorem size32 : (Tryz.prog.info? 32).map (·.size) = some 10 := by kernel_rfl
theorem results_mv {fn : Func} {p : Tmp} (h : fn.results = #[.cell p 32]) (tmps : Array Value) (w : World) (b : Nat) (cs : Array Value) (hp : tmps.getD p undef = .pointer (some ⟨b, 0, none⟩)) (hb : w.heap[b]? = some (.cells cs 32 (0, 0))) (hs : cs.size = 10) :
  (results fn tmps).run Tryz.prog w = .ok (.agg cs) w :=
 results_cell_row h tmps w b 32 cs (0, 0) _ hp hb Tryz.underlying32 rfl (by rw [hs]; exact size32)
theorem info47 : (Tryz.prog.info? 47).map (fun i => (i.zero, i.size, i.bytes)) = some (some (.agg #[.int .i64 0, .int .i64 0, .int .i64 0]), 3, 24) := by kernel_rfl
theorem info56w : (Tryz.prog.info? 56).map (fun i => (i.zero, i.size, i.bytes)) = some (some (.agg #[.string ⟨#[]⟩, .int .i64 0, .bool false, .int .i64 0, .slice none 0 0]), 5, 64) := by kernel_rfl
/-- What moved returns. -/
def RetMv (p : Pl) (t : Int) (w : World) (r : Ending) (w' : World) : Prop := ∃ q, r = .returned (planV q) ∧ PlanAt w' q ∧ Moved t p q ∧ q.nm = p.nm ∧ Grew w w'
/-- The three plans in memory. -/
structure MvQ (w : World) (p : Pl) (tb rb qb : Nat) (cs : List Value) (y : World) : Prop where
 q : Blk y qb 32 cs
 t : Blk y tb 32 (planC p)
 r : Blk y rb 32 zero10
 g : Grew w y
section
variable {w y y' : World} {p : Pl} {tb rb qb : Nat} {cs : List Value}
theorem MvQ.grew (h : MvQ w p tb rb qb cs y) (g : Grew y y') : MvQ w p tb rb qb cs y' := ⟨h.q.grew g, h.t.grew g, h.r.grew g, h.g.trans g⟩
theorem MvQ.app (h : MvQ w p tb rb qb cs y) {e : TypeId} {size : Nat} {v : Value} {n : Nat} {xs : List Value} (ho : y.ownsRow w.heap.size e size v n xs) (he : e ≠ 32) (g : y.grownBy y' v.ownBlock) : MvQ w p tb rb qb cs y' :=
 ⟨h.q.kept g (own_blk ho h.q he), h.t.kept g (own_blk ho h.t he), h.r.kept g (own_blk ho h.r he), h.g.grown g fun j hj => (ho.lt j hj).1⟩
theorem MvQ.set (h : MvQ w p tb rb qb cs y) (hn : w.heap.size ≤ tb ∧ tb < rb ∧ rb < qb) (i : Nat) (v : Value) : MvQ w p tb rb qb (cs.set i v) (y.setCell ⟨qb, i, none⟩ v) :=
 ⟨h.q.set i v, h.t.other (by show tb ≠ qb; omega) v, h.r.other (by show rb ≠ qb; omega) v, h.g.grown (grown_set y qb i v) fun j hj => by injection hj with hj; omega⟩
theorem MvQ.other (h : MvQ w p tb rb qb cs y) {b : Nat} (hb : w.heap.size ≤ b) {t : TypeId} {ds : List Value} (hB : Blk y b t ds) (ht : t ≠ 32) (i : Nat) (v : Value) : MvQ w p tb rb qb cs (y.setCell ⟨b, i, none⟩ v) := by
 have ne : ∀ c, ∀ xs : List Value, Blk y c 32 xs → c ≠ b := fun c xs h e => by
  subst e
  have h1 : y.heap[c]? = _ := h
  have h2 : y.heap[c]? = _ := hB
  rw [h2] at h1
  injection h1 with h1
  injection h1 with _ h1
  exact ht h1
 exact ⟨h.q.other (ne _ _ h.q) v, h.t.other (ne _ _ h.t) v, h.r.other (ne _ _ h.r) v, h.g.grown (grown_set y b i v) fun j hj => by injection hj with hj; omega⟩
end
/-- The workers that are moved already. -/
def WosB (b0 : Nat) (t : Int) (xs ys : List Wo) (y : World) : Prop := ys.length = xs.length ∧ ∀ (i : Nat) x z, xs[i]? = some x → ys[i]? = some z → (z.sk = x.sk ∧ z.mi = x.mi ∧ z.wg = x.wg ∧ z.aw = x.aw.map (shS t)) ∧ z.aw.length = z.n ∧ In64 z.aw ∧ y.ownsRow b0 28 2 (.slice z.A z.n z.c) z.n (flat z.aw)
theorem WosB.imp {b0 : Nat} {t : Int} {xs ys : List Wo} {y y' : World} (h : WosB b0 t xs ys y) (hi : ∀ v n zs, y.ownsRow b0 28 2 v n zs → y'.ownsRow b0 28 2 v n zs) : WosB b0 t xs ys y' :=
 ⟨h.1, fun i x z hx hz => by obtain ⟨h1, h2, h3, h4⟩ := h.2 i x z hx hz; exact ⟨h1, h2, h3, hi _ _ _ h4⟩⟩
theorem WosB.snoc {b0 : Nat} {t : Int} {xs ys : List Wo} {y : World} (h : WosB b0 t xs ys y) {x z : Wo} (h1 : z.sk = x.sk ∧ z.mi = x.mi ∧ z.wg = x.wg ∧ z.aw = x.aw.map (shS t)) (h2 : z.aw.length = z.n) (h3 : In64 z.aw) (h4 : y.ownsRow b0 28 2 (.slice z.A z.n z.c) z.n (flat z.aw)) : WosB b0 t (xs ++ [x]) (ys ++ [z]) y := by
 refine ⟨by rw [List.length_append, List.length_append, h.1]; rfl, fun i a b ha hb => ?_⟩
 by_cases hi : i < xs.length
 ·rw [List.getElem?_append_left hi] at ha
  rw [List.getElem?_append_left (by rw [h.1]; exact hi)] at hb
  exact h.2 i a b ha hb
 ·rw [List.getElem?_append_right (by omega)] at ha
  rw [List.getElem?_append_right (by rw [h.1]; omega), h.1] at hb
  have hi0 : i - xs.length = 0 := by
   have := (List.getElem?_eq_some_iff.1 ha).1
   simpa using this
  rw [hi0] at ha hb
  simp at ha hb
  subst ha hb
  exact ⟨h1, h2, h3, h4⟩
theorem take_snoc {α : Type} {l : List α} {k : Nat} {x : α} (h : l[k]? = some x) : l.take (k + 1) = l.take k ++ [x] := by rw [List.take_add_one, h]; rfl
theorem aw_bd {p : Pl} (ok : planB p = true) {x : Wo} (hx : x ∈ p.ws) : x.n ≤ 400 ∧ ∀ s ∈ x.aw, 0 ≤ s.1 ∧ s.1 < s.2 ∧ s.2 ≤ 52596000 := by
 have hn := wo_nrm ok hx
 unfold planB at ok
 simp only [Bool.and_eq_true] at ok
 have w1 : wOk x = true := List.all_eq_true.1 ok.2.2.2.2.1 x hx
 unfold wOk at w1
 simp only [Bool.and_eq_true, decide_eq_true_eq] at w1
 refine ⟨w1.2.2.1, fun s hs => ?_⟩
 have h1 : decide (0 ≤ s.1 ∧ s.2 ≤ 52596000) = true := List.all_eq_true.1 w1.2.2.2.2 s hs
 have h2 := of_decide_eq_true h1
 have h3 := proper_iff.1 ((nrm_iff.1 hn).1 s hs)
 omega
set_option maxRecDepth 100000 in
set_option maxHeartbeats 16000000 in
theorem moved11 {w : World} {p : Pl} {t : Int} (hp : PlanAt w p) (ok : planB p = true) (ht : 0 ≤ t ∧ t ≤ 1438560) : Calls Tryz.prog 11 #[planV p, .int .i64 t] w (RetMv p t w) := by
 have HP := Lib.hid hp
 have HOK := Lib.hid ok
 have dn24 : p.dn ≤ 24 := (dn_le ok).1
 have wn12 : p.wn ≤ 12 := (dn_le ok).2
 have ht1 := ht.1
 have ht2 := ht.2
 have HDL : Hid (p.ds.length = p.dn) := hp.ds.len
 have HWL : Hid (p.ws.length = p.wn) := hp.ws.len
 obtain ⟨i47, hi47, hz47, hs47, hb47⟩ := info_parts info47
 obtain ⟨i56, hi56, hz56, hs56, hb56⟩ := info_parts info56w
 obtain ⟨i28, hi28, hz28, hs28, hb28⟩ := info_parts info28
 clear hp ok ht
 show Calls Tryz.prog 11 #[.agg #[.string p.nm, .int .i64 p.zb, .slice p.C p.cn p.cc, .slice p.D p.dn p.dc, .slice p.W p.wn p.wc, .int .i64 p.lm.rest, .int .i64 p.lm.week, .int .i64 p.lm.nf, .int .i64 p.lm.nt, .int .i64 p.lm.mn], .int .i64 t] w _
 obtain ⟨w0, hw0⟩ : ∃ y, y = w.alloc (.cells #[.string p.nm, .int .i64 p.zb, .slice p.C p.cn p.cc, .slice p.D p.dn p.dc, .slice p.W p.wn p.wc, .int .i64 p.lm.rest, .int .i64 p.lm.week, .int .i64 p.lm.nf, .int .i64 p.lm.nt, .int .i64 p.lm.mn] 32) := ⟨_, rfl⟩
 obtain ⟨tb, htb⟩ : ∃ z, z = w.heap.size := ⟨_, rfl⟩
 obtain ⟨w1, hw1⟩ : ∃ y, y = w0.alloc (.cells #[.string ⟨#[]⟩, .int .i64 0, .slice none 0 0, .slice none 0 0, .slice none 0 0, .int .i64 0, .int .i64 0, .int .i64 0, .int .i64 0, .int .i64 0] 32) := ⟨_, rfl⟩
 obtain ⟨rb, hrb⟩ : ∃ z, z = w.heap.size + 1 := ⟨_, rfl⟩
 obtain ⟨w2, hw2⟩ : ∃ y, y = w1.alloc (.cells #[.string p.nm, .int .i64 p.zb, .slice p.C p.cn p.cc, .slice p.D p.dn p.dc, .slice p.W p.wn p.wc, .int .i64 p.lm.rest, .int .i64 p.lm.week, .int .i64 p.lm.nf, .int .i64 p.lm.nt, .int .i64 p.lm.mn] 32) := ⟨_, rfl⟩
 obtain ⟨qb, hqb⟩ : ∃ z, z = w.heap.size + 1 + 1 := ⟨_, rfl⟩
 have g0 : Grew w w0 := by rw [hw0]; exact (Grew.refl w).alloc _
 have g1 : Grew w0 w1 := by rw [hw1]; exact (Grew.refl w0).alloc _
 have g2 : Grew w1 w2 := by rw [hw2]; exact (Grew.refl w1).alloc _
 have s0 : w0.heap.size = w.heap.size + 1 := by rw [hw0]; simp
 have s1 : w1.heap.size = w.heap.size + 1 + 1 := by rw [hw1, ← s0]; simp
 have X0 : Blk w0 tb 32 (planC p) := by rw [hw0, htb]; exact Blk.new w 32 (planC p)
 have R1 : Blk w1 rb 32 zero10 := by rw [hw1, hrb, ← s0]; exact Blk.new w0 32 zero10
 have Q2 : Blk w2 qb 32 (planC p) := by rw [hw2, hqb, ← s1]; exact Blk.new w1 32 (planC p)
 have NE : Hid (w.heap.size ≤ tb ∧ tb < rb ∧ rb < qb) := by unfold Hid; omega
 have M2 : Hid (MvQ w p tb rb qb (planC p) w2) := ⟨Q2, X0.grew (g1.trans g2), R1.grew g2, g0.trans (g1.trans g2)⟩
 clear g0 g1 g2 s0 s1 X0 R1 Q2
 go_enter Tryz.func11, Tryz.ntmps11
 go_upto_region 2 with (fail)
 rw [← hw0, ← hw1, ← hw2, ← hqb, ← hrb, ← htb]
 clear hw0 hw1 hw2 hqb hrb htb
 have c3 : w2.cell? ⟨qb, 3, none⟩ = some (.slice p.D p.dn p.dc) := M2.out.q.cell rfl
 have f3 := M2.out.q.frozen 3
 have M3 := Lib.hid (M2.out.set NE.out 3 (.slice none 0 0))
 obtain ⟨w3, hw3⟩ : ∃ y, y = w2.setCell ⟨qb, 3, none⟩ (.slice none 0 0) := ⟨_, rfl⟩
 rw [← hw3] at M3
 go_upto_region 3 with (fail)
 rw [← hw3]
 clear hw3 c3 f3 M2
 have c4 : w3.cell? ⟨qb, 4, none⟩ = some (.slice p.W p.wn p.wc) := M3.out.q.cell rfl
 have f4 := M3.out.q.frozen 4
 have M4 : Hid (MvQ w p tb rb qb (movC p none 0 0 none 0 0) (w3.setCell ⟨qb, 4, none⟩ (.slice none 0 0))) := M3.out.set NE.out 4 (.slice none 0 0)
 obtain ⟨w4, hw4⟩ : ∃ y, y = w3.setCell ⟨qb, 4, none⟩ (.slice none 0 0) := ⟨_, rfl⟩
 rw [← hw4] at M4
 go_upto_region 4 with (fail)
 rw [← hw4]
 clear hw4 c4 f4 M3
 go_wp2_with fail
 go_loopw [6] (fun i y => ∃ (k : Nat) (A : Option Addr) (c : Nat), k ≤ p.dn ∧ i = .int .i64 k ∧ Hid (y.ownsRow w.heap.size 47 3 (.slice A k c) k (((p.ds.take k).map (shD t)).flatMap encD)) ∧ Hid (MvQ w p tb rb qb (movC p A k c none 0 0) y)) (fun i _ => p.dn - (intOf i).toNat)
 case atStart => exact ⟨0, none, 0, Nat.zero_le _, rfl, World.ownsRow_nil _ _ _ _, M4.out⟩
 case round =>
  clear M4
  obtain ⟨k, A, c, hk, rfl, OW, HM⟩ := hrel
  have v3 : wr.cell? ⟨tb, 3, none⟩ = some (.slice p.D p.dn p.dc) := HM.out.t.cell rfl
  by_cases hlt : k < p.dn
  ·obtain ⟨b, o, x, hA, hx, ⟨c0, c1, c2⟩, hxb⟩ := (HP.out.grew HM.out.g).ds.at_ hlt
   have hdo := (duty_ok HOK.out (d := k) (by rw [HDL.out]; exact hlt)).1
   rw [du_at hx] at hdo
   have HTK : Hid ((p.ds.take (k + 1)).map (shD t) = (p.ds.take k).map (shD t) ++ [shD t x]) := by unfold Hid; rw [take_snoc hx, List.map_append]; rfl
   obtain ⟨xa, xb, xs⟩ := x
   have hxv : 0 ≤ xa ∧ xa < xb ∧ xb ≤ 52596000 ∧ xb - xa ≤ 1440 ∧ 0 ≤ xs ∧ xs ≤ 65535 := of_decide_eq_true hdo
   simp only at c0 c1 c2
   have HTX : Hid ((p.ds.take (k + 1)).map (shD t) = (p.ds.take k).map (shD t) ++ [⟨xa + t, xb + t, xs⟩]) := HTK
   have m1 : IntKind.i64.wrap (xa + t) = xa + t := IntWalk.i64_in _ (by omega)
   have m2 : IntKind.i64.wrap (xb + t) = xb + t := IntWalk.i64_in _ (by omega)
   have e1 : (0 : Int) ≤ (k : Int) := by omega
   have e2 : (k : Int) < (p.dn : Int) := by omega
   rw [hA] at v3
   clear hA hx hxb hdo hxv HTK
   obtain ⟨wa, hwa⟩ : ∃ y, y = wr.alloc (.cells #[.int .i64 xa, .int .i64 xb, .int .i64 xs] 47) := ⟨_, rfl⟩
   obtain ⟨db, hdb⟩ : ∃ z, z = wr.heap.size := ⟨_, rfl⟩
   have ga : Grew wr wa := by rw [hwa]; exact (Grew.refl wr).alloc _
   have DB0 : Hid (Blk wa db 47 [.int .i64 xa, .int .i64 xb, .int .i64 xs]) := by unfold Hid; rw [hwa, hdb]; exact Blk.new wr 47 [.int .i64 xa, .int .i64 xb, .int .i64 xs]
   have HDB : Hid (w.heap.size ≤ db ∧ db = wr.heap.size) := by unfold Hid; have := HM.out.g.le; omega
   have OWa := Lib.hid (own_grew OW.out ga)
   have HMa := Lib.hid (HM.out.grew ga)
   have LT : Hid (∀ j, (Value.slice A k c).ownBlock = some j → j < db) := fun j hj => by have := (OW.out.lt j hj).2; omega
   go_upto_region 8 with (fail)
   rw [← hwa, ← hdb]
   clear hwa hdb ga v3 c0 c1 c2 OW HM
   have d0 : wa.cell? ⟨db, 0, none⟩ = some (.int .i64 xa) := DB0.out.cell rfl
   have f0 := DB0.out.frozen 0
   have DB1 : Hid (Blk (wa.setCell ⟨db, 0, none⟩ (.int .i64 (xa + t))) db 47 [.int .i64 (xa + t), .int .i64 xb, .int .i64 xs]) := DB0.out.set 0 _
   have HM1 := Lib.hid (HMa.out.other HDB.out.1 DB0.out (by decide) 0 (.int .i64 (xa + t)))
   have OW1 := Lib.hid (OWa.out.kept (grown_set wa db 0 (.int .i64 (xa + t))) (by
    cases hb : (Value.slice A k c).ownBlock with
    | none => exact .inl rfl
    | some j => exact .inr (fun e => by injection e with e; have := LT.out j hb; omega)))
   obtain ⟨wb, hwb⟩ : ∃ y, y = wa.setCell ⟨db, 0, none⟩ (.int .i64 (xa + t)) := ⟨_, rfl⟩
   rw [← hwb] at DB1 HM1 OW1
   go_upto_region 9 with (fail)
   rw [← hwb]
   clear hwb d0 f0 DB0 HMa OWa m1
   have d1 : wb.cell? ⟨db, 1, none⟩ = some (.int .i64 xb) := DB1.out.cell rfl
   have f1 := DB1.out.frozen 1
   have DB2 : Hid (Blk (wb.setCell ⟨db, 1, none⟩ (.int .i64 (xb + t))) db 47 [.int .i64 (xa + t), .int .i64 (xb + t), .int .i64 xs]) := DB1.out.set 1 _
   have HM2 := Lib.hid (HM1.out.other HDB.out.1 DB1.out (by decide) 1 (.int .i64 (xb + t)))
   have OW2 := Lib.hid (OW1.out.kept (grown_set wb db 1 (.int .i64 (xb + t))) (by
    cases hb : (Value.slice A k c).ownBlock with
    | none => exact .inl rfl
    | some j => exact .inr (fun e => by injection e with e; have := LT.out j hb; omega)))
   obtain ⟨wc, hwc⟩ : ∃ y, y = wb.setCell ⟨db, 1, none⟩ (.int .i64 (xb + t)) := ⟨_, rfl⟩
   rw [← hwc] at DB2 HM2 OW2
   go_upto_region 10 with (fail)
   rw [← hwc]
   clear hwc d1 f1 DB1 HM1 OW1 m2
   obtain ⟨wy, hwy⟩ : ∃ y, y = wc.alloc (.cells #[.int .i64 (xa + t), .int .i64 (xb + t), .int .i64 xs] 47) := ⟨_, rfl⟩
   have gy : Grew wc wy := by rw [hwy]; exact (Grew.refl wc).alloc _
   have BI : Hid (Sl wy 3 (some ⟨wc.heap.size, 0, none⟩) 1 1 (encD ⟨xa + t, xb + t, xs⟩)) := by unfold Hid; rw [hwy]; exact builtS (w := wc) (t := 47) 3 1 #[.int .i64 (xa + t), .int .i64 (xb + t), .int .i64 xs] _ rfl rfl (by decide)
   have OWy := Lib.hid (own_grew OW2.out gy)
   have HMy := Lib.hid (HM2.out.grew gy)
   have q3 : wc.cell? ⟨qb, 3, none⟩ = some (.slice A k c) := HM2.out.q.cell rfl
   have d0 : wc.cell? ⟨db, 0, none⟩ = some (.int .i64 (xa + t)) := DB2.out.cell rfl
   have d1 : wc.cell? ⟨db, 1, none⟩ = some (.int .i64 (xb + t)) := DB2.out.cell rfl
   have d2 : wc.cell? ⟨db, 2, none⟩ = some (.int .i64 xs) := DB2.out.cell rfl
   clear gy OW2 HM2 DB2
   go_wp2_with (at_builtin; rw [← hwy]; refine wpList_append_sl _ rfl (.tmp 37) (.tmp 39) 25 rfl w.heap.size 47 i47 (.agg #[.int .i64 0, .int .i64 0, .int .i64 0]) 3 24 Tryz.underlying25 hi47 hz47 hs47 hb47 rfl (by decide) (.slice A k c) k _ rfl OWy.out (some ⟨wc.heap.size, 0, none⟩) 1 1 _ rfl BI.out (fun u hu => encD_ok.one _ u hu) (by unfold maxLen; omega) (by omega) HMy.out.g.le ?_; intro v7 w7 own7 hg7 hat7; obtain ⟨A7, c7, rfl⟩ := own_form own7; have HM7 := Lib.hid (HMy.out.app OWy.out (by decide) hg7); have c7' := HM7.out.q.cell (i := 3) (v := .slice A k c) rfl; have f7 := HM7.out.q.frozen 3)
   obtain ⟨w8, hw8⟩ : ∃ y, y = w7.setCell ⟨qb, 3, none⟩ (.slice A7 (k + 1) c7) := ⟨_, rfl⟩
   rw [← hw8]
   have HM8 : Hid (MvQ w p tb rb qb (movC p A7 (k + 1) c7 none 0 0) w8) := by unfold Hid; rw [hw8]; exact HM7.out.set NE.out 3 _
   have OW8 : Hid (w8.ownsRow w.heap.size 47 3 (.slice A7 (k + 1) c7) (k + 1) (((p.ds.take (k + 1)).map (shD t)).flatMap encD)) := by
    unfold Hid; rw [HTX.out, List.flatMap_append, List.flatMap_singleton, hw8]; exact own_set own7 HM7.out.q (by decide) 3 _
   clear hw8 hwy own7 hg7 hat7 HM7 c7' f7 q3 d0 d1 d2 OWy HMy BI
   go_wp2_with fail
   go_roundw
   case rel => exact ⟨k + 1, A7, c7, by omega, by go_num, OW8.out, HM8.out⟩
   case measure => simp [intOf]; omega
  ·obtain rfl : p.dn = k := by omega
   have ODA : Hid (wr.ownsRow w.heap.size 47 3 (.slice A p.dn c) p.dn ((p.ds.map (shD t)).flatMap encD)) := by
    have h1 := OW.out
    rw [List.take_of_length_le (by rw [HDL.out]; exact Nat.le_refl _)] at h1
    exact h1
   clear OW
   obtain ⟨wf, rfl⟩ : ∃ y, y = wr := ⟨wr, rfl⟩
   go_wp2_with fail
   clear v3
   go_loopw [8] (fun i y => ∃ (k : Nat) (ys : List Wo) (WA : Option Addr) (wc : Nat), k ≤ p.wn ∧ i = .int .i64 k ∧ Hid (y.ownsRow w.heap.size 47 3 (.slice A p.dn c) p.dn ((p.ds.map (shD t)).flatMap encD)) ∧ Hid (y.ownsRow w.heap.size 56 5 (.slice WA k wc) k (ys.flatMap encW)) ∧ Hid (WosB w.heap.size t (p.ws.take k) ys y) ∧ Hid (MvQ w p tb rb qb (movC p A p.dn c WA k wc) y)) (fun i _ => p.wn - (intOf i).toNat)
   case atStart => exact ⟨0, [], none, 0, Nat.zero_le _, rfl, ODA.out, World.ownsRow_nil _ _ _ _, ⟨rfl, fun i x z h => by simp at h⟩, HM.out⟩
   case round =>
    clear ODA HM
    obtain ⟨k, ys, WA, wc, hk, rfl, OD, OW, HE, HM⟩ := hrel
    have v4 : wr.cell? ⟨tb, 4, none⟩ = some (.slice p.W p.wn p.wc) := HM.out.t.cell rfl
    by_cases hlt : k < p.wn
    ·obtain ⟨b, o, x, hA, hx, ⟨c0, c1, c2, c3, c4⟩, hsp, hsk, hwg⟩ := (HP.out.grew HM.out.g).ws.at_ hlt
     have hxm := List.mem_of_getElem? hx
     have HBD := Lib.hid (aw_bd HOK.out hxm)
     have hx400 := HBD.out.1
     have HTK : Hid (p.ws.take (k + 1) = p.ws.take k ++ [x]) := take_snoc hx
     obtain ⟨xnm, xsk, xmi, xwg, xA, xn, xc, xaw⟩ := x
     simp only at c0 c1 c2 c3 c4 hsp hx400
     have HAL : Hid (xaw.length = xn) := hsp.1
     have HSP := Lib.hid hsp
     have e1 : (0 : Int) ≤ (k : Int) := by omega
     have e2 : (k : Int) < (p.wn : Int) := by omega
     rw [hA] at v4
     clear hA hx hxm hsp hsk hwg
     obtain ⟨wa, hwa⟩ : ∃ y, y = wr.alloc (.cells #[.string xnm, .int .i64 xsk, .bool xmi, .int .i64 xwg, .slice xA xn xc] 56) := ⟨_, rfl⟩
     obtain ⟨db, hdb⟩ : ∃ z, z = wr.heap.size := ⟨_, rfl⟩
     have ga : Grew wr wa := by rw [hwa]; exact (Grew.refl wr).alloc _
     have DB0 : Hid (Blk wa db 56 [.string xnm, .int .i64 xsk, .bool xmi, .int .i64 xwg, .slice xA xn xc]) := by unfold Hid; rw [hwa, hdb]; exact Blk.new wr 56 [.string xnm, .int .i64 xsk, .bool xmi, .int .i64 xwg, .slice xA xn xc]
     have HDB : Hid (db = wr.heap.size) := hdb
     go_upto_region 15 with (fail)
     rw [← hwa, ← hdb]
     clear hwa hdb
     have d4 : wa.cell? ⟨db, 4, none⟩ = some (.slice xA xn xc) := DB0.out.cell rfl
     have f4 := DB0.out.frozen 4
     have DB1 : Hid (Blk (wa.setCell ⟨db, 4, none⟩ (.slice none 0 0)) db 56 [.string xnm, .int .i64 xsk, .bool xmi, .int .i64 xwg, .slice none 0 0]) := DB0.out.set 4 _
     have G1 : Hid (Grew wr (wa.setCell ⟨db, 4, none⟩ (.slice none 0 0))) := ga.grown (grown_set wa db 4 (.slice none 0 0)) (fun j hj => by injection hj with hj; have := HDB.out; omega)
     obtain ⟨wb, hwb⟩ : ∃ y, y = wa.setCell ⟨db, 4, none⟩ (.slice none 0 0) := ⟨_, rfl⟩
     rw [← hwb] at DB1 G1
     go_upto_region 16 with (fail)
     rw [← hwb]
     clear hwb d4 f4 DB0 ga
     obtain ⟨wr0, hwr0⟩ : ∃ y, y = wr := ⟨wr, rfl⟩
     have HC0 : Hid (∀ y, Grew wr0 y → y.cell? ⟨tb, 4, none⟩ = some (.slice (some ⟨b, o, none⟩) p.wn p.wc) ∧ y.cell? ⟨b, o + k * 5 + 4, none⟩ = some (.slice xA xn xc)) := fun y g => by rw [hwr0] at g; exact ⟨g.cell v4, g.cell c4⟩
     rw [← hwr0] at OD OW HE HM HDB G1 HSP
     clear v4 c0 c1 c2 c3 c4 hwr0
     go_wp2_with fail
     go_loopw [10] (fun i y => ∃ (j : Nat) (SA : Option Addr) (sc : Nat), j ≤ xn ∧ i = .int .i64 j ∧ Hid (y.ownsRow wr0.heap.size 28 2 (.slice SA j sc) j (flat ((xaw.take j).map (shS t)))) ∧ Hid (Blk y db 56 [.string xnm, .int .i64 xsk, .bool xmi, .int .i64 xwg, .slice SA j sc]) ∧ Hid (Grew wr0 y)) (fun i _ => xn - (intOf i).toNat)
     case atStart => exact ⟨0, none, 0, Nat.zero_le _, rfl, World.ownsRow_nil _ _ _ _, DB1.out, G1.out⟩
     case round =>
      clear DB1 G1
      obtain ⟨j, SA, sc, hj, rfl, OS, DB, G⟩ := hrel
      obtain ⟨v4, c4⟩ := HC0.out _ G.out
      by_cases hjt : j < xn
      ·obtain ⟨b2, o2, s, hA2, hs2, d0, d1, hb1, hb2⟩ := (HSP.out.grew G.out).at_ hjt
       have hsb := HBD.out.2 s (List.mem_of_getElem? hs2)
       have HTS : Hid ((xaw.take (j + 1)).map (shS t) = (xaw.take j).map (shS t) ++ [shS t s]) := by unfold Hid; rw [take_snoc hs2, List.map_append]; rfl
       obtain ⟨sa, sb⟩ := s
       simp only at d0 d1 hsb
       have m1 : IntKind.i64.wrap (sa + t) = sa + t := IntWalk.i64_in _ (by omega)
       have m2 : IntKind.i64.wrap (sb + t) = sb + t := IntWalk.i64_in _ (by omega)
       have e3 : (0 : Int) ≤ (j : Int) := by omega
       have e4 : (j : Int) < (xn : Int) := by omega
       have s4 : wr.cell? ⟨db, 4, none⟩ = some (.slice SA j sc) := DB.out.cell rfl
       rw [hA2] at c4
       have hC : ∀ w', Grew wr.drew w' → w'.cell? ⟨db, 4, none⟩ = some (.slice SA j sc) ∧ w'.cell? ⟨tb, 4, none⟩ = some (.slice (some ⟨b, o, none⟩) p.wn p.wc) ∧ w'.cell? ⟨b, o + k * 5 + 4, none⟩ = some (.slice (some ⟨b2, o2, none⟩) xn xc) ∧ w'.cell? ⟨b2, o2 + j * 2, none⟩ = some (.int .i64 sa) ∧ w'.cell? ⟨b2, o2 + j * 2 + 1, none⟩ = some (.int .i64 sb) := fun w' g' => by
        have gg := (Grew.refl wr).drew.trans g'
        exact ⟨gg.cell s4, gg.cell v4, gg.cell c4, gg.cell d0, gg.cell d1⟩
       have HC := Lib.hid hC
       rw [hA2] at HSP
       clear hA2 hs2 hb1 hb2 hsb hC s4 d0 d1
       go_upto_region 19 with (fail)
       clear v4 c4
       refine wp_region_G (by kernel_rfl) Grew.refl 28 ?_
       refine wpAnyG_takes Grew.refl (fun _ _ _ => Grew.trans) (fun _ _ _ _ _ h => h) (List.range 27) (fuel' := 4) (by kernel_rfl) (by kernel_rfl) (by simp only [show List.range 27 = [0, 1, 2, 3, 4, 5, 6, 7, 8, 9, 10, 11, 12, 13, 14, 15, 16, 17, 18, 19, 20, 21, 22, 23, 24, 25, 26] from rfl, pickOps, List.getElem?_toArray, List.getElem?_cons_zero, List.getElem?_cons_succ]; rfl) ?_
       repeat (first
        | (refine TakeAll.pure (v := ?_) (by rfl) ?_ ?_; rotate_left; (intro w' g'; obtain ⟨q_0, q_1, q_2, q_3, q_4⟩ := HC.out w' g'; go_simp; first | done | with_reducible rfl); (simp only [Act.put, List.setIfInBounds_toArray, List.set_cons_zero, List.set_cons_succ])))
       refine TakeAll.nil ?_
       clear HC m1 m2
       refine wpAnyG_stepW (i := 27) (by kernel_rfl) (fuel' := 3) (by kernel_rfl) (by simp only [pickOps, List.getElem?_toArray, List.getElem?_cons_zero, List.getElem?_cons_succ]; rfl) (by rfl) ?_
       intro w3 g3 K hK
       go_simp
       refine hK _ _ ((Grew.refl w3).alloc _) ?_
       clear hK K
       try simp only [Act.put, List.setIfInBounds_toArray, List.set_cons_zero, List.set_cons_succ]
       obtain ⟨wy, hwy⟩ : ∃ y, y = w3.alloc (.cells #[.int .i64 (sa + t), .int .i64 (sb + t)] 28) := ⟨_, rfl⟩
       obtain ⟨b5, hb5⟩ : ∃ z, z = w3.heap.size := ⟨_, rfl⟩
       have BI : Hid (Sl wy 2 (some ⟨b5, 0, none⟩) 1 1 (flat [(sa + t, sb + t)])) := by unfold Hid; rw [hwy, hb5]; exact builtS (w := w3) (t := 28) 2 1 #[.int .i64 (sa + t), .int .i64 (sb + t)] (flat [(sa + t, sb + t)]) rfl rfl (by decide)
       have gy : Grew wr wy := ((Grew.refl wr).drew.trans g3).trans (by rw [hwy]; exact (Grew.refl w3).alloc _)
       rw [← hwy, ← hb5]
       clear hwy hb5 g3
       refine wpAnyG_end (by kernel_rfl) (fuel' := 2) (by kernel_rfl) (by simp only [pickOps, List.getElem?_toArray, List.getElem?_cons_zero, List.getElem?_cons_succ]; rfl) rfl ?_
       intro w5 g5 K hK
       have gz := gy.trans g5
       refine wp_append_sl _ (.tmp 67) (.tmp 93) 54 rfl wr0.heap.size 28 i28 (.agg #[.int .i64 0, .int .i64 0]) 2 16 Tryz.underlying54 hi28 hz28 hs28 hb28 rfl (by decide) (.slice SA j sc) j _ rfl (own_grew OS.out gz) (some ⟨b5, 0, none⟩) 1 1 _ rfl (BI.out.grew g5) (WageRec.flat_one encS_ok _) (by unfold maxLen; omega) (by omega) (G.out.trans gz).le ?_
       intro v7 w7 own7 hg7 _
       obtain ⟨A7, c7, rfl⟩ := own_form own7
       refine hK _ _ ?_
       clear hK K
       have DB7 := Lib.hid ((DB.out.grew gz).kept hg7 (own_blk (own_grew OS.out gz) (DB.out.grew gz) (by decide)))
       have G7 := Lib.hid ((G.out.trans gz).grown hg7 (fun q hq => ((own_grew OS.out gz).lt q hq).1))
       have OW7 := Lib.hid own7
       clear own7 hg7 gz g5 gy BI OS DB G
       try simp only [Act.put, List.setIfInBounds_toArray, List.set_cons_zero, List.set_cons_succ]
       refine wpAny_step (i := 29) (by kernel_rfl) (fuel' := 1) (by kernel_rfl) (by simp only [pickOps, List.getElem?_toArray, List.getElem?_cons_zero, List.getElem?_cons_succ]; rfl) (by rfl) ?_
       intro K hK
       go_simp
       refine hK _ _ ?_
       clear hK K
       try simp only [Act.put, List.setIfInBounds_toArray, List.set_cons_zero, List.set_cons_succ]
       refine wpAny_step (i := 30) (by kernel_rfl) (fuel' := 0) (by kernel_rfl) (by simp only [pickOps, List.getElem?_toArray, List.getElem?_cons_zero, List.getElem?_cons_succ]; rfl) (by rfl) ?_
       intro K hK
       have c7' : w7.cell? ⟨db, 4, none⟩ = some (.slice SA j sc) := DB7.out.cell rfl
       have f7 := DB7.out.frozen 4
       go_simp
       refine hK _ _ ?_
       clear hK K
       refine wpAny_done (by kernel_rfl) ?_ _
       obtain ⟨w8, hw8⟩ : ∃ y, y = w7.setCell ⟨db, 4, none⟩ (.slice A7 (j + 1) c7) := ⟨_, rfl⟩
       rw [← hw8]
       have DB8 : Hid (Blk w8 db 56 [.string xnm, .int .i64 xsk, .bool xmi, .int .i64 xwg, .slice A7 (j + 1) c7]) := by unfold Hid; rw [hw8]; exact DB7.out.set 4 _
       have OW8 : Hid (w8.ownsRow wr0.heap.size 28 2 (.slice A7 (j + 1) c7) (j + 1) (flat ((xaw.take (j + 1)).map (shS t)))) := by
        unfold Hid; rw [HTS.out, hw8]
        have h1 := own_set OW7.out DB7.out (by decide) 4 (.slice A7 (j + 1) c7)
        unfold flat at h1 ⊢
        rw [List.flatMap_append]
        exact h1
       have G8 : Hid (Grew wr0 w8) := by unfold Hid; rw [hw8]; exact G7.out.grown (grown_set w7 db 4 _) (fun q hq => by injection hq with hq; have := HDB.out; omega)
       clear hw8 c7' f7 DB7 OW7 G7
       go_wp2_with fail
       go_roundw
       case rel => exact ⟨j + 1, A7, c7, by omega, by go_num, OW8.out, DB8.out, G8.out⟩
       case measure => simp [intOf]; omega
      ·obtain rfl : xn = j := by omega
       have OSA : Hid (wr.ownsRow w.heap.size 28 2 (.slice SA xn sc) xn (flat (xaw.map (shS t)))) := by
        have h1 := OS.out
        rw [List.take_of_length_le (by rw [HAL.out]; exact Nat.le_refl _)] at h1
        exact own_base h1 HM.out.g.le
       have OD9 := Lib.hid (own_grew OD.out G.out)
       have OW9 := Lib.hid (own_grew OW.out G.out)
       have HE9 := Lib.hid (HE.out.imp fun v n zs h => own_grew h G.out)
       have HM9 := Lib.hid (HM.out.grew G.out)
       have DB9 := DB
       have LT : Hid (∀ j, (Value.slice WA k wc).ownBlock = some j → j < db) := fun j hj => by have := (OW.out.lt j hj).2; have := HDB.out; omega
       clear OS OD OW HE HM DB G HC0
       obtain ⟨wg, rfl⟩ : ∃ y, y = wr := ⟨wr, rfl⟩
       go_upto_region 20 with (fail)
       clear v4 c4
       obtain ⟨wy, hwy⟩ : ∃ y, y = wg.alloc (.cells #[.string xnm, .int .i64 xsk, .bool xmi, .int .i64 xwg, .slice SA xn sc] 56) := ⟨_, rfl⟩
       have gy : Grew wg wy := by rw [hwy]; exact (Grew.refl wg).alloc _
       have BI : Hid (Sl wy 5 (some ⟨wg.heap.size, 0, none⟩) 1 1 (encW ⟨xnm, xsk, xmi, xwg, SA, xn, sc, xaw.map (shS t)⟩)) := by unfold Hid; rw [hwy]; exact builtS (w := wg) (t := 56) 5 1 #[.string xnm, .int .i64 xsk, .bool xmi, .int .i64 xwg, .slice SA xn sc] _ rfl rfl (by decide)
       have OWy := Lib.hid (own_grew OW9.out gy)
       have HMy := Lib.hid (HM9.out.grew gy)
       have ODy := Lib.hid (own_grew OD9.out gy)
       have OSy := Lib.hid (own_grew OSA.out gy)
       have HEy := Lib.hid (HE9.out.imp fun v n zs h => own_grew h gy)
       have q4 : wg.cell? ⟨qb, 4, none⟩ = some (.slice WA k wc) := HM9.out.q.cell rfl
       have d0 : wg.cell? ⟨db, 0, none⟩ = some (.string xnm) := DB9.out.cell rfl
       have d1 : wg.cell? ⟨db, 1, none⟩ = some (.int .i64 xsk) := DB9.out.cell rfl
       have d2 : wg.cell? ⟨db, 2, none⟩ = some (.bool xmi) := DB9.out.cell rfl
       have d3 : wg.cell? ⟨db, 3, none⟩ = some (.int .i64 xwg) := DB9.out.cell rfl
       have d4 : wg.cell? ⟨db, 4, none⟩ = some (.slice SA xn sc) := DB9.out.cell rfl
       clear gy OW9 HM9 OD9 OSA HE9 DB9
       go_wp2_with (at_builtin; rw [← hwy]; refine wpList_append_sl _ rfl (.tmp 97) (.tmp 99) 26 rfl w.heap.size 56 i56 (.agg #[.string ⟨#[]⟩, .int .i64 0, .bool false, .int .i64 0, .slice none 0 0]) 5 64 Tryz.underlying26 hi56 hz56 hs56 hb56 rfl (by decide) (.slice WA k wc) k _ rfl OWy.out (some ⟨wg.heap.size, 0, none⟩) 1 1 _ rfl BI.out (fun u hu => encW_ok.one _ u hu) (by unfold maxLen; omega) (by omega) HMy.out.g.le ?_; intro v7 w7 own7 hg7 hat7; obtain ⟨A7, c7, rfl⟩ := own_form own7; have HM7 := Lib.hid (HMy.out.app OWy.out (by decide) hg7); have c7' := HM7.out.q.cell (i := 4) (v := .slice WA k wc) rfl; have f7 := HM7.out.q.frozen 4)
       obtain ⟨w8, hw8⟩ : ∃ y, y = w7.setCell ⟨qb, 4, none⟩ (.slice A7 (k + 1) c7) := ⟨_, rfl⟩
       rw [← hw8]
       have HM8 : Hid (MvQ w p tb rb qb (movC p A p.dn c A7 (k + 1) c7) w8) := by unfold Hid; rw [hw8]; exact HM7.out.set NE.out 4 _
       have kp : ∀ (e : TypeId), e ≠ 56 → e ≠ 32 → ∀ (size n : Nat) (v : Value) (xs : List Value), wy.ownsRow w.heap.size e size v n xs → w8.ownsRow w.heap.size e size v n xs := fun e he1 he2 size n v xs h => by rw [hw8]; exact own_set (own_kept h OWy.out he1 hg7) HM7.out.q he2 4 _
       have OW8 : Hid (w8.ownsRow w.heap.size 56 5 (.slice A7 (k + 1) c7) (k + 1) ((ys ++ [(⟨xnm, xsk, xmi, xwg, SA, xn, sc, xaw.map (shS t)⟩ : Wo)]).flatMap encW)) := by
        unfold Hid; rw [List.flatMap_append, List.flatMap_singleton, hw8]; exact own_set own7 HM7.out.q (by decide) 4 _
       have OD8 := Lib.hid (kp 47 (by decide) (by decide) _ _ _ _ ODy.out)
       have HE8 : Hid (WosB w.heap.size t (p.ws.take (k + 1)) (ys ++ [(⟨xnm, xsk, xmi, xwg, SA, xn, sc, xaw.map (shS t)⟩ : Wo)]) w8) := by
        unfold Hid; rw [HTK.out]
        refine (HEy.out.imp fun v n zs h => kp 28 (by decide) (by decide) _ _ _ _ h).snoc ⟨rfl, rfl, rfl, rfl⟩ (by show (xaw.map (shS t)).length = xn; rw [List.length_map]; exact HAL.out) ?_ (kp 28 (by decide) (by decide) _ _ _ _ OSy.out)
        intro s hs
        obtain ⟨s', hs', rfl⟩ := List.mem_map.1 hs
        have := HBD.out.2 s' hs'
        unfold shS
        simp only
        omega
       clear hw8 hwy own7 hg7 hat7 HM7 c7' f7 q4 d0 d1 d2 d3 d4 OWy HMy ODy OSy HEy BI kp
       go_wp2_with fail
       go_roundw
       case rel => exact ⟨k + 1, _, A7, c7, by omega, by go_num, OD8.out, OW8.out, HE8.out, HM8.out⟩
       case measure => simp [intOf]; omega
    ·obtain rfl : p.wn = k := by omega
     have HEA : Hid (WosB w.heap.size t p.ws ys wr) := by
      have h1 := HE.out
      rw [List.take_of_length_le (by rw [HWL.out]; exact Nat.le_refl _)] at h1
      exact h1
     clear HE
     obtain ⟨q, hq⟩ : ∃ q : Pl, q = ⟨p.nm, p.zb, p.C, p.cn, p.cc, p.ch, A, p.dn, c, p.ds.map (shD t), WA, p.wn, wc, ys, p.lm⟩ := ⟨_, rfl⟩
     have HPQ : Hid (∀ y, Grew w y → y.ownsRow w.heap.size 47 3 (.slice A p.dn c) p.dn ((p.ds.map (shD t)).flatMap encD) → y.ownsRow w.heap.size 56 5 (.slice WA p.wn wc) p.wn (ys.flatMap encW) → (∀ v n zs, wr.ownsRow w.heap.size 28 2 v n zs → y.ownsRow w.heap.size 28 2 v n zs) → PlanAt y q) := fun y gy OD OW kp => by
      have hpw := HP.out.grew gy
      rw [hq]
      refine ⟨hpw.ch, ⟨Recs.own (by rw [List.length_map]; exact HDL.out) OD, fun x hx => ?_⟩, ⟨Recs.own (by rw [HEA.out.1]; exact HWL.out) OW, fun z hz => ?_⟩, hpw.zb, hpw.lm⟩
      ·obtain ⟨x', hx', rfl⟩ := List.mem_map.1 hx
       obtain ⟨i, hi, hix⟩ := List.mem_iff_getElem.1 hx'
       have hdo := (duty_ok HOK.out (d := i) hi).1
       rw [du_at (x := x') (by rw [List.getElem?_eq_getElem hi, hix])] at hdo
       have hxv : 0 ≤ x'.a ∧ x'.a < x'.b ∧ x'.b ≤ 52596000 ∧ x'.b - x'.a ≤ 1440 ∧ 0 ≤ x'.s ∧ x'.s ≤ 65535 := of_decide_eq_true hdo
       unfold shD in64
       simp only
       omega
      ·obtain ⟨i, hi, hiz⟩ := List.mem_iff_getElem.1 hz
       have hi2 : i < p.ws.length := by rw [← HEA.out.1]; exact hi
       obtain ⟨⟨e1, _, e3, _⟩, e5, e6, e7⟩ := HEA.out.2 i _ z (List.getElem?_eq_getElem hi2) (by rw [List.getElem?_eq_getElem hi, hiz])
       have hx := (HP.out.ws.2 _ (List.getElem_mem hi2))
       exact ⟨Spans.own e5 e6 (kp _ _ _ e7), by rw [e1]; exact hx.2.1, by rw [e3]; exact hx.2.2⟩
     have HMQ : Hid (Moved t p q) := by
      unfold Hid
      rw [hq]
      exact ⟨rfl, rfl, rfl, rfl, rfl, HEA.out.1, fun i x z hx hz => (HEA.out.2 i x z hx hz).1, rfl⟩
     have HV : Hid (planV q = .agg #[.string p.nm, .int .i64 p.zb, .slice p.C p.cn p.cc, .slice A p.dn c, .slice WA p.wn wc, .int .i64 p.lm.rest, .int .i64 p.lm.week, .int .i64 p.lm.nf, .int .i64 p.lm.nt, .int .i64 p.lm.mn]) := by unfold Hid; rw [hq]; rfl
     have HNM : Hid (q.nm = p.nm) := by unfold Hid; rw [hq]
     clear HEA hq
     obtain ⟨wg, rfl⟩ : ∃ y, y = wr := ⟨wr, rfl⟩
     have HR := Lib.hid HM.out.r
     go_upto_region 21 with (fail)
     clear v4
     have u0 : wg.cell? ⟨qb, 0, none⟩ = some (.string p.nm) := HM.out.q.cell rfl
     have u1 : wg.cell? ⟨qb, 1, none⟩ = some (.int .i64 p.zb) := HM.out.q.cell rfl
     have u2 : wg.cell? ⟨qb, 2, none⟩ = some (.slice p.C p.cn p.cc) := HM.out.q.cell rfl
     have u3 : wg.cell? ⟨qb, 3, none⟩ = some (.slice A p.dn c) := HM.out.q.cell rfl
     have u4 : wg.cell? ⟨qb, 4, none⟩ = some (.slice WA p.wn wc) := HM.out.q.cell rfl
     have u5 : wg.cell? ⟨qb, 5, none⟩ = some (.int .i64 p.lm.rest) := HM.out.q.cell rfl
     have u6 : wg.cell? ⟨qb, 6, none⟩ = some (.int .i64 p.lm.week) := HM.out.q.cell rfl
     have u7 : wg.cell? ⟨qb, 7, none⟩ = some (.int .i64 p.lm.nf) := HM.out.q.cell rfl
     have u8 : wg.cell? ⟨qb, 8, none⟩ = some (.int .i64 p.lm.nt) := HM.out.q.cell rfl
     have u9 : wg.cell? ⟨qb, 9, none⟩ = some (.int .i64 p.lm.mn) := HM.out.q.cell rfl
     have G8 := grown_setRow wg rb #[.string p.nm, .int .i64 p.zb, .slice p.C p.cn p.cc, .slice A p.dn c, .slice WA p.wn wc, .int .i64 p.lm.rest, .int .i64 p.lm.week, .int .i64 p.lm.nf, .int .i64 p.lm.nt, .int .i64 p.lm.mn]
     have GR := grew_setRow HM.out.g (show w.heap.size ≤ rb by have := NE.out; omega) #[.string p.nm, .int .i64 p.zb, .slice p.C p.cn p.cc, .slice A p.dn c, .slice WA p.wn wc, .int .i64 p.lm.rest, .int .i64 p.lm.week, .int .i64 p.lm.nf, .int .i64 p.lm.nt, .int .i64 p.lm.mn]
     have kp : ∀ (e : TypeId), e ≠ 32 → ∀ (size n : Nat) (v : Value) (xs : List Value), wg.ownsRow w.heap.size e size v n xs → (wg.setRow rb #[.string p.nm, .int .i64 p.zb, .slice p.C p.cn p.cc, .slice A p.dn c, .slice WA p.wn wc, .int .i64 p.lm.rest, .int .i64 p.lm.week, .int .i64 p.lm.nf, .int .i64 p.lm.nt, .int .i64 p.lm.mn]).ownsRow w.heap.size e size v n xs := fun e he size n v xs h => h.kept G8 (own_blk' h HR.out he)
     have HPF := Lib.hid (HPQ.out _ GR (kp 47 (by decide) _ _ _ _ OD.out) (kp 56 (by decide) _ _ _ _ OW.out) (fun v n zs h => kp 28 (by decide) _ _ _ _ h))
     have HGR := Lib.hid GR
     clear G8 GR kp HPQ OD OW
     go_wp2_with (refine wpList_store_row rfl 32 (.tmp 4) (.tmp 102) rfl rb #[.string p.nm, .int .i64 p.zb, .slice p.C p.cn p.cc, .slice A p.dn c, .slice WA p.wn wc, .int .i64 p.lm.rest, .int .i64 p.lm.week, .int .i64 p.lm.nf, .int .i64 p.lm.nt, .int .i64 p.lm.mn] rfl rfl 32 _ HR.out size32 rfl (by simp [Value.oneCell']) ?_)
     refine bodyPost_ret (results_mv rfl _ _ rb _ rfl (setRow_heap wg rb _ #[.string p.nm, .int .i64 p.zb, .slice p.C p.cn p.cc, .slice A p.dn c, .slice WA p.wn wc, .int .i64 p.lm.rest, .int .i64 p.lm.week, .int .i64 p.lm.nf, .int .i64 p.lm.nt, .int .i64 p.lm.mn] 32 (0, 0) HR.out) rfl) rfl ?_
     exact ⟨q, by rw [HV.out], HPF.out, HMQ.out, HNM.out, HGR.out⟩
end Go.Proofs.YtnnbibmmofnkdaaGreat
