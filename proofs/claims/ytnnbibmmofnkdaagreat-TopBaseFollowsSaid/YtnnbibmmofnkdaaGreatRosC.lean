/-
 The checks of a roster: what a task says, skills, absences, nights.
-/
import Derived.Test.YtnnbibmmofnkdaaGreatRosB
import Derived.Laws.ResultCell
import Derived.Laws.Rows
namespace Go.Proofs.YtnnbibmmofnkdaaGreat
open Go.RowKit Go.Proofs WageMem WageReg WageRec WageSpan WageTop
/-- A violation. -/
structure Vi where
 k : Int
 w : Int
 a : Int
 b : Int
def encV (x : Vi) : List Value := [.int .i64 x.k, .int .i64 x.w, .int .i64 x.a, .int .i64 x.b]
theorem encV_ok : EncOk encV 4 := ⟨fun _ => rfl, by decide, fun x u hu => by
 simp only [encV, List.mem_cons, List.not_mem_nil, or_false] at hu
 rcases hu with rfl | rfl | rfl | rfl <;> rfl⟩
def taskV (cb : Nat) (wk : Int) (T : Option Addr) (tn tc : Nat) : Value := .agg #[.pointer (some ⟨cb, 0, none⟩), .int .i64 wk, .slice T tn tc]
def idxL (ds : List Nat) : List Int := ds.map Int.ofNat
/-- What a call on a task leans on. -/
structure TaskOk (w : World) (cb : Nat) (p : Pl) (wk : Nat) (x : Wo) (T : Option Addr) (tn tc : Nat) (ds : List Nat) : Prop where
 ck : CkAt w cb p
 ok : planB p = true
 wo : p.ws[wk]? = some x
 ints : Ints w T tn tc (idxL ds)
 le : tn ≤ 24
 lt : ∀ d ∈ ds, d < p.dn
theorem TaskOk.grew {w w' : World} {cb : Nat} {p : Pl} {wk : Nat} {x : Wo} {T : Option Addr} {tn tc : Nat} {ds : List Nat} (h : TaskOk w cb p wk x T tn tc ds) (g : Grew w w') : TaskOk w' cb p wk x T tn tc ds :=
 ⟨h.ck.grew g, h.ok, h.wo, h.ints.grew g, h.le, h.lt⟩
/-- A call returns some violations, none exactly where z is false. -/
def RetVs (z : Bool) (m : Nat) (w : World) (r : Ending) (w' : World) : Prop :=
 ∃ (A : Option Addr) (n c : Nat) (vs : List Vi), r = .returned (.slice A n c) ∧ Recs encV 4 w' A n c vs ∧ (n = 0 ↔ z = false) ∧ n ≤ m ∧ Grew w w'
theorem size56 : (Tryz.prog.info? 56).map (·.size) = some 5 := by kernel_rfl
theorem results_wo {fn : Func} {p : Tmp} (h : fn.results = #[.cell p 56]) (tmps : Array Value) (w : World) (b : Nat) (cs : Array Value) (hp : tmps.getD p undef = .pointer (some ⟨b, 0, none⟩)) (hb : w.heap[b]? = some (.cells cs 56 (0, 0))) (hs : cs.size = 5) :
  (results fn tmps).run Tryz.prog w = .ok (.agg cs) w :=
 results_cell_row h tmps w b 56 cs (0, 0) _ hp hb Tryz.underlying56 rfl (by rw [hs]; exact size56)
theorem grew_setRow {w w1 : World} (h : Grew w w1) {g : Nat} (hg : w.heap.size ≤ g) (cs : Array Value) : Grew w (w1.setRow g cs) :=
 ⟨h.os, h.tape, h.output, by rw [setRow_size]; exact h.size, fun k hk => (setRow_other w1 g k cs (by omega)).trans (Below.block h k hk)⟩
theorem ck_worker {w : World} {cb : Nat} {p : Pl} {M N B K : Pc} {ps qs : List Pc} {kb : Nat} (hp : PlanAt w p) (h : CkIs w cb p M N B K ps qs kb) {wk : Nat} {x : Wo} (hx : p.ws[wk]? = some x) :
  ∃ b o, w.cell? ⟨cb, 4, none⟩ = some (.slice (some ⟨b, o, none⟩) p.wn p.wc) ∧ wk < p.wn ∧ (w.cell? ⟨b, o + wk * 5, none⟩ = some (.string x.nm) ∧ w.cell? ⟨b, o + wk * 5 + 1, none⟩ = some (.int .i64 x.sk) ∧ w.cell? ⟨b, o + wk * 5 + 2, none⟩ = some (.bool x.mi) ∧ w.cell? ⟨b, o + wk * 5 + 3, none⟩ = some (.int .i64 x.wg) ∧ w.cell? ⟨b, o + wk * 5 + 4, none⟩ = some (.slice x.A x.n x.c)) := by
 have hlt : wk < p.wn := by rw [← hp.ws.len]; exact (List.getElem?_eq_some_iff.1 hx).1
 obtain ⟨b, o, y, hA, hy, hc, _⟩ := hp.ws.at_ hlt
 rw [hx] at hy
 injection hy with hy
 subst hy
 refine ⟨b, o, ?_, hlt, hc⟩
 rw [← hA]
 exact h.blk.cell rfl
theorem ck_duty {w : World} {cb : Nat} {p : Pl} {M N B K : Pc} {ps qs : List Pc} {kb : Nat} (hp : PlanAt w p) (h : CkIs w cb p M N B K ps qs kb) {d : Nat} (hd : d < p.dn) :
  ∃ b o, w.cell? ⟨cb, 3, none⟩ = some (.slice (some ⟨b, o, none⟩) p.dn p.dc) ∧ (w.cell? ⟨b, o + d * 3, none⟩ = some (.int .i64 (p.du d).a) ∧ w.cell? ⟨b, o + d * 3 + 1, none⟩ = some (.int .i64 (p.du d).b) ∧ w.cell? ⟨b, o + d * 3 + 2, none⟩ = some (.int .i64 (p.du d).s)) := by
 obtain ⟨b, o, y, hA, hy, hc, _⟩ := hp.ds.at_ hd
 rw [du_at hy]
 exact ⟨b, o, by rw [← hA]; exact h.blk.cell rfl, hc⟩
set_option maxRecDepth 100000 in
set_option maxHeartbeats 8000000 in
theorem who210 {w : World} {cb : Nat} {p : Pl} {wk : Nat} {x : Wo} {T : Option Addr} {tn tc : Nat} {ds : List Nat} (h : TaskOk w cb p wk x T tn tc ds) :
  Calls Tryz.prog 210 #[taskV cb wk T tn tc] w fun r w' => r = .returned (woV x) ∧ Grew w w' := by
 obtain ⟨⟨hp, M, N, B, K, ps, qs, kb, hc⟩, _, hx, _, _, _⟩ := h
 obtain ⟨b, o, c4, hlt, c0', c1', c2', c3', c4'⟩ := ck_worker hp hc hx
 obtain ⟨nm, sk, mi, wg, A, n, c, aw⟩ := x
 simp only at c0' c1' c2' c3' c4'
 have wn9 := hp.ws.le
 show Calls Tryz.prog 210 #[.agg #[.pointer (some ⟨cb, 0, none⟩), .int .i64 (wk : Int), .slice T tn tc]] w fun r w' => r = .returned (.agg #[.string nm, .int .i64 sk, .bool mi, .int .i64 wg, .slice A n c]) ∧ Grew w w'
 obtain ⟨w2, hw2⟩ : ∃ y, y = (w.alloc (.cells #[.pointer (some ⟨cb, 0, none⟩), .int .i64 (wk : Int), .slice T tn tc] 197)).alloc (.cells #[.string ⟨#[]⟩, .int .i64 0, .bool false, .int .i64 0, .slice none 0 0] 56) := ⟨_, rfl⟩
 have g2 : Grew w w2 := by rw [hw2]; exact ((Grew.refl w).alloc _).alloc _
 have x1 : w2.heap[w.heap.size]? = some (.cells #[.pointer (some ⟨cb, 0, none⟩), .int .i64 (wk : Int), .slice T tn tc] 197) := by rw [hw2]; exact ((Grew.refl _).alloc _).block (World.alloc_heap_new w _)
 have x2 : w2.heap[w.heap.size + 1]? = some (.cells #[.string ⟨#[]⟩, .int .i64 0, .bool false, .int .i64 0, .slice none 0 0] 56) := by
  rw [hw2]; have := World.alloc_heap_new (w.alloc (.cells #[.pointer (some ⟨cb, 0, none⟩), .int .i64 (wk : Int), .slice T tn tc] 197)) (.cells #[.string ⟨#[]⟩, .int .i64 0, .bool false, .int .i64 0, .slice none 0 0] 56); rwa [World.size_alloc] at this
 have t0 : w2.cell? ⟨w.heap.size, 0, none⟩ = some (.pointer (some ⟨cb, 0, none⟩)) := by simp [World.cell?, x1]
 have t1 : w2.cell? ⟨w.heap.size, 1, none⟩ = some (.int .i64 (wk : Int)) := by simp [World.cell?, x1]
 have X2 := Lib.hid x2
 have gd := g2.drew
 have hC : ∀ w', Grew w2.drew w' → (w'.cell? ⟨w.heap.size, 0, none⟩ = some (.pointer (some ⟨cb, 0, none⟩)) ∧ w'.cell? ⟨w.heap.size, 1, none⟩ = some (.int .i64 (wk : Int))) ∧ w'.cell? ⟨cb, 4, none⟩ = some (.slice (some ⟨b, o, none⟩) p.wn p.wc) ∧
   (w'.cell? ⟨b, o + wk * 5, none⟩ = some (.string nm) ∧ w'.cell? ⟨b, o + wk * 5 + 1, none⟩ = some (.int .i64 sk) ∧ w'.cell? ⟨b, o + wk * 5 + 2, none⟩ = some (.bool mi) ∧ w'.cell? ⟨b, o + wk * 5 + 3, none⟩ = some (.int .i64 wg) ∧ w'.cell? ⟨b, o + wk * 5 + 4, none⟩ = some (.slice A n c)) := fun w' g' => by
  have gg := (Grew.refl w2).drew.trans g'
  have gw := g2.trans gg
  exact ⟨⟨gg.cell t0, gg.cell t1⟩, gw.cell c4, gw.cell c0', gw.cell c1', gw.cell c2', gw.cell c3', gw.cell c4'⟩
 have HC := Lib.hid hC
 have e1 : (0 : Int) ≤ (wk : Int) := by omega
 have e2 : (wk : Int) < (p.wn : Int) := by omega
 clear c4 c0' c1' c2' c3' c4' t0 t1 x1 x2 hx hp hc hC
 go_enter Tryz.func210, Tryz.ntmps210
 go_upto_region 1 with (fail)
 rw [← hw2]
 clear hw2
 refine wp_region_G (by kernel_rfl) Grew.refl 10 ?_
 refine wpAnyG_takes Grew.refl (fun _ _ _ => Grew.trans) (fun _ _ _ _ _ h => h) [0, 1, 2, 3, 4, 5, 6, 7, 8, 9] (fuel' := 1) (by kernel_rfl) (by kernel_rfl) (by simp only [pickOps, ugT, ug0, ug1]; rfl) ?_
 repeat (first
  | (refine TakeAll.pure (v := ?_) (by rfl) ?_ ?_; rotate_left; (intro w' g'; obtain ⟨⟨q0, q1⟩, q2, q3, q4, q5, q6, q7⟩ := HC.out w' g'; go_simp; first | done | with_reducible rfl); (simp only [Act.put, uzT, uz0, uz1]))
  | (refine TakeAll.skip (by rfl) ?_; (simp only [Act.put, uzT, uz0, uz1])))
 refine TakeAll.nil ?_
 refine wpAnyG_end (by kernel_rfl) (fuel' := 0) (by kernel_rfl) (by simp only [pickOps, ugT, ug0, ug1]; rfl) rfl ?_
 intro w3 g3 K hK
 have G3 := (Grew.refl w2).drew.trans g3
 refine wp_store_row 56 (.tmp 2) (.tmp 12) rfl (w.heap.size + 1) #[.string nm, .int .i64 sk, .bool mi, .int .i64 wg, .slice A n c] rfl rfl 56 _ (G3.block X2.out) size56 rfl (by simp [Value.oneCell']) ?_
 refine hK _ _ ?_
 clear hK K
 have HB := Lib.hid (setRow_heap w3 (w.heap.size + 1) _ #[.string nm, .int .i64 sk, .bool mi, .int .i64 wg, .slice A n c] 56 (0, 0) (G3.block X2.out))
 have GF : Grew w (w3.setRow (w.heap.size + 1) #[.string nm, .int .i64 sk, .bool mi, .int .i64 wg, .slice A n c]) := grew_setRow (g2.trans G3) (by omega) _
 refine wpAny_rest (fun _ _ _ _ _ h => h) [] (by kernel_rfl) (by kernel_rfl) (by kernel_rfl) rfl (TakeAll.nil ?_)
 go_wp2
 refine bodyPost_ret (results_wo rfl _ _ (w.heap.size + 1) _ rfl HB.out rfl) rfl ?_
 exact ⟨rfl, GF⟩
theorem info109 : (Tryz.prog.info? 109).map (fun i => (i.zero, i.size, i.bytes)) = some (some (.agg #[.int .i64 0, .int .i64 0, .int .i64 0, .int .i64 0]), 4, 32) := by kernel_rfl
theorem any_take {b : Nat → Bool} {ds : List Nat} {k d : Nat} (h : ds[k]? = some d) : (ds.take (k + 1)).any b = ((ds.take k).any b || b d) := by
 rw [List.take_add_one, h, Option.toList, List.any_append]; simp
theorem idxL_at {ds : List Nat} {k d : Nat} (h : ds[k]? = some d) : (idxL ds)[k]? = some (d : Int) := by unfold idxL; rw [List.getElem?_map, h]; rfl
theorem idxL_len (ds : List Nat) : (idxL ds).length = ds.length := List.length_map _
set_option maxRecDepth 100000 in
set_option maxHeartbeats 8000000 in
theorem single211 {w : World} {cb : Nat} {wk : Int} {T : Option Addr} {tn tc : Nat} {ds : List Nat} (hi : Ints w T tn tc (idxL ds)) (hle : tn ≤ 24) (kd : Int) (gf : Nat) (caps : Array Value) (b : Nat → Bool)
  (eg : ∀ args w, (callFunc gf args).run Tryz.prog w = .ok (.enter gf args) w)
  (hf : ∀ w', Grew w w' → ∀ d ∈ ds, Calls Tryz.prog gf (#[.int .i64 (d : Int)] ++ caps) w' fun r w'' => r = .returned (.bool (b d)) ∧ Grew w' w'') :
  Calls Tryz.prog 211 #[taskV cb wk T tn tc, .int .i64 kd, .func (.func gf) #[] caps] w (RetVs (ds.any b) 24 w) := by
 obtain ⟨i0, hi0, hz0, hz1, hz2⟩ := info_parts info109
 have HF := Lib.hid hf
 have HI := Lib.hid hi
 have HLE := Lib.hid hle
 have hnl : ds.length = tn := by rw [← idxL_len]; exact hi.1
 have HNL := Lib.hid hnl
 clear hf hi hnl
 show Calls Tryz.prog 211 #[.agg #[.pointer (some ⟨cb, 0, none⟩), .int .i64 wk, .slice T tn tc], .int .i64 kd, .func (.func gf) #[] caps] w _
 obtain ⟨w1, hw1⟩ : ∃ y, y = w.alloc (.cells #[.pointer (some ⟨cb, 0, none⟩), .int .i64 wk, .slice T tn tc] 197) := ⟨_, rfl⟩
 have g1 : Grew w w1 := by rw [hw1]; exact (Grew.refl w).alloc _
 have x1 : w1.heap[w.heap.size]? = some (.cells #[.pointer (some ⟨cb, 0, none⟩), .int .i64 wk, .slice T tn tc] 197) := by rw [hw1]; exact World.alloc_heap_new w _
 have X1 := Lib.hid x1
 have t2 : w1.cell? ⟨w.heap.size, 2, none⟩ = some (.slice T tn tc) := by simp [World.cell?, x1]
 clear x1
 go_enter Tryz.func211, Tryz.ntmps211
 go_upto_region 1 with (fail)
 rw [← hw1]
 clear hw1
 go_wp2_with fail
 clear t2
 go_loopw [7, 13] (fun v i y => ∃ (k j c : Nat) (A : Option Addr) (vs : List Vi), k ≤ tn ∧ i = .int .i64 k ∧ v = .slice A j c ∧ j ≤ k ∧ Hid (y.ownsRow w1.heap.size 109 4 (.slice A j c) j (vs.flatMap encV)) ∧ Hid (vs.length = j) ∧ Hid (j = 0 ↔ (ds.take k).any b = false) ∧ Hid (Grew w1 y)) (fun _ i _ => tn - (intOf i).toNat)
 case atStart => exact ⟨0, 0, 0, none, [], Nat.zero_le _, rfl, rfl, Nat.le_refl _, World.ownsRow_nil _ _ _ _, rfl, ⟨fun _ => rfl, fun _ => rfl⟩, Grew.refl _⟩
 case round =>
  obtain ⟨k, j, c, A, vs, hk, rfl, rfl, hj, OW, HL, HZ, HR⟩ := hrel
  by_cases hlt : k < tn
  ·obtain ⟨bb, oo, hA, hc⟩ := ((HI.out.grew g1).grew HR.out).at_ (by omega)
   obtain ⟨d, hd⟩ : ∃ d, ds[k]? = some d := ⟨_, List.getElem?_eq_getElem (by rw [HNL.out]; exact hlt)⟩
   have c0 := hc k _ (idxL_at hd)
   have HD := Lib.hid hd
   have hmem := List.mem_of_getElem? hd
   have hcall := HF.out wr (g1.trans HR.out) d hmem
   have HCALL := Lib.hid hcall
   subst hA
   clear hc hd hmem hcall
   have e1 : (0 : Int) ≤ (k : Int) := by omega
   have e2 : (k : Int) < (tn : Int) := by omega
   obtain ⟨bd, hbd⟩ : ∃ q, b d = q := ⟨_, rfl⟩
   have HBD := Lib.hid hbd
   rw [hbd] at HCALL
   clear hbd
   go_wp2_with fail
   refine HCALL.out.mono ?_
   rintro r w2 ⟨rfl, g2⟩
   have HT2 := Lib.hid (any_take (b := b) HD.out)
   have OW2 := Lib.hid (own_grew OW.out g2)
   have HR2 := Lib.hid (HR.out.trans g2)
   have X2 := Lib.hid (HR2.out.block X1.out)
   clear OW HR g2 c0
   cases bd with
   | false =>
    have HZ2 : Hid (j = 0 ↔ (ds.take (k + 1)).any b = false) := by unfold Hid; rw [HT2.out, HBD.out, Bool.or_false]; exact HZ.out
    clear HZ X2
    go_wp2_with fail
    go_roundw
    case rel => exact ⟨k + 1, j, c, A, vs, by omega, by go_num, rfl, by omega, OW2, HL, HZ2, HR2⟩
    case measure => simp [intOf]; omega
   | true =>
    have HZ2 : Hid (j + 1 = 0 ↔ (ds.take (k + 1)).any b = false) := by unfold Hid; rw [HT2.out, HBD.out, Bool.or_true]; simp
    have x2 := X2.out
    have t1 : w2.cell? ⟨w.heap.size, 1, none⟩ = some (.int .i64 wk) := by simp [World.cell?, x2]
    obtain ⟨wy, hwy⟩ : ∃ y, y = w2.alloc (.cells #[.int .i64 kd, .int .i64 wk, .int .i64 (d : Int), .int .i64 (-1)] 109) := ⟨_, rfl⟩
    have gy : Grew w2 wy := by rw [hwy]; exact (Grew.refl w2).alloc _
    have BI : Hid (Sl wy 4 (some ⟨w2.heap.size, 0, none⟩) 1 1 (encV ⟨kd, wk, (d : Int), -1⟩)) := by unfold Hid; rw [hwy]; exact builtS (w := w2) (t := 109) 4 1 #[.int .i64 kd, .int .i64 wk, .int .i64 (d : Int), .int .i64 (-1)] _ rfl rfl (by decide)
    have OWy := Lib.hid (own_grew OW2.out gy)
    have HRy := Lib.hid (HR2.out.trans gy)
    clear x2 gy OW2 HR2 HZ X2
    go_wp2_with (at_builtin; rw [← hwy]; refine wpList_append_sl _ rfl (.tmp 20) (.tmp 26) 57 rfl w1.heap.size 109 i0 (.agg #[.int .i64 0, .int .i64 0, .int .i64 0, .int .i64 0]) 4 32 Tryz.underlying57 hi0 hz0 hz1 hz2 rfl (by decide) (.slice A j c) j _ rfl OWy.out (some ⟨w2.heap.size, 0, none⟩) 1 1 _ rfl BI.out (fun u hu => encV_ok.one _ u hu) (by unfold maxLen; omega) (by omega) HRy.out.le ?_; intro v7 w7 own7 hg7 hat7; obtain ⟨A7, c7, rfl⟩ := own_form own7)
    have HR7 := Lib.hid (HRy.out.grown hg7 (fun j hj => (OWy.out.lt j hj).1))
    have OW7 : Hid (w7.ownsRow w1.heap.size 109 4 (.slice A7 (j + 1) c7) (j + 1) ((vs ++ [(⟨kd, wk, (d : Int), -1⟩ : Vi)]).flatMap encV)) := by unfold Hid; rw [List.flatMap_append, List.flatMap_singleton]; exact own7
    have HL7 : Hid ((vs ++ [(⟨kd, wk, (d : Int), -1⟩ : Vi)]).length = j + 1) := by unfold Hid; rw [List.length_append, HL.out]; rfl
    clear hwy own7 hg7 hat7 OWy HRy BI t1
    go_roundw
    case rel => exact ⟨k + 1, j + 1, c7, A7, _, by omega, by go_num, rfl, by omega, OW7, HL7, HZ2, HR7⟩
    case measure => simp [intOf]; omega
  ·obtain rfl : tn = k := by omega
   have HZ2 : Hid (j = 0 ↔ ds.any b = false) := by have := HZ.out; rw [← HNL.out, List.take_length] at this; exact this
   go_wp2
   go_ret
   exact ⟨A, j, c, vs, rfl, Recs.own HL.out OW.out, HZ2.out, by have := HLE.out; omega, g1.trans HR.out⟩
theorem sk212 {w : World} {cb tb sb : Nat} {p : Pl} {d : Nat} {sk : Int} {t : Bool} (h : CkAt w cb p) (hd : d < p.dn) (htb : w.cell? ⟨tb, 0, none⟩ = some (.pointer (some ⟨cb, 0, none⟩))) (hsb : w.cell? ⟨sb, 0, none⟩ = some (.int .i64 sk)) (ht : decide (andN (p.du d).s sk ≠ 0) = t) :
  Calls Tryz.prog 212 #[.int .i64 (d : Int), .pointer (some ⟨tb, 0, none⟩), .pointer (some ⟨sb, 0, none⟩)] w fun r w' => r = .returned (.bool t) ∧ Grew w w' := by
 obtain ⟨hp, M, N, B, K, ps, qs, kb, hc⟩ := h
 obtain ⟨b, o, c3, _, _, c2⟩ := ck_duty hp hc hd
 obtain ⟨s, hs⟩ : ∃ s, (p.du d).s = s := ⟨_, rfl⟩
 rw [hs] at c2 ht
 have HT := Lib.hid ht
 have dn9 := hp.ds.le
 have e1 : (0 : Int) ≤ (d : Int) := by omega
 have e2 : (d : Int) < (p.dn : Int) := by omega
 have hA : ∀ w', Grew w.drew w' → w'.cell? ⟨tb, 0, none⟩ = some (.pointer (some ⟨cb, 0, none⟩)) ∧ w'.cell? ⟨sb, 0, none⟩ = some (.int .i64 sk) ∧ w'.cell? ⟨cb, 3, none⟩ = some (.slice (some ⟨b, o, none⟩) p.dn p.dc) ∧ w'.cell? ⟨b, o + d * 3 + 2, none⟩ = some (.int .i64 s) := fun w' g' => by
  have gg := (Grew.refl w).drew.trans g'
  exact ⟨gg.cell htb, gg.cell hsb, gg.cell c3, gg.cell c2⟩
 have HA := Lib.hid hA
 clear hs c2 c3 htb hsb hp hc ht hA
 go_enter Tryz.func212, Tryz.ntmps212
 go_upto_region 1 with (fail)
 refine wp_region_seq (by kernel_rfl) Grew.refl (fun _ _ _ => Grew.trans) (fun _ _ _ _ _ h => h) (by kernel_rfl) ?_
 repeat (first
  | (refine TakeAll.pure (v := ?_) (by rfl) ?_ ?_; rotate_left; (intro w' g'; obtain ⟨q0, q1, q2, q3⟩ := HA.out w' g'; go_simp; first | done | with_reducible rfl); (simp only [Act.put, uzT, uz0, uz1]))
  | (refine TakeAll.skip (by rfl) ?_; (simp only [Act.put, uzT, uz0, uz1])))
 refine TakeAll.nil ?_
 intro w5 g5
 have G5 := (Grew.refl w).drew.trans g5
 go_wp2
 go_ret
 refine ⟨congrArg (fun b => Ending.returned (Value.bool b)) ?_, G5⟩
 rw [← HT.out]
 show (andN s sk != 0) = decide (andN s sk ≠ 0)
 by_cases hz : andN s sk = 0
 ·simp [hz]
 ·simp [hz]
theorem field56_1 (W : World) (nm : ByteArray) (sk : Int) (mi : Bool) (wg : Int) (A : Option Addr) (n c : Nat) : (Instr.field 56 (.agg #[.string nm, .int .i64 sk, .bool mi, .int .i64 wg, .slice A n c]) 1).run Tryz.prog W = .ok (.int .i64 sk) W := by kernel_rfl
theorem field56_2 (W : World) (nm : ByteArray) (sk : Int) (mi : Bool) (wg : Int) (A : Option Addr) (n c : Nat) : (Instr.field 56 (.agg #[.string nm, .int .i64 sk, .bool mi, .int .i64 wg, .slice A n c]) 2).run Tryz.prog W = .ok (.bool mi) W := by kernel_rfl
set_option maxRecDepth 100000 in
theorem find209 {w : World} {cb : Nat} {p : Pl} {wk : Nat} {x : Wo} {T : Option Addr} {tn tc : Nat} {ds : List Nat} (h : TaskOk w cb p wk x T tn tc ds) : Calls Tryz.prog 209 #[.agg #[], taskV cb wk T tn tc] w (RetVs (kindV p x ds 0) 24 w) := by
 have HTK := Lib.hid h
 show Calls Tryz.prog 209 #[.agg #[], .agg #[.pointer (some ⟨cb, 0, none⟩), .int .i64 (wk : Int), .slice T tn tc]] w _
 obtain ⟨w1, hw1⟩ : ∃ y, y = (w.alloc (.cells #[] 160)).alloc (.cells #[.pointer (some ⟨cb, 0, none⟩), .int .i64 (wk : Int), .slice T tn tc] 197) := ⟨_, rfl⟩
 obtain ⟨tb, htb⟩ : ∃ z, z = w.heap.size + 1 := ⟨_, rfl⟩
 have g1 : Grew w w1 := by rw [hw1]; exact ((Grew.refl w).alloc _).alloc _
 have x1 : w1.heap[tb]? = some (.cells #[.pointer (some ⟨cb, 0, none⟩), .int .i64 (wk : Int), .slice T tn tc] 197) := by
  rw [hw1, htb]; have := World.alloc_heap_new (w.alloc (.cells #[] 160)) (.cells #[.pointer (some ⟨cb, 0, none⟩), .int .i64 (wk : Int), .slice T tn tc] 197); rwa [World.size_alloc] at this
 have X1 := Lib.hid x1
 have t0 : w1.cell? ⟨tb, 0, none⟩ = some (.pointer (some ⟨cb, 0, none⟩)) := by simp [World.cell?, x1]
 have t1 : w1.cell? ⟨tb, 1, none⟩ = some (.int .i64 (wk : Int)) := by simp [World.cell?, x1]
 have t2 : w1.cell? ⟨tb, 2, none⟩ = some (.slice T tn tc) := by simp [World.cell?, x1]
 clear x1 h
 go_enter Tryz.func209, Tryz.ntmps209
 go_upto_region 1 with (fail)
 rw [← hw1, ← htb]
 clear hw1 htb
 go_wp2_with fail
 refine (who210 (HTK.out.grew g1)).mono ?_
 rintro r w2 ⟨rfl, g2⟩
 obtain ⟨nm, sk, mi, wg, A, n, c, aw⟩ := x
 unfold woV
 have hfl := fun W => field56_1 W nm sk mi wg A n c
 obtain ⟨w3, hw3⟩ : ∃ y, y = w2.alloc (.cells #[.int .i64 sk] 3) := ⟨_, rfl⟩
 obtain ⟨sb, hsb⟩ : ∃ z, z = w2.heap.size := ⟨_, rfl⟩
 have g3 : Grew w2 w3 := by rw [hw3]; exact (Grew.refl w2).alloc _
 have HSB : Hid (w3.cell? ⟨sb, 0, none⟩ = some (.int .i64 sk)) := by unfold Hid; rw [hw3, hsb]; simp
 have g13 := g2.trans g3
 clear t0 t1 t2
 have x1 := g13.block X1.out
 have t0 : w3.cell? ⟨tb, 0, none⟩ = some (.pointer (some ⟨cb, 0, none⟩)) := by simp [World.cell?, x1]
 have t1 : w3.cell? ⟨tb, 1, none⟩ = some (.int .i64 (wk : Int)) := by simp [World.cell?, x1]
 have t2 : w3.cell? ⟨tb, 2, none⟩ = some (.slice T tn tc) := by simp [World.cell?, x1]
 clear x1
 have HT0 := Lib.hid t0
 have G3 := g1.trans g13
 go_upto_region 2 with (fail)
 rw [← hw3, ← hsb]
 clear hw3 hsb g3 g13 g2
 go_wp2_with fail
 refine (single211 (b := fun d => decide (andN (p.du d).s sk ≠ 0)) (HTK.out.ints.grew G3) HTK.out.le 1 212 #[.pointer (some ⟨tb, 0, none⟩), .pointer (some ⟨sb, 0, none⟩)] (enters_of Tryz.func212 (by kernel_rfl) rfl) (fun w' g' d hd => sk212 ((HTK.out.ck.grew G3).grew g') (HTK.out.lt d hd) (g'.cell HT0.out) (g'.cell HSB.out) rfl)).mono ?_
 rintro r w4 ⟨A4, n4, c4, vs, rfl, hr, hz, hn, g4⟩
 have HR := Lib.hid hr
 have HZ := Lib.hid hz
 clear hr hz t0 t1 t2
 go_wp2
 go_ret
 exact ⟨A4, n4, c4, vs, rfl, HR.out, HZ.out, hn, G3.trans g4⟩
theorem ck_abs {w : World} {cb : Nat} {p : Pl} {M N B K : Pc} {ps qs : List Pc} {kb : Nat} (h : CkIs w cb p M N B K ps qs kb) {wk : Nat} {x : Wo} (hx : p.ws[wk]? = some x) :
  ∃ (b o : Nat) (q : Pc), w.cell? ⟨cb, 12, none⟩ = some (.slice (some ⟨b, o, none⟩) B.n B.c) ∧ wk < B.n ∧ B.n ≤ 9223372036854775807 ∧ w.cell? ⟨b, o + wk, none⟩ = some (.slice q.A q.n q.c) ∧ Bools w q.A q.n q.c (awayL p x) := by
 have hlt : wk < p.ws.length := (List.getElem?_eq_some_iff.1 hx).1
 have hq1 := h.absE.1
 unfold absL at hq1
 rw [List.length_map] at hq1
 have hn := h.abs.1
 obtain ⟨b, o, q, hA, hq, hr⟩ := h.abs.at_ encP_ok (show wk < B.n by omega)
 have hb := h.absE.2 wk q (awayL p x) hq (by unfold absL; rw [List.getElem?_map, hx]; rfl)
 have h0 := hr 0 _ rfl
 rw [Nat.mul_one] at h0
 exact ⟨b, o, q, by rw [← hA]; exact h.blk.cell rfl, by omega, h.abs.le, h0, hb⟩
theorem aw214 {w : World} {ab : Nat} {A : Option Addr} {n c d : Nat} {bs : List Bool} {t : Bool} (hc : w.cell? ⟨ab, 0, none⟩ = some (.slice A n c)) (h : Bools w A n c bs) (hd : bs[d]? = some t) (_hn : n ≤ 1000) :
  Calls Tryz.prog 214 #[.int .i64 (d : Int), .pointer (some ⟨ab, 0, none⟩)] w fun r w' => r = .returned (.bool t) ∧ Grew w w' := by
 have hlt : d < n := by rw [← h.1]; exact (List.getElem?_eq_some_iff.1 hd).1
 obtain ⟨b, o, y, hA, hy, c1⟩ := h.at_ hlt
 rw [hd] at hy
 injection hy with hy
 subst hy hA
 have e1 : (0 : Int) ≤ (d : Int) := by omega
 have e2 : (d : Int) < (n : Int) := by omega
 clear hd h
 go_enter Tryz.func214, Tryz.ntmps214
 go_wp2
 go_ret
 exact ⟨rfl, Grew.refl _⟩
theorem away_at {p : Pl} {x : Wo} {d : Nat} (hd : d < p.ds.length) : (awayL p x)[d]? = some (meetB x.aw (p.du d)) := by
 unfold awayL
 rw [List.getElem?_map, List.getElem?_eq_getElem hd, du_at (List.getElem?_eq_getElem hd)]; rfl
set_option maxRecDepth 100000 in
set_option maxHeartbeats 8000000 in
theorem find213 {w : World} {cb : Nat} {p : Pl} {wk : Nat} {x : Wo} {T : Option Addr} {tn tc : Nat} {ds : List Nat} (h : TaskOk w cb p wk x T tn tc ds) : Calls Tryz.prog 213 #[.agg #[], taskV cb wk T tn tc] w (RetVs (kindV p x ds 1) 24 w) := by
 have HTK := Lib.hid h
 show Calls Tryz.prog 213 #[.agg #[], .agg #[.pointer (some ⟨cb, 0, none⟩), .int .i64 (wk : Int), .slice T tn tc]] w _
 obtain ⟨w1, hw1⟩ : ∃ y, y = (w.alloc (.cells #[] 161)).alloc (.cells #[.pointer (some ⟨cb, 0, none⟩), .int .i64 (wk : Int), .slice T tn tc] 197) := ⟨_, rfl⟩
 obtain ⟨tb, htb⟩ : ∃ z, z = w.heap.size + 1 := ⟨_, rfl⟩
 have g1 : Grew w w1 := by rw [hw1]; exact ((Grew.refl w).alloc _).alloc _
 have x1 : w1.heap[tb]? = some (.cells #[.pointer (some ⟨cb, 0, none⟩), .int .i64 (wk : Int), .slice T tn tc] 197) := by
  rw [hw1, htb]; have := World.alloc_heap_new (w.alloc (.cells #[] 161)) (.cells #[.pointer (some ⟨cb, 0, none⟩), .int .i64 (wk : Int), .slice T tn tc] 197); rwa [World.size_alloc] at this
 have X1 := Lib.hid x1
 have t0 : w1.cell? ⟨tb, 0, none⟩ = some (.pointer (some ⟨cb, 0, none⟩)) := by simp [World.cell?, x1]
 have t1 : w1.cell? ⟨tb, 1, none⟩ = some (.int .i64 (wk : Int)) := by simp [World.cell?, x1]
 have t2 : w1.cell? ⟨tb, 2, none⟩ = some (.slice T tn tc) := by simp [World.cell?, x1]
 clear x1 h
 go_enter Tryz.func213, Tryz.ntmps213
 go_upto_region 1 with (fail)
 rw [← hw1, ← htb]
 clear hw1 htb
 obtain ⟨hp, M, N, B, K, ps, qs, kb, hc⟩ := HTK.out.ck.grew g1
 obtain ⟨b, o, q, c12, hq1, hq2, cq, hbs⟩ := ck_abs hc HTK.out.wo
 have HBS := Lib.hid hbs
 have HDN : Hid (p.ds.length = p.dn) := hp.ds.len
 have hqn : q.n ≤ 1000 := by
  have h1 := hbs.1
  unfold awayL at h1
  rw [List.length_map, hp.ds.len] at h1
  have := HTK.out.ok
  unfold planB at this
  simp only [Bool.and_eq_true, decide_eq_true_eq] at this
  omega
 have HQN := Lib.hid hqn
 obtain ⟨qA, qn, qc⟩ := q
 simp only at cq
 have e1 : (0 : Int) ≤ (wk : Int) := by omega
 have e2 : (wk : Int) < (B.n : Int) := by omega
 have hA : ∀ w', Grew w1.drew w' → w'.cell? ⟨tb, 0, none⟩ = some (.pointer (some ⟨cb, 0, none⟩)) ∧ w'.cell? ⟨tb, 1, none⟩ = some (.int .i64 (wk : Int)) ∧ w'.cell? ⟨cb, 12, none⟩ = some (.slice (some ⟨b, o, none⟩) B.n B.c) ∧ w'.cell? ⟨b, o + wk, none⟩ = some (.slice qA qn qc) := fun w' g' => by
  have gg := (Grew.refl w1).drew.trans g'
  exact ⟨gg.cell t0, gg.cell t1, gg.cell c12, gg.cell cq⟩
 have HA := Lib.hid hA
 clear hA t0 t1 t2 c12 cq hp hc hbs hqn
 refine wp_region_G (by kernel_rfl) Grew.refl 10 ?_
 refine wpAnyG_takes Grew.refl (fun _ _ _ => Grew.trans) (fun _ _ _ _ _ h => h) [0, 1, 2, 3, 4, 5, 6, 7, 8] (fuel' := 2) (by kernel_rfl) (by kernel_rfl) (by simp only [pickOps, ugT, ug0, ug1]; rfl) ?_
 repeat (first
  | (refine TakeAll.pure (v := ?_) (by rfl) ?_ ?_; rotate_left; (intro w' g'; obtain ⟨q0, q1, q2, q3⟩ := HA.out w' g'; go_simp; first | done | with_reducible rfl); (simp only [Act.put, uzT, uz0, uz1]))
  | (refine TakeAll.skip (by rfl) ?_; (simp only [Act.put, uzT, uz0, uz1])))
 refine TakeAll.nil ?_
 refine wpAnyG_step (i := 9) (by kernel_rfl) (fuel' := 1) (by kernel_rfl) (by simp only [pickOps, ugT, ug0, ug1]; rfl) rfl ?_
 intro w3 g3 K hK
 go_simp
 refine hK _ _ ((Grew.refl w3).alloc _) ?_
 clear hK K
 have G3 := (Grew.refl w1).drew.trans g3
 have gal := (Grew.refl w3).alloc (.cells #[.slice none 0 0] 119)
 have HX3 := Lib.hid (Boxed.new w3 119 (.slice none 0 0))
 refine wpAnyG_end (by kernel_rfl) (fuel' := 0) (by kernel_rfl) (by simp only [pickOps, ugT, ug0, ug1]; rfl) rfl ?_
 intro w4 g4 K hK
 have B4 : Boxed w4 w3.heap.size 119 (.slice none 0 0) := g4.block HX3.out
 have b4 := B4.cell
 have f4 := B4.frozen
 go_simp
 refine hK _ _ ?_
 clear hK K
 refine wpAny_rest (fun _ _ _ _ _ h => h) [] (by kernel_rfl) (by kernel_rfl) (by kernel_rfl) rfl (TakeAll.nil ?_)
 have B5 := Lib.hid (B4.set (.slice qA qn qc)).cell
 have G5 : Hid (Grew w1 (w4.setCell ⟨w3.heap.size, 0, none⟩ (.slice qA qn qc))) := (G3.trans (gal.trans g4)).set G3.le _
 obtain ⟨w5, hw5⟩ : ∃ y, y = w4.setCell ⟨w3.heap.size, 0, none⟩ (.slice qA qn qc) := ⟨_, rfl⟩
 obtain ⟨ab, hab⟩ : ∃ z, z = w3.heap.size := ⟨_, rfl⟩
 rw [← hab] at hw5 B5 G5 ⊢
 rw [← hw5] at B5 G5 ⊢
 clear hw5 hab b4 f4 B4 HX3 gal g4 g3 G3 HA
 have x1 := G5.out.block X1.out
 have t0 : w5.cell? ⟨tb, 0, none⟩ = some (.pointer (some ⟨cb, 0, none⟩)) := by simp [World.cell?, x1]
 have t1 : w5.cell? ⟨tb, 1, none⟩ = some (.int .i64 (wk : Int)) := by simp [World.cell?, x1]
 have t2 : w5.cell? ⟨tb, 2, none⟩ = some (.slice T tn tc) := by simp [World.cell?, x1]
 clear x1
 have GF := g1.trans G5.out
 go_wp2_with fail
 refine (single211 (b := fun d => meetB x.aw (p.du d)) (HTK.out.ints.grew GF) HTK.out.le 2 214 #[.pointer (some ⟨ab, 0, none⟩)] (enters_of Tryz.func214 (by kernel_rfl) rfl) (fun w' g' d hd => aw214 (g'.cell B5.out) ((HBS.out.grew G5.out).grew g') (away_at (by rw [HDN.out]; exact HTK.out.lt d hd)) HQN.out)).mono ?_
 rintro r w6 ⟨A4, n4, c4, vs, rfl, hr, hz, hn, g6⟩
 have HR := Lib.hid hr
 have HZ := Lib.hid hz
 clear hr hz t0 t1 t2
 go_wp2
 go_ret
 exact ⟨A4, n4, c4, vs, rfl, HR.out, HZ.out, hn, GF.trans g6⟩
theorem ng220 {w : World} {cb tb : Nat} {p : Pl} {d : Nat} {t : Bool} (h : CkAt w cb p) (hd : d < p.dn) (htb : w.cell? ⟨tb, 0, none⟩ = some (.pointer (some ⟨cb, 0, none⟩))) (ht : decide (nightF p d ≠ 0) = t) :
  Calls Tryz.prog 220 #[.int .i64 (d : Int), .pointer (some ⟨tb, 0, none⟩)] w fun r w' => r = .returned (.bool t) ∧ Grew w w' := by
 obtain ⟨hp, M, N, B, K, ps, qs, kb, hc⟩ := h
 have hlen : (nightL p).length = p.dn := by unfold nightL; rw [List.length_map]; exact hp.ds.len
 have hnn := hc.night.1
 obtain ⟨b, o, hA, hcell⟩ := hc.night.at_ (by omega)
 obtain ⟨z, hz⟩ : ∃ z, nightF p d = z := ⟨_, rfl⟩
 have hdl : d < p.ds.length := by rw [hp.ds.len]; exact hd
 have c1 := hcell d z (by unfold nightL; rw [List.getElem?_map, List.getElem?_eq_getElem hdl, ← hz]; unfold nightF; rw [du_at (List.getElem?_eq_getElem hdl)]; rfl)
 have c11 : w.cell? ⟨cb, 11, none⟩ = some (.slice N.A N.n N.c) := hc.blk.cell rfl
 rw [hA] at c11
 rw [hz] at ht
 have HT := Lib.hid ht
 have dn9 := hp.ds.le
 have e1 : (0 : Int) ≤ (d : Int) := by omega
 have e2 : (d : Int) < (N.n : Int) := by omega
 clear hz hA hcell hp hc ht hlen hnn
 go_enter Tryz.func220, Tryz.ntmps220
 go_wp2
 go_ret
 refine ⟨congrArg (fun b => Ending.returned (Value.bool b)) ?_, Grew.refl _⟩
 rw [← HT.out]
 by_cases hz : z = 0
 ·simp [hz]
 ·simp [hz]
set_option maxRecDepth 100000 in
theorem find219 {w : World} {cb : Nat} {p : Pl} {wk : Nat} {x : Wo} {T : Option Addr} {tn tc : Nat} {ds : List Nat} (h : TaskOk w cb p wk x T tn tc ds) : Calls Tryz.prog 219 #[.agg #[], taskV cb wk T tn tc] w (RetVs (kindV p x ds 4) 24 w) := by
 have HTK := Lib.hid h
 show Calls Tryz.prog 219 #[.agg #[], .agg #[.pointer (some ⟨cb, 0, none⟩), .int .i64 (wk : Int), .slice T tn tc]] w _
 obtain ⟨w1, hw1⟩ : ∃ y, y = (w.alloc (.cells #[] 164)).alloc (.cells #[.pointer (some ⟨cb, 0, none⟩), .int .i64 (wk : Int), .slice T tn tc] 197) := ⟨_, rfl⟩
 obtain ⟨tb, htb⟩ : ∃ z, z = w.heap.size + 1 := ⟨_, rfl⟩
 have g1 : Grew w w1 := by rw [hw1]; exact ((Grew.refl w).alloc _).alloc _
 have x1 : w1.heap[tb]? = some (.cells #[.pointer (some ⟨cb, 0, none⟩), .int .i64 (wk : Int), .slice T tn tc] 197) := by
  rw [hw1, htb]; have := World.alloc_heap_new (w.alloc (.cells #[] 164)) (.cells #[.pointer (some ⟨cb, 0, none⟩), .int .i64 (wk : Int), .slice T tn tc] 197); rwa [World.size_alloc] at this
 have X1 := Lib.hid x1
 have t0 : w1.cell? ⟨tb, 0, none⟩ = some (.pointer (some ⟨cb, 0, none⟩)) := by simp [World.cell?, x1]
 have t1 : w1.cell? ⟨tb, 1, none⟩ = some (.int .i64 (wk : Int)) := by simp [World.cell?, x1]
 have t2 : w1.cell? ⟨tb, 2, none⟩ = some (.slice T tn tc) := by simp [World.cell?, x1]
 clear x1 h
 go_enter Tryz.func219, Tryz.ntmps219
 go_upto_region 1 with (fail)
 rw [← hw1, ← htb]
 clear hw1 htb
 go_wp2_with fail
 refine (who210 (HTK.out.grew g1)).mono ?_
 rintro r w2 ⟨rfl, g2⟩
 obtain ⟨nm, sk, mi, wg, A, n, c, aw⟩ := x
 unfold woV
 have hfl := fun W => field56_2 W nm sk mi wg A n c
 clear t0 t1 t2
 have x1 := g2.block X1.out
 have t0 : w2.cell? ⟨tb, 0, none⟩ = some (.pointer (some ⟨cb, 0, none⟩)) := by simp [World.cell?, x1]
 have t1 : w2.cell? ⟨tb, 1, none⟩ = some (.int .i64 (wk : Int)) := by simp [World.cell?, x1]
 have t2 : w2.cell? ⟨tb, 2, none⟩ = some (.slice T tn tc) := by simp [World.cell?, x1]
 clear x1
 have G2 := g1.trans g2
 cases mi with
 | false =>
  go_wp2
  go_ret
  exact ⟨none, 0, 0, [], rfl, Recs.none_, ⟨fun _ => rfl, fun _ => rfl⟩, Nat.zero_le _, G2⟩
 | true =>
  have HT0 := Lib.hid t0
  go_wp2_with fail
  refine (single211 (b := fun d => decide (nightF p d ≠ 0)) (HTK.out.ints.grew G2) HTK.out.le 5 220 #[.pointer (some ⟨tb, 0, none⟩)] (enters_of Tryz.func220 (by kernel_rfl) rfl) (fun w' g' d hd => ng220 ((HTK.out.ck.grew G2).grew g') (HTK.out.lt d hd) (g'.cell HT0.out) rfl)).mono ?_
  rintro r w4 ⟨A4, n4, c4, vs, rfl, hr, hz, hn, g4⟩
  have HR := Lib.hid hr
  have HZ := Lib.hid hz
  clear hr hz t0 t1 t2
  go_wp2
  go_ret
  exact ⟨A4, n4, c4, vs, rfl, HR.out, HZ.out, hn, G2.trans g4⟩
theorem ints_tail {w : World} {A : Option Addr} {n c : Nat} {zs : List Int} (h : Ints w A n c zs) {q : Nat} (hq : q ≤ n) : Ints w (tailA A c q 1) (n - q) (c - q) (zs.drop q) := by
 have h2 := h.2.tail hq
 rw [Nat.mul_one, ← List.map_drop] at h2
 exact ⟨by rw [List.length_drop, h.1], h2⟩
theorem size38 (w : World) : (Go.sizeOf (Tryz.prog.elem 38)).run Tryz.prog w = .ok 1 w := by kernel_rfl
theorem elem38 : Tryz.prog.underlying 38 = some (.slice (Tryz.prog.elem 38)) := by kernel_rfl
theorem drop_at' {α : Type} {l : List α} {k : Nat} {d : α} (h : l[k]? = some d) : l.drop k = d :: l.drop (k + 1) := by
 rw [List.drop_eq_getElem_cons (List.getElem?_eq_some_iff.1 h).1, (List.getElem?_eq_some_iff.1 h).2]
def rsL (p : Pl) (d : Nat) (e : Nat) : Bool := decide (restF (p.du d) (p.du e) < p.lm.rest)
theorem rest32v {a b s a' b' s' z : Int} (hx : durOk ⟨a, b, s⟩ = true) (hy : durOk ⟨a', b', s'⟩ = true) (h : restF ⟨a, b, s⟩ ⟨a', b', s'⟩ = z) (w : World) : Calls Tryz.prog 32 #[.agg #[.int .i64 a, .int .i64 b, .int .i64 s], .agg #[.int .i64 a', .int .i64 b', .int .i64 s']] w fun r w' => r = .returned (.int .i64 z) ∧ Grew w w' := by
 subst h; exact rest32 ⟨a, b, s⟩ ⟨a', b', s'⟩ w hx hy
theorem durOk_of {p : Pl} (h : planB p = true) {w : World} (hp : PlanAt w p) {d : Nat} (hd : d < p.dn) : dOk p.z (p.du d) = true := by
 unfold planB at h
 simp only [Bool.and_eq_true, decide_eq_true_eq] at h
 have h1 := List.all_eq_true.1 h.2.2.2.1
 have hl : d < p.ds.length := by rw [hp.ds.len]; exact hd
 rw [du_at (List.getElem?_eq_getElem hl)]
 exact h1 _ (List.getElem_mem hl)
set_option maxRecDepth 100000 in
set_option maxHeartbeats 16000000 in
theorem find215 {w : World} {cb : Nat} {p : Pl} {wk : Nat} {x : Wo} {T : Option Addr} {tn tc : Nat} {ds : List Nat} (h : TaskOk w cb p wk x T tn tc ds) : Calls Tryz.prog 215 #[.agg #[], taskV cb wk T tn tc] w (RetVs (kindV p x ds 2) 576 w) := by
 obtain ⟨i0, hi0, hz0, hz1, hz2⟩ := info_parts info109
 have HTK := Lib.hid h
 show Calls Tryz.prog 215 #[.agg #[], .agg #[.pointer (some ⟨cb, 0, none⟩), .int .i64 (wk : Int), .slice T tn tc]] w _
 obtain ⟨w1, hw1⟩ : ∃ y, y = (w.alloc (.cells #[] 162)).alloc (.cells #[.pointer (some ⟨cb, 0, none⟩), .int .i64 (wk : Int), .slice T tn tc] 197) := ⟨_, rfl⟩
 obtain ⟨tb, htb⟩ : ∃ z, z = w.heap.size + 1 := ⟨_, rfl⟩
 have g1 : Grew w w1 := by rw [hw1]; exact ((Grew.refl w).alloc _).alloc _
 have x1 : w1.heap[tb]? = some (.cells #[.pointer (some ⟨cb, 0, none⟩), .int .i64 (wk : Int), .slice T tn tc] 197) := by
  rw [hw1, htb]; have := World.alloc_heap_new (w.alloc (.cells #[] 162)) (.cells #[.pointer (some ⟨cb, 0, none⟩), .int .i64 (wk : Int), .slice T tn tc] 197); rwa [World.size_alloc] at this
 have X1 := Lib.hid x1
 have t0 : w1.cell? ⟨tb, 0, none⟩ = some (.pointer (some ⟨cb, 0, none⟩)) := by simp [World.cell?, x1]
 have t1 : w1.cell? ⟨tb, 1, none⟩ = some (.int .i64 (wk : Int)) := by simp [World.cell?, x1]
 have t2 : w1.cell? ⟨tb, 2, none⟩ = some (.slice T tn tc) := by simp [World.cell?, x1]
 clear x1 h
 go_enter Tryz.func215, Tryz.ntmps215
 go_upto_region 1 with (fail)
 rw [← hw1, ← htb]
 clear hw1 htb
 obtain ⟨hp, M, N, B, K, ps, qs, kb, hc⟩ := HTK.out.ck.grew g1
 have HP := Lib.hid hp
 have HI := Lib.hid (HTK.out.ints.grew g1)
 have HNL : Hid (ds.length = tn) := by unfold Hid; rw [← idxL_len]; exact HTK.out.ints.1
 have htn := HTK.out.le
 have htc : tn ≤ tc := HI.out.2.1
 have htc9 : tc ≤ 9223372036854775807 := HI.out.2.2.1
 obtain ⟨w2, hw2⟩ : ∃ y, y = w1.alloc (.cells #[.string p.nm, .int .i64 p.zb, .slice p.C p.cn p.cc, .slice p.D p.dn p.dc, .slice p.W p.wn p.wc, .int .i64 p.lm.rest, .int .i64 p.lm.week, .int .i64 p.lm.nf, .int .i64 p.lm.nt, .int .i64 p.lm.mn] 32) := ⟨_, rfl⟩
 obtain ⟨pb, hpb⟩ : ∃ z, z = w1.heap.size := ⟨_, rfl⟩
 have g12 : Grew w1 w2 := by rw [hw2]; exact (Grew.refl w1).alloc _
 have XP : Hid (w2.heap[pb]? = some (.cells #[.string p.nm, .int .i64 p.zb, .slice p.C p.cn p.cc, .slice p.D p.dn p.dc, .slice p.W p.wn p.wc, .int .i64 p.lm.rest, .int .i64 p.lm.week, .int .i64 p.lm.nf, .int .i64 p.lm.nt, .int .i64 p.lm.mn] 32)) := by unfold Hid; rw [hw2, hpb]; exact World.alloc_heap_new w1 _
 have p0 : w1.cell? ⟨cb, 0, none⟩ = some (.string p.nm) := hc.blk.cell rfl
 have p1 : w1.cell? ⟨cb, 1, none⟩ = some (.int .i64 p.zb) := hc.blk.cell rfl
 have p2 : w1.cell? ⟨cb, 2, none⟩ = some (.slice p.C p.cn p.cc) := hc.blk.cell rfl
 have p3 : w1.cell? ⟨cb, 3, none⟩ = some (.slice p.D p.dn p.dc) := hc.blk.cell rfl
 have p4 : w1.cell? ⟨cb, 4, none⟩ = some (.slice p.W p.wn p.wc) := hc.blk.cell rfl
 have p5 : w1.cell? ⟨cb, 5, none⟩ = some (.int .i64 p.lm.rest) := hc.blk.cell rfl
 have p6 : w1.cell? ⟨cb, 6, none⟩ = some (.int .i64 p.lm.week) := hc.blk.cell rfl
 have p7 : w1.cell? ⟨cb, 7, none⟩ = some (.int .i64 p.lm.nf) := hc.blk.cell rfl
 have p8 : w1.cell? ⟨cb, 8, none⟩ = some (.int .i64 p.lm.nt) := hc.blk.cell rfl
 have p9 : w1.cell? ⟨cb, 9, none⟩ = some (.int .i64 p.lm.mn) := hc.blk.cell rfl
 go_upto_region 3 with (fail)
 rw [← hw2, ← hpb]
 clear hw2 hpb p0 p1 p2 p3 p4 p5 p6 p7 p8 p9 t0 t1 t2 hc hp
 have x1 := g12.block X1.out
 have t0 : w2.cell? ⟨tb, 0, none⟩ = some (.pointer (some ⟨cb, 0, none⟩)) := by simp [World.cell?, x1]
 have t1 : w2.cell? ⟨tb, 1, none⟩ = some (.int .i64 (wk : Int)) := by simp [World.cell?, x1]
 have t2 : w2.cell? ⟨tb, 2, none⟩ = some (.slice T tn tc) := by simp [World.cell?, x1]
 clear x1
 have HG2 := Lib.hid (g1.trans g12)
 have HI2 := Lib.hid (HI.out.grew g12)
 have HP2 := Lib.hid (HP.out.grew g12)
 have X2 := Lib.hid (g12.block X1.out)
 have dn9 := HP.out.ds.le
 clear t0 t1 HP HI X1 g12 g1
 go_wp2_with fail
 clear t2
 go_loopw [5, 19] (fun v i y => ∃ (k j c : Nat) (A : Option Addr) (vs : List Vi), k ≤ tn ∧ i = .int .i64 k ∧ v = .slice A j c ∧ j ≤ k * 24 ∧ Hid (y.ownsRow w2.heap.size 109 4 (.slice A j c) j (vs.flatMap encV)) ∧ Hid (vs.length = j) ∧ Hid ((j = 0 → rsV p ds = rsV p (ds.drop k)) ∧ (0 < j → rsV p ds = true)) ∧ Hid (Grew w2 y)) (fun _ i _ => tn - (intOf i).toNat)
 case atStart => exact ⟨0, 0, 0, none, [], Nat.zero_le _, rfl, rfl, Nat.zero_le _, World.ownsRow_nil _ _ _ _, rfl, ⟨fun _ => rfl, fun h => absurd h (by decide)⟩, Grew.refl _⟩
 case round =>
  obtain ⟨k, j, c, A, vs, hk, rfl, rfl, hj, OW, HL, HZ, HR⟩ := hrel
  by_cases hlt : k < tn
  ·obtain ⟨bb, oo, hA, hc⟩ := (HI2.out.grew HR.out).at_ (by omega)
   obtain ⟨d, hd⟩ : ∃ d, ds[k]? = some d := ⟨_, List.getElem?_eq_getElem (by rw [HNL.out]; exact hlt)⟩
   have c0 := hc k _ (idxL_at hd)
   have HD := Lib.hid hd
   have hdn := HTK.out.lt d (List.mem_of_getElem? hd)
   have HDN := Lib.hid hdn
   have e1 : (0 : Int) ≤ (k : Int) := by omega
   have e2 : (k : Int) < (tn : Int) := by omega
   have e3 : IntKind.i64.wrap ((k : Int) + 1) = (k : Int) + 1 := IntWalk.i64_in _ (by omega)
   have hIT := ints_tail HI2.out (q := k + 1) (by omega)
   have HIT := Lib.hid hIT
   have rsl : ∀ x, (Instr.slice 38 (.slice T tn tc) (some (.int .i64 ((k : Int) + 1))) none none).run Tryz.prog x = .ok (.slice (tailA T tc (k + 1) 1) (tn - (k + 1)) (tc - (k + 1))) x := fun x => by
    have := run_slice_tail x 38 1 elem38 (size38 x) T tn tc (k + 1) .i64 (by omega)
    rw [show ((k + 1 : Nat) : Int) = (k : Int) + 1 by omega] at this
    exact this
   have x2 := HR.out.block X2.out
   have t2 : wr.cell? ⟨tb, 2, none⟩ = some (.slice T tn tc) := by simp [World.cell?, x2]
   have HRV : Hid ((j = 0 → rsV p ds = ((ds.drop (k + 1)).any (rsL p d) || rsV p (ds.drop (k + 1)))) ∧ (0 < j → rsV p ds = true)) := ⟨fun h => by rw [HZ.out.1 h, drop_at' HD.out]; rfl, HZ.out.2⟩
   clear hIT x2 hd hc HZ hdn
   obtain ⟨TA, hTA⟩ : ∃ z, z = tailA T tc (k + 1) 1 := ⟨_, rfl⟩
   obtain ⟨tm, htm⟩ : ∃ z, z = tn - (k + 1) := ⟨_, rfl⟩
   obtain ⟨tcc, htcc⟩ : ∃ z, z = tc - (k + 1) := ⟨_, rfl⟩
   rw [← hTA, ← htm, ← htcc] at rsl HIT
   have HTM := Lib.hid htm
   clear hTA htm htcc
   subst hA
   go_upto_region 6 with (fail)
   clear c0
   obtain ⟨es, hes⟩ : ∃ l, l = ds.drop (k + 1) := ⟨_, rfl⟩
   have HIE : Hid (Ints w2 TA tm tcc (idxL es)) := by unfold Hid idxL; rw [hes, List.map_drop]; exact HIT.out
   have HES := Lib.hid hes
   rw [← hes] at HRV
   have HEL : Hid (es.length = tm) := by unfold Hid; rw [← idxL_len]; exact HIE.out.1
   have htm9 : tm ≤ 24 := by have := HTM.out; omega
   clear hes HIT
   go_wp2_with fail
   clear rsl t2
   go_loopw [5, 30] (fun v i y => ∃ (m j c : Nat) (A : Option Addr) (vs : List Vi), m ≤ tm ∧ i = .int .i64 m ∧ v = .slice A j c ∧ j ≤ k * 24 + m ∧ Hid (y.ownsRow w2.heap.size 109 4 (.slice A j c) j (vs.flatMap encV)) ∧ Hid (vs.length = j) ∧ Hid ((j = 0 → rsV p ds = ((es.drop m).any (rsL p d) || rsV p es)) ∧ (0 < j → rsV p ds = true)) ∧ Hid (Grew w2 y)) (fun _ i _ => tm - (intOf i).toNat)
   case atStart => exact ⟨0, j, c, A, vs, Nat.zero_le _, rfl, rfl, by omega, OW.out, HL.out, HRV.out, HR.out⟩
   case round =>
    clear HRV OW HL hj HR
    obtain ⟨m, j, c, A, vs, hm, rfl, rfl, hj, OW, HL, HZ, HR⟩ := hrel
    by_cases hlm : m < tm
    ·obtain ⟨b2, o2, hA2, hc2⟩ := (HIE.out.grew HR.out).at_ (by omega)
     obtain ⟨e, he⟩ : ∃ e, es[m]? = some e := ⟨_, List.getElem?_eq_getElem (by rw [HEL.out]; exact hlm)⟩
     have c0 := hc2 m _ (idxL_at he)
     have hmem : e ∈ ds := by have h1 := List.mem_of_getElem? he; rw [HES.out] at h1; exact List.mem_of_mem_drop h1
     have hen := HTK.out.lt e hmem
     have HE := Lib.hid he
     obtain ⟨bd, od, yd, hDa, hyd, ⟨d0, d1, d2⟩, _⟩ := (HP2.out.grew HR.out).ds.at_ HDN.out
     obtain ⟨bd', od', ye, hDa', hye, ⟨f0, f1, f2⟩, _⟩ := (HP2.out.grew HR.out).ds.at_ hen
     rw [hDa] at hDa'
     injection hDa' with hDa'
     injection hDa' with h1 h2
     subst h1 h2
     have hDD := durOk_of HTK.out.ok (HP2.out) HDN.out
     have hEE := durOk_of HTK.out.ok (HP2.out) hen
     rw [du_at hyd] at hDD
     rw [du_at hye] at hEE
     have HYD : Hid (p.du d = yd) := du_at hyd
     have HYE : Hid (p.du e = ye) := du_at hye
     obtain ⟨ya, yb, ys⟩ := yd
     obtain ⟨za, zb, zs⟩ := ye
     simp only at d0 d1 d2 f0 f1 f2
     have HDD : Hid (durOk ⟨ya, yb, ys⟩ = true) := by unfold dOk at hDD; simp only [Bool.and_eq_true] at hDD; exact hDD.1
     have HEE : Hid (durOk ⟨za, zb, zs⟩ = true) := by unfold dOk at hEE; simp only [Bool.and_eq_true] at hEE; exact hEE.1
     have x2 := HR.out.block XP.out
     have v3 : wr.cell? ⟨pb, 3, none⟩ = some (.slice (some ⟨bd, od, none⟩) p.dn p.dc) := by rw [← hDa]; simp [World.cell?, x2]
     have v5 : wr.cell? ⟨pb, 5, none⟩ = some (.int .i64 p.lm.rest) := by simp [World.cell?, x2]
     have hd9 := HDN.out
     have i1 : (0 : Int) ≤ (d : Int) := by omega
     have i2 : (d : Int) < (p.dn : Int) := by omega
     have i3 : (0 : Int) ≤ (e : Int) := by omega
     have i4 : (e : Int) < (p.dn : Int) := by omega
     have i5 : (0 : Int) ≤ (m : Int) := by omega
     have i6 : (m : Int) < (tm : Int) := by omega
     have hZC : Hid ((j = 0 → rsV p ds = (rsL p d e || ((es.drop (m + 1)).any (rsL p d) || rsV p es))) ∧ (0 < j → rsV p ds = true)) := ⟨fun h => by rw [HZ.out.1 h, drop_at' HE.out, List.any_cons, Bool.or_assoc], HZ.out.2⟩
     have hA : ∀ w', Grew wr.drew w' → (w'.cell? ⟨pb, 3, none⟩ = some (.slice (some ⟨bd, od, none⟩) p.dn p.dc) ∧ w'.cell? ⟨pb, 5, none⟩ = some (.int .i64 p.lm.rest)) ∧ (w'.cell? ⟨bd, od + d * 3, none⟩ = some (.int .i64 ya) ∧ w'.cell? ⟨bd, od + d * 3 + 1, none⟩ = some (.int .i64 yb) ∧ w'.cell? ⟨bd, od + d * 3 + 2, none⟩ = some (.int .i64 ys)) ∧ (w'.cell? ⟨bd, od + e * 3, none⟩ = some (.int .i64 za) ∧ w'.cell? ⟨bd, od + e * 3 + 1, none⟩ = some (.int .i64 zb) ∧ w'.cell? ⟨bd, od + e * 3 + 2, none⟩ = some (.int .i64 zs)) := fun w' g' => by
      have gg := (Grew.refl wr).drew.trans g'
      exact ⟨⟨gg.cell v3, gg.cell v5⟩, ⟨gg.cell d0, gg.cell d1, gg.cell d2⟩, gg.cell f0, gg.cell f1, gg.cell f2⟩
     have HA := Lib.hid hA
     subst hA2
     obtain ⟨R, hR⟩ : ∃ z, restF ⟨ya, yb, ys⟩ ⟨za, zb, zs⟩ = z := ⟨_, rfl⟩
     have HRR := Lib.hid hR
     have HBIT : Hid (rsL p d e = decide (R < p.lm.rest)) := by unfold Hid rsL; rw [HYD.out, HYE.out, hR]
     clear hc2 he hmem hDD hEE hyd hye hDa d0 d1 d2 f0 f1 f2 x2 v3 v5 hA HZ hR hen
     by_cases hb : R < p.lm.rest
     ·have q1 : decide (R < p.lm.rest) = true := decide_eq_true hb
      go_upto_region 9 with (fail)
      clear c0
      refine wp_region_seq (by kernel_rfl) Grew.refl (fun _ _ _ => Grew.trans) (fun _ _ _ _ _ h => h) (by kernel_rfl) ?_
      repeat (first
       | (refine TakeAll.pure (v := ?_) (by rfl) ?_ ?_; rotate_left; (intro w' g'; obtain ⟨⟨w0, w1x⟩, ⟨q2, q3, q4⟩, q5, q6, q7⟩ := HA.out w' g'; go_simp; first | done | with_reducible rfl); (simp only [Act.put, uzT, uz0, uz1]))
       | (refine TakeAll.skip (by rfl) ?_; (simp only [Act.put, uzT, uz0, uz1])))
      refine TakeAll.call (by rfl) 32 _ (fun _ => by go_simp; first | done | rfl) (fun w' g' => rest32v HDD.out HEE.out HRR.out w') ?_
      simp only [Act.put, uzT, uz0, uz1]
      repeat (first
       | (refine TakeAll.pure (v := ?_) (by rfl) ?_ ?_; rotate_left; (intro w' g'; obtain ⟨⟨w0, w1x⟩, ⟨q2, q3, q4⟩, q5, q6, q7⟩ := HA.out w' g'; go_simp; first | done | with_reducible rfl); (simp only [Act.put, uzT, uz0, uz1]))
       | (refine TakeAll.skip (by rfl) ?_; (simp only [Act.put, uzT, uz0, uz1])))
      refine TakeAll.nil ?_
      intro w5 g5
      have G5 := Lib.hid ((Grew.refl wr).drew.trans g5)
      clear g5 HA
      have OW5 := Lib.hid (own_grew OW.out G5.out)
      have HR5 := Lib.hid (HR.out.trans G5.out)
      have x2 := HR5.out.block X2.out
      clear OW HR G5
      have HZ2 : Hid ((j + 1 = 0 → rsV p ds = ((es.drop (m + 1)).any (rsL p d) || rsV p es)) ∧ (0 < j + 1 → rsV p ds = true)) := ⟨fun h => by omega, fun _ => by
       rcases Nat.eq_zero_or_pos j with h0 | h0
       ·rw [hZC.out.1 h0, HBIT.out, decide_eq_true hb]; rfl
       ·exact hZC.out.2 h0⟩
      have t1 : w5.cell? ⟨tb, 1, none⟩ = some (.int .i64 (wk : Int)) := by simp [World.cell?, x2]
      obtain ⟨wy, hwy⟩ : ∃ y, y = w5.alloc (.cells #[.int .i64 3, .int .i64 (wk : Int), .int .i64 (d : Int), .int .i64 (e : Int)] 109) := ⟨_, rfl⟩
      have gy : Grew w5 wy := by rw [hwy]; exact (Grew.refl w5).alloc _
      have BI : Hid (Sl wy 4 (some ⟨w5.heap.size, 0, none⟩) 1 1 (encV ⟨3, (wk : Int), (d : Int), (e : Int)⟩)) := by unfold Hid; rw [hwy]; exact builtS (w := w5) (t := 109) 4 1 #[.int .i64 3, .int .i64 (wk : Int), .int .i64 (d : Int), .int .i64 (e : Int)] _ rfl rfl (by decide)
      have OWy := Lib.hid (own_grew OW5.out gy)
      have HRy := Lib.hid (HR5.out.trans gy)
      clear x2 gy OW5 HR5 hZC hb
      go_wp2_with (at_builtin; rw [← hwy]; refine wpList_append_sl _ rfl (.tmp 49) (.tmp 55) 57 rfl w2.heap.size 109 i0 (.agg #[.int .i64 0, .int .i64 0, .int .i64 0, .int .i64 0]) 4 32 Tryz.underlying57 hi0 hz0 hz1 hz2 rfl (by decide) (.slice A j c) j _ rfl OWy.out (some ⟨w5.heap.size, 0, none⟩) 1 1 _ rfl BI.out (fun u hu => encV_ok.one _ u hu) (by unfold maxLen; omega) (by omega) HRy.out.le ?_; intro v7 w7 own7 hg7 hat7; obtain ⟨A7, c7, rfl⟩ := own_form own7)
      have HR7 := Lib.hid (HRy.out.grown hg7 (fun j hj => (OWy.out.lt j hj).1))
      have OW7 : Hid (w7.ownsRow w2.heap.size 109 4 (.slice A7 (j + 1) c7) (j + 1) ((vs ++ [(⟨3, (wk : Int), (d : Int), (e : Int)⟩ : Vi)]).flatMap encV)) := by unfold Hid; rw [List.flatMap_append, List.flatMap_singleton]; exact own7
      have HL7 : Hid ((vs ++ [(⟨3, (wk : Int), (d : Int), (e : Int)⟩ : Vi)]).length = j + 1) := by unfold Hid; rw [List.length_append, HL.out]; rfl
      clear hwy own7 hg7 hat7 OWy HRy BI t1
      go_roundw
      case rel => exact ⟨m + 1, j + 1, c7, A7, _, by omega, by go_num, rfl, by omega, OW7, HL7, HZ2, HR7⟩
      case measure => simp [intOf]; omega
     ·have q1 : decide (R < p.lm.rest) = false := decide_eq_false hb
      go_upto_region 9 with (fail)
      clear c0
      refine wp_region_seq (by kernel_rfl) Grew.refl (fun _ _ _ => Grew.trans) (fun _ _ _ _ _ h => h) (by kernel_rfl) ?_
      repeat (first
       | (refine TakeAll.pure (v := ?_) (by rfl) ?_ ?_; rotate_left; (intro w' g'; obtain ⟨⟨w0, w1x⟩, ⟨q2, q3, q4⟩, q5, q6, q7⟩ := HA.out w' g'; go_simp; first | done | with_reducible rfl); (simp only [Act.put, uzT, uz0, uz1]))
       | (refine TakeAll.skip (by rfl) ?_; (simp only [Act.put, uzT, uz0, uz1])))
      refine TakeAll.call (by rfl) 32 _ (fun _ => by go_simp; first | done | rfl) (fun w' g' => rest32v HDD.out HEE.out HRR.out w') ?_
      simp only [Act.put, uzT, uz0, uz1]
      repeat (first
       | (refine TakeAll.pure (v := ?_) (by rfl) ?_ ?_; rotate_left; (intro w' g'; obtain ⟨⟨w0, w1x⟩, ⟨q2, q3, q4⟩, q5, q6, q7⟩ := HA.out w' g'; go_simp; first | done | with_reducible rfl); (simp only [Act.put, uzT, uz0, uz1]))
       | (refine TakeAll.skip (by rfl) ?_; (simp only [Act.put, uzT, uz0, uz1])))
      refine TakeAll.nil ?_
      intro w5 g5
      have G5 := Lib.hid ((Grew.refl wr).drew.trans g5)
      clear g5 HA
      have OW5 := Lib.hid (own_grew OW.out G5.out)
      have HR5 := Lib.hid (HR.out.trans G5.out)
      have x2 := HR5.out.block X2.out
      clear OW HR G5
      have HZ2 : Hid ((j = 0 → rsV p ds = ((es.drop (m + 1)).any (rsL p d) || rsV p es)) ∧ (0 < j → rsV p ds = true)) := ⟨fun h => by rw [hZC.out.1 h, HBIT.out, decide_eq_false hb]; rfl, hZC.out.2⟩
      clear x2 hZC
      go_wp2_with fail
      go_roundw
      case rel => exact ⟨m + 1, j, c, A, vs, by omega, by go_num, rfl, by omega, OW5, HL, HZ2, HR5⟩
      case measure => simp [intOf]; omega
    ·obtain rfl : tm = m := by omega
     have HZ2 : Hid ((j = 0 → rsV p ds = rsV p (ds.drop (k + 1))) ∧ (0 < j → rsV p ds = true)) := ⟨fun h => by have := HZ.out.1 h; rw [← HEL.out, List.drop_length] at this; rw [this, HES.out]; rfl, HZ.out.2⟩
     have hm5 := HTM.out
     clear HZ
     go_wp2_with fail
     go_roundw
     case rel => exact ⟨k + 1, j, c, A, vs, by omega, by go_num, rfl, by omega, OW, HL, HZ2, HR⟩
     case measure => simp [intOf]; omega
  ·obtain rfl : tn = k := by omega
   have HZ2 : Hid (j = 0 ↔ rsV p ds = false) := by
    have h1 := HZ.out.1
    rw [← HNL.out, List.drop_length] at h1
    constructor
    ·intro h; rw [h1 h]; rfl
    ·intro h
     rcases Nat.eq_zero_or_pos j with h0 | h0
     ·exact h0
     ·rw [HZ.out.2 h0] at h; cases h
   go_wp2
   go_ret
   exact ⟨A, j, c, vs, rfl, Recs.own HL.out OW.out, HZ2.out, by omega, HG2.out.trans HR.out⟩
end Go.Proofs.YtnnbibmmofnkdaaGreat
