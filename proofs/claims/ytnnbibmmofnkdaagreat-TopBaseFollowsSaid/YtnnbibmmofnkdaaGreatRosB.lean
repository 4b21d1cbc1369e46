/-
 Blocks of portions, Prepare.
-/
import Derived.Test.YtnnbibmmofnkdaaGreatSpA
import Derived.Test.YtnnbibmmofnkdaaGreatKit
import Derived.Test.YtnnbibmmofnkdaaGreatRosA
namespace WageTop
open Go Go.RowKit WageMem WageRec
/-- A block of cells. -/
def Blk (W : World) (b : Nat) (t : TypeId) (cs : List Value) : Prop := W.heap[b]? = some (.cells cs.toArray t (0, 0))
section
variable {W W' : World} {b : Nat} {t : TypeId} {cs : List Value}
theorem Blk.lt (h : Blk W b t cs) : b < W.heap.size := (Array.getElem?_eq_some_iff.1 h).1
theorem Blk.cell (h : Blk W b t cs) {i : Nat} {v : Value} (hv : cs[i]? = some v) : W.cell? ⟨b, i, none⟩ = some v := by
 have := cell_of_row W b i cs.toArray t (0, 0) h
 rw [this]; simpa using hv
theorem Blk.frozen (h : Blk W b t cs) (i : Nat) : W.frozen? ⟨b, i, none⟩ = false := by simp [World.frozen?, show W.heap[b]? = _ from h]
theorem Blk.new (W : World) (t : TypeId) (cs : List Value) : Blk (W.alloc (.cells cs.toArray t)) W.heap.size t cs := World.alloc_heap_new W _
theorem Blk.grew (h : Blk W b t cs) (g : Grew W W') : Blk W' b t cs := g.block h
theorem Blk.kept {row : Option Nat} (h : Blk W b t cs) (g : W.grownBy W' row) (hne : some b ≠ row) : Blk W' b t cs := (g.block b h.lt hne).trans h
theorem Blk.set (h : Blk W b t cs) (i : Nat) (v : Value) : Blk (W.setCell ⟨b, i, none⟩ v) b t (cs.set i v) := by
 obtain ⟨hlt, hk⟩ := Array.getElem?_eq_some_iff.1 h
 show (W.heap.modify b _)[b]? = _
 rw [Array.getElem?_eq_getElem (by rw [Array.size_modify]; exact hlt), Array.getElem_modify_self, hk]
 simp
theorem Blk.other (h : Blk W b t cs) {a : Addr} (ha : b ≠ a.block) (v : Value) : Blk (W.setCell a v) b t cs := (Below.heap_setCell _ _ _ b ha).trans h
theorem Blk.range (h : Blk W b t cs) : W.rangeAt b 0 cs := fun j u hu => by rw [Nat.zero_add]; exact h.cell hu
theorem grown_set (W : World) (b i : Nat) (v : Value) : W.grownBy (W.setCell ⟨b, i, none⟩ v) (some b) :=
 ⟨rfl, rfl, rfl, (KeepsWalks.setCell W _ v).size, fun k _ hk => Below.heap_setCell _ _ _ k (fun e => hk (by rw [e]))⟩
end
section
variable {W W' : World} {base base' : Nat} {e e' : TypeId} {size size' : Nat} {v v' : Value} {n n' : Nat} {xs xs' : List Value}
/-- Rows of different types lie in different blocks. -/
theorem own_apart (h : W.ownsRow base e size v n xs) (h' : W.ownsRow base' e' size' v' n' xs') (hne : e ≠ e') : v.ownBlock = none ∨ v.ownBlock ≠ v'.ownBlock := by
 rcases h.2 with ⟨rfl, _⟩ | ⟨g, cap, cur, rfl, _, hg, _⟩
 ·exact .inl rfl
 ·refine .inr fun hh => ?_
  rcases h'.2 with ⟨rfl, _⟩ | ⟨g', cap', cur', rfl, _, hg', _⟩
  ·cases hh
  ·injection hh with hh
   simp only at hh
   subst hh
   rw [hg] at hg'
   injection hg' with hg'
   injection hg' with _ h2 _
   exact hne h2
theorem own_blk (h : W.ownsRow base e size v n xs) {b : Nat} {t : TypeId} {cs : List Value} (hb : Blk W b t cs) (hne : e ≠ t) : some b ≠ v.ownBlock := by
 rcases h.2 with ⟨rfl, _⟩ | ⟨g, cap, cur, rfl, _, hg, _⟩
 ·intro h; cases h
 ·intro hh
  injection hh with hh
  simp only at hh
  subst hh
  rw [hb] at hg
  injection hg with hg
  injection hg with _ h2 _
  exact hne h2.symm
theorem own_blk' (h : W.ownsRow base e size v n xs) {b : Nat} {t : TypeId} {cs : List Value} (hb : Blk W b t cs) (hne : e ≠ t) : v.ownBlock = none ∨ v.ownBlock ≠ some b := .inr fun hh => own_blk h hb hne hh.symm
/-- A row stays where another row of another type is written. -/
theorem own_kept (h : W.ownsRow base e size v n xs) (h' : W.ownsRow base' e' size' v' n' xs') (hne : e ≠ e') (g : W.grownBy W' v'.ownBlock) : W'.ownsRow base e size v n xs := h.kept g (own_apart h h' hne)
theorem own_set (h : W.ownsRow base e size v n xs) {b : Nat} {t : TypeId} {cs : List Value} (hb : Blk W b t cs) (hne : e ≠ t) (i : Nat) (u : Value) : (W.setCell ⟨b, i, none⟩ u).ownsRow base e size v n xs := h.kept (grown_set W b i u) (own_blk' h hb hne)
end
/-- A slice's place. -/
structure Pc where
 A : Option Addr
 n : Nat
 c : Nat
def pcV (x : Pc) : Value := .slice x.A x.n x.c
def encP (x : Pc) : List Value := [.slice x.A x.n x.c]
theorem encP_ok : EncOk encP 1 := ⟨fun _ => rfl, by decide, fun x u hu => by
 simp only [encP, List.mem_cons, List.not_mem_nil, or_false] at hu
 subst hu; rfl⟩
/-- The slices at the places ps read as R says of xs. -/
def Each {α : Type} (R : Pc → α → Prop) (ps : List Pc) (xs : List α) : Prop := ps.length = xs.length ∧ ∀ (i : Nat) (p : Pc) (x : α), ps[i]? = some p → xs[i]? = some x → R p x
section
variable {α : Type} {R S : Pc → α → Prop} {ps : List Pc} {xs : List α}
theorem Each.nil : Each R [] [] := ⟨rfl, fun i p x h => by simp at h⟩
theorem Each.imp (h : Each R ps xs) (hi : ∀ p x, R p x → S p x) : Each S ps xs := ⟨h.1, fun i p x h1 h2 => hi p x (h.2 i p x h1 h2)⟩
theorem Each.snoc (h : Each R ps xs) {p : Pc} {x : α} (hx : R p x) : Each R (ps ++ [p]) (xs ++ [x]) := by
 refine ⟨by simp [h.1], fun i q y h1 h2 => ?_⟩
 by_cases hi : i < ps.length
 ·rw [List.getElem?_append_left hi] at h1
  rw [List.getElem?_append_left (by rw [← h.1]; exact hi)] at h2
  exact h.2 i q y h1 h2
 ·have hl := h.1
  rw [List.getElem?_append_right (by omega)] at h1
  rw [List.getElem?_append_right (by omega)] at h2
  have h3 : i - ps.length = 0 := by
   have := (List.getElem?_eq_some_iff.1 h1).1
   simp at this; omega
  rw [h3] at h1
  rw [← hl, h3] at h2
  simp at h1 h2
  subst h1 h2
  exact hx
end
end WageTop
namespace Go.Proofs.YtnnbibmmofnkdaaGreat
open Go.RowKit Go.Proofs WageMem WageReg WageRec WageSpan WageTop
def minsL (p : Pl) : List (List Sp) := p.ds.map fun x => splitL p.z x.a x.b
def nightL (p : Pl) : List Int := p.ds.map fun x => winT p.z x.a x.b p.lm.nf p.lm.nt
def awayL (p : Pl) (x : Wo) : List Bool := p.ds.map fun d => meetB x.aw d
def absL (p : Pl) : List (List Bool) := p.ws.map (awayL p)
def bV (b : Bool) : Value := .bool b
def ckC (p : Pl) (M N B K : Pc) : List Value := planC p ++ [pcV M, pcV N, pcV B, pcV K]
def ifs : List Value := [.iface 160 (.agg #[]), .iface 161 (.agg #[]), .iface 162 (.agg #[]), .iface 163 (.agg #[]), .iface 164 (.agg #[]), .iface 165 (.agg #[])]
/-- A slice of booleans. -/
def Bools (w : World) (A : Option Addr) (n c : Nat) (bs : List Bool) : Prop := bs.length = n ∧ Sl w 1 A n c (bs.map bV)
theorem Bools.grew {w w' : World} {A : Option Addr} {n c : Nat} {bs : List Bool} (h : Bools w A n c bs) (g : Grew w w') : Bools w' A n c bs := ⟨h.1, h.2.grew g⟩
theorem Bools.at_ {w : World} {A : Option Addr} {n c : Nat} {bs : List Bool} (h : Bools w A n c bs) {k : Nat} (hk : k < n) : ∃ b o x, A = some ⟨b, o, none⟩ ∧ bs[k]? = some x ∧ w.cell? ⟨b, o + k, none⟩ = some (.bool x) := by
 have hl : k < bs.length := by rw [h.1]; exact hk
 have hne : bs.map bV ≠ [] := by intro h0; rw [List.map_eq_nil_iff] at h0; subst h0; simp at hl
 obtain ⟨b, o, e, hc⟩ := h.2.2.2.2.1 hne
 exact ⟨b, o, bs[k], e, List.getElem?_eq_getElem hl, hc k _ (by rw [List.getElem?_map, List.getElem?_eq_getElem hl]; rfl)⟩
/-- A checker in memory. -/
structure CkIs (w : World) (cb : Nat) (p : Pl) (M N B K : Pc) (ps qs : List Pc) (kb : Nat) : Prop where
 blk : Blk w cb 168 (ckC p M N B K)
 mins : Recs encP 1 w M.A M.n M.c ps
 minE : Each (fun q l => Spans w q.A q.n q.c l) ps (minsL p)
 night : Ints w N.A N.n N.c (nightL p)
 abs : Recs encP 1 w B.A B.n B.c qs
 absE : Each (fun q l => Bools w q.A q.n q.c l) qs (absL p)
 kP : K = ⟨some ⟨kb, 0, none⟩, 6, 6⟩
 chk : Blk w kb 199 ifs
def CkAt (w : World) (cb : Nat) (p : Pl) : Prop := PlanAt w p ∧ ∃ M N B K ps qs kb, CkIs w cb p M N B K ps qs kb
theorem CkAt.grew {w w' : World} {cb : Nat} {p : Pl} (h : CkAt w cb p) (g : Grew w w') : CkAt w' cb p := by
 obtain ⟨hp, M, N, B, K, ps, qs, kb, h1, h2, h3, h4, h5, h6, h7, h8⟩ := h
 exact ⟨hp.grew g, M, N, B, K, ps, qs, kb, h1.grew g, h2.grew g, h3.imp fun _ _ h => h.grew g, h4.grew g, h5.grew g, h6.imp fun _ _ h => h.grew g, h7, h8.grew g⟩
/-- What Prepare returns. -/
def RetPr (p : Pl) (w : World) (r : Ending) (w' : World) : Prop :=
 (planB p = true ∧ ∃ cb, r = .returned (.tuple #[.pointer (some ⟨cb, 0, none⟩), .bool true]) ∧ CkAt w' cb p ∧ Grew w w') ∨
 (planB p = false ∧ r = .returned (.tuple #[.pointer none, .bool false]) ∧ Grew w w')
theorem info43 : (Tryz.prog.info? 43).map (fun i => (i.zero, i.size, i.bytes)) = some (some (.slice none 0 0), 1, 24) := by kernel_rfl
theorem info3 : (Tryz.prog.info? 3).map (fun i => (i.zero, i.size, i.bytes)) = some (some (.int .i64 0), 1, 8) := by kernel_rfl
theorem info119 : (Tryz.prog.info? 119).map (fun i => (i.zero, i.size, i.bytes)) = some (some (.slice none 0 0), 1, 24) := by kernel_rfl
theorem own_keepB {G : Nat → Prop} {W W' : World} {base : Nat} {e : TypeId} {size : Nat} {v : Value} {n : Nat} {xs : List Value} (h : W.ownsRow base e size v n xs) (k : KeepB G W W') (hG : ∀ b, v.ownBlock = some b → G b) : W'.ownsRow base e size v n xs := by
 refine ⟨h.1, ?_⟩
 rcases h.2 with h0 | ⟨g, cap, cur, h1, h2, h3, h4⟩
 ·exact .inl h0
 ·exact .inr ⟨g, cap, cur, h1, h2, k.2 _ _ (hG g (by rw [h1]; rfl)) h3, h4⟩
theorem blk_keepB {G : Nat → Prop} {W W' : World} {b : Nat} {t : TypeId} {cs : List Value} (h : Blk W b t cs) (k : KeepB G W W') (hG : G b) : Blk W' b t cs := k.2 _ _ hG h
theorem own_ne {W : World} {base : Nat} {e : TypeId} {size : Nat} {v : Value} {n : Nat} {xs : List Value} (h : W.ownsRow base e size v n xs) {cb : Nat} {t : TypeId} {cs : List Value} (hb : Blk W cb t cs) (hne : e ≠ t) : ∀ b, v.ownBlock = some b → b ≠ cb := by
 intro b hb' hh
 subst hh
 exact own_blk h hb hne hb'.symm
theorem set_fill {l : List Bool} {n j : Nat} {v : Bool} (hl : l.length = n) (hv : l[j]? = some v) : ((l.take j ++ List.replicate (n - j) false).map bV).set j (bV v) = (l.take (j + 1) ++ List.replicate (n - (j + 1)) false).map bV := by
 have hj : j < n := by rw [← hl]; exact (List.getElem?_eq_some_iff.1 hv).1
 rw [List.map_append, List.set_append_right _ _ (by rw [List.length_map, List.length_take]; omega), List.length_map, List.length_take, show j - min j l.length = 0 by omega, show n - j = (n - (j + 1)) + 1 by omega, List.replicate_succ, List.map_cons, uz0, List.take_add_one, hv]
 simp
theorem fill_at {l : List Bool} {n j : Nat} (hl : l.length = n) (hj : j < n) : ((l.take j ++ List.replicate (n - j) false).map bV)[j]? = some (.bool false) := by
 rw [List.map_append, List.getElem?_append_right (by rw [List.length_map, List.length_take]; omega), List.length_map, List.length_take, show j - min j l.length = 0 by omega, show n - j = (n - (j + 1)) + 1 by omega, List.replicate_succ]
 rfl
theorem fill_all {l : List Bool} {n : Nat} (hl : l.length = n) : l.take n ++ List.replicate (n - n) false = l := by
 rw [Nat.sub_self, List.replicate_zero, List.append_nil, ← hl, List.take_length]
theorem info4 : (Tryz.prog.info? 4).map (fun i => (i.zero, i.size, i.bytes)) = some (some (.bool false), 1, 1) := by kernel_rfl
theorem make_bools (base n : Nat) (hn : n ≤ 1000) (w : World) (hb : base ≤ w.heap.size) : ∃ w', (Instr.makeSlice 119 (.int .i64 (n : Int)) (.int .i64 (n : Int))).run Tryz.prog w = .ok (.slice (some ⟨w.heap.size, 0, none⟩) n n) w' ∧ w'.ownsRow base 4 1 (.slice (some ⟨w.heap.size, 0, none⟩) n n) n ((List.replicate n false).map bV) ∧ Grew w w' := by
 obtain ⟨i0, hi, hz0, hz1, hz2⟩ := info_parts info4
 obtain ⟨w', h1, h2, h3⟩ := run_makeSlice_full (P := Tryz.prog) w base 119 4 i0 (.bool false) 1 Tryz.underlying119 hi hz0 hz1 .i64 .i64 n (by omega) (by rw [hz2]; omega) (by unfold maxLen; omega) hb
 refine ⟨w', h1, ?_, (Grew.refl w).grown h3 (fun j hj => by cases hj)⟩
 rw [show (Value.bool false).cells = #[Value.bool false] from rfl, Nat.mul_one, toList_madeCells_one] at h2
 rw [List.map_replicate]; exact h2
set_option maxRecDepth 100000 in
set_option maxHeartbeats 16000000 in
theorem prep33 (p : Pl) (w : World) (hp : PlanAt w p) : Calls Tryz.prog 33 #[planV p] w (RetPr p w) := by
 have HP := Lib.hid hp
 clear hp
 obtain ⟨nm, zb, C, cn, cc, ch, D, dn, dc, ds, W, wn, wc, ws, ⟨rest, week, nf, nt, mn⟩⟩ := p
 obtain ⟨p, hpp⟩ : ∃ p : Pl, p = ⟨nm, zb, C, cn, cc, ch, D, dn, dc, ds, W, wn, wc, ws, ⟨rest, week, nf, nt, mn⟩⟩ := ⟨_, rfl⟩
 rw [← hpp] at HP
 have HPP := Lib.hid hpp
 have HCH : Hid (Spans w C cn cc ch) := by have := HP.out.ch; rw [hpp] at this; exact this
 have HDS : Hid (Dus w D dn dc ds) := by have := HP.out.ds; rw [hpp] at this; exact this
 have HWS : Hid (Wos w W wn wc ws) := by have := HP.out.ws; rw [hpp] at this; exact this
 have hdn := HDS.out.le
 have hwn := HWS.out.le
 show Calls Tryz.prog 33 #[.agg #[.string nm, .int .i64 zb, .slice C cn cc, .slice D dn dc, .slice W wn wc, .int .i64 rest, .int .i64 week, .int .i64 nf, .int .i64 nt, .int .i64 mn]] w _
 rw [← hpp]
 clear hpp
 obtain ⟨t, ht⟩ : ∃ t, planB p = t := ⟨_, rfl⟩
 have HT := Lib.hid ht
 clear ht
 have gb : Grew w (w.alloc (.cells #[.string nm, .int .i64 zb, .slice C cn cc, .slice D dn dc, .slice W wn wc, .int .i64 rest, .int .i64 week, .int .i64 nf, .int .i64 nt, .int .i64 mn] 32)) := (Grew.refl w).alloc _
 have X0 := Lib.hid (World.alloc_heap_new w (.cells #[.string nm, .int .i64 zb, .slice C cn cc, .slice D dn dc, .slice W wn wc, .int .i64 rest, .int .i64 week, .int .i64 nf, .int .i64 nt, .int .i64 mn] 32))
 obtain ⟨i43, hi43, hz43, hs43, hb43⟩ := info_parts info43
 obtain ⟨i3, hi3, hz3, hs3, hb3⟩ := info_parts info3
 obtain ⟨i119, hi119, hz119, hs119, hb119⟩ := info_parts info119
 go_enter Tryz.func33, Tryz.ntmps33
 go_wp2_with fail
 have hv := val49 p t _ (HP.out.grew gb) HT.out
 rw [show planV p = .agg #[.string nm, .int .i64 zb, .slice C cn cc, .slice D dn dc, .slice W wn wc, .int .i64 rest, .int .i64 week, .int .i64 nf, .int .i64 nt, .int .i64 mn] by rw [HPP.out]; rfl] at hv
 refine hv.mono ?_
 rintro r w1 ⟨rfl, g1⟩
 clear hv
 have G1 := gb.trans g1
 have x1 := g1.block X0.out
 cases t with
 | false =>
  go_wp2
  go_ret2
  exact .inr ⟨HT.out, rfl, G1⟩
 | true =>
  have v0 : w1.cell? ⟨w.heap.size, 0, none⟩ = some (.string nm) := by simp [World.cell?, x1]
  have v1 : w1.cell? ⟨w.heap.size, 1, none⟩ = some (.int .i64 zb) := by simp [World.cell?, x1]
  have v2 : w1.cell? ⟨w.heap.size, 2, none⟩ = some (.slice C cn cc) := by simp [World.cell?, x1]
  have v3 : w1.cell? ⟨w.heap.size, 3, none⟩ = some (.slice D dn dc) := by simp [World.cell?, x1]
  have v4 : w1.cell? ⟨w.heap.size, 4, none⟩ = some (.slice W wn wc) := by simp [World.cell?, x1]
  have v5 : w1.cell? ⟨w.heap.size, 5, none⟩ = some (.int .i64 rest) := by simp [World.cell?, x1]
  have v6 : w1.cell? ⟨w.heap.size, 6, none⟩ = some (.int .i64 week) := by simp [World.cell?, x1]
  have v7 : w1.cell? ⟨w.heap.size, 7, none⟩ = some (.int .i64 nf) := by simp [World.cell?, x1]
  have v8 : w1.cell? ⟨w.heap.size, 8, none⟩ = some (.int .i64 nt) := by simp [World.cell?, x1]
  have v9 : w1.cell? ⟨w.heap.size, 9, none⟩ = some (.int .i64 mn) := by simp [World.cell?, x1]
  have XX := Lib.hid x1
  clear x1 gb g1 X0
  have HG := Lib.hid G1
  obtain ⟨kb, hkb⟩ : ∃ z, z = w1.heap.size := ⟨_, rfl⟩
  obtain ⟨wB, hwB⟩ : ∃ y, y = (w1.alloc (.cells #[.iface 160 (.agg #[]), .iface 161 (.agg #[]), .iface 162 (.agg #[]), .iface 163 (.agg #[]), .iface 164 (.agg #[]), .iface 165 (.agg #[])] 199)).alloc (.cells #[.string nm, .int .i64 zb, .slice C cn cc, .slice D dn dc, .slice W wn wc, .int .i64 rest, .int .i64 week, .int .i64 nf, .int .i64 nt, .int .i64 mn, .slice none 0 0, .slice none 0 0, .slice none 0 0, .slice (some ⟨kb, 0, none⟩) 6 6] 168) := ⟨_, rfl⟩
  go_upto_region 4 with (fail)
  rw [← hkb, ← hwB]
  obtain ⟨cb, hcb⟩ : ∃ z, z = kb + 1 := ⟨_, rfl⟩
  rw [← hcb]
  have HKB := Lib.hid hkb
  have HCB := Lib.hid hcb
  have HSZ : Hid (wB.heap.size = kb + 2) := by unfold Hid; rw [hwB, hkb]; simp
  have HK0 : Hid (Blk wB kb 199 ifs) := by unfold Hid; rw [hwB, hkb]; exact (Blk.new w1 199 ifs).grew ((Grew.refl _).alloc _)
  have HB0 : Hid (Blk wB cb 168 [.string nm, .int .i64 zb, .slice C cn cc, .slice D dn dc, .slice W wn wc, .int .i64 rest, .int .i64 week, .int .i64 nf, .int .i64 nt, .int .i64 mn, .slice none 0 0, .slice none 0 0, .slice none 0 0, .slice (some ⟨w1.heap.size, 0, none⟩) 6 6]) := by
   unfold Hid; rw [hwB, hcb, hkb]; have := Blk.new (w1.alloc (.cells #[.iface 160 (.agg #[]), .iface 161 (.agg #[]), .iface 162 (.agg #[]), .iface 163 (.agg #[]), .iface 164 (.agg #[]), .iface 165 (.agg #[])] 199)) 168 [.string nm, .int .i64 zb, .slice C cn cc, .slice D dn dc, .slice W wn wc, .int .i64 rest, .int .i64 week, .int .i64 nf, .int .i64 nt, .int .i64 mn, .slice none 0 0, .slice none 0 0, .slice none 0 0, .slice (some ⟨w1.heap.size, 0, none⟩) 6 6]; rw [World.size_alloc] at this; exact this
  rw [← hkb] at HB0
  have HG0 : Hid (Grew w1 wB) := by unfold Hid; rw [hwB]; exact ((Grew.refl _).alloc _).alloc _
  obtain ⟨hz, hn1, hn2, hdO, hwO, hlO⟩ : znB ⟨zb, ch⟩ = true ∧ dn ≤ 24 ∧ wn ≤ 12 ∧ ds.all (dOk ⟨zb, ch⟩) = true ∧ ws.all wOk = true ∧ lOk ⟨rest, week, nf, nt, mn⟩ = true := by
   have := HT.out
   rw [HPP.out] at this
   unfold planB Pl.z at this
   simp only [Bool.and_eq_true, decide_eq_true_eq] at this
   exact this
  obtain ⟨hnf, hnt⟩ : (0 ≤ nf ∧ nf ≤ 1440) ∧ (0 ≤ nt ∧ nt ≤ 1440) := by
   unfold lOk at hlO
   simp only [Bool.and_eq_true, decide_eq_true_eq] at hlO
   exact hlO.2.2.2
  have HZ := Lib.hid hz
  have HDO := Lib.hid hdO
  have HWO := Lib.hid hwO
  have HCH1 := Lib.hid (HCH.out.grew G1)
  have HDS1 := Lib.hid (HDS.out.grew G1)
  have HWS1 := Lib.hid (HWS.out.grew G1)
  have HDL : Hid (ds.length = dn) := HDS.out.len
  have HWL : Hid (ws.length = wn) := HWS.out.len
  obtain ⟨mL, hmL⟩ : ∃ m, m = ds.map fun x => splitL ⟨zb, ch⟩ x.a x.b := ⟨_, rfl⟩
  obtain ⟨nL, hnL⟩ : ∃ m, m = ds.map fun x => winT ⟨zb, ch⟩ x.a x.b nf nt := ⟨_, rfl⟩
  have HML := Lib.hid hmL
  have HNL := Lib.hid hnL
  replace v3 := HG0.out.cell v3
  clear v0 v1 v2 v4 v5 v6 v7 v8 v9 hz hdO hwO hlO hwB hcb hkb hmL hnL HCH HDS HWS G1
  go_wp2_with fail
  clear v3
  go_loopw [38] (fun i y => ∃ (k : Nat) (ps : List Pc) (MA NA : Option Addr) (Mc Nc : Nat), k ≤ dn ∧ i = .int .i64 k ∧
   Hid (Blk y cb 168 [.string nm, .int .i64 zb, .slice C cn cc, .slice D dn dc, .slice W wn wc, .int .i64 rest, .int .i64 week, .int .i64 nf, .int .i64 nt, .int .i64 mn, .slice MA k Mc, .slice NA k Nc, .slice none 0 0, .slice (some ⟨kb, 0, none⟩) 6 6]) ∧
   Hid (y.ownsRow w1.heap.size 43 1 (.slice MA k Mc) k (ps.flatMap encP)) ∧
   Hid (y.ownsRow w1.heap.size 3 1 (.slice NA k Nc) k ((nL.take k).map iv)) ∧
   Hid (Each (fun q l => y.ownsRow w1.heap.size 49 2 (pcV q) q.n (flat l) ∧ l.length = q.n ∧ In64 l) ps (mL.take k)) ∧
   Hid (Blk y kb 199 ifs) ∧ Hid (Grew w1 y)) (fun i _ => dn - (intOf i).toNat)
  case atStart => exact ⟨0, [], none, none, 0, 0, Nat.zero_le _, rfl, HB0.out, World.ownsRow_nil _ _ _ _, World.ownsRow_nil _ _ _ _, Each.nil, HK0.out, HG0.out⟩
  case round =>
   obtain ⟨k, ps, MA, NA, Mc, Nc, hk, rfl, HB, OM, ON, HE, HK, HR⟩ := hrel
   have X1 := Lib.hid (HR.out.block XX.out)
   by_cases hlt : k < dn
   ·obtain ⟨b, o, x, hA, hx, ⟨c0, c1, c2⟩, _⟩ := (HDS1.out.grew HR.out).at_ hlt
    subst hA
    have HXM : Hid (mL.take (k + 1) = mL.take k ++ [splitL ⟨zb, ch⟩ x.a x.b]) := by unfold Hid; rw [HML.out, List.take_add_one, List.getElem?_map, hx]; rfl
    have HXN : Hid (nL.take (k + 1) = nL.take k ++ [winT ⟨zb, ch⟩ x.a x.b nf nt]) := by unfold Hid; rw [HNL.out, List.take_add_one, List.getElem?_map, hx]; rfl
    have hdx := List.all_eq_true.1 HDO.out x (List.mem_of_getElem? hx)
    clear hx
    obtain ⟨xa, xb, xs⟩ := x
    simp only at c0 c1 c2 HXM HXN
    obtain ⟨hd1, hd2⟩ : durOk ⟨xa, xb, xs⟩ = true ∧ splitB ⟨zb, ch⟩ xa xb = true := by
     unfold dOk at hdx; simpa using hdx
    have HD1 := Lib.hid hd1
    have HD2 := Lib.hid hd2
    have e1 : (0 : Int) ≤ (k : Int) := by omega
    have e2 : (k : Int) < (dn : Int) := by omega
    obtain ⟨wa, hwa⟩ : ∃ y, y = wr.alloc (.cells #[.int .i64 xa, .int .i64 xb, .int .i64 xs] 47) := ⟨_, rfl⟩
    obtain ⟨ba, hba⟩ : ∃ z, z = wr.heap.size := ⟨_, rfl⟩
    have XA : Hid (wa.heap[ba]? = some (.cells #[.int .i64 xa, .int .i64 xb, .int .i64 xs] 47)) := by unfold Hid; rw [hwa, hba]; exact World.alloc_heap_new wr _
    have ga : Grew wr wa := by rw [hwa]; exact (Grew.refl wr).alloc _
    go_upto_region 7 with (fail)
    rw [← hwa, ← hba]
    have HGa := Lib.hid (HR.out.trans ga)
    have HGra := Lib.hid ga
    have x1 := ga.block X1.out
    have v0 : wa.cell? ⟨w.heap.size, 0, none⟩ = some (.string nm) := by simp [World.cell?, x1]
    have v1 : wa.cell? ⟨w.heap.size, 1, none⟩ = some (.int .i64 zb) := by simp [World.cell?, x1]
    have v2 : wa.cell? ⟨w.heap.size, 2, none⟩ = some (.slice C cn cc) := by simp [World.cell?, x1]
    have x2 := XA.out
    have u0 : wa.cell? ⟨ba, 0, none⟩ = some (.int .i64 xa) := by simp [World.cell?, x2]
    have u1 : wa.cell? ⟨ba, 1, none⟩ = some (.int .i64 xb) := by simp [World.cell?, x2]
    have u2 : wa.cell? ⟨ba, 2, none⟩ = some (.int .i64 xs) := by simp [World.cell?, x2]
    clear x1 x2 hwa hba ga c0 c1 c2 hd1 hd2 hdx
    go_wp2_with fail
    refine (min14 nm zb C cn cc ch ⟨xa, xb, xs⟩ wa (HCH1.out.grew HGa.out) HZ.out).mono ?_
    intro r w4 hr
    obtain ⟨A5, n5, c5, rfl, ⟨hsp, hown⟩, g4⟩ : ∃ A5 n5 c5, r = .returned (.tuple #[.slice A5 n5 c5, .int .i64 0]) ∧ (Spans w4 A5 n5 c5 (splitL ⟨zb, ch⟩ xa xb) ∧ w4.ownsRow wa.heap.size 49 2 (.slice A5 n5 c5) n5 (flat (splitL ⟨zb, ch⟩ xa xb))) ∧ Grew wa w4 := by
     rcases hr with ⟨_, h⟩ | ⟨h, _⟩
     ·rcases h with ⟨_, h⟩ | ⟨h, _⟩
      ·exact h
      ·exact absurd (HD2.out.symm.trans h) (by simp)
     ·exact absurd (HD1.out.symm.trans h) (by simp)
    have HSP := Lib.hid hsp
    have HOW := Lib.hid hown
    have x1 := g4.block (HGra.out.block X1.out)
    clear hr hsp hown v0 v1 v2
    have v0 : w4.cell? ⟨w.heap.size, 0, none⟩ = some (.string nm) := by simp [World.cell?, x1]
    have v1 : w4.cell? ⟨w.heap.size, 1, none⟩ = some (.int .i64 zb) := by simp [World.cell?, x1]
    have v2 : w4.cell? ⟨w.heap.size, 2, none⟩ = some (.slice C cn cc) := by simp [World.cell?, x1]
    have v7 : w4.cell? ⟨w.heap.size, 7, none⟩ = some (.int .i64 nf) := by simp [World.cell?, x1]
    have v8 : w4.cell? ⟨w.heap.size, 8, none⟩ = some (.int .i64 nt) := by simp [World.cell?, x1]
    replace u0 := g4.cell u0
    replace u1 := g4.cell u1
    replace u2 := g4.cell u2
    clear x1
    go_wp2_with fail
    refine (night72 nm zb C cn cc ch ⟨xa, xb, xs⟩ nf nt w4 ((HCH1.out.grew HGa.out).grew g4) HZ.out HD1.out hnf hnt).mono ?_
    rintro r w5 ⟨rfl, g5⟩
    clear v0 v1 v2 v7 v8 u0 u1 u2
    have g15 := HGra.out.trans (g4.trans g5)
    have HB5 := Lib.hid (HB.out.grew g15)
    have HK5 := Lib.hid (HK.out.grew g15)
    have OM5 := Lib.hid (own_grew OM.out g15)
    have ON5 := Lib.hid (own_grew ON.out g15)
    have HE5 := Lib.hid (HE.out.imp (S := fun q l => w5.ownsRow w1.heap.size 49 2 (pcV q) q.n (flat l) ∧ l.length = q.n ∧ In64 l) fun q l h => ⟨own_grew h.1 g15, h.2⟩)
    have HR5 := Lib.hid (HR.out.trans g15)
    have HOW5 : Hid (w5.ownsRow w1.heap.size 49 2 (.slice A5 n5 c5) n5 (flat (splitL ⟨zb, ch⟩ xa xb))) := own_base (own_grew HOW.out g5) HGa.out.le
    have HLN : Hid ((splitL ⟨zb, ch⟩ xa xb).length = n5) := HSP.out.1
    have HI6 : Hid (In64 (splitL ⟨zb, ch⟩ xa xb)) := HSP.out.2.2
    clear g15 HB HK OM ON HE HR g4 g5 HOW HGa HGra HSP X1 XA
    go_upto_region 9 with (fail)
    obtain ⟨wy, hwy⟩ : ∃ y, y = w5.alloc (.cells #[.slice A5 n5 c5] 43) := ⟨_, rfl⟩
    have gy : Grew w5 wy := by rw [hwy]; exact (Grew.refl w5).alloc _
    have BI : Hid (Sl wy 1 (some ⟨w5.heap.size, 0, none⟩) 1 1 (encP ⟨A5, n5, c5⟩)) := by unfold Hid; rw [hwy]; exact builtS (w := w5) (t := 43) 1 1 #[.slice A5 n5 c5] _ rfl rfl (by decide)
    have OMy := Lib.hid (own_grew OM5.out gy)
    have ONy := Lib.hid (own_grew ON5.out gy)
    have HBy := Lib.hid (HB5.out.grew gy)
    have HKy := Lib.hid (HK5.out.grew gy)
    have HRy := Lib.hid (HR5.out.trans gy)
    have HOWy := Lib.hid (own_grew HOW5.out gy)
    have HEy := Lib.hid (HE5.out.imp (S := fun q l => wy.ownsRow w1.heap.size 49 2 (pcV q) q.n (flat l) ∧ l.length = q.n ∧ In64 l) fun q l h => ⟨own_grew h.1 gy, h.2⟩)
    have cB : w5.cell? ⟨cb, 10, none⟩ = some (.slice MA k Mc) := HB5.out.cell rfl
    clear gy OM5 ON5 HB5 HK5 HR5 HE5 HOW5
    go_upto_region 10 with (at_builtin; rw [← hwy]; refine wpList_append_sl _ rfl (.tmp 63) (.tmp 65) 97 rfl w1.heap.size 43 i43 (.slice none 0 0) 1 24 Tryz.underlying97 hi43 hz43 hs43 hb43 rfl (by decide) (.slice MA k Mc) k _ rfl OMy.out (some ⟨w5.heap.size, 0, none⟩) 1 1 _ rfl BI.out (fun u hu => encP_ok.one _ u hu) (by unfold maxLen; omega) (by omega) HRy.out.le ?_; intro v7 w7 own7 hg7 hat7; obtain ⟨A7, c7, rfl⟩ := own_form own7; have HB7 := Lib.hid (HBy.out.kept hg7 (own_blk OMy.out HBy.out (by decide))); have c7' := HB7.out.cell (i := 10) (v := .slice MA k Mc) rfl; have f7 := HB7.out.frozen 10)
    obtain ⟨w8, hw8⟩ : ∃ y, y = w7.setCell ⟨cb, 10, none⟩ (.slice A7 (k + 1) c7) := ⟨_, rfl⟩
    rw [← hw8]
    have G8 := Lib.hid (grown_set w7 cb 10 (.slice A7 (k + 1) c7))
    rw [← hw8] at G8
    have HB8 : Hid (Blk w8 cb 168 [.string nm, .int .i64 zb, .slice C cn cc, .slice (some ⟨b, o, none⟩) dn dc, .slice W wn wc, .int .i64 rest, .int .i64 week, .int .i64 nf, .int .i64 nt, .int .i64 mn, .slice A7 (k + 1) c7, .slice NA k Nc, .slice none 0 0, .slice (some ⟨kb, 0, none⟩) 6 6]) := by unfold Hid; rw [hw8]; exact HB7.out.set 10 _
    have hnM : ∀ (t : TypeId), t ≠ 168 → ∀ (size n : Nat) (v : Value) (xs : List Value), w7.ownsRow w1.heap.size t size v n xs → w8.ownsRow w1.heap.size t size v n xs := fun t ht size n v xs h => h.kept G8.out (own_blk' h HB7.out ht)
    have OM8 : Hid (w8.ownsRow w1.heap.size 43 1 (.slice A7 (k + 1) c7) (k + 1) ((ps ++ [(⟨A5, n5, c5⟩ : Pc)]).flatMap encP)) := by unfold Hid; rw [List.flatMap_append, List.flatMap_singleton]; exact hnM 43 (by decide) _ _ _ _ own7
    have ON8 := Lib.hid (hnM 3 (by decide) _ _ _ _ (own_kept ONy.out OMy.out (by decide) hg7))
    have HK8 : Hid (Blk w8 kb 199 ifs) := by
     have h1 := HKy.out.kept hg7 (own_blk OMy.out HKy.out (by decide))
     exact h1.kept G8.out (by intro h; injection h with h; have := HCB.out; omega)
    have HE8 : Hid (Each (fun q l => w8.ownsRow w1.heap.size 49 2 (pcV q) q.n (flat l) ∧ l.length = q.n ∧ In64 l) (ps ++ [(⟨A5, n5, c5⟩ : Pc)]) (mL.take (k + 1))) := by
     unfold Hid; rw [HXM.out]
     refine (HEy.out.imp fun q l h => ⟨hnM 49 (by decide) _ _ _ _ (own_kept h.1 OMy.out (by decide) hg7), h.2⟩).snoc ⟨hnM 49 (by decide) _ _ _ _ (own_kept HOWy.out OMy.out (by decide) hg7), HLN.out, HI6.out⟩
    have HR8 : Hid (Grew w1 w8) := (HRy.out.grown hg7 (fun j hj => (OMy.out.lt j hj).1)).grown G8.out (fun j hj => by injection hj with hj; have := HKB.out; have := HCB.out; omega)
    clear hw8 hwy hnM own7 hg7 hat7 HB7 c7' f7 cB OMy ONy HBy HKy HRy HOWy HEy BI G8
    obtain ⟨wz, hwz⟩ : ∃ y, y = w8.alloc (.cells #[.int .i64 (winT ⟨zb, ch⟩ xa xb nf nt)] 3) := ⟨_, rfl⟩
    have gy : Grew w8 wz := by rw [hwz]; exact (Grew.refl w8).alloc _
    have BI : Hid (Sl wz 1 (some ⟨w8.heap.size, 0, none⟩) 1 1 ([winT ⟨zb, ch⟩ xa xb nf nt].map iv)) := by unfold Hid; rw [hwz]; exact builtS (w := w8) (t := 3) 1 1 #[.int .i64 (winT ⟨zb, ch⟩ xa xb nf nt)] _ rfl rfl (by decide)
    have OMy := Lib.hid (own_grew OM8.out gy)
    have ONy := Lib.hid (own_grew ON8.out gy)
    have HBy := Lib.hid (HB8.out.grew gy)
    have HKy := Lib.hid (HK8.out.grew gy)
    have HRy := Lib.hid (HR8.out.trans gy)
    have HEy := Lib.hid (HE8.out.imp (S := fun q l => wz.ownsRow w1.heap.size 49 2 (pcV q) q.n (flat l) ∧ l.length = q.n ∧ In64 l) fun q l h => ⟨own_grew h.1 gy, h.2⟩)
    have cB : w8.cell? ⟨cb, 11, none⟩ = some (.slice NA k Nc) := HB8.out.cell rfl
    clear gy OM8 ON8 HB8 HK8 HR8 HE8
    go_upto_region 11 with (at_builtin; rw [← hwz]; refine wpList_append_sl _ rfl (.tmp 73) (.tmp 75) 38 rfl w1.heap.size 3 i3 (.int .i64 0) 1 8 Tryz.underlying38 hi3 hz3 hs3 hb3 rfl (by decide) (.slice NA k Nc) k _ rfl ONy.out (some ⟨w8.heap.size, 0, none⟩) 1 1 _ rfl BI.out (iv_one _) (by unfold maxLen; omega) (by omega) HRy.out.le ?_; intro v7 w7 own7 hg7 hat7; obtain ⟨A9, c9, rfl⟩ := own_form own7; have HB7 := Lib.hid (HBy.out.kept hg7 (own_blk ONy.out HBy.out (by decide))); have c7' := HB7.out.cell (i := 11) (v := .slice NA k Nc) rfl; have f7 := HB7.out.frozen 11)
    obtain ⟨w8, hw8⟩ : ∃ y, y = w7.setCell ⟨cb, 11, none⟩ (.slice A9 (k + 1) c9) := ⟨_, rfl⟩
    rw [← hw8]
    have G8 := Lib.hid (grown_set w7 cb 11 (.slice A9 (k + 1) c9))
    rw [← hw8] at G8
    have HB8 : Hid (Blk w8 cb 168 [.string nm, .int .i64 zb, .slice C cn cc, .slice (some ⟨b, o, none⟩) dn dc, .slice W wn wc, .int .i64 rest, .int .i64 week, .int .i64 nf, .int .i64 nt, .int .i64 mn, .slice A7 (k + 1) c7, .slice A9 (k + 1) c9, .slice none 0 0, .slice (some ⟨kb, 0, none⟩) 6 6]) := by unfold Hid; rw [hw8]; exact HB7.out.set 11 _
    have hnM : ∀ (t : TypeId), t ≠ 168 → ∀ (size n : Nat) (v : Value) (xs : List Value), w7.ownsRow w1.heap.size t size v n xs → w8.ownsRow w1.heap.size t size v n xs := fun t ht size n v xs h => h.kept G8.out (own_blk' h HB7.out ht)
    have ON8 : Hid (w8.ownsRow w1.heap.size 3 1 (.slice A9 (k + 1) c9) (k + 1) ((nL.take (k + 1)).map iv)) := by unfold Hid; rw [HXN.out, List.map_append]; exact hnM 3 (by decide) _ _ _ _ own7
    have OM8 := Lib.hid (hnM 43 (by decide) _ _ _ _ (own_kept OMy.out ONy.out (by decide) hg7))
    have HK8 : Hid (Blk w8 kb 199 ifs) := by
     have h1 := HKy.out.kept hg7 (own_blk ONy.out HKy.out (by decide))
     exact h1.kept G8.out (by intro h; injection h with h; have := HCB.out; omega)
    have HE8 := Lib.hid (HEy.out.imp (S := fun q l => w8.ownsRow w1.heap.size 49 2 (pcV q) q.n (flat l) ∧ l.length = q.n ∧ In64 l) fun q l h => ⟨hnM 49 (by decide) _ _ _ _ (own_kept h.1 ONy.out (by decide) hg7), h.2⟩)
    have HR8 : Hid (Grew w1 w8) := (HRy.out.grown hg7 (fun j hj => (ONy.out.lt j hj).1)).grown G8.out (fun j hj => by injection hj with hj; have := HKB.out; have := HCB.out; omega)
    clear hw8 hwz hnM own7 hg7 hat7 HB7 c7' f7 cB OMy ONy HBy HKy HRy HEy BI G8
    go_wp2_with fail
    go_roundw
    case rel => exact ⟨k + 1, ps ++ [⟨A5, n5, c5⟩], A7, A9, c7, c9, by omega, by go_num, HB8, OM8, ON8, HE8, HK8, HR8⟩
    case measure => simp [intOf]; omega
   ·obtain rfl : dn = k := by omega
    have x1 := X1.out
    have v4 : wr.cell? ⟨w.heap.size, 4, none⟩ = some (.slice W wn wc) := by simp [World.cell?, x1]
    have HML2 : Hid (Each (fun q l => wr.ownsRow w1.heap.size 49 2 (pcV q) q.n (flat l) ∧ l.length = q.n ∧ In64 l) ps mL) := by
     have := HE.out; rw [List.take_of_length_le (by rw [HML.out, List.length_map, HDL.out]; exact Nat.le_refl _)] at this; exact this
    have ON2 : Hid (wr.ownsRow w1.heap.size 3 1 (.slice NA dn Nc) dn (nL.map iv)) := by
     have := ON.out; rw [List.take_of_length_le (by rw [HNL.out, List.length_map, HDL.out]; exact Nat.le_refl _)] at this; exact this
    obtain ⟨aF, haF⟩ : ∃ f : Wo → List Bool, f = fun x => ds.map fun d => meetB x.aw d := ⟨_, rfl⟩
    have HAF := Lib.hid haF
    clear x1 HE ON haF HSZ HK0 HB0 HG0
    obtain ⟨we, rfl⟩ : ∃ y, y = wr := ⟨wr, rfl⟩
    go_wp2_with fail
    clear v4
    have HWE := Lib.hid HR.out
    go_loopw [83] (fun i y => ∃ (k : Nat) (qs : List Pc) (BA : Option Addr) (Bc : Nat), k ≤ wn ∧ i = .int .i64 k ∧
     Hid (Blk y cb 168 [.string nm, .int .i64 zb, .slice C cn cc, .slice D dn dc, .slice W wn wc, .int .i64 rest, .int .i64 week, .int .i64 nf, .int .i64 nt, .int .i64 mn, .slice MA dn Mc, .slice NA dn Nc, .slice BA k Bc, .slice (some ⟨kb, 0, none⟩) 6 6]) ∧
     Hid (y.ownsRow we.heap.size 119 1 (.slice BA k Bc) k (qs.flatMap encP)) ∧
     Hid (Each (fun q l => y.ownsRow w1.heap.size 4 1 (pcV q) q.n (l.map bV) ∧ l.length = q.n) qs ((ws.map aF).take k)) ∧
     Hid (KeepB (fun j => j ≠ cb) we y) ∧ Hid (Grew w1 y)) (fun i _ => wn - (intOf i).toNat)
    case atStart => exact ⟨0, [], none, 0, Nat.zero_le _, rfl, HB.out, World.ownsRow_nil _ _ _ _, Each.nil, KeepB.refl _, HR.out⟩
    case round =>
     have HB1 := HB
     clear HB
     obtain ⟨k, qs, BA, Bc, hk, rfl, HB, OB, HE, HKP, HRy⟩ := hrel
     have X2 := Lib.hid (HRy.out.block XX.out)
     by_cases hlt : k < wn
     ·obtain ⟨b, o, x, hA, hx, ⟨c0, c1, c2, c3, c4⟩, hsp, _⟩ := (HWS1.out.grew HRy.out).at_ hlt
      subst hA
      have HXA : Hid ((ws.map aF).take (k + 1) = (ws.map aF).take k ++ [aF x]) := by unfold Hid; rw [List.take_add_one, List.getElem?_map, hx]; rfl
      have hwx := List.all_eq_true.1 HWO.out x (List.mem_of_getElem? hx)
      have HSP := Lib.hid hsp
      clear hx hsp
      obtain ⟨xn, xsk, xmi, xwg, xA, xn', xc, xaw⟩ := x
      simp only at c0 c1 c2 c3 c4
      have hx4 : xn' ≤ 400 := by unfold wOk at hwx; simp only [Bool.and_eq_true, decide_eq_true_eq] at hwx; exact hwx.2.2.1
      have HSPx : Hid (Spans wr xA xn' xc xaw) := HSP
      have e1 : (0 : Int) ≤ (k : Int) := by omega
      have e2 : (k : Int) < (wn : Int) := by omega
      obtain ⟨wa, hwa⟩ : ∃ y, y = wr.alloc (.cells #[.string xn, .int .i64 xsk, .bool xmi, .int .i64 xwg, .slice xA xn' xc] 56) := ⟨_, rfl⟩
      obtain ⟨ba, hba⟩ : ∃ z, z = wr.heap.size := ⟨_, rfl⟩
      have XA : Hid (wa.heap[ba]? = some (.cells #[.string xn, .int .i64 xsk, .bool xmi, .int .i64 xwg, .slice xA xn' xc] 56)) := by unfold Hid; rw [hwa, hba]; exact World.alloc_heap_new wr _
      have ga : Grew wr wa := by rw [hwa]; exact (Grew.refl wr).alloc _
      go_upto_region 15 with (fail)
      rw [← hwa, ← hba]
      have x1 := ga.block X2.out
      have v3 : wa.cell? ⟨w.heap.size, 3, none⟩ = some (.slice D dn dc) := by simp [World.cell?, x1]
      obtain ⟨wm, hmk, hown, gm⟩ := make_bools w1.heap.size dn (by omega) wa (HRy.out.trans ga).le
      obtain ⟨rb, hrb⟩ : ∃ z, z = wa.heap.size := ⟨_, rfl⟩
      rw [← hrb] at hmk hown
      have HAX : Hid ((aF ⟨xn, xsk, xmi, xwg, xA, xn', xc, xaw⟩).length = dn) := by unfold Hid; rw [HAF.out, List.length_map]; exact HDL.out
      obtain ⟨aL, haL⟩ : ∃ l, aF ⟨xn, xsk, xmi, xwg, xA, xn', xc, xaw⟩ = l := ⟨_, rfl⟩
      rw [haL] at HXA HAX
      have HAL : Hid (aL = ds.map fun d => meetB xaw d) := by unfold Hid; rw [← haL, HAF.out]
      have HGam := Lib.hid (ga.trans gm)
      have HOWN : Hid (wm.ownsRow w1.heap.size 4 1 (.slice (some ⟨rb, 0, none⟩) dn dn) dn (((aL.take 0 ++ List.replicate (dn - 0) false)).map bV)) := hown
      have hrb2 : wr.heap.size ≤ rb := by rw [hrb]; exact ga.le
      have HRB := Lib.hid hrb2
      have XAm := Lib.hid (gm.block XA.out)
      have hbr : ba ≠ rb := by have := (Array.getElem?_eq_some_iff.1 XA.out).1; omega
      have HBR := Lib.hid hbr
      clear hbr
      clear x1 hwa hba hwx haL hown c0 c1 c2 c3 c4 hrb hrb2
      go_upto_region 16 with (fail)
      clear hmk v3
      have x1 := (ga.trans gm).block X2.out
      have v3 : wm.cell? ⟨w.heap.size, 3, none⟩ = some (.slice D dn dc) := by simp [World.cell?, x1]
      clear x1
      go_wp2_with fail
      clear v3
      go_loopw [94] (fun i y => ∃ j : Nat, j ≤ dn ∧ i = .int .i64 j ∧
       Hid (y.ownsRow w1.heap.size 4 1 (.slice (some ⟨rb, 0, none⟩) dn dn) dn ((aL.take j ++ List.replicate (dn - j) false).map bV)) ∧
       Hid (KeepB (fun q => q ≠ rb) wm y) ∧ Hid (Grew wr y)) (fun i _ => dn - (intOf i).toNat)
      case atStart => exact ⟨0, Nat.zero_le _, rfl, HOWN.out, KeepB.refl _, HGam.out⟩
      case round =>
       clear HOWN
       obtain ⟨j, hj, rfl, OB3, HK3, HR3⟩ := hrel
       by_cases hlj : j < dn
       ·obtain ⟨b', o', y, hA', hy, ⟨d0, d1, d2⟩, _⟩ := (HDS1.out.grew (HRy.out.trans HR3.out)).at_ hlj
        have hdy := List.all_eq_true.1 HDO.out y (List.mem_of_getElem? hy)
        have HAJ : Hid (aL[j]? = some (meetB xaw y)) := by unfold Hid; rw [HAL.out, List.getElem?_map, hy]; rfl
        clear hy
        obtain ⟨ya, yb, ys⟩ := y
        subst hA'
        simp only at d0 d1 d2
        obtain ⟨l1, l2, l3, l4, _, _⟩ : 0 ≤ ya ∧ ya < yb ∧ yb ≤ 52596000 ∧ yb - ya ≤ 1440 ∧ 0 ≤ ys ∧ ys ≤ 65535 := by
         unfold dOk durOk at hdy
         simp only [Bool.and_eq_true, decide_eq_true_eq] at hdy
         exact hdy.1
        have e1 : (0 : Int) ≤ (j : Int) := by omega
        have e2 : (j : Int) < (dn : Int) := by omega
        obtain ⟨wb, hwb⟩ : ∃ y, y = wr.alloc (.cells #[.int .i64 ya, .int .i64 yb, .int .i64 ys] 47) := ⟨_, rfl⟩
        obtain ⟨bb, hbb⟩ : ∃ z, z = wr.heap.size := ⟨_, rfl⟩
        have XB : Hid (wb.heap[bb]? = some (.cells #[.int .i64 ya, .int .i64 yb, .int .i64 ys] 47)) := by unfold Hid; rw [hwb, hbb]; exact World.alloc_heap_new wr _
        have gb3 : Grew wr wb := by rw [hwb]; exact (Grew.refl wr).alloc _
        go_upto_region 19 with (fail)
        rw [← hwb, ← hbb]
        clear hwb hbb d0 d1 d2 hdy
        obtain ⟨wc', hwc⟩ : ∃ y, y = wb.alloc (.cells #[.int .i64 ya, .int .i64 yb] 28) := ⟨_, rfl⟩
        obtain ⟨bc, hbc⟩ : ∃ z, z = wb.heap.size := ⟨_, rfl⟩
        have gc : Grew wb wc' := by rw [hwc]; exact (Grew.refl wb).alloc _
        have HS1 : Hid (Spans wc' (some ⟨bc, 0, none⟩) 1 1 [(ya, yb)]) := by
         unfold Hid; rw [hwc, hbc]
         exact ⟨rfl, builtS (w := wb) (t := 28) 2 1 #[.int .i64 ya, .int .i64 yb] (flat [(ya, yb)]) rfl rfl (by decide), fun s hs => by rw [List.mem_singleton] at hs; subst hs; exact ⟨⟨by show (-9223372036854775808 : Int) ≤ ya; omega, by show ya ≤ 9223372036854775807; omega⟩, ⟨by show (-9223372036854775808 : Int) ≤ yb; omega, by show yb ≤ 9223372036854775807; omega⟩⟩⟩
        have x2 := XB.out
        have u0 : wb.cell? ⟨bb, 0, none⟩ = some (.int .i64 ya) := by simp [World.cell?, x2]
        have u1 : wb.cell? ⟨bb, 1, none⟩ = some (.int .i64 yb) := by simp [World.cell?, x2]
        have x3 := gb3.block (HK3.out.2 _ _ (show ba ≠ rb from HBR.out) XAm.out)
        have u4 : wb.cell? ⟨ba, 4, none⟩ = some (.slice xA xn' xc) := by simp [World.cell?, x3]
        clear x2 x3
        obtain ⟨M, hM⟩ : ∃ M, meet xaw [(ya, yb)] = M := ⟨_, rfl⟩
        have HM := Lib.hid hM
        have g3c := Lib.hid (gb3.trans gc)
        clear hM
        have hmeet := meet_val ((HSPx.out.grew HR3.out).grew g3c.out) HS1.out (by omega) (by omega) HM.out
        have HMEET := Lib.hid hmeet
        clear hmeet
        go_upto_region 20 with (go_at_call 73; rw [← hwc, ← hbc]; clear hwc hbc; refine HMEET.out.mono ?_; rintro r w9 ⟨A9, n9, c9, rfl, hs9, g9⟩; have OB9 := Lib.hid (own_grew OB3.out (g3c.out.trans g9)); have cO := (OB9.out.cellAt j (by omega)).trans (fill_at HAX.out hlj); have fO := OB9.out.frozenAt j)
        have hbit : Hid (decide (0 < n9) = meetB xaw ⟨ya, yb, ys⟩) := by
         unfold Hid meetB
         simp only
         have h9 := hs9.1
         rw [HM.out]
         cases M with
         | nil => simp at h9; subst h9; rfl
         | cons q M => simp at h9; subst h9; simp
        have OS := OB9.out.stored j (bV (meetB xaw ⟨ya, yb, ys⟩))
        rw [set_fill HAX.out HAJ.out] at OS
        have HOS := Lib.hid OS.1
        have HGS := Lib.hid OS.2
        clear OS
        rw [show (Value.bool (decide (0 < n9))) = bV (meetB xaw ⟨ya, yb, ys⟩) from congrArg Value.bool hbit.out]
        have HKn : Hid (KeepB (fun q => q ≠ rb) wm (w9.setCell ⟨rb, j, none⟩ (bV (meetB xaw ⟨ya, yb, ys⟩)))) := (HK3.out.trans (KeepB.grew (g3c.out.trans g9))).trans (KeepB.grown HGS.out (fun h => h rfl))
        have HRn := Lib.hid ((HR3.out.trans (g3c.out.trans g9)).grown HGS.out (fun j hj => by injection hj with hj; have := HRB.out; omega))
        obtain ⟨wn', hwn'⟩ : ∃ y, y = w9.setCell ⟨rb, j, none⟩ (bV (meetB xaw ⟨ya, yb, ys⟩)) := ⟨_, rfl⟩
        rw [← hwn'] at HKn HRn HOS ⊢
        clear hwn' HGS cO fO OB9 hbit
        go_wp2_with fail
        go_roundw
        case rel => exact ⟨j + 1, by omega, by go_num, HOS, HKn, HRn⟩
        case measure => simp [intOf]; omega
       ·obtain rfl : dn = j := by omega
        have g3 := HR3.out
        have OBr : Hid (wr.ownsRow w1.heap.size 4 1 (.slice (some ⟨rb, 0, none⟩) dn dn) dn (aL.map bV)) := by have := OB3.out; rw [fill_all HAX.out] at this; exact this
        have HBr := Lib.hid (HB.out.grew g3)
        have OWr := Lib.hid (own_grew OB.out g3)
        have HEr := Lib.hid (HE.out.imp (S := fun q l => wr.ownsRow w1.heap.size 4 1 (pcV q) q.n (l.map bV) ∧ l.length = q.n) fun q l h => ⟨own_grew h.1 g3, h.2⟩)
        have HKr := Lib.hid (HKP.out.trans (KeepB.grew (G := fun j => j ≠ cb) g3))
        have HRr := Lib.hid (HRy.out.trans g3)
        clear g3 OB3 HK3 HR3 HB OB HE HKP HRy HGam HRB HBR XAm XA HSPx HSP X2
        go_upto_region 21 with (fail)
        obtain ⟨wy, hwy⟩ : ∃ y, y = wr.alloc (.cells #[.slice (some ⟨rb, 0, none⟩) dn dn] 119) := ⟨_, rfl⟩
        have gy : Grew wr wy := by rw [hwy]; exact (Grew.refl wr).alloc _
        have BI : Hid (Sl wy 1 (some ⟨wr.heap.size, 0, none⟩) 1 1 (encP ⟨some ⟨rb, 0, none⟩, dn, dn⟩)) := by unfold Hid; rw [hwy]; exact builtS (w := wr) (t := 119) 1 1 #[.slice (some ⟨rb, 0, none⟩) dn dn] _ rfl rfl (by decide)
        have OWy := Lib.hid (own_grew OWr.out gy)
        have OBy := Lib.hid (own_grew OBr.out gy)
        have HBy := Lib.hid (HBr.out.grew gy)
        have HKy := Lib.hid (HKr.out.trans (KeepB.grew (G := fun j => j ≠ cb) gy))
        have HRy := Lib.hid (HRr.out.trans gy)
        have HEy := Lib.hid (HEr.out.imp (S := fun q l => wy.ownsRow w1.heap.size 4 1 (pcV q) q.n (l.map bV) ∧ l.length = q.n) fun q l h => ⟨own_grew h.1 gy, h.2⟩)
        have cB : wr.cell? ⟨cb, 12, none⟩ = some (.slice BA k Bc) := HBr.out.cell rfl
        clear gy OWr OBr HBr HKr HRr HEr
        go_upto_region 22 with (at_builtin; rw [← hwy]; refine wpList_append_sl _ rfl (.tmp 118) (.tmp 120) 118 rfl we.heap.size 119 i119 (.slice none 0 0) 1 24 Tryz.underlying118 hi119 hz119 hs119 hb119 rfl (by decide) (.slice BA k Bc) k _ rfl OWy.out (some ⟨wr.heap.size, 0, none⟩) 1 1 _ rfl BI.out (fun u hu => encP_ok.one _ u hu) (by unfold maxLen; omega) (by omega) HKy.out.1 ?_; intro v7 w7 own7 hg7 hat7; obtain ⟨A7, c7, rfl⟩ := own_form own7; have HB7 := Lib.hid (HBy.out.kept hg7 (own_blk OWy.out HBy.out (by decide))); have c7' := HB7.out.cell (i := 12) (v := .slice BA k Bc) rfl; have f7 := HB7.out.frozen 12)
        obtain ⟨w8, hw8⟩ : ∃ y, y = w7.setCell ⟨cb, 12, none⟩ (.slice A7 (k + 1) c7) := ⟨_, rfl⟩
        rw [← hw8]
        have G8 := Lib.hid (grown_set w7 cb 12 (.slice A7 (k + 1) c7))
        rw [← hw8] at G8
        have HB8 : Hid (Blk w8 cb 168 [.string nm, .int .i64 zb, .slice C cn cc, .slice D dn dc, .slice (some ⟨b, o, none⟩) wn wc, .int .i64 rest, .int .i64 week, .int .i64 nf, .int .i64 nt, .int .i64 mn, .slice MA dn Mc, .slice NA dn Nc, .slice A7 (k + 1) c7, .slice (some ⟨kb, 0, none⟩) 6 6]) := by unfold Hid; rw [hw8]; exact HB7.out.set 12 _
        have hnM : ∀ (t : TypeId), t ≠ 168 → ∀ (bs size n : Nat) (v : Value) (xs : List Value), w7.ownsRow bs t size v n xs → w8.ownsRow bs t size v n xs := fun t ht bs size n v xs h => h.kept G8.out (own_blk' h HB7.out ht)
        have OM8 : Hid (w8.ownsRow we.heap.size 119 1 (.slice A7 (k + 1) c7) (k + 1) ((qs ++ [(⟨some ⟨rb, 0, none⟩, dn, dn⟩ : Pc)]).flatMap encP)) := by unfold Hid; rw [List.flatMap_append, List.flatMap_singleton]; exact hnM 119 (by decide) _ _ _ _ _ own7
        have HE8 : Hid (Each (fun q l => w8.ownsRow w1.heap.size 4 1 (pcV q) q.n (l.map bV) ∧ l.length = q.n) (qs ++ [(⟨some ⟨rb, 0, none⟩, dn, dn⟩ : Pc)]) ((ws.map aF).take (k + 1))) := by
         unfold Hid; rw [HXA.out]
         refine (HEy.out.imp fun q l h => ⟨hnM 4 (by decide) _ _ _ _ _ (own_kept h.1 OWy.out (by decide) hg7), h.2⟩).snoc ⟨hnM 4 (by decide) _ _ _ _ _ (own_kept OBy.out OWy.out (by decide) hg7), HAX.out⟩
        have HK8 : Hid (KeepB (fun j => j ≠ cb) we w8) := by
         refine ⟨Nat.le_trans HKy.out.1 (Nat.le_trans hg7.size G8.out.size), fun q o hq ho => ?_⟩
         have h1 := HKy.out.2 q o hq ho
         have h2 := (hg7.block q (Array.getElem?_eq_some_iff.1 h1).1 (fun h => by have := (OWy.out.lt q h.symm).1; have := (Array.getElem?_eq_some_iff.1 ho).1; omega)).trans h1
         exact (G8.out.block q (Array.getElem?_eq_some_iff.1 h2).1 (fun h => by injection h with h; exact hq h)).trans h2
        have HR8 : Hid (Grew w1 w8) := (HRy.out.grown hg7 (fun j hj => Nat.le_trans HWE.out.le (OWy.out.lt j hj).1)).grown G8.out (fun j hj => by injection hj with hj; have := HKB.out; have := HCB.out; omega)
        clear hw8 hwy hnM own7 hg7 hat7 HB7 c7' f7 cB OWy OBy HBy HKy HRy HEy BI G8
        go_wp2_with fail
        go_roundw
        case rel => exact ⟨k + 1, qs ++ [(⟨some ⟨rb, 0, none⟩, dn, dn⟩ : Pc)], A7, c7, by omega, by go_num, HB8, OM8, HE8, HK8, HR8⟩
        case measure => simp [intOf]; omega
     ·obtain rfl : wn = k := by omega
      go_wp2
      go_ret2
      refine .inl ⟨HT.out, cb, rfl, ⟨HP.out.grew (HG.out.trans HRy.out), ⟨MA, dn, Mc⟩, ⟨NA, dn, Nc⟩, ⟨BA, wn, Bc⟩, ⟨some ⟨kb, 0, none⟩, 6, 6⟩, ps, qs, kb, ?_⟩, HG.out.trans HRy.out⟩
      have HMM : minsL p = mL := by rw [HPP.out, HML.out]; rfl
      have HNN : nightL p = nL := by rw [HPP.out, HNL.out]; rfl
      have HAA : absL p = ws.map aF := by rw [HPP.out, HAF.out]; rfl
      have hkc : kb ≠ cb := by have := HCB.out; omega
      have hE := HE.out
      rw [List.take_of_length_le (by rw [List.length_map, HWL.out]; exact Nat.le_refl _)] at hE
      have hOM := own_keepB OM.out HKP.out (own_ne OM.out HB1.out (by decide))
      have hON := own_keepB ON2.out HKP.out (own_ne ON2.out HB1.out (by decide))
      refine ⟨?_, ?_, ?_, ?_, ?_, ?_, rfl, blk_keepB HK.out HKP.out hkc⟩
      ·have := HB.out
       rw [show ckC p ⟨MA, dn, Mc⟩ ⟨NA, dn, Nc⟩ ⟨BA, wn, Bc⟩ ⟨some ⟨kb, 0, none⟩, 6, 6⟩ = [.string nm, .int .i64 zb, .slice C cn cc, .slice D dn dc, .slice W wn wc, .int .i64 rest, .int .i64 week, .int .i64 nf, .int .i64 nt, .int .i64 mn, .slice MA dn Mc, .slice NA dn Nc, .slice BA wn Bc, .slice (some ⟨kb, 0, none⟩) 6 6] by rw [HPP.out]; rfl]
       exact this
      ·exact Recs.own (by rw [HML2.out.1, HML.out, List.length_map]; exact HDL.out) hOM
      ·rw [HMM]
       exact HML2.out.imp fun q l h => ⟨h.2.1, Sl.own (own_keepB h.1 HKP.out (own_ne h.1 HB1.out (by decide))), h.2.2⟩
      ·rw [HNN]
       exact Ints.own (by rw [HNL.out, List.length_map]; exact HDL.out) hON
      ·exact Recs.own (by rw [hE.1, List.length_map]; exact HWL.out) OB.out
      ·rw [HAA]
       exact hE.imp fun q l h => ⟨h.2, Sl.own h.1⟩
end Go.Proofs.YtnnbibmmofnkdaaGreat
