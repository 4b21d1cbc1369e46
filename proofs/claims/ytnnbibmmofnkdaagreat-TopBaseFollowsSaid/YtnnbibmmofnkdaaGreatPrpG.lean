/-
 New propagations: walked.
-/
import Derived.Test.YtnnbibmmofnkdaaGreatPrpF
import Derived.WalkMore
namespace Go.Proofs.YtnnbibmmofnkdaaGreat
open Go.RowKit Go.Proofs WageMem WageReg WageRec WageSpan WageTop
open WageMap
theorem make_intsN (base n : Nat) (hn : n ≤ 100000) (w : World) (hb : base ≤ w.heap.size) : ∃ w', (Instr.makeSlice 38 (.int .i64 (n : Int)) (.int .i64 (n : Int))).run Tryz.prog w = .ok (.slice (some ⟨w.heap.size, 0, none⟩) n n) w' ∧ w'.ownsRow base 3 1 (.slice (some ⟨w.heap.size, 0, none⟩) n n) n ((List.replicate n (0 : Int)).map iv) ∧ Grew w w' ∧ w.heap.size < w'.heap.size := by
 obtain ⟨i0, hi, hz0, hz1, hz2⟩ := info_parts info3
 obtain ⟨w', h1, h2, h3⟩ := run_makeSlice_full (P := Tryz.prog) w base 38 3 i0 (.int .i64 0) 1 Tryz.underlying38 hi hz0 hz1 .i64 .i64 n (by omega) (by rw [hz2]; omega) (by unfold maxLen; omega) hb
 refine ⟨w', h1, ?_, (Grew.refl w).grown h3 (fun j hj => by cases hj), (h2.lt _ rfl).2⟩
 rw [show (Value.int .i64 0).cells = #[Value.int .i64 0] from rfl, Nat.mul_one, toList_madeCells_one] at h2
 rw [List.map_replicate]; exact h2
theorem make_bits (base n : Nat) (hn : n ≤ 100000) (w : World) (hb : base ≤ w.heap.size) : ∃ w', (Instr.makeSlice 119 (.int .i64 (n : Int)) (.int .i64 (n : Int))).run Tryz.prog w = .ok (.slice (some ⟨w.heap.size, 0, none⟩) n n) w' ∧ w'.ownsRow base 4 1 (.slice (some ⟨w.heap.size, 0, none⟩) n n) n ((List.replicate n false).map bV) ∧ Grew w w' ∧ w.heap.size < w'.heap.size := by
 obtain ⟨i0, hi, hz0, hz1, hz2⟩ := info_parts info4
 obtain ⟨w', h1, h2, h3⟩ := run_makeSlice_full (P := Tryz.prog) w base 119 4 i0 (.bool false) 1 Tryz.underlying119 hi hz0 hz1 .i64 .i64 n (by omega) (by rw [hz2]; omega) (by unfold maxLen; omega) hb
 refine ⟨w', h1, ?_, (Grew.refl w).grown h3 (fun j hj => by cases hj), (h2.lt _ rfl).2⟩
 rw [show (Value.bool false).cells = #[Value.bool false] from rfl, Nat.mul_one, toList_madeCells_one] at h2
 rw [List.map_replicate]; exact h2
theorem info69 : (Tryz.prog.info? 69).map (fun i => (i.zero, i.size, i.bytes)) = some (some (.slice none 0 0), 1, 24) := by kernel_rfl
/-- A slice of clauses, as it reads. -/
def ClsAt (w : World) (A : Option Addr) (n : Nat) (cls : List (List Li)) : Prop :=
 cls.length = n ∧ ∀ i, i < n → ∃ (b o : Nat) (A' : Option Addr) (n' c' : Nat), A = some ⟨b, o, none⟩ ∧ w.cell? ⟨b, o + i, none⟩ = some (.slice A' n' c') ∧ Recs encL 3 w A' n' c' (cls.getD i []) ∧ n' ≤ 1000
theorem ClsAt.grew {w w' : World} {A : Option Addr} {n : Nat} {cls : List (List Li)} (h : ClsAt w A n cls) (g : Grew w w') : ClsAt w' A n cls :=
 ⟨h.1, fun i hi => by
  obtain ⟨b, o, A', n', c', h1, h2, h3, h4⟩ := h.2 i hi
  exact ⟨b, o, A', n', c', h1, g.cell h2, h3.grew g, h4⟩⟩
/-- The clauses that have been entered: a row of headers, each with a row of its own. -/
def ClO (y : World) (base : Nat) (CV : Value) (R : Nat → Prop) (dl : List (List Li)) : Prop :=
 ∃ vs : List Pc, y.ownsRow base 69 1 CV dl.length (vs.map pcV) ∧ vs.length = dl.length ∧ (∀ g, CV.ownBlock = some g → R g) ∧
  ∀ i v, vs[i]? = some v → y.ownsRow base 122 3 (pcV v) v.n ((dl.getD i []).flatMap encL) ∧ (dl.getD i []).length = v.n ∧ ∀ g, (pcV v).ownBlock = some g → R g
theorem ClO.keep {y y' : World} {base : Nat} {CV : Value} {R R' G : Nat → Prop} {dl : List (List Li)} (h : ClO y base CV R dl) (k : KeepD G y y') (hG : ∀ j cur t, R j → y.heap[j]? = some (.cells cur t (0, 0)) → t ≠ 3 → G j) (hR : ∀ j, R j → R' j) : ClO y' base CV R' dl := by
 obtain ⟨vs, h1, h2, h3, h4⟩ := h
 refine ⟨vs, own_keepD h1 k (fun g hg => ?_), h2, fun g hg => hR g (h3 g hg), fun i v hv => ?_⟩
 ·obtain ⟨cur, hc⟩ := own_block h1 hg
  exact hG g cur 69 (h3 g hg) hc (by decide)
 ·obtain ⟨a1, a2, a3⟩ := h4 i v hv
  refine ⟨own_keepD a1 k (fun g hg => ?_), a2, fun g hg => hR g (a3 g hg)⟩
  obtain ⟨cur, hc⟩ := own_block a1 hg
  exact hG g cur 122 (a3 g hg) hc (by decide)
theorem ClO.at_ {y : World} {q : Pp} {base : Nat} {CV : Value} {R : Nat → Prop} {dl : List (List Li)} (h : ClO y base CV R dl) (hq : q.CS = CV) (hN : dl.length = q.N) : ClAt y q R dl := by
 obtain ⟨vs, h1, h2, h3, h4⟩ := h
 refine ⟨hN, ?_⟩
 rcases h1.2 with ⟨e1, e2⟩ | ⟨g, cap, cur, e, _⟩
 ·refine ⟨none, 0, by rw [hq, e1, ← hN, e2], fun i hi => by omega⟩
 ·refine ⟨some ⟨g, 0, none⟩, cap, by rw [hq, e, hN], fun i hi => ?_⟩
  obtain ⟨v, hv⟩ : ∃ v, vs[i]? = some v := ⟨_, List.getElem?_eq_getElem (by omega)⟩
  obtain ⟨⟨A, n, c⟩, hv⟩ : ∃ v, vs[i]? = some v := ⟨v, hv⟩
  obtain ⟨a1, a2, a3⟩ := h4 i _ hv
  refine ⟨g, 0, A, n, c, rfl, h3 g (by rw [e]; rfl), ?_, Recs.own a2 a1, fun b o hA _ => a3 b (by rw [show pcV ⟨A, n, c⟩ = .slice A n c from rfl, hA]; rfl)⟩
  rw [e] at h1
  have h5 := h1.cellAt i (by omega)
  rw [Nat.zero_add]
  rw [h5, List.getElem?_map, hv]
  rfl
/-- Where the propagation lies while it is made. -/
structure NwAt (w0 y : World) (q : Pp) (CV : Value) (m2 : List (Li × Value)) (dl : List (List Li)) (R : Nat → Prop) (s : Pg) : Prop where
 pg : PgAt y { q with CS := CV } R s
 ini : IniK dl q.N s
 pl : PlO y q m2 (plF dl)
 cl : ClO y q.base CV R dl
 r0 : ∀ j, j < w0.heap.size → R j
 r2 : R q.b2
 b2 : w0.heap.size ≤ q.b2
 rp : ∀ l g, (plV m2 l).ownBlock = some g → R g
 g : Grew w0 y
/-- What stays while the literals of a clause are entered. -/
def GI (y : World) (q : Pp) (m2 : List (Li × Value)) (j : Nat) : Prop := j < y.heap.size ∧ j ≠ q.b2 ∧ ∀ x, (plV m2 x).ownBlock ≠ some j
theorem NwAt.gi {w0 wi : World} {q : Pp} {CV : Value} {m2 : List (Li × Value)} {dl : List (List Li)} {R : Nat → Prop} {s : Pg} (h : NwAt w0 wi q CV m2 dl R s) (j : Nat) (hj : j < wi.heap.size) (hr : ¬ R j) : GI wi q m2 j :=
 ⟨hj, fun e => hr (e ▸ h.r2), fun x e => hr (h.rp x j e)⟩
theorem NwAt.all {w0 wi y : World} {q : Pp} {CV : Value} {m2 : List (Li × Value)} {dl : List (List Li)} {R : Nat → Prop} {s : Pg} (h : NwAt w0 wi q CV m2 dl R s) (hb : q.base = w0.heap.size) (k : KeepD (GI wi q m2) wi y) : Grew w0 y := by
 have k0 : KeepD (fun j => j < w0.heap.size) w0 wi := KeepD.grew h.g
 refine (k0.trans (keepB_mono k fun j hj => ⟨Nat.lt_of_lt_of_le hj h.g.le, fun e => by have := h.b2; omega, fun x e => ?_⟩)).all (fun j hj => hj)
 have := ((h.pl.own x).lt j e).1
 omega
theorem NwAt.c2 {w0 wi y : World} {q : Pp} {CV : Value} {m2 : List (Li × Value)} {dl : List (List Li)} {R : Nat → Prop} {s : Pg} (h : NwAt w0 wi q CV m2 dl R s) (k : KeepD (GI wi q m2) wi y) : y.cell? ⟨q.b, 2, none⟩ = some (.map (some q.b2)) := by
 have c := h.pg.cells.2.2.2.2.1
 obtain ⟨LA, lc, UA, un, uc, m, HP, _⟩ := h.pg.ex
 exact k.cell (p := ⟨q.b, 2, none⟩) (h.gi _ HP.hd.lt h.pg.nR.1) c
set_option maxRecDepth 100000 in
theorem PlO.look {y : World} {q : Pp} {m2 : List (Li × Value)} {pl : Li → List Nat} (h : PlO y q m2 pl) (l : Li) : ∀ w', Grew y w' → (Instr.lookup 128 (.map (some q.b2)) (ekL l) false).run Tryz.prog w' = .ok (plV m2 l) w' := fun w' g => by
 have := (h.map.grew g).lookup lit_key map128p (zero38p w') l false
 rw [this]
 simp only [Bool.false_eq_true, if_false]
 congr 1
 unfold plV
 cases alFind l m2 <;> rfl
def plI (dl : List (List Li)) (k : Nat) (d : List Li) (x : Li) : List Nat := plF dl x ++ if d.contains x then [k] else []
theorem plI_nil (dl : List (List Li)) (k : Nat) : plI dl k [] = plF dl := by
 funext x
 unfold plI
 rw [List.contains_nil, if_neg (by decide), List.append_nil]
theorem plI_snoc {dl : List (List Li)} {k : Nat} {d : List Li} {l : Li} (h : d.contains l = false) : (fun x => if x = l then plI dl k d l ++ [k] else plI dl k d x) = plI dl k (d ++ [l]) := by
 funext x
 by_cases e : x = l
 ·subst e
  rw [if_pos rfl]
  unfold plI
  have h2 : (d ++ [x]).contains x = true := by simp
  rw [h, if_neg (by decide), List.append_nil, h2, if_pos rfl]
 ·rw [if_neg e]
  unfold plI
  have h2 : (d ++ [l]).contains x = d.contains x := by
   rw [Bool.eq_iff_iff, List.contains_iff_mem, List.contains_iff_mem, List.mem_append, List.mem_singleton]
   exact ⟨fun h => h.resolve_right e, .inl⟩
  rw [h2]
theorem plI_last {dl : List (List Li)} {k : Nat} {d : List Li} {l : Li} {pm : Nat} (hdl : dl.length = k) (hl : (plI dl k d l).length = pm + 1) : ∃ x : Nat, (plI dl k d l)[pm]? = some x ∧ decide (x = k) = d.contains l := by
 unfold plI at hl ⊢
 cases hc : d.contains l with
 | true =>
  rw [hc, if_pos rfl, List.length_append] at hl
  refine ⟨k, ?_, decide_eq_true rfl⟩
  rw [if_pos rfl, List.getElem?_append_right (by simp at hl; omega), show pm - (plF dl l).length = 0 by simp at hl; omega]
  rfl
 | false =>
  rw [hc, if_neg (by decide), List.append_nil] at hl
  rw [if_neg (by decide), List.append_nil]
  refine ⟨(plF dl l)[pm], List.getElem?_eq_getElem (by omega), decide_eq_false ?_⟩
  have := plF_lt (List.getElem_mem (show pm < (plF dl l).length by omega))
  omega
theorem dd_same {c : List Li} {j : Nat} {l : Li} (h : c[j]? = some l) (hm : l ∈ ddS (c.take j)) : ddS (c.take (j + 1)) = ddS (c.take j) := by
 rw [ddS_take h, if_pos (List.contains_iff_mem.2 hm)]
theorem take_map_dd {cls : List (List Li)} {k : Nat} (h : k < cls.length) : (cls.take (k + 1)).map ddS = (cls.take k).map ddS ++ [ddS (cls.getD k [])] := by
 rw [List.take_add_one, List.getElem?_eq_getElem h, Option.toList, List.map_append, List.getD_eq_getElem?_getD, List.getElem?_eq_getElem h]
 rfl
/-- What holds while the literals of a clause are entered. -/
structure InAt (wi y : World) (q : Pp) (m2 : List (Li × Value)) (dl : List (List Li)) (k : Nat) (d : List Li) (DA : Option Addr) (dn dc : Nat) (m3 : List (Li × Value)) : Prop where
 own : y.ownsRow wi.heap.size 122 3 (.slice DA dn dc) dn (d.flatMap encL)
 len : d.length = dn
 pl : PlO y q m3 (plI dl k d)
 old : ∀ x g, (plV m3 x).ownBlock = some g → (plV m2 x).ownBlock = some g ∨ wi.heap.size ≤ g
 keep : KeepD (GI wi q m2) wi y
theorem InAt.grew {wi y y' : World} {q : Pp} {m2 m3 : List (Li × Value)} {dl : List (List Li)} {k : Nat} {d : List Li} {DA : Option Addr} {dn dc : Nat} (h : InAt wi y q m2 dl k d DA dn dc m3) (g : Grew y y') : InAt wi y' q m2 dl k d DA dn dc m3 :=
 ⟨own_grew h.own g, h.len, h.pl.grew g, h.old, h.keep.trans (KeepD.grew g)⟩
theorem plI_done {dl : List (List Li)} {k : Nat} (d : List Li) (h : dl.length = k) : plI dl k d = plF (dl ++ [d]) := by
 funext x
 unfold plI
 rw [plF_snoc, h]
/-- The row of headers, while a clause is entered. -/
theorem NwAt.rows {w0 wi y : World} {q : Pp} {CV : Value} {m2 : List (Li × Value)} {dl : List (List Li)} {R R' : Nat → Prop} {s : Pg} (h : NwAt w0 wi q CV m2 dl R s) (k : KeepD (GI wi q m2) wi y) (hR : ∀ j, R j → R' j) : ClO y q.base CV R' dl :=
 h.cl.keep k (fun j cur t hj hc ht => ⟨(Array.getElem?_eq_some_iff.1 hc).1, fun e => map_ne h.pl.map hc e.symm, fun x e => by
  obtain ⟨cur', hc'⟩ := own_block (h.pl.own x) e
  rw [hc] at hc'
  injection hc' with hc'
  injection hc' with _ hc' _
  exact ht hc'⟩) hR
/-- A clause has been entered: its header is appended. -/
theorem NwAt.clause {w0 wi wr wy w7 : World} {q : Pp} {CV : Value} {m2 m3 : List (Li × Value)} {dl : List (List Li)} {R : Nat → Prop} {s : Pg} {k : Nat} {d : List Li} {DA : Option Addr} {dn dc : Nat} (h : NwAt w0 wi q CV m2 dl R s) (hb : q.base = w0.heap.size) (hk : dl.length = k)
  (hi : InAt wi wr q m2 dl k d DA dn dc m3) (gy : Grew wr wy) {A7 : Option Addr} {c7 : Nat} (hg7 : wy.grownBy w7 CV.ownBlock)
  (own7 : ∀ xs, wy.ownsRow q.base 69 1 CV k xs → w7.ownsRow q.base 69 1 (.slice A7 (k + 1) c7) (k + 1) (xs ++ [.slice DA dn dc])) (hat7 : (Value.slice A7 (k + 1) c7).ownBlock = CV.ownBlock ∨ (Value.slice A7 (k + 1) c7).ownBlock = some wy.heap.size) :
  (w7.cell? ⟨q.b, 3, none⟩ = some CV ∧ w7.frozen? ⟨q.b, 3, none⟩ = false) ∧
  ∃ R' : Nat → Prop, PgAt (w7.setCell ⟨q.b, 3, none⟩ (.slice A7 (k + 1) c7)) { q with CS := .slice A7 (k + 1) c7 } R' s ∧ PlO (w7.setCell ⟨q.b, 3, none⟩ (.slice A7 (k + 1) c7)) q m3 (plF (dl ++ [d])) ∧ ClO (w7.setCell ⟨q.b, 3, none⟩ (.slice A7 (k + 1) c7)) q.base (.slice A7 (k + 1) c7) R' (dl ++ [d]) ∧
   (∀ j, j < w0.heap.size → R' j) ∧ R' q.b2 ∧ (∀ l g, (plV m3 l).ownBlock = some g → R' g) ∧ Grew w0 (w7.setCell ⟨q.b, 3, none⟩ (.slice A7 (k + 1) c7)) := by
 have ky : KeepD (GI wi q m2) wi wy := hi.keep.trans (KeepD.grew gy)
 have k7 : KeepD (fun j => CV.ownBlock ≠ some j) wy w7 := KeepD.row hg7 (fun g e h => h e)
 have kG : KeepD (fun j => GI wi q m2 j ∧ CV.ownBlock ≠ some j) wi w7 := (keepB_mono ky (fun _ h => h.1)).trans (keepB_mono k7 (fun _ h => h.2))
 obtain ⟨vs, hv1, hv2, hv3, hv4⟩ := h.rows ky (fun _ h => h)
 rw [hk] at hv1
 have o7 := own7 _ hv1
 have hlt7 := o7.lt
 have hsz : wi.heap.size ≤ w7.heap.size := kG.size
 have hpg := h.pg.frame kG (fun j hj hr => ⟨h.gi j hj hr, fun e => hr (h.cl.choose_spec.2.2.1 j e)⟩) (R' := fun j => R j ∨ (wi.heap.size ≤ j ∧ j < w7.heap.size)) (fun j hj => hj.imp id (fun h => h.1)) (fun j hj => hj.elim (fun h' => Nat.lt_of_lt_of_le (h.pg.lt j h') hsz) (fun h => h.2))
 have hc := hpg.cells
 obtain ⟨LA, lc, UA, un, uc, mm, HP0, _⟩ := hpg.ex
 obtain ⟨p8, k8⟩ := hpg.set_cs (.slice A7 (k + 1) c7)
 have g8 := grown_set w7 q.b 3 (.slice A7 (k + 1) c7)
 refine ⟨⟨hc.2.2.2.2.2.1, HP0.hd.frozen 3⟩, _, p8, ?_, ?_, fun j hj => .inl (h.r0 j hj), .inl h.r2, fun l g hg => ?_, ?_⟩
 ·rw [← plI_done d hk]
  refine ((hi.pl.grew gy).keep k7 (fun e => ?_) (fun l g hg e => ?_)).keep (KeepD.grown (G := fun j => j ≠ q.b) g8 (fun h => h rfl)) (fun e => ?_) (fun l g hg e => ?_)
  ·obtain ⟨cur, hcc⟩ := own_block hv1 e
   exact map_ne (hi.pl.grew gy).map hcc rfl
  ·exact own_apart hv1 ((hi.pl.grew gy).own l) (by decide) e hg rfl
  ·exact hpg.nR.1 (e ▸ .inl h.r2)
  ·subst e
   rcases hi.old l _ hg with h1 | h1
   ·exact hpg.nR.1 (.inl (h.rp _ _ h1))
   ·have := ((hi.pl.grew gy).own l).lt _ hg
    exact hpg.nR.1 (.inr ⟨h1, Nat.lt_of_lt_of_le this.2 k7.size⟩)
 ·refine ⟨vs ++ [⟨DA, dn, dc⟩], ?_, by rw [List.length_append, List.length_append, hv2]; rfl, fun g hg => ?_, fun i v hv => ?_⟩
  ·rw [List.length_append, hk, List.map_append]
   exact o7.kept g8 (by
    cases hv : (Value.slice A7 (k + 1) c7).ownBlock with
    | none => exact .inl rfl
    | some g => exact .inr (fun e => own_off o7 HP0.hd (by decide) hv (by injection e)))
  ·rcases hat7 with e | e
   ·exact .inl (hv3 g (e ▸ hg))
   ·rw [hg] at e
    injection e with e
    exact .inr ⟨by rw [e]; exact ky.size, (hlt7 g hg).2⟩
  ·have key : ∀ (bs : Nat) (u : Pc) (c : List Li), q.base ≤ bs → wy.ownsRow bs 122 3 (pcV u) u.n (c.flatMap encL) → (w7.setCell ⟨q.b, 3, none⟩ (.slice A7 (k + 1) c7)).ownsRow q.base 122 3 (pcV u) u.n (c.flatMap encL) := fun bs u c hbs ho => by
    have h7 : w7.ownsRow bs 122 3 (pcV u) u.n (c.flatMap encL) := own_keepD ho k7 (fun g hg e => own_apart hv1 ho (by decide) e hg rfl)
    exact own_base (h7.kept g8 (by
     cases hv : (pcV u).ownBlock with
     | none => exact .inl rfl
     | some g => exact .inr (fun e => own_off h7 HP0.hd (by decide) hv (by injection e)))) hbs
   by_cases hlt : i < vs.length
   ·rw [List.getElem?_append_left hlt] at hv
    obtain ⟨a1, a2, a3⟩ := hv4 i v hv
    rw [getD_left d (by omega)]
    exact ⟨key _ v _ (Nat.le_refl _) a1, a2, fun g hg => .inl (a3 g hg)⟩
   ·have hil : i = dl.length := by
     have := (List.getElem?_eq_some_iff.1 hv).1
     rw [List.length_append, List.length_singleton] at this
     omega
    subst hil
    rw [List.getElem?_append_right (by omega), hv2, Nat.sub_self] at hv
    injection hv with hv
    subst hv
    rw [getD_snoc]
    have ho := own_grew hi.own gy
    refine ⟨key wi.heap.size ⟨DA, dn, dc⟩ d (by have := h.g.le; omega) ho, hi.len, fun g hg => ?_⟩
    have := ho.lt g hg
    exact .inr ⟨this.1, Nat.lt_of_lt_of_le this.2 k7.size⟩
 ·rcases hi.old l g hg with h1 | h1
  ·exact .inl (h.rp l g h1)
  ·have := ((hi.pl.grew gy).own l).lt _ hg
   exact .inr ⟨h1, Nat.lt_of_lt_of_le this.2 k7.size⟩
 ·have k0 : KeepD (fun j => j < w0.heap.size) w0 wi := KeepD.grew h.g
  have k1 := k0.trans (keepB_mono kG (fun j (hj : j < w0.heap.size) => ⟨⟨Nat.lt_of_lt_of_le hj h.g.le, fun e => by have := h.b2; omega, fun x e => by have := ((h.pl.own x).lt j e).1; omega⟩, fun e => by have := (hv1.lt j e).1; omega⟩))
  exact (k1.trans (keepB_mono k8 (fun j hj => .inl (h.r0 j hj)))).all (fun j hj => hj)
/-- What newPropagation returns. -/
def RetNw (cls : List (List Li)) (w : World) (e : Ending) (w' : World) : Prop := ∃ (q : Pp) (R : Nat → Prop) (s : Pg) (pl : Li → List Nat) (dl : List (List Li)),
 e = .returned (.pointer (some ⟨q.b, 0, none⟩)) ∧ PgAt w' q R s ∧ PlcAt w' q R pl ∧ ClAt w' q R dl ∧ Sta dl pl ∧ Dedup cls dl ∧ PInv dl (fun _ => False) s ∧ s.T = [] ∧ s.lst = [] ∧ meas s ≤ q.N ∧ (∀ l, (pl l).length ≤ q.N) ∧ dl.length = q.N ∧ (∀ i, s.op.getD i 0 ≤ 1000) ∧ (∀ j, j < w.heap.size → R j) ∧ Grew w w'
set_option maxRecDepth 1000000 in
set_option maxHeartbeats 16000000 in
theorem newP59 {w : World} {CA : Option Addr} {N cc : Nat} {cls : List (List Li)} (h : ClsAt w CA N cls) (hN : N ≤ 20000) :
  Calls Tryz.prog 59 #[.slice CA N cc] w (RetNw cls w) := by
 obtain ⟨i3, hi3, hx0, hx1, hx2⟩ := info_parts info3
 obtain ⟨i1, hi1, hy0, hy1, hy2⟩ := info_parts info122
 obtain ⟨i9, hi9, hz0, hz1, hz2⟩ := info_parts info69
 have HC0 := Lib.hid h
 have HCN : Hid (cls.length = N) := h.1
 obtain ⟨b1, hb1⟩ : ∃ z, z = w.heap.size := ⟨_, rfl⟩
 obtain ⟨b2, hb2⟩ : ∃ z, z = b1 + 1 := ⟨_, rfl⟩
 obtain ⟨b, hb⟩ : ∃ z, z = b2 + 1 := ⟨_, rfl⟩
 obtain ⟨w1, hw1⟩ : ∃ y, y = w.alloc (.map #[] 0) := ⟨_, rfl⟩
 obtain ⟨w2, hw2⟩ : ∃ y, y = w1.alloc (.map #[] 0) := ⟨_, rfl⟩
 obtain ⟨w3, hw3⟩ : ∃ y, y = w2.alloc (.cells #[.slice none 0 0, .map (some b1), .map (some b2), .slice none 0 0, .slice none 0 0, .slice none 0 0, .int .i64 (-1), .slice none 0 0] 133) := ⟨_, rfl⟩
 have s1 : w1.heap.size = b2 := by rw [hw1, hb2, hb1]; simp
 have s2 : w2.heap.size = b := by rw [hw2, hb, ← s1]; simp
 have g1 : Grew w w1 := by rw [hw1]; exact (Grew.refl w).alloc _
 have g2 : Grew w1 w2 := by rw [hw2]; exact (Grew.refl w1).alloc _
 have g3 : Grew w2 w3 := by rw [hw3]; exact (Grew.refl w2).alloc _
 have HM1 : Hid (MapIs ekL bV w3 b1 ([] : List (Li × Bool))) := ((show MapIs ekL bV w1 b1 ([] : List (Li × Bool)) by rw [hw1, hb1]; exact MapIs.made w).grew g2).grew g3
 have HM2 : Hid (MapIs ekL id w3 b2 ([] : List (Li × Value))) := (show MapIs ekL id w2 b2 ([] : List (Li × Value)) by rw [hw2, ← s1]; exact MapIs.made w1).grew g3
 have HB3 : Hid (Blk w3 b 133 [.slice none 0 0, .map (some b1), .map (some b2), .slice none 0 0, .slice none 0 0, .slice none 0 0, .int .i64 (-1), .slice none 0 0]) := by unfold Hid; rw [hw3, ← s2]; exact Blk.new w2 133 _
 have HG3 := Lib.hid ((g1.trans g2).trans g3)
 have HSZ : Hid (w.heap.size = b1 ∧ b1 + 1 = b2 ∧ b2 + 1 = b) := ⟨hb1.symm, hb2.symm, hb.symm⟩
 obtain ⟨w4, hmk4, own4, g4, l4⟩ := make_intsN w.heap.size N (by omega) w3 HG3.out.le
 obtain ⟨gO, hgO⟩ : ∃ z, z = w3.heap.size := ⟨_, rfl⟩
 rw [← hgO] at hmk4 own4
 have HL4 : Hid (b < gO ∧ gO < w4.heap.size) := ⟨by rw [hgO]; exact HB3.out.lt, by rw [hgO]; exact l4⟩
 have HB4 := Lib.hid (HB3.out.grew g4)
 have k4 := grown_set w4 b 4 (.slice (some ⟨gO, 0, none⟩) N N)
 obtain ⟨w5, hw5⟩ : ∃ y, y = w4.setCell ⟨b, 4, none⟩ (.slice (some ⟨gO, 0, none⟩) N N) := ⟨_, rfl⟩
 rw [← hw5] at k4
 have HB5 : Hid (Blk w5 b 133 [.slice none 0 0, .map (some b1), .map (some b2), .slice none 0 0, .slice (some ⟨gO, 0, none⟩) N N, .slice none 0 0, .int .i64 (-1), .slice none 0 0]) := by unfold Hid; rw [hw5]; exact HB4.out.set 4 _
 have HO5 : Hid (w5.ownsRow w.heap.size 3 1 (.slice (some ⟨gO, 0, none⟩) N N) N ((List.replicate N (0 : Int)).map iv)) := own4.kept k4 (.inr (fun e => by injection e with e; have := HL4.out; simp only at e; omega))
 have HM15 : Hid (MapIs ekL bV w5 b1 ([] : List (Li × Bool))) := (HM1.out.grew g4).kept k4 (fun e => by injection e with e; have := HSZ.out; omega)
 have HM25 : Hid (MapIs ekL id w5 b2 ([] : List (Li × Value))) := (HM2.out.grew g4).kept k4 (fun e => by injection e with e; have := HSZ.out; omega)
 have HG5 : Hid (Grew w w5) := (HG3.out.trans g4).grown k4 (fun j hj => by injection hj with hj; have := HSZ.out; omega)
 have hsz5 : w4.heap.size ≤ w5.heap.size := k4.size
 have hmm := @run_makeMap Tryz.prog
 go_enter Tryz.func59, Tryz.ntmps59
 go_upto_region 2 with (fail)
 rw [← hw1, ← hb1, ← hw2, ← hb2, ← hb, ← hw3]
 clear hmm hw1 hb1 hw2 hb2 hb hw3 s1 s2 g1 g2 g3 HM1 HM2 HB3
 have f4 := HB4.out.frozen 4
 have c4 := HB4.out.cell (i := 4) (v := .slice none 0 0) rfl
 clear own4 g4 l4 k4 hgO
 go_upto_region 3 with (fail)
 rw [← hw5]
 clear hw5 hmk4 f4 c4 hsz5
 obtain ⟨w6, hmk6, own6, g6, l6⟩ := make_bits w.heap.size N (by omega) w5 HG5.out.le
 obtain ⟨gS, hgS⟩ : ∃ z, z = w5.heap.size := ⟨_, rfl⟩
 rw [← hgS] at hmk6 own6
 have HL6 : Hid (gO < gS ∧ b < gS ∧ gS < w6.heap.size) := by
  have h1 : gO < w5.heap.size := (HO5.out.lt _ rfl).2
  have h2 := HB5.out.lt
  unfold Hid
  omega
 have HB6 := Lib.hid (HB5.out.grew g6)
 have k6 := grown_set w6 b 5 (.slice (some ⟨gS, 0, none⟩) N N)
 obtain ⟨w7, hw7⟩ : ∃ y, y = w6.setCell ⟨b, 5, none⟩ (.slice (some ⟨gS, 0, none⟩) N N) := ⟨_, rfl⟩
 rw [← hw7] at k6
 have HB7 : Hid (Blk w7 b 133 [.slice none 0 0, .map (some b1), .map (some b2), .slice none 0 0, .slice (some ⟨gO, 0, none⟩) N N, .slice (some ⟨gS, 0, none⟩) N N, .int .i64 (-1), .slice none 0 0]) := by unfold Hid; rw [hw7]; exact HB6.out.set 5 _
 have HO7 : Hid (w7.ownsRow w.heap.size 3 1 (.slice (some ⟨gO, 0, none⟩) N N) N ((List.replicate N (0 : Int)).map iv)) := (own_grew HO5.out g6).kept k6 (.inr (fun e => by injection e with e; have := HL4.out; simp only at e; omega))
 have HS7 : Hid (w7.ownsRow w.heap.size 4 1 (.slice (some ⟨gS, 0, none⟩) N N) N ((List.replicate N false).map bV)) := own6.kept k6 (.inr (fun e => by injection e with e; have := HL6.out; simp only at e; omega))
 have HM17 : Hid (MapIs ekL bV w7 b1 ([] : List (Li × Bool))) := (HM15.out.grew g6).kept k6 (fun e => by injection e with e; have := HSZ.out; omega)
 have HM27 : Hid (MapIs ekL id w7 b2 ([] : List (Li × Value))) := (HM25.out.grew g6).kept k6 (fun e => by injection e with e; have := HSZ.out; omega)
 have HG7 : Hid (Grew w w7) := (HG5.out.trans g6).grown k6 (fun j hj => by injection hj with hj; have := HSZ.out; omega)
 have f5 := HB6.out.frozen 5
 have c5 := HB6.out.cell (i := 5) (v := .slice none 0 0) rfl
 have HNW : Hid (NwAt w w7 ⟨b, b1, b2, N, gO, N, gS, N, .slice none 0 0, w.heap.size⟩ (.slice none 0 0) [] [] (fun j => j < w.heap.size ∨ j = b2) ⟨[], [], List.replicate N 0, List.replicate N false, -1, []⟩) := by
  have hS := HSZ.out
  have h4 := HL4.out
  have h6 := HL6.out
  have h7 := HB7.out.lt
  have hg := HG7.out.le
  refine ⟨⟨⟨none, 0, none, 0, 0, [], ⟨HB7.out, World.ownsRow_nil _ _ _ _, rfl, rfl, fun hh => hh.2.1 rfl, fun g hh => (by cases hh), Nat.zero_le _⟩, World.ownsRow_nil _ _ _ _, HM17.out, fun l => rfl, fun g hh => (by cases hh), fun g hh => (by cases hh)⟩, HO7.out, HS7.out, List.length_replicate, List.length_replicate, ?_, ?_, hg, fun j hj => ?_⟩, IniK.nil N, ⟨HM27.out, fun l => World.ownsRow_nil _ _ _ _, fun l l' g _ hh => (by cases hh)⟩, ⟨[], World.ownsRow_nil _ _ _ _, rfl, fun g hh => (by cases hh), fun i v hv => (by simp at hv)⟩, fun j hj => .inl hj, .inr rfl, ?_, fun l g hh => (by cases hh), HG7.out⟩
  ·simp only
   omega
  ·simp only
   omega
  ·omega
  ·simp only
   omega
 clear own6 g6 l6 k6 hgS
 go_upto_region 4 with (fail)
 rw [← hw7]
 clear hw7 hmk6 f5 c5 HO5 HB4 HB5 HB6 HM15 HM25 HG5 HG3 HB7 HO7 HS7 HM17 HM27 HG7 HL4 HL6 HSZ
 obtain ⟨q, hq⟩ : ∃ z : Pp, z = ⟨b, b1, b2, N, gO, N, gS, N, .slice none 0 0, w.heap.size⟩ := ⟨_, rfl⟩
 rw [← hq] at HNW
 have HQ : Hid (q.b = b ∧ q.b2 = b2 ∧ q.N = N ∧ q.base = w.heap.size ∧ q.gO = gO) := by unfold Hid; rw [hq]; exact ⟨rfl, rfl, rfl, rfl, rfl⟩
 obtain ⟨rfl, rfl, hqN, hqb, rfl⟩ := HQ.out
 have HQN := Lib.hid hqN
 have HQB := Lib.hid hqb
 clear hq HQ hqN hqb
 go_wp2_with fail
 go_loopw [28] (fun i y => ∃ (k : Nat) (CV : Value) (m2 : List (Li × Value)) (R : Nat → Prop) (s : Pg), k ≤ N ∧ i = .int .i64 k ∧ Hid (NwAt w y q CV m2 ((cls.take k).map ddS) R s)) (fun i _ => N - (intOf i).toNat)
 case atStart => exact ⟨0, _, _, _, _, Nat.zero_le _, rfl, HNW.out⟩
 case round =>
  clear HNW
  obtain ⟨k, CV, m2, R, s, hk, rfl, HNW⟩ := hrel
  by_cases hlt : k < N
  ·obtain ⟨cb, co, A, n, c, hA, p0, hrec, hn9⟩ := (HC0.out.grew HNW.out.g).2 k hlt
   subst hA
   obtain ⟨cl, hcl⟩ : ∃ z, cls.getD k [] = z := ⟨_, rfl⟩
   rw [hcl] at hrec
   obtain ⟨dl, hdl⟩ : ∃ z, (cls.take k).map ddS = z := ⟨_, rfl⟩
   have HDL : Hid (dl.length = k) := by unfold Hid; rw [← hdl, List.length_map, List.length_take, HCN.out]; exact Nat.min_eq_left hk
   have HDS : Hid ((cls.take (k + 1)).map ddS = dl ++ [ddS cl]) := by unfold Hid; rw [take_map_dd (by rw [HCN.out]; exact hlt), hdl, hcl]
   rw [hdl] at HNW
   have HRL : Hid (cl.length = n) := hrec.1
   have HCR : Hid (∀ y, Grew w y → Recs encL 3 y A n c cl) := fun y gy => by
    obtain ⟨cb', co', A', n', c', hA', p', hrec', _⟩ := HC0.out.2 k hlt
    have h1 := HNW.out.g.cell p'
    injection hA' with hA'
    injection hA' with e1 e2
    subst e1 e2
    rw [p0] at h1
    injection h1 with h1
    injection h1 with e1 e2 e3
    subst e1 e2 e3
    rw [hcl] at hrec'
    exact hrec'.grew gy
   have e1 : (0 : Int) ≤ (k : Int) := by omega
   have e2 : (k : Int) < (N : Int) := by omega
   have t1 : decide ((k : Int) < (N : Int)) = true := decide_eq_true e2
   clear hcl hdl hrec
   obtain ⟨wi, rfl⟩ : ∃ y : World, y = wr := ⟨_, rfl⟩
   go_wp2_with fail
   go_step3
   go_wp2_with fail
   try go_step3
   go_wp2_with fail
   clear p0 t1
   go_loopw [6, 35] (fun v i y => ∃ (j dn dc : Nat) (DA : Option Addr) (m3 : List (Li × Value)), j ≤ n ∧ i = .int .i64 j ∧ v = .slice DA dn dc ∧ Hid (InAt wi y q m2 dl k (ddS (cl.take j)) DA dn dc m3)) (fun _ i _ => n - (intOf i).toNat)
   case atStart => exact ⟨0, 0, 0, none, m2, Nat.zero_le _, rfl, rfl, ⟨World.ownsRow_nil _ _ _ _, rfl, by rw [List.take_zero, show ddS [] = [] from rfl, plI_nil]; exact HNW.out.pl, fun x g h => .inl h, KeepD.refl _⟩⟩
   case round =>
    obtain ⟨j, dn, dc, DA, m3, hj, rfl, rfl, HIN⟩ := hrel
    by_cases hlj : j < n
    ·have HGy := HNW.out.all HQB.out HIN.out.keep
     have HRC := HCR.out wr HGy
     obtain ⟨b', o', l, hA, hl, d0, d1, d2⟩ := Recs.lit HRC hlj
     subst hA
     have HLj := Lib.hid hl
     have HDN : Hid ((ddS (cl.take j)).length = dn) := HIN.out.len
     have hdn : dn ≤ j := by
      have h1 := ddS_len (cl.take j)
      have h2 := HIN.out.len
      rw [List.length_take] at h1
      omega
     have f1 : (0 : Int) ≤ (j : Int) := by omega
     have f2 : (j : Int) < (n : Int) := by omega
     have t1 : decide ((j : Int) < (n : Int)) = true := decide_eq_true f2
     obtain ⟨ld, lw, lis⟩ := l
     simp only at d0 d1 d2
     obtain ⟨wa, hwa⟩ : ∃ y, y = wr.alloc (.cells #[.int .i64 ld, .int .i64 lw, .bool lis] 122) := ⟨_, rfl⟩
     obtain ⟨ba, hba⟩ : ∃ z, z = wr.heap.size := ⟨_, rfl⟩
     have HBA : Hid (Blk wa ba 122 [.int .i64 ld, .int .i64 lw, .bool lis]) := by unfold Hid; rw [hwa, hba]; exact Blk.new wr 122 [.int .i64 ld, .int .i64 lw, .bool lis]
     have ga : Grew wr wa := by rw [hwa]; exact (Grew.refl wr).alloc _
     have HINa := Lib.hid (HIN.out.grew ga)
     have HRCa := Lib.hid (HRC.grew ga)
     clear hl HRC HGy
     go_upto_region 11 with (fail)
     rw [← hwa, ← hba]
     clear hwa hba d0 d1 d2 ga HIN t1
     have HX : Hid (∃ r : Bool, (r = true → (⟨ld, lw, lis⟩ : Li) ∈ cl.take j) ∧ (j = 0 → r = false) ∧ (∀ j', j = j' + 1 → ∃ md mw mi, cl[j']? = some ⟨md, mw, mi⟩ ∧ eqT122 ld md lw mw lis mi = r)) := by
      cases j with
      | zero => exact ⟨false, fun h => (by cases h), fun _ => rfl, fun j' h => by omega⟩
      | succ j' =>
       obtain ⟨⟨md, mw, mi⟩, hm⟩ : ∃ m, cl[j']? = some m := ⟨_, List.getElem?_eq_getElem (show j' < cl.length by rw [HRL.out]; omega)⟩
       refine ⟨eqT122 ld md lw mw lis mi, fun h => ?_, fun h => by omega, fun j2 h => ?_⟩
       ·obtain ⟨e1, e2, e3⟩ := eqT122_iff.1 h
        subst e1 e2 e3
        exact List.mem_of_getElem? (i := j') (by rw [List.getElem?_take, if_pos (by omega)]; exact hm)
       ·obtain rfl : j' = j2 := by omega
        exact ⟨md, mw, mi, hm, rfl⟩
     obtain ⟨r, hr1, hr2, hr3⟩ := HX.out
     have HR1 := Lib.hid hr1
     have HR2 := Lib.hid hr2
     have HR3 := Lib.hid hr3
     clear hr1 hr2 hr3 HX
     have hC : ∀ w', Grew wa.drew w' → (w'.cell? ⟨ba, 0, none⟩ = some (.int .i64 ld) ∧ w'.cell? ⟨ba, 1, none⟩ = some (.int .i64 lw) ∧ w'.cell? ⟨ba, 2, none⟩ = some (.bool lis)) := fun w' g' => by
      have gg := (Grew.refl wa).drew.trans g'
      exact ⟨gg.cell (HBA.out.cell rfl), gg.cell (HBA.out.cell rfl), gg.cell (HBA.out.cell rfl)⟩
     have HC := Lib.hid hC
     clear hC
     refine cut_lawX (X := Value × Value × Value × Value × Value × Value × Value × Value × Value × Value) (fun a x => (((((((((((a.put (some 40) (x.1)).put (some 41) (x.2.1)).put (some 42) (x.2.2.1)).put (some 43) (x.2.2.2.1)).put (some 44) (x.2.2.2.2.1)).put (some 45) (x.2.2.2.2.2.1)).put (some 46) (x.2.2.2.2.2.2.1)).put (some 47) (x.2.2.2.2.2.2.2.1)).put (some 48) (x.2.2.2.2.2.2.2.2.1)).put (some 49) (x.2.2.2.2.2.2.2.2.2)).put (some 50) (.bool r))) (fun w' => Grew wa w') ?_ ?_
     rotate_left
     ·by_cases h0 : j = 0
      ·subst h0
       obtain rfl : r = false := HR2.out rfl
       refine wp_region_seq (by kernel_rfl) Grew.refl (fun _ _ _ => Grew.trans) (fun _ _ _ _ _ h => h) (by kernel_rfl) ?_
       repeat (first
        | (refine TakeAll.pure (v := ?_) (by rfl) ?_ ?_; rotate_left; (intro w' g'; obtain ⟨q_1, q_2, q_3⟩ := HC.out w' g'; go_simp; first | done | with_reducible rfl); (simp only [Act.put, uzT, uz0, uz1]))
        | (refine TakeAll.skip (by rfl) ?_; (simp only [Act.put, uzT, uz0, uz1])))
       refine TakeAll.nil ?_
       intro w' g'
       exact ⟨⟨(.int .i64 0, .bool false, .bool false, undef, undef, undef, undef, undef, undef, undef), rfl⟩, (Grew.refl wa).drew.trans g'⟩
      ·obtain ⟨j', hj'⟩ : ∃ j', j = j' + 1 := ⟨j - 1, by omega⟩
       obtain ⟨md, mw, mi, hm, hq⟩ := HR3.out j' hj'
       have HQ := Lib.hid hq
       obtain ⟨b2', o2', l2, hA2, hl2, v0, v1, v2⟩ := Recs.lit HRCa.out (k := j') (by omega)
       injection hA2 with hA2
       injection hA2 with ea eb
       subst ea eb
       rw [hm] at hl2
       injection hl2 with hl2
       subst hl2
       simp only at v0 v1 v2
       have hD : ∀ w', Grew wa.drew w' → (w'.cell? ⟨b', o' + j' * 3, none⟩ = some (.int .i64 md) ∧ w'.cell? ⟨b', o' + j' * 3 + 1, none⟩ = some (.int .i64 mw) ∧ w'.cell? ⟨b', o' + j' * 3 + 2, none⟩ = some (.bool mi)) := fun w' g' => by
        have gg := (Grew.refl wa).drew.trans g'
        exact ⟨gg.cell v0, gg.cell v1, gg.cell v2⟩
       have HD := Lib.hid hD
       have m1 : IntKind.i64.wrap ((j : Int) - 1) = (j' : Int) := by rw [IntWalk.i64_in _ (by omega)]; omega
       have t1 : decide ((j : Int) > 0) = true := decide_eq_true (by omega)
       have t2 : decide ((0 : Int) < (j : Int)) = true := decide_eq_true (by omega)
       have t3 : decide (0 < j) = true := decide_eq_true (by omega)
       have f3 : (0 : Int) ≤ (j' : Int) := by omega
       have f4 : (j' : Int) < (n : Int) := by omega
       clear hD hm hq v0 v1 v2 hj' h0
       refine wp_region_seq (by kernel_rfl) Grew.refl (fun _ _ _ => Grew.trans) (fun _ _ _ _ _ h => h) (by kernel_rfl) ?_
       repeat (first
        | (refine TakeAll.pure (v := ?_) (by rfl) ?_ ?_; rotate_left; (intro w' g'; obtain ⟨q_1, q_2, q_3⟩ := HC.out w' g'; obtain ⟨q_4, q_5, q_6⟩ := HD.out w' g'; go_simp; first | done | with_reducible rfl); (simp only [Act.put, uzT, uz0, uz1]))
        | (refine TakeAll.skip (by rfl) ?_; (simp only [Act.put, uzT, uz0, uz1]))
        | (refine TakeAll.pure (v := .bool r) (by rfl) (fun w' _ => exec_eql122 HQ.out rfl rfl rfl w') ?_; (simp only [Act.put, uzT, uz0, uz1])))
       refine TakeAll.nil ?_
       intro w' g'
       exact ⟨⟨(.int .i64 j, .bool true, .bool true, .agg #[.int .i64 ld, .int .i64 lw, .bool lis], .slice (some ⟨b', o', none⟩) n c, .int .i64 j, .int .i64 j', .pointer (some ⟨b', o' + j' * 3, none⟩), .agg #[.int .i64 md, .int .i64 mw, .bool mi], .bool r), rfl⟩, (Grew.refl wa).drew.trans g'⟩
     rintro x w2 g2
     simp only [Act.put, uzT, uz0, uz1]
     have HIN2 := Lib.hid (HINa.out.grew g2)
     have HBA2 := Lib.hid (HBA.out.grew g2)
     clear g2 HINa HBA HRCa HC HR2 HR3
     cases r with
     | true =>
      have HSM : Hid (ddS (cl.take (j + 1)) = ddS (cl.take j)) := dd_same HLj.out ((ddS_mem _ _).2 (HR1.out rfl))
      rw [← HSM.out] at HIN2
      go_wp2_with fail
      go_roundw
      case rel => exact ⟨j + 1, dn, dc, DA, m3, by omega, by go_num, rfl, HIN2⟩
      case measure => simp [intOf]; omega
     | false =>
      have HC2 : Hid (∀ w', Grew w2 w' → w'.cell? ⟨q.b, 2, none⟩ = some (.map (some q.b2)) ∧ (w'.cell? ⟨ba, 0, none⟩ = some (.int .i64 ld) ∧ w'.cell? ⟨ba, 1, none⟩ = some (.int .i64 lw) ∧ w'.cell? ⟨ba, 2, none⟩ = some (.bool lis))) := fun w' g' =>
       ⟨g'.cell (HNW.out.c2 HIN2.out.keep), g'.cell (HBA2.out.cell rfl), g'.cell (HBA2.out.cell rfl), g'.cell (HBA2.out.cell rfl)⟩
      obtain ⟨PA, pc, hpv⟩ := HIN2.out.pl.form ⟨ld, lw, lis⟩
      have hown := HIN2.out.pl.own ⟨ld, lw, lis⟩
      have hlk := HIN2.out.pl.look ⟨ld, lw, lis⟩
      obtain ⟨pn, hpn⟩ : ∃ z, (plI dl k (ddS (cl.take j)) ⟨ld, lw, lis⟩).length = z := ⟨_, rfl⟩
      rw [hpn] at hpv hown
      rw [hpv] at hlk hown
      have HLK : Hid (∀ w', Grew w2 w' → (Instr.lookup 128 (.map (some q.b2)) (.agg #[.int .i64 ld, .int .i64 lw, .bool lis]) false).run Tryz.prog w' = .ok (.slice PA pn pc) w') := hlk
      have HPN := Lib.hid hpn
      have HOW := Lib.hid hown
      have HPV := Lib.hid hpv
      clear hlk hpn hown hpv
      go_upto_region 12 with (fail)
      refine wp_region_seq (by kernel_rfl) Grew.refl (fun _ _ _ => Grew.trans) (fun _ _ _ _ _ h => h) (by kernel_rfl) ?_
      repeat (first
       | (refine TakeAll.pure (v := ?_) (by rfl) ?_ ?_; rotate_left; (intro w' g'; obtain ⟨q_0, q_1, q_2, q_3⟩ := HC2.out w' ((Grew.refl w2).drew.trans g'); have q_4 := HLK.out w' ((Grew.refl w2).drew.trans g'); go_simp; first | done | with_reducible rfl); (simp only [Act.put, uzT, uz0, uz1]))
       | (refine TakeAll.skip (by rfl) ?_; (simp only [Act.put, uzT, uz0, uz1])))
      refine TakeAll.nil ?_
      intro w3 g3
      have gg3 := (Grew.refl w2).drew.trans g3
      have HIN3 := Lib.hid (HIN2.out.grew gg3)
      have HBA3 := Lib.hid (HBA2.out.grew gg3)
      have HOW3 := Lib.hid (own_grew HOW.out gg3)
      clear g3 gg3 HIN2 HBA2 HC2 HLK HOW
      obtain ⟨dd, hdd⟩ : ∃ z, (ddS (cl.take j)).contains ⟨ld, lw, lis⟩ = z := ⟨_, rfl⟩
      have HDD := Lib.hid hdd
      clear hdd
      have hpn9 : pn ≤ 9223372036854775807 := by
       have h1 := (Sl.own HOW3.out)
       exact Nat.le_trans h1.1 h1.2.1
      go_upto_region 13 with (fail)
      refine cut_lawX (X := Value × Value × Value × Value × Value × Value × Value × Value × Value × Value × Value × Value) (fun a x => (((((((((((((a.put (some 57) (x.1)).put (some 58) (x.2.1)).put (some 59) (x.2.2.1)).put (some 60) (x.2.2.2.1)).put (some 61) (x.2.2.2.2.1)).put (some 62) (x.2.2.2.2.2.1)).put (some 63) (x.2.2.2.2.2.2.1)).put (some 64) (x.2.2.2.2.2.2.2.1)).put (some 65) (x.2.2.2.2.2.2.2.2.1)).put (some 66) (x.2.2.2.2.2.2.2.2.2.1)).put (some 67) (x.2.2.2.2.2.2.2.2.2.2.1)).put (some 68) (x.2.2.2.2.2.2.2.2.2.2.2)).put (some 69) (.bool dd))) (fun w' => w' = w3) ?_ ?_
      rotate_left
      ·by_cases h0 : pn = 0
       ·subst h0
        have hd : dd = false := by
         cases dd with
         | false => rfl
         | true =>
          have h1 := HPN.out
          unfold plI at h1
          rw [HDD.out, if_pos rfl, List.length_append] at h1
          simp at h1
        subst hd
        go_wp2_with fail
       ·obtain ⟨pm, hpm⟩ : ∃ pm, pn = pm + 1 := ⟨pn - 1, by omega⟩
        obtain ⟨x, hx1, hx2⟩ := plI_last HDL.out (show (plI dl k (ddS (cl.take j)) ⟨ld, lw, lis⟩).length = pm + 1 by rw [HPN.out]; exact hpm)
        rw [HDD.out] at hx2
        obtain ⟨g, hPA⟩ : ∃ g, PA = some ⟨g, 0, none⟩ := by
         rcases HOW3.out.2 with ⟨e1, e2⟩ | ⟨g, cap, cur, e, _⟩
         ·omega
         ·injection e with e _ _
          exact ⟨g, e⟩
        subst hPA
        have hcell := HOW3.out.cellAt pm (by omega)
        rw [show (natV (plI dl k (ddS (cl.take j)) ⟨ld, lw, lis⟩))[pm]? = some (.int .i64 (x : Int)) by unfold natV; rw [List.getElem?_map, hx1]; rfl] at hcell
        have m1 : IntKind.i64.wrap ((pn : Int) - 1) = (pm : Int) := by rw [IntWalk.i64_in _ (by omega)]; omega
        have t1 : decide ((pn : Int) > 0) = true := decide_eq_true (by omega)
        have t2 : decide ((0 : Int) < (pn : Int)) = true := decide_eq_true (by omega)
        have t3 : decide (0 < pn) = true := decide_eq_true (by omega)
        have f3 : (0 : Int) ≤ (pm : Int) := by omega
        have f4 : (pm : Int) < (pn : Int) := by omega
        have y1 : ((x : Int) == (k : Int)) = dd := by rw [← hx2, Bool.eq_iff_iff, beq_iff_eq, decide_eq_true_eq]; omega
        have y2 : (x == k) = dd := by rw [← hx2, Bool.eq_iff_iff, beq_iff_eq, decide_eq_true_eq]
        clear hx1 hx2 hpm h0
        go_wp2_with fail
      rintro x w4 rfl
      simp only [Act.put, uzT, uz0, uz1]
      cases dd with
      | true =>
       have HSM : Hid (ddS (cl.take (j + 1)) = ddS (cl.take j)) := dd_same HLj.out (List.contains_iff_mem.1 HDD.out)
       rw [← HSM.out] at HIN3
       go_wp2_with fail
       go_roundw
       case rel => exact ⟨j + 1, dn, dc, DA, m3, by omega, by go_num, rfl, HIN3⟩
       case measure => simp [intOf]; omega
      | false =>
       have HSN : Hid (ddS (cl.take (j + 1)) = ddS (cl.take j) ++ [⟨ld, lw, lis⟩]) := by
        unfold Hid
        rw [ddS_take HLj.out, HDD.out, if_neg (by decide)]
       have hC : ∀ w', Grew w4 w' → (w'.cell? ⟨q.b, 2, none⟩ = some (.map (some q.b2)) ∧ w'.cell? ⟨ba, 0, none⟩ = some (.int .i64 ld) ∧ w'.cell? ⟨ba, 1, none⟩ = some (.int .i64 lw) ∧ w'.cell? ⟨ba, 2, none⟩ = some (.bool lis)) := fun w' g' =>
        ⟨g'.cell (HNW.out.c2 HIN3.out.keep), g'.cell (HBA3.out.cell rfl), g'.cell (HBA3.out.cell rfl), g'.cell (HBA3.out.cell rfl)⟩
       have HC4 := Lib.hid hC
       clear hC
       have HNB : Hid (∀ g, (plV m3 ⟨ld, lw, lis⟩).ownBlock = some g → g ≠ q.b ∧ g ≠ ba ∧ ¬ GI wi q m2 g) := fun g hg => by
        obtain ⟨LA, lc, UA, un, uc, mm, HP0, _⟩ := HNW.out.pg.ex
        have hgi := HNW.out.gi _ HP0.hd.lt HNW.out.pg.nR.1
        have hng : ¬ GI wi q m2 g := fun hh => by
         rcases HIN3.out.old _ g hg with h1 | h1
         ·exact hh.2.2 _ h1
         ·have := hh.1; omega
        refine ⟨fun e => hng (e ▸ hgi), ?_, hng⟩
        have ho := HIN3.out.pl.own ⟨ld, lw, lis⟩
        exact fun e => own_off ho HBA3.out (by decide) hg e
       have HB2 : Hid (q.b2 ≠ q.b ∧ q.b2 ≠ ba ∧ ¬ GI wi q m2 q.b2) := ⟨fun e => HNW.out.pg.nR.1 (e ▸ HNW.out.r2), map_ne HIN3.out.pl.map HBA3.out, fun hh => hh.2.1 rfl⟩
       go_upto_region 14 with (fail)
       refine wp_region_H (by kernel_rfl) (fun w' => w'.cell? ⟨q.b, 2, none⟩ = some (.map (some q.b2)) ∧ w'.cell? ⟨ba, 0, none⟩ = some (.int .i64 ld) ∧ w'.cell? ⟨ba, 1, none⟩ = some (.int .i64 lw) ∧ w'.cell? ⟨ba, 2, none⟩ = some (.bool lis)) ?_
       refine wpAnyH_takes (fun _ _ _ _ _ h => h) (HC4.out _ (Grew.refl w4).drew) [0, 1, 2, 3, 4, 5] (fuel' := 6) (by kernel_rfl) (by kernel_rfl) (by simp only [pickOps, ugT, ug0, ug1]; rfl) ?_
       repeat (first
        | (refine TakeP.pure (v := ?_) (by rfl) ?_ ?_; rotate_left; (intro w' g'; obtain ⟨q_0, q_1, q_2, q_3⟩ := g'; go_simp; first | done | with_reducible rfl); (simp only [Act.put, uzT, uz0, uz1]))
        | (refine TakeP.skip (by rfl) ?_; (simp only [Act.put, uzT, uz0, uz1])))
       refine TakeP.nil ?_
       obtain ⟨wd, hwd⟩ : ∃ y, y = w4.drew := ⟨_, rfl⟩
       have gd : Grew w4 wd := by rw [hwd]; exact (Grew.refl w4).drew
       rw [← hwd]
       clear hwd
       obtain ⟨wy, hwy⟩ : ∃ y, y = wd.alloc (.cells #[.int .i64 (k : Int)] 3) := ⟨_, rfl⟩
       obtain ⟨b5, hb5⟩ : ∃ z, z = wd.heap.size := ⟨_, rfl⟩
       have BI : Hid (Sl wy 1 (some ⟨b5, 0, none⟩) 1 1 ([iv (k : Int)])) := by unfold Hid; rw [hwy, hb5]; exact builtS (w := wd) (t := 3) 1 1 #[.int .i64 (k : Int)] _ rfl rfl (by decide)
       have gy : Grew w4 wy := by rw [hwy]; exact gd.alloc _
       have sy := HC4.out wy gy
       have HINy := Lib.hid (HIN3.out.grew gy)
       have HBAy := Lib.hid (HBA3.out.grew gy)
       obtain ⟨st, we, hen, hge, hst⟩ := HINy.out.pl.entry ⟨ld, lw, lis⟩
       rw [HPV.out] at hen
       have hen' : (Instr.mapEntry 128 (.map (some q.b2)) (.agg #[.int .i64 ld, .int .i64 lw, .bool lis])).run Tryz.prog wy = .ok (.tuple #[.slice PA pn pc, goInt st]) we := hen
       obtain ⟨sv, hsv⟩ : ∃ v, v = goInt st := ⟨_, rfl⟩
       rw [← hsv] at hen'
       have HGE := Lib.hid hge
       have HST := Lib.hid hst
       have HSV := Lib.hid hsv
       have se : we.cell? ⟨q.b, 2, none⟩ = some (.map (some q.b2)) ∧ we.cell? ⟨ba, 0, none⟩ = some (.int .i64 ld) ∧ we.cell? ⟨ba, 1, none⟩ = some (.int .i64 lw) ∧ we.cell? ⟨ba, 2, none⟩ = some (.bool lis) :=
        ⟨hge.cell sy.1 (fun e => by injection e with e; exact HB2.out.1 e.symm), hge.cell sy.2.1 (fun e => by injection e with e; exact HB2.out.2.1 e.symm), hge.cell sy.2.2.1 (fun e => by injection e with e; exact HB2.out.2.1 e.symm), hge.cell sy.2.2.2 (fun e => by injection e with e; exact HB2.out.2.1 e.symm)⟩
       have BEX : Hid (Sl we 1 (some ⟨b5, 0, none⟩) 1 1 ([iv (k : Int)])) := KeepD.sl BI.out (KeepD.grown (G := fun j => j ≠ q.b2) hge (fun h => h rfl)) (fun bb oo e _ => by
        injection e with e
        injection e with e1 _
        have h1 : q.b2 < w4.heap.size := HIN3.out.pl.map.lt
        have h2 := gd.le
        omega)
       clear hen hge hst hsv gd gy
       refine wpAnyH_step (i := 6) (by decide +kernel) (fuel' := 5) (by kernel_rfl) (by simp only [pickOps, ugT, ug0, ug1]; rfl) (by rfl) ?_
       intro K hK
       go_simp
       rw [← hwy, ← hb5]
       refine hK _ _ sy ?_
       clear hK K hwy hb5
       try simp only [Act.put, uzT, uz0, uz1]
       refine wpAnyH_step (i := 7) (by decide +kernel) (fuel' := 4) (by kernel_rfl) (by simp only [pickOps, ugT, ug0, ug1]; rfl) (by rfl) ?_
       intro K hK
       go_simp
       refine hK _ _ se ?_
       clear hK K hen' sy
       try simp only [Act.put, uzT, uz0, uz1]
       refine wpAnyH_takes (fun _ _ _ _ _ h => h) se [8, 10] (fuel' := 2) (by kernel_rfl) (by kernel_rfl) (by simp only [pickOps, ugT, ug0, ug1]; rfl) ?_
       repeat (first
        | (refine TakeP.pure (v := ?_) (by rfl) ?_ ?_; rotate_left; (intro w' g'; go_simp; first | done | with_reducible rfl); (simp only [Act.put, uzT, uz0, uz1]))
        | (refine TakeP.skip (by rfl) ?_; (simp only [Act.put, uzT, uz0, uz1])))
       refine TakeP.nil ?_
       have HWE := (HST.out we (Grew.refl _)).1
       rw [HPV.out, HPN.out] at HWE
       have hple : pn ≤ 20000 := by
        have h1 := plF_len dl ⟨ld, lw, lis⟩
        have h2 := HPN.out
        have h3 := HDL.out
        unfold plI at h2
        rw [HDD.out, if_neg (by decide), List.append_nil] at h2
        omega
       have hbs : q.base ≤ we.heap.size := by
        have h1 := HNW.out.g.le
        have h2 := HINy.out.keep.size
        have h3 := HGE.out.size
        have h4 := HQB.out
        omega
       refine wpAnyH_step (i := 9) (by decide +kernel) (fuel' := 1) (by kernel_rfl) (by simp only [pickOps, ugT, ug0, ug1]; rfl) (by rfl) ?_
       intro K hK
       refine wp_append_sl _ (.tmp 75) (.tmp 77) 38 rfl q.base 3 i3 (.int .i64 0) 1 8 Tryz.underlying38 hi3 hx0 hx1 hx2 rfl (by decide) (.slice PA pn pc) pn _ rfl HWE (some ⟨b5, 0, none⟩) 1 1 _ rfl BEX.out (by intro u hu; rw [List.mem_singleton.1 hu]; rfl) (by unfold maxLen; omega) (by omega) hbs ?_
       intro v7 w7 own7 hg7 hat7
       obtain ⟨A7, c7, rfl⟩ := own_form own7
       have HS2 := (HST.out we (Grew.refl _)).2 k w7 (.slice A7 (pn + 1) c7)
       rw [HPV.out, HPN.out] at HS2
       obtain ⟨w8, hes, HPL8, hg8⟩ := HS2 hg7 own7 hat7
       rw [← HSV.out] at hes
       have s7 : w7.cell? ⟨q.b, 2, none⟩ = some (.map (some q.b2)) ∧ w7.cell? ⟨ba, 0, none⟩ = some (.int .i64 ld) ∧ w7.cell? ⟨ba, 1, none⟩ = some (.int .i64 lw) ∧ w7.cell? ⟨ba, 2, none⟩ = some (.bool lis) :=
        ⟨hg7.cell se.1 (fun e => (HNB.out q.b (by rw [HPV.out]; exact e.symm)).1 rfl), hg7.cell se.2.1 (fun e => (HNB.out ba (by rw [HPV.out]; exact e.symm)).2.1 rfl), hg7.cell se.2.2.1 (fun e => (HNB.out ba (by rw [HPV.out]; exact e.symm)).2.1 rfl), hg7.cell se.2.2.2 (fun e => (HNB.out ba (by rw [HPV.out]; exact e.symm)).2.1 rfl)⟩
       have s8 : w8.cell? ⟨q.b, 2, none⟩ = some (.map (some q.b2)) ∧ w8.cell? ⟨ba, 0, none⟩ = some (.int .i64 ld) ∧ w8.cell? ⟨ba, 1, none⟩ = some (.int .i64 lw) ∧ w8.cell? ⟨ba, 2, none⟩ = some (.bool lis) :=
        ⟨hg8.cell s7.1 (fun e => by injection e with e; exact HB2.out.1 e.symm), hg8.cell s7.2.1 (fun e => by injection e with e; exact HB2.out.2.1 e.symm), hg8.cell s7.2.2.1 (fun e => by injection e with e; exact HB2.out.2.1 e.symm), hg8.cell s7.2.2.2 (fun e => by injection e with e; exact HB2.out.2.1 e.symm)⟩
       have HPL8 : Hid (PlO w8 q (alPut ⟨ld, lw, lis⟩ (.slice A7 (pn + 1) c7) m3) (plI dl k (ddS (cl.take j) ++ [⟨ld, lw, lis⟩]))) := by
        rw [plI_snoc HDD.out] at HPL8
        exact HPL8
       have HKP8 : Hid (KeepD (GI wi q m2) wi w8) := ((HINy.out.keep.trans (KeepD.grown HGE.out HB2.out.2.2)).trans (KeepD.row hg7 (fun g e => (HNB.out g (by rw [HPV.out]; exact e)).2.2))).trans (KeepD.grown hg8 HB2.out.2.2)
       have HOLD8 : Hid (∀ x g, (plV (alPut ⟨ld, lw, lis⟩ (.slice A7 (pn + 1) c7) m3) x).ownBlock = some g → (plV m2 x).ownBlock = some g ∨ wi.heap.size ≤ g) := fun x g hg => by
        rw [plV_put] at hg
        by_cases e : x = ⟨ld, lw, lis⟩
        ·rw [if_pos e] at hg
         rcases hat7 with h1 | h1
         ·rw [hg] at h1
          rw [e]
          exact HIN3.out.old _ g (by rw [HPV.out]; exact h1.symm)
         ·rw [hg] at h1
          injection h1 with h1
          have h2 := HINy.out.keep.size
          have h3 := HGE.out.size
          exact .inr (by omega)
        ·rw [if_neg e] at hg
         exact HIN3.out.old x g hg
       have HOW8 : Hid (w8.ownsRow wi.heap.size 122 3 (.slice DA dn dc) dn ((ddS (cl.take j)).flatMap encL)) := by
        have ho := HINy.out.own
        have kk : KeepD (fun g => g ≠ q.b2 ∧ (Value.slice PA pn pc).ownBlock ≠ some g) wy w8 := ((KeepD.grown HGE.out (fun h => h.1 rfl)).trans (KeepD.row hg7 (fun g e h => h.2 e))).trans (KeepD.grown hg8 (fun h => h.1 rfl))
        refine own_keepD ho kk (fun g hg => ⟨fun e => ?_, fun e => ?_⟩)
        ·obtain ⟨cur, hc⟩ := own_block ho hg
         exact map_ne HINy.out.pl.map hc e.symm
        ·have h1 := HINy.out.pl.own ⟨ld, lw, lis⟩
         rw [HPV.out] at h1
         exact own_apart ho h1 (by decide) hg e rfl
       refine hK _ _ s7 ?_
       clear hK K own7 hg7 hat7 hg8 HS2 HWE se
       try simp only [Act.put, uzT, uz0, uz1]
       refine wpAnyH_step (i := 11) (by decide +kernel) (fuel' := 0) (by kernel_rfl) (by simp only [pickOps, ugT, ug0, ug1]; rfl) (by rfl) ?_
       intro K hK
       go_simp
       refine hK _ _ s8 ?_
       clear hK K hes s7
       refine wpAnyH_done (by decide +kernel) ?_ _
       try simp only [Act.put, uzT, uz0, uz1]
       clear HGE HST HSV BI BEX HINy HBAy HC4 HIN3 HBA3 HOW3 HNB HB2 HPV HPN
       obtain ⟨q_0, u0, u1, u2⟩ := s8
       obtain ⟨wz, hwz⟩ : ∃ y, y = w8.alloc (.cells #[.int .i64 ld, .int .i64 lw, .bool lis] 122) := ⟨_, rfl⟩
       have gz : Grew w8 wz := by rw [hwz]; exact (Grew.refl w8).alloc _
       have BZ : Hid (Sl wz 3 (some ⟨w8.heap.size, 0, none⟩) 1 1 (encL ⟨ld, lw, lis⟩)) := by unfold Hid; rw [hwz]; exact builtS (w := w8) (t := 122) 3 1 #[.int .i64 ld, .int .i64 lw, .bool lis] _ rfl rfl (by decide)
       have OWz := Lib.hid (own_grew HOW8.out gz)
       have HPLz := Lib.hid (HPL8.out.grew gz)
       have HKPz := Lib.hid (HKP8.out.trans (KeepD.grew gz))
       have HBs : Hid (wi.heap.size ≤ wz.heap.size) := HKPz.out.size
       clear gz HOW8 HPL8 HKP8 q_0
       go_upto_region 16 with (at_builtin; rw [← hwz]; refine wpList_append_sl _ rfl (.tmp 81) (.tmp 83) 69 rfl wi.heap.size 122 i1 (.agg #[.int .i64 0, .int .i64 0, .bool false]) 3 24 Tryz.underlying69 hi1 hy0 hy1 hy2 rfl (by decide) (.slice DA dn dc) dn _ rfl OWz.out (some ⟨w8.heap.size, 0, none⟩) 1 1 _ rfl BZ.out (fun u hu => encL_ok.one _ u hu) (by unfold maxLen; omega) (by omega) HBs.out ?_; intro v9 w9 own9 hg9 hat9; obtain ⟨A9, c9, rfl⟩ := own_form own9)
       have HIN9 : Hid (InAt wi w9 q m2 dl k (ddS (cl.take (j + 1))) A9 (dn + 1) c9 (alPut ⟨ld, lw, lis⟩ (.slice A7 (pn + 1) c7) m3)) := by
        unfold Hid
        rw [HSN.out]
        have kk : KeepD (fun g => (Value.slice DA dn dc).ownBlock ≠ some g) wz w9 := KeepD.row hg9 (fun g e h => h e)
        refine ⟨by rw [List.flatMap_append, List.flatMap_singleton]; exact own9, by rw [List.length_append, HDN.out]; rfl, HPLz.out.keep kk (fun e => ?_) (fun x g hg e => ?_), HOLD8.out, HKPz.out.trans (KeepD.row hg9 (fun g e h => ?_))⟩
        ·obtain ⟨cur, hc⟩ := own_block OWz.out e
         exact map_ne HPLz.out.map hc rfl
        ·exact own_apart OWz.out (HPLz.out.own x) (by decide) e hg rfl
        ·have := (OWz.out.lt g e).1
         have := h.1
         omega
       clear hwz own9 hg9 hat9 OWz HPLz HKPz HBs BZ HOLD8 u0 u1 u2
       go_wp2_with fail
       go_roundw
       case rel => exact ⟨j + 1, dn + 1, c9, A9, _, by omega, by go_num, rfl, HIN9⟩
       case measure => simp [intOf]; omega
    ·obtain rfl : n = j := by omega
     have t1 : decide ((n : Int) < (n : Int)) = false := decide_eq_false (by omega)
     rw [List.take_of_length_le (by rw [HRL.out]; exact Nat.le_refl _)] at HIN
     obtain ⟨d, hd⟩ : ∃ z, ddS cl = z := ⟨_, rfl⟩
     have hdn : dn ≤ 1000 := by
      have h1 := ddS_len cl
      have h2 := HIN.out.len
      have h3 := HRL.out
      omega
     rw [hd] at HIN HDS
     have HDN : Hid (d.length = dn) := HIN.out.len
     have c3 : wr.cell? ⟨q.b, 3, none⟩ = some CV := by
      obtain ⟨LA, lc, UA, un, uc, mm, HP0, _⟩ := HNW.out.pg.ex
      exact HIN.out.keep.cell (p := ⟨q.b, 3, none⟩) (HNW.out.gi _ HP0.hd.lt HNW.out.pg.nR.1) HNW.out.pg.cells.2.2.2.2.2.1
     obtain ⟨wy, hwy⟩ : ∃ y, y = wr.alloc (.cells #[.slice DA dn dc] 69) := ⟨_, rfl⟩
     have gy : Grew wr wy := by rw [hwy]; exact (Grew.refl wr).alloc _
     have BV : Hid (Sl wy 1 (some ⟨wr.heap.size, 0, none⟩) 1 1 [.slice DA dn dc]) := by unfold Hid; rw [hwy]; exact builtS (w := wr) (t := 69) 1 1 #[.slice DA dn dc] _ rfl rfl (by decide)
     obtain ⟨vs, hv1, hv2, _⟩ := HNW.out.rows (HIN.out.keep.trans (KeepD.grew gy)) (fun _ h => h)
     rw [HDL.out] at hv1
     have HOV := Lib.hid hv1
     have HGY := Lib.hid gy
     have HBs : Hid (q.base ≤ wy.heap.size) := by
      have h1 := (HNW.out.all HQB.out (HIN.out.keep.trans (KeepD.grew gy))).le
      have h2 := HQB.out
      unfold Hid
      omega
     clear hd gy hv1 hv2
     go_upto_region 18 with (at_builtin; rw [← hwy]; refine wpList_append_sl _ rfl (.tmp 90) (.tmp 92) 68 rfl q.base 69 i9 (.slice none 0 0) 1 24 Tryz.underlying68 hi9 hz0 hz1 hz2 rfl (by decide) CV k _ rfl HOV.out (some ⟨wr.heap.size, 0, none⟩) 1 1 _ rfl BV.out (by intro u hu; rw [List.mem_singleton.1 hu]; rfl) (by unfold maxLen; omega) (by omega) HBs.out ?_; intro v7 w7 own7 hg7 hat7; obtain ⟨A7, c7, rfl⟩ := own_form own7; obtain ⟨⟨c7', f7⟩, HCZ⟩ := HNW.out.clause HQB.out HDL.out HIN.out HGY.out hg7 (fun xs h => by rw [own_inj h HOV.out]; exact own7) hat7)
     obtain ⟨w8, hw8⟩ : ∃ y, y = w7.setCell ⟨q.b, 3, none⟩ (.slice A7 (k + 1) c7) := ⟨_, rfl⟩
     rw [← hw8] at HCZ ⊢
     obtain ⟨R', P8, PL8, CL8, r0, r2, rp, G8⟩ := HCZ
     have HP8 := Lib.hid P8
     have HPL8 := Lib.hid PL8
     have HCL8 := Lib.hid CL8
     have HR0 := Lib.hid r0
     have HR2 := Lib.hid r2
     have HRP := Lib.hid rp
     have HG8 := Lib.hid G8
     have c4 := P8.cells.1
     simp only at c4
     have hkq : k < q.N := by rw [HQN.out]; exact hlt
     have px := P8.op_at (i := k) hkq
     obtain ⟨ov, hov⟩ : ∃ z, s.op.getD k 0 = z := ⟨_, rfl⟩
     rw [hov] at px
     have fO := P8.op.frozenAt k
     have hS := P8.set_op k (dn : Int)
     obtain ⟨wn, hwn⟩ : ∃ z, z = w8.setCell ⟨q.gO, k, none⟩ (.int .i64 (dn : Int)) := ⟨_, rfl⟩
     have HP9 : Hid (PgAt wn { q with CS := .slice A7 (k + 1) c7 } R' { s with op := s.op.set k (dn : Int) }) := by unfold Hid; rw [hwn]; exact hS.1
     have HK9 : Hid (KeepD R' w8 wn) := by unfold Hid; rw [hwn]; exact hS.2
     have e3 : (k : Int) < (q.N : Int) := by omega
     have hUn : s.U.length + 1 ≤ 1000000 := by
      have h1 := HNW.out.ini.ms
      rw [HDL.out] at h1
      unfold meas at h1
      omega
     clear hw8 c7' f7 P8 PL8 CL8 r0 r2 rp G8 hov hS own7 hg7 hat7 hwy HOV BV HGY HBs t1 c3
     go_upto_region 19 with (fail)
     rw [← hwn]
     clear hwn px fO c4
     go_wp2_with fail
     refine (examine110 HP9.out (i := k) hkq hUn).mono ?_
     rintro r w10 ⟨s', rfl, hx, P10, K10⟩
     have HK10 := Lib.hid (HK9.out.trans K10)
     have HFIN : Hid (NwAt w w10 q (.slice A7 (k + 1) c7) m3 (dl ++ [d]) R' s') := by
      refine ⟨P10, ?_, HPL8.out.keep HK10.out HR2.out HRP.out, HCL8.out.keep HK10.out (fun j cur t hj _ _ => hj) (fun j hj => hj), HR0.out, HR2.out, HNW.out.b2, HRP.out, ?_⟩
      ·refine HNW.out.ini.step (by rw [HDL.out]; exact hkq) d ?_
       rw [HDL.out, HDN.out]
       exact hx
      ·exact ((KeepD.grew (G := fun j => j < w.heap.size) HG8.out).trans (keepB_mono HK10.out (fun j hj => HR0.out j hj))).all (fun j hj => hj)
     rw [← HDS.out] at HFIN
     clear P10 K10 hx HP9 HK9 HK10 HP8 HPL8 HCL8 HR0 HR2 HRP HG8 HIN
     go_wp2_with fail
     rw [Exit.noGoto_normal]
     go_wp2_with fail
     go_roundw
     case rel => exact ⟨k + 1, _, m3, R', s', by omega, by go_num, HFIN⟩
     case measure => simp [intOf]; omega
  ·obtain rfl : N = k := by omega
   have t1 : decide ((N : Int) < (N : Int)) = false := decide_eq_false (by omega)
   have hdl : ((cls.take N).map ddS).length = N := by rw [List.length_map, List.length_take, HCN.out, Nat.min_self]
   have hcl : cls.take N = cls := List.take_of_length_le (by rw [HCN.out]; exact Nat.le_refl _)
   go_wp2_with fail
   go_ret
   rw [hcl] at HNW hdl
   have hnw := HNW.out
   refine ⟨{ q with CS := CV }, R, s, plF (cls.map ddS), cls.map ddS, rfl, hnw.pg, ⟨m2, hnw.pl.map, hnw.r2, fun l i hi => ?_, fun l => ?_⟩, hnw.cl.at_ rfl (by rw [hdl]; exact HQN.out.symm), plF_sta _ (dd_nodup cls), dedup_map cls, hnw.ini.done (by rw [hdl]; exact HQN.out.symm), hnw.ini.T, hnw.ini.lst, ?_, fun l => ?_, by rw [hdl]; exact HQN.out.symm, fun i => ?_, hnw.r0, hnw.g⟩
   ·have := plF_lt hi
    rw [hdl] at this
    show i < q.N
    rw [HQN.out]; exact this
   ·obtain ⟨A, c, hA⟩ := hnw.pl.form l
    have ho := hnw.pl.own l
    rw [hA] at ho
    refine ⟨A, _, c, hA, Ints.own (by rw [List.length_map]) (by
     have : natV (plF (cls.map ddS) l) = ((plF (cls.map ddS) l).map Int.ofNat).map iv := by unfold natV; rw [List.map_map]; rfl
     rw [← this]; exact ho), fun b o e _ => hnw.rp l b (by rw [hA, e]; rfl)⟩
   ·have h1 := hnw.ini.ms
    rw [hdl] at h1
    show meas s ≤ q.N
    rw [HQN.out]; exact h1
   ·have h1 := plF_len (cls.map ddS) l
    rw [hdl] at h1
    show _ ≤ q.N
    rw [HQN.out]; exact h1
   ·by_cases hi : i < N
    ·rw [hnw.ini.op i (by rw [hdl]; exact hi), getD_dd]
     obtain ⟨b', o', A', n', c', e1, e2, e3, e4⟩ := HC0.out.2 i hi
     have h1 := ddS_len (cls.getD i [])
     have h2 := e3.1
     omega
    ·rw [hnw.ini.oz i (by rw [hdl]; omega)]
     decide
end Go.Proofs.YtnnbibmmofnkdaaGreat
