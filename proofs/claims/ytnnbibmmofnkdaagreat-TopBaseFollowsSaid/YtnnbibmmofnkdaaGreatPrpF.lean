/-
  New propagations: plain, and what lies in memory.
-/
import Derived.Test.YtnnbibmmofnkdaaGreatPrpE
namespace Go.Proofs.YtnnbibmmofnkdaaGreat
open Go.RowKit Go.Proofs WageMem WageReg WageRec WageSpan WageTop
open WageMap
/-- A clause without what stands twice. -/
def ddS (c : List Li) : List Li := c.foldl (fun acc l => if acc.contains l then acc else acc ++ [l]) []
theorem snoc_ind {P : List Li → Prop} (h0 : P []) (h1 : ∀ c l, P c → P (c ++ [l])) (c : List Li) : P c := by
 have : ∀ (c d : List Li), P d → P (d ++ c) := fun c => by
  induction c with
  | nil => intro d h; rw [List.append_nil]; exact h
  | cons x c ih => intro d h; have := ih (d ++ [x]) (h1 d x h); rw [List.append_assoc] at this; exact this
 exact this c [] h0
theorem ddS_snoc (c : List Li) (l : Li) : ddS (c ++ [l]) = if (ddS c).contains l then ddS c else ddS c ++ [l] := by
 unfold ddS; rw [List.foldl_append]; rfl
theorem ddS_mem (l : Li) : ∀ (c : List Li), l ∈ ddS c ↔ l ∈ c := by
 intro c
 refine snoc_ind (P := fun c => l ∈ ddS c ↔ l ∈ c) ?_ ?_ c
 ·exact Iff.rfl
 ·intro c m ih
  rw [ddS_snoc, List.mem_append, List.mem_singleton]
  by_cases h : (ddS c).contains m = true
  ·rw [if_pos h, ih]
   constructor
   ·exact .inl
   ·rintro (h1 | rfl)
    ·exact h1
    ·exact ih.1 (List.contains_iff_mem.1 h)
  ·rw [if_neg h, List.mem_append, List.mem_singleton, ih]
theorem ddS_nodup : ∀ (c : List Li), (ddS c).Nodup := by
 intro c
 refine snoc_ind (P := fun c => (ddS c).Nodup) ?_ ?_ c
 ·exact List.nodup_nil
 ·intro c m ih
  rw [ddS_snoc]
  by_cases h : (ddS c).contains m = true
  ·rw [if_pos h]; exact ih
  ·rw [if_neg h, List.nodup_append]
   refine ⟨ih, by simp, fun x hx y hy e => ?_⟩
   rw [List.mem_singleton.1 hy] at e
   exact h (List.contains_iff_mem.2 (e ▸ hx))
theorem ddS_len : ∀ (c : List Li), (ddS c).length ≤ c.length := by
 intro c
 refine snoc_ind (P := fun c => (ddS c).length ≤ c.length) ?_ ?_ c
 ·exact Nat.le_refl _
 ·intro c m ih
  rw [ddS_snoc, List.length_append]
  split
  ·omega
  ·rw [List.length_append]; simp only [List.length_singleton]; omega
theorem ddS_take {c : List Li} {j : Nat} {l : Li} (h : c[j]? = some l) : ddS (c.take (j + 1)) = if (ddS (c.take j)).contains l then ddS (c.take j) else ddS (c.take j) ++ [l] := by
 rw [List.take_add_one, h]; exact ddS_snoc _ _
/-- The clauses that hold a literal. -/
def plF (dl : List (List Li)) (l : Li) : List Nat := (List.range dl.length).filter fun i => (dl.getD i []).contains l
theorem getD_snoc (dl : List (List Li)) (d : List Li) : (dl ++ [d]).getD dl.length [] = d := by
 rw [List.getD_eq_getElem?_getD, List.getElem?_append_right (Nat.le_refl _), Nat.sub_self]; rfl
theorem getD_left {dl : List (List Li)} (d : List Li) {i : Nat} (h : i < dl.length) : (dl ++ [d]).getD i [] = dl.getD i [] := by
 rw [List.getD_eq_getElem?_getD, List.getElem?_append_left h, ← List.getD_eq_getElem?_getD]
theorem plF_snoc (dl : List (List Li)) (d : List Li) (l : Li) : plF (dl ++ [d]) l = plF dl l ++ if d.contains l then [dl.length] else [] := by
 unfold plF
 rw [List.length_append, List.length_singleton, List.range_succ, List.filter_append]
 congr 1
 ·refine List.filter_congr fun i hi => ?_
  rw [getD_left d (List.mem_range.1 hi)]
 ·rw [List.filter_cons, getD_snoc, List.filter_nil]
theorem plF_lt {dl : List (List Li)} {l : Li} {i : Nat} (h : i ∈ plF dl l) : i < dl.length := List.mem_range.1 (List.mem_filter.1 h).1
theorem plF_len (dl : List (List Li)) (l : Li) : (plF dl l).length ≤ dl.length := by
 have := List.length_filter_le (fun i => (dl.getD i []).contains l) (List.range dl.length)
 rw [List.length_range] at this
 exact this
theorem plF_sta (dl : List (List Li)) (h : ∀ i, (dl.getD i []).Nodup) : Sta dl (plF dl) :=
 ⟨h, fun l i => by
  unfold plF
  rw [List.mem_filter, List.mem_range, List.contains_iff_mem], fun l => List.nodup_range.filter _⟩
theorem getD_dd (cl : List (List Li)) (i : Nat) : (cl.map ddS).getD i [] = ddS (cl.getD i []) := by
 rw [List.getD_eq_getElem?_getD, List.getElem?_map, List.getD_eq_getElem?_getD]
 cases cl[i]? <;> rfl
theorem dd_nodup (cl : List (List Li)) (i : Nat) : ((cl.map ddS).getD i []).Nodup := by rw [getD_dd]; exact ddS_nodup _
theorem dedup_map (cl : List (List Li)) : Dedup cl (cl.map ddS) := ⟨List.length_map _, fun i l => by rw [getD_dd]; exact ddS_mem l _⟩
/-- A propagation that is being made: the first clauses have been entered. -/
structure IniK (dl : List (List Li)) (N : Nat) (s : Pg) : Prop where
 lst : s.lst = []
 T : s.T = []
 sa : s.sa = List.replicate N false
 ol : s.op.length = N
 op : ∀ i, i < dl.length → s.op.getD i 0 = ((dl.getD i []).length : Int)
 oz : ∀ i, dl.length ≤ i → s.op.getD i 0 = 0
 U : ∀ x ∈ s.U, ∃ i : Nat, x = (i : Int) ∧ i < dl.length ∧ s.op.getD i 0 ≤ 1
 f1 : 0 ≤ s.fa → ∃ i : Nat, s.fa = (i : Int) ∧ i < dl.length ∧ s.op.getD i 0 = 0
 f0 : s.fa < 0 → ∀ i, i < dl.length → s.op.getD i 0 ≠ 0
 u1 : ∀ i, i < dl.length → s.op.getD i 0 = 1 → (i : Int) ∈ s.U
 ms : meas s ≤ dl.length
theorem IniK.nil (N : Nat) : IniK [] N ⟨[], [], List.replicate N 0, List.replicate N false, -1, []⟩ :=
 by
 refine ⟨rfl, rfl, rfl, List.length_replicate, fun i h => absurd h (Nat.not_lt_zero _), fun i _ => ?_, fun x h => (by cases h), fun h => (by simp at h), fun _ i h => absurd h (Nat.not_lt_zero _), fun i h => absurd h (Nat.not_lt_zero _), ?_⟩
 ·show (List.replicate N (0 : Int)).getD i 0 = 0
  rw [List.getD_eq_getElem?_getD, List.getElem?_replicate]
  split <;> rfl
 ·unfold meas
  have : (List.replicate N (0 : Int)).countP (fun x => decide (2 ≤ x)) = 0 := by
   rw [List.countP_eq_zero]
   intro x hx
   rw [List.eq_of_mem_replicate hx]
   decide
  simp only [List.length_nil, Nat.zero_add]
  rw [this]
  exact Nat.le_refl _
theorem exam_meas2 {s s' : Pg} {i : Nat} {x : Int} (hi : i < s.op.length) (h0 : s.op.getD i 0 = 0) (h : Pg.exam { s with op := s.op.set i x } i s') : meas s' ≤ meas s + 1 := by
 obtain ⟨h1, h2, h3, h4, h5⟩ := h
 have hc : (s.op.set i x).countP (fun x => decide (2 ≤ x)) = _ := List.countP_set hi
 have hg : s.op.getD i 0 = s.op[i] := by rw [List.getD_eq_getElem?_getD, List.getElem?_eq_getElem hi]; rfl
 simp only [getD_set, hi, and_self, if_true] at h5
 unfold meas
 rw [h3, hc]
 rw [hg] at h0
 rw [h0]
 simp only [decide_eq_true_eq]
 rw [if_neg (by decide), Nat.sub_zero]
 by_cases e0 : x = 0
 ·rw [if_pos e0] at h5
  rw [h5.2, if_neg (by omega)]
  omega
 ·rw [if_neg e0] at h5
  by_cases e1 : x = 1
  ·rw [if_pos e1] at h5
   have hl := h5.2.length_eq
   rw [List.length_append, List.length_singleton] at hl
   rw [hl, if_neg (by omega)]
   omega
  ·rw [if_neg e1] at h5
   rw [h5.2]
   split <;> omega
theorem IniK.step {dl : List (List Li)} {N : Nat} {s s' : Pg} (h : IniK dl N s) (hk : dl.length < N) (d : List Li) (he : Pg.exam { s with op := s.op.set dl.length (d.length : Int) } dl.length s') : IniK (dl ++ [d]) N s' := by
 have hkl : dl.length < s.op.length := by rw [h.ol]; exact hk
 have hms := exam_meas2 hkl (h.oz _ (Nat.le_refl _)) he
 obtain ⟨b1, b2, b3, b4, b5⟩ := he
 have hlen : (dl ++ [d]).length = dl.length + 1 := by rw [List.length_append]; rfl
 have hop : ∀ i, s'.op.getD i 0 = if i = dl.length then (d.length : Int) else s.op.getD i 0 := fun i => by
  rw [b3, getD_set]
  by_cases e : dl.length = i
  ·subst e; rw [if_pos ⟨rfl, hkl⟩, if_pos rfl]
  ·rw [if_neg (fun h => e h.1), if_neg (fun h => e h.symm)]
 have hop1 : s'.op.getD dl.length 0 = (d.length : Int) := by rw [hop, if_pos rfl]
 have hop2 : ∀ i, i < dl.length → s'.op.getD i 0 = s.op.getD i 0 := fun i hi => by rw [hop, if_neg (by omega)]
 simp only [getD_set, hkl, and_self, if_true] at b5
 have cs : ∀ i, i < (dl ++ [d]).length → i < dl.length ∨ i = dl.length := fun i hi => by omega
 refine ⟨b1.trans h.lst, b2.trans h.T, b4.trans h.sa, by rw [b3, List.length_set]; exact h.ol, fun i hi => ?_, fun i hi => ?_, ?_, ?_, ?_, ?_, by have := h.ms; omega⟩
 ·rcases cs i hi with h1 | rfl
  ·rw [hop2 i h1, getD_left d h1, h.op i h1]
  ·rw [hop1, getD_snoc]
 ·rw [hop, if_neg (by omega)]; exact h.oz i (by omega)
 all_goals (
  by_cases c0 : (d.length : Int) = 0)
 ·rw [if_pos c0] at b5
  intro x hx
  rw [b5.2] at hx
  obtain ⟨i, e, hi, ho⟩ := h.U x hx
  exact ⟨i, e, by omega, by rw [hop2 i hi]; exact ho⟩
 ·rw [if_neg c0] at b5
  intro x hx
  have key : x ∈ s.U ∨ (x = (dl.length : Int) ∧ (d.length : Int) = 1) := by
   by_cases c1 : (d.length : Int) = 1
   ·rw [if_pos c1] at b5
    rcases List.mem_append.1 (b5.2.mem_iff.1 hx) with h | h
    ·exact .inl h
    ·exact .inr ⟨List.mem_singleton.1 h, c1⟩
   ·rw [if_neg c1] at b5
    exact .inl (by rw [b5.2] at hx; exact hx)
  rcases key with h1 | ⟨h1, c1⟩
  ·obtain ⟨i, e, hi, ho⟩ := h.U x h1
   exact ⟨i, e, by omega, by rw [hop2 i hi]; exact ho⟩
  ·exact ⟨dl.length, h1, by omega, by rw [hop1]; omega⟩
 ·rw [if_pos c0] at b5
  intro hf
  by_cases c : s.fa < 0 ∨ (dl.length : Int) < s.fa
  ·exact ⟨dl.length, by rw [b5.1]; exact if_pos c, by omega, by rw [hop1]; exact c0⟩
  ·have hfa : s'.fa = s.fa := by rw [b5.1]; exact if_neg c
   rw [hfa] at hf ⊢
   obtain ⟨i, e, hi, ho⟩ := h.f1 hf
   exact ⟨i, e, by omega, by rw [hop2 i hi]; exact ho⟩
 ·rw [if_neg c0] at b5
  have hfa : s'.fa = s.fa := by by_cases c1 : (d.length : Int) = 1 <;> simp only [c1, if_true, if_false] at b5 <;> exact b5.1
  rw [hfa]
  intro hf
  obtain ⟨i, e, hi, ho⟩ := h.f1 hf
  exact ⟨i, e, by omega, by rw [hop2 i hi]; exact ho⟩
 ·rw [if_pos c0] at b5
  intro hf
  exfalso
  rw [b5.1] at hf
  split at hf <;> omega
 ·rw [if_neg c0] at b5
  have hfa : s'.fa = s.fa := by by_cases c1 : (d.length : Int) = 1 <;> simp only [c1, if_true, if_false] at b5 <;> exact b5.1
  rw [hfa]
  intro hf i hi
  rcases cs i hi with h1 | rfl
  ·rw [hop2 i h1]; exact h.f0 hf i h1
  ·rw [hop1]; exact c0
 ·rw [if_pos c0] at b5
  intro i hi h1
  rw [b5.2]
  rcases cs i hi with h2 | rfl
  ·exact h.u1 i h2 (by rw [← hop2 i h2]; exact h1)
  ·omega
 ·rw [if_neg c0] at b5
  intro i hi h1
  rcases cs i hi with h2 | rfl
  ·have h3 := h.u1 i h2 (by rw [← hop2 i h2]; exact h1)
   by_cases c1 : (d.length : Int) = 1
   ·rw [if_pos c1] at b5
    exact b5.2.mem_iff.2 (List.mem_append_left _ h3)
   ·rw [if_neg c1] at b5
    rw [b5.2]; exact h3
  ·rw [hop1] at h1
   rw [if_pos h1] at b5
   exact b5.2.mem_iff.2 (List.mem_append_right _ (List.mem_singleton.2 rfl))
theorem opn_nil (c : List Li) : opn [] c = c.length := by
 unfold opn
 rw [List.filter_eq_self.2 (fun (l : Li) _ => (rfl : (!([] : List Li).contains l.neg) = true))]
theorem IniK.done {dl : List (List Li)} {N : Nat} {s : Pg} (h : IniK dl N s) (hN : dl.length = N) : PInv dl (fun _ => False) s := by
 refine ⟨by rw [h.ol, hN], by rw [h.sa, List.length_replicate, hN], fun i hi => ?_, fun i hi => ?_, h.U, h.f1, h.f0, fun i hi _ h1 _ => h.u1 i hi h1⟩
 ·rw [h.op i hi, h.T, opn_nil]
 ·rw [h.sa, h.T]
  constructor
  ·intro h1
   rw [List.getD_eq_getElem?_getD, List.getElem?_replicate] at h1
   split at h1 <;> cases h1
  ·rintro ⟨l, _, h2⟩
   cases h2
/-- Blocks outside the propagation have changed. -/
theorem PgAt.frame {w y : World} {q : Pp} {R R' G : Nat → Prop} {s : Pg} (h : PgAt w q R s) (k : KeepD G w y) (hG : ∀ j, j < w.heap.size → ¬ R j → G j) (hR : ∀ j, R' j → R j ∨ w.heap.size ≤ j) (hl : ∀ j, R' j → j < y.heap.size) : PgAt y q R' s := by
 obtain ⟨LA, lc, UA, un, uc, m, HP, HLo, HM, HT, hLR, hUR⟩ := h.ex
 have hb := HP.hd
 have hbl := hb.lt
 have ap : ∀ {base e size v n xs}, w.ownsRow base e size v n xs → (∀ g', Value.ownBlock v = some g' → ¬ R g') → y.ownsRow base e size v n xs := fun {base e size v n xs} ho hne => own_keepD ho k (fun g hg => hG g (ho.lt g hg).2 (hne g hg))
 have no : ∀ j, j < w.heap.size → ¬ R j → ¬ R' j := fun j h1 h2 h3 => by rcases hR j h3 with h | h; exact h2 h; omega
 have HP2 : HpAt y q.b q.base [.slice LA s.lst.length lc, .map (some q.b1), .map (some q.b2), q.CS, .slice (some ⟨q.gO, 0, none⟩) q.N q.oc, .slice (some ⟨q.gS, 0, none⟩) q.N q.sc, .int .i64 s.fa] (fun j => j < w.heap.size ∧ j ≠ q.b ∧ some j ≠ Value.ownBlock (.slice UA un uc)) UA un uc s.U :=
  ⟨k.2 _ _ (hG _ hbl h.nR.1) hb, ap HP.own (fun g hg => (hUR g hg).1), HP.len, rfl, HP.nb, HP.ng, HP.le⟩
 have hO : q.gO < w.heap.size := (h.op.lt _ rfl).2
 have hS : q.gS < w.heap.size := (h.sa.lt _ rfl).2
 refine ⟨⟨LA, lc, UA, un, uc, m, HP2.can, ap HLo hLR, ?_, HT, fun g hg => no g (HLo.lt g hg).2 (hLR g hg), fun g hg => ⟨no g (HP.own.lt g hg).2 (hUR g hg).1, (hUR g hg).2⟩⟩, ap h.op (fun g hg => by injection hg with hg; subst hg; exact h.nR.2.2.1), ap h.sa (fun g hg => by injection hg with hg; subst hg; exact h.nR.2.2.2), h.ol, h.sl, ⟨no _ hbl h.nR.1, no _ HM.lt h.nR.2.1, no _ hO h.nR.2.2.1, no _ hS h.nR.2.2.2⟩, h.N, Nat.le_trans h.base k.1, hl⟩
 have hml := HM.lt
 refine HM.same ?_
 obtain ⟨es, ck, h1, _⟩ := HM
 rw [k.2 _ _ (hG _ hml h.nR.2.1) h1, h1]
/-- The clauses' cell is written. -/
theorem PgAt.set_cs {w : World} {q : Pp} {R : Nat → Prop} {s : Pg} (h : PgAt w q R s) (v : Value) : PgAt (w.setCell ⟨q.b, 3, none⟩ v) { q with CS := v } R s ∧ KeepD R w (w.setCell ⟨q.b, 3, none⟩ v) := by
 obtain ⟨LA, lc, UA, un, uc, m, HP, HLo, HM, HT, hLR, hUR⟩ := h.ex
 have hb := HP.hd
 have hg := grown_set w q.b 3 v
 have hsz : w.heap.size ≤ (w.setCell ⟨q.b, 3, none⟩ v).heap.size := hg.size
 have hk : ∀ {base e size u n xs}, w.ownsRow base e size u n xs → 133 ≠ e → (w.setCell ⟨q.b, 3, none⟩ v).ownsRow base e size u n xs := fun {base e size u n xs} ho hne => ho.kept hg (by
  cases hv : u.ownBlock with
  | none => exact .inl rfl
  | some g => exact .inr (fun e => own_off ho hb hne hv (by injection e)))
 have hd2 : Blk (w.setCell ⟨q.b, 3, none⟩ v) q.b 133 ([.slice LA s.lst.length lc, .map (some q.b1), .map (some q.b2), v, .slice (some ⟨q.gO, 0, none⟩) q.N q.oc, .slice (some ⟨q.gS, 0, none⟩) q.N q.sc, .int .i64 s.fa] ++ [.slice UA un uc]) := hb.set 3 _
 have HP2 : HpAt (w.setCell ⟨q.b, 3, none⟩ v) q.b q.base [.slice LA s.lst.length lc, .map (some q.b1), .map (some q.b2), v, .slice (some ⟨q.gO, 0, none⟩) q.N q.oc, .slice (some ⟨q.gS, 0, none⟩) q.N q.sc, .int .i64 s.fa] (fun j => j < w.heap.size ∧ j ≠ q.b ∧ some j ≠ Value.ownBlock (.slice UA un uc)) UA un uc s.U :=
  ⟨hd2, hk HP.own (by decide), HP.len, rfl, HP.nb, HP.ng, HP.le⟩
 refine ⟨⟨⟨LA, lc, UA, un, uc, m, HP2.can, hk HLo (by decide), HM.kept hg (fun e => by
  obtain ⟨es, ck, h1, h2⟩ := HM
  exact map_ne (ek := ekL) (ev := bV) ⟨es, ck, h1, h2⟩ hb (by injection e)), HT, hLR, hUR⟩, hk h.op (by decide), hk h.sa (by decide), h.ol, h.sl, h.nR, h.N, Nat.le_trans h.base hsz, fun j hj => Nat.lt_of_lt_of_le (h.lt j hj) hsz⟩, KeepD.grown hg h.nR.1⟩
def plV (m2 : List (Li × Value)) (l : Li) : Value := (alFind l m2).getD (.slice none 0 0)
theorem plV_put (m2 : List (Li × Value)) (l x : Li) (v : Value) : plV (alPut l v m2) x = if x = l then v else plV m2 x := by
 unfold plV
 by_cases h : x = l
 ·subst h; rw [alFind_put_self, if_pos rfl]; rfl
 ·rw [alFind_put_ne _ h, if_neg h]
def natV (r : List Nat) : List Value := r.map (fun i => iv ((i : Nat) : Int))
/-- The places while they are entered: a map to slices, each in a row of its own. -/
structure PlO (y : World) (q : Pp) (m2 : List (Li × Value)) (pl : Li → List Nat) : Prop where
 map : MapIs ekL id y q.b2 m2
 own : ∀ l, y.ownsRow q.base 3 1 (plV m2 l) (pl l).length (natV (pl l))
 ap : ∀ l l' g, l ≠ l' → (plV m2 l).ownBlock = some g → (plV m2 l').ownBlock ≠ some g
theorem PlO.grew {y y' : World} {q : Pp} {m2 : List (Li × Value)} {pl : Li → List Nat} (h : PlO y q m2 pl) (g : Grew y y') : PlO y' q m2 pl := ⟨h.map.grew g, fun l => own_grew (h.own l) g, h.ap⟩
theorem PlO.keep {y y' : World} {q : Pp} {m2 : List (Li × Value)} {pl : Li → List Nat} {G : Nat → Prop} (h : PlO y q m2 pl) (k : KeepD G y y') (h1 : G q.b2) (h2 : ∀ l g, (plV m2 l).ownBlock = some g → G g) : PlO y' q m2 pl :=
 ⟨h.map.same (by
  obtain ⟨es, ck, h3, _⟩ := h.map
  rw [k.2 _ _ h1 h3, h3]), fun l => own_keepD (h.own l) k (h2 l), h.ap⟩
theorem PlO.form {y : World} {q : Pp} {m2 : List (Li × Value)} {pl : Li → List Nat} (h : PlO y q m2 pl) (l : Li) : ∃ A c, plV m2 l = .slice A (pl l).length c := by
 rcases (h.own l).2 with ⟨e1, e2⟩ | ⟨g, cap, cur, e, _⟩
 ·exact ⟨none, 0, by rw [e1, e2]⟩
 ·exact ⟨_, _, e⟩
/-- p.places[l] = append(p.places[l], i). -/
theorem PlO.entry {y : World} {q : Pp} {m2 : List (Li × Value)} {pl : Li → List Nat} (h : PlO y q m2 pl) (l : Li) : ∃ (st : Nat) (w1 : World),
  (Instr.mapEntry 128 (.map (some q.b2)) (ekL l)).run Tryz.prog y = .ok (.tuple #[plV m2 l, goInt st]) w1 ∧ y.grownBy w1 (some q.b2) ∧
  ∀ w2, Grew w1 w2 → w2.ownsRow q.base 3 1 (plV m2 l) (pl l).length (natV (pl l)) ∧
   ∀ (i : Nat) (w7 : World) (v7 : Value), w2.grownBy w7 (plV m2 l).ownBlock → w7.ownsRow q.base 3 1 v7 ((pl l).length + 1) (natV (pl l) ++ [iv (i : Int)]) → (v7.ownBlock = (plV m2 l).ownBlock ∨ v7.ownBlock = some w2.heap.size) →
    ∃ w8, (Instr.entryStore 128 (.map (some q.b2)) (goInt st) v7).run Tryz.prog w7 = .ok () w8 ∧ PlO w8 q (alPut l v7 m2) (fun x => if x = l then pl l ++ [i] else pl x) ∧ w7.grownBy w8 (some q.b2) := by
 obtain ⟨st, w1, h1, h2, h3⟩ := h.map.entry lit_key map128p (z := .slice none 0 0) zero38p l
 have nb2 : ∀ {w : World} {x : Li} {g : Nat} {n : Nat} {xs : List Value} {v : Value}, MapIs ekL id w q.b2 m2 → w.ownsRow q.base 3 1 v n xs → v.ownBlock = some g → g ≠ q.b2 := fun {w x g n xs v} hm ho hg => by
  obtain ⟨cur, hc⟩ := own_block ho hg
  exact fun e => map_ne hm hc e.symm
 refine ⟨st, w1, ?_, h2, fun w2 g2 => ?_⟩
 ·rw [h1]
  unfold plV
  cases alFind l m2 <;> rfl
 ·have k1 : ∀ x, w1.ownsRow q.base 3 1 (plV m2 x) (pl x).length (natV (pl x)) := fun x => (h.own x).kept h2 (by
   cases hv : (plV m2 x).ownBlock with
   | none => exact .inl rfl
   | some g => exact .inr (fun e => nb2 (x := x) h.map (h.own x) hv (by injection e)))
  have k2 := fun x => own_grew (k1 x) g2
  refine ⟨k2 l, fun i w7 v7 g7 own7 hat7 => ?_⟩
  obtain ⟨es, clock, hb, _⟩ := h.map
  have hb2 : q.b2 < w1.heap.size := Nat.lt_of_lt_of_le (Array.getElem?_eq_some_iff.1 hb).1 h2.size
  have hw7 : w7.heap[q.b2]? = w1.heap[q.b2]? := by
   have e1 : w2.heap[q.b2]? = w1.heap[q.b2]? := Below.block g2 _ hb2
   rw [← e1]
   refine g7.block _ (Nat.lt_of_lt_of_le hb2 g2.le) (fun e => ?_)
   exact nb2 (x := l) h.map (h.own l) e.symm rfl
  obtain ⟨w8, h4, h5, h6⟩ := h3 w7 v7 hw7
  have hlt2 : ∀ x g, (plV m2 x).ownBlock = some g → g < w2.heap.size := fun x g hg => ((k2 x).lt g hg).2
  have hv7 : ∀ g, v7.ownBlock = some g → g ≠ q.b2 := fun g hg e => by
   obtain ⟨cur, hc⟩ := own_block own7 hg
   obtain ⟨es1, ck1, hb1, _⟩ := h5
   rcases hat7 with e1 | e1
   ·rw [hg] at e1
    exact nb2 (x := l) h.map (h.own l) e1.symm e
   ·rw [hg] at e1
    injection e1 with e1
    have := g2.le
    omega
  refine ⟨w8, h4, ⟨h5, fun x => ?_, fun x x' g hne hg hg' => ?_⟩, h6⟩
  ·rw [plV_put]
   by_cases e : x = l
   ·subst e
    simp only [if_true]
    have : natV (pl x ++ [i]) = natV (pl x) ++ [iv (i : Int)] := by unfold natV; rw [List.map_append]; rfl
    rw [this, List.length_append]
    exact own7.kept h6 (by
     cases hv : v7.ownBlock with
     | none => exact .inl rfl
     | some g => exact .inr (fun e => hv7 g hv (by injection e)))
   ·simp only [if_neg e]
    have k7 : w7.ownsRow q.base 3 1 (plV m2 x) (pl x).length (natV (pl x)) := (k2 x).kept g7 (by
     cases hv : (plV m2 x).ownBlock with
     | none => exact .inl rfl
     | some g => exact .inr (fun e' => h.ap x l g e hv e'.symm))
    exact k7.kept h6 (by
     cases hv : (plV m2 x).ownBlock with
     | none => exact .inl rfl
     | some g => exact .inr (fun e => nb2 (x := x) h.map (h.own x) hv (by injection e)))
  ·rw [plV_put] at hg hg'
   by_cases e : x = l
   ·subst e
    rw [if_pos rfl] at hg
    rw [if_neg (fun e => hne e.symm)] at hg'
    rcases hat7 with e1 | e1
    ·rw [hg] at e1
     exact h.ap x x' g hne e1.symm hg'
    ·rw [hg] at e1
     injection e1 with e1
     have := hlt2 x' g hg'
     omega
   ·rw [if_neg e] at hg
    by_cases e' : x' = l
    ·subst e'
     rw [if_pos rfl] at hg'
     rcases hat7 with e1 | e1
     ·rw [hg'] at e1
      exact h.ap x x' g hne hg e1.symm
     ·rw [hg'] at e1
      injection e1 with e1
      have := hlt2 x g hg
      omega
    ·rw [if_neg e'] at hg'
     exact h.ap x x' g hne hg hg'
end Go.Proofs.YtnnbibmmofnkdaaGreat
