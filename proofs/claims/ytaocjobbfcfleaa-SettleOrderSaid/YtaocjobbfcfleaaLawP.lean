/-
  What the laws of settle say, in plain words: valid desks, applying an answer.
-/
import Derived.Test.YtaocjobbfcfleaaEntP
namespace WageSet
open WageOrd WageMap

def Sq (l : List Ans) : Prop := l.Pairwise fun x y => x.q < y.q
theorem Sq.ne {l : List Ans} (h : Sq l) {x y : Ans} (hx : x ∈ l) (hy : y ∈ l) (e : x.q = y.q) : x = y := by
  induction l with
  | nil => cases hx
  | cons z l ih =>
    obtain ⟨h1, h2⟩ := List.pairwise_cons.1 h
    rcases List.mem_cons.1 hx with hx' | hx' <;> rcases List.mem_cons.1 hy with hy' | hy'
    · rw [hx', hy']
    · have := h1 y hy'; rw [hx'] at e; omega
    · have := h1 x hx'; rw [hy'] at e; omega
    · exact ih h2 hx' hy'
theorem sq_sub : ∀ {k l : List Ans}, Sq l → Sq k → (∀ x ∈ l, x ∈ k) → l.Sublist k
  | [], [], _, _, _ => List.Sublist.slnil
  | [], x :: l, _, _, h => absurd (h x List.mem_cons_self) (by simp)
  | y :: k, [], _, _, _ => List.nil_sublist _
  | y :: k, x :: l, hl, hk, h => by
    obtain ⟨hl1, hl2⟩ := List.pairwise_cons.1 hl
    obtain ⟨hk1, hk2⟩ := List.pairwise_cons.1 hk
    by_cases e : x = y
    · subst e
      refine List.Sublist.cons_cons _ (sq_sub hl2 hk2 fun z hz => ?_)
      rcases List.mem_cons.1 (h z (List.mem_cons_of_mem _ hz)) with rfl | h'
      · have := hl1 z hz; omega
      · exact h'
    · have hx : x ∈ k := (List.mem_cons.1 (h x List.mem_cons_self)).resolve_left e
      have hyx := hk1 x hx
      refine List.Sublist.cons _ (sq_sub hl hk2 fun z hz => ?_)
      rcases List.mem_cons.1 (h z hz) with rfl | h'
      · rcases List.mem_cons.1 hz with rfl | hz'
        · omega
        · have := hl1 z hz'; omega
      · exact h'
theorem sq_ext {l k : List Ans} (hl : Sq l) (hk : Sq k) (h : ∀ x, x ∈ l ↔ x ∈ k) : l = k := by
  have h1 := sq_sub hl hk fun x => (h x).1
  have h2 := sq_sub hk hl fun x => (h x).2
  exact h1.eq_of_length (Nat.le_antisymm h1.length_le h2.length_le)
theorem sm_sub {f : Ans → Int} (hf : ∀ a, ansB a = true → 0 ≤ f a) {l k : List Ans} (h : l.Sublist k) (hk : ∀ a ∈ k, ansB a = true) : sm f l ≤ sm f k := by
  induction h with
  | slnil => exact Int.le_refl _
  | cons a _ ih =>
    have h1 := ih fun b hb => hk b (List.mem_cons_of_mem _ hb)
    have h2 := hf a (hk a List.mem_cons_self)
    simp only [sm]; omega
  | cons_cons a _ ih =>
    have h1 := ih fun b hb => hk b (List.mem_cons_of_mem _ hb)
    simp only [sm]; omega
theorem f_pos (id : Int) (a : Ans) (h : ansB a = true) : 0 ≤ pdF id a ∧ 0 ≤ bkF id a ∧ 0 ≤ tkF id a ∧ 0 ≤ rfF id a := by
  have := ans_c h
  unfold pdF bkF tkF rfF
  refine ⟨?_, ?_, ?_, ?_⟩ <;> split <;> omega

/-! ### standOk by members -/
def AsOk (ps : List Pay) (zs : List Ans) : Prop := ∀ a ∈ zs, ansB a = true ∧ dayOk ps a = true
theorem sq_of_asB {ps : List Pay} {zs : List Ans} (h : asB ps zs zs.length = true) : Sq zs := by
  unfold Sq
  rw [List.pairwise_iff_getElem]
  intro i j hi hj hij
  exact sortQ_of' h i j _ _ hij (List.getElem?_eq_getElem hi) (List.getElem?_eq_getElem hj)
theorem stand_mem {ps : List Pay} {zs : List Ans} (h : standOk ps zs = true) : psB ps ps.length = true ∧ AsOk ps zs ∧ Sq zs ∧ ∀ p ∈ ps, okT p (tal p.id zs) = true := by
  obtain ⟨h1, h2, h3⟩ := stand_parts h
  refine ⟨h1, fun a ha => ?_, sq_of_asB h2, fun p hp => ?_⟩
  · obtain ⟨i, hi⟩ := List.mem_iff_getElem?.1 ha
    have := asB_at h2 (List.getElem?_eq_some_iff.1 hi).1 hi
    exact ⟨this.1, this.2.1⟩
  · obtain ⟨i, hi⟩ := List.mem_iff_getElem?.1 hp
    exact stB_at h3 (List.getElem?_eq_some_iff.1 hi).1 hi
theorem asB_of {ps : List Pay} {zs : List Ans} (h : AsOk ps zs) (hs : Sq zs) : ∀ k, k ≤ zs.length → asB ps zs k = true
  | 0, _ => rfl
  | k + 1, hk => by
    have hx : zs[k]? = some zs[k] := List.getElem?_eq_getElem (by omega)
    have h1 := h zs[k] (List.getElem_mem _)
    refine asB_succ (asB_of h hs k (by omega)) hx h1.1 h1.2 ?_
    match k, hk, hx with
    | 0, _, _ => rfl
    | j + 1, hk, _ =>
      refine prev_at (x := zs[j]) (List.getElem?_eq_getElem (by omega)) (decide_eq_true ?_)
      exact List.pairwise_iff_getElem.1 hs j (j + 1) (by omega) (by omega) (by omega)
theorem stB_of {ps : List Pay} {zs : List Ans} (h : ∀ p ∈ ps, okT p (tal p.id zs) = true) : ∀ k, k ≤ ps.length → stB ps zs k = true
  | 0, _ => rfl
  | k + 1, hk => stB_succ (stB_of h k (by omega)) (List.getElem?_eq_getElem (by omega)) (h _ (List.getElem_mem _))
theorem stand_of {ps : List Pay} {zs : List Ans} (h1 : psB ps ps.length = true) (h2 : AsOk ps zs) (h3 : Sq zs) (h4 : ∀ p ∈ ps, okT p (tal p.id zs) = true) : standOk ps zs = true := by
  unfold standOk
  rw [h1, asB_of h2 h3 _ (Nat.le_refl _), stB_of h4 _ (Nat.le_refl _)]; rfl

/-! ### the place of an answer -/
theorem take_pos (q : Int) (l : List Ans) : ∀ x ∈ l.take (posA q l), x.q < q := by
  induction l with
  | nil => intro x hx; simp at hx
  | cons a l ih =>
    intro x hx
    unfold posA at hx
    by_cases h : a.q < q
    · rw [List.takeWhile_cons_of_pos (by simpa using h), List.length_cons, List.take_succ_cons] at hx
      rcases List.mem_cons.1 hx with rfl | hx
      · exact h
      · exact ih x hx
    · rw [List.takeWhile_cons_of_neg (by simpa using h)] at hx
      simp at hx
theorem drop_pos {q : Int} {l : List Ans} (h : Sq l) : ∀ x ∈ l.drop (posA q l), q ≤ x.q := by
  induction l with
  | nil => intro x hx; simp at hx
  | cons a l ih =>
    obtain ⟨h1, h2⟩ := List.pairwise_cons.1 h
    intro x hx
    unfold posA at hx
    by_cases h : a.q < q
    · rw [List.takeWhile_cons_of_pos (by simpa using h), List.length_cons, List.drop_succ_cons] at hx
      exact ih h2 x hx
    · rw [List.takeWhile_cons_of_neg (by simpa using h)] at hx
      simp only [List.length_nil, List.drop_zero] at hx
      rcases List.mem_cons.1 hx with rfl | hx
      · omega
      · have := h1 x hx; omega
theorem insA_perm (a : Ans) (l : List Ans) : (insA a l).Perm (a :: l) := by
  unfold insA
  refine List.perm_middle.trans ?_
  rw [List.take_append_drop]
theorem insA_mem {a x : Ans} {l : List Ans} : x ∈ insA a l ↔ x = a ∨ x ∈ l := by
  rw [(insA_perm a l).mem_iff, List.mem_cons]
theorem found_iff {q : Int} {l : List Ans} (h : Sq l) : foundA q l = true ↔ ∃ x ∈ l, x.q = q := by
  constructor
  · intro hf
    obtain ⟨b, hb, e⟩ := found_get hf
    exact ⟨b, List.mem_of_getElem? hb, e⟩
  · rintro ⟨x, hx, e⟩
    rw [← List.take_append_drop (posA q l) l] at hx
    rcases List.mem_append.1 hx with hx | hx
    · have := take_pos q l x hx; omega
    · have hd := drop_pos (q := q) h
      have hp : (l.drop (posA q l)).Pairwise fun x y => x.q < y.q := h.sublist (List.drop_sublist _ _)
      cases hl : l.drop (posA q l) with
      | nil => rw [hl] at hx; cases hx
      | cons y k =>
        have hy : l[posA q l]? = some y := by
          have := List.getElem?_drop (xs := l) (i := posA q l) (j := 0)
          rw [hl] at this; simpa using this.symm
        rw [hl] at hx hd hp
        unfold foundA; rw [hy]
        refine decide_eq_true ?_
        rcases List.mem_cons.1 hx with rfl | hx
        · exact e
        · have h1 := (List.pairwise_cons.1 hp).1 x hx
          have h2 := hd y List.mem_cons_self
          omega
theorem found_same {a : Ans} {l : List Ans} (h : Sq l) (ha : a ∈ l) : foundA a.q l = true ∧ l[posA a.q l]? = some a := by
  have h1 := (found_iff h).2 ⟨a, ha, rfl⟩
  obtain ⟨b, hb, e⟩ := found_get h1
  rw [h.ne (List.mem_of_getElem? hb) ha e] at hb
  exact ⟨h1, hb⟩
theorem insA_sq {a : Ans} {l : List Ans} (h : Sq l) (hf : foundA a.q l = false) : Sq (insA a l) := by
  unfold insA Sq
  rw [List.pairwise_append]
  refine ⟨h.sublist (List.take_sublist _ _), List.pairwise_cons.2 ⟨fun x hx => ?_, h.sublist (List.drop_sublist _ _)⟩, fun x hx y hy => ?_⟩
  · have h1 := drop_pos h x hx
    have : x.q ≠ a.q := fun e => by
      rw [(found_iff h).2 ⟨x, List.mem_of_mem_drop hx, e⟩] at hf; cases hf
    omega
  · have h1 := take_pos a.q l x hx
    rcases List.mem_cons.1 hy with rfl | hy
    · exact h1
    · have := drop_pos h y hy; omega

/-! ### valid desks -/
def mkD (ps : List Pay) (zs : List Ans) : Desk := ⟨standL ps zs, zs⟩
theorem paysOf_mk (ps : List Pay) (zs : List Ans) : paysOf (mkD ps zs) = ps := by
  unfold paysOf mkD standL
  rw [List.map_map]
  exact (List.map_congr_left fun p _ => rfl).trans (List.map_id _)
theorem valid_mk {d : Desk} (h : validB d = true) : d = mkD (paysOf d) d.an := by
  obtain ⟨_, _, _, h4⟩ := valid_parts h
  unfold mkD; rw [h4]
theorem mk_valid {ps : List Pay} {zs : List Ans} (h1 : ps.length ≤ 400) (h2 : zs.length ≤ 2000) (h3 : standOk ps zs = true) : validB (mkD ps zs) = true := by
  unfold validB
  rw [paysOf_mk]
  have e1 : (mkD ps zs).ss.length ≤ 400 := by unfold mkD standL; simpa using h1
  have e2 : (mkD ps zs).an = zs := rfl
  rw [e2, h3, decide_eq_true e1, decide_eq_true h2]
  exact decide_eq_true rfl
theorem paysOf_len (d : Desk) : (paysOf d).length = d.ss.length := by unfold paysOf; rw [List.length_map]
theorem valid_sq {d : Desk} (h : validB d = true) : Sq d.an := (stand_mem (valid_parts h).2.2.1).2.2.1

/-! ### applying an answer -/
theorem app_cases {d : Desk} {a : Ans} (h : applyE d a = 0) : validB d = true ∧ ansB a = true ∧
    ((a ∈ d.an ∧ applyD d a = d) ∨ (foundA a.q d.an = false ∧ d.an.length < 2000 ∧ standOk (paysOf d) (insA a d.an) = true ∧ applyD d a = mkD (paysOf d) (insA a d.an))) := by
  have hv : (validB d && ansB a) = true := by
    cases hh : (validB d && ansB a) with
    | true => rfl
    | false => rw [app_bad hh] at h; cases h
  have hv' := hv
  rw [Bool.and_eq_true] at hv'
  refine ⟨hv'.1, hv'.2, ?_⟩
  cases hf : foundA a.q d.an with
  | true =>
    by_cases hb : d.an[posA a.q d.an]? = some a
    · exact .inl ⟨List.mem_of_getElem? hb, appD_same h hf⟩
    · rw [app_two hv hf hb] at h; cases h
  | false =>
    refine .inr ⟨rfl, ?_⟩
    by_cases hl : 2000 ≤ d.an.length
    · rw [app_lim hv hf hl] at h; cases h
    · refine ⟨by omega, ?_, appD_ok h hf⟩
      cases hs : standOk (paysOf d) (insA a d.an) with
      | true => rfl
      | false => rw [app_state hv hf hl hs] at h; cases h
theorem app_there {d : Desk} {a : Ans} (hv : validB d = true) (h : a ∈ d.an) : applyE d a = 0 ∧ applyD d a = d := by
  have ha := ((stand_mem (valid_parts hv).2.2.1).2.1 a h).1
  obtain ⟨h1, h2⟩ := found_same (valid_sq hv) h
  have e := app_same (d := d) (a := a) (by rw [hv, ha]; rfl) h1 h2
  exact ⟨e, appD_same e h1⟩
theorem app_new {d : Desk} {a : Ans} (hv : validB d = true) (ha : ansB a = true) (hf : foundA a.q d.an = false) (hl : d.an.length < 2000) (hs : standOk (paysOf d) (insA a d.an) = true) :
    applyE d a = 0 ∧ applyD d a = mkD (paysOf d) (insA a d.an) := by
  have e := app_ok (d := d) (a := a) (by rw [hv, ha]; rfl) hf (by omega) hs
  exact ⟨e, appD_ok e hf⟩
/-- What an answer that is applied makes of a desk. -/
theorem app_res {d : Desk} {a : Ans} (h : applyE d a = 0) : validB (applyD d a) = true ∧ paysOf (applyD d a) = paysOf d ∧ (∀ x, x ∈ (applyD d a).an ↔ x = a ∨ x ∈ d.an) ∧ d.an.length ≤ (applyD d a).an.length ∧ (applyD d a).an.length ≤ d.an.length + 1 := by
  obtain ⟨hv, ha, h1⟩ := app_cases h
  rcases h1 with ⟨hm, e⟩ | ⟨hf, hl, hs, e⟩
  · rw [e]
    refine ⟨hv, rfl, fun x => ⟨.inr, ?_⟩, Nat.le_refl _, by omega⟩
    rintro (rfl | hx)
    · exact hm
    · exact hx
  · rw [e]
    refine ⟨mk_valid (by rw [paysOf_len]; exact (valid_parts hv).1) (by rw [insA_len]; omega) hs, paysOf_mk _ _, fun x => insA_mem, ?_, ?_⟩
    · show d.an.length ≤ (insA a d.an).length; rw [insA_len]; omega
    · show (insA a d.an).length ≤ _; rw [insA_len]; exact Nat.le_refl _
theorem valid_ext {d e : Desk} (hd : validB d = true) (he : validB e = true) (hp : paysOf d = paysOf e) (ha : ∀ x, x ∈ d.an ↔ x ∈ e.an) : d = e := by
  have h1 := sq_ext (valid_sq hd) (valid_sq he) ha
  rw [valid_mk hd, valid_mk he, hp, h1]

/-! ### once -/
theorem once {d : Desk} {a : Ans} (h : applyE d a = 0) : validB (applyD d a) = true ∧ applyE (applyD d a) a = 0 ∧ applyD (applyD d a) a = applyD d a := by
  obtain ⟨h1, _, h3, _⟩ := app_res h
  exact ⟨h1, app_there h1 ((h3 a).2 (.inl rfl))⟩
theorem once_after {d : Desk} {a b : Ans} (h : applyE d a = 0) (k : applyE (applyD d a) b = 0) : validB (applyD (applyD d a) b) = true ∧ applyE (applyD (applyD d a) b) a = 0 ∧ applyD (applyD (applyD d a) b) a = applyD (applyD d a) b := by
  obtain ⟨_, _, h3, _⟩ := app_res h
  obtain ⟨k1, _, k3, _⟩ := app_res k
  exact ⟨k1, app_there k1 ((k3 a).2 (.inr ((h3 a).2 (.inl rfl))))⟩

/-! ### in any order -/
/-- What stands between a desk and the desk that all answers make. -/
structure Mid (ps : List Pay) (W N : Desk) : Prop where
  w : validB W = true
  n : validB N = true
  pw : paysOf W = ps
  pn : paysOf N = ps
  sub : ∀ x ∈ N.an, x ∈ W.an
  le : W.an.length ≤ 2000
theorem tal_le {ps : List Pay} {W : List Ans} {z : List Ans} (hW : Sq W) (ha : AsOk ps W) (hz : Sq z) (h : ∀ x ∈ z, x ∈ W) (id : Int) :
    (tal id z).pd ≤ (tal id W).pd ∧ (tal id z).bk ≤ (tal id W).bk ∧ (tal id z).rf ≤ (tal id W).rf := by
  have hs := sq_sub hz hW h
  have hb : ∀ a ∈ W, ansB a = true := fun a h => (ha a h).1
  exact ⟨sm_sub (fun a h => (f_pos id a h).1) hs hb, sm_sub (fun a h => (f_pos id a h).2.1) hs hb, sm_sub (fun a h => (f_pos id a h).2.2.2) hs hb⟩
theorem sm_pd_eq {id : Int} : ∀ {l k : List Ans}, l.Sublist k → Sq k → (∀ x ∈ k, x.k = 2 → x ∈ l) → sm (pdF id) l = sm (pdF id) k
  | _, _, .slnil, _, _ => rfl
  | _, _, .cons (l₁ := l) (l₂ := k) a h, hk, hh => by
    obtain ⟨h1, h2⟩ := List.pairwise_cons.1 hk
    have ih := sm_pd_eq (id := id) h h2 fun x hx => hh x (List.mem_cons_of_mem _ hx)
    have : pdF id a = 0 := by
      unfold pdF
      rw [if_neg]
      rintro ⟨_, e⟩
      have := h1 a (h.subset (hh a List.mem_cons_self e))
      omega
    simp only [sm, this, ih]; omega
  | _, _, .cons_cons (l₁ := l) (l₂ := k) a h, hk, hh => by
    obtain ⟨h1, h2⟩ := List.pairwise_cons.1 hk
    have ih := sm_pd_eq (id := id) h h2 fun x hx hx2 => by
      rcases List.mem_cons.1 (hh x (List.mem_cons_of_mem _ hx) hx2) with rfl | h'
      · have := h1 x hx; omega
      · exact h'
    simp only [sm, ih]
theorem mid_step {ps : List Pay} {W n : Desk} (h : Mid ps W n) {a : Ans} (ha : a ∈ W.an) :
    (applyE n a = 0 ∧ Mid ps W (applyD n a) ∧ ∀ x, x ∈ (applyD n a).an ↔ x = a ∨ x ∈ n.an) ∨ (applyE n a = 401 ∧ a.k = 4 ∧ ∃ x ∈ W.an, x.k = 2 ∧ x ∉ n.an) := by
  obtain ⟨hw, hn, pw, pn, hs, hl⟩ := h
  obtain ⟨w1, w2, w3, w4⟩ := stand_mem (valid_parts hw).2.2.1
  rw [pw] at w1 w2 w4
  obtain ⟨n1, n2, n3, n4⟩ := stand_mem (valid_parts hn).2.2.1
  rw [pn] at n2 n4
  have hab := (w2 a ha).1
  by_cases hm : a ∈ n.an
  · have h1 := app_there hn hm
    refine .inl ⟨h1.1, ?_, ?_⟩
    · rw [h1.2]; exact ⟨hw, hn, pw, pn, hs, hl⟩
    · rw [h1.2]; exact fun x => ⟨.inr, fun h => h.elim (fun e => e ▸ hm) id⟩
  · have hf : foundA a.q n.an = false := by
      cases hf : foundA a.q n.an with
      | false => rfl
      | true =>
        obtain ⟨x, hx, e⟩ := (found_iff n3).1 hf
        exact absurd (w3.ne (hs x hx) ha e ▸ hx) hm
    have hsub : ∀ x ∈ insA a n.an, x ∈ W.an := fun x hx => by
      rcases insA_mem.1 hx with rfl | hx
      · exact ha
      · exact hs x hx
    have hsq := insA_sq n3 hf
    have hlen : (insA a n.an).length ≤ W.an.length := (sq_sub hsq w3 hsub).length_le
    rw [insA_len] at hlen
    have hl2 : n.an.length < 2000 := by omega
    have has : AsOk ps (insA a n.an) := fun x hx => w2 x (hsub x hx)
    cases hst : standOk (paysOf n) (insA a n.an) with
    | true =>
      have h1 := app_new hn hab hf hl2 hst
      have h2 := app_res h1.1
      refine .inl ⟨h1.1, ⟨hw, h2.1, pw, h2.2.1.trans pn, fun x hx => ?_, hl⟩, h2.2.2.1⟩
      rcases (h2.2.2.1 x).1 hx with rfl | hx
      · exact ha
      · exact hs x hx
    | false =>
      refine .inr ⟨app_state (by rw [hn, hab]; rfl) hf (by omega) hst, ?_⟩
      rw [pn] at hst
      have hbad : ¬ ∀ p ∈ ps, okT p (tal p.id (insA a n.an)) = true := fun h => by rw [stand_of w1 has hsq h] at hst; cases hst
      obtain ⟨p, hp, hbp⟩ : ∃ p ∈ ps, ¬ okT p (tal p.id (insA a n.an)) = true := by
        apply Classical.byContradiction
        intro hc
        exact hbad fun p hp => Classical.byContradiction fun hb => hc ⟨p, hp, hb⟩
      have k0 := okT_parts (n4 p hp)
      have k1 := okT_parts (w4 p hp)
      have k2 := tal_le w3 w2 hsq hsub p.id
      have e : tal p.id (insA a n.an) = tal p.id (a :: n.an) := tal_perm _ (insA_perm _ _)
      have e1 : (tal p.id (insA a n.an)).bk = bkF p.id a + (tal p.id n.an).bk := by rw [e]; rfl
      have e2 : (tal p.id (insA a n.an)).pd = pdF p.id a + (tal p.id n.an).pd := by rw [e]; rfl
      have hpos := f_pos p.id a hab
      have hgt : (tal p.id (insA a n.an)).pd < (tal p.id (insA a n.an)).bk := by
        apply Classical.byContradiction
        intro hc
        apply hbp
        unfold okT
        have g1 : (tal p.id (insA a n.an)).rf ≤ 1 := by omega
        have g2 : 0 < (tal p.id (insA a n.an)).rf → (tal p.id (insA a n.an)).pd ≤ 0 := fun h => by have := k1.2.1 (by omega); omega
        have g3 : (tal p.id (insA a n.an)).pd ≤ p.c := by omega
        by_cases g4 : 0 < (tal p.id (insA a n.an)).rf
        · have g5 := g2 g4
          rw [decide_eq_false (show ¬ 1 < (tal p.id (insA a n.an)).rf by omega), decide_eq_false (show ¬ 0 < (tal p.id (insA a n.an)).pd by omega), decide_eq_true (show (tal p.id (insA a n.an)).bk ≤ (tal p.id (insA a n.an)).pd by omega), decide_eq_true g3]; simp
        · rw [decide_eq_false (show ¬ 1 < (tal p.id (insA a n.an)).rf by omega), decide_eq_false g4, decide_eq_true (show (tal p.id (insA a n.an)).bk ≤ (tal p.id (insA a n.an)).pd by omega), decide_eq_true g3]; simp
      refine ⟨?_, ?_⟩
      · apply Classical.byContradiction
        intro hk
        have : bkF p.id a = 0 := by unfold bkF; rw [if_neg]; rintro ⟨_, h⟩; exact hk h
        omega
      · apply Classical.byContradiction
        intro hc
        have hall : ∀ x ∈ W.an, x.k = 2 → x ∈ insA a n.an := fun x hx h2 => insA_mem.2 (.inr (Classical.byContradiction fun hn => hc ⟨x, hx, h2, hn⟩))
        have : (tal p.id (insA a n.an)).pd = (tal p.id W.an).pd := sm_pd_eq (sq_sub hsq w3 hsub) w3 hall
        omega
/-- Answers one after the other, the last first. -/
inductive Chain (d : Desk) : List Ans → Desk → Prop
  | nil : Chain d [] d
  | snoc {l : List Ans} {x : Desk} {a : Ans} : Chain d l x → applyE x a = 0 → Chain d (l ++ [a]) (applyD x a)
theorem chain_res {d : Desk} (hv : validB d = true) {l : List Ans} {x : Desk} (h : Chain d l x) : validB x = true ∧ paysOf x = paysOf d ∧ (∀ a, a ∈ x.an ↔ a ∈ l ∨ a ∈ d.an) ∧ x.an.length ≤ d.an.length + l.length := by
  induction h with
  | nil => exact ⟨hv, rfl, fun a => by simp, by simp⟩
  | snoc _ ha ih =>
    obtain ⟨_, h2, h3, h4⟩ := ih
    obtain ⟨k1, k2, k3, _, k5⟩ := app_res ha
    refine ⟨k1, k2.trans h2, fun b => ?_, ?_⟩
    · rw [k3, h3, List.mem_append, List.mem_singleton]
      constructor
      · rintro (h | h | h) <;> simp [h]
      · rintro ((h | h) | h) <;> simp [h]
    · rw [List.length_append, List.length_singleton]; omega
/-- The rounds: what is left after the first answers of a round. -/
structure Rnd (ps : List Pay) (W : Desk) (ans : List Ans) (r : Nat) (now : Desk) (rest later : List Ans) : Prop where
  mid : Mid ps W now
  restIn : ∀ x ∈ rest, x ∈ ans
  laterIn : ∀ x ∈ later, x ∈ ans ∧ x.k = 4
  cover : ∀ x ∈ ans, x ∈ rest ∨ x ∈ later ∨ x ∈ now.an
  one : 1 ≤ r → ∀ x ∈ ans, x.k = 2 → x ∈ now.an
  none_ : 1 ≤ r → later = []
  len : rest.length + later.length ≤ ans.length
theorem rnd_step {ps : List Pay} {d W : Desk} {ans : List Ans} {r : Nat} {now : Desk} {a : Ans} {rest later : List Ans} (hW : ∀ x, x ∈ W.an ↔ x ∈ ans ∨ x ∈ d.an) (hd : ∀ x ∈ d.an, x ∈ now.an)
    (h : Rnd ps W ans r now (a :: rest) later) : (applyE now a = 0 ∧ Rnd ps W ans r (applyD now a) rest later ∧ ∀ x ∈ d.an, x ∈ (applyD now a).an) ∨ (applyE now a = 401 ∧ Rnd ps W ans r now rest (later ++ [a])) := by
  have hain := h.restIn a List.mem_cons_self
  rcases mid_step h.mid ((hW a).2 (.inl hain)) with ⟨h1, h2, h3⟩ | ⟨h1, h2, x, hx, hx2, hxn⟩
  · refine .inl ⟨h1, ⟨h2, fun x hx => h.restIn x (List.mem_cons_of_mem _ hx), h.laterIn, fun x hx => ?_, fun hr x hx hk => (h3 x).2 (.inr (h.one hr x hx hk)), h.none_, ?_⟩, fun x hx => (h3 x).2 (.inr (hd x hx))⟩
    · rcases h.cover x hx with h4 | h4 | h4
      · rcases List.mem_cons.1 h4 with rfl | h4
        · exact .inr (.inr ((h3 x).2 (.inl rfl)))
        · exact .inl h4
      · exact .inr (.inl h4)
      · exact .inr (.inr ((h3 x).2 (.inr h4)))
    · have := h.len; rw [List.length_cons] at this; omega
  · refine .inr ⟨h1, ⟨h.mid, fun x hx => h.restIn x (List.mem_cons_of_mem _ hx), fun x hx => ?_, fun x hx => ?_, h.one, fun hr => ?_, ?_⟩⟩
    · rcases List.mem_append.1 hx with hx | hx
      · exact h.laterIn x hx
      · rw [List.mem_singleton] at hx; subst hx; exact ⟨hain, h2⟩
    · rcases h.cover x hx with h4 | h4 | h4
      · rcases List.mem_cons.1 h4 with rfl | h4
        · exact .inr (.inl (by simp))
        · exact .inl h4
      · exact .inr (.inl (List.mem_append_left _ h4))
      · exact .inr (.inr h4)
    · exfalso
      rcases (hW x).1 hx with h5 | h5
      · exact hxn (h.one hr x h5 hx2)
      · exact hxn (hd x h5)
    · have := h.len; rw [List.length_cons] at this; rw [List.length_append, List.length_singleton]; omega
theorem rnd_next {ps : List Pay} {W : Desk} {ans : List Ans} {r : Nat} {now : Desk} {later : List Ans} (h : Rnd ps W ans r now [] later) : Rnd ps W ans (r + 1) now later [] := by
  refine ⟨h.mid, fun x hx => (h.laterIn x hx).1, fun x hx => (by cases hx), fun x hx => ?_, fun _ x hx hk => ?_, fun _ => rfl, ?_⟩
  · rcases h.cover x hx with h4 | h4 | h4
    · cases h4
    · exact .inl h4
    · exact .inr (.inr h4)
  · rcases h.cover x hx with h4 | h4 | h4
    · cases h4
    · have := (h.laterIn x h4).2; omega
    · exact h4
  · have := h.len; simp only [List.length_nil, Nat.zero_add] at this ⊢; omega
theorem rnd_end {ps : List Pay} {d W : Desk} {ans : List Ans} {r : Nat} {now : Desk} (hW : ∀ x, x ∈ W.an ↔ x ∈ ans ∨ x ∈ d.an) (hd : ∀ x ∈ d.an, x ∈ now.an) (h : Rnd ps W ans r now [] []) : now = W := by
  refine valid_ext h.mid.n h.mid.w (h.mid.pn.trans h.mid.pw.symm) fun x => ⟨h.mid.sub x, fun hx => ?_⟩
  rcases (hW x).1 hx with h5 | h5
  · rcases h.cover x h5 with h4 | h4 | h4
    · cases h4
    · cases h4
    · exact h4
  · exact hd x h5
theorem rnd_begin {d W : Desk} {ans left : List Ans} (hv : validB d = true) (hc : Chain d ans W) (hl : d.an.length ≤ 60) (ha : ans.length ≤ 12) (hp : left.Perm ans) : Rnd (paysOf d) W ans 0 d left [] := by
  obtain ⟨h1, h2, h3, h4⟩ := chain_res hv hc
  refine ⟨⟨h1, hv, h2, rfl, fun x hx => (h3 x).2 (.inr hx), by omega⟩, fun x hx => hp.mem_iff.1 hx, fun x hx => (by cases hx), fun x hx => .inl (hp.mem_iff.2 hx), fun h => (by omega), fun h => (by omega), ?_⟩
  rw [hp.length_eq]; simp
end WageSet
