/-
  The books of a desk, in plain words: entries are well-formed, balances.
-/
import Derived.Test.YtaocjobbfcfleaaLawR
import Derived.Test.YtaocjobbfcfleaaBndP
namespace WageSet
open WageOrd WageMap

def bigB (n : Int) : Bool := decide (0 ≤ n) && decide (n ≤ 1000000000000)
def entB (e : Ent) : Bool := bigB e.id && nameB e.de && nameB e.cr && !decide (e.de = e.cr) && centB e.c && dayB e.d && dayB e.b
theorem name_transit : nameB transit = true := by decide +kernel
theorem name_bank : nameB bank = true := by decide +kernel
theorem tb_ne : transit ≠ bank := by decide +kernel
theorem sentE_ok {p : Pay} (h : payB p = true) : entB (sentE p) = true := by
  obtain ⟨h1, h2, h3, h4, h5, h6⟩ := pay_parts h
  unfold entB sentE bigB centB dayB
  simp only [h2, name_transit, decide_eq_false h3]
  simp
  omega
theorem answE_ok {p : Pay} {a : Ans} (hp : payB p = true) (ha : ansB a = true) (hm : movesB a = true) : entB (answE p a) = true := by
  obtain ⟨h1, h2, h3, h4, h5, h6⟩ := pay_parts hp
  obtain ⟨a1, a2, a3, a4⟩ := ans_parts ha
  have hk : a.k ≠ 1 := by unfold movesB at hm; simpa using hm
  unfold answE
  by_cases e2 : a.k = 2
  · rw [if_pos e2]
    unfold entB bigB centB dayB
    simp only [name_bank, name_transit, decide_eq_false tb_ne]
    simp
    omega
  · rw [if_neg e2]
    by_cases e3 : a.k = 3
    · rw [if_pos e3]
      unfold entB bigB centB dayB
      simp only [h2, name_transit, decide_eq_false (fun e : transit = p.acc => h3 e.symm)]
      simp
      omega
    · rw [if_neg e3]
      have e4 : a.k = 4 := by omega
      rw [if_pos e4]
      unfold entB bigB centB dayB
      simp only [h2, name_bank, decide_eq_false (fun e : bank = p.acc => h4 e.symm)]
      simp
      omega
theorem payP_mem {d : Desk} (hv : validB d = true) {a : Ans} (ha : a ∈ d.an) : payP (paysOf d) a.id ∈ paysOf d ∧ (payP (paysOf d) a.id).id = a.id := by
  obtain ⟨p, hp, _⟩ := ans_find hv ha
  unfold payP
  rw [hp, Option.getD_some]
  exact ⟨List.mem_of_find?_eq_some hp, by have := List.find?_some hp; simpa using this⟩
theorem pays_ok {d : Desk} (hv : validB d = true) {p : Pay} (hp : p ∈ paysOf d) : payB p = true := by
  unfold paysOf at hp
  obtain ⟨s, hs, rfl⟩ := List.mem_map.1 hp
  exact (valid_sta hv hs).1
theorem ents_ok {d : Desk} (hv : validB d = true) : ∀ e ∈ entL d, entB e = true := by
  intro e he
  rw [entL_sort hv, (sortE_perm _).mem_iff, ents_form] at he
  rcases List.mem_append.1 he with he | he
  · obtain ⟨p, hp, rfl⟩ := List.mem_map.1 he
    exact sentE_ok (pays_ok hv hp)
  · obtain ⟨a, ha, rfl⟩ := List.mem_map.1 he
    obtain ⟨ha1, ha2⟩ := List.mem_filter.1 ha
    exact answE_ok (pays_ok hv (payP_mem hv ha1).1) ((stand_mem (valid_parts hv).2.2.1).2.1 a ha1).1 ha2
theorem ents_sorted {d : Desk} (hv : validB d = true) : SortedE (entL d) := by rw [entL_sort hv]; exact sortE_sorted (evs_nodup hv)
theorem ents_ids {d : Desk} (hv : validB d = true) : ((entL d).map (·.id)).Nodup := by
  rw [entL_sort hv]
  exact ((sortE_perm _).map (·.id)).nodup_iff.2 (evs_nodup hv)

/-! ### balances -/
def balF (acc : ByteArray) (e : Ent) : Int := if acc = e.de then e.c else if acc = e.cr then - e.c else 0
def balL (acc : ByteArray) (l : List Ent) : Int := sm (balF acc) l
theorem sm_map {α β : Type} (f : β → Int) (g : α → β) : ∀ l : List α, sm f (l.map g) = sm (fun a => f (g a)) l
  | [] => rfl
  | a :: l => by simp only [List.map_cons, sm, sm_map f g l]
theorem sm_filter {α : Type} (f : α → Int) (b : α → Bool) : ∀ l : List α, sm f (l.filter b) = sm (fun a => if b a = true then f a else 0) l
  | [] => rfl
  | a :: l => by
    rw [List.filter_cons]
    by_cases h : b a = true
    · rw [if_pos h]; simp only [sm, sm_filter f b l, if_pos h]
    · rw [if_neg h]; simp only [sm, sm_filter f b l, if_neg h]; omega
theorem sm_swap {α β : Type} (f : α → β → Int) (l : List α) : ∀ k : List β, sm (fun b => sm (fun a => f a b) l) k = sm (fun a => sm (fun b => f a b) k) l
  | [] => by simp only [sm]; exact (sm_zero l).symm
  | b :: k => by simp only [sm, sm_swap f l k, sm_add]
theorem sm_pick (h : Pay → Int) (id : Int) : ∀ {ps : List Pay} {p0 : Pay}, ps.Pairwise (fun x y => x.id ≠ y.id) → findP ps id = some p0 → sm (fun p => if id = p.id then h p else 0) ps = h p0
  | [], p0, _, hf => by cases hf
  | p :: ps, p0, hp, hf => by
    obtain ⟨h1, h2⟩ := List.pairwise_cons.1 hp
    unfold findP at hf
    rw [List.find?_cons] at hf
    by_cases e : p.id = id
    · rw [show (p.id == id) = true by simpa using e] at hf
      injection hf with hf
      subst hf
      simp only [sm]
      rw [if_pos e.symm]
      have : sm (fun q => if id = q.id then h q else 0) ps = 0 := by
        rw [sm_congr (g := fun _ => 0) (fun q hq => if_neg (fun h' => h1 q hq (e.trans h')))]
        exact sm_zero ps
      omega
    · rw [show (p.id == id) = false by simpa using e] at hf
      simp only [sm]
      rw [if_neg (fun h' => e h'.symm), sm_pick h id h2 hf]; omega
theorem ids_pays {d : Desk} (hv : validB d = true) : (paysOf d).Pairwise fun x y => x.id ≠ y.id := by
  unfold paysOf
  rw [List.pairwise_map]
  exact ids_of hv
/-- The answers' part of a sum, payment by payment. -/
theorem sm_exch {d : Desk} (hv : validB d = true) (g : Pay → Ans → Int) : sm (fun a => g (payP (paysOf d) a.id) a) d.an = sm (fun p => sm (fun a => if a.id = p.id then g p a else 0) d.an) (paysOf d) := by
  rw [sm_swap (fun a p => if a.id = p.id then g p a else 0) d.an (paysOf d)]
  refine sm_congr fun a ha => ?_
  obtain ⟨p, hp, _⟩ := ans_find hv ha
  rw [sm_pick (fun p => g p a) a.id (ids_pays hv) hp]
  unfold payP; rw [hp]; rfl
theorem bal_form {d : Desk} (hv : validB d = true) (acc : ByteArray) :
    balL acc (entL d) = sm (fun p => balF acc (sentE p) + sm (fun a => if a.id = p.id then (if movesB a = true then balF acc (answE p a) else 0) else 0) d.an) (paysOf d) := by
  unfold balL
  rw [entL_sort hv, sm_perm _ (sortE_perm _), ents_form, sm_append, sm_map, sm_map, sm_filter, sm_add]
  congr 1
  exact sm_exch hv fun p a => if movesB a = true then balF acc (answE p a) else 0
theorem sm_mul (c : Int) {α : Type} (f : α → Int) : ∀ l : List α, sm (fun a => c * f a) l = c * sm f l
  | [] => by simp [sm]
  | a :: l => by simp only [sm, sm_mul c f l, Int.mul_add]
theorem neg_sm {α : Type} (f : α → Int) : ∀ l : List α, sm (fun a => - f a) l = - sm f l
  | [] => rfl
  | a :: l => by simp only [sm, neg_sm f l]; omega
theorem pays_sm (d : Desk) (f : Pay → Int) : sm f (paysOf d) = sm (fun s => f s.p) d.ss := by unfold paysOf; exact sm_map f (·.p) d.ss
/-- What the answers about a payment give. -/
theorem part_acc {d : Desk} (hv : validB d = true) {p : Pay} {acc : ByteArray} (h1 : acc ≠ transit) (h2 : acc ≠ bank) :
    sm (fun a => if a.id = p.id then (if movesB a = true then balF acc (answE p a) else 0) else 0) d.an = if p.acc = acc then - (p.c * (tal p.id d.an).rf) - (tal p.id d.an).bk else 0 := by
  have e : ∀ a ∈ d.an, (if a.id = p.id then (if movesB a = true then balF acc (answE p a) else 0) else 0) = if p.acc = acc then - (p.c * rfF p.id a + bkF p.id a) else 0 := fun a ha => by
    have hk := ans_k ((stand_mem (valid_parts hv).2.2.1).2.1 a ha).1
    unfold movesB answE balF rfF bkF
    by_cases ei : a.id = p.id
    · by_cases ea : acc = p.acc
      · subst ea
        rcases hk with hk | hk | hk | hk <;> simp [hk, ei, h1, h2]
      · have ea' : ¬ p.acc = acc := fun h => ea h.symm
        rcases hk with hk | hk | hk | hk <;> simp [hk, ei, ea, ea', h1, h2]
    · simp [ei]
  rw [sm_congr e]
  by_cases ea : p.acc = acc
  · simp only [ea, if_true]
    rw [neg_sm, sm_add, sm_mul]
    unfold tal; simp only; omega
  · simp only [ea, if_false]
    exact sm_zero _
theorem part_transit {d : Desk} (hv : validB d = true) {p : Pay} (hp : p.acc ≠ transit) :
    sm (fun a => if a.id = p.id then (if movesB a = true then balF transit (answE p a) else 0) else 0) d.an = p.c * (tal p.id d.an).rf + (tal p.id d.an).pd := by
  have e : ∀ a ∈ d.an, (if a.id = p.id then (if movesB a = true then balF transit (answE p a) else 0) else 0) = p.c * rfF p.id a + pdF p.id a := fun a ha => by
    have hk := ans_k ((stand_mem (valid_parts hv).2.2.1).2.1 a ha).1
    have hb := tb_ne
    have hp' : ¬ transit = p.acc := fun h => hp h.symm
    unfold movesB answE balF rfF pdF
    by_cases ei : a.id = p.id
    · rcases hk with hk | hk | hk | hk <;> simp [hk, ei, hb, hp']
    · simp [ei]
  rw [sm_congr e, sm_add, sm_mul]
  rfl
theorem part_bank {d : Desk} (hv : validB d = true) {p : Pay} (hp : p.acc ≠ bank) :
    sm (fun a => if a.id = p.id then (if movesB a = true then balF bank (answE p a) else 0) else 0) d.an = (tal p.id d.an).bk - (tal p.id d.an).pd := by
  have e : ∀ a ∈ d.an, (if a.id = p.id then (if movesB a = true then balF bank (answE p a) else 0) else 0) = bkF p.id a + - pdF p.id a := fun a ha => by
    have hk := ans_k ((stand_mem (valid_parts hv).2.2.1).2.1 a ha).1
    have hb : ¬ bank = transit := fun h => tb_ne h.symm
    have hp' : ¬ bank = p.acc := fun h => hp h.symm
    unfold movesB answE balF bkF pdF
    by_cases ei : a.id = p.id
    · rcases hk with hk | hk | hk | hk <;> simp [hk, ei, hb, hp']
    · simp [ei]
  rw [sm_congr e, sm_add, neg_sm]
  unfold tal; simp only; omega
theorem rf_cases {d : Desk} (hv : validB d = true) {s : Sta} (hs : s ∈ d.ss) : let t := tal s.p.id d.an
    (t.rf = 0 ∨ (t.rf = 1 ∧ t.pd = 0 ∧ t.bk = 0)) ∧ (s.st = 4 ↔ t.rf = 1) ∧ s.pd = t.pd ∧ s.bk = t.bk := by
  obtain ⟨h1, h2, h3⟩ := valid_sta hv hs
  have h6 := okT_parts h3
  have hb := tal_bound (stand_parts (valid_parts hv).2.2.1).2.1 (by have := (valid_parts hv).2.1; omega) s.p.id
  rw [List.take_length] at hb
  have b1 := hb _ (.head _)
  have b2 := hb _ (.tail _ (.head _))
  have b4 := hb _ (.tail _ (.tail _ (.tail _ (.head _))))
  have e1 : s.st = stOf (tal s.p.id d.an) := congrArg Sta.st h2
  refine ⟨by omega, ?_, congrArg Sta.pd h2, congrArg Sta.bk h2⟩
  rw [e1]
  unfold stOf
  split
  · omega
  · split
    · omega
    · split
      · omega
      · split <;> omega
theorem bal_acc {d : Desk} (hv : validB d = true) {acc : ByteArray} (h1 : acc ≠ transit) (h2 : acc ≠ bank) : balL acc (entL d) = spentL d acc := by
  rw [bal_form hv, pays_sm]
  unfold spentL
  rw [if_pos hv]
  refine sm_congr fun s hs => ?_
  rw [part_acc hv h1 h2]
  obtain ⟨h3, h4, h5, h6⟩ := rf_cases hv hs
  unfold balF sentE spF
  rw [h6]
  by_cases ea : s.p.acc = acc
  · have ea' : acc = s.p.acc := ea.symm
    simp only [ea', if_true, true_and]
    rcases h3 with h3 | ⟨h3, h7, h8⟩
    · rw [if_pos (fun h => by rw [h4.1 h] at h3; omega), h3]; omega
    · rw [if_neg (fun h => h (h4.2 h3)), h3, h8]; omega
  · have ea' : ¬ acc = s.p.acc := fun h => ea h.symm
    simp only [ea, ea', h1, if_false, false_and]; rfl
def tranF (s : Sta) : Int := if s.st ≠ 4 then s.p.c - s.pd else 0
def bankF (s : Sta) : Int := s.pd - s.bk
theorem bal_transit {d : Desk} (hv : validB d = true) : balL transit (entL d) = - sm tranF d.ss := by
  rw [bal_form hv, pays_sm, ← neg_sm]
  refine sm_congr fun s hs => ?_
  have hp := pay_parts (valid_sta hv hs).1
  rw [part_transit hv hp.2.2.1]
  obtain ⟨h3, h4, h5, h6⟩ := rf_cases hv hs
  unfold balF sentE tranF
  rw [h5]
  have hne : ¬ transit = s.p.acc := fun h => hp.2.2.1 h.symm
  simp only [hne, if_false, if_true]
  rcases h3 with h3 | ⟨h3, h7, h8⟩
  · rw [if_pos (fun h => by rw [h4.1 h] at h3; omega), h3]; omega
  · rw [if_neg (fun h => h (h4.2 h3)), h3, h7]; omega
theorem bal_bank {d : Desk} (hv : validB d = true) : balL bank (entL d) = - sm bankF d.ss := by
  rw [bal_form hv, pays_sm, ← neg_sm]
  refine sm_congr fun s hs => ?_
  have hp := pay_parts (valid_sta hv hs).1
  rw [part_bank hv hp.2.2.2.1]
  obtain ⟨_, _, h5, h6⟩ := rf_cases hv hs
  unfold balF sentE bankF
  have hne : ¬ bank = s.p.acc := fun h => hp.2.2.2.1 h.symm
  have hb : ¬ bank = transit := fun h => tb_ne h.symm
  simp only [hne, hb, if_false]
  omega
theorem tran_bound {d : Desk} (hv : validB d = true) (k : Nat) : 0 ≤ sm tranF (d.ss.take k) ∧ sm tranF (d.ss.take k) ≤ 400000000000000 ∧ 0 ≤ sm bankF (d.ss.take k) ∧ sm bankF (d.ss.take k) ≤ 400000000000000 := by
  have hb : ∀ s ∈ d.ss.take k, (0 ≤ tranF s ∧ tranF s ≤ 1000000000000) ∧ (0 ≤ bankF s ∧ bankF s ≤ 1000000000000) := fun s hs => by
    have := sta_bound hv (List.mem_of_mem_take hs)
    unfold tranF bankF
    split <;> omega
  have h1 := sm_le (m := 1000000000000) (l := d.ss.take k) fun s hs => (hb s hs).1.2
  have h2 := sm_le (m := 1000000000000) (l := d.ss.take k) fun s hs => (hb s hs).2.2
  have h3 := sm_nonneg (l := d.ss.take k) fun s hs => (hb s hs).1.1
  have h4 := sm_nonneg (l := d.ss.take k) fun s hs => (hb s hs).2.1
  have h5 := (valid_parts hv).1
  have h6 : (d.ss.take k).length ≤ 400 := by rw [List.length_take]; omega
  omega
theorem bal_bound {l : List Ent} (h : ∀ e ∈ l, entB e = true) (hl : l.length ≤ 2000) (acc : ByteArray) (k : Nat) : -2000000000000000 ≤ balL acc (l.take k) ∧ balL acc (l.take k) ≤ 2000000000000000 := by
  have hb : ∀ e ∈ l.take k, balF acc e ≤ 1000000000000 ∧ - balF acc e ≤ 1000000000000 := fun e he => by
    have := h e (List.mem_of_mem_take he)
    unfold entB centB at this
    simp only [Bool.and_eq_true, decide_eq_true_eq] at this
    unfold balF
    split
    · omega
    · split <;> omega
  have h1 := sm_le (m := 1000000000000) (l := l.take k) fun s hs => (hb s hs).1
  have h2 := sm_le (m := 1000000000000) (l := l.take k) fun s hs => (hb s hs).2
  rw [neg_sm] at h2
  have h6 : (l.take k).length ≤ 2000 := by rw [List.length_take]; omega
  unfold balL
  omega
end WageSet
