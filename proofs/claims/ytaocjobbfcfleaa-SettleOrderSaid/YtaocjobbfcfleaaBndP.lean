/-
  Desks that are built from payments and answers, in plain words; sums for each account.
-/
import Derived.Test.YtaocjobbfcfleaaLawQ
import Derived.Test.YtaocjobbfcfleaaIterL
namespace WageSet
open WageOrd WageMap

def sendS (d : Desk) (p : Pay) : Desk := if sendE d p = 0 then sendD d p else d
def appS (d : Desk) (a : Ans) : Desk := if applyE d a = 0 then applyD d a else d
def sendAll (ps : List Pay) : Desk := ps.foldl sendS ⟨[], []⟩
def appAll (d : Desk) (zs : List Ans) : Desk := zs.foldl appS d
theorem sendAll_succ {ps : List Pay} {k : Nat} {p : Pay} (h : ps[k]? = some p) : sendAll (ps.take (k + 1)) = sendS (sendAll (ps.take k)) p := by
  unfold sendAll; rw [List.take_add_one, h, List.foldl_append]; rfl
theorem appAll_succ {d : Desk} {zs : List Ans} {k : Nat} {a : Ans} (h : zs[k]? = some a) : appAll d (zs.take (k + 1)) = appS (appAll d (zs.take k)) a := by
  unfold appAll; rw [List.take_add_one, h, List.foldl_append]; rfl
theorem nil_valid : validB ⟨[], []⟩ = true := by decide +kernel
theorem sendS_ok {d : Desk} {p : Pay} (h : validB d = true) : validB (sendS d p) = true ∧ (sendS d p).ss.length ≤ d.ss.length + 1 ∧ (sendS d p).an.length = d.an.length := by
  unfold sendS
  by_cases e : sendE d p = 0
  · rw [if_pos e]
    refine ⟨send_valid e, ?_, ?_⟩ <;> rw [(send_cases e).2.2.2.2]
    · simp
  · rw [if_neg e]; exact ⟨h, by omega, rfl⟩
theorem appS_ok {d : Desk} {a : Ans} (h : validB d = true) : validB (appS d a) = true ∧ (appS d a).ss.length = d.ss.length ∧ (appS d a).an.length ≤ d.an.length + 1 := by
  unfold appS
  by_cases e : applyE d a = 0
  · rw [if_pos e]
    exact ⟨(app_res e).1, apply_len e, (app_res e).2.2.2.2⟩
  · rw [if_neg e]; exact ⟨h, rfl, by omega⟩
theorem fold_send : ∀ (ps : List Pay) (d : Desk), validB d = true → validB (ps.foldl sendS d) = true ∧ (ps.foldl sendS d).ss.length ≤ d.ss.length + ps.length ∧ (ps.foldl sendS d).an.length = d.an.length
  | [], d, h => ⟨h, by simp, rfl⟩
  | p :: ps, d, h => by
    obtain ⟨h1, h2, h3⟩ := sendS_ok (p := p) h
    obtain ⟨k1, k2, k3⟩ := fold_send ps _ h1
    simp only [List.foldl_cons, List.length_cons]
    exact ⟨k1, by omega, by omega⟩
theorem fold_app : ∀ (zs : List Ans) (d : Desk), validB d = true → validB (zs.foldl appS d) = true ∧ (zs.foldl appS d).ss.length = d.ss.length ∧ (zs.foldl appS d).an.length ≤ d.an.length + zs.length
  | [], d, h => ⟨h, rfl, by simp⟩
  | p :: ps, d, h => by
    obtain ⟨h1, h2, h3⟩ := appS_ok (a := p) h
    obtain ⟨k1, k2, k3⟩ := fold_app ps _ h1
    simp only [List.foldl_cons, List.length_cons]
    exact ⟨k1, by omega, by omega⟩
theorem sendAll_ok (ps : List Pay) : validB (sendAll ps) = true ∧ (sendAll ps).ss.length ≤ ps.length := by
  obtain ⟨h1, h2, _⟩ := fold_send ps ⟨[], []⟩ nil_valid
  exact ⟨h1, by unfold sendAll; simpa using h2⟩
theorem appAll_ok {d : Desk} (h : validB d = true) (zs : List Ans) : validB (appAll d zs) = true ∧ (appAll d zs).ss.length = d.ss.length := by
  obtain ⟨h1, h2, _⟩ := fold_app zs d h
  exact ⟨h1, h2⟩

/-! ### the sums -/
def accF (acc : ByteArray) (s : Sta) : Int := if s.p.acc = acc then s.p.c else 0
def leftF (s : Sta) : Int := if s.st ≠ 4 then s.p.c - s.bk else 0
/-- The map of sums. -/
def sumM (l : List Sta) : Nat → List (ByteArray × Int)
  | 0 => []
  | i + 1 => match l[i]? with
    | some s => alPut s.p.acc ((alFind s.p.acc (sumM l i)).getD 0 + s.p.c) (sumM l i)
    | none => sumM l i
theorem sumM_succ {l : List Sta} {i : Nat} {s : Sta} (h : l[i]? = some s) : sumM l (i + 1) = alPut s.p.acc ((alFind s.p.acc (sumM l i)).getD 0 + s.p.c) (sumM l i) := by
  conv => lhs; unfold sumM
  rw [h]
theorem sumM_len (l : List Sta) : ∀ i, (sumM l i).length ≤ i
  | 0 => Nat.le_refl _
  | i + 1 => by
    have := sumM_len l i
    unfold sumM
    split
    · rename_i s _; have h2 := alPut_length s.p.acc ((alFind s.p.acc (sumM l i)).getD 0 + s.p.c) (sumM l i); omega
    · omega
theorem sumM_spec {l : List Sta} : ∀ {i : Nat}, i ≤ l.length → Keys (sumM l i) ∧ (∀ acc, (alFind acc (sumM l i)).getD 0 = sm (accF acc) (l.take i)) ∧ (∀ s ∈ l.take i, s.p.acc ∈ (sumM l i).map Prod.fst)
  | 0, _ => ⟨Keys.nil, fun acc => by simp [sumM, alFind, sm], by simp⟩
  | i + 1, hi => by
    obtain ⟨h1, h2, h3⟩ := sumM_spec (l := l) (i := i) (by omega)
    have hx : l[i]? = some l[i] := List.getElem?_eq_getElem (by omega)
    rw [sumM_succ hx]
    refine ⟨h1.put _ _, fun acc => ?_, fun s hs => ?_⟩
    · rw [sm_take _ hx]
      by_cases e : l[i].p.acc = acc
      · subst e
        rw [alFind_put_self, Option.getD_some, h2]
        simp [accF]
      · rw [alFind_put_ne _ (fun h => e h.symm), h2]
        simp [accF, e]
    · rw [alPut_keys]
      rw [List.take_add_one, hx] at hs
      rcases List.mem_append.1 hs with hs | hs
      · have := h3 s hs
        split
        · exact this
        · exact List.mem_append_left _ this
      · simp at hs
        subst hs
        split
        · rename_i hm; exact hm
        · simp
theorem sumM_at {l : List Sta} {q : ByteArray × Int} (h : q ∈ sumM l l.length) : q.2 = sm (accF q.1) l := by
  obtain ⟨h1, h2, _⟩ := sumM_spec (l := l) (Nat.le_refl _)
  have := h2 q.1
  rw [mem_alFind h1 (show (q.1, q.2) ∈ _ from h), List.take_length] at this
  exact this
theorem accF_ge {d : Desk} (h : validB d = true) (acc : ByteArray) {s : Sta} (hs : s ∈ d.ss) : 0 ≤ spF acc s ∧ spF acc s ≤ accF acc s ∧ accF acc s ≤ 1000000000000 := by
  have := sta_bound h hs
  unfold spF accF
  by_cases e : s.p.acc = acc
  · by_cases k : s.st = 4
    · simp [e, k]; omega
    · simp [e, k]; omega
  · simp [e]
theorem sm_mono {α : Type} {f g : α → Int} : ∀ {l : List α}, (∀ a ∈ l, f a ≤ g a) → sm f l ≤ sm g l
  | [], _ => Int.le_refl _
  | a :: l, h => by
    have h1 := h a List.mem_cons_self
    have h2 := sm_mono (f := f) (g := g) fun b hb => h b (List.mem_cons_of_mem a hb)
    simp only [sm]; omega
theorem spent_le {d : Desk} (h : validB d = true) (acc : ByteArray) : 0 ≤ spentL d acc ∧ spentL d acc ≤ sm (accF acc) d.ss ∧ sm (accF acc) d.ss ≤ 400000000000000 := by
  unfold spentL
  rw [if_pos h]
  refine ⟨sm_nonneg fun s hs => (accF_ge h acc hs).1, sm_mono fun s hs => (accF_ge h acc hs).2.1, ?_⟩
  have h1 := sm_le (m := 1000000000000) (l := d.ss) fun s hs => (accF_ge h acc hs).2.2
  have h2 := (valid_parts h).1
  omega
theorem sm_add {α : Type} (f g : α → Int) : ∀ l : List α, sm (fun a => f a + g a) l = sm f l + sm g l
  | [] => rfl
  | a :: l => by simp only [sm, sm_add f g l]; omega
theorem sm_zero {α : Type} : ∀ l : List α, sm (fun _ => 0) l = 0
  | [] => rfl
  | a :: l => by simp only [sm, sm_zero l]; omega
theorem sm_off (p0 : ByteArray) (v : Int) : ∀ m : List (ByteArray × Int), p0 ∉ m.map Prod.fst → sm (fun q => if p0 = q.1 then v else 0) m = 0
  | [], _ => rfl
  | q :: m, h => by
    simp only [List.map_cons, List.mem_cons, not_or] at h
    simp only [sm, sm_off p0 v m h.2, if_neg h.1]; rfl
theorem sm_one (p0 : ByteArray) (v : Int) : ∀ m : List (ByteArray × Int), Keys m → p0 ∈ m.map Prod.fst → sm (fun q => if p0 = q.1 then v else 0) m = v
  | [], _, h => by simp at h
  | q :: m, hk, h => by
    have hk' : (q.1 :: m.map Prod.fst).Nodup := hk
    obtain ⟨h1, h2⟩ := List.nodup_cons.1 hk'
    simp only [List.map_cons, List.mem_cons] at h
    simp only [sm]
    by_cases e : p0 = q.1
    · subst e; simp only [if_true]; rw [sm_off _ v m h1]; omega
    · rw [if_neg e, sm_one p0 v m h2 (h.resolve_left e)]; omega
theorem sum_keys {m : List (ByteArray × Int)} (hk : Keys m) : ∀ L : List Sta, (∀ s ∈ L, s.p.acc ∈ m.map Prod.fst) → sm (fun q : ByteArray × Int => sm (spF q.1) L) m = sm leftF L
  | [], _ => sm_zero m
  | s :: L, h => by
    have ih := sum_keys hk L fun y hy => h y (List.mem_cons_of_mem _ hy)
    have hx := sm_one s.p.acc (leftF s) m hk (h s List.mem_cons_self)
    have he : (fun q : ByteArray × Int => sm (spF q.1) (s :: L)) = fun q => (if s.p.acc = q.1 then leftF s else 0) + sm (spF q.1) L := by
      funext q
      simp only [sm]
      congr 1
      unfold spF leftF
      by_cases e : s.p.acc = q.1 <;> by_cases k : s.st = 4 <;> simp [e, k]
    rw [he, sm_add, hx, ih]; rfl
theorem all_sum {d : Desk} (h : validB d = true) : sm (fun q : ByteArray × Int => spentL d q.1) (sumM d.ss d.ss.length) = sm leftF d.ss := by
  obtain ⟨h1, _, h3⟩ := sumM_spec (l := d.ss) (Nat.le_refl _)
  have : (fun q : ByteArray × Int => spentL d q.1) = fun q => sm (spF q.1) d.ss := by funext q; unfold spentL; rw [if_pos h]
  rw [this]
  refine sum_keys h1 d.ss fun s hs => h3 s ?_
  rw [List.take_length]; exact hs
theorem left_bound {d : Desk} (h : validB d = true) {s : Sta} (hs : s ∈ d.ss) : 0 ≤ leftF s ∧ leftF s ≤ 1000000000000 := by
  have := sta_bound h hs
  unfold leftF
  split <;> omega
theorem left_take {d : Desk} (h : validB d = true) (k : Nat) : 0 ≤ sm leftF (d.ss.take k) ∧ sm leftF (d.ss.take k) ≤ 400000000000000 := by
  refine ⟨sm_nonneg fun s hs => (left_bound h (List.mem_of_mem_take hs)).1, ?_⟩
  have h1 := sm_le (m := 1000000000000) (l := d.ss.take k) fun s hs => (left_bound h (List.mem_of_mem_take hs)).2
  have h2 := (valid_parts h).1
  have h3 : (d.ss.take k).length ≤ 400 := by rw [List.length_take]; omega
  omega
theorem acc_take {d : Desk} (h : validB d = true) (acc : ByteArray) (k : Nat) : 0 ≤ sm (accF acc) (d.ss.take k) ∧ sm (accF acc) (d.ss.take k) ≤ 400000000000000 := by
  refine ⟨sm_nonneg fun s hs => ?_, ?_⟩
  · have := accF_ge h acc (List.mem_of_mem_take hs); omega
  have h1 := sm_le (m := 1000000000000) (l := d.ss.take k) fun s hs => (accF_ge h acc (List.mem_of_mem_take hs)).2.2
  have h2 := (valid_parts h).1
  have h3 : (d.ss.take k).length ≤ 400 := by rw [List.length_take]; omega
  omega
theorem sm_step {α : Type} (f : α → Int) {rest : List α} {i : Nat} {q : α} (h : rest[i]? = some q) : sm f rest = f q + sm f (rest.eraseIdx i) := (sm_perm f (erase_perm h)).symm
end WageSet
