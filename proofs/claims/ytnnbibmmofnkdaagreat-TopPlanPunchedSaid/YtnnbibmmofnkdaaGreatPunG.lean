/-
 Punches: the duties of a worker, and what they cost.
-/
import Derived.Test.YtnnbibmmofnkdaaGreatPunA
import Derived.Test.YtnnbibmmofnkdaaGreatTopC
namespace Go.Proofs.YtnnbibmmofnkdaaGreat
open Go.RowKit Go.Proofs WageMem WageReg WageRec WageSpan WageTop
structure SrtOk (p : Pl) (l : List Int) (wk : Int) (k : Nat) (L : List Du) : Prop where
 perm : L.Perm ((idxF 0 (l.take k) wk).map p.du)
 srt : L.Pairwise (fun x y => x.a ≤ y.a)
theorem idx_one {l : List Int} {k : Nat} {y w : Int} (h : l[k]? = some y) : idxF 0 (l.take (k + 1)) w = idxF 0 (l.take k) w ++ (if y = w then [k] else []) := by
 have hk := (List.getElem?_eq_some_iff.1 h).1
 rw [List.take_add_one, h, idxF_append, List.length_take, Nat.min_eq_left (by omega), Nat.zero_add]
 show _ ++ (if y = w then [k] else []) = _
 rfl
theorem SrtOk.skip {p : Pl} {l : List Int} {wk y : Int} {k : Nat} {L : List Du} (h : SrtOk p l wk k L) (hy : l[k]? = some y) (hne : y ≠ wk) : SrtOk p l wk (k + 1) L :=
 ⟨by rw [idx_one hy, if_neg hne, List.append_nil]; exact h.perm, h.srt⟩
theorem SrtOk.put {p : Pl} {l : List Int} {wk : Int} {k j : Nat} {L : List Du} (h : SrtOk p l wk k L) (hy : l[k]? = some wk) (hj : ∀ (i : Nat) x, i < j → L[i]? = some x → x.a < (p.du k).a) (he : ∀ x, L[j]? = some x → (p.du k).a ≤ x.a) :
  SrtOk p l wk (k + 1) (L.take j ++ p.du k :: L.drop j) := by
 refine ⟨?_, ?_⟩
 ·rw [idx_one hy, if_pos rfl, List.map_append]
  refine List.Perm.trans List.perm_middle ?_
  rw [List.take_append_drop]
  exact (h.perm.cons _).trans (List.perm_append_singleton _ _).symm
 ·have hp := h.srt
  rw [← List.take_append_drop j L, List.pairwise_append] at hp
  obtain ⟨h1, h2, h3⟩ := hp
  have hd : ∀ y ∈ L.drop j, (p.du k).a ≤ y.a := by
   cases hL : L[j]? with
   | none =>
    intro y hy'
    rw [List.drop_eq_nil_of_le (List.getElem?_eq_none_iff.1 hL)] at hy'
    cases hy'
   | some x =>
    obtain ⟨hlt, hxe⟩ := List.getElem?_eq_some_iff.1 hL
    have hx := he x hL
    rw [List.drop_eq_getElem_cons hlt, hxe] at h2 ⊢
    intro y hy'
    rcases List.mem_cons.1 hy' with rfl | hy'
    ·exact hx
    ·have := (List.pairwise_cons.1 h2).1 y hy'
     omega
  rw [List.pairwise_append]
  refine ⟨h1, List.pairwise_cons.2 ⟨hd, h2⟩, fun x hx y hy' => ?_⟩
  rcases List.mem_cons.1 hy' with rfl | hy'
  ·obtain ⟨i, hi⟩ := List.mem_iff_getElem?.1 hx
   have hlt : i < j := by have := (List.getElem?_eq_some_iff.1 hi).1; rw [List.length_take] at this; omega
   rw [List.getElem?_take_of_lt hlt] at hi
   have := hj i x hlt hi
   omega
  ·exact h3 x hx y hy'
/-- Two duties that keep the rest. -/
def RestOk (p : Pl) (x y : Du) : Prop := durOk x = true ∧ durOk y = true ∧ p.lm.rest ≤ restF x y
theorem RestOk.symm {p : Pl} {x y : Du} (h : RestOk p x y) : RestOk p y x := by
 obtain ⟨h1, h2, h3⟩ := h
 refine ⟨h2, h1, ?_⟩
 have hx : 0 ≤ x.a ∧ x.a < x.b ∧ x.b ≤ 52596000 ∧ x.b - x.a ≤ 1440 ∧ 0 ≤ x.s ∧ x.s ≤ 65535 := of_decide_eq_true h1
 have hy : 0 ≤ y.a ∧ y.a < y.b ∧ y.b ≤ 52596000 ∧ y.b - y.a ≤ 1440 ∧ 0 ≤ y.s ∧ y.s ≤ 65535 := of_decide_eq_true h2
 unfold restF at h3 ⊢
 split at h3 <;> split <;> omega
theorem rests_of {p : Pl} : ∀ (ds : List Nat), rsV p ds = false → (∀ d ∈ ds, durOk (p.du d) = true) → (ds.map p.du).Pairwise (RestOk p)
 | [], _, _ => List.Pairwise.nil
 | d :: r, h, hd => by
  unfold rsV at h
  rw [Bool.or_eq_false_iff] at h
  refine List.pairwise_cons.2 ⟨fun y hy => ?_, rests_of r h.2 fun e he => hd e (List.mem_cons_of_mem _ he)⟩
  obtain ⟨e, he, rfl⟩ := List.mem_map.1 hy
  have := (List.any_eq_false.1 h.1) e he
  refine ⟨hd d List.mem_cons_self, hd e (List.mem_cons_of_mem _ he), ?_⟩
  simp at this
  omega
theorem pairwise_next {R : Du → Du → Prop} : ∀ {L : List Du}, L.Pairwise R → ∀ (i : Nat) x y, L[i]? = some x → L[i + 1]? = some y → R x y
 | [], _, _, _, _, h, _ => by cases h
 | a :: L, hp, 0, x, y, hx, hy => by
  injection hx with hx
  subst hx
  exact (List.pairwise_cons.1 hp).1 y (List.mem_of_getElem? hy)
 | a :: L, hp, i + 1, x, y, hx, hy => pairwise_next (List.pairwise_cons.1 hp).2 i x y hx hy
theorem du_ok {p : Pl} (ok : planB p = true) {d : Nat} (hd : d < p.ds.length) : durOk (p.du d) = true := by
 unfold planB at ok
 simp only [Bool.and_eq_true] at ok
 have h := List.all_eq_true.1 ok.2.2.2.1
 have hx := List.getElem?_eq_getElem hd
 have := h _ (List.mem_of_getElem? hx)
 rw [du_at hx]
 unfold dOk at this
 rw [Bool.and_eq_true] at this
 exact this.1
theorem rest_nn {p : Pl} (ok : planB p = true) : 0 ≤ p.lm.rest := by
 unfold planB lOk at ok
 simp only [Bool.and_eq_true, decide_eq_true_eq] at ok
 exact ok.2.2.2.2.2.1.1
/-- The duties of a worker: in order, none overlap, and they keep the rest. -/
theorem srt_ok {p : Pl} {l : List Int} {k : Nat} {x : Wo} {L : List Du} (ok : planB p = true) (hl : l.length = p.dn) (hdl : p.ds.length = p.dn) (hx : p.ws[k]? = some x) (hv : violP p k (idxF 0 l (k : Int)) = false) (h : SrtOk p l (k : Int) l.length L) :
  DsOk L ∧ ∀ (i : Nat) x y, L[i]? = some x → L[i + 1]? = some y → p.lm.rest ≤ restF x y := by
 have hp := h.perm
 rw [List.take_length] at hp
 have hlt : ∀ d ∈ idxF 0 l (k : Int), d < p.ds.length := fun d hd => by have := idxF_lt 0 l (k : Int) d hd; omega
 have hok : ∀ d ∈ idxF 0 l (k : Int), durOk (p.du d) = true := fun d hd => du_ok ok (hlt d hd)
 have hr : rsV p (idxF 0 l (k : Int)) = false := by
  have h0 : violW p x (idxF 0 l (k : Int)) = false := by unfold violP at hv; rw [hx] at hv; exact hv
  unfold violW at h0
  have := (List.any_eq_false.1 h0) 2 (by decide)
  simpa [kindV] using this
 have hpw : L.Pairwise (RestOk p) := (hp.pairwise_iff (fun h => RestOk.symm h)).2 (rests_of _ hr hok)
 have hnx := pairwise_next hpw
 have hr0 := rest_nn ok
 have hme : ∀ y ∈ L, durOk y = true := fun y hy => by
  obtain ⟨d, hd, rfl⟩ := List.mem_map.1 (hp.mem_iff.1 hy)
  exact hok d hd
 refine ⟨⟨hme, fun i x y hx hy => ?_⟩, fun i x y hx hy => (hnx i x y hx hy).2.2⟩
 have h1 := (hnx i x y hx hy).2.2
 have h2 : x.a ≤ y.a := pairwise_next h.srt i x y hx hy
 unfold restF at h1
 split at h1 <;> omega
/-! ### What the minutes cost -/
def sumD : List Du → Int
 | [] => 0
 | d :: r => (d.b - d.a) + sumD r
theorem sumD_append (l m : List Du) : sumD (l ++ m) = sumD l + sumD m := by
 induction l with
 | nil => simp [sumD]
 | cons d l ih => simp only [List.cons_append, sumD, ih]; omega
theorem sumD_take {L : List Du} {i : Nat} {x : Du} (h : L[i]? = some x) : sumD (L.take (i + 1)) = sumD (L.take i) + (x.b - x.a) := by
 rw [List.take_add_one, h, Option.toList, sumD_append]
 simp [sumD]
theorem sumD_perm {l m : List Du} (h : l.Perm m) : sumD l = sumD m := by
 induction h with
 | nil => rfl
 | cons x _ ih => simp only [sumD, ih]
 | swap x y l => simp only [sumD]; omega
 | trans _ _ h1 h2 => exact h1.trans h2
def sumN (f : Nat → Int) : Nat → Int
 | 0 => 0
 | n + 1 => sumN f n + f n
theorem sumN_congr {f g : Nat → Int} : ∀ (n : Nat), (∀ k, k < n → f k = g k) → sumN f n = sumN g n
 | 0, _ => rfl
 | n + 1, h => by unfold sumN; rw [sumN_congr n fun k hk => h k (by omega), h n (by omega)]
theorem sumN_add (f g : Nat → Int) : ∀ (n : Nat), sumN (fun k => f k + g k) n = sumN f n + sumN g n
 | 0 => rfl
 | n + 1 => by unfold sumN; rw [sumN_add f g n]; omega
theorem sumN_zero : ∀ (n : Nat), sumN (fun _ => 0) n = 0
 | 0 => rfl
 | n + 1 => by unfold sumN; rw [sumN_zero n]; rfl
theorem sumN_one (c : Int) (j : Nat) : ∀ (n : Nat), sumN (fun k => if k = j then c else 0) n = if j < n then c else 0
 | 0 => rfl
 | n + 1 => by
  unfold sumN
  rw [sumN_one c j n]
  by_cases h1 : j < n
  ·rw [if_pos h1, if_neg (by omega), if_pos (by omega)]; omega
  ·by_cases h2 : n = j
   ·rw [if_neg h1, if_pos h2, if_pos (by omega)]; omega
   ·rw [if_neg h1, if_neg h2, if_neg (by omega)]; rfl
def sumI (E : Env) : List Nat → Int
 | [] => 0
 | d :: r => E.dur d + sumI E r
theorem sumI_du (p : Pl) : ∀ (ds : List Nat), sumD (ds.map p.du) = sumI (envP p) ds
 | [] => rfl
 | d :: r => by
  show (p.du d).b - (p.du d).a + sumD (r.map p.du) = _
  rw [sumI_du p r]
  rfl
theorem cost_two (E : Env) (n : Nat) : ∀ (l : List Int) (k : Nat), (∀ x ∈ l, 0 ≤ x ∧ x < (n : Int)) → sumN (fun w => E.wage w * sumI E (idxF k l (w : Int))) n = costF E k l
 | [], k, _ => by
  refine (sumN_congr n fun w _ => ?_).trans (sumN_zero n)
  simp [idxF, sumI]
 | x :: r, k, h => by
  have hx := h x List.mem_cons_self
  have ih := cost_two E n r (k + 1) fun y hy => h y (List.mem_cons_of_mem _ hy)
  have hs : sumN (fun w => E.wage w * sumI E (idxF k (x :: r) (w : Int))) n = sumN (fun w => (if w = x.toNat then E.wage x.toNat * E.dur k else 0) + E.wage w * sumI E (idxF (k + 1) r (w : Int))) n := sumN_congr n fun w _ => by
   by_cases he : x = (w : Int)
   ·have ht : w = x.toNat := by omega
    show E.wage w * sumI E (if x = (w : Int) then k :: idxF (k + 1) r (w : Int) else idxF (k + 1) r (w : Int)) = (if w = x.toNat then E.wage x.toNat * E.dur k else 0) + E.wage w * sumI E (idxF (k + 1) r (w : Int))
    rw [if_pos he, if_pos ht, ← ht]
    exact Int.mul_add _ _ _
   ·show E.wage w * sumI E (if x = (w : Int) then k :: idxF (k + 1) r (w : Int) else idxF (k + 1) r (w : Int)) = (if w = x.toNat then E.wage x.toNat * E.dur k else 0) + E.wage w * sumI E (idxF (k + 1) r (w : Int))
    rw [if_neg he, if_neg (by omega), Int.zero_add]
  rw [hs, sumN_add, sumN_one, if_pos (by omega), ih]
  rfl
/-- What a worker is paid. -/
def payF (p : Pl) (l : List Int) (w : Nat) : Int := (envP p).wage w * sumI (envP p) (idxF 0 l (w : Int))
theorem pay_all {p : Pl} {l : List Int} (hf : Full (envP p) l) : sumN (payF p l) p.wn = costF (envP p) 0 l := cost_two (envP p) p.wn l 0 hf.2
theorem pay_of {p : Pl} {l : List Int} {k : Nat} {x : Wo} {L : List Du} (hx : p.ws[k]? = some x) (h : SrtOk p l (k : Int) l.length L) : payF p l k = x.wg * sumD L := by
 have hp := h.perm
 rw [List.take_length] at hp
 unfold payF
 rw [sumD_perm hp, sumI_du, wage_envP hx]
theorem solved {p : Pl} {w : World} {l : List Int} {c : Int} {lg : List Stp} (hp : PlanAt w p) (ok : planB p = true) (h : solve (envP p) 4000 = (l, c, lg, 0)) : Full (envP p) l ∧ violated (envP p) l = false ∧ costF (envP p) 0 l = c := by
 by_cases h0 : p.dn = 0
 ·have hE : (envP p).nD = 0 := h0
  unfold solve at h
  split at h
  ·simp at h
  ·split at h
   ·simp at h
   ·simp only [Prod.mk.injEq] at h
    obtain ⟨rfl, rfl, _, _⟩ := h
    exact ⟨⟨hE.symm, fun x hx => by cases hx⟩, violated_of (viol_nil p) (cleanAll_of (env_ok hp ok) (Nat.zero_le _) (fun x hx => by cases hx) (by
     unfold violated
     rw [List.any_eq_false]
     intro w _
     rw [show idxF 0 [] (w : Int) = [] from rfl, viol_nil]; decide)), rfl⟩
 ·have hB := solve_best (env_ok hp ok) (show 0 < (envP p).nD from Nat.pos_of_ne_zero h0) h
  exact ⟨hB.full, violated_of (viol_nil p) hB.clean, hB.cost⟩
end Go.Proofs.YtnnbibmmofnkdaaGreat
