/-
 A duty's minutes by days sum up to no more than its length; a worker who can do everything; a plan with one more worker.
-/
import Derived.Test.YtnnbibmmofnkdaaGreatRefC
namespace Go.Proofs.YtnnbibmmofnkdaaGreat
open Go.RowKit Go.Proofs WageMap WageMem WageReg WageRec WageSpan WageTop

theorem total_app : ∀ (l m : List (Int × Int)), total (l ++ m) = total l + total m
 | [], m => by show total m = 0 + total m; omega
 | (x, v) :: l, m => by
  have := total_app l m
  show v + total (l ++ m) = v + total l + total m
  omega
theorem total_str {t : Int} : ∀ {ch : List (Int × Int)} {off f : Int}, f ≤ t → total ((strG ch off f t).flatMap prt) = t - f
 | [], off, f, h => by
  unfold strG
  split
  ·rw [List.flatMap_cons, total_app]
   have := total_pieces (t - f).toNat (f + off) (t + off) (by omega) (by omega)
   show total (piecesG (t - f).toNat (f + off) (t + off)) + 0 = _
   omega
  ·show (0 : Int) = _
   omega
 | (a, o) :: l, off, f, h => by
  unfold strG
  split
  ·rename_i hlt
   rw [List.flatMap_cons, total_app]
   have h1 := total_pieces (min a t - f).toNat (f + off) (min a t + off) (by omega) (by omega)
   have h2 := total_str (t := t) (ch := l) (off := o) (f := min a t) (by omega)
   show total (piecesG (min a t - f).toNat (f + off) (min a t + off)) + _ = _
   omega
  ·exact total_str h
def sumK (f : Int → Int) : List Int → Int
 | [] => 0
 | d :: l => f d + sumK f l
theorem sumK_one {a v : Int} (hv : 0 ≤ v) : ∀ {K : List Int}, K.Nodup → 0 ≤ sumK (fun d => if a = d then v else 0) K ∧ sumK (fun d => if a = d then v else 0) K ≤ v ∧ (a ∉ K → sumK (fun d => if a = d then v else 0) K = 0)
 | [], _ => ⟨Int.le_refl _, hv, fun _ => rfl⟩
 | d :: K, h => by
  rw [List.nodup_cons] at h
  obtain ⟨h1, h2, h3⟩ := sumK_one (a := a) hv h.2
  show 0 ≤ (if a = d then v else 0) + sumK _ K ∧ (if a = d then v else 0) + sumK _ K ≤ v ∧ (_ → (if a = d then v else 0) + sumK _ K = 0)
  by_cases e : a = d
  ·subst e
   rw [if_pos rfl, h3 h.1]
   exact ⟨by omega, by omega, fun hn => absurd List.mem_cons_self hn⟩
  ·rw [if_neg e]
   exact ⟨by omega, by omega, fun hn => by have := h3 (fun hm => hn (List.mem_cons_of_mem _ hm)); omega⟩
theorem sumK_add (f g : Int → Int) : ∀ K : List Int, sumK (fun d => f d + g d) K = sumK f K + sumK g K
 | [] => rfl
 | d :: K => by
  have := sumK_add f g K
  show f d + g d + sumK (fun d => f d + g d) K = f d + sumK f K + (g d + sumK g K)
  omega
theorem sumK_zero : ∀ K : List Int, sumK (fun _ => 0) K = 0
 | [] => rfl
 | _ :: K => by
  have := sumK_zero K
  show 0 + sumK (fun _ => 0) K = 0
  omega
theorem sumK_le {K : List Int} (hK : K.Nodup) : ∀ {l : List (Int × Int)}, (∀ q ∈ l, 0 ≤ q.2) → sumK (fun d => keyT d l) K ≤ total l
 | [], _ => by
  show sumK (fun _ => 0) K ≤ 0
  rw [sumK_zero]; exact Int.le_refl _
 | q :: l, h => by
  have h1 := sumK_le hK (l := l) (fun x hx => h x (List.mem_cons_of_mem _ hx))
  have h2 := (sumK_one (a := q.1) (h q List.mem_cons_self) hK).2.1
  show sumK (fun d => (if q.1 = d then q.2 else 0) + keyT d l) K ≤ q.2 + total l
  rw [sumK_add]
  omega
theorem total_port (m : List (Int × Int)) : ∀ K : List Int, total (K.flatMap (portF m)) = sumK (fun d => (alFind d m).getD 0) K
 | [] => rfl
 | d :: K => by
  rw [List.flatMap_cons, total_app, total_port m K]
  show total (portF m d) + _ = (alFind d m).getD 0 + _
  unfold portF
  split
  ·rename_i h
   rw [h]; rfl
  ·show (alFind d m).getD 0 + 0 + _ = _
   omega
theorem sumK_congr {f g : Int → Int} : ∀ {K : List Int}, (∀ d ∈ K, f d = g d) → sumK f K = sumK g K
 | [], _ => rfl
 | d :: K, h => by
  show f d + sumK f K = g d + sumK g K
  rw [h d List.mem_cons_self, sumK_congr (fun x hx => h x (List.mem_cons_of_mem _ hx))]
/-- The minutes by days sum up to no more than the length. -/
theorem total_split (z : Zn) {f t : Int} (h0 : 0 ≤ t - f) (h1 : t - f ≤ 1440) : total (splitL z f t) ≤ t - f := by
 have hl : (partsG z f t).length ≤ (t - f).toNat := strG_len (by omega)
 have hl2 : ((partsG z f t).length : Int) ≤ 1440 := by omega
 have hm : ((partsG z f t).length : Int) * 1440 ≤ 2073600 := by
  have := Int.mul_le_mul_of_nonneg_right hl2 (show (0 : Int) ≤ 1440 by decide)
  omega
 unfold splitL
 rw [total_port, sumK_congr (fun d _ => cnt_get (l := partsG z f t) (B := 1440) (by decide) (parts_bd z f t) (by omega) d)]
 refine Int.le_trans (sumK_le ?_ (fun q hq => (parts_bd z f t q hq).1)) (Int.le_of_eq ?_)
 ·unfold sortI
  exact (List.mergeSort_perm _ _).nodup_iff.2 (cntM_keys _)
 ·exact total_str (by omega)
theorem split_day (z : Zn) {f t : Int} (h : splitB z f t = true) : ∀ q ∈ splitL z f t, 0 ≤ q.1 ∧ q.1 ≤ 36524 := fun q hq => by
 unfold splitL at hq
 obtain ⟨d, hd, h1⟩ := List.mem_flatMap.1 hq
 unfold splitB at h
 have h2 := of_decide_eq_true (List.all_eq_true.1 h d hd)
 unfold portF at h1
 split at h1
 ·cases h1
 ·rw [List.mem_singleton] at h1
  subst h1
  exact h2
/-- The days from one on. -/
def daysL (a : Int) : Nat → List Int
 | 0 => []
 | k + 1 => (a + k) :: daysL a k
theorem daysL_lt (a : Int) : ∀ (k : Nat), ∀ d ∈ daysL a k, d < a + k
 | 0, d, h => by cases h
 | k + 1, d, h => by
  rcases List.mem_cons.1 h with h1 | h1
  ·omega
  ·have := daysL_lt a k d h1; omega
theorem daysL_nodup (a : Int) : ∀ (k : Nat), (daysL a k).Nodup
 | 0 => List.nodup_nil
 | k + 1 => by
  refine List.nodup_cons.2 ⟨fun h => ?_, daysL_nodup a k⟩
  have := daysL_lt a k _ h
  omega
theorem weekS_sum {m : List (Int × Int)} {g : Int → Int} {M : Int} (hM : M ≤ 1000000000000) (hg : ∀ k, (alFind k m).getD 0 = g k) (h : ∀ k, 0 ≤ g k ∧ g k ≤ M) {day : Int} (hd : 0 ≤ day ∧ day ≤ 36524) : ∀ k : Nat, k ≤ 7 → weekS m day k = sumK g (daysL day k)
 | 0, _ => rfl
 | k + 1, hk => by
  have h0 := weekS_sum hM hg h hd k (by omega)
  have h1 := weekS_bd hM (fun k => by rw [hg]; exact h k) day k (by omega)
  have e1 : wrap64 (day + k) = day + k := wrap64_id (by omega) (by omega)
  have h2 := h (day + k)
  show wrap64 (weekS m day k + (alFind (wrap64 (day + k)) m).getD 0) = g (day + k) + sumK g (daysL day k)
  rw [e1, hg, wrap64_id (by omega) (by omega)]
  omega
theorem wk_one {p : Pl} {d : Nat} (hb : 0 ≤ (p.du d).b - (p.du d).a ∧ (p.du d).b - (p.du d).a ≤ 1440) (hs : splitB p.z (p.du d).a (p.du d).b = true) (hw : (p.du d).b - (p.du d).a ≤ p.lm.week) : wkV p [d] = false := by
 have hq : ∀ q ∈ minsF p d, 0 ≤ q.2 ∧ q.2 ≤ 2073600 := split_bd _ _ _ hb.1 hb.2
 have hn : (minsF p d).length ≤ ((p.du d).b - (p.du d).a).toNat := splitL_len _ _ _ (by omega)
 have hn2 : ((minsF p d).length : Int) * 2073600 ≤ 2985984000 := by
  have := Int.mul_le_mul_of_nonneg_right (show ((minsF p d).length : Int) ≤ 1440 by omega) (show (0 : Int) ≤ 2073600 by decide)
  omega
 have hdm : dayM p [d] = cntM (minsF p d) := by
  unfold dayM
  rw [List.flatMap_cons, List.flatMap_nil, List.append_nil]
 unfold wkV
 rw [hdm, List.any_eq_false]
 intro q hq2 hc
 have hc := of_decide_eq_true hc
 have hk := (cnt_keys _ _).1 (List.mem_map.2 ⟨q, hq2, rfl⟩)
 obtain ⟨x, hx, e⟩ := List.mem_map.1 hk
 have hday := split_day p.z hs x hx
 rw [weekS_sum (g := fun k => keyT k (minsF p d)) (M := 2985984000) (by decide) (fun k => cnt_get (by decide) hq (by omega) k) (fun k => by have := keyT_bd (B := 2073600) (by decide) k _ hq; exact ⟨this.1, by omega⟩) (by rw [← e]; exact hday) 7 (Nat.le_refl _)] at hc
 have h1 := sumK_le (daysL_nodup q.1 7) (l := minsF p d) (fun q h => (hq q h).1)
 have h2 : total (minsF p d) ≤ (p.du d).b - (p.du d).a := total_split p.z hb.1 hb.2
 omega
/-- The worker who can do everything for nothing. -/
def newWo : Wo := ⟨⟨#[110, 101, 119]⟩, 65535, false, 0, none, 0, 0, []⟩
theorem and_max {s : Int} (h : 0 ≤ s ∧ s ≤ 65535) : andN s 65535 = 0 := by
 unfold andN
 have e : BitVec.ofInt 64 s &&& ~~~BitVec.ofInt 64 65535 = 0#64 := by
  obtain ⟨n, rfl⟩ : ∃ n : Nat, s = (n : Int) := ⟨s.toNat, by omega⟩
  have hn : n < 65536 := by omega
  rw [BitVec.ofInt_natCast]
  apply BitVec.eq_of_getLsbD_eq
  intro i hi
  rw [BitVec.getLsbD_and, BitVec.getLsbD_not, BitVec.getLsbD_ofNat]
  by_cases h16 : i < 16
  ·have h1 : ∀ i, i < 16 → (BitVec.ofInt 64 65535).getLsbD i = true := by decide
   rw [h1 i h16]; simp
  ·rw [Nat.testBit_lt_two_pow (Nat.lt_of_lt_of_le hn (Nat.pow_le_pow_right (n := 2) (by decide) (show 16 ≤ i by omega)))]; simp
 rw [e]; rfl
theorem new_clean {p : Pl} {d : Nat} (hx : durOk (p.du d) = true) (hb : 0 ≤ (p.du d).b - (p.du d).a ∧ (p.du d).b - (p.du d).a ≤ 1440) (hk : 0 ≤ (p.du d).s ∧ (p.du d).s ≤ 65535) (hs : splitB p.z (p.du d).a (p.du d).b = true) (hw : (p.du d).b - (p.du d).a ≤ p.lm.week) : violW p newWo [d] = false := by
 unfold violW
 rw [List.any_eq_false]
 intro k _
 match k with
 | 0 =>
  show ¬ (decide (andN (p.du d).s 65535 ≠ 0) || false) = true
  rw [and_max hk]; simp
 | 1 =>
  show ¬ (meetB [] (p.du d) || false) = true
  rw [meet_over (aw := []) (by kernel_rfl) hx]; simp
 | 2 => show ¬ (([].any fun e => decide (restF (p.du d) (p.du e) < p.lm.rest)) || false) = true; simp
 | 3 => show ¬ wkV p [d] = true; rw [wk_one hb hs hw]; simp
 | 4 => exact Bool.false_ne_true
 | 5 => exact Bool.false_ne_true
 | k + 6 => exact Bool.false_ne_true
/-- A plan with one more worker. -/
def Pl.add (p : Pl) (A : Option Addr) (c : Nat) : Pl := { p with W := A, wn := p.wn + 1, wc := c, ws := p.ws ++ [newWo] }
theorem newWo_ok : wOk newWo = true := by kernel_rfl
theorem add_ok {p : Pl} {A : Option Addr} {c : Nat} (h : planB p = true) (hn : p.wn ≤ 4) : planB (p.add A c) = true := by
 unfold planB at h ⊢
 simp only [Bool.and_eq_true, decide_eq_true_eq] at h ⊢
 obtain ⟨h1, h2, h3, h4, h5, h6⟩ := h
 refine ⟨h1, h2, ?_, h4, ?_, h6⟩
 ·show p.wn + 1 ≤ 12
  omega
 ·show (p.ws ++ [newWo]).all wOk = true
  rw [List.all_append, h5]
  show (true && (wOk newWo && true)) = true
  rw [newWo_ok]; rfl
theorem add_at {w : World} {p : Pl} {A : Option Addr} {c : Nat} (h : PlanAt w p) (hr : Recs encW 5 w A (p.wn + 1) c (p.ws ++ [newWo])) : PlanAt w (p.add A c) := by
 refine ⟨h.ch, h.ds, ⟨hr, fun x hx => ?_⟩, h.zb, h.lm⟩
 rcases List.mem_append.1 hx with h1 | h1
 ·exact h.ws.2 x h1
 ·rw [List.mem_singleton] at h1
  subst h1
  refine ⟨Spans.none_, ?_, ?_⟩
  ·show in64 65535
   unfold in64; omega
  ·show in64 0
   unfold in64; omega
theorem add_viol {w : World} {p : Pl} {A : Option Addr} {c : Nat} (hq : PlanAt w (p.add A c)) (ok : planB (p.add A c) = true) (hd : p.dn = 1) (hw : (p.du 0).b - (p.du 0).a ≤ p.lm.week) : Full (envP (p.add A c)) [(p.wn : Int)] ∧ violated (envP (p.add A c)) [(p.wn : Int)] = false ∧ costF (envP (p.add A c)) 0 [(p.wn : Int)] = 0 := by
 have hlen : p.ws.length = p.wn := by
  have : (p.ws ++ [newWo]).length = p.wn + 1 := hq.ws.1.1
  rw [List.length_append, List.length_singleton] at this
  omega
 have hat : (p.ws ++ [newWo])[p.wn]? = some newWo := by rw [List.getElem?_append_right (by omega), hlen, Nat.sub_self]; rfl
 have hb : 0 ≤ (p.du 0).b - (p.du 0).a ∧ (p.du 0).b - (p.du 0).a ≤ 1440 := (env_bd hq ok).dur 0
 refine ⟨⟨by show 1 = p.dn; omega, fun x hx => ?_⟩, ?_, ?_⟩
 ·rw [List.mem_singleton] at hx
  subst hx
  show 0 ≤ (p.wn : Int) ∧ (p.wn : Int) < ((p.wn + 1 : Nat) : Int)
  omega
 ·unfold violated
  rw [List.any_eq_false]
  intro k _
  show ¬ (envP (p.add A c)).viol k (if (p.wn : Int) = (k : Int) then [0] else []) = true
  split
  ·rename_i e
   obtain rfl : p.wn = k := by omega
   have h0 := ok
   unfold planB at h0
   simp only [Bool.and_eq_true, decide_eq_true_eq] at h0
   have hds : p.ds.length = 1 := by have : p.ds.length = p.dn := hq.ds.1.1; omega
   obtain ⟨x, hx⟩ : ∃ x, p.ds[0]? = some x := ⟨_, List.getElem?_eq_getElem (by omega)⟩
   have h4 : dOk p.z x = true := List.all_eq_true.1 h0.2.2.2.1 x (List.mem_of_getElem? hx)
   unfold dOk at h4
   rw [Bool.and_eq_true] at h4
   have h5 : 0 ≤ x.a ∧ x.a < x.b ∧ x.b ≤ 52596000 ∧ x.b - x.a ≤ 1440 ∧ 0 ≤ x.s ∧ x.s ≤ 65535 := of_decide_eq_true h4.1
   have hdu : p.du 0 = x := du_at hx
   have h6 := new_clean (p := p.add A c) (d := 0) (by show durOk (p.du 0) = true; rw [hdu]; exact h4.1) hb (by show 0 ≤ (p.du 0).s ∧ (p.du 0).s ≤ 65535; rw [hdu]; exact ⟨h5.2.2.2.2.1, h5.2.2.2.2.2⟩) (by show splitB p.z (p.du 0).a (p.du 0).b = true; rw [hdu]; exact h4.2) hw
   show ¬ violP (p.add A c) p.wn [0] = true
   unfold violP
   rw [show (p.add A c).ws[p.wn]? = some newWo from hat]
   show ¬ violW (p.add A c) newWo [0] = true
   rw [h6]
   exact Bool.false_ne_true
  ·rw [viol_nil]
   exact Bool.false_ne_true
 ·show (match (p.ws ++ [newWo])[((p.wn : Int)).toNat]? with | some x => x.wg | none => 0) * _ + 0 = 0
  rw [show ((p.wn : Int)).toNat = p.wn by omega, hat]
  show 0 * _ + 0 = (0 : Int)
  rw [Int.zero_mul]
  rfl
theorem add_check {w : World} {p : Pl} {A : Option Addr} {c : Nat} (hq : PlanAt w (p.add A c)) (ok : planB (p.add A c) = true) (hd : p.dn = 1) (hw : (p.du 0).b - (p.du 0).a ≤ p.lm.week) {bound : Int} {log : List Stp} (h : checkB (envP (p.add A c)) bound log = true) : bound ≤ 0 := by
 obtain ⟨h1, h2, h3⟩ := add_viol hq ok hd hw
 have := check_sound (env_ok hq ok) h h1 h2
 rw [h3] at this
 exact this
theorem costF_nn {E : Env} (hw : ∀ k, 0 ≤ E.wage k) (hd : ∀ k, 0 ≤ E.dur k) : ∀ (k : Nat) (a : List Int), 0 ≤ costF E k a
 | _, [] => Int.le_refl _
 | k, x :: r => by
  have h1 := costF_nn hw hd (k + 1) r
  have h2 := Int.mul_nonneg (hw x.toNat) (hd k)
  show 0 ≤ E.wage x.toNat * E.dur k + costF E (k + 1) r
  omega
theorem add_solve {w : World} {p : Pl} {A : Option Addr} {c : Nat} (hq : PlanAt w (p.add A c)) (ok : planB (p.add A c) = true) (hd : p.dn = 1) (hw : (p.du 0).b - (p.du 0).a ≤ p.lm.week) {fuel d : Int} {l : List Int} {log : List Stp} (h : solve (envP (p.add A c)) fuel = (l, d, log, 0)) : d = 0 ∧ l.length = 1 := by
 obtain ⟨h1, h2, h3⟩ := add_viol hq ok hd hw
 have oke := env_ok hq ok
 have hb := env_bd hq ok
 have hn : 0 < (envP (p.add A c)).nD := by show 0 < p.dn; omega
 have hbest := solve_best oke hn h
 have h4 := hbest.least _ h1 (cleanAll_of oke (by rw [h1.1]; exact Nat.le_refl _) h1.2 h2)
 have h5 := costF_nn (fun k => (hb.wage k).1) (fun k => (hb.dur k).1) 0 l
 have h6 := hbest.cost
 have h7 : l.length = p.dn := hbest.full.1
 exact ⟨by omega, by omega⟩
end Go.Proofs.YtnnbibmmofnkdaaGreat
