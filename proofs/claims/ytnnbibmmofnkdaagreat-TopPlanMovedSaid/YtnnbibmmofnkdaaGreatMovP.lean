/-
 A plan moved by whole days, in plain words: the same violations, durations and wages, so the same planner.
-/
import Derived.Test.YtnnbibmmofnkdaaGreatNeu
namespace WageTop
/-- Two plans with the same numbers and the same violations of the plan's duties. -/
structure Env.Eq (E E' : Env) : Prop where
 nD : E'.nD = E.nD
 nW : E'.nW = E.nW
 dur : E'.dur = E.dur
 wage : E'.wage = E.wage
 viol : ∀ w ds, (∀ d ∈ ds, d < E.nD) → E'.viol w ds = E.viol w ds
theorem cheapest_eq {E E' : Env} (h : E'.wage = E.wage) : ∀ n, cheapest E' n = cheapest E n
 | 0 => rfl
 | 1 => by unfold cheapest; rw [h]
 | n + 2 => by unfold cheapest; rw [h, cheapest_eq h (n + 1)]
theorem leastR_eq {E E' : Env} (h : E.Eq E') : ∀ k, leastR E' k = leastR E k
 | 0 => rfl
 | k + 1 => by unfold leastR; rw [leastR_eq h k, cheapest_eq h.wage, h.nW, h.dur, h.nD]
theorem clean_eq {E E' : Env} (h : E.Eq E') {pre : List Int} (hp : pre.length ≤ E.nD) : clean E' pre = clean E pre := by
 unfold clean
 rw [h.viol]
 intro d hd
 have := idxF_lt _ _ _ d hd
 omega
theorem ext_eq {f g : Nat → St → St × Bool} (h : ∀ w s, f w s = g w s) : ∀ (l : List Nat) (s : St), ext f l s = ext g l s := fun l s => by
 rw [show f = g from funext fun w => funext (h w)]
theorem improve_eq {E E' : Env} (h : E.Eq E') : ∀ (k : Nat) (pre : List Int) (c : Int) (s : St), pre.length + k ≤ E.nD → improve E' k pre c s = improve E k pre c s
 | 0, pre, c, s, hp => by
  unfold improve
  rw [leastR_eq h, clean_eq h (by omega)]
 | k + 1, pre, c, s, hp => by
  unfold improve
  rw [leastR_eq h, clean_eq h (by omega), h.wage, h.dur, h.nW]
  rw [show (fun (w : Nat) s => improve E' k (pre ++ [(w : Int)]) (c + E.wage w * E.dur pre.length) s) = fun (w : Nat) s => improve E k (pre ++ [(w : Int)]) (c + E.wage w * E.dur pre.length) s from funext fun w => funext fun s => improve_eq h k _ _ s (by rw [List.length_append, List.length_singleton]; omega)]
theorem refute_eq {E E' : Env} (h : E.Eq E') (bound : Int) : ∀ (k : Nat) (pre : List Int) (c : Int) (s : Rs), pre.length + k ≤ E.nD → refuteF E' bound k pre c s = refuteF E bound k pre c s
 | 0, pre, c, s, hp => by
  unfold refuteF
  rw [leastR_eq h, clean_eq h (by omega)]
 | k + 1, pre, c, s, hp => by
  unfold refuteF
  rw [leastR_eq h, clean_eq h (by omega), h.wage, h.dur, h.nW]
  rw [show (fun (w : Nat) s => refuteF E' bound k (pre ++ [(w : Int)]) (c + E.wage w * E.dur pre.length) s) = fun (w : Nat) s => refuteF E bound k (pre ++ [(w : Int)]) (c + E.wage w * E.dur pre.length) s from funext fun w => funext fun s => refute_eq h bound k _ _ s (by rw [List.length_append, List.length_singleton]; omega)]
theorem solve_eq {E E' : Env} (h : E.Eq E') (fuel : Int) : solve E' fuel = solve E fuel := by
 unfold solve
 rw [show someLog E' = someLog E by unfold someLog; rw [h.nD, h.nW], h.nD, improve_eq h E.nD [] 0 _ (by simp)]
 have hr : ∀ b s, refuteF E' b E.nD [] 0 s = refuteF E b E.nD [] 0 s := fun b s => refute_eq h b E.nD [] 0 s (by simp)
 simp only [hr]
/-- Days later. -/
def shK (n : Int) (q : Int × Int) : Int × Int := (q.1 + n, q.2)
theorem pieces_sh (n : Int) : ∀ (k : Nat) (a e : Int), piecesG k (a + 1440 * n) (e + 1440 * n) = (piecesG k a e).map (shK n)
 | 0, _, _ => rfl
 | k + 1, a, e => by
  unfold piecesG
  by_cases hlt : a < e
  ·rw [if_pos hlt, if_pos (by omega), List.map_cons]
   have h1 : (a + 1440 * n) / 1440 = a / 1440 + n := by omega
   have h2 : min ((a / 1440 + n + 1) * 1440) (e + 1440 * n) = min ((a / 1440 + 1) * 1440) e + 1440 * n := by omega
   rw [h1, h2, pieces_sh n k]
   congr 1
   unfold shK
   simp only
   congr 1
   omega
  ·rw [if_neg hlt, if_neg (by omega)]; rfl
end WageTop
namespace Go.Proofs.YtnnbibmmofnkdaaGreat
open Go.RowKit Go.Proofs WageMap WageMem WageReg WageRec WageSpan WageTop

theorem alFind_sh (n k : Int) : ∀ m : List (Int × Int), alFind (k + n) (m.map (shK n)) = alFind k m
 | [] => rfl
 | p :: m => by
  rw [List.map_cons]
  unfold alFind
  by_cases h : k = p.1
  ·rw [if_pos h, if_pos (by show k + n = p.1 + n; omega)]; rfl
  ·rw [if_neg h, if_neg (by show ¬ k + n = p.1 + n; omega), alFind_sh n k m]
theorem alPut_sh (n k v : Int) : ∀ m : List (Int × Int), alPut (k + n) v (m.map (shK n)) = (alPut k v m).map (shK n)
 | [] => rfl
 | p :: m => by
  rw [List.map_cons]
  unfold alPut
  by_cases h : k = p.1
  ·rw [if_pos h, if_pos (by show k + n = p.1 + n; omega)]; rfl
  ·rw [if_neg h, if_neg (by show ¬ k + n = p.1 + n; omega), alPut_sh n k v m]; rfl
theorem fold_sh (n : Int) : ∀ (l m : List (Int × Int)), (l.map (shK n)).foldl putC (m.map (shK n)) = (l.foldl putC m).map (shK n)
 | [], _ => rfl
 | x :: l, m => by
  rw [List.map_cons, List.foldl_cons, List.foldl_cons, ← fold_sh n l]
  congr 1
  unfold putC
  show alPut (x.1 + n) (wrap64 ((alFind (x.1 + n) (m.map (shK n))).getD 0 + x.2)) (m.map (shK n)) = _
  rw [alFind_sh, alPut_sh]
theorem cntM_sh (n : Int) (l : List (Int × Int)) : cntM (l.map (shK n)) = (cntM l).map (shK n) := fold_sh n l []
theorem sortI_sh (n : Int) (l : List Int) : sortI (l.map (· + n)) = (sortI l).map (· + n) := by
 unfold sortI
 rw [List.map_mergeSort]
 intro a _ b _
 rw [Bool.eq_iff_iff, decide_eq_true_eq, decide_eq_true_eq]
 omega
theorem portF_sh (n d : Int) (m : List (Int × Int)) : portF (m.map (shK n)) (d + n) = (portF m d).map (shK n) := by
 unfold portF
 rw [alFind_sh]
 split <;> rfl
theorem keys_sh (n : Int) (l : List (Int × Int)) : (l.map (shK n)).map Prod.fst = (l.map Prod.fst).map (· + n) := by
 rw [List.map_map, List.map_map]; rfl
theorem parts_sh (zb n f t : Int) : partsG ⟨zb, []⟩ (f + 1440 * n) (t + 1440 * n) = (partsG ⟨zb, []⟩ f t).map (shK n) := by
 unfold partsG strG
 by_cases h : f < t
 ·rw [if_pos h, if_pos (by omega), List.flatMap_cons, List.flatMap_cons, List.flatMap_nil, List.append_nil, List.append_nil]
  show piecesG (t + 1440 * n - (f + 1440 * n)).toNat (f + 1440 * n + zb) (t + 1440 * n + zb) = (piecesG (t - f).toNat (f + zb) (t + zb)).map (shK n)
  rw [← pieces_sh, show t + 1440 * n - (f + 1440 * n) = t - f by omega, show f + 1440 * n + zb = f + zb + 1440 * n by omega, show t + 1440 * n + zb = t + zb + 1440 * n by omega]
 ·rw [if_neg h, if_neg (by omega)]; rfl
theorem flat_sh (n : Int) (m : List (Int × Int)) : ∀ K : List Int, (K.map (· + n)).flatMap (portF (m.map (shK n))) = (K.flatMap (portF m)).map (shK n)
 | [] => rfl
 | d :: K => by rw [List.map_cons, List.flatMap_cons, List.flatMap_cons, List.map_append, portF_sh, flat_sh n m K]
/-- The minutes by days move with the duty. -/
theorem split_sh (zb n f t : Int) : splitL ⟨zb, []⟩ (f + 1440 * n) (t + 1440 * n) = (splitL ⟨zb, []⟩ f t).map (shK n) := by
 unfold splitL
 rw [parts_sh, cntM_sh, keys_sh, sortI_sh, flat_sh]
theorem winA_sh (a b n : Int) : ∀ (k : Nat) (l e acc : Int), winA a b k (l + 1440 * n) (e + 1440 * n) acc = winA a b k l e acc
 | 0, _, _, _ => rfl
 | k + 1, l, e, acc => by
  unfold winA
  by_cases h : l < e
  ·rw [if_pos h, if_pos (by omega)]
   have h1 : (l + 1440 * n) / 1440 * 1440 = l / 1440 * 1440 + 1440 * n := by omega
   rw [h1]
   have h2 : min (l / 1440 * 1440 + 1440 * n + 1440) (e + 1440 * n) = min (l / 1440 * 1440 + 1440) e + 1440 * n := by omega
   rw [h2, winA_sh a b n k, show l + 1440 * n - (l / 1440 * 1440 + 1440 * n) = l - l / 1440 * 1440 by omega, show min (l / 1440 * 1440 + 1440) e + 1440 * n - (l / 1440 * 1440 + 1440 * n) = min (l / 1440 * 1440 + 1440) e - l / 1440 * 1440 by omega]
  ·rw [if_neg h, if_neg (by omega)]
theorem winT_sh (zb n f t a b : Int) : winT ⟨zb, []⟩ (f + 1440 * n) (t + 1440 * n) a b = winT ⟨zb, []⟩ f t a b := by
 unfold winT strG
 by_cases h : f < t
 ·rw [if_pos h, if_pos (by omega)]
  show winA a b (t + 1440 * n - (f + 1440 * n)).toNat (f + 1440 * n + zb) (t + 1440 * n + zb) 0 = winA a b (t - f).toNat (f + zb) (t + zb) 0
  rw [show t + 1440 * n - (f + 1440 * n) = t - f by omega, show f + 1440 * n + zb = f + zb + 1440 * n by omega, show t + 1440 * n + zb = t + zb + 1440 * n by omega, winA_sh]
 ·rw [if_neg h, if_neg (by omega)]
/-- A duty, a span later. -/
def shD (t : Int) (x : Du) : Du := ⟨x.a + t, x.b + t, x.s⟩
def shS (t : Int) (s : Sp) : Sp := (s.1 + t, s.2 + t)
theorem shD_a (t : Int) (x : Du) : (shD t x).a = x.a + t := rfl
theorem shD_b (t : Int) (x : Du) : (shD t x).b = x.b + t := rfl
theorem shD_s (t : Int) (x : Du) : (shD t x).s = x.s := rfl
/-- A plan and the same plan some minutes later. -/
structure Moved (t : Int) (p q : Pl) : Prop where
 zb : q.zb = p.zb
 ch : q.ch = p.ch
 dn : q.dn = p.dn
 ds : q.ds = p.ds.map (shD t)
 wn : q.wn = p.wn
 len : q.ws.length = p.ws.length
 wo : ∀ (i : Nat) x y, p.ws[i]? = some x → q.ws[i]? = some y → y.sk = x.sk ∧ y.mi = x.mi ∧ y.wg = x.wg ∧ y.aw = x.aw.map (shS t)
 lm : q.lm = p.lm
section
variable {n : Int} {p q : Pl}
theorem Moved.du (h : Moved (1440 * n) p q) {d : Nat} (hd : d < p.ds.length) : q.du d = shD (1440 * n) (p.du d) := by
 obtain ⟨x, hx⟩ : ∃ x, p.ds[d]? = some x := ⟨_, List.getElem?_eq_getElem hd⟩
 rw [du_at hx, du_at (x := shD (1440 * n) x)]
 rw [h.ds, List.getElem?_map, hx]; rfl
theorem Moved.dur (h : Moved (1440 * n) p q) (d : Nat) : (q.du d).b - (q.du d).a = (p.du d).b - (p.du d).a := by
 by_cases hd : d < p.ds.length
 ·rw [h.du hd]
  show (p.du d).b + 1440 * n - ((p.du d).a + 1440 * n) = _
  omega
 ·have h1 : p.du d = ⟨0, 0, 0⟩ := by unfold Pl.du; rw [List.getD_eq_getElem?_getD, List.getElem?_eq_none (by omega)]; rfl
  have h2 : q.du d = ⟨0, 0, 0⟩ := by unfold Pl.du; rw [List.getD_eq_getElem?_getD, List.getElem?_eq_none (by rw [h.ds, List.length_map]; omega)]; rfl
  rw [h1, h2]
theorem Moved.z (h : Moved (1440 * n) p q) (hc : p.ch = []) : q.z = ⟨p.zb, []⟩ ∧ p.z = ⟨p.zb, []⟩ := by
 unfold Pl.z
 rw [h.zb, h.ch, hc]
 exact ⟨rfl, rfl⟩
theorem Moved.mins (h : Moved (1440 * n) p q) (hc : p.ch = []) {d : Nat} (hd : d < p.ds.length) : minsF q d = (minsF p d).map (shK n) := by
 unfold minsF
 rw [(h.z hc).1, (h.z hc).2, h.du hd, shD_a, shD_b, split_sh]
theorem Moved.flat (h : Moved (1440 * n) p q) (hc : p.ch = []) : ∀ {ds : List Nat}, (∀ d ∈ ds, d < p.ds.length) → ds.flatMap (minsF q) = (ds.flatMap (minsF p)).map (shK n)
 | [], _ => rfl
 | d :: ds, hd => by
  rw [List.flatMap_cons, List.flatMap_cons, List.map_append, h.mins hc (hd d List.mem_cons_self), Moved.flat h hc (fun x hx => hd x (List.mem_cons_of_mem _ hx))]
theorem Moved.day (h : Moved (1440 * n) p q) (hc : p.ch = []) {ds : List Nat} (hd : ∀ d ∈ ds, d < p.ds.length) : dayM q ds = (dayM p ds).map (shK n) := by
 unfold dayM
 rw [h.flat hc hd, cntM_sh]
theorem weekS_sh (hn : 0 ≤ n ∧ n ≤ 999) (m : List (Int × Int)) {day : Int} (hd : 0 ≤ day ∧ day ≤ 36524) : ∀ k : Nat, k ≤ 7 → weekS (m.map (shK n)) (day + n) k = weekS m day k
 | 0, _ => rfl
 | k + 1, hk => by
  unfold weekS
  rw [weekS_sh hn m hd k (by omega), wrap64_id (z := day + n + k) (by omega) (by omega), wrap64_id (z := day + k) (by omega) (by omega), show day + n + (k : Int) = day + k + n by omega, alFind_sh]
theorem duty_ok (ok : planB p = true) {d : Nat} (hd : d < p.ds.length) : durOk (p.du d) = true ∧ splitB p.z (p.du d).a (p.du d).b = true := by
 obtain ⟨x, hx⟩ : ∃ x, p.ds[d]? = some x := ⟨_, List.getElem?_eq_getElem hd⟩
 unfold planB at ok
 simp only [Bool.and_eq_true] at ok
 have h4 : dOk p.z x = true := List.all_eq_true.1 ok.2.2.2.1 x (List.mem_of_getElem? hx)
 unfold dOk at h4
 rw [Bool.and_eq_true] at h4
 rw [du_at hx]
 exact h4
theorem day_range (ok : planB p = true) {ds : List Nat} (hd : ∀ d ∈ ds, d < p.ds.length) : ∀ q ∈ dayM p ds, 0 ≤ q.1 ∧ q.1 ≤ 36524 := fun q hq => by
 have h1 := (cnt_keys _ _).1 (List.mem_map.2 ⟨q, hq, rfl⟩)
 obtain ⟨x, hx, e⟩ := List.mem_map.1 h1
 obtain ⟨d, hd1, hx⟩ := List.mem_flatMap.1 hx
 have := split_day p.z (duty_ok ok (hd d hd1)).2 x hx
 rw [← e]; exact this
theorem any_congr {α : Type} {f g : α → Bool} : ∀ {l : List α}, (∀ x ∈ l, f x = g x) → l.any f = l.any g
 | [], _ => rfl
 | x :: l, h => by rw [List.any_cons, List.any_cons, h x List.mem_cons_self, any_congr fun y hy => h y (List.mem_cons_of_mem _ hy)]
theorem Moved.rs (h : Moved (1440 * n) p q) : ∀ {ds : List Nat}, (∀ d ∈ ds, d < p.ds.length) → rsV q ds = rsV p ds
 | [], _ => rfl
 | d :: ds, hd => by
  unfold rsV
  rw [Moved.rs h fun x hx => hd x (List.mem_cons_of_mem _ hx)]
  congr 1
  refine any_congr fun e he => ?_
  rw [h.du (hd d List.mem_cons_self), h.du (hd e (List.mem_cons_of_mem _ he)), h.lm]
  congr 2
  unfold restF shD
  simp only
  by_cases h1 : (p.du e).a < (p.du d).a
  ·rw [if_pos h1, if_pos (by omega)]; congr 1; omega
  ·rw [if_neg h1, if_neg (by omega)]; congr 1; omega
theorem over_sh (t : Int) (x : Du) (s : Sp) : overB (shD t x) (shS t s) = overB x s := by
 unfold overB shD shS
 simp only
 congr 1 <;> (rw [Bool.eq_iff_iff, decide_eq_true_eq, decide_eq_true_eq]; omega)
theorem Moved.sk (h : Moved (1440 * n) p q) {x y : Wo} (e1 : y.sk = x.sk) {ds : List Nat} (hd : ∀ d ∈ ds, d < p.ds.length) : skV q y ds = skV p x ds := by
 unfold skV
 refine any_congr fun d h1 => ?_
 rw [h.du (hd d h1), e1, shD_s]
theorem wo_nrm (ok : planB p = true) {x : Wo} (hx : x ∈ p.ws) : nrm x.aw = x.aw := by
 unfold planB at ok
 simp only [Bool.and_eq_true] at ok
 have w1 : wOk x = true := List.all_eq_true.1 ok.2.2.2.2.1 x hx
 unfold wOk at w1
 simp only [Bool.and_eq_true, decide_eq_true_eq] at w1
 exact w1.2.2.2.1
theorem Moved.aw (h : Moved (1440 * n) p q) (okp : planB p = true) (okq : planB q = true) {x y : Wo} (hx : x ∈ p.ws) (hy : y ∈ q.ws) (e4 : y.aw = x.aw.map (shS (1440 * n))) {ds : List Nat} (hd : ∀ d ∈ ds, d < p.ds.length) : awV q y ds = awV p x ds := by
 have hlen : q.ds.length = p.ds.length := by rw [h.ds, List.length_map]
 unfold awV
 refine any_congr fun d h1 => ?_
 rw [meet_over (wo_nrm okp hx) (duty_ok okp (hd d h1)).1, meet_over (wo_nrm okq hy) (duty_ok okq (by rw [hlen]; exact hd d h1)).1, h.du (hd d h1), e4, List.any_map]
 exact any_congr fun s _ => over_sh _ _ _
theorem Moved.wk (h : Moved (1440 * n) p q) (hn : 0 ≤ n ∧ n ≤ 999) (hc : p.ch = []) (okp : planB p = true) {ds : List Nat} (hd : ∀ d ∈ ds, d < p.ds.length) : wkV q ds = wkV p ds := by
 unfold wkV
 rw [h.day hc hd, List.any_map]
 refine any_congr fun z hz => ?_
 show decide (q.lm.week < weekS ((dayM p ds).map (shK n)) (z.1 + n) 7) = _
 rw [weekS_sh hn _ (day_range okp hd z hz) 7 (Nat.le_refl _), h.lm]
theorem Moved.ng (h : Moved (1440 * n) p q) (hc : p.ch = []) {ds : List Nat} (hd : ∀ d ∈ ds, d < p.ds.length) : ngV q ds = ngV p ds := by
 unfold ngV
 refine any_congr fun d h1 => ?_
 have : nightF q d = nightF p d := by
  unfold nightF
  rw [(h.z hc).1, (h.z hc).2, h.du (hd d h1), h.lm, shD_a, shD_b, winT_sh]
 rw [this]
theorem Moved.mn (h : Moved (1440 * n) p q) (hc : p.ch = []) {ds : List Nat} (hd : ∀ d ∈ ds, d < p.ds.length) : mnV q ds = mnV p ds := by
 unfold mnV
 rw [h.day hc hd, List.any_map]
 refine any_congr fun z _ => ?_
 show decide (q.lm.mn < z.2) = _
 rw [h.lm]
theorem Moved.viol (h : Moved (1440 * n) p q) (hn : 0 ≤ n ∧ n ≤ 999) (hc : p.ch = []) (okp : planB p = true) (okq : planB q = true) {x y : Wo} (hx : x ∈ p.ws) (hy : y ∈ q.ws) (hxy : y.sk = x.sk ∧ y.mi = x.mi ∧ y.wg = x.wg ∧ y.aw = x.aw.map (shS (1440 * n))) {ds : List Nat} (hd : ∀ d ∈ ds, d < p.ds.length) : violW q y ds = violW p x ds := by
 obtain ⟨e1, e2, _, e4⟩ := hxy
 have h0 := h.sk e1 hd
 have h1 := h.aw okp okq hx hy e4 hd
 have h2 := h.rs hd
 have h3 := h.wk hn hc okp hd
 have h4 := h.ng hc hd
 have h5 := h.mn hc hd
 unfold violW
 refine any_congr fun k _ => ?_
 unfold kindV
 split
 ·exact h0
 ·exact h1
 ·exact h2
 ·exact h3
 ·rw [e2, h4]
 ·rw [e2, h5]
 ·rfl
theorem Moved.env (h : Moved (1440 * n) p q) (hn : 0 ≤ n ∧ n ≤ 999) (hc : p.ch = []) (okp : planB p = true) (okq : planB q = true) (hl : p.ds.length = p.dn) : (envP p).Eq (envP q) where
 nD := h.dn
 nW := h.wn
 dur := funext h.dur
 wage := funext fun k => by
  show (match q.ws[k]? with | some x => x.wg | none => 0) = (match p.ws[k]? with | some x => x.wg | none => 0)
  cases hp : p.ws[k]? with
  | none =>
   have : q.ws[k]? = none := by rw [List.getElem?_eq_none_iff] at hp ⊢; rw [h.len]; exact hp
   rw [this]
  | some x =>
   obtain ⟨y, hy⟩ : ∃ y, q.ws[k]? = some y := ⟨_, List.getElem?_eq_getElem (by rw [h.len]; exact (List.getElem?_eq_some_iff.1 hp).1)⟩
   rw [hy]
   exact (h.wo k x y hp hy).2.2.1
 viol := fun k ds hd => by
  have hd : ∀ d ∈ ds, d < p.ds.length := fun d h1 => by have : d < p.dn := hd d h1; omega
  show violP q k ds = violP p k ds
  unfold violP
  cases hp : p.ws[k]? with
  | none =>
   have : q.ws[k]? = none := by rw [List.getElem?_eq_none_iff] at hp ⊢; rw [h.len]; exact hp
   rw [this]
  | some x =>
   obtain ⟨y, hy⟩ : ∃ y, q.ws[k]? = some y := ⟨_, List.getElem?_eq_getElem (by rw [h.len]; exact (List.getElem?_eq_some_iff.1 hp).1)⟩
   rw [hy]
   exact h.viol hn hc okp okq (List.mem_of_getElem? hp) (List.mem_of_getElem? hy) (h.wo k x y hp hy) hd
/-- The planner's answer does not change. -/
theorem Moved.sol (h : Moved (1440 * n) p q) (hn : 0 ≤ n ∧ n ≤ 999) (hc : p.ch = []) (okp : planB p = true) (okq : planB q = true) (hl : p.ds.length = p.dn) (fuel : Int) : solF q fuel = solF p fuel := by
 unfold solF
 rw [okp, okq, solve_eq (h.env hn hc okp okq hl)]
end
end Go.Proofs.YtnnbibmmofnkdaaGreat
