/-
 A valid plan's laws: violations grow with the duties; durations and wages are not negative.
-/
import Derived.Test.YtnnbibmmofnkdaaGreatPlnB
namespace Go.Proofs.YtnnbibmmofnkdaaGreat
open Go.RowKit Go.Proofs WageMap WageMem WageReg WageRec WageSpan WageTop
/-- The sum of a key. -/
def keyT (k : Int) : List (Int × Int) → Int
 | [] => 0
 | q :: l => (if q.1 = k then q.2 else 0) + keyT k l
theorem keyT_bd {B : Int} (hB : 0 ≤ B) (k : Int) : ∀ (l : List (Int × Int)), (∀ q ∈ l, 0 ≤ q.2 ∧ q.2 ≤ B) → 0 ≤ keyT k l ∧ keyT k l ≤ (l.length : Int) * B
 | [], _ => ⟨Int.le_refl _, by simp [keyT]⟩
 | q :: l, h => by
  have h1 := keyT_bd hB k l (fun x hx => h x (List.mem_cons_of_mem _ hx))
  have h2 := h q List.mem_cons_self
  have e : ((q :: l).length : Int) * B = (l.length : Int) * B + B := by rw [List.length_cons, Int.natCast_add, Int.add_mul]; simp
  rw [e]
  generalize (l.length : Int) * B = z at *
  unfold keyT
  split <;> omega
theorem keyT_sub {k : Int} {l l' : List (Int × Int)} (h : l.Sublist l') : (∀ q ∈ l', 0 ≤ q.2) → keyT k l ≤ keyT k l' := by
 induction h with
 | slnil => intro _; exact Int.le_refl _
 | cons a h ih =>
  intro hb
  have h1 := ih (fun q hq => hb q (List.mem_cons_of_mem _ hq))
  have h2 := hb a List.mem_cons_self
  show _ ≤ (if a.1 = k then a.2 else 0) + keyT k _
  split <;> omega
 | cons_cons a h ih =>
  intro hb
  have h1 := ih (fun q hq => hb q (List.mem_cons_of_mem _ hq))
  show (if a.1 = k then a.2 else 0) + keyT k _ ≤ (if a.1 = k then a.2 else 0) + keyT k _
  omega
theorem fold_keyT : ∀ (l m : List (Int × Int)), (∀ q ∈ l, 0 ≤ q.2) → (∀ k, 0 ≤ (alFind k m).getD 0 ∧ (alFind k m).getD 0 + keyT k l ≤ 4611686018427387904) → ∀ k, (alFind k (l.foldl putC m)).getD 0 = (alFind k m).getD 0 + keyT k l
 | [], m, _, _, k => by simp [keyT]
 | x :: l, m, hb, h, k => by
  have hx := hb x List.mem_cons_self
  have hl : ∀ k, 0 ≤ keyT k l := fun k => by
   have := keyT_sub (k := k) (List.nil_sublist l) (fun q hq => hb q (List.mem_cons_of_mem _ hq))
   exact this
  have key : ∀ k, (alFind k (putC m x)).getD 0 = (alFind k m).getD 0 + (if x.1 = k then x.2 else 0) := fun k => by
   unfold putC
   by_cases hk : k = x.1
   ·subst hk
    rw [alFind_put_self, if_pos rfl]
    have h1 := h x.1
    unfold keyT at h1
    rw [if_pos rfl] at h1
    have h2 := hl x.1
    exact wrap64_id (by omega) (by omega)
   ·rw [alFind_put_ne _ hk, if_neg (fun e => hk e.symm)]
    omega
  have h3 := fold_keyT l (putC m x) (fun q hq => hb q (List.mem_cons_of_mem _ hq)) (fun k => by
   rw [key k]
   have h1 := h k
   unfold keyT at h1
   split at h1 <;> rename_i hk
   ·rw [if_pos hk]; omega
   ·rw [if_neg hk]; omega) k
  show (alFind k (l.foldl putC (putC m x))).getD 0 = _
  rw [h3, key k]
  show _ = (alFind k m).getD 0 + ((if x.1 = k then x.2 else 0) + keyT k l)
  omega
theorem cnt_get {l : List (Int × Int)} {B : Int} (hB : 0 ≤ B) (hb : ∀ q ∈ l, 0 ≤ q.2 ∧ q.2 ≤ B) (hs : (l.length : Int) * B ≤ 4611686018427387904) (k : Int) : (alFind k (cntM l)).getD 0 = keyT k l := by
 have h1 := fold_keyT l [] (fun q hq => (hb q hq).1) (fun k => by
  have := keyT_bd hB k l hb
  show (0 : Int) ≤ 0 ∧ 0 + keyT k l ≤ _
  omega) k
 unfold cntM
 rw [h1]
 show 0 + keyT k l = _
 omega
theorem fold_keys : ∀ (l m : List (Int × Int)) (k : Int), k ∈ (l.foldl putC m).map Prod.fst ↔ k ∈ m.map Prod.fst ∨ k ∈ l.map Prod.fst
 | [], m, k => by simp
 | x :: l, m, k => by
  show k ∈ (l.foldl putC (putC m x)).map Prod.fst ↔ _
  rw [fold_keys l (putC m x) k]
  have e : (putC m x).map Prod.fst = if x.1 ∈ m.map Prod.fst then m.map Prod.fst else m.map Prod.fst ++ [x.1] := by unfold putC; exact alPut_keys _ _ _
  rw [e, List.map_cons, List.mem_cons]
  by_cases h : x.1 ∈ m.map Prod.fst
  ·rw [if_pos h]
   constructor
   ·rintro (h1 | h1)
    ·exact .inl h1
    ·exact .inr (.inr h1)
   ·rintro (h1 | h1 | h1)
    ·exact .inl h1
    ·subst h1; exact .inl h
    ·exact .inr h1
  ·rw [if_neg h, List.mem_append, List.mem_singleton]
   constructor
   ·rintro ((h1 | h1) | h1)
    ·exact .inl h1
    ·exact .inr (.inl h1)
    ·exact .inr (.inr h1)
   ·rintro (h1 | h1 | h1)
    ·exact .inl (.inl h1)
    ·exact .inl (.inr h1)
    ·exact .inr h1
theorem cnt_keys (l : List (Int × Int)) (k : Int) : k ∈ (cntM l).map Prod.fst ↔ k ∈ l.map Prod.fst := by
 unfold cntM
 rw [fold_keys]
 simp
theorem find_of_mem : ∀ {m : List (Int × Int)}, Keys m → ∀ {k v : Int}, (k, v) ∈ m → (alFind k m).getD 0 = v
 | [], _, _, _, h => by cases h
 | q :: m, hk, k, v, h => by
  unfold Keys at hk
  rw [List.map_cons, List.nodup_cons] at hk
  unfold alFind
  rcases List.mem_cons.1 h with h1 | h1
  ·rw [← h1, if_pos rfl]; rfl
  ·rw [if_neg (fun e => hk.1 (List.mem_map.2 ⟨_, h1, e⟩))]
   exact find_of_mem hk.2 h1
theorem pieces_bd : ∀ (k : Nat) (a e : Int), ∀ q ∈ piecesG k a e, 0 ≤ q.2 ∧ q.2 ≤ 1440
 | 0, _, _, q, h => by cases h
 | k + 1, a, e, q, h => by
  unfold piecesG at h
  split at h
  ·rcases List.mem_cons.1 h with h1 | h1
   ·subst h1
    show 0 ≤ min _ _ - a ∧ min _ _ - a ≤ 1440
    omega
   ·exact pieces_bd k _ e q h1
  ·cases h
theorem parts_bd (z : Zn) (f t : Int) : ∀ q ∈ partsG z f t, 0 ≤ q.2 ∧ q.2 ≤ 1440 := fun q hq => by
 unfold partsG at hq
 obtain ⟨⟨a, e, o⟩, _, h⟩ := List.mem_flatMap.1 hq
 exact pieces_bd _ _ _ q h
theorem split_bd (z : Zn) (f t : Int) (h0 : 0 ≤ t - f) (h1 : t - f ≤ 1440) : ∀ q ∈ splitL z f t, 0 ≤ q.2 ∧ q.2 ≤ 2073600 := fun q hq => by
 unfold splitL at hq
 obtain ⟨d, _, h⟩ := List.mem_flatMap.1 hq
 have hl : ((partsG z f t).length : Int) ≤ 1440 := by
  have : (partsG z f t).length ≤ (t - f).toNat := strG_len (by omega)
  omega
 have hm : ((partsG z f t).length : Int) * 1440 ≤ 2073600 := by
  have := Int.mul_le_mul_of_nonneg_right hl (show (0 : Int) ≤ 1440 by decide)
  omega
 have e := cnt_get (l := partsG z f t) (B := 1440) (by decide) (parts_bd z f t) (by omega) d
 have hb := keyT_bd (B := 1440) (by decide) d (partsG z f t) (parts_bd z f t)
 unfold portF at h
 split at h
 ·cases h
 ·rw [List.mem_singleton] at h
  subst h
  show 0 ≤ (alFind d _).getD 0 ∧ (alFind d _).getD 0 ≤ 2073600
  rw [e]
  omega
theorem flatMap_sub {β : Type} (f : Nat → List β) {l l' : List Nat} (h : l.Sublist l') : (l.flatMap f).Sublist (l'.flatMap f) := by
 induction h with
 | slnil => exact List.Sublist.refl _
 | cons a h ih => rw [List.flatMap_cons]; exact ih.trans (List.sublist_append_right _ _)
 | cons_cons a h ih => rw [List.flatMap_cons, List.flatMap_cons]; exact (List.Sublist.refl _).append ih
theorem weekS_bd {m : List (Int × Int)} {M : Int} (hM : M ≤ 1000000000000) (h : ∀ k, 0 ≤ (alFind k m).getD 0 ∧ (alFind k m).getD 0 ≤ M) (day : Int) : ∀ k : Nat, k ≤ 7 → 0 ≤ weekS m day k ∧ weekS m day k ≤ (k : Int) * 1000000000000
 | 0, _ => ⟨Int.le_refl _, by simp [weekS]⟩
 | k + 1, hk => by
  have h1 := weekS_bd hM h day k (by omega)
  have h2 := h (wrap64 (day + k))
  have e : wrap64 (weekS m day k + (alFind (wrap64 (day + k)) m).getD 0) = weekS m day k + (alFind (wrap64 (day + k)) m).getD 0 := wrap64_id (by omega) (by omega)
  unfold weekS
  rw [e]
  omega
theorem weekS_mono {m m' : List (Int × Int)} {M : Int} (hM : M ≤ 1000000000000) (h : ∀ k, 0 ≤ (alFind k m).getD 0 ∧ (alFind k m).getD 0 ≤ (alFind k m').getD 0 ∧ (alFind k m').getD 0 ≤ M) (day : Int) : ∀ k : Nat, k ≤ 7 → weekS m day k ≤ weekS m' day k
 | 0, _ => Int.le_refl _
 | k + 1, hk => by
  have h0 := weekS_mono hM h day k (by omega)
  have h1 := weekS_bd hM (fun k => ⟨(h k).1, Int.le_trans (h k).2.1 (h k).2.2⟩) day k (by omega)
  have h1' := weekS_bd hM (fun k => ⟨Int.le_trans (h k).1 (h k).2.1, (h k).2.2⟩) day k (by omega)
  have h2 := h (wrap64 (day + k))
  have e : wrap64 (weekS m day k + (alFind (wrap64 (day + k)) m).getD 0) = weekS m day k + (alFind (wrap64 (day + k)) m).getD 0 := wrap64_id (by omega) (by omega)
  have e' : wrap64 (weekS m' day k + (alFind (wrap64 (day + k)) m').getD 0) = weekS m' day k + (alFind (wrap64 (day + k)) m').getD 0 := wrap64_id (by omega) (by omega)
  show wrap64 (weekS m day k + _) ≤ wrap64 (weekS m' day k + _)
  rw [e, e']
  omega
theorem rs_sub {p : Pl} {l l' : List Nat} (h : l.Sublist l') : rsV p l = true → rsV p l' = true := by
 induction h with
 | slnil => exact id
 | cons a h ih => intro h1; show (_ || rsV p _) = true; rw [ih h1, Bool.or_true]
 | cons_cons a h ih =>
  intro h1
  have h2 : (_ || rsV p _) = true := h1
  show (_ || rsV p _) = true
  rw [Bool.or_eq_true] at h2 ⊢
  rcases h2 with h2 | h2
  ·rw [List.any_eq_true] at h2 ⊢
   obtain ⟨x, hx, h3⟩ := h2
   exact .inl ⟨x, h.subset hx, h3⟩
  ·exact .inr (ih h2)
theorem any_sub {f : Nat → Bool} {l l' : List Nat} (h : l.Sublist l') (h1 : l.any f = true) : l'.any f = true := by
 rw [List.any_eq_true] at h1 ⊢
 obtain ⟨x, hx, h2⟩ := h1
 exact ⟨x, h.subset hx, h2⟩
theorem mins_len {p : Pl} (hb : ∀ k, 0 ≤ (p.du k).b - (p.du k).a ∧ (p.du k).b - (p.du k).a ≤ 1440) : ∀ ds : List Nat, (ds.flatMap (minsF p)).length ≤ ds.length * 1440
 | [] => Nat.le_refl _
 | d :: ds => by
  have h1 := mins_len hb ds
  have h2 : (minsF p d).length ≤ ((p.du d).b - (p.du d).a).toNat := splitL_len _ _ _ (by have := hb d; omega)
  have h3 := hb d
  rw [List.flatMap_cons, List.length_append, List.length_cons]
  omega
/-- The minutes by days grow with the duties. -/
theorem day_mono {p : Pl} (hb : ∀ k, 0 ≤ (p.du k).b - (p.du k).a ∧ (p.du k).b - (p.du k).a ≤ 1440) {ds ds' : List Nat} (h : ds.Sublist ds') (hl : ds'.length ≤ 24) : ∀ k, 0 ≤ (alFind k (dayM p ds)).getD 0 ∧ (alFind k (dayM p ds)).getD 0 ≤ (alFind k (dayM p ds')).getD 0 ∧ (alFind k (dayM p ds')).getD 0 ≤ 1000000000000 := fun k => by
 have hq : ∀ ds : List Nat, ∀ q ∈ ds.flatMap (minsF p), 0 ≤ q.2 ∧ q.2 ≤ 2073600 := fun ds q hq => by
  obtain ⟨d, _, h1⟩ := List.mem_flatMap.1 hq
  exact split_bd _ _ _ (hb d).1 (hb d).2 q h1
 have hn : ∀ ds : List Nat, ds.length ≤ 24 → (((ds.flatMap (minsF p)).length : Nat) : Int) * 2073600 ≤ 71663616000 := fun ds hd => by
  have h1 := mins_len hb ds
  have h2 : (((ds.flatMap (minsF p)).length : Nat) : Int) ≤ 34560 := by omega
  have := Int.mul_le_mul_of_nonneg_right h2 (show (0 : Int) ≤ 2073600 by decide)
  omega
 have hl0 := h.length_le
 have e1 := cnt_get (B := 2073600) (by decide) (hq ds) (by have := hn ds (by omega); omega) k
 have e2 := cnt_get (B := 2073600) (by decide) (hq ds') (by have := hn ds' hl; omega) k
 have b1 := keyT_bd (B := 2073600) (by decide) k _ (hq ds)
 have b2 := keyT_bd (B := 2073600) (by decide) k _ (hq ds')
 have b3 := keyT_sub (k := k) (flatMap_sub (minsF p) h) (fun q h => (hq ds' q h).1)
 have b4 := hn ds' hl
 unfold dayM
 rw [e1, e2]
 omega
theorem day_keys {p : Pl} {ds ds' : List Nat} (h : ds.Sublist ds') {q : Int × Int} (hq : q ∈ dayM p ds) : ∃ q' ∈ dayM p ds', q'.1 = q.1 := by
 have h1 := (cnt_keys _ _).1 (List.mem_map.2 ⟨q, hq, rfl⟩)
 obtain ⟨x, hx, e⟩ := List.mem_map.1 h1
 have h2 := (cnt_keys (ds'.flatMap (minsF p)) q.1).2 (List.mem_map.2 ⟨x, (flatMap_sub (minsF p) h).subset hx, e⟩)
 obtain ⟨y, hy, e2⟩ := List.mem_map.1 h2
 exact ⟨y, hy, e2⟩
theorem viol_mono {p : Pl} (hb : ∀ k, 0 ≤ (p.du k).b - (p.du k).a ∧ (p.du k).b - (p.du k).a ≤ 1440) {x : Wo} {ds ds' : List Nat} (h : ds.Sublist ds') (hl : ds'.length ≤ 24) (hv : violW p x ds = true) : violW p x ds' = true := by
 unfold violW at hv ⊢
 rw [List.any_eq_true] at hv ⊢
 obtain ⟨k, hk, hv⟩ := hv
 refine ⟨k, hk, ?_⟩
 have hd := day_mono hb h hl
 match k with
 | 0 => exact any_sub h hv
 | 1 => exact any_sub h hv
 | 2 => exact rs_sub h hv
 | 3 =>
  have hv : (dayM p ds).any (fun q => decide (p.lm.week < weekS (dayM p ds) q.1 7)) = true := hv
  show (dayM p ds').any (fun q => decide (p.lm.week < weekS (dayM p ds') q.1 7)) = true
  rw [List.any_eq_true] at hv ⊢
  obtain ⟨q, hq, h1⟩ := hv
  obtain ⟨q', hq', e⟩ := day_keys h hq
  have h2 := weekS_mono (Int.le_refl _) hd q.1 7 (Nat.le_refl _)
  have h3 := of_decide_eq_true h1
  exact ⟨q', hq', decide_eq_true (by rw [e]; omega)⟩
 | 4 =>
  have hv : (x.mi && ngV p ds) = true := hv
  show (x.mi && ngV p ds') = true
  rw [Bool.and_eq_true] at hv ⊢
  exact ⟨hv.1, any_sub h hv.2⟩
 | 5 =>
  have hv : (x.mi && mnV p ds) = true := hv
  show (x.mi && mnV p ds') = true
  rw [Bool.and_eq_true] at hv ⊢
  refine ⟨hv.1, ?_⟩
  have hv2 : (dayM p ds).any (fun q => decide (p.lm.mn < q.2)) = true := hv.2
  show (dayM p ds').any (fun q => decide (p.lm.mn < q.2)) = true
  rw [List.any_eq_true] at hv2 ⊢
  obtain ⟨q, hq, h1⟩ := hv2
  obtain ⟨q', hq', e⟩ := day_keys h hq
  have e1 := find_of_mem (cntM_keys _) (show (q.1, q.2) ∈ dayM p ds from hq)
  have e2 := find_of_mem (cntM_keys _) (show (q'.1, q'.2) ∈ dayM p ds' from hq')
  have h2 := hd q.1
  have h3 := of_decide_eq_true h1
  unfold dayM at h2
  rw [e] at e2
  exact ⟨q', hq', decide_eq_true (by rw [e1, e2] at h2; omega)⟩
 | k + 6 => cases hv
theorem env_ok {w : World} {p : Pl} (hp : PlanAt w p) (ok : planB p = true) : (envP p).Ok := by
 have hb := env_bd hp ok
 refine ⟨fun k ds ds' h hl _ hv => ?_, fun k _ => (hb.dur k).1, fun k _ => (hb.wage k).1⟩
 have hv : violP p k ds = true := hv
 show violP p k ds' = true
 unfold violP at hv ⊢
 split at hv
 ·rename_i x hx
  exact viol_mono (fun k => hb.dur k) h (Nat.le_trans hl hb.nD) hv
 ·cases hv
theorem viol_nil (p : Pl) (w : Nat) : (envP p).viol w [] = false := by
 show violP p w [] = false
 unfold violP
 split
 ·rename_i x hx
  unfold violW
  rw [List.any_eq_false]
  intro k hk
  match k with
  | 0 => exact Bool.false_ne_true
  | 1 => exact Bool.false_ne_true
  | 2 => exact Bool.false_ne_true
  | 3 => exact Bool.false_ne_true
  | 4 => show ¬ (x.mi && false) = true; simp
  | 5 => show ¬ (x.mi && false) = true; simp
  | k + 6 => exact Bool.false_ne_true
 ·rfl
end Go.Proofs.YtnnbibmmofnkdaaGreat
