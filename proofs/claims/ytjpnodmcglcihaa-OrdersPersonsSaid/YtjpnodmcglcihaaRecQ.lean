/-
  Recording in plain words; two guarded operations, whichever first; append onto an empty row.
-/
import Derived.Test.YtjpnodmcglcihaaROpP
import Derived.Test.YtjpnodmcglcihaaRegF
import Derived.Test.YtjpnodmcglcihaaClkP
namespace WageOrd
open WageMap
/-- The orders that bear other numbers, among the first ones. -/
def keepL (r : List Ord) (a : Int) (k : Nat) : List Ord := (r.take k).filter fun x => x.n != a
theorem keep_in {r : List Ord} {a : Int} {k : Nat} {x : Ord} (h : r[k]? = some x) (hn : x.n ≠ a) : keepL r a (k + 1) = keepL r a k ++ [x] := by
  unfold keepL
  rw [List.take_add_one, h, List.filter_append]
  simp [hn]
theorem keep_out {r : List Ord} {a : Int} {k : Nat} {x : Ord} (h : r[k]? = some x) (hn : x.n = a) : keepL r a (k + 1) = keepL r a k := by
  unfold keepL
  rw [List.take_add_one, h, List.filter_append]
  simp [hn]
theorem keep_len {r : List Ord} {a : Int} {k : Nat} : (keepL r a k).length ≤ k := Nat.le_trans (List.length_filter_le _ _) (by rw [List.length_take]; omega)
theorem keep_mem {r : List Ord} {a : Int} {k : Nat} {x : Ord} (h : x ∈ keepL r a k) : x ∈ r := List.mem_of_mem_take (List.mem_filter.1 h).1
/-- Whether one of the first ones bears the number. -/
def seenB (r : List Ord) (a : Int) (k : Nat) : Bool := (r.take k).any fun x => x.n == a
theorem seen_in {r : List Ord} {a : Int} {k : Nat} {x : Ord} (h : r[k]? = some x) (hn : x.n = a) : seenB r a (k + 1) = true := by
  unfold seenB
  rw [List.take_add_one, h, List.any_append]
  simp [hn]
theorem seen_out {r : List Ord} {a : Int} {k : Nat} {x : Ord} (h : r[k]? = some x) (hn : x.n ≠ a) : seenB r a (k + 1) = seenB r a k := by
  unfold seenB
  rw [List.take_add_one, h, List.any_append]
  simp [hn]
theorem cM_more {l : List Ord} {o : Ord} : cM (l ++ [o]) o.p o.k (l ++ [o]).length = alPut o.n o (cM l o.p o.k l.length) := by
  rw [List.length_append, List.length_singleton, cM_yes (x := o) (by simp) rfl (Int.le_refl _), cM_snoc]
theorem more_own {l : List Ord} {o x : Ord} {mo : Int} (hv : validB (l ++ [o]) = true) (h : x ∈ openL (l ++ [o]) o.p mo o.k) (hn : x.n = o.n) : x = o := by
  have := ((mem_openL hv).1 h).1
  rw [cM_more, hn, alFind_put_self] at this
  injection this with this
  exact this.symm
theorem more_seen {l : List Ord} {o : Ord} {mo : Int} (hv : validB (l ++ [o]) = true) : seenB (openL (l ++ [o]) o.p mo o.k) o.n (openL (l ++ [o]) o.p mo o.k).length = opB mo o := by
  unfold seenB
  rw [List.take_length]
  cases ho : opB mo o with
  | true =>
    rw [List.any_eq_true]
    refine ⟨o, (mem_openL hv).2 ⟨?_, ho⟩, by simp⟩
    rw [cM_more, alFind_put_self]
  | false =>
    rw [List.any_eq_false]
    intro x hx hn
    have e := more_own hv hx (by simpa using hn)
    subst e
    have := ((mem_openL hv).1 hx).2
    rw [ho] at this
    cases this
theorem more_keep {l : List Ord} {o : Ord} {mo : Int} (hl : validB l = true) (hv : validB (l ++ [o]) = true) : keepL (openL (l ++ [o]) o.p mo o.k) o.n (openL (l ++ [o]) o.p mo o.k).length = keepL (openL l o.p mo o.k) o.n (openL l o.p mo o.k).length := by
  unfold keepL
  rw [List.take_length, List.take_length]
  refine sorted_ext ((openL_sorted _ _ _ _).filter _) ((openL_sorted _ _ _ _).filter _) fun x => ?_
  rw [List.mem_filter, List.mem_filter, mem_openL hv, mem_openL hl, cM_more]
  by_cases hn : x.n = o.n
  · simp [hn]
  · rw [alFind_put_ne _ hn]
theorem op_form {o : Ord} {mo : Int} (h : formB o = true) : opB mo o = (decide (0 < o.m) && decide (o.f ≤ mo)) := by
  have := form_m h
  unfold opB
  rw [Bool.and_comm]
  by_cases h0 : o.m = 0
  · rw [h0]; rfl
  · rw [bne_iff_ne.2 h0, decide_eq_true (show 0 < o.m by omega)]
theorem rec_bad {l r : List Ord} {o : Ord} {z : Int} (h : recL l o = (r, z)) (hz : z ≠ 0) : validB (l ++ [o]) = false := by
  cases hv : validB (l ++ [o]) with
  | false => rfl
  | true =>
    have hok := (valid_len hv).2
    have hl : validB l = true := by have := valid_part hv l.length; rwa [List.take_left] at this
    have hg := okB_at hok (i := l.length) (o := o) (by simp) (by simp)
    unfold goodB at hg
    simp only [Bool.and_eq_true] at hg
    obtain ⟨⟨⟨h1, h2⟩, h3⟩, _⟩ := hg
    have hp : prevB l l.length o = true := by
      rw [← h2]
      unfold prevB
      cases hn : l.length with
      | zero => rfl
      | succ k => simp only []; rw [List.getElem?_append_left (by omega)]
    have hf : fitsB l l.length o = true := by
      rw [← h3]; unfold fitsB; rw [List.take_left, List.take_length]
    have := rec_ok (l := l) (o := o) (by rw [hl, h1]; rfl) hp hf hv
    rw [this] at h
    injection h with _ h
    exact absurd h.symm hz
end WageOrd
namespace WageReg
open Go
section
variable {P : Program} {ops : Array Oper} {Q : Exit → Act → World → Prop} {md : Region.Mode} {G : World → World → Prop} {F : List Nat}
/-- Two operations may come up, and both are wanted. -/
theorem wpAnyF_twoW {i j : Nat} {o1 o2 : Oper} {fuel fuel' : Nat} {listed : Array Bool} {a : Act} {w : World} (hr : Region.ready md ops listed = [i, j]) (hf : fuel = fuel' + 1) (ho1 : pickOps ops [i] = [o1]) (hw1 : Region.wanted o1 (yielded ops a.tmps) = true) (ho2 : pickOps ops [j] = [o2]) (hw2 : Region.wanted o2 (yielded ops a.tmps) = true)
    (h1 : ∀ w', G w w' → ∀ K : Act → World → Prop, (∀ a1 w1, G w' w1 → wpAnyF P md ops Q G F fuel' (listed.setIfInBounds i true) a1 w1 → K a1 w1) → o1.wp P a w' K Q)
    (h2 : ∀ w', G w w' → ∀ K : Act → World → Prop, (∀ a1 w1, G w' w1 → wpAnyF P md ops Q G F fuel' (listed.setIfInBounds j true) a1 w1 → K a1 w1) → o2.wp P a w' K Q) : wpAnyF P md ops Q G F fuel listed a w := by
  subst hf
  refine wpAnyF_all hr (by simp) fun w' hw k hk => ?_
  simp only [List.mem_cons, List.not_mem_nil, or_false] at hk
  unfold wpOp
  rcases hk with rfl | rfl
  · simp only [pick_one ho1, hw1, if_true]
    exact .inl (h1 w' hw _ fun a1 w1 h1 h2 => .inr ⟨h1, h2⟩)
  · simp only [pick_one ho2, hw2, if_true]
    exact .inl (h2 w' hw _ fun a1 w1 h1 h2 => .inr ⟨h1, h2⟩)
end
end WageReg
namespace Go.Proofs.Ytjpnodmcglcihaa
open Go.RowKit Go.Proofs WageMem WageOrd WageRec WageMap WageReg
/-- append onto an empty row of no room: a row of its own, and what lay stays. -/
theorem run_append_empty {P : Program} (w : World) (base : Nat) (t ty e : TypeId) (i : TypeInfo) (z : Value) (size bytes : Nat) (ht : P.underlying t = some (.slice e)) (hi : P.info? e = some i) (hz : i.zero = some z)
    (hsize : i.size = size) (hby : i.bytes = bytes) (hzs : z.cells.size = size) (hsz : 0 < size)
    (A : Option Addr) (hown : w.ownsRow base e size (.slice A 0 0) 0 [])
    (B : Option Addr) (m c : Nat) (news : List Value) (hr : Sl w size B m c news)
    (h63 : m ≤ 1000000) (hbytes : bytes ≤ 1000000) (hbase : base ≤ w.heap.size) :
    ∃ v' w', (Builtin.append_ #[t, t] ty #[.slice A 0 0, .slice B m c]).run P w = .ok v' w' ∧ w'.ownsRow base e size v' m news ∧ Grew w w' := by
  by_cases hm : 0 < m
  · obtain ⟨v', w', hrun, hown', hg, _⟩ := run_append_full w t ty e i z size bytes ht hi hz hsize hby hzs hsz A 0 [] (Sl.own hown) B m c news hr hm (by omega) hbytes
    rw [Nat.zero_add, List.nil_append] at hown'
    exact ⟨v', w', hrun, own_base hown' hbase, hg⟩
  · obtain rfl : m = 0 := by omega
    have hn : news = [] := List.eq_nil_of_length_eq_zero (by simpa using hr.2.2.1)
    subst hn
    refine ⟨.slice A 0 0, w, ?_, hown, Grew.refl w⟩
    have hf : (Builtin.firstCells i.size 0 (.slice B 0 c)).run P w = .ok #[] w := by
      cases B with
      | none => simp [Builtin.firstCells]
      | some b => simp [Builtin.firstCells, loadCells, loadCellsFrom]
    cases A with
    | none => simp [Builtin.append_, run_underlying ht, Go.sizeOf, typeInfo, hi, Builtin.lenOf, hf]
    | some a => simp [Builtin.append_, run_underlying ht, Go.sizeOf, typeInfo, hi, Builtin.lenOf, hf, storeCells]
end Go.Proofs.Ytjpnodmcglcihaa
