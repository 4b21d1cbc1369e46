/-
  Regions that draw their order: an operation that yields one value in every grown world may be taken first, a call that only makes memory too.
-/
import Derived.OrdersHeld
import Derived.RegionTactic
import Derived.Deep.RegionHeld3
namespace WageReg
open Go

section
variable {P : Program} {ops : Array Oper} {Q : Exit → Act → World → Prop} {md : Region.Mode} {G : World → World → Prop}

/-- In state 'a', in every world that has grown out of 'w', operation 'o' leaves 'v' in its temporary and the world only grows. -/
def YieldsG (P : Program) (ops : Array Oper) (G : World → World → Prop) (o : Oper) (v : Value) (a : Act) (w : World) : Prop :=
  (Region.wanted o (yielded ops a.tmps) = true ∧ ∀ w', G w w' → (execOp a.eval o).run P w' = .ok (.value v) w') ∨
  (Region.wanted o (yielded ops a.tmps) = false ∧ v = undef) ∨
  (Region.wanted o (yielded ops a.tmps) = true ∧ ∃ f args, (∀ w', (execOp a.eval o).run P w' = .ok (.enter f args) w') ∧
    ∀ w', G w w' → Calls P f args w' fun e w1 => e = .returned v ∧ G w' w1)

theorem YieldsG.pure {o : Oper} {v : Value} {a : Act} {w : World} (hw : Region.wanted o (yielded ops a.tmps) = true) (h : ∀ w', G w w' → (execOp a.eval o).run P w' = .ok (.value v) w') : YieldsG P ops G o v a w := .inl ⟨hw, h⟩
theorem YieldsG.skip {o : Oper} {a : Act} {w : World} (hw : Region.wanted o (yielded ops a.tmps) = false) : YieldsG P ops G o undef a w := .inr (.inl ⟨hw, rfl⟩)
theorem YieldsG.call {o : Oper} {v : Value} {a : Act} {w : World} (hw : Region.wanted o (yielded ops a.tmps) = true) (f : FuncId) (args : Array Value)
    (hx : ∀ w', (execOp a.eval o).run P w' = .ok (.enter f args) w') (h : ∀ w', G w w' → Calls P f args w' fun e w1 => e = .returned v ∧ G w' w1) : YieldsG P ops G o v a w :=
  .inr (.inr ⟨hw, f, args, hx, h⟩)

theorem YieldsG.mono {o : Oper} {v : Value} {a : Act} {w w1 : World} (ht : ∀ a b c, G a b → G b c → G a c) (h : YieldsG P ops G o v a w) (hg : G w w1) : YieldsG P ops G o v a w1 := by
  rcases h with ⟨hw, hv⟩ | h | ⟨hw, f, args, hx, hv⟩
  · exact .inl ⟨hw, fun w' h' => hv w' (ht _ _ _ hg h')⟩
  · exact .inr (.inl h)
  · exact .inr (.inr ⟨hw, f, args, hx, fun w' h' => hv w' (ht _ _ _ hg h')⟩)

theorem YieldsG.wpOp {i : Nat} {o : Oper} {v : Value} {a : Act} (hi : ops[i]? = some o) {w : World} (hy : YieldsG P ops G o v a w) (hr : ∀ a, G a a)
    {K : Act → World → Prop} {w' : World} (hg : G w w') (h : ∀ w1, G w' w1 → K (a.put o.dst v) w1) : wpOp P ops Q i K a w' := by
  unfold Go.wpOp
  simp only [hi]
  rcases hy with ⟨hw, hv⟩ | ⟨hw, rfl⟩ | ⟨hw, f, args, hx, hv⟩
  · simp only [hw, if_true, Oper.wp, hv w' hg, Oper.upon]; exact .inl (h _ (hr _))
  · simp only [hw, Bool.false_eq_true, if_false]; exact h _ (hr _)
  · simp only [hw, if_true, Oper.wp, hx w', Oper.upon]
    refine .inl ((hv w' hg).mono ?_)
    rintro e w1 ⟨rfl, h1⟩
    exact h w1 h1

theorem YieldsG.of_same {o : Oper} {v : Value} {a a' : Act} {w : World} (hy : YieldsG P ops G o v a w) (he : execOp a'.eval o = execOp a.eval o)
    (hw : Region.wanted o (yielded ops a'.tmps) = Region.wanted o (yielded ops a.tmps)) : YieldsG P ops G o v a' w := by
  unfold YieldsG at *
  rw [he, hw]
  exact hy

theorem wpOp_putG {j : Nat} {oi oj : Oper} {v : Value} {w0 : World} (hj : ops[j]? = some oj) (hap : oi.apart ops oj = true)
    (hsi : ∀ cs b, oi.op ≠ .select cs b) (hsj : ∀ cs b, oj.op ≠ .select cs b)
    (hQ : ∀ c a w, Q (.panic c) (a.put oi.dst v) w → Q (.panic c) a w) {K : Act → World → Prop} {a : Act} {w : World}
    (hy : YieldsG P ops G oi v a w0) (h : wpOp P ops Q j K (a.put oi.dst v) w) :
    wpOp P ops Q j (fun a' w' => YieldsG P ops G oi v a' w0 ∧ K (a'.put oi.dst v) w') a w := by
  obtain ⟨h1, h2, h3⟩ := Oper.apart_spec hap
  have keep : ∀ (a : Act), YieldsG P ops G oi v a w0 → ∀ u, YieldsG P ops G oi v (a.put oj.dst u) w0 := fun a hy u =>
    hy.of_same (execOp_put oi hsi a oj.dst u h3) (wanted_put oi a oj.dst u h3)
  have keepD : ∀ d, YieldsG P ops G oi v { a with defers := d :: a.defers } w0 := fun d => hy.of_same rfl rfl
  unfold wpOp at *
  simp only [hj] at *
  rw [wanted_put oj a oi.dst v h1] at h
  split
  · rename_i hw
    simp only [hw, if_true] at h
    rcases h with h | ⟨hasks, hlets⟩
    case inr => exact .inr ⟨by unfold Oper.asks at *; rw [execOp_put oj hsj a oi.dst v h1] at hasks; exact hasks, hlets⟩
    refine .inl ?_
    unfold Oper.wp at *
    rw [execOp_put oj hsj a oi.dst v h1] at h
    generalize (execOp a.eval oj).run P w = r at *
    cases r with
    | ok n w' =>
      cases n <;> simp only [Oper.upon] at h ⊢
      case value u => exact ⟨keep a hy u, by rw [← Act.put_comm a v u h2]; exact h⟩
      case skip => exact ⟨keep a hy _, by rw [← Act.put_comm a v undef h2]; exact h⟩
      case defer d =>
        refine ⟨keep _ (keepD d) _, ?_⟩
        rw [← Act.put_comm _ v undef h2, ← Act.put_defers]
        exact h
      case enter f args =>
        refine Calls.mono h fun e w'' he => ?_
        cases e with
        | returned u => exact ⟨keep a hy u, by rw [← Act.put_comm a v u h2]; exact he⟩
        | panicked c => exact hQ _ _ _ he
        | outgrown => exact he
      case row row args => exact Rows.mono h fun u w'' he => ⟨keep a hy u, by rw [← Act.put_comm a v u h2]; exact he⟩
    | halt x w' =>
      cases x <;> simp only [Oper.upon] at h ⊢
      case panic u => exact hQ _ _ _ h
  · rename_i hw
    simp only [hw] at h
    exact ⟨keep a hy _, by rw [← Act.put_comm a v undef h2]; exact h⟩

/-- m stands behind i by the region's edges. -/
def reaches (md : Region.Mode) (ops : Array Oper) (i : Nat) : Nat → Nat → Bool
  | 0, _ => false
  | n + 1, m => match ops[m]? with
    | none => false
    | some o => o.after.any fun e => Region.binds md e && (e.on == i || reaches md ops i n e.on)
/-- i is not m and m, if it is one of the operations at all, stands behind i. -/
def spares (md : Region.Mode) (ops : Array Oper) (m i : Nat) : Bool := decide (ops.size ≤ m) || (i != m && reaches md ops i ops.size m)
/-- With an operation those are listed that it waits for. -/
def Closed (md : Region.Mode) (ops : Array Oper) (listed : Array Bool) : Prop := ∀ j o, ops[j]? = some o → listed.getD j true = true → ∀ e ∈ o.after, Region.binds md e = true → listed.getD e.on false = true
def closedB (md : Region.Mode) (ops : Array Oper) (listed : Array Bool) : Bool := (List.range ops.size).all fun j => match ops[j]? with
  | none => true
  | some o => !listed.getD j true || o.after.all fun e => !Region.binds md e || listed.getD e.on false
theorem closedB_spec {listed : Array Bool} (h : closedB md ops listed = true) : Closed md ops listed := by
  intro j o ho hl e he hb
  simp only [closedB, List.all_eq_true, List.mem_range] at h
  have h1 := h j (Array.getElem?_eq_some_iff.1 ho).1
  simp only [ho, hl, Bool.not_true, Bool.false_or] at h1
  have h2 := Array.all_eq_true_iff_forall_mem.1 h1 e he
  simpa [hb] using h2
theorem Closed.set {listed : Array Bool} (h : Closed md ops listed) {i : Nat} (hi : i ∈ Region.ready md ops listed) : Closed md ops (listed.setIfInBounds i true) := by
  intro j o ho hl e he hb
  by_cases hij : i = j
  · subst hij
    obtain ⟨_, o', ho', hall⟩ := mem_ready.1 hi
    rw [ho] at ho'
    injection ho' with ho'
    subst ho'
    exact getD_set_true (hall e he hb)
  · rw [getD_set_ne true hij] at hl
    exact getD_set_true (h j o ho hl e he hb)
theorem reaches_listed {listed : Array Bool} (h : Closed md ops listed) {i : Nat} : ∀ {n m : Nat} {o : Oper}, reaches md ops i n m = true → ops[m]? = some o →
    (∀ e ∈ o.after, Region.binds md e = true → listed.getD e.on false = true) → listed.getD i false = true
  | 0, _, _, hr, _, _ => by cases hr
  | n + 1, m, o, hr, ho, hall => by
    unfold reaches at hr
    rw [ho] at hr
    obtain ⟨e, he, hb⟩ := Array.any_eq_true'.1 hr
    simp only [Bool.and_eq_true, Bool.or_eq_true, beq_iff_eq] at hb
    obtain ⟨hb1, hb2⟩ := hb
    have hl := hall e he hb1
    rcases hb2 with rfl | hb2
    · exact hl
    · cases ho' : ops[e.on]? with
      | none => unfold reaches at hb2; cases n <;> simp_all
      | some o' =>
        have hl' : listed.getD e.on true = true := by
          rcases Nat.lt_or_ge e.on listed.size with h' | h'
          · simp [h'] at hl ⊢; exact hl
          · simp [Array.getElem?_eq_none h'] at hl
        exact reaches_listed h hb2 ho' (fun e' he' hb' => h e.on o' ho' hl' e' he' hb')

/-- Whatever order is picked, and whatever is made in memory between two operations; behind operation m nothing is asked of the world, and what is left goes by 'wpAny'. -/
def wpAnyG (P : Program) (md : Region.Mode) (ops : Array Oper) (Q : Exit → Act → World → Prop) (G : World → World → Prop) (m : Nat) : Nat → Array Bool → Act → World → Prop
  | 0, listed, a, w => Region.ready md ops listed = [] ∧ ∀ w', G w w' → Q .normal a w'
  | fuel + 1, listed, a, w => ∀ w', G w w' →
    (Region.ready md ops listed = [] → Q .normal a w') ∧
    ∀ i ∈ Region.ready md ops listed, wpOp P ops Q i (fun a1 w1 => (i = m ∧ wpAny P md ops Q fuel (listed.setIfInBounds i true) a1 w1) ∨
      (G w' w1 ∧ wpAnyG P md ops Q G m fuel (listed.setIfInBounds i true) a1 w1)) a w'

variable {m : Nat}
theorem wpAnyG.mono (ht : ∀ a b c, G a b → G b c → G a c) {a : Act} {w w1 : World} (hg : G w w1) : ∀ {fuel : Nat} {listed : Array Bool}, wpAnyG P md ops Q G m fuel listed a w → wpAnyG P md ops Q G m fuel listed a w1
  | 0, _, h => ⟨h.1, fun w' h' => h.2 w' (ht _ _ _ hg h')⟩
  | _ + 1, _, h => fun w' h' => h w' (ht _ _ _ hg h')

theorem wpAny_of_G (hr : ∀ a, G a a) : ∀ (fuel : Nat) (listed : Array Bool) (a : Act) (w : World), wpAnyG P md ops Q G m fuel listed a w → wpAny P md ops Q fuel listed a w
  | 0, _, _, w, h => ⟨h.1, h.2 w (hr w)⟩
  | fuel + 1, _, _, w, h => ⟨(h w (hr w)).1, fun i hi => wpOp_mono (fun a' w' h' => h'.elim (fun h1 => h1.2) (fun h1 => wpAny_of_G hr fuel _ a' w' h1.2)) ((h w (hr w)).2 i hi)⟩

/-- An operation that may come up now, yields one value in every grown world and only makes memory may be taken first. -/
theorem wpAnyG_first (hr0 : ∀ a, G a a) (ht : ∀ a b c, G a b → G b c → G a c) {i : Nat} {oi : Oper} {v : Value} (hi : ops[i]? = some oi) (hsel : ∀ (j : Nat) (o : Oper) cs b, ops[j]? = some o → o.op ≠ .select cs b)
    (hQ : ∀ c a w, Q (.panic c) (a.put oi.dst v) w → Q (.panic c) a w) (hsp : spares md ops m i = true) :
    ∀ (fuel : Nat) (listed : Array Bool) (a : Act) (w : World), Closed md ops listed →
      (∀ j oj, ops[j]? = some oj → j ≠ i → listed.getD j true = false → (∀ e ∈ oj.after, Region.binds md e = true → e.on ≠ i) → oi.apart ops oj = true) →
      i ∈ Region.ready md ops listed → YieldsG P ops G oi v a w →
      wpAnyG P md ops Q G m fuel (listed.setIfInBounds i true) (a.put oi.dst v) w → wpAnyG P md ops Q G m (fuel + 1) listed a w := by
  intro fuel
  induction fuel with
  | zero =>
    intro listed a w _ _ hr hy H w' hg
    refine ⟨fun h => (by rw [h] at hr; cases hr), fun j hj => ?_⟩
    by_cases hji : j = i
    · subst hji
      exact hy.wpOp hi hr0 hg (fun w1 h1 => .inr ⟨h1, H.1, fun w2 h2 => H.2 w2 (ht _ _ _ hg (ht _ _ _ h1 h2))⟩)
    · have := ready_mono hj hji
      rw [H.1] at this
      cases this
  | succ fuel ih =>
    intro listed a w hcl hfree hr hy H w' hg
    refine ⟨fun h => (by rw [h] at hr; cases hr), fun j hj => ?_⟩
    by_cases hji : j = i
    · subst hji
      exact hy.wpOp hi hr0 hg (fun w1 h1 => .inr ⟨h1, wpAnyG.mono ht (ht _ _ _ hg h1) H⟩)
    · have h1 := (H w' hg).2 j (ready_mono hj hji)
      obtain ⟨hjun, oj, hoj, hall⟩ := mem_ready.1 hj
      have hnoti : listed.getD i false ≠ true := by
        have h0 := (mem_ready.1 hr).1
        rcases Nat.lt_or_ge i listed.size with h' | h'
        · simp [h'] at h0 ⊢; exact h0
        · simp [Array.getElem?_eq_none h']
      have hnot : ∀ e ∈ oj.after, Region.binds md e = true → e.on ≠ i := fun e he hb heq => by
        have h1 := hall e he hb
        rw [heq] at h1
        exact hnoti h1
      have hjm : j ≠ m := by
        rintro rfl
        simp only [spares, Bool.or_eq_true, decide_eq_true_eq, Bool.and_eq_true] at hsp
        rcases hsp with hsp | hsp
        · have := (Array.getElem?_eq_some_iff.1 hoj).1; omega
        · exact hnoti (reaches_listed hcl hsp.2 hoj hall)
      have h2 := wpOp_putG hoj (hfree j oj hoj hji hjun hnot) (fun cs b => hsel i oi cs b hi) (fun cs b => hsel j oj cs b hoj) hQ hy h1
      have hfree' : ∀ k ok, ops[k]? = some ok → k ≠ i → (listed.setIfInBounds j true).getD k true = false →
          (∀ e ∈ ok.after, Region.binds md e = true → e.on ≠ i) → oi.apart ops ok = true := fun k ok hk hki hun hno => by
        refine hfree k ok hk hki ?_ hno
        by_cases hjk : j = k
        · subst hjk; exact hjun
        · rw [getD_set_ne true hjk] at hun; exact hun
      refine wpOp_mono (fun a' w1 h3 => ?_) h2
      obtain ⟨hy', h4⟩ := h3
      rcases h4 with ⟨hjm', _⟩ | ⟨hg1, h4⟩
      · exact absurd hjm' hjm
      · refine .inr ⟨hg1, ih (listed.setIfInBounds j true) a' w1 (hcl.set hj) hfree' (ready_mono hr (Ne.symm hji)) (hy'.mono ht (ht _ _ _ hg hg1)) ?_⟩
        rw [Array.setIfInBounds_comm _ _ hji]
        exact h4

/-- What is asked of the walk at a take, as one Bool. -/
def mayTake (md : Region.Mode) (ops : Array Oper) (m : Nat) (listed : Array Bool) (i : Nat) : Bool :=
  Region.noSelect ops && Region.free md ops listed i && (Region.ready md ops listed).contains i && spares md ops m i && closedB md ops listed

theorem wpAnyG_take (hr0 : ∀ a, G a a) (ht : ∀ a b c, G a b → G b c → G a c) {i : Nat} {oi : Oper} {v : Value} {fuel : Nat} {listed : Array Bool} {a : Act} {w : World} (hi : ops[i]? = some oi)
    (hm : mayTake md ops m listed i = true)
    (hQ : ∀ c a w, Q (.panic c) (a.put oi.dst v) w → Q (.panic c) a w) (hy : YieldsG P ops G oi v a w)
    (h : wpAnyG P md ops Q G m fuel (listed.setIfInBounds i true) (a.put oi.dst v) w) : wpAnyG P md ops Q G m (fuel + 1) listed a w := by
  simp only [mayTake, Bool.and_eq_true] at hm
  obtain ⟨⟨⟨⟨hs, hf⟩, hr⟩, hsp⟩, hc⟩ := hm
  exact wpAnyG_first hr0 ht hi (Region.noSelect_spec hs) hQ hsp fuel listed a w (closedB_spec hc) (Region.free_spec hi hf) (by simpa using hr) hy h

theorem wpAnyG_all {rs : List Nat} {fuel : Nat} {listed : Array Bool} {a : Act} {w : World} (hr : Region.ready md ops listed = rs) (hne : rs ≠ [])
    (h : ∀ w', G w w' → ∀ i ∈ rs, wpOp P ops Q i (fun a1 w1 => (i = m ∧ wpAny P md ops Q fuel (listed.setIfInBounds i true) a1 w1) ∨
      (G w' w1 ∧ wpAnyG P md ops Q G m fuel (listed.setIfInBounds i true) a1 w1)) a w') : wpAnyG P md ops Q G m (fuel + 1) listed a w :=
  fun w' hg => ⟨fun h0 => absurd (hr ▸ h0) hne, hr ▸ h w' hg⟩

/-- One operation alone may come up. -/
theorem wpAnyG_one {i : Nat} {o : Oper} {fuel : Nat} {listed : Array Bool} {a : Act} {w : World} (hr : Region.ready md ops listed = [i]) (ho : ops[i]? = some o) (hg : o.guard = none)
    (h : ∀ w', G w w' → ∀ K : Act → World → Prop, (∀ a1 w1, G w' w1 → wpAnyG P md ops Q G m fuel (listed.setIfInBounds i true) a1 w1 → K a1 w1) → o.wp P a w' K Q) : wpAnyG P md ops Q G m (fuel + 1) listed a w := by
  refine wpAnyG_all hr (by simp) fun w' hw j hj => ?_
  obtain rfl : j = i := by simpa using hj
  unfold wpOp
  simp only [ho, Region.wanted, hg, if_true]
  exact .inl (h w' hw _ fun a1 w1 h1 h2 => .inr ⟨h1, h2⟩)
/-- Operation m, alone: nothing is asked of the world behind it. -/
theorem wpAnyG_last {o : Oper} {fuel : Nat} {listed : Array Bool} {a : Act} {w : World} (hr : Region.ready md ops listed = [m]) (ho : ops[m]? = some o) (hg : o.guard = none)
    (h : ∀ w', G w w' → ∀ K : Act → World → Prop, (∀ a1 w1, wpAny P md ops Q fuel (listed.setIfInBounds m true) a1 w1 → K a1 w1) → o.wp P a w' K Q) : wpAnyG P md ops Q G m (fuel + 1) listed a w := by
  refine wpAnyG_all hr (by simp) fun w' hw j hj => ?_
  obtain rfl : j = m := by simpa using hj
  unfold wpOp
  simp only [ho, Region.wanted, hg, if_true]
  exact .inl (h w' hw _ fun a1 w1 h1 => .inl ⟨trivial, h1⟩)

theorem wpAnyG_done {listed : Array Bool} {a : Act} {w : World} (hr : Region.ready md ops listed = []) (h : ∀ w', G w w' → Q .normal a w') :
    ∀ fuel, wpAnyG P md ops Q G m fuel listed a w
  | 0 => ⟨hr, h⟩
  | _ + 1 => fun w' hg => ⟨fun _ => h w' hg, by rw [hr]; simp⟩

theorem wp_region_G {id : Nat} {a : Act} {w : World} (hm : P.follows .mixedOrders = true) (hr0 : ∀ a, G a a) (m : Nat)
    (h : wpAnyG P .any ops Q G m ops.size (Array.replicate ops.size false) a w.drew) : (Code.region id ops true).wp P Q a w :=
  wp_region_any hm (wpAny_of_G hr0 _ _ _ _ h)


/-- A row of operations, each of which yields one value in every grown world. -/
def TakeAll (P : Program) (ops : Array Oper) (G : World → World → Prop) (w : World) : List Oper → Act → (Act → Prop) → Prop
  | [], a, F => F a
  | o :: rest, a, F => ∃ v, YieldsG P ops G o v a w ∧ TakeAll P ops G w rest (a.put o.dst v) F
theorem TakeAll.nil {w : World} {a : Act} {F : Act → Prop} (h : F a) : TakeAll P ops G w [] a F := h
theorem TakeAll.pure {w : World} {o : Oper} {rest : List Oper} {a : Act} {F : Act → Prop} {v : Value} (hw : Region.wanted o (yielded ops a.tmps) = true) (h : ∀ w', G w w' → (execOp a.eval o).run P w' = .ok (.value v) w')
    (k : TakeAll P ops G w rest (a.put o.dst v) F) : TakeAll P ops G w (o :: rest) a F := ⟨v, .pure hw h, k⟩
theorem TakeAll.skip {w : World} {o : Oper} {rest : List Oper} {a : Act} {F : Act → Prop} (hw : Region.wanted o (yielded ops a.tmps) = false)
    (k : TakeAll P ops G w rest (a.put o.dst undef) F) : TakeAll P ops G w (o :: rest) a F := ⟨undef, .skip hw, k⟩
theorem TakeAll.call {w : World} {o : Oper} {rest : List Oper} {a : Act} {F : Act → Prop} {v : Value} (hw : Region.wanted o (yielded ops a.tmps) = true) (f : FuncId) (args : Array Value)
    (hx : ∀ w', (execOp a.eval o).run P w' = .ok (.enter f args) w') (h : ∀ w', G w w' → Calls P f args w' fun e w1 => e = .returned v ∧ G w' w1)
    (k : TakeAll P ops G w rest (a.put o.dst v) F) : TakeAll P ops G w (o :: rest) a F := ⟨v, .call hw f args hx h, k⟩
theorem TakeAll.imp {w : World} {F F' : Act → Prop} (hF : ∀ a, F a → F' a) : ∀ {l : List Oper} {a : Act}, TakeAll P ops G w l a F → TakeAll P ops G w l a F'
  | [], _, h => hF _ h
  | _ :: _, _, ⟨v, hy, h⟩ => ⟨v, hy, TakeAll.imp hF h⟩

/-- The operations with these numbers. -/
def pickOps (ops : Array Oper) : List Nat → List Oper
  | [] => []
  | i :: is => match ops[i]? with
    | some o => o :: pickOps ops is
    | none => pickOps ops is
def setAll : Array Bool → List Nat → Array Bool
  | l, [] => l
  | l, i :: is => setAll (l.setIfInBounds i true) is
def mayTakes (md : Region.Mode) (ops : Array Oper) (m : Nat) : Array Bool → List Nat → Bool
  | _, [] => true
  | l, i :: is => mayTake md ops m l i && mayTakes md ops m (l.setIfInBounds i true) is

theorem wpAnyG_takes_aux (hr0 : ∀ a, G a a) (ht : ∀ a b c, G a b → G b c → G a c) (hQ : ∀ (d : Tmp) (v : Value) c a w, Q (.panic c) (a.put (some d) v) w → Q (.panic c) a w) {fuel : Nat} {w : World} :
    ∀ (is : List Nat) (listed : Array Bool) (a : Act), mayTakes md ops m listed is = true →
      TakeAll P ops G w (pickOps ops is) a (fun a' => wpAnyG P md ops Q G m fuel (setAll listed is) a' w) → wpAnyG P md ops Q G m (fuel + is.length) listed a w
  | [], _, _, _, h => h
  | i :: is, listed, a, hm, h => by
    simp only [mayTakes, Bool.and_eq_true] at hm
    cases ho : ops[i]? with
    | none =>
      have h1 := hm.1
      simp [mayTake, Region.free, ho] at h1
    | some o =>
      simp only [pickOps, ho] at h
      obtain ⟨v, hy, h⟩ := h
      exact wpAnyG_take hr0 ht ho hm.1 (by cases o.dst with | none => exact fun _ _ _ h => h | some d => exact hQ d v) hy (wpAnyG_takes_aux hr0 ht hQ is _ _ hm.2 h)

theorem wpAnyG_takes (hr0 : ∀ a, G a a) (ht : ∀ a b c, G a b → G b c → G a c) (hQ : ∀ (d : Tmp) (v : Value) c a w, Q (.panic c) (a.put (some d) v) w → Q (.panic c) a w) {fuel fuel' : Nat} {w : World} {listed : Array Bool} {a : Act}
    (is : List Nat) (hf : fuel = fuel' + is.length) (hm : mayTakes md ops m listed is = true) {l : List Oper} (hl : pickOps ops is = l)
    (h : TakeAll P ops G w l a (fun a' => wpAnyG P md ops Q G m fuel' (setAll listed is) a' w)) : wpAnyG P md ops Q G m fuel listed a w := by
  subst hf hl
  exact wpAnyG_takes_aux hr0 ht hQ is listed a hm h

def allMay (md : Region.Mode) (ops : Array Oper) : Bool := mayTakes md ops ops.size (Array.replicate ops.size false) (List.range ops.size) && (Region.ready md ops (setAll (Array.replicate ops.size false) (List.range ops.size))).isEmpty
theorem pickOps_drop (ops : Array Oper) : ∀ n k, n + k = ops.size → pickOps ops (List.range' k n) = ops.toList.drop k
  | 0, k, h => by
    have : ops.toList.length ≤ k := by simp; omega
    simp [pickOps, List.drop_eq_nil_of_le this]
  | n + 1, k, h => by
    have hk : k < ops.size := by omega
    simp only [List.range'_succ, pickOps, Array.getElem?_eq_getElem hk]
    rw [pickOps_drop ops n (k + 1) (by omega)]
    rw [List.drop_eq_getElem_cons (i := k) (by simpa using hk)]
    simp
theorem pickOps_all (ops : Array Oper) : pickOps ops (List.range ops.size) = ops.toList := by
  rw [List.range_eq_range', pickOps_drop ops ops.size 0 (by omega), List.drop_zero]

/-- A drawn region all of whose operations yield one value in every grown world: one walk, in the text's order. -/
theorem wp_region_seq {id : Nat} {l : List Oper} {a : Act} {w : World} (hm : P.follows .mixedOrders = true) (hr0 : ∀ a, G a a) (ht : ∀ a b c, G a b → G b c → G a c)
    (hQ : ∀ (d : Tmp) (v : Value) c a w, Q (.panic c) (a.put (some d) v) w → Q (.panic c) a w) (hok : allMay .any l.toArray = true)
    (h : TakeAll P l.toArray G w.drew l a (fun a' => ∀ w', G w.drew w' → Q .normal a' w')) : (Code.region id l.toArray true).wp P Q a w := by
  simp only [allMay, Bool.and_eq_true, List.isEmpty_iff] at hok
  refine wp_region_G hm hr0 l.toArray.size ?_
  refine wpAnyG_takes hr0 ht hQ (fuel' := 0) (List.range l.toArray.size) (by simp) hok.1 (by rw [pickOps_all]) ?_
  exact h.imp fun a' h' => ⟨hok.2, h'⟩


/-- One operation alone may come up; the operation written out. -/
theorem wpAnyG_step {i : Nat} {o : Oper} {fuel fuel' : Nat} {listed : Array Bool} {a : Act} {w : World} (hr : Region.ready md ops listed = [i]) (hf : fuel = fuel' + 1) (ho : pickOps ops [i] = [o]) (hg : o.guard = none)
    (h : ∀ w', G w w' → ∀ K : Act → World → Prop, (∀ a1 w1, G w' w1 → wpAnyG P md ops Q G m fuel' (listed.setIfInBounds i true) a1 w1 → K a1 w1) → o.wp P a w' K Q) : wpAnyG P md ops Q G m fuel listed a w := by
  subst hf
  refine wpAnyG_one hr (o := o) ?_ hg h
  unfold pickOps at ho
  split at ho
  · rename_i o' h'; simp [pickOps] at ho; rw [h', ho]
  · simp [pickOps] at ho
/-- Operation m, written out: nothing is asked of the world behind it. -/
theorem wpAnyG_end {o : Oper} {fuel fuel' : Nat} {listed : Array Bool} {a : Act} {w : World} (hr : Region.ready md ops listed = [m]) (hf : fuel = fuel' + 1) (ho : pickOps ops [m] = [o]) (hg : o.guard = none)
    (h : ∀ w', G w w' → ∀ K : Act → World → Prop, (∀ a1 w1, wpAny P md ops Q fuel' (listed.setIfInBounds m true) a1 w1 → K a1 w1) → o.wp P a w' K Q) : wpAnyG P md ops Q G m fuel listed a w := by
  subst hf
  refine wpAnyG_last hr (o := o) ?_ hg h
  unfold pickOps at ho
  split at ho
  · rename_i o' h'; simp [pickOps] at ho; rw [h', ho]
  · simp [pickOps] at ho
/-- What is left behind operation m only turns temporaries. -/
theorem wpAny_rest (hQ : ∀ (d : Tmp) (v : Value) c a w, Q (.panic c) (a.put (some d) v) w → Q (.panic c) a w) {fuel : Nat} {w : World} {listed : Array Bool} {a : Act}
    (is : List Nat) (hf : fuel = is.length) (hm : mayTakes md ops ops.size listed is = true) (hr : Region.ready md ops (setAll listed is) = []) {l : List Oper} (hl : pickOps ops is = l)
    (h : TakeAll P ops Eq w l a (fun a' => Q .normal a' w)) : wpAny P md ops Q fuel listed a w := by
  refine wpAny_of_G (G := Eq) (m := ops.size) (fun _ => rfl) fuel listed a w ?_
  refine wpAnyG_takes (fun _ => rfl) (fun _ _ _ h1 h2 => h1.trans h2) hQ is (fuel' := 0) (by omega) hm hl ?_
  exact h.imp fun a' h' => ⟨hr, fun w' e => e ▸ h'⟩
theorem pick_one {i : Nat} {o : Oper} (ho : pickOps ops [i] = [o]) : ops[i]? = some o := by
  unfold pickOps at ho
  split at ho
  · rename_i o' h'; simp [pickOps] at ho; rw [h', ho]
  · simp [pickOps] at ho
/-- Two operations may come up, whichever first. -/
theorem wpAnyG_two {i j : Nat} {o1 o2 : Oper} {fuel fuel' : Nat} {listed : Array Bool} {a : Act} {w : World} (hr : Region.ready md ops listed = [i, j]) (hf : fuel = fuel' + 1) (ho1 : pickOps ops [i] = [o1]) (hg1 : o1.guard = none) (ho2 : pickOps ops [j] = [o2]) (hg2 : o2.guard = none)
    (h1 : ∀ w', G w w' → ∀ K : Act → World → Prop, (∀ a1 w1, G w' w1 → wpAnyG P md ops Q G m fuel' (listed.setIfInBounds i true) a1 w1 → K a1 w1) → o1.wp P a w' K Q)
    (h2 : ∀ w', G w w' → ∀ K : Act → World → Prop, (∀ a1 w1, G w' w1 → wpAnyG P md ops Q G m fuel' (listed.setIfInBounds j true) a1 w1 → K a1 w1) → o2.wp P a w' K Q) : wpAnyG P md ops Q G m fuel listed a w := by
  subst hf
  refine wpAnyG_all hr (by simp) fun w' hw k hk => ?_
  simp only [List.mem_cons, List.not_mem_nil, or_false] at hk
  unfold wpOp
  rcases hk with rfl | rfl
  · simp only [pick_one ho1, Region.wanted, hg1, if_true]
    exact .inl (h1 w' hw _ fun a1 w1 h1 h2 => .inr ⟨h1, h2⟩)
  · simp only [pick_one ho2, Region.wanted, hg2, if_true]
    exact .inl (h2 w' hw _ fun a1 w1 h1 h2 => .inr ⟨h1, h2⟩)
/-- A call by its contract. -/
theorem wp_call {o : Oper} {a : Act} {w : World} {K : Act → World → Prop} (f : FuncId) (args : Array Value) (hx : (execOp a.eval o).run P w = .ok (.enter f args) w)
    (h : Calls P f args w fun e w1 => ∃ v, e = .returned v ∧ K (a.put o.dst v) w1) : o.wp P a w K Q := by
  unfold Oper.wp
  rw [hx]
  simp only [Oper.upon]
  refine h.mono ?_
  rintro e w1 ⟨v, rfl, hk⟩
  exact hk

end
end WageReg
