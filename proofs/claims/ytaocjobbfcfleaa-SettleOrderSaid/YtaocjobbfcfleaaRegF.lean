/-
  Regions that draw their order, whose last operations write: before those all is taken in every grown world, behind them the world is the world.
-/
import Derived.Test.YtaocjobbfcfleaaRegB
namespace WageReg
open Go
section
variable {P : Program} {ops : Array Oper} {Q : Exit → Act → World → Prop} {md : Region.Mode} {G : World → World → Prop}

def sparesF (md : Region.Mode) (ops : Array Oper) (F : List Nat) (i : Nat) : Bool := F.all fun m => i != m && reaches md ops i ops.size m
/-- Whatever order is picked, and whatever is made in memory between two operations; from the operations F on the rest goes by 'wpAny'. -/
def wpAnyF (P : Program) (md : Region.Mode) (ops : Array Oper) (Q : Exit → Act → World → Prop) (G : World → World → Prop) (F : List Nat) : Nat → Array Bool → Act → World → Prop
  | 0, listed, a, w => Region.ready md ops listed = [] ∧ ∀ w', G w w' → Q .normal a w'
  | fuel + 1, listed, a, w => ∀ w', G w w' →
    (Region.ready md ops listed = [] → Q .normal a w') ∧
    ∀ i ∈ Region.ready md ops listed, wpOp P ops Q i (fun a1 w1 => (i ∈ F ∧ wpAny P md ops Q fuel (listed.setIfInBounds i true) a1 w1) ∨
      (G w' w1 ∧ wpAnyF P md ops Q G F fuel (listed.setIfInBounds i true) a1 w1)) a w'
variable {F : List Nat}
theorem wpAnyF.mono (ht : ∀ a b c, G a b → G b c → G a c) {a : Act} {w w1 : World} (hg : G w w1) : ∀ {fuel : Nat} {listed : Array Bool}, wpAnyF P md ops Q G F fuel listed a w → wpAnyF P md ops Q G F fuel listed a w1
  | 0, _, h => ⟨h.1, fun w' h' => h.2 w' (ht _ _ _ hg h')⟩
  | _ + 1, _, h => fun w' h' => h w' (ht _ _ _ hg h')
theorem wpAny_of_F (hr : ∀ a, G a a) : ∀ (fuel : Nat) (listed : Array Bool) (a : Act) (w : World), wpAnyF P md ops Q G F fuel listed a w → wpAny P md ops Q fuel listed a w
  | 0, _, _, w, h => ⟨h.1, h.2 w (hr w)⟩
  | fuel + 1, _, _, w, h => ⟨(h w (hr w)).1, fun i hi => wpOp_mono (fun a' w' h' => h'.elim (fun h1 => h1.2) (fun h1 => wpAny_of_F hr fuel _ a' w' h1.2)) ((h w (hr w)).2 i hi)⟩
/-- An operation that may come up now, yields one value in every grown world and only makes memory may be taken first. -/
theorem wpAnyF_first (hr0 : ∀ a, G a a) (ht : ∀ a b c, G a b → G b c → G a c) {i : Nat} {oi : Oper} {v : Value} (hi : ops[i]? = some oi) (hsel : ∀ (j : Nat) (o : Oper) cs b, ops[j]? = some o → o.op ≠ .select cs b)
    (hQ : ∀ c a w, Q (.panic c) (a.put oi.dst v) w → Q (.panic c) a w) (hsp : sparesF md ops F i = true) :
    ∀ (fuel : Nat) (listed : Array Bool) (a : Act) (w : World), Closed md ops listed →
      (∀ j oj, ops[j]? = some oj → j ≠ i → listed.getD j true = false → (∀ e ∈ oj.after, Region.binds md e = true → e.on ≠ i) → oi.apart ops oj = true) →
      i ∈ Region.ready md ops listed → YieldsG P ops G oi v a w →
      wpAnyF P md ops Q G F fuel (listed.setIfInBounds i true) (a.put oi.dst v) w → wpAnyF P md ops Q G F (fuel + 1) listed a w := by
  intro fuel
  induction fuel with
  | zero =>
    intro listed a w _ _ hr hy H w' hg
    refine ⟨fun h => (by rw [h] at hr; cases hr), fun j hj => ?_⟩
    by_cases hji : j = i
    · subst hji
      exact hy.wpOp hi hr0 hg (fun w1 h1 => .inr ⟨h1, H.1, fun w2 h2 => H.2 w2 (ht _ _ _ hg (ht _ _ _ h1 h2))⟩)
    · have := ready_mono hj hji
      rw [H.1] at this
      cases this
  | succ fuel ih =>
    intro listed a w hcl hfree hr hy H w' hg
    refine ⟨fun h => (by rw [h] at hr; cases hr), fun j hj => ?_⟩
    by_cases hji : j = i
    · subst hji
      exact hy.wpOp hi hr0 hg (fun w1 h1 => .inr ⟨h1, wpAnyF.mono ht (ht _ _ _ hg h1) H⟩)
    · have h1 := (H w' hg).2 j (ready_mono hj hji)
      obtain ⟨hjun, oj, hoj, hall⟩ := mem_ready.1 hj
      have hnoti : listed.getD i false ≠ true := by
        have h0 := (mem_ready.1 hr).1
        rcases Nat.lt_or_ge i listed.size with h' | h'
        · simp [h'] at h0 ⊢; exact h0
        · simp [Array.getElem?_eq_none h']
      have hnot : ∀ e ∈ oj.after, Region.binds md e = true → e.on ≠ i := fun e he hb heq => by
        have h1 := hall e he hb
        rw [heq] at h1
        exact hnoti h1
      have hjm : j ∉ F := by
        intro hj'
        unfold sparesF at hsp
        have := List.all_eq_true.1 hsp j hj'
        simp only [Bool.and_eq_true] at this
        exact hnoti (reaches_listed hcl this.2 hoj hall)
      have h2 := wpOp_putG hoj (hfree j oj hoj hji hjun hnot) (fun cs b => hsel i oi cs b hi) (fun cs b => hsel j oj cs b hoj) hQ hy h1
      have hfree' : ∀ k ok, ops[k]? = some ok → k ≠ i → (listed.setIfInBounds j true).getD k true = false →
          (∀ e ∈ ok.after, Region.binds md e = true → e.on ≠ i) → oi.apart ops ok = true := fun k ok hk hki hun hno => by
        refine hfree k ok hk hki ?_ hno
        by_cases hjk : j = k
        · subst hjk; exact hjun
        · rw [getD_set_ne true hjk] at hun; exact hun
      refine wpOp_mono (fun a' w1 h3 => ?_) h2
      obtain ⟨hy', h4⟩ := h3
      rcases h4 with ⟨hjm', _⟩ | ⟨hg1, h4⟩
      · exact absurd hjm' hjm
      · refine .inr ⟨hg1, ih (listed.setIfInBounds j true) a' w1 (hcl.set hj) hfree' (ready_mono hr (Ne.symm hji)) (hy'.mono ht (ht _ _ _ hg hg1)) ?_⟩
        rw [Array.setIfInBounds_comm _ _ hji]
        exact h4

def mayTakeF (md : Region.Mode) (ops : Array Oper) (F : List Nat) (listed : Array Bool) (i : Nat) : Bool :=
  Region.noSelect ops && Region.free md ops listed i && (Region.ready md ops listed).contains i && sparesF md ops F i && closedB md ops listed
def mayTakesF (md : Region.Mode) (ops : Array Oper) (F : List Nat) : Array Bool → List Nat → Bool
  | _, [] => true
  | l, i :: is => mayTakeF md ops F l i && mayTakesF md ops F (l.setIfInBounds i true) is
theorem wpAnyF_take (hr0 : ∀ a, G a a) (ht : ∀ a b c, G a b → G b c → G a c) {i : Nat} {oi : Oper} {v : Value} {fuel : Nat} {listed : Array Bool} {a : Act} {w : World} (hi : ops[i]? = some oi)
    (hm : mayTakeF md ops F listed i = true)
    (hQ : ∀ c a w, Q (.panic c) (a.put oi.dst v) w → Q (.panic c) a w) (hy : YieldsG P ops G oi v a w)
    (h : wpAnyF P md ops Q G F fuel (listed.setIfInBounds i true) (a.put oi.dst v) w) : wpAnyF P md ops Q G F (fuel + 1) listed a w := by
  simp only [mayTakeF, Bool.and_eq_true] at hm
  obtain ⟨⟨⟨⟨hs, hf⟩, hr⟩, hsp⟩, hc⟩ := hm
  exact wpAnyF_first hr0 ht hi (Region.noSelect_spec hs) hQ hsp fuel listed a w (closedB_spec hc) (Region.free_spec hi hf) (by simpa using hr) hy h
theorem wpAnyF_takes_aux (hr0 : ∀ a, G a a) (ht : ∀ a b c, G a b → G b c → G a c) (hQ : ∀ (d : Tmp) (v : Value) c a w, Q (.panic c) (a.put (some d) v) w → Q (.panic c) a w) {fuel : Nat} {w : World} :
    ∀ (is : List Nat) (listed : Array Bool) (a : Act), mayTakesF md ops F listed is = true →
      TakeAll P ops G w (pickOps ops is) a (fun a' => wpAnyF P md ops Q G F fuel (setAll listed is) a' w) → wpAnyF P md ops Q G F (fuel + is.length) listed a w
  | [], _, _, _, h => h
  | i :: is, listed, a, hm, h => by
    simp only [mayTakesF, Bool.and_eq_true] at hm
    cases ho : ops[i]? with
    | none =>
      have h1 := hm.1
      simp [mayTakeF, Region.free, ho] at h1
    | some o =>
      simp only [pickOps, ho] at h
      obtain ⟨v, hy, h⟩ := h
      exact wpAnyF_take hr0 ht ho hm.1 (by cases o.dst with | none => exact fun _ _ _ h => h | some d => exact hQ d v) hy (wpAnyF_takes_aux hr0 ht hQ is _ _ hm.2 h)
theorem wpAnyF_takes (hr0 : ∀ a, G a a) (ht : ∀ a b c, G a b → G b c → G a c) (hQ : ∀ (d : Tmp) (v : Value) c a w, Q (.panic c) (a.put (some d) v) w → Q (.panic c) a w) {fuel fuel' : Nat} {w : World} {listed : Array Bool} {a : Act}
    (is : List Nat) (hf : fuel = fuel' + is.length) (hm : mayTakesF md ops F listed is = true) {l : List Oper} (hl : pickOps ops is = l)
    (h : TakeAll P ops G w l a (fun a' => wpAnyF P md ops Q G F fuel' (setAll listed is) a' w)) : wpAnyF P md ops Q G F fuel listed a w := by
  subst hf hl
  exact wpAnyF_takes_aux hr0 ht hQ is listed a hm h
theorem wpAnyF_all {rs : List Nat} {fuel : Nat} {listed : Array Bool} {a : Act} {w : World} (hr : Region.ready md ops listed = rs) (hne : rs ≠ [])
    (h : ∀ w', G w w' → ∀ i ∈ rs, wpOp P ops Q i (fun a1 w1 => (i ∈ F ∧ wpAny P md ops Q fuel (listed.setIfInBounds i true) a1 w1) ∨
      (G w' w1 ∧ wpAnyF P md ops Q G F fuel (listed.setIfInBounds i true) a1 w1)) a w') : wpAnyF P md ops Q G F (fuel + 1) listed a w :=
  fun w' hg => ⟨fun h0 => absurd (hr ▸ h0) hne, hr ▸ h w' hg⟩
theorem wpAnyF_step {i : Nat} {o : Oper} {fuel fuel' : Nat} {listed : Array Bool} {a : Act} {w : World} (hr : Region.ready md ops listed = [i]) (hf : fuel = fuel' + 1) (ho : pickOps ops [i] = [o]) (hw : Region.wanted o (yielded ops a.tmps) = true)
    (h : ∀ w', G w w' → ∀ K : Act → World → Prop, (∀ a1 w1, G w' w1 → wpAnyF P md ops Q G F fuel' (listed.setIfInBounds i true) a1 w1 → K a1 w1) → o.wp P a w' K Q) : wpAnyF P md ops Q G F fuel listed a w := by
  subst hf
  refine wpAnyF_all hr (by simp) fun w' hw' j hj => ?_
  obtain rfl : j = i := by simpa using hj
  unfold wpOp
  simp only [pick_one ho, hw, if_true]
  exact .inl (h w' hw' _ fun a1 w1 h1 h2 => .inr ⟨h1, h2⟩)
theorem wpAnyF_two {i j : Nat} {o1 o2 : Oper} {fuel fuel' : Nat} {listed : Array Bool} {a : Act} {w : World} (hr : Region.ready md ops listed = [i, j]) (hf : fuel = fuel' + 1) (ho1 : pickOps ops [i] = [o1]) (hg1 : o1.guard = none) (ho2 : pickOps ops [j] = [o2]) (hg2 : o2.guard = none)
    (h1 : ∀ w', G w w' → ∀ K : Act → World → Prop, (∀ a1 w1, G w' w1 → wpAnyF P md ops Q G F fuel' (listed.setIfInBounds i true) a1 w1 → K a1 w1) → o1.wp P a w' K Q)
    (h2 : ∀ w', G w w' → ∀ K : Act → World → Prop, (∀ a1 w1, G w' w1 → wpAnyF P md ops Q G F fuel' (listed.setIfInBounds j true) a1 w1 → K a1 w1) → o2.wp P a w' K Q) : wpAnyF P md ops Q G F fuel listed a w := by
  subst hf
  refine wpAnyF_all hr (by simp) fun w' hw k hk => ?_
  simp only [List.mem_cons, List.not_mem_nil, or_false] at hk
  unfold wpOp
  rcases hk with rfl | rfl
  · simp only [pick_one ho1, Region.wanted, hg1, if_true]
    exact .inl (h1 w' hw _ fun a1 w1 h1 h2 => .inr ⟨h1, h2⟩)
  · simp only [pick_one ho2, Region.wanted, hg2, if_true]
    exact .inl (h2 w' hw _ fun a1 w1 h1 h2 => .inr ⟨h1, h2⟩)
/-- The last operations are reached. -/
theorem wpAnyF_phase (hr0 : ∀ a, G a a) {fuel : Nat} {listed : Array Bool} {a : Act} {w : World} (hne : Region.ready md ops listed ≠ []) (hF : (Region.ready md ops listed).all (F.contains ·) = true) (h : ∀ w', G w w' → wpAny P md ops Q fuel listed a w') : wpAnyF P md ops Q G F fuel listed a w := by
  cases fuel with
  | zero => exact absurd (h w (hr0 w)).1 hne
  | succ fuel =>
    intro w' hg
    refine ⟨(h w' hg).1, fun i hi => wpOp_mono (fun a1 w1 h1 => .inl ⟨?_, h1⟩) ((h w' hg).2 i hi)⟩
    have := List.all_eq_true.1 hF i hi
    simpa using this
theorem wp_region_F {id : Nat} {a : Act} {w : World} (hm : P.follows .mixedOrders = true) (hr0 : ∀ a, G a a) (F : List Nat)
    (h : wpAnyF P .any ops Q G F ops.size (Array.replicate ops.size false) a w.drew) : (Code.region id ops true).wp P Q a w :=
  wp_region_any hm (wpAny_of_F hr0 _ _ _ _ h)

/-- One operation alone, in the world as it is. -/
theorem wpAny_step {i : Nat} {o : Oper} {fuel fuel' : Nat} {listed : Array Bool} {a : Act} {w : World} (hr : Region.ready md ops listed = [i]) (hf : fuel = fuel' + 1) (ho : pickOps ops [i] = [o]) (hw : Region.wanted o (yielded ops a.tmps) = true)
    (h : ∀ K : Act → World → Prop, (∀ a1 w1, wpAny P md ops Q fuel' (listed.setIfInBounds i true) a1 w1 → K a1 w1) → o.wp P a w K Q) : wpAny P md ops Q fuel listed a w := by
  subst hf
  refine wpAny_all hr (by simp) fun j hj => ?_
  obtain rfl : j = i := by simpa using hj
  unfold wpOp
  simp only [pick_one ho, hw, if_true]
  exact .inl (h _ fun a1 w1 h1 => h1)
/-- Two operations, whichever first, in the world as it is. -/
theorem wpAny_two {i j : Nat} {o1 o2 : Oper} {fuel fuel' : Nat} {listed : Array Bool} {a : Act} {w : World} (hr : Region.ready md ops listed = [i, j]) (hf : fuel = fuel' + 1) (ho1 : pickOps ops [i] = [o1]) (hg1 : o1.guard = none) (ho2 : pickOps ops [j] = [o2]) (hg2 : o2.guard = none)
    (h1 : ∀ K : Act → World → Prop, (∀ a1 w1, wpAny P md ops Q fuel' (listed.setIfInBounds i true) a1 w1 → K a1 w1) → o1.wp P a w K Q)
    (h2 : ∀ K : Act → World → Prop, (∀ a1 w1, wpAny P md ops Q fuel' (listed.setIfInBounds j true) a1 w1 → K a1 w1) → o2.wp P a w K Q) : wpAny P md ops Q fuel listed a w := by
  subst hf
  refine wpAny_all hr (by simp) fun k hk => ?_
  simp only [List.mem_cons, List.not_mem_nil, or_false] at hk
  unfold wpOp
  rcases hk with rfl | rfl
  · simp only [pick_one ho1, Region.wanted, hg1, if_true]
    exact .inl (h1 _ fun a1 w1 h => h)
  · simp only [pick_one ho2, Region.wanted, hg2, if_true]
    exact .inl (h2 _ fun a1 w1 h => h)
end
end WageReg
