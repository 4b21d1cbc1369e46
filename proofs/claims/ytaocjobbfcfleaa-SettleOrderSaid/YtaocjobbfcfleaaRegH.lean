/-
  Regions that draw their order and write: what only reads is taken first, under a condition that all operations keep; the rest goes step by step in the world as it is.
-/
import Derived.Test.YtaocjobbfcfleaaRegF
namespace WageReg
open Go
section
variable {P : Program} {ops : Array Oper} {Q : Exit → Act → World → Prop} {md : Region.Mode} {S : World → Prop}
/-- A row of operations, each of which yields one value in every world that meets S and leaves it alone. -/
def TakeP (P : Program) (ops : Array Oper) (S : World → Prop) : List Oper → Act → (Act → Prop) → Prop
  | [], a, F => F a
  | o :: rest, a, F => ∃ v, YieldsIf P ops S o v a ∧ TakeP P ops S rest (a.put o.dst v) F
theorem TakeP.nil {a : Act} {F : Act → Prop} (h : F a) : TakeP P ops S [] a F := h
theorem TakeP.pure {o : Oper} {rest : List Oper} {a : Act} {F : Act → Prop} {v : Value} (hw : Region.wanted o (yielded ops a.tmps) = true) (h : ∀ w', S w' → (execOp a.eval o).run P w' = .ok (.value v) w')
    (k : TakeP P ops S rest (a.put o.dst v) F) : TakeP P ops S (o :: rest) a F := ⟨v, .inl ⟨hw, h⟩, k⟩
theorem TakeP.skip {o : Oper} {rest : List Oper} {a : Act} {F : Act → Prop} (hw : Region.wanted o (yielded ops a.tmps) = false)
    (k : TakeP P ops S rest (a.put o.dst undef) F) : TakeP P ops S (o :: rest) a F := ⟨undef, .inr ⟨hw, rfl⟩, k⟩
def mayTakesH (md : Region.Mode) (ops : Array Oper) : Array Bool → List Nat → Bool
  | _, [] => true
  | l, i :: is => Region.noSelect ops && Region.free md ops l i && (Region.ready md ops l).contains i && mayTakesH md ops (l.setIfInBounds i true) is
theorem wpAnyH_takes_aux (hQ : ∀ (d : Tmp) (v : Value) c a w, Q (.panic c) (a.put (some d) v) w → Q (.panic c) a w) {fuel : Nat} {w : World} (hS : S w) :
    ∀ (is : List Nat) (listed : Array Bool) (a : Act), mayTakesH md ops listed is = true →
      TakeP P ops S (pickOps ops is) a (fun a' => wpAnyH P md ops Q S fuel (setAll listed is) a' w) → wpAnyH P md ops Q S (fuel + is.length) listed a w
  | [], _, _, _, h => h
  | i :: is, listed, a, hm, h => by
    simp only [mayTakesH, Bool.and_eq_true] at hm
    obtain ⟨⟨⟨hs, hf⟩, hr⟩, hm2⟩ := hm
    cases ho : ops[i]? with
    | none => simp [Region.free, ho] at hf
    | some o =>
      simp only [pickOps, ho] at h
      obtain ⟨v, hy, h⟩ := h
      exact wpAnyH_take ho hs hf hr (by cases o.dst with | none => exact fun _ _ _ h => h | some d => exact hQ d v) hy hS (wpAnyH_takes_aux hQ hS is _ _ hm2 h)
theorem wpAnyH_takes (hQ : ∀ (d : Tmp) (v : Value) c a w, Q (.panic c) (a.put (some d) v) w → Q (.panic c) a w) {fuel fuel' : Nat} {w : World} {listed : Array Bool} {a : Act} (hS : S w)
    (is : List Nat) (hf : fuel = fuel' + is.length) (hm : mayTakesH md ops listed is = true) {l : List Oper} (hl : pickOps ops is = l)
    (h : TakeP P ops S l a (fun a' => wpAnyH P md ops Q S fuel' (setAll listed is) a' w)) : wpAnyH P md ops Q S fuel listed a w := by
  subst hf hl
  exact wpAnyH_takes_aux hQ hS is listed a hm h
theorem wp_region_H {id : Nat} {a : Act} {w : World} (hm : P.follows .mixedOrders = true) (S : World → Prop)
    (h : wpAnyH P .any ops Q S ops.size (Array.replicate ops.size false) a w.drew) : (Code.region id ops true).wp P Q a w := wp_region_held hm h
theorem wpAnyH_step {i : Nat} {o : Oper} {fuel fuel' : Nat} {listed : Array Bool} {a : Act} {w : World} (hr : Region.ready md ops listed = [i]) (hf : fuel = fuel' + 1) (ho : pickOps ops [i] = [o]) (hw : Region.wanted o (yielded ops a.tmps) = true)
    (h : ∀ K : Act → World → Prop, (∀ a1 w1, S w1 → wpAnyH P md ops Q S fuel' (listed.setIfInBounds i true) a1 w1 → K a1 w1) → o.wp P a w K Q) : wpAnyH P md ops Q S fuel listed a w := by
  subst hf
  refine wpAnyH_all hr (by simp) fun j hj => ?_
  obtain rfl : j = i := by simpa using hj
  unfold wpOp
  simp only [pick_one ho, hw, if_true]
  exact .inl (h _ fun a1 w1 h1 h2 => ⟨h1, h2⟩)
theorem wpAnyH_two {i j : Nat} {o1 o2 : Oper} {fuel fuel' : Nat} {listed : Array Bool} {a : Act} {w : World} (hr : Region.ready md ops listed = [i, j]) (hf : fuel = fuel' + 1) (ho1 : pickOps ops [i] = [o1]) (hg1 : o1.guard = none) (ho2 : pickOps ops [j] = [o2]) (hg2 : o2.guard = none)
    (h1 : ∀ K : Act → World → Prop, (∀ a1 w1, S w1 → wpAnyH P md ops Q S fuel' (listed.setIfInBounds i true) a1 w1 → K a1 w1) → o1.wp P a w K Q)
    (h2 : ∀ K : Act → World → Prop, (∀ a1 w1, S w1 → wpAnyH P md ops Q S fuel' (listed.setIfInBounds j true) a1 w1 → K a1 w1) → o2.wp P a w K Q) : wpAnyH P md ops Q S fuel listed a w := by
  subst hf
  refine wpAnyH_all hr (by simp) fun k hk => ?_
  simp only [List.mem_cons, List.not_mem_nil, or_false] at hk
  unfold wpOp
  rcases hk with rfl | rfl
  · simp only [pick_one ho1, Region.wanted, hg1, if_true]
    exact .inl (h1 _ fun a1 w1 h1 h2 => ⟨h1, h2⟩)
  · simp only [pick_one ho2, Region.wanted, hg2, if_true]
    exact .inl (h2 _ fun a1 w1 h1 h2 => ⟨h1, h2⟩)
end
end WageReg
