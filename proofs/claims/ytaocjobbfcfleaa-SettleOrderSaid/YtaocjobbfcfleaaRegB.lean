/-
  Regions that draw their order: an operation behind a guard, alone.
-/
import Derived.Test.YtaocjobbfcfleaaReg
namespace WageReg
open Go
variable {P : Program} {ops : Array Oper} {Q : Exit → Act → World → Prop} {md : Region.Mode} {G : World → World → Prop} {m : Nat}
/-- One operation alone may come up, and it is wanted. -/
theorem wpAnyG_stepW {i : Nat} {o : Oper} {fuel fuel' : Nat} {listed : Array Bool} {a : Act} {w : World} (hr : Region.ready md ops listed = [i]) (hf : fuel = fuel' + 1) (ho : pickOps ops [i] = [o]) (hw : Region.wanted o (yielded ops a.tmps) = true)
    (h : ∀ w', G w w' → ∀ K : Act → World → Prop, (∀ a1 w1, G w' w1 → wpAnyG P md ops Q G m fuel' (listed.setIfInBounds i true) a1 w1 → K a1 w1) → o.wp P a w' K Q) : wpAnyG P md ops Q G m fuel listed a w := by
  subst hf
  refine wpAnyG_all hr (by simp) fun w' hw' j hj => ?_
  obtain rfl : j = i := by simpa using hj
  unfold wpOp
  simp only [pick_one ho, hw, if_true]
  exact .inl (h w' hw' _ fun a1 w1 h1 h2 => .inr ⟨h1, h2⟩)
end WageReg
