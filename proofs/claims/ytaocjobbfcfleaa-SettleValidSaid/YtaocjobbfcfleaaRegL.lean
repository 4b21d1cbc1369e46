/-
  A region that is not drawn, all of whose operations yield one value in every grown world: one walk.
-/
import Derived.Test.YtaocjobbfcfleaaReg
import Derived.Tactics
namespace WageReg
open Go
section
variable {P : Program} {ops : Array Oper} {G : World → World → Prop} {Q : Exit → Act → World → Prop}
theorem wpList_of_takes (ht : ∀ a b c, G a b → G b c → G a c) {w0 : World} : ∀ (l : List Oper) (a : Act) (w : World), G w0 w →
    TakeAll P ops G w0 l a (fun a' => ∀ w', G w0 w' → Q .normal a' w') → wpList P ops Q l a w
  | [], a, w, hg, h => h w hg
  | o :: rest, a, w, hg, h => by
    obtain ⟨v, hy, hk⟩ := h
    have ih := fun w1 (h1 : G w0 w1) => wpList_of_takes ht rest (a.put o.dst v) w1 h1 hk
    unfold wpList
    rcases hy with ⟨hw, hv⟩ | ⟨hw, rfl⟩ | ⟨hw, f, args, hx, hv⟩
    · simp only [hw, if_true, Oper.wp, hv w hg, Oper.upon]; exact .inl (ih w hg)
    · simp only [hw, Bool.false_eq_true, if_false]; exact ih w hg
    · simp only [hw, if_true, Oper.wp, hx w, Oper.upon]
      refine .inl ((hv w hg).mono ?_)
      rintro e w1 ⟨rfl, h1⟩
      exact ih w1 (ht _ _ _ hg h1)
theorem wp_region_plain {id : Nat} {l : List Oper} {a : Act} {w : World} (hr0 : ∀ a, G a a) (ht : ∀ a b c, G a b → G b c → G a c)
    (h : TakeAll P l.toArray G w l a (fun a' => ∀ w', G w w' → Q .normal a' w')) : (Code.region id l.toArray false).wp P Q a w :=
  wp_region_lit (wpList_of_takes ht l a w (hr0 w) h)
end
end WageReg
