/-
  Slices of structs while a map is written.
-/
import Derived.Test.YtaocjobbfcfleaaIterL
import Derived.Test.YtaocjobbfcfleaaRec
namespace WageMap
open Go Go.RowKit WageMem WageRec
variable {κ β α : Type} {ek : κ → Value} {ev : β → Value} {w w' : World} {r b : Nat} {m rest : List (κ × β)} {enc : α → List Value} {size : Nat} {A : Option Addr} {n c : Nat} {l : List α}
theorem cell_ne_map {p : Addr} {v : Value} (hc : w.cell? p = some v) (hm : MapIs ek ev w b m) : p.block ≠ b := by
  obtain ⟨es, clock, hb, _⟩ := hm
  obtain ⟨o, ho, ho2⟩ := cells_of_cell hc
  rintro rfl
  rw [hb] at ho
  injection ho with ho
  subst ho
  cases ho2
theorem cell_ne_iter {p : Addr} {v : Value} (hc : w.cell? p = some v) (hm : IterIs ek ev w r b m rest) : p.block ≠ r := by
  obtain ⟨es, clock, since, seen, hb, hr, _⟩ := hm
  obtain ⟨o, ho, ho2⟩ := cells_of_cell hc
  rintro rfl
  rw [hr] at ho
  injection ho with ho
  subst ho
  cases ho2
theorem recs_kept (h : Recs enc size w A n c l) (g : w.grownBy w' (some b)) (hne : ∀ p v, w.cell? p = some v → p.block ≠ b) : Recs enc size w' A n c l := by
  obtain ⟨h1, h2, h3, h4, h5, h6⟩ := h
  refine ⟨h1, h2, h3, h4, fun hx => ?_, h6⟩
  obtain ⟨b', o, e, hc⟩ := h5 hx
  exact ⟨b', o, e, fun j u hu => g.cell (hc j u hu) (fun e => hne _ _ (hc j u hu) (by injection e))⟩
end WageMap
