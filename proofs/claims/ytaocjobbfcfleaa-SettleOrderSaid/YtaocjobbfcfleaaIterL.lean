/-
  How many entries of a map are still to come, read off the world.
-/
import Derived.Test.YtaocjobbfcfleaaMapL
namespace WageMap
open Go Go.RowKit WageMem
variable {κ β : Type} {ek : κ → Value} {ev : β → Value} {w : World} {r b : Nat} {m rest : List (κ × β)}
def iterLeft (w : World) (b r : Nat) : Nat :=
  match w.heap[b]?, w.heap[r]? with
  | some (.map es _), some (.mapIter _ _ seen _) => (leftOf es seen).size
  | _, _ => 0
theorem IterIs.left (h : IterIs ek ev w r b m rest) : iterLeft w b r = rest.length := by
  obtain ⟨es, clock, since, seen, h1, h2, _, _, _, _, L, hL, hr⟩ := h
  unfold iterLeft
  rw [h1, h2]
  have e1 := hL.length_eq
  have e2 := congrArg List.length hr
  simp at e1 e2
  simp only
  omega
theorem erase_perm {α : Type} : ∀ {l : List α} {i : Nat} {x : α}, l[i]? = some x → (x :: l.eraseIdx i).Perm l
  | [], i, x, h => by simp at h
  | y :: l, 0, x, h => by simp at h; subst h; simp
  | y :: l, i + 1, x, h => by
    have h' : l[i]? = some x := by simpa using h
    simp only [List.eraseIdx_cons_succ]
    exact (List.Perm.swap y x _).trans ((erase_perm h').cons y)
end WageMap
