/-
  Answers in any order, round by round, in plain words.
-/
import Derived.Test.YtaocjobbfcfleaaLawP
namespace WageSet
open WageOrd WageMap

/-- Ahead of a round. -/
structure Out (d W : Desk) (ans : List Ans) (r : Nat) (now : Desk) (left : List Ans) : Prop where
  rnd : Rnd (paysOf d) W ans r now left []
  two : 1 ≤ r → left = [] ∨ 2 ≤ ans.length
  done : 2 ≤ r → left = []
  sub : ∀ x ∈ d.an, x ∈ now.an
/-- In a round. -/
structure Inn (d W : Desk) (ans : List Ans) (r : Nat) (now : Desk) (rest later : List Ans) : Prop where
  rnd : Rnd (paysOf d) W ans r now rest later
  two : later = [] ∨ 2 ≤ ans.length
  sub : ∀ x ∈ d.an, x ∈ now.an
theorem Out.inn {d W : Desk} {ans : List Ans} {r : Nat} {now : Desk} {left : List Ans} (h : Out d W ans r now left) : Inn d W ans r now left [] := ⟨h.rnd, .inl rfl, h.sub⟩
theorem two_of {l : List Ans} {a b : Ans} (ha : a ∈ l) (hb : b ∈ l) (h : a ≠ b) : 2 ≤ l.length := by
  match l, ha, hb with
  | [], ha, _ => cases ha
  | [x], ha, hb => exact absurd ((List.mem_singleton.1 ha).trans (List.mem_singleton.1 hb).symm) h
  | _ :: _ :: _, _, _ => simp
theorem Inn.step {d W : Desk} {ans : List Ans} {r : Nat} {now : Desk} {a : Ans} {rest later : List Ans} (hW : ∀ x, x ∈ W.an ↔ x ∈ ans ∨ x ∈ d.an) (h : Inn d W ans r now (a :: rest) later) :
    (applyE now a = 0 ∧ Inn d W ans r (applyD now a) rest later) ∨ (applyE now a = 401 ∧ Inn d W ans r now rest (later ++ [a])) := by
  rcases rnd_step hW h.sub h.rnd with ⟨h1, h2, h3⟩ | ⟨h1, h2⟩
  · exact .inl ⟨h1, h2, h.two, h3⟩
  · refine .inr ⟨h1, h2, .inr ?_, h.sub⟩
    have hain := h.rnd.restIn a List.mem_cons_self
    rcases mid_step h.rnd.mid ((hW a).2 (.inl hain)) with ⟨h4, _⟩ | ⟨_, hk, x, hx, hx2, hxn⟩
    · rw [h4] at h1; cases h1
    · rcases (hW x).1 hx with h5 | h5
      · exact two_of hain h5 (fun e => by subst e; omega)
      · exact absurd (h.sub x h5) hxn
theorem Inn.out {d W : Desk} {ans : List Ans} {r : Nat} {now : Desk} {later : List Ans} (h : Inn d W ans r now [] later) : Out d W ans (r + 1) now later :=
  ⟨rnd_next h.rnd, fun _ => h.two, fun hr => h.rnd.none_ (by omega), h.sub⟩
theorem Out.fin {d W : Desk} {ans : List Ans} {now : Desk} {left : List Ans} (hW : ∀ x, x ∈ W.an ↔ x ∈ ans ∨ x ∈ d.an) (h : Out d W ans ans.length now left) : left = [] ∧ now = W := by
  have hl : left = [] := by
    by_cases h0 : ans.length = 0
    · have := h.rnd.len
      exact List.eq_nil_of_length_eq_zero (by omega)
    · by_cases h1 : 2 ≤ ans.length
      · exact h.done h1
      · rcases h.two (by omega) with h2 | h2
        · exact h2
        · exact absurd h2 h1
  subst hl
  exact ⟨rfl, rnd_end hW h.sub h.rnd⟩
theorem Out.begin {d W : Desk} {ans left : List Ans} (hv : validB d = true) (hc : Chain d ans W) (hl : d.an.length ≤ 60) (ha : ans.length ≤ 12) (hp : left.Perm ans) : Out d W ans 0 d left :=
  ⟨rnd_begin hv hc hl ha hp, fun h => by omega, fun h => by omega, fun _ h => h⟩
theorem Chain.next {d x : Desk} {ans : List Ans} {k : Nat} {a : Ans} (h : Chain d (ans.take k) x) (ha : ans[k]? = some a) (he : applyE x a = 0) : Chain d (ans.take (k + 1)) (applyD x a) := by
  rw [List.take_add_one, ha]
  exact .snoc h he
/-- Two elements are exchanged, then the first one goes to the end. -/
def swapA (l : List Ans) (j : Nat) (x y : Ans) : List Ans := (l.set 0 y).set j x
theorem set_perm : ∀ {l : List Ans} {j : Nat} {x y : Ans}, l[j]? = some y → (l.set j x).Perm (x :: l.eraseIdx j)
  | [], j, x, y, h => by simp at h
  | a :: l, 0, x, y, h => by simp
  | a :: l, j + 1, x, y, h => by
    simp only [List.set_cons_succ, List.eraseIdx_cons_succ]
    exact ((set_perm (x := x) (show l[j]? = some y by simpa using h)).cons a).trans (List.Perm.swap x a _)
theorem get_perm : ∀ {l : List Ans} {j : Nat} {y : Ans}, l[j]? = some y → (y :: l.eraseIdx j).Perm l
  | [], j, y, h => by simp at h
  | a :: l, 0, y, h => by simp at h; subst h; simp
  | a :: l, j + 1, y, h => by
    simp only [List.eraseIdx_cons_succ]
    exact (List.Perm.swap a y _).trans ((get_perm (show l[j]? = some y by simpa using h)).cons a)
theorem swap_perm {x : Ans} {l : List Ans} {j : Nat} {y : Ans} (h : (x :: l)[j]? = some y) : (swapA (x :: l) j x y).Perm (x :: l) := by
  unfold swapA
  cases j with
  | zero => simp
  | succ j =>
    have h' : l[j]? = some y := by simpa using h
    simp only [List.set_cons_zero, List.set_cons_succ]
    exact ((set_perm (x := x) h').cons y).trans ((List.Perm.swap x y _).trans ((get_perm h').cons x))
theorem rot_perm (x : Ans) (l : List Ans) : (l ++ [x]).Perm (x :: l) := List.perm_append_singleton x l
end WageSet
