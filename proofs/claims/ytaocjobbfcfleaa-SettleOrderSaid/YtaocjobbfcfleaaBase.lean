/-
  Slices of payments, answers, standings and entries; desks.
-/
import Derived.Test.YtaocjobbfcfleaaForm
import Derived.Test.YtaocjobbfcfleaaReg
import Derived.Test.YtaocjobbfcfleaaRegH
import Derived.Test.YtaocjobbfcfleaaMapR
import Derived.Laws.StructEq
import Derived.Laws.EntriesVeiled
import Derived.WideLaws
import Derived.Laws.ResultCell
import Derived.Laws.Tables
import Derived.Deep.Cut
import Derived.WalkSpells
import Derived.WalkLawsBesides
import Derived.KernelRfl
namespace Go.Proofs.Ytaocjobbfcfleaa
open Go.RowKit Go.Proofs WageMem WageOrd WageRec WageMap WageReg WageSet

theorem info43 : (Try.prog.info? 43).map (fun i => (i.zero, i.size, i.bytes)) = some (some (.agg #[.int .i64 0, .string ByteArray.empty, .int .i64 0, .int .i64 0, .int .i64 0, .int .i64 0, .int .i64 0]), 7, 64) := by kernel_rfl
theorem info29 : (Try.prog.info? 29).map (fun i => (i.zero, i.size, i.bytes)) = some (some (.agg #[.int .i64 0, .int .i64 0, .int .i64 0, .int .i64 0, .int .i64 0]), 5, 40) := by kernel_rfl
theorem info27 : (Try.prog.info? 27).map (fun i => (i.zero, i.size, i.bytes)) = some (some (.agg #[.int .i64 0, .string ByteArray.empty, .int .i64 0, .int .i64 0]), 4, 40) := by kernel_rfl
theorem info50 : (Try.prog.info? 50).map (fun i => (i.zero, i.size, i.bytes)) = some (some (.agg #[.int .i64 0, .string ByteArray.empty, .string ByteArray.empty, .int .i64 0, .int .i64 0, .int .i64 0]), 6, 64) := by kernel_rfl
theorem p_cells {w : World} {b o : Nat} {p : Pay} (h : w.rangeAt b o (pe p)) : w.cell? ⟨b, o, none⟩ = some (.int .i64 p.id) ∧ w.cell? ⟨b, o + 1, none⟩ = some (.string p.acc) ∧ w.cell? ⟨b, o + 2, none⟩ = some (.int .i64 p.c) ∧ w.cell? ⟨b, o + 3, none⟩ = some (.int .i64 p.d) :=
  ⟨h 0 _ rfl, h 1 _ rfl, h 2 _ rfl, h 3 _ rfl⟩
theorem p_cells0 {w : World} {b : Nat} {p : Pay} (h : w.rangeAt b 0 (pe p)) : w.cell? ⟨b, 0, none⟩ = some (.int .i64 p.id) ∧ w.cell? ⟨b, 1, none⟩ = some (.string p.acc) ∧ w.cell? ⟨b, 2, none⟩ = some (.int .i64 p.c) ∧ w.cell? ⟨b, 3, none⟩ = some (.int .i64 p.d) := by
  have := p_cells h
  simpa only [Nat.zero_add] using this
theorem a_cells {w : World} {b o : Nat} {a : Ans} (h : w.rangeAt b o (ae a)) : w.cell? ⟨b, o, none⟩ = some (.int .i64 a.q) ∧ w.cell? ⟨b, o + 1, none⟩ = some (.int .i64 a.id) ∧ w.cell? ⟨b, o + 2, none⟩ = some (.int .i64 a.k) ∧ w.cell? ⟨b, o + 3, none⟩ = some (.int .i64 a.c) ∧ w.cell? ⟨b, o + 4, none⟩ = some (.int .i64 a.d) :=
  ⟨h 0 _ rfl, h 1 _ rfl, h 2 _ rfl, h 3 _ rfl, h 4 _ rfl⟩
theorem a_cells0 {w : World} {b : Nat} {a : Ans} (h : w.rangeAt b 0 (ae a)) : w.cell? ⟨b, 0, none⟩ = some (.int .i64 a.q) ∧ w.cell? ⟨b, 1, none⟩ = some (.int .i64 a.id) ∧ w.cell? ⟨b, 2, none⟩ = some (.int .i64 a.k) ∧ w.cell? ⟨b, 3, none⟩ = some (.int .i64 a.c) ∧ w.cell? ⟨b, 4, none⟩ = some (.int .i64 a.d) := by
  have := a_cells h
  simpa only [Nat.zero_add] using this
theorem s_cells {w : World} {b o : Nat} {s : Sta} (h : w.rangeAt b o (se s)) : w.cell? ⟨b, o, none⟩ = some (.int .i64 s.p.id) ∧ w.cell? ⟨b, o + 1, none⟩ = some (.string s.p.acc) ∧ w.cell? ⟨b, o + 2, none⟩ = some (.int .i64 s.p.c) ∧ w.cell? ⟨b, o + 3, none⟩ = some (.int .i64 s.p.d) ∧ w.cell? ⟨b, o + 4, none⟩ = some (.int .i64 s.st) ∧ w.cell? ⟨b, o + 5, none⟩ = some (.int .i64 s.pd) ∧ w.cell? ⟨b, o + 6, none⟩ = some (.int .i64 s.bk) :=
  ⟨h 0 _ rfl, h 1 _ rfl, h 2 _ rfl, h 3 _ rfl, h 4 _ rfl, h 5 _ rfl, h 6 _ rfl⟩
theorem s_cells0 {w : World} {b : Nat} {s : Sta} (h : w.rangeAt b 0 (se s)) : w.cell? ⟨b, 0, none⟩ = some (.int .i64 s.p.id) ∧ w.cell? ⟨b, 1, none⟩ = some (.string s.p.acc) ∧ w.cell? ⟨b, 2, none⟩ = some (.int .i64 s.p.c) ∧ w.cell? ⟨b, 3, none⟩ = some (.int .i64 s.p.d) ∧ w.cell? ⟨b, 4, none⟩ = some (.int .i64 s.st) ∧ w.cell? ⟨b, 5, none⟩ = some (.int .i64 s.pd) ∧ w.cell? ⟨b, 6, none⟩ = some (.int .i64 s.bk) := by
  have := s_cells h
  simpa only [Nat.zero_add] using this
theorem n_cells {w : World} {b o : Nat} {e : Ent} (h : w.rangeAt b o (ne e)) : w.cell? ⟨b, o, none⟩ = some (.int .i64 e.id) ∧ w.cell? ⟨b, o + 1, none⟩ = some (.string e.de) ∧ w.cell? ⟨b, o + 2, none⟩ = some (.string e.cr) ∧ w.cell? ⟨b, o + 3, none⟩ = some (.int .i64 e.c) ∧ w.cell? ⟨b, o + 4, none⟩ = some (.int .i64 e.d) ∧ w.cell? ⟨b, o + 5, none⟩ = some (.int .i64 e.b) :=
  ⟨h 0 _ rfl, h 1 _ rfl, h 2 _ rfl, h 3 _ rfl, h 4 _ rfl, h 5 _ rfl⟩
theorem n_cells0 {w : World} {b : Nat} {e : Ent} (h : w.rangeAt b 0 (ne e)) : w.cell? ⟨b, 0, none⟩ = some (.int .i64 e.id) ∧ w.cell? ⟨b, 1, none⟩ = some (.string e.de) ∧ w.cell? ⟨b, 2, none⟩ = some (.string e.cr) ∧ w.cell? ⟨b, 3, none⟩ = some (.int .i64 e.c) ∧ w.cell? ⟨b, 4, none⟩ = some (.int .i64 e.d) ∧ w.cell? ⟨b, 5, none⟩ = some (.int .i64 e.b) := by
  have := n_cells h
  simpa only [Nat.zero_add] using this

theorem s_pay {w : World} {b o : Nat} {s : Sta} (h : w.rangeAt b o (se s)) : w.rangeAt b o (pe s.p) := fun j u hu => h j u (by
  have hj : j < 4 := (List.getElem?_eq_some_iff.1 hu).1
  match j, hj with
  | 0, _ => exact hu
  | 1, _ => exact hu
  | 2, _ => exact hu
  | 3, _ => exact hu)
def WfP (l : List Pay) : Prop := ∀ p ∈ l, p.acc.size ≤ maxLen
def WfS (l : List Sta) : Prop := ∀ s ∈ l, s.p.acc.size ≤ maxLen
def WfE (l : List Ent) : Prop := ∀ e ∈ l, e.de.size ≤ maxLen ∧ e.cr.size ≤ maxLen
def Pays (w : World) (A : Option Addr) (n c : Nat) (l : List Pay) : Prop := Recs pe 4 w A n c l ∧ WfP l
def Anss (w : World) (A : Option Addr) (n c : Nat) (l : List Ans) : Prop := Recs ae 5 w A n c l
def Stas (w : World) (A : Option Addr) (n c : Nat) (l : List Sta) : Prop := Recs se 7 w A n c l ∧ WfS l
def Ents (w : World) (A : Option Addr) (n c : Nat) (l : List Ent) : Prop := Recs ne 6 w A n c l ∧ WfE l
section
variable {w w' : World} {A B : Option Addr} {n c m e : Nat}
theorem Pays.grew {l : List Pay} (h : Pays w A n c l) (g : Grew w w') : Pays w' A n c l := ⟨h.1.grew g, h.2⟩
theorem Anss.grew {l : List Ans} (h : Anss w A n c l) (g : Grew w w') : Anss w' A n c l := Recs.grew h g
theorem Stas.grew {l : List Sta} (h : Stas w A n c l) (g : Grew w w') : Stas w' A n c l := ⟨h.1.grew g, h.2⟩
theorem Ents.grew {l : List Ent} (h : Ents w A n c l) (g : Grew w w') : Ents w' A n c l := ⟨h.1.grew g, h.2⟩
end
theorem WfP.of {l : List Sta} (h : WfS l) : WfP (l.map (·.p)) := fun p hp => by
  obtain ⟨s, hs, rfl⟩ := List.mem_map.1 hp
  exact h s hs

theorem own_base {w : World} {base base' : Nat} {e : TypeId} {size : Nat} {v : Value} {n : Nat} {xs : List Value} (h : w.ownsRow base e size v n xs) (hb : base' ≤ base) : w.ownsRow base' e size v n xs := by
  refine ⟨h.1, ?_⟩
  rcases h.2 with h2 | ⟨g, cap, cur, h1, h2, h3⟩
  · exact .inl h2
  · exact .inr ⟨g, cap, cur, h1, Nat.le_trans hb h2, h3⟩
theorem own_grew {w w' : World} {base : Nat} {e : TypeId} {size : Nat} {v : Value} {n : Nat} {xs : List Value} (h : w.ownsRow base e size v n xs) (g : Grew w w') : w'.ownsRow base e size v n xs := by
  refine ⟨h.1, ?_⟩
  rcases h.2 with h2 | ⟨k, cap, cur, h1, h2, h3, h4⟩
  · exact .inl h2
  · exact .inr ⟨k, cap, cur, h1, h2, g.block h3, h4⟩
theorem own_kept {w w' : World} {row : Option Nat} {base : Nat} {e : TypeId} {size : Nat} {v : Value} {n : Nat} {xs : List Value} (h : w.ownsRow base e size v n xs) (g : w.grownBy w' row) (hr : ∀ k, row = some k → k < base) : w'.ownsRow base e size v n xs := by
  refine ⟨h.1, ?_⟩
  rcases h.2 with h2 | ⟨k, cap, cur, h1, h2, h3, h4⟩
  · exact .inl h2
  · exact .inr ⟨k, cap, cur, h1, h2, (g.block k (Array.getElem?_eq_some_iff.1 h3).1 (fun e => by have := hr k e.symm; omega)).trans h3, h4⟩
/-- A contract's end: a slice of its own. -/
def RetE {α : Type} (enc : α → List Value) (size : Nat) (t : TypeId) (l : List α) (w : World) (r : Ending) (w' : World) : Prop :=
  ∃ A n c, r = .returned (.slice A n c) ∧ l.length = n ∧ w'.ownsRow w.heap.size t size (.slice A n c) n (l.flatMap enc) ∧ Grew w w'
theorem flat_snoc {α : Type} (enc : α → List Value) (l : List α) (k : Nat) (x : α) (h : l[k]? = some x) : (l.take (k + 1)).flatMap enc = (l.take k).flatMap enc ++ enc x := by
  rw [List.take_add_one, h, List.flatMap_append]; simp
end Go.Proofs.Ytaocjobbfcfleaa
