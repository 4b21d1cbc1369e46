/-
  slices.Clone at orders; orders.Record.
-/
import Derived.Test.YtjpnodmcglcihaaValid
namespace Go.Proofs.Ytjpnodmcglcihaa
open Go.RowKit Go.Proofs WageMem WageOrd WageRec WageMap WageReg

theorem info24 : (Try.prog.info? 24).map (fun i => (i.zero, i.size, i.bytes)) = some (some (.agg #[.int .i64 0, .string ByteArray.empty, .string ByteArray.empty, .int .i64 0, .int .i64 0, .int .i64 0, .int .i64 0, .bool false]), 8, 80) := by kernel_rfl
abbrev flatO (l : List Ord) : List Value := l.flatMap oe
/-- A contract's end: a slice of orders of its own. -/
def RetO (l : List Ord) (w : World) (r : Ending) (w' : World) : Prop :=
  ∃ A n c, r = .returned (.slice A n c) ∧ l.length = n ∧ w'.ownsRow w.heap.size 24 8 (.slice A n c) n (flatO l) ∧ Grew w w'
theorem own_base {w : World} {base base' : Nat} {e : TypeId} {size : Nat} {v : Value} {n : Nat} {xs : List Value} (h : w.ownsRow base e size v n xs) (hb : base' ≤ base) : w.ownsRow base' e size v n xs := by
  refine ⟨h.1, ?_⟩
  rcases h.2 with h2 | ⟨g, cap, cur, h1, h2, h3⟩
  · exact .inl h2
  · exact .inr ⟨g, cap, cur, h1, Nat.le_trans hb h2, h3⟩
theorem own_grew {w w' : World} {base : Nat} {e : TypeId} {size : Nat} {v : Value} {n : Nat} {xs : List Value} (h : w.ownsRow base e size v n xs) (g : Grew w w') : w'.ownsRow base e size v n xs := by
  refine ⟨h.1, ?_⟩
  rcases h.2 with h2 | ⟨k, cap, cur, h1, h2, h3, h4⟩
  · exact .inl h2
  · exact .inr ⟨k, cap, cur, h1, h2, g.block h3, h4⟩
theorem own_kept {w w' : World} {row : Option Nat} {base : Nat} {e : TypeId} {size : Nat} {v : Value} {n : Nat} {xs : List Value} (h : w.ownsRow base e size v n xs) (g : w.grownBy w' row) (hr : ∀ k, row = some k → k < base) : w'.ownsRow base e size v n xs := by
  refine ⟨h.1, ?_⟩
  rcases h.2 with h2 | ⟨k, cap, cur, h1, h2, h3, h4⟩
  · exact .inl h2
  · exact .inr ⟨k, cap, cur, h1, h2, (g.block k (Array.getElem?_eq_some_iff.1 h3).1 (fun e => by have := hr k e.symm; omega)).trans h3, h4⟩

set_option maxRecDepth 100000 in
set_option maxHeartbeats 4000000 in
theorem clone_any (A : Option Addr) (n c : Nat) (l : List Ord) (w : World) (h : Ords w A n c l) (hn : n ≤ 1000) : Calls Try.prog 21 #[.slice A n c] w (RetO l w) := by
  obtain ⟨i0, hi, hz0, hz1, hz2⟩ := info_parts info24
  have HH := Lib.hid h
  have HL := Lib.hid h.1.1
  cases A with
  | none =>
    obtain ⟨rfl, rfl⟩ := h.1.2.2.2.2.2 rfl
    have hl : l = [] := List.eq_nil_of_length_eq_zero HL.out
    subst hl
    clear h
    have hr : ∀ x, (binOp .eql 22 (.slice none 0 0) (.slice none 0 0)).run Try.prog x = .ok (.bool true) x := fun x => by kernel_rfl
    go_enter Try.func21, Try.ntmps21
    go_wp2_with fail
    go_ret
    exact ⟨none, 0, 0, rfl, rfl, World.ownsRow_nil _ _ _ _, Grew.refl _⟩
  | some a =>
    clear h
    have hown : (w.alloc (.cells #[] 24)).ownsRow w.heap.size 24 8 (.slice (some ⟨w.heap.size, 0, none⟩) 0 0) 0 [] := World.ownsRow_made w #[] 0 (Nat.le_refl _) (Nat.zero_le _) rfl
    have HOW := Lib.hid hown
    clear hown
    have hr : ∀ x, (binOp .eql 22 (.slice (some a) n c) (.slice none 0 0)).run Try.prog x = .ok (.bool false) x := fun x => by kernel_rfl
    go_enter Try.func21, Try.ntmps21
    go_wp2_with (at_builtin; refine wpList_append_sl _ rfl (.tmp 5) (.tmp 6) 22 rfl w.heap.size 24 i0 _ 8 80 Try.underlying22 hi hz0 hz1 hz2 rfl (by decide) (.slice (some ⟨w.heap.size, 0, none⟩) 0 0) 0 [] rfl HOW.out (some a) n c (flatO l) rfl (HH.out.1.2.grew ((Grew.refl w).alloc _)) (flat_one oe_ok _) (by unfold maxLen; omega) (by omega) (by simp) ?_; intro v3 w3 own3 hg3 hat3; rw [Nat.zero_add, List.nil_append] at own3; obtain ⟨A3, c3, rfl⟩ := own_form own3)
    have gr3 : Grew w w3 := ((Grew.refl w).alloc _).grown hg3 (by simp [Value.ownBlock])
    have OW := Lib.hid own3
    clear own3 hg3 hat3 HOW
    go_ret
    exact ⟨A3, n, c3, by simp, HL.out, OW.out, gr3⟩
end Go.Proofs.Ytjpnodmcglcihaa
