/-
 Propagations: add, walked.
-/
import Derived.Test.YtnnbibmmofnkdaaGreatPrpB
namespace Go.Proofs.YtnnbibmmofnkdaaGreat
open Go.RowKit Go.Proofs WageMem WageReg WageRec WageSpan WageTop
open WageMap
theorem PgAt.grew {w w' : World} {q : Pp} {R : Nat → Prop} {s : Pg} (h : PgAt w q R s) (g : Grew w w') : PgAt w' q R s := by
 obtain ⟨LA, lc, UA, un, uc, m, HP, HLo, HM, HT, hLR, hUR⟩ := h.ex
 exact ⟨⟨LA, lc, UA, un, uc, m, (HP.grew g).can, own_grew HLo g, HM.grew g, HT, hLR, hUR⟩, own_grew h.op g, own_grew h.sa g, h.ol, h.sl, h.nR, h.N, Nat.le_trans h.base g.le, fun j hj => Nat.lt_of_lt_of_le (h.lt j hj) g.le⟩
/-- The places of the literals: the clauses that hold them. -/
def PlcAt (w : World) (q : Pp) (R : Nat → Prop) (pl : Li → List Nat) : Prop :=
 ∃ m2 : List (Li × Value), MapIs ekL id w q.b2 m2 ∧ R q.b2 ∧ (∀ l, ∀ i ∈ pl l, i < q.N) ∧
  ∀ l, ∃ A n c, (alFind l m2).getD (.slice none 0 0) = .slice A n c ∧ Ints w A n c ((pl l).map Int.ofNat) ∧ ∀ b o, A = some ⟨b, o, none⟩ → 0 < n → R b
theorem PlcAt.keep {w w' : World} {q : Pp} {R : Nat → Prop} {pl : Li → List Nat} (h : PlcAt w q R pl) (k : KeepD R w w') : PlcAt w' q R pl := by
 obtain ⟨m2, hm, hr, hi, hl⟩ := h
 refine ⟨m2, hm.same ?_, hr, hi, fun l => ?_⟩
 ·obtain ⟨es, ck, h1, _⟩ := hm
  rw [k.2 _ _ hr h1, h1]
 ·obtain ⟨A, n, c, h1, h2, h3⟩ := hl l
  exact ⟨A, n, c, h1, ⟨h2.1, KeepD.sl h2.2 k h3⟩, h3⟩
/-- The clauses are looked at one after the other. -/
inductive DecR : Pg → List Nat → Pg → Prop
 | nil (s : Pg) : DecR s [] s
 | snoc {s s1 s2 : Pg} {r : List Nat} {i : Nat} : DecR s r s1 → Pg.exam { s1 with op := s1.op.set i (s1.op.getD i 0 - 1) } i s2 → DecR s (r ++ [i]) s2
def satL (sa : List Bool) (r : List Nat) : List Bool := r.foldl (fun sa i => sa.set i true) sa
theorem satL_snoc (sa : List Bool) (r : List Nat) (i : Nat) : satL sa (r ++ [i]) = (satL sa r).set i true := by unfold satL; rw [List.foldl_append]; rfl
/-- What add makes of a propagation. -/
def AddR (pl : Li → List Nat) (s : Pg) (l : Li) (s' : Pg) : Prop :=
 if s.T.contains l then s' = { s with lst := s.lst ++ [l] }
 else DecR { s with lst := s.lst ++ [l], T := l :: s.T, sa := satL s.sa (pl l) } (pl l.neg) s'
theorem map128p : Tryz.prog.underlying 128 = some (.map 122 38) := by kernel_rfl
theorem zero38p (w : World) : (zeroValue 38).run Tryz.prog w = .ok (.slice none 0 0) w := by kernel_rfl
set_option maxRecDepth 100000 in
theorem PlcAt.look {w : World} {q : Pp} {R : Nat → Prop} {pl : Li → List Nat} (h : PlcAt w q R pl) (l : Li) : ∃ A n c, (∀ w', Grew w w' → (Instr.lookup 128 (.map (some q.b2)) (ekL l) false).run Tryz.prog w' = .ok (.slice A n c) w') ∧ Ints w A n c ((pl l).map Int.ofNat) ∧ (∀ b o, A = some ⟨b, o, none⟩ → 0 < n → R b) ∧ n = (pl l).length ∧ ∀ i ∈ pl l, i < q.N := by
 obtain ⟨m2, hm, hr, hi, hl⟩ := h
 obtain ⟨A, n, c, h1, h2, h3⟩ := hl l
 refine ⟨A, n, c, fun w' g => ?_, h2, h3, by rw [← h2.1, List.length_map], hi l⟩
 have := (hm.grew g).lookup lit_key map128p (zero38p w') l false
 rw [this]
 simp only [Bool.false_eq_true, if_false]
 rw [← h1]
 congr 1
 cases alFind l m2 <;> rfl
theorem PgAt.less {w : World} {q : Pp} {R R' : Nat → Prop} {s : Pg} (h : PgAt w q R s) (hr : ∀ j, R' j → R j) : PgAt w q R' s := by
 obtain ⟨LA, lc, UA, un, uc, m, HP, HLo, HM, HT, hLR, hUR⟩ := h.ex
 exact ⟨⟨LA, lc, UA, un, uc, m, HP, HLo, HM, HT, fun g hg hh => hLR g hg (hr g hh), fun g hg => ⟨fun hh => (hUR g hg).1 (hr g hh), (hUR g hg).2⟩⟩, h.op, h.sa, h.ol, h.sl, ⟨fun hh => h.nR.1 (hr _ hh), fun hh => h.nR.2.1 (hr _ hh), fun hh => h.nR.2.2.1 (hr _ hh), fun hh => h.nR.2.2.2 (hr _ hh)⟩, h.N, h.base, fun j hj => h.lt j (hr j hj)⟩
theorem PgAt.more {w w' : World} {q : Pp} {R : Nat → Prop} {s : Pg} (h : PgAt w q R s) (g : Grew w w') {k : Nat} (h1 : w.heap.size ≤ k) (h2 : k < w'.heap.size) : PgAt w' q (fun j => R j ∨ j = k) s := by
 obtain ⟨LA, lc, UA, un, uc, m, HP, HLo, HM, HT, hLR, hUR⟩ := h.ex
 have g0 := h.grew g
 have hb := HP.hd.lt
 have hm := HM.lt
 have ho := (h.op.lt q.gO rfl).2
 have hs := (h.sa.lt q.gS rfl).2
 refine ⟨⟨LA, lc, UA, un, uc, m, (HP.grew g).can, own_grew HLo g, HM.grew g, HT, fun x hx hh => ?_, fun x hx => ⟨fun hh => ?_, (hUR x hx).2⟩⟩, g0.op, g0.sa, h.ol, h.sl, ⟨?_, ?_, ?_, ?_⟩, h.N, g0.base, fun j hj => ?_⟩
 ·rcases hh with hh | hh
  ·exact hLR x hx hh
  ·have := (HLo.lt x hx).2; omega
 ·rcases hh with hh | hh
  ·exact (hUR x hx).1 hh
  ·have := (HP.own.lt x hx).2; omega
 ·rintro (hh | hh)
  ·exact h.nR.1 hh
  ·omega
 ·rintro (hh | hh)
  ·exact h.nR.2.1 hh
  ·omega
 ·rintro (hh | hh)
  ·exact h.nR.2.2.1 hh
  ·omega
 ·rintro (hh | hh)
  ·exact h.nR.2.2.2 hh
  ·omega
 ·rcases hj with hj | hj
  ·exact g0.lt j hj
  ·omega
set_option maxRecDepth 100000 in
theorem PgAt.look {w : World} {q : Pp} {R : Nat → Prop} {s : Pg} (h : PgAt w q R s) (l : Li) : ∀ w', Grew w w' → (Instr.lookup 127 (.map (some q.b1)) (ekL l) false).run Tryz.prog w' = .ok (.bool (s.T.contains l)) w' := fun w' g => by
 obtain ⟨LA, lc, UA, un, uc, m, HP, HLo, HM, HT, hLR, hUR⟩ := h.ex
 have := (HM.grew g).lookup lit_key map127 (zero4 w') l false
 rw [this]
 simp only [Bool.false_eq_true, if_false]
 have ht := HT l
 congr 1
 cases hf : alFind l m with
 | none =>
  rw [hf] at ht
  have ht : false = s.T.contains l := ht
  show Value.bool false = _
  rw [← ht]
 | some v =>
  rw [hf] at ht
  have ht : v = s.T.contains l := ht
  show bV v = _
  rw [← ht]
  rfl
end Go.Proofs.YtnnbibmmofnkdaaGreat
