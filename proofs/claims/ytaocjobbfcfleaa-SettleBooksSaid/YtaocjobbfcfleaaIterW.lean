/-
  A range over a function whose iterator keeps state of its own in a cell that it has captured: the law of the statement, for a loop body that always goes on and whose variable may lie in memory.
-/
import Derived.RangeFuncNested
import Derived.RangeFuncBound
import Derived.RangeFuncLeaves
namespace Go
open Go.RowKit

/-- What an iterator promises: it yields some elements, one after the other; between two rounds it changes the world only as 'Step' says; a round keeps what 'Kp' says. -/
def IterRunsV {α : Type} (F : Fence) (n : Nat) (P : Program) (gf : Nat) (lb : Array Value) (encs : α → Array Value) (Step Kp : World → World → Prop) (S : List α → Prop) (V : α → Prop) (N : Nat) (W : World) : Prop :=
  ∀ (l : Nat) (J : List α → World → Prop), (∀ s A B, J s A → Step A B → J s B) →
    (∀ pre x W1, J pre W1 → V x → pre.length < N → YieldAt F (n - 1) P l (encs x) W1 fun e W' => e = .returned (.bool true) ∧ J (pre ++ [x]) W' ∧ Kp W1 W') →
    J [] W → CallsIn F n P gf (#[.func (.yield l) #[] #[]] ++ lb) W fun e W' => (∃ v, e = .returned v) ∧ ∃ xs, S xs ∧ J xs W'

/-- How the body of a round is left: at its end. -/
def goesOnV {α : Type} (B : Nat) (Kp : World → World → Prop) (I : List α → World → Prop) (xs : List α) (W : World) : Exit → Act → World → Prop
  | .normal, _, W' => KeepsFrom B W W' ∧ Kp W W' ∧ I xs W'
  | _, _, _ => False

variable {F : Fence} {n : Nat} {P : Program}

theorem wpIn_rangeFunc_goesOnW {α : Type} {g : Operand} {ps : Array Tmp} {assign body : Code} {Q : Exit → Act → World → Prop} {a : Act} {w : World}
    (hro : F.round = none) (h1 : 1 ≤ n) {gf : Nat} {lb : Array Value} (hg : a.eval g = .func (.func gf) #[] lb) (hFg : F.fn gf) (eg : ∀ args w, (callFunc gf args).run P w = .ok (.enter gf args) w)
    {encs : α → Array Value} {Step Kp : World → World → Prop} {S : List α → Prop} {V : α → Prop} {N : Nat} (hps : ∀ x, (encs x).size = ps.size)
    (hseq : ∀ o1 o2 : Obj, IterRunsV F (n - 1) P gf lb encs Step Kp S V N ((w.alloc o1).alloc o2))
    (hKt : ∀ A B C : World, Kp A B → Kp B C → Kp A C) (hKb : ∀ (W : World) (l : Nat) (o' : Obj), w.heap.size ≤ l → Kp W (W.putObj l o'))
    (hSt : ∀ A B, Step A B → ∀ (k : Nat) (o : Obj), w.heap.size ≤ k → A.heap[k]? = some o → B.heap[k]? = some o)
    (I : List α → World → Prop) (hIS : ∀ s A B, I s A → Step A B → I s B) (hIb : ∀ s (W : World) (o' : Obj), w.heap.size + 1 < W.heap.size → I s W → I s (W.putObj (w.heap.size + 1) o')) (h0 : ∀ o1 o2 : Obj, I [] ((w.alloc o1).alloc o2)) (a₁ : α → World → Act) (w₁ : α → World → World)
    (h1s : ∀ x W, Step W (w₁ x W)) (h1k : ∀ x W, Kp W (w₁ x W))
    (hassign : ∀ (l : Nat) (x : α) (W : World) (K : Act → World → Prop), K (a₁ x W) (w₁ x W) →
      assign.wpIn (F.inRound l) (n - 1 - 1) P (Exit.then K (fun _ _ _ => False)) { tmps := (ps.zip (encs x)).foldl (fun t (p, v) => t.setIfInBounds p v) a.tmps, defers := [] } W)
    (hbody : ∀ (l : Nat) (pre : List α) (x : α) (W : World) (o' : Obj), I pre W → w.heap.size + 1 < W.heap.size → V x → pre.length < N →
      body.wpIn (F.inRound l) (n - 1 - 1) P (goesOnV w.heap.size Kp I (pre ++ [x]) ((w₁ x W).putObj (w.heap.size + 1) o')) (a₁ x W) ((w₁ x W).putObj (w.heap.size + 1) o'))
    (hdone : ∀ (xs : List α) (W : World), S xs → I xs W → W.heap[w.heap.size]? = some (.deferred (some [])) → Q .normal { a with defers := { target := .collected w.heap.size, args := #[] } :: a.defers } W) :
    (Code.rangeFunc g ps assign body).wpIn F n P Q a w := by
  refine wpIn_rangeFunc fun fn hfn => ?_
  rw [hro]
  let L : LoopState → Loop := fun st => { state := st, pending := none, fn, tmps := a.tmps, params := ps, assign, body, defers := w.heap.size }
  have hd : ((w.alloc (.deferred (some []))).alloc (.loop (L .ready))).heap[w.heap.size]? = some (.deferred (some [])) :=
    (Below.heap_alloc _ _ _ (by simp)).trans (World.alloc_heap_new w _)
  have hl : ((w.alloc (.deferred (some []))).alloc (.loop (L .ready))).heap[w.heap.size + 1]? = some (.loop (L .ready)) := by
    have := World.alloc_heap_new (w.alloc (.deferred (some []))) (.loop (L .ready)); rwa [World.size_alloc] at this
  obtain ⟨W1, hW1⟩ : ∃ W1, W1 = (w.alloc (.deferred (some []))).alloc (.loop (L .ready)) := ⟨_, rfl⟩
  rw [← hW1] at hd hl
  refine ⟨w.heap.size + 1, [{ target := .collected w.heap.size, args := #[] }], W1, { target := .fn (.func gf) lb, args := #[.func (.yield (w.heap.size + 1)) #[] #[]] }, W1, gf,
    #[.func (.yield (w.heap.size + 1)) #[] #[]] ++ lb, W1, ?_, ?_, ?_, ?_, fun _ => h1, ?_⟩
  · rw [hW1]; exact run_enterLoop_outer _ _ _ _ _
  · simp only [resolve, hg]
    simp [go_sem]
  · intro f' hf'; simp [Target.leads] at hf'; subst hf'; exact hFg
  · simp [invoke, go_sem, eg]
  have hq1 := hseq (.deferred (some [])) (.loop (L .ready))
  have h01 := h0 (.deferred (some [])) (.loop (L .ready))
  rw [← hW1] at hq1 h01
  refine (hq1 (w.heap.size + 1) (fun pre W => I pre W ∧ W.heap[w.heap.size + 1]? = some (.loop (L .ready)) ∧ W.heap[w.heap.size]? = some (.deferred (some []))) ?_ ?_ ⟨h01, hl, hd⟩).mono ?_
  · rintro s A B ⟨hi, h2, h3⟩ hs
    exact ⟨hIS s A B hi hs, hSt A B hs _ _ (by omega) h2, hSt A B hs _ _ (by omega) h3⟩
  · rintro pre x W ⟨hi, h2, h3⟩ hvx hlen
    have hlt : w.heap.size + 1 < W.heap.size := (Array.getElem?_eq_some_iff.1 h2).1
    have hy := run_yield (P := P) (args := encs x) h2 (hps x)
    have h2c := hSt _ _ (h1s x W) _ _ (by omega) h2
    have h3c := hSt _ _ (h1s x W) _ _ (by omega) h3
    refine ⟨fn, _, assign, body, hy, roundIn_of_wpIn hfn (hassign _ x W _ ⟨_, run_beginRound h2c rfl, ?_⟩)⟩
    have hltc : w.heap.size + 1 < (w₁ x W).heap.size := (Array.getElem?_eq_some_iff.1 h2c).1
    have h2' : ((w₁ x W).putObj (w.heap.size + 1) (.loop (L .busy))).heap[w.heap.size + 1]? = some (.loop (L .busy)) := World.putObj_heap_same hltc
    have h3' : ((w₁ x W).putObj (w.heap.size + 1) (.loop (L .busy))).heap[w.heap.size]? = some (.deferred (some [])) := (World.putObj_heap_other (by omega)).trans h3c
    refine wpIn_mono (hbody _ pre x W _ hi hlt hvx hlen) ?_
    rintro e a3 W3 hp
    cases e with
    | normal =>
      obtain ⟨hk3, hkp3, hi3⟩ := hp
      have h4 := hk3.same _ _ (by omega) h2' rfl
      have h5 := hk3.same _ _ (Nat.le_refl _) h3' rfl
      have hlt3 := (Array.getElem?_eq_some_iff.1 h4).1
      exact ⟨_, _, run_endRound (P := P) none h4, rfl, ⟨hIb _ _ _ hlt3 hi3, World.putObj_heap_same hlt3, (World.putObj_heap_other (by omega)).trans h5⟩,
        hKt _ _ _ (h1k x W) (hKt _ _ _ (hKb _ _ _ (by omega)) (hKt _ _ _ hkp3 (hKb _ _ _ (by omega))))⟩
    | ret => exact hp.elim
    | exit id => exact hp.elim
    | goto t => exact hp.elim
    | panic ch => exact hp.elim
    | outgrown => exact hp.elim
  · rintro e W2 ⟨⟨v, rfl⟩, xs, hS, hi, h2, h3⟩
    have hlt3 := (Array.getElem?_eq_some_iff.1 h2).1
    exact ⟨none, _, run_endLoop (P := P) h2 (by simp [L]), hdone xs _ hS (hIb _ _ _ hlt3 hi) ((World.putObj_heap_other (by omega)).trans h3)⟩

end Go
