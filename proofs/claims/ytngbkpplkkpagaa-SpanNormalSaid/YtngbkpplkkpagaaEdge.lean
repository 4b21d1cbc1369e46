/-
  Edges in memory, and how they are sorted.
-/
import Derived.Test.YtngbkpplkkpagaaCmp
import Derived.Test.YtngbkpplkkpagaaShelf
namespace Go.Proofs.Ytngbkpplkkpagaa
open Go.Shelf Go.RowKit Go.Proofs WageMem WageSpan Go.Sort Go.Lib

instance : Inhabited Ed := ⟨⟨0, 0, 0⟩⟩
def encE (e : Ed) : List Value := [.int .i64 e.off, .int .i64 e.fi, .int .i64 e.se]
def flatE (E : List Ed) : List Value := E.flatMap encE
theorem flatE_len (E : List Ed) : (flatE E).length = E.length * 3 := by
  unfold flatE
  induction E with
  | nil => rfl
  | cons s ss ih => simp only [List.flatMap_cons, List.length_append, ih, List.length_cons, encE, List.length_nil]; omega
theorem flatE_get : ∀ (E : List Ed) (t : Nat), t < E.length * 3 → (flatE E)[t]? = some ((encE (E.toArray[t / 3]!))[t % 3]!)
  | [], t, h => by simp at h
  | e :: E, t, h => by
    have e0 : flatE (e :: E) = .int .i64 e.off :: .int .i64 e.fi :: .int .i64 e.se :: flatE E := rfl
    rw [e0]
    match t, h with
    | 0, _ => rfl
    | 1, _ => rfl
    | 2, _ => rfl
    | t + 3, h =>
      have ih := flatE_get E t (by simp at h; omega)
      have h1 : (t + 3) / 3 = t / 3 + 1 := by omega
      have h2 : (t + 3) % 3 = t % 3 := by omega
      rw [h1, h2]
      have h3 : ((e :: E).toArray)[t / 3 + 1]! = E.toArray[t / 3]! := by
        simp [Array.getElem!_eq_getD, Array.getD]
      rw [h3]
      simpa using ih
theorem flatE_one (E : List Ed) : ∀ u ∈ flatE E, u.oneCell' = true := by
  intro u hu
  obtain ⟨s, _, hs⟩ := List.mem_flatMap.1 hu
  unfold encE at hs
  rcases List.mem_cons.1 hs with rfl | hs
  · rfl
  · rcases List.mem_cons.1 hs with rfl | hs
    · rfl
    · rcases List.mem_cons.1 hs with rfl | hs
      · rfl
      · simp at hs
theorem own_cells {w : World} {base : Nat} {e : TypeId} {size g n c j : Nat} {xs : List Value} (h : w.ownsRow base e size (.slice (some ⟨g, 0, none⟩) n c) n xs) {u : Value} (hu : xs[j]? = some u) : w.cell? ⟨g, j, none⟩ = some u ∧ w.frozen? ⟨g, j, none⟩ = false := by
  obtain ⟨hl, h2⟩ := h
  rcases h2 with ⟨hv, hn⟩ | ⟨g', cap, cur, hv, hb, hg, hnc, hcm, hcs, ht⟩
  · cases hv
  · injection hv with e1 e2 e3
    injection e1 with e1
    injection e1 with e1
    subst e1
    refine ⟨?_, blk_frozen hg j⟩
    rw [blk_cell hg, ← Array.getElem?_toList]
    rw [← ht, List.getElem?_take] at hu
    split at hu
    · exact hu
    · cases hu
theorem holds_own {w : World} {base g m c : Nat} {E : List Ed} (h : w.ownsRow base 51 3 (.slice (some ⟨g, 0, none⟩) m c) m (flatE E)) : HoldsK encE 3 w g 0 E.toArray := by
  intro j hj
  rw [size_flatK] at hj
  have hj' : j < E.length * 3 := by simpa using hj
  rw [get_flatK _ _ _ _ hj, Nat.zero_add]
  exact own_cells h (flatE_get E j hj')

/-- A slice of edges that is read. -/
def Edges (w : World) (A : Option Addr) (m : Nat) (E : List Ed) : Prop :=
  E.length = m ∧ (0 < m → ∃ g, A = some ⟨g, 0, none⟩ ∧ ∀ (k : Nat) (e : Ed), E[k]? = some e → w.cell? ⟨g, k * 3, none⟩ = some (.int .i64 e.off) ∧ w.cell? ⟨g, k * 3 + 1, none⟩ = some (.int .i64 e.fi) ∧ w.cell? ⟨g, k * 3 + 2, none⟩ = some (.int .i64 e.se))
theorem Edges.grew {w w' : World} {A : Option Addr} {m : Nat} {E : List Ed} (h : Edges w A m E) (g : Grew w w') : Edges w' A m E :=
  ⟨h.1, fun hm => by
    obtain ⟨b, e, hc⟩ := h.2 hm
    exact ⟨b, e, fun k x hx => ⟨g.cell (hc k x hx).1, g.cell (hc k x hx).2.1, g.cell (hc k x hx).2.2⟩⟩⟩
theorem edges_holds {w : World} {g : Nat} {d : Array Ed} (h : HoldsK encE 3 w g 0 d) : Edges w (some ⟨g, 0, none⟩) d.size d.toList := by
  refine ⟨by simp, fun _ => ⟨g, rfl, fun k e he => ?_⟩⟩
  have hk : k < d.size := by have := (List.getElem?_eq_some_iff.1 he).1; simpa using this
  have hd : d[k]! = e := by
    rw [getElem!_pos d k hk]
    have := (List.getElem?_eq_some_iff.1 he).2
    simpa using this
  have hh : ∀ i, i < 3 → w.cell? ⟨g, k * 3 + i, none⟩ = some ((encE e)[i]!) := by
    intro i hi
    have := (h (k * 3 + i) (by rw [size_flatK]; omega)).1
    rw [get_flatK _ _ _ _ (by omega), show (k * 3 + i) / 3 = k by omega, show (k * 3 + i) % 3 = i by omega, hd, Nat.zero_add] at this
    exact this
  exact ⟨hh 0 (by omega), hh 1 (by omega), hh 2 (by omega)⟩

theorem sort_block {w : World} {g n : Nat} {d : Array Ed} {os : Array Obj} {k : Nat} (hk : k ≠ g) (hl : k < w.heap.size) : (sortWorldK encE 3 w g 0 n d os).heap[k]? = w.heap[k]? := by
  unfold sortWorldK putRowK putRow
  show ((mapBlock (Sort.ahead w n) g _).heap ++ os)[k]? = _
  have hs : (mapBlock (Sort.ahead w n) g (putCells id 0 (flatK encE 3 d))).heap.size = w.heap.size := by simp [mapBlock, Sort.ahead]
  rw [Array.getElem?_append_left (by rw [hs]; exact hl)]
  simp only [mapBlock, Sort.ahead]
  rw [Array.getElem?_modify, if_neg (by omega)]
theorem sort_grew {w0 w : World} {g n : Nat} {d : Array Ed} {os : Array Obj} (h : Grew w0 w) (hg : w0.heap.size ≤ g) : Grew w0 (sortWorldK encE 3 w g 0 n d os) := by
  refine ⟨h.os, h.tape, h.output, Nat.le_trans h.size (size_sortWorldK_c encE 3 w g 0 n d os), fun k hk => ?_⟩
  exact (sort_block (by omega) (Nat.lt_of_lt_of_le hk h.size)).trans (h.below.block k hk)

theorem lt_cmp (x y : Ed) : ltOf (fun x y : Ed => cmpI x.off y.off) x y = decide (x.off < y.off) := by
  unfold ltOf cmpI
  by_cases h1 : x.off < y.off
  · simp [h1]
  · by_cases h2 : y.off < x.off <;> simp [h1, h2]
theorem swo_cmp : SWO (ltOf fun x y : Ed => cmpI x.off y.off) where
  irrefl x := by rw [lt_cmp]; simp
  trans x y z h1 h2 := by rw [lt_cmp] at *; simp at *; omega
  ntrans x y z h1 h2 := by rw [lt_cmp] at *; simp at *; omega

theorem cmp_lays {K g : Nat} {size : Nat} {w : World} (hk : w.cell? ⟨K, 0, none⟩ = some (.func (.func 42) #[] #[])) (hne : K ≠ g) : CmpLays Try.prog 44 #[.pointer (some ⟨K, 0, none⟩)] encE 3 (fun x y : Ed => cmpI x.off y.off) g 0 size w := by
  intro m os dk _ x y
  have hc : (sortWorldK encE 3 w g 0 m dk os).cell? ⟨K, 0, none⟩ = some (.func (.func 42) #[] #[]) := (cell?_sortWorldK_other encE 3 w g 0 m dk os ⟨K, 0, none⟩ hne (World.block_lt_of_cell? _ _ hk)).trans hk
  exact cmp_any x.off x.fi x.se y.off y.fi y.se K _ hc

theorem sorted_of {d d' : Array Ed} (h : SortedIn (ltOf fun x y : Ed => cmpI x.off y.off) 0 d.size d') (hs : d'.size = d.size) : SortedE d'.toList := by
  unfold SortedE
  rw [List.pairwise_iff_getElem]
  intro i j hi hj hij
  have := h i j (Nat.zero_le _) hij (by simpa [hs] using hj)
  rw [lt_cmp, getElem!_pos d' j (by simpa using hj), getElem!_pos d' i (by simpa using hi)] at this
  have := of_decide_eq_false this
  simp
  omega

set_option maxHeartbeats 1000000 in
theorem sortBy_some {base : Nat} (g m c : Nat) (E : List Ed) (w : World) (h : w.ownsRow base 51 3 (.slice (some ⟨g, 0, none⟩) m c) m (flatE E)) (hm : E.length = m) (hl : m ≤ 1000000) (w0 : World) (g0 : Grew w0 w) (hg : w0.heap.size ≤ g) (hgw : g < w.heap.size) :
    Calls Try.prog 41 #[.slice (some ⟨g, 0, none⟩) m c, .func (.func 42) #[] #[]] w fun e w' => e = .returned (.tuple #[]) ∧ ∃ E' : List Ed, E'.Perm E ∧ SortedE E' ∧ Edges w' (some ⟨g, 0, none⟩) m E' ∧ Grew w0 w' := by
  have eg : ∀ args w, (callFunc 44 args).run Try.prog w = .ok (.enter 44 args) w := enters_of Try.func44 (by kernel_rfl) rfl
  obtain ⟨w1, hw1⟩ : ∃ x, x = w.alloc (.cells #[.func (.func 42) #[] #[]] 53) := ⟨_, rfl⟩
  have g1 : Grew w w1 := by rw [hw1]; exact (Grew.refl w).alloc _
  have hk : w1.cell? ⟨w.heap.size, 0, none⟩ = some (.func (.func 42) #[] #[]) := by rw [hw1]; simp
  have hsz : E.toArray.size = m := by simpa using hm
  have hcon := AnyQ.slices_SortFunc Try.sortE 3 Try.isAgg51 Try.sizeOf51 encE (fun _ => rfl) (fun x v hv => by simp [encE] at hv; rcases hv with rfl | rfl | rfl <;> rfl) (fun x y : Ed => cmpI x.off y.off) swo_cmp 44 #[.pointer (some ⟨w.heap.size, 0, none⟩)] g 0 c E.toArray w1 eg
    (cmp_lays hk (by omega)) (holds_own (own_grew h g1)) (by have := g1.le; omega) (by rw [hsz]; omega)
  rw [hsz] at hcon
  change Calls Try.prog 43 _ _ _ at hcon
  have HC := Lib.hid hcon
  have HO := Lib.hid (holds_own (own_grew h g1))
  have GG := Lib.hid (g0.trans g1)
  have hsz1 := g1.le
  clear hcon h g1 hk
  go_enter Try.func41, Try.ntmps41
  go_wp2_with fail
  rw [← hw1]
  refine (HC.out).mono ?_
  rintro e w2 ⟨rfl, d', n, os, hp, hs, rfl⟩
  have hds : d'.size = m := by rw [hp.1, hsz]
  have P1 : Hid (d'.toList.Perm E) := by
    have := hp.2.2
    rw [Array.extract_eq_self_of_le (by rw [hds]; exact Nat.le_refl _), Array.extract_eq_self_of_le (by rw [hsz]; exact Nat.le_refl _)] at this
    exact this
  have P2 : Hid (SortedE d'.toList) := sorted_of (d := E.toArray) (by rw [hsz]; exact hs) hp.1
  have P3 : Hid (Edges (sortWorldK encE 3 w1 g 0 n d' os) (some ⟨g, 0, none⟩) m d'.toList) := by
    have := edges_holds (holdsK_sortWorldK_c encE 3 w1 g 0 E.toArray d' n os HO.out (by omega) hp.1)
    rw [hds] at this
    exact this
  have P4 : Hid (Grew w0 (sortWorldK encE 3 w1 g 0 n d' os)) := sort_grew GG.out hg
  generalize sortWorldK encE 3 w1 g 0 n d' os = w3 at *
  clear hp hs hds hsz HO
  go_wp2_with fail
  go_end0
  exact ⟨rfl, d'.toList, P1.out, P2.out, P3.out, P4.out⟩

theorem sortBy_none (c : Nat) (w : World) : Calls Try.prog 41 #[.slice none 0 c, .func (.func 42) #[] #[]] w fun e w' => e = .returned (.tuple #[]) ∧ Grew w w' := by
  obtain ⟨w1, hw1⟩ : ∃ x, x = w.alloc (.cells #[.func (.func 42) #[] #[]] 53) := ⟨_, rfl⟩
  have hcon := AnyF.slices_SortFunc_none { Try.sortE with } none c (.func (.func 44) #[] #[.pointer (some ⟨w.heap.size, 0, none⟩)]) w1
  change Calls Try.prog 43 _ _ _ at hcon
  have HC := Lib.hid hcon
  have GG : Hid (Grew w w1) := by unfold Hid; rw [hw1]; exact (Grew.refl w).alloc _
  clear hcon
  go_enter Try.func41, Try.ntmps41
  go_wp2_with fail
  rw [← hw1]
  clear hw1
  refine (HC.out).mono ?_
  rintro e w2 ⟨rfl, hw⟩
  subst hw
  go_wp2_with fail
  go_end0
  exact ⟨rfl, GG.out⟩
end Go.Proofs.Ytngbkpplkkpagaa
