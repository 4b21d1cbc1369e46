/-
  Entries are sorted by slices.SortFunc.
-/
import Derived.Test.YtaocjobbfcfleaaCmpE
namespace Go.Proofs.Ytaocjobbfcfleaa
open Go.Shelf Go.RowKit Go.Proofs WageMem WageOrd WageRec WageSet Go.Sort Go.Lib

instance : Inhabited Ent := ⟨⟨0, ByteArray.empty, ByteArray.empty, 0, 0, 0⟩⟩
abbrev flatE (l : List Ent) : List Value := l.flatMap ne
theorem flat_get (E : List Ent) (t : Nat) (h : t < E.length * 6) : (flatE E)[t]? = some ((ne (E.toArray[t / 6]!))[t % 6]!) := by
  have hk : t / 6 < E.length := by omega
  have hx : E[t / 6]? = some E[t / 6] := List.getElem?_eq_getElem hk
  have e : E.toArray[t / 6]! = E[t / 6] := by rw [getElem!_pos E.toArray (t / 6) (by simpa using hk)]; simp
  rw [e]
  have hl : t % 6 < (ne E[t / 6]).length := by have : (ne E[t / 6]).length = 6 := rfl; omega
  have hu : (ne E[t / 6])[t % 6]? = some ((ne E[t / 6])[t % 6]!) := by rw [List.getElem?_eq_getElem hl, getElem!_pos (ne E[t / 6]) (t % 6) hl]
  have := flat_at ne_ok hx hu
  rw [show t / 6 * 6 + t % 6 = t by omega] at this
  exact this
theorem own_cells {w : World} {base : Nat} {e : TypeId} {size g n c j : Nat} {xs : List Value} (h : w.ownsRow base e size (.slice (some ⟨g, 0, none⟩) n c) n xs) {u : Value} (hu : xs[j]? = some u) : w.cell? ⟨g, j, none⟩ = some u ∧ w.frozen? ⟨g, j, none⟩ = false := by
  obtain ⟨hl, h2⟩ := h
  rcases h2 with ⟨hv, hn⟩ | ⟨g', cap, cur, hv, hb, hg, hnc, hcm, hcs, ht⟩
  · cases hv
  · injection hv with e1 e2 e3
    injection e1 with e1
    injection e1 with e1
    subst e1
    refine ⟨?_, by simp [World.frozen?, hg]⟩
    rw [cell_of_row w g j cur e (0, 0) hg, ← Array.getElem?_toList]
    rw [← ht, List.getElem?_take] at hu
    split at hu
    · exact hu
    · cases hu
theorem holds_own {w : World} {base g m c : Nat} {E : List Ent} (h : w.ownsRow base 50 6 (.slice (some ⟨g, 0, none⟩) m c) m (flatE E)) : HoldsK ne 6 w g 0 E.toArray := by
  intro j hj
  rw [size_flatK] at hj
  have hj' : j < E.length * 6 := by simpa using hj
  rw [get_flatK _ _ _ _ hj, Nat.zero_add]
  exact own_cells h (flat_get E j hj')
theorem recs_holds {w : World} {g c : Nat} {d : Array Ent} (h : HoldsK ne 6 w g 0 d) (hc : d.size ≤ c) (hm : c ≤ maxLen) : Recs ne 6 w (some ⟨g, 0, none⟩) d.size c d.toList := by
  refine ⟨by simp, hc, hm, by rw [flat_len ne_ok]; simp, fun _ => ⟨g, 0, rfl, fun j u hu => ?_⟩, fun h => by cases h⟩
  have hj : j < d.toList.length * 6 := by have := (List.getElem?_eq_some_iff.1 hu).1; rw [flat_len ne_ok] at this; exact this
  have hg := flat_get d.toList j hj
  have hs : j < (flatK ne 6 d).size := by rw [size_flatK]; simpa using hj
  have := (h j hs).1
  rw [get_flatK _ _ _ _ (by simpa using hj)] at this
  have e : (flatE d.toList)[j]? = some u := hu
  rw [hg] at e
  injection e with e
  rw [← e]
  simpa using this
theorem sort_block {w : World} {g n : Nat} {d : Array Ent} {os : Array Obj} {k : Nat} (hk : k ≠ g) (hl : k < w.heap.size) : (sortWorldK ne 6 w g 0 n d os).heap[k]? = w.heap[k]? := by
  unfold sortWorldK putRowK putRow
  show ((mapBlock (Sort.ahead w n) g _).heap ++ os)[k]? = _
  have hs : (mapBlock (Sort.ahead w n) g (putCells id 0 (flatK ne 6 d))).heap.size = w.heap.size := by simp [mapBlock, Sort.ahead]
  rw [Array.getElem?_append_left (by rw [hs]; exact hl)]
  simp only [mapBlock, Sort.ahead]
  rw [Array.getElem?_modify, if_neg (by omega)]
theorem sort_grew {w0 w : World} {g n : Nat} {d : Array Ent} {os : Array Obj} (h : Grew w0 w) (hg : w0.heap.size ≤ g) : Grew w0 (sortWorldK ne 6 w g 0 n d os) := by
  refine ⟨h.os, h.tape, h.output, Nat.le_trans h.size (size_sortWorldK_c ne 6 w g 0 n d os), fun k hk => ?_⟩
  exact (sort_block (by omega) (Nat.lt_of_lt_of_le hk h.size)).trans (h.below.block k hk)
theorem lt_cmp (x y : Ent) : ltOf cmpE x y = ltEB x y := by
  unfold ltOf cmpE orI ltEB
  rw [Bool.eq_iff_iff]
  rcases cmpI_cases x.b y.b with ⟨h1, h2⟩ | ⟨h1, h2⟩ | ⟨h1, h2⟩ <;> rcases cmpI_cases x.id y.id with ⟨h3, h4⟩ | ⟨h3, h4⟩ | ⟨h3, h4⟩ <;> simp [h2, h4] <;> omega
theorem swo_cmp : SWO (ltOf cmpE) where
  irrefl x := by rw [lt_cmp, Bool.eq_false_iff]; intro h; exact ltE.irrefl (ltEB_iff.1 h)
  trans x y z h1 h2 := by rw [lt_cmp, ltEB_iff] at *; exact h1.trans h2
  ntrans x y z h1 h2 := by
    rw [lt_cmp, Bool.eq_false_iff, ne_eq, ltEB_iff] at *
    unfold ltE at *
    omega
theorem cmp_lays {g : Nat} {size : Nat} {w : World} : CmpLays Try.prog 46 #[] ne 6 cmpE g 0 size w := by
  intro m os dk _ x y
  exact byE_any x y _
theorem sorted_of {d d' : Array Ent} (h : SortedIn (ltOf cmpE) 0 d.size d') (hs : d'.size = d.size) : d'.toList.Pairwise fun a b => ¬ ltE b a := by
  rw [List.pairwise_iff_getElem]
  intro i j hi hj hij
  have := h i j (Nat.zero_le _) hij (by simpa [hs] using hj)
  rw [lt_cmp, getElem!_pos d' j (by simpa using hj), getElem!_pos d' i (by simpa using hi), Bool.eq_false_iff, ne_eq, ltEB_iff] at this
  simpa using this

theorem sort_some {base : Nat} (g m c : Nat) (E : List Ent) (w : World) (h : w.ownsRow base 50 6 (.slice (some ⟨g, 0, none⟩) m c) m (flatE E)) (hm : E.length = m) (hl : m ≤ 1000000) (w0 : World) (g0 : Grew w0 w) (hg : w0.heap.size ≤ g) (hgw : g < w.heap.size) :
    Calls Try.prog 45 #[.slice (some ⟨g, 0, none⟩) m c, .func (.func 46) #[] #[]] w fun e w' => e = .returned (.tuple #[]) ∧ ∃ E' : List Ent, E'.Perm E ∧ (E'.Pairwise fun a b => ¬ ltE b a) ∧ Recs ne 6 w' (some ⟨g, 0, none⟩) m c E' ∧ Grew w0 w' := by
  have eg : ∀ args w, (callFunc 46 args).run Try.prog w = .ok (.enter 46 args) w := enters_of Try.func46 (by kernel_rfl) rfl
  have hsz : E.toArray.size = m := by simpa using hm
  have hcon := AnyQ.slices_SortFunc Try.sortE 6 Try.isAgg50 Try.sizeOf50 ne (fun _ => rfl) (fun x v hv => ne_ok.one x v hv) cmpE swo_cmp 46 #[] g 0 c E.toArray w eg
    cmp_lays (holds_own h) hgw (by rw [hsz]; omega)
  rw [hsz] at hcon
  change Calls Try.prog 45 _ _ _ at hcon
  have hmc : m ≤ c ∧ c ≤ maxLen := ⟨(Sl.own h).1, (Sl.own h).2.1⟩
  refine hcon.mono ?_
  rintro e w2 ⟨rfl, d', n, os, hp, hs, rfl⟩
  have hds : d'.size = m := by rw [hp.1, hsz]
  refine ⟨rfl, d'.toList, ?_, sorted_of (d := E.toArray) (by rw [hsz]; exact hs) hp.1, ?_, sort_grew g0 hg⟩
  · have := hp.2.2
    rw [Array.extract_eq_self_of_le (by rw [hds]; exact Nat.le_refl _), Array.extract_eq_self_of_le (by rw [hsz]; exact Nat.le_refl _)] at this
    exact this
  · have := recs_holds (c := c) (holdsK_sortWorldK_c ne 6 w g 0 E.toArray d' n os (holds_own h) hgw hp.1) (by rw [hds]; exact hmc.1) hmc.2
    rw [hds] at this
    exact this
theorem sort_none (c : Nat) (w : World) : Calls Try.prog 45 #[.slice none 0 c, .func (.func 46) #[] #[]] w fun e w' => e = .returned (.tuple #[]) ∧ w = w' := by
  have hcon := AnyF.slices_SortFunc_none { Try.sortE with } none c (.func (.func 46) #[] #[]) w
  change Calls Try.prog 45 _ _ _ at hcon
  refine hcon.mono ?_
  rintro e w2 ⟨rfl, hw⟩
  exact ⟨rfl, hw.symm⟩
end Go.Proofs.Ytaocjobbfcfleaa
