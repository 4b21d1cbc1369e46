/-
 What an argument reads as: a plan, a log, a list of numbers.
-/
import Derived.Test.YtnnbibmmofnkdaaGreatRefI
import Derived.Test.YtnnbibmmofnkdaaGreatRpl
import Derived.Deep.Slices
import Derived.Deep.Fields
import Derived.ChangeSame
import Derived.ChangeSlices
import Derived.ChangeMaps5
import Derived.Lib.SmallJoins
import Derived.OpenShut
import Derived.ProofKit
namespace Go.Proofs.YtnnbibmmofnkdaaGreat
open Go.ChangeShapes Go.WideShapes Go.ChangeAt Go.RowKit Go.Deep Go.Joins Go.Proofs WageMem WageReg WageRec WageSpan WageTop
section
variable {H : Type} {enc : TypeId × Value → H} {w : World} {base : Nat} {spare : Nat → Bool} {held : Bool}
theorem plain_row {a : Addr} {v : Value} (h : w.cell? (a.add 0) = some v) : ∃ b o, a = ⟨b, o, none⟩ := by
 have : a.add 0 = a := by unfold Addr.add; rw [if_pos rfl]
 rw [this] at h
 obtain ⟨b, o, s⟩ := a
 have := World.cell?_spot h
 simp at this
 subst this
 exact ⟨b, o, rfl⟩
theorem spans_enc {w : World} {A : Option Addr} {n c : Nat} {l : List Sp} (h : Recs encS 2 w A n c l) (hb : ∀ o ∈ l, in64 o.1 ∧ in64 o.2) : Spans w A n c l := ⟨h.1, h.2, fun s hs => hb s hs⟩
theorem k3 : Tryz.prog.cellsOf 3 = 1 := by kernel_rfl
theorem k4 : Tryz.prog.cellsOf 4 = 1 := by kernel_rfl
theorem k9 : Tryz.prog.cellsOf 9 = 1 := by kernel_rfl
theorem k22 : Tryz.prog.cellsOf 22 = 1 := by kernel_rfl
theorem k24 : Tryz.prog.cellsOf 24 = 3 := by kernel_rfl
theorem k25 : Tryz.prog.cellsOf 25 = 1 := by kernel_rfl
theorem k26 : Tryz.prog.cellsOf 26 = 1 := by kernel_rfl
theorem k28 : Tryz.prog.cellsOf 28 = 2 := by kernel_rfl
theorem k30 : Tryz.prog.cellsOf 30 = 5 := by kernel_rfl
theorem k32 : Tryz.prog.cellsOf 32 = 10 := by kernel_rfl
theorem k47 : Tryz.prog.cellsOf 47 = 3 := by kernel_rfl
theorem k54 : Tryz.prog.cellsOf 54 = 1 := by kernel_rfl
theorem k56 : Tryz.prog.cellsOf 56 = 5 := by kernel_rfl
theorem k86 : Tryz.prog.cellsOf 86 = 2 := by kernel_rfl
set_option maxRecDepth 100000 in
theorem sp_trod {fuel : Nat} {cs : List Value} {x : DataW H × List MemPlace} (h : DataW.trod enc Tryz.prog w base spare held fuel 28 cs = some x) : ∃ o : Sp, cs = encS o ∧ (in64 o.1 ∧ in64 o.2) := by
 obtain ⟨ys, n', hn', hy, hlen, hyl, hf⟩ := DataW.trod_struct Tryz.underlying28 h
 rw [k28] at hlen
 match cs, hlen with
 | [v0, v1], _ =>
  match ys, hyl with
  | [y0, y1], _ =>
   have g0 : DataW.trod enc Tryz.prog w base spare held n' 3 [v0] = some y0 := by have := hf 0 _ rfl; simpa [k3] using this
   obtain ⟨z0, hz0, _, wf0⟩ := DataW.trod_int Tryz.underlying3 g0
   have bd0 := bounds_i64 wf0
   simp at hz0
   subst hz0
   have g1 : DataW.trod enc Tryz.prog w base spare held n' 3 [v1] = some y1 := by have := hf 1 _ rfl; simpa [k3] using this
   obtain ⟨z1, hz1, _, wf1⟩ := DataW.trod_int Tryz.underlying3 g1
   have bd1 := bounds_i64 wf1
   simp at hz1
   subst hz1
   exact ⟨(z0, z1), rfl, bd0, bd1⟩
set_option maxRecDepth 100000 in
theorem ch_trod {fuel : Nat} {cs : List Value} {x : DataW H × List MemPlace} (h : DataW.trod enc Tryz.prog w base spare held fuel 86 cs = some x) : ∃ o : Sp, cs = encS o ∧ (in64 o.1 ∧ in64 o.2) := by
 obtain ⟨ys, n', hn', hy, hlen, hyl, hf⟩ := DataW.trod_struct Tryz.underlying86 h
 rw [k86] at hlen
 match cs, hlen with
 | [v0, v1], _ =>
  match ys, hyl with
  | [y0, y1], _ =>
   have g0 : DataW.trod enc Tryz.prog w base spare held n' 3 [v0] = some y0 := by have := hf 0 _ rfl; simpa [k3] using this
   obtain ⟨z0, hz0, _, wf0⟩ := DataW.trod_int Tryz.underlying3 g0
   have bd0 := bounds_i64 wf0
   simp at hz0
   subst hz0
   have g1 : DataW.trod enc Tryz.prog w base spare held n' 3 [v1] = some y1 := by have := hf 1 _ rfl; simpa [k3] using this
   obtain ⟨z1, hz1, _, wf1⟩ := DataW.trod_int Tryz.underlying3 g1
   have bd1 := bounds_i64 wf1
   simp at hz1
   subst hz1
   exact ⟨(z0, z1), rfl, bd0, bd1⟩
set_option maxRecDepth 100000 in
theorem open_sps {fuel : Nat} {cs : List Value} {x : DataW H × List MemPlace} (h : DataW.trod enc Tryz.prog w base spare held fuel 54 cs = some x) : ∃ A n c l, cs = [.slice A n c] ∧ Recs encS 2 w A n c l ∧ ∀ o ∈ l, (in64 o.1 ∧ in64 o.2) := by
 rcases open_slice Tryz.underlying54 h with ⟨hcs, _⟩ | ⟨a, l, c, m, nf, D, Pl', hcs, hb, hl, hm, hmm, hx, hi⟩
 ·exact ⟨none, 0, 0, [], hcs, ⟨rfl, Nat.le_refl _, Nat.zero_le _, rfl, Cells.nil, fun _ => ⟨rfl, rfl⟩⟩, fun x hx => by simp at hx⟩
 ·have hlm : l ≤ m := by rw [hmm]; split <;> omega
  have each : ∀ i, i < m → ∃ o : Sp, (∀ j u, (encS o)[j]? = some u → w.cell? (a.add (i * 2 + j)) = some u) ∧ (in64 o.1 ∧ in64 o.2) := by
   intro i him
   obtain ⟨cs', hc, ht'⟩ := hi i him
   rw [k28] at hc
   obtain ⟨o, rfl, hw⟩ := sp_trod ht'
   obtain ⟨_, hcl, hat⟩ := World.cells?_some hc
   refine ⟨o, fun j u hu => ?_, hw⟩
   have hj := (List.getElem?_eq_some_iff.1 hu)
   obtain ⟨hj1, hj2⟩ := hj
   have h1 := hat j (by simpa [hcl] using hj1)
   rw [Go.Deep.add_add] at h1
   rw [h1, ← hj2]
   simp
  obtain ⟨f, hf⟩ : ∃ f : Nat → Sp, ∀ i, i < m → (∀ j u, (encS (f i))[j]? = some u → w.cell? (a.add (i * 2 + j)) = some u) ∧ (in64 (f i).1 ∧ in64 (f i).2) :=
   ⟨fun i => if h : i < m then Classical.choose (each i h) else (0, 0), fun i hi => by
    have := Classical.choose_spec (each i hi)
    simp only [dif_pos hi]
    exact this⟩
  refine ⟨some a, l, c, (List.range l).map f, hcs, ⟨by simp, hl, hm, by rw [WageRec.flat_len encS_ok]; simp, fun hne => ?_, fun h => by cases h⟩, fun s hs => ?_⟩
  ·have h0l : 0 < l := by
    rcases Nat.eq_zero_or_pos l with h | h
    ·subst h; exact absurd rfl hne
    ·exact h
   have h0 := (hf 0 (by omega)).1 0 _ rfl
   rw [Nat.zero_mul] at h0
   obtain ⟨b, o, rfl⟩ := plain_row h0
   refine ⟨b, o, rfl, fun j u hu => ?_⟩
   have hjl : j < l * 2 := by have := (List.getElem?_eq_some_iff.1 hu).1; rw [WageRec.flat_len encS_ok] at this; simpa using this
   have hk : j / 2 < l := by omega
   have hs : ((List.range l).map f)[j / 2]? = some (f (j / 2)) := by rw [List.getElem?_map, List.getElem?_range hk]; rfl
   have hlen : j % 2 < (encS (f (j / 2))).length := by have : (encS (f (j / 2))).length = 2 := rfl; omega
   have hu' := WageRec.flat_at encS_ok hs (List.getElem?_eq_getElem hlen)
   rw [show j / 2 * 2 + j % 2 = j by omega, hu] at hu'
   have := (hf (j / 2) (by omega)).1 (j % 2) _ (List.getElem?_eq_getElem hlen)
   rw [addr_add_plain, show j / 2 * 2 + j % 2 = j by omega] at this
   rw [this, hu']
  ·obtain ⟨i, hi', rfl⟩ := List.mem_map.1 hs
   exact (hf i (by have := List.mem_range.1 hi'; omega)).2
set_option maxRecDepth 100000 in
theorem open_chs {fuel : Nat} {cs : List Value} {x : DataW H × List MemPlace} (h : DataW.trod enc Tryz.prog w base spare held fuel 22 cs = some x) : ∃ A n c l, cs = [.slice A n c] ∧ Recs encS 2 w A n c l ∧ ∀ o ∈ l, (in64 o.1 ∧ in64 o.2) := by
 rcases open_slice Tryz.underlying22 h with ⟨hcs, _⟩ | ⟨a, l, c, m, nf, D, Pl', hcs, hb, hl, hm, hmm, hx, hi⟩
 ·exact ⟨none, 0, 0, [], hcs, ⟨rfl, Nat.le_refl _, Nat.zero_le _, rfl, Cells.nil, fun _ => ⟨rfl, rfl⟩⟩, fun x hx => by simp at hx⟩
 ·have hlm : l ≤ m := by rw [hmm]; split <;> omega
  have each : ∀ i, i < m → ∃ o : Sp, (∀ j u, (encS o)[j]? = some u → w.cell? (a.add (i * 2 + j)) = some u) ∧ (in64 o.1 ∧ in64 o.2) := by
   intro i him
   obtain ⟨cs', hc, ht'⟩ := hi i him
   rw [k86] at hc
   obtain ⟨o, rfl, hw⟩ := ch_trod ht'
   obtain ⟨_, hcl, hat⟩ := World.cells?_some hc
   refine ⟨o, fun j u hu => ?_, hw⟩
   have hj := (List.getElem?_eq_some_iff.1 hu)
   obtain ⟨hj1, hj2⟩ := hj
   have h1 := hat j (by simpa [hcl] using hj1)
   rw [Go.Deep.add_add] at h1
   rw [h1, ← hj2]
   simp
  obtain ⟨f, hf⟩ : ∃ f : Nat → Sp, ∀ i, i < m → (∀ j u, (encS (f i))[j]? = some u → w.cell? (a.add (i * 2 + j)) = some u) ∧ (in64 (f i).1 ∧ in64 (f i).2) :=
   ⟨fun i => if h : i < m then Classical.choose (each i h) else (0, 0), fun i hi => by
    have := Classical.choose_spec (each i hi)
    simp only [dif_pos hi]
    exact this⟩
  refine ⟨some a, l, c, (List.range l).map f, hcs, ⟨by simp, hl, hm, by rw [WageRec.flat_len encS_ok]; simp, fun hne => ?_, fun h => by cases h⟩, fun s hs => ?_⟩
  ·have h0l : 0 < l := by
    rcases Nat.eq_zero_or_pos l with h | h
    ·subst h; exact absurd rfl hne
    ·exact h
   have h0 := (hf 0 (by omega)).1 0 _ rfl
   rw [Nat.zero_mul] at h0
   obtain ⟨b, o, rfl⟩ := plain_row h0
   refine ⟨b, o, rfl, fun j u hu => ?_⟩
   have hjl : j < l * 2 := by have := (List.getElem?_eq_some_iff.1 hu).1; rw [WageRec.flat_len encS_ok] at this; simpa using this
   have hk : j / 2 < l := by omega
   have hs : ((List.range l).map f)[j / 2]? = some (f (j / 2)) := by rw [List.getElem?_map, List.getElem?_range hk]; rfl
   have hlen : j % 2 < (encS (f (j / 2))).length := by have : (encS (f (j / 2))).length = 2 := rfl; omega
   have hu' := WageRec.flat_at encS_ok hs (List.getElem?_eq_getElem hlen)
   rw [show j / 2 * 2 + j % 2 = j by omega, hu] at hu'
   have := (hf (j / 2) (by omega)).1 (j % 2) _ (List.getElem?_eq_getElem hlen)
   rw [addr_add_plain, show j / 2 * 2 + j % 2 = j by omega] at this
   rw [this, hu']
  ·obtain ⟨i, hi', rfl⟩ := List.mem_map.1 hs
   exact (hf i (by have := List.mem_range.1 hi'; omega)).2
set_option maxRecDepth 100000 in
theorem du_trod {fuel : Nat} {cs : List Value} {x : DataW H × List MemPlace} (h : DataW.trod enc Tryz.prog w base spare held fuel 47 cs = some x) : ∃ o : Du, cs = encD o ∧ (in64 o.a ∧ in64 o.b ∧ in64 o.s) := by
 obtain ⟨ys, n', hn', hy, hlen, hyl, hf⟩ := DataW.trod_struct Tryz.underlying47 h
 rw [k47] at hlen
 match cs, hlen with
 | [v0, v1, v2], _ =>
  match ys, hyl with
  | [y0, y1, y2], _ =>
   have g0 : DataW.trod enc Tryz.prog w base spare held n' 3 [v0] = some y0 := by have := hf 0 _ rfl; simpa [k3] using this
   obtain ⟨z0, hz0, _, wf0⟩ := DataW.trod_int Tryz.underlying3 g0
   have bd0 := bounds_i64 wf0
   simp at hz0
   subst hz0
   have g1 : DataW.trod enc Tryz.prog w base spare held n' 3 [v1] = some y1 := by have := hf 1 _ rfl; simpa [k3] using this
   obtain ⟨z1, hz1, _, wf1⟩ := DataW.trod_int Tryz.underlying3 g1
   have bd1 := bounds_i64 wf1
   simp at hz1
   subst hz1
   have g2 : DataW.trod enc Tryz.prog w base spare held n' 3 [v2] = some y2 := by have := hf 2 _ rfl; simpa [k3] using this
   obtain ⟨z2, hz2, _, wf2⟩ := DataW.trod_int Tryz.underlying3 g2
   have bd2 := bounds_i64 wf2
   simp at hz2
   subst hz2
   exact ⟨⟨z0, z1, z2⟩, rfl, bd0, bd1, bd2⟩
set_option maxRecDepth 100000 in
theorem open_dus {fuel : Nat} {cs : List Value} {x : DataW H × List MemPlace} (h : DataW.trod enc Tryz.prog w base spare held fuel 25 cs = some x) : ∃ A n c l, cs = [.slice A n c] ∧ Recs encD 3 w A n c l ∧ ∀ o ∈ l, (in64 o.a ∧ in64 o.b ∧ in64 o.s) := by
 rcases open_slice Tryz.underlying25 h with ⟨hcs, _⟩ | ⟨a, l, c, m, nf, D, Pl', hcs, hb, hl, hm, hmm, hx, hi⟩
 ·exact ⟨none, 0, 0, [], hcs, ⟨rfl, Nat.le_refl _, Nat.zero_le _, rfl, Cells.nil, fun _ => ⟨rfl, rfl⟩⟩, fun x hx => by simp at hx⟩
 ·have hlm : l ≤ m := by rw [hmm]; split <;> omega
  have each : ∀ i, i < m → ∃ o : Du, (∀ j u, (encD o)[j]? = some u → w.cell? (a.add (i * 3 + j)) = some u) ∧ (in64 o.a ∧ in64 o.b ∧ in64 o.s) := by
   intro i him
   obtain ⟨cs', hc, ht'⟩ := hi i him
   rw [k47] at hc
   obtain ⟨o, rfl, hw⟩ := du_trod ht'
   obtain ⟨_, hcl, hat⟩ := World.cells?_some hc
   refine ⟨o, fun j u hu => ?_, hw⟩
   have hj := (List.getElem?_eq_some_iff.1 hu)
   obtain ⟨hj1, hj2⟩ := hj
   have h1 := hat j (by simpa [hcl] using hj1)
   rw [Go.Deep.add_add] at h1
   rw [h1, ← hj2]
   simp
  obtain ⟨f, hf⟩ : ∃ f : Nat → Du, ∀ i, i < m → (∀ j u, (encD (f i))[j]? = some u → w.cell? (a.add (i * 3 + j)) = some u) ∧ (in64 (f i).a ∧ in64 (f i).b ∧ in64 (f i).s) :=
   ⟨fun i => if h : i < m then Classical.choose (each i h) else ⟨0, 0, 0⟩, fun i hi => by
    have := Classical.choose_spec (each i hi)
    simp only [dif_pos hi]
    exact this⟩
  refine ⟨some a, l, c, (List.range l).map f, hcs, ⟨by simp, hl, hm, by rw [WageRec.flat_len encD_ok]; simp, fun hne => ?_, fun h => by cases h⟩, fun s hs => ?_⟩
  ·have h0l : 0 < l := by
    rcases Nat.eq_zero_or_pos l with h | h
    ·subst h; exact absurd rfl hne
    ·exact h
   have h0 := (hf 0 (by omega)).1 0 _ rfl
   rw [Nat.zero_mul] at h0
   obtain ⟨b, o, rfl⟩ := plain_row h0
   refine ⟨b, o, rfl, fun j u hu => ?_⟩
   have hjl : j < l * 3 := by have := (List.getElem?_eq_some_iff.1 hu).1; rw [WageRec.flat_len encD_ok] at this; simpa using this
   have hk : j / 3 < l := by omega
   have hs : ((List.range l).map f)[j / 3]? = some (f (j / 3)) := by rw [List.getElem?_map, List.getElem?_range hk]; rfl
   have hlen : j % 3 < (encD (f (j / 3))).length := by have : (encD (f (j / 3))).length = 3 := rfl; omega
   have hu' := WageRec.flat_at encD_ok hs (List.getElem?_eq_getElem hlen)
   rw [show j / 3 * 3 + j % 3 = j by omega, hu] at hu'
   have := (hf (j / 3) (by omega)).1 (j % 3) _ (List.getElem?_eq_getElem hlen)
   rw [addr_add_plain, show j / 3 * 3 + j % 3 = j by omega] at this
   rw [this, hu']
  ·obtain ⟨i, hi', rfl⟩ := List.mem_map.1 hs
   exact (hf i (by have := List.mem_range.1 hi'; omega)).2
set_option maxRecDepth 100000 in
theorem wo_trod {fuel : Nat} {cs : List Value} {x : DataW H × List MemPlace} (h : DataW.trod enc Tryz.prog w base spare held fuel 56 cs = some x) : ∃ o : Wo, cs = encW o ∧ (Spans w o.A o.n o.c o.aw ∧ in64 o.sk ∧ in64 o.wg) := by
 obtain ⟨ys, n', hn', hy, hlen, hyl, hf⟩ := DataW.trod_struct Tryz.underlying56 h
 rw [k56] at hlen
 match cs, hlen with
 | [v0, v1, v2, v3, v4], _ =>
  match ys, hyl with
  | [y0, y1, y2, y3, y4], _ =>
   have g0 : DataW.trod enc Tryz.prog w base spare held n' 9 [v0] = some y0 := by have := hf 0 _ rfl; simpa [k9] using this
   obtain ⟨z0, hz0, _, wf0⟩ := DataW.trod_string Tryz.underlying9 g0
   simp at hz0
   subst hz0
   have g1 : DataW.trod enc Tryz.prog w base spare held n' 3 [v1] = some y1 := by have := hf 1 _ rfl; simpa [k3] using this
   obtain ⟨z1, hz1, _, wf1⟩ := DataW.trod_int Tryz.underlying3 g1
   have bd1 := bounds_i64 wf1
   simp at hz1
   subst hz1
   have g2 : DataW.trod enc Tryz.prog w base spare held n' 4 [v2] = some y2 := by have := hf 2 _ rfl; simpa [k4] using this
   obtain ⟨z2, hz2, _⟩ := DataW.trod_bool Tryz.underlying4 g2
   simp at hz2
   subst hz2
   have g3 : DataW.trod enc Tryz.prog w base spare held n' 3 [v3] = some y3 := by have := hf 3 _ rfl; simpa [k3] using this
   obtain ⟨z3, hz3, _, wf3⟩ := DataW.trod_int Tryz.underlying3 g3
   have bd3 := bounds_i64 wf3
   simp at hz3
   subst hz3
   have g4 : DataW.trod enc Tryz.prog w base spare held n' 54 [v4] = some y4 := by have := hf 4 _ rfl; simpa [k54] using this
   obtain ⟨A4, n4, c4, l4, hz4, wf4⟩ := open_sps g4
   simp at hz4
   subst hz4
   exact ⟨⟨z0, z1, z2, z3, A4, n4, c4, l4⟩, rfl, spans_enc wf4.1 wf4.2, bd1, bd3⟩
set_option maxRecDepth 100000 in
theorem open_wos {fuel : Nat} {cs : List Value} {x : DataW H × List MemPlace} (h : DataW.trod enc Tryz.prog w base spare held fuel 26 cs = some x) : ∃ A n c l, cs = [.slice A n c] ∧ Recs encW 5 w A n c l ∧ ∀ o ∈ l, (Spans w o.A o.n o.c o.aw ∧ in64 o.sk ∧ in64 o.wg) := by
 rcases open_slice Tryz.underlying26 h with ⟨hcs, _⟩ | ⟨a, l, c, m, nf, D, Pl', hcs, hb, hl, hm, hmm, hx, hi⟩
 ·exact ⟨none, 0, 0, [], hcs, ⟨rfl, Nat.le_refl _, Nat.zero_le _, rfl, Cells.nil, fun _ => ⟨rfl, rfl⟩⟩, fun x hx => by simp at hx⟩
 ·have hlm : l ≤ m := by rw [hmm]; split <;> omega
  have each : ∀ i, i < m → ∃ o : Wo, (∀ j u, (encW o)[j]? = some u → w.cell? (a.add (i * 5 + j)) = some u) ∧ (Spans w o.A o.n o.c o.aw ∧ in64 o.sk ∧ in64 o.wg) := by
   intro i him
   obtain ⟨cs', hc, ht'⟩ := hi i him
   rw [k56] at hc
   obtain ⟨o, rfl, hw⟩ := wo_trod ht'
   obtain ⟨_, hcl, hat⟩ := World.cells?_some hc
   refine ⟨o, fun j u hu => ?_, hw⟩
   have hj := (List.getElem?_eq_some_iff.1 hu)
   obtain ⟨hj1, hj2⟩ := hj
   have h1 := hat j (by simpa [hcl] using hj1)
   rw [Go.Deep.add_add] at h1
   rw [h1, ← hj2]
   simp
  obtain ⟨f, hf⟩ : ∃ f : Nat → Wo, ∀ i, i < m → (∀ j u, (encW (f i))[j]? = some u → w.cell? (a.add (i * 5 + j)) = some u) ∧ (Spans w (f i).A (f i).n (f i).c (f i).aw ∧ in64 (f i).sk ∧ in64 (f i).wg) :=
   ⟨fun i => if h : i < m then Classical.choose (each i h) else ⟨ByteArray.empty, 0, false, 0, none, 0, 0, []⟩, fun i hi => by
    have := Classical.choose_spec (each i hi)
    simp only [dif_pos hi]
    exact this⟩
  refine ⟨some a, l, c, (List.range l).map f, hcs, ⟨by simp, hl, hm, by rw [WageRec.flat_len encW_ok]; simp, fun hne => ?_, fun h => by cases h⟩, fun s hs => ?_⟩
  ·have h0l : 0 < l := by
    rcases Nat.eq_zero_or_pos l with h | h
    ·subst h; exact absurd rfl hne
    ·exact h
   have h0 := (hf 0 (by omega)).1 0 _ rfl
   rw [Nat.zero_mul] at h0
   obtain ⟨b, o, rfl⟩ := plain_row h0
   refine ⟨b, o, rfl, fun j u hu => ?_⟩
   have hjl : j < l * 5 := by have := (List.getElem?_eq_some_iff.1 hu).1; rw [WageRec.flat_len encW_ok] at this; simpa using this
   have hk : j / 5 < l := by omega
   have hs : ((List.range l).map f)[j / 5]? = some (f (j / 5)) := by rw [List.getElem?_map, List.getElem?_range hk]; rfl
   have hlen : j % 5 < (encW (f (j / 5))).length := by have : (encW (f (j / 5))).length = 5 := rfl; omega
   have hu' := WageRec.flat_at encW_ok hs (List.getElem?_eq_getElem hlen)
   rw [show j / 5 * 5 + j % 5 = j by omega, hu] at hu'
   have := (hf (j / 5) (by omega)).1 (j % 5) _ (List.getElem?_eq_getElem hlen)
   rw [addr_add_plain, show j / 5 * 5 + j % 5 = j by omega] at this
   rw [this, hu']
  ·obtain ⟨i, hi', rfl⟩ := List.mem_map.1 hs
   exact (hf i (by have := List.mem_range.1 hi'; omega)).2
set_option maxRecDepth 100000 in
theorem zo_trod {fuel : Nat} {cs : List Value} {x : DataW H × List MemPlace} (h : DataW.trod enc Tryz.prog w base spare held fuel 24 cs = some x) : ∃ nm zb C n c l, cs = [.string nm, .int .i64 zb, .slice C n c] ∧ Spans w C n c l ∧ in64 zb := by
 obtain ⟨ys, n', hn', hy, hlen, hyl, hf⟩ := DataW.trod_struct Tryz.underlying24 h
 rw [k24] at hlen
 match cs, hlen with
 | [v0, v1, v2], _ =>
  match ys, hyl with
  | [y0, y1, y2], _ =>
   have g0 : DataW.trod enc Tryz.prog w base spare held n' 9 [v0] = some y0 := by have := hf 0 _ rfl; simpa [k9] using this
   obtain ⟨z0, hz0, _, wf0⟩ := DataW.trod_string Tryz.underlying9 g0
   simp at hz0
   subst hz0
   have g1 : DataW.trod enc Tryz.prog w base spare held n' 3 [v1] = some y1 := by have := hf 1 _ rfl; simpa [k3] using this
   obtain ⟨z1, hz1, _, wf1⟩ := DataW.trod_int Tryz.underlying3 g1
   have bd1 := bounds_i64 wf1
   simp at hz1
   subst hz1
   have g2 : DataW.trod enc Tryz.prog w base spare held n' 22 [v2] = some y2 := by have := hf 2 _ rfl; simpa [k22] using this
   obtain ⟨A2, n2, c2, l2, hz2, wf2⟩ := open_chs g2
   simp at hz2
   subst hz2
   exact ⟨z0, z1, A2, n2, c2, l2, rfl, spans_enc wf2.1 wf2.2, bd1⟩
set_option maxRecDepth 100000 in
theorem lm_trod {fuel : Nat} {cs : List Value} {x : DataW H × List MemPlace} (h : DataW.trod enc Tryz.prog w base spare held fuel 30 cs = some x) : ∃ o : Lm, cs = [.int .i64 o.rest, .int .i64 o.week, .int .i64 o.nf, .int .i64 o.nt, .int .i64 o.mn] ∧ in64 o.rest ∧ in64 o.week ∧ in64 o.nf ∧ in64 o.nt ∧ in64 o.mn := by
 obtain ⟨ys, n', hn', hy, hlen, hyl, hf⟩ := DataW.trod_struct Tryz.underlying30 h
 rw [k30] at hlen
 match cs, hlen with
 | [v0, v1, v2, v3, v4], _ =>
  match ys, hyl with
  | [y0, y1, y2, y3], _ =>
   have g0 : DataW.trod enc Tryz.prog w base spare held n' 3 [v0] = some y0 := by have := hf 0 _ rfl; simpa [k3] using this
   obtain ⟨z0, hz0, _, wf0⟩ := DataW.trod_int Tryz.underlying3 g0
   have bd0 := bounds_i64 wf0
   simp at hz0
   subst hz0
   have g1 : DataW.trod enc Tryz.prog w base spare held n' 3 [v1] = some y1 := by have := hf 1 _ rfl; simpa [k3] using this
   obtain ⟨z1, hz1, _, wf1⟩ := DataW.trod_int Tryz.underlying3 g1
   have bd1 := bounds_i64 wf1
   simp at hz1
   subst hz1
   have g2 : DataW.trod enc Tryz.prog w base spare held n' 28 [v2, v3] = some y2 := by have := hf 2 _ rfl; simpa [k28] using this
   obtain ⟨o2, hz2, wf2⟩ := sp_trod g2
   unfold encS at hz2
   simp at hz2
   obtain ⟨rfl, rfl⟩ := hz2
   have g3 : DataW.trod enc Tryz.prog w base spare held n' 3 [v4] = some y3 := by have := hf 3 _ rfl; simpa [k3] using this
   obtain ⟨z3, hz3, _, wf3⟩ := DataW.trod_int Tryz.underlying3 g3
   have bd3 := bounds_i64 wf3
   simp at hz3
   subst hz3
   exact ⟨⟨z0, z1, o2.1, o2.2, z3⟩, rfl, bd0, bd1, wf2.1, wf2.2, bd3⟩
set_option maxRecDepth 100000 in
theorem pl_trod {fuel : Nat} {cs : List Value} {x : DataW H × List MemPlace} (h : DataW.trod enc Tryz.prog w base spare held fuel 32 cs = some x) : ∃ p : Pl, cs = planC p ∧ PlanAt w p := by
 obtain ⟨ys, n', hn', hy, hlen, hyl, hf⟩ := DataW.trod_struct Tryz.underlying32 h
 rw [k32] at hlen
 match cs, hlen with
 | [v0, v1, v2, v3, v4, v5, v6, v7, v8, v9], _ =>
  match ys, hyl with
  | [y0, y1, y2, y3], _ =>
   have g0 : DataW.trod enc Tryz.prog w base spare held n' 24 [v0, v1, v2] = some y0 := by have := hf 0 _ rfl; simpa [k24] using this
   obtain ⟨nm, zb, C, cn, cc, ch, hz0, hch, hzb⟩ := zo_trod g0
   simp at hz0
   obtain ⟨rfl, rfl, rfl⟩ := hz0
   have g1 : DataW.trod enc Tryz.prog w base spare held n' 25 [v3] = some y1 := by have := hf 1 _ rfl; simpa [k25] using this
   obtain ⟨A1, n1, c1, l1, hz1, wf1⟩ := open_dus g1
   simp at hz1
   subst hz1
   have g2 : DataW.trod enc Tryz.prog w base spare held n' 26 [v4] = some y2 := by have := hf 2 _ rfl; simpa [k26] using this
   obtain ⟨A2, n2, c2, l2, hz2, wf2⟩ := open_wos g2
   simp at hz2
   subst hz2
   have g3 : DataW.trod enc Tryz.prog w base spare held n' 30 [v5, v6, v7, v8, v9] = some y3 := by have := hf 3 _ rfl; simpa [k30] using this
   obtain ⟨o3, hz3, hlm⟩ := lm_trod g3
   simp at hz3
   obtain ⟨rfl, rfl, rfl, rfl, rfl⟩ := hz3
   exact ⟨⟨nm, zb, C, cn, cc, ch, A1, n1, c1, l1, A2, n2, c2, l2, o3⟩, rfl, hch, wf1, wf2, hzb, hlm⟩
set_option maxRecDepth 100000 in
theorem open_planArg {v : Value} {d : DataW H} {p : List MemPlace} {r : Reach} {b0 : Nat} (hv : Value.okWide Tryz.prog w r b0 32 v) (h : DataW.Trod enc Tryz.prog w base spare held 32 v d p) : ∃ o : Pl, v = planV o ∧ PlanAt w o := by
 obtain ⟨cs, rfl, hsz⟩ := okWide_struct Tryz.underlying32 hv
 obtain ⟨fuel, hf⟩ := h
 obtain ⟨o, ho, hw⟩ := pl_trod hf
 refine ⟨o, ?_, hw⟩
 have : cs = (planC o).toArray := by
  apply Array.toList_inj.1
  simpa [Value.cells] using ho
 rw [this]
 rfl
end
end Go.Proofs.YtnnbibmmofnkdaaGreat
namespace Go.Proofs.YtnnbibmmofnkdaaGreat
open Go.ChangeShapes Go.WideShapes Go.ChangeAt Go.RowKit Go.Deep Go.Joins Go.Proofs WageMem WageReg WageRec WageSpan WageTop
section
variable {H : Type} {enc : TypeId × Value → H} {w : World} {base : Nat} {spare : Nat → Bool} {held : Bool}
theorem add_at (b o i : Nat) : (⟨b, o, none⟩ : Addr).add i = ⟨b, o + i, none⟩ := by
 unfold Addr.add; split
 ·rename_i h; subst h; rfl
 ·rfl
/-- The bytes of numbers. -/
def toBytes (zs : List Int) : List UInt8 := zs.map fun z => UInt8.ofNat z.toNat
theorem byte_of {z : Int} (h : (Lit.int .u8 z).wf = true) : ((UInt8.ofNat z.toNat).toNat : Int) = z := by
 have hb := bounds_u8 h
 rw [UInt8.toNat_ofNat']
 omega
set_option maxRecDepth 100000 in
theorem open_bytes {fuel : Nat} {cs : List Value} {x : DataW H × List MemPlace} (h : DataW.trod enc Tryz.prog w base spare held fuel 65 cs = some x) : ∃ A n c bs, cs = [.slice A n c] ∧ Bytes w A n c bs := by
 rcases open_ints Tryz.underlying65 Tryz.underlying5 (by kernel_rfl) h with ⟨hcs, _⟩ | ⟨a, l, c, zs, hcs, _, hl, hm, hz, _, hcell, hwz⟩
 ·exact ⟨none, 0, 0, [], hcs, rfl, Nat.le_refl _, Nat.zero_le _, rfl, Cells.nil, fun _ => ⟨rfl, rfl⟩⟩
 ·have hlz : l ≤ zs.length := by rw [hz]; split <;> omega
  refine ⟨some a, l, c, toBytes (zs.take l), hcs, by unfold toBytes; simp; omega, hl, hm, by unfold toBytes; simp; omega, fun hne => ?_, fun h => by cases h⟩
  have h0 : 0 < l := by
   rcases Nat.eq_zero_or_pos l with h | h
   ·subst h; exact absurd rfl hne
   ·exact h
  obtain ⟨b, o, rfl⟩ := plain_row (hcell 0 (by omega))
  refine ⟨b, o, rfl, fun j u hu => ?_⟩
  unfold toBytes at hu
  rw [List.map_map, List.getElem?_map] at hu
  cases hj : (zs.take l)[j]? with
  | none => rw [hj] at hu; cases hu
  | some z =>
   rw [hj] at hu
   have hu' : bv (UInt8.ofNat z.toNat) = u := by simpa using hu
   rw [List.getElem?_take] at hj
   split at hj
   ·rename_i hjl
    have hjz : j < zs.length := by omega
    have hc := hcell j hjz
    rw [add_at] at hc
    have hzd : zs.getD j 0 = z := by rw [List.getD_eq_getElem?_getD, hj]; rfl
    rw [hc, hzd, ← hu']
    unfold bv
    rw [byte_of (hwz z (List.mem_of_getElem? hj))]
   ·cases hj
set_option maxRecDepth 100000 in
theorem open_byteArg {v : Value} {d : DataW H} {p : List MemPlace} {r : Reach} {b0 : Nat} (hv : Value.okWide Tryz.prog w r b0 65 v) (h : DataW.Trod enc Tryz.prog w base spare held 65 v d p) : ∃ A n c bs, v = .slice A n c ∧ Bytes w A n c bs := by
 obtain ⟨a, l, c, rfl⟩ := okWide_slice Tryz.underlying65 hv
 obtain ⟨fuel, hf⟩ := h
 obtain ⟨A, n, c', bs, e, hB⟩ := open_bytes hf
 simp [Value.cells] at e
 obtain ⟨rfl, rfl, rfl⟩ := e
 exact ⟨_, _, _, bs, rfl, hB⟩
end
end Go.Proofs.YtnnbibmmofnkdaaGreat
