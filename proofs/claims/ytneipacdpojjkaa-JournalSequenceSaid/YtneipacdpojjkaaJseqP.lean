/-
  Records that are appended one after the other: plain laws; a slice of slices of bytes that came in.
-/
import Derived.Test.YtneipacdpojjkaaJlawB
import Derived.Test.YtneipacdpojjkaaOpen
import Derived.Test.YtneipacdpojjkaaIndep
namespace Go.Proofs.Ytneipacdpojjkaa
open Go.ChangeShapes Go.WideShapes Go.ChangeAt Go.RowKit Go.Deep Go.Joins Go.Proofs WageMem WageDisk

section
variable {H : Type} {enc : TypeId × Value → H} {w : World} {base : Nat} {spare : Nat → Bool} {held : Bool}
theorem open_lists {fuel : Nat} {cs : List Value} {x : DataW H × List MemPlace} (h : DataW.trod enc Try.prog w base spare held fuel 49 cs = some x) : ∃ A n c ls, cs = [.slice A n c] ∧ Lists w A n c ls := by
  rcases open_slice Try.underlying49 h with ⟨hcs, _⟩ | ⟨a, l, c, m, nf, D, Pl, hcs, hb, hl, hm, hmm, hx, hi⟩
  · exact ⟨none, 0, 0, [], hcs, Lists.none_⟩
  · have hlm : l ≤ m := by rw [hmm]; split <;> omega
    have hC : Try.prog.cellsOf 22 = 1 := by kernel_rfl
    have each : ∀ i, i < m → ∃ bs : List UInt8, ∃ A' n' c', w.cell? (a.add i) = some (.slice A' n' c') ∧ Bytes w A' n' c' bs := by
      intro i him
      obtain ⟨cs', hc, ht'⟩ := hi i him
      rw [hC] at hc
      obtain ⟨A', n2, c2, bs, hs, hB⟩ := open_bytes ht'
      obtain ⟨_, hcl, hat⟩ := World.cells?_some hc
      subst hs
      have h0 := hat 0 (by decide)
      rw [Go.Deep.add_add] at h0
      exact ⟨bs, A', n2, c2, by simpa using h0, hB⟩
    obtain ⟨f, hf⟩ : ∃ f : Nat → List UInt8, ∀ i, i < m → ∃ A' n' c', w.cell? (a.add i) = some (.slice A' n' c') ∧ Bytes w A' n' c' (f i) :=
      ⟨fun i => if h : i < m then Classical.choose (each i h) else [], fun i hi => by
        have := Classical.choose_spec (each i hi)
        simp only [dif_pos hi]
        exact this⟩
    refine ⟨some a, l, c, (List.range l).map f, hcs, by simp, hl, hm, (fun h => by cases h), fun hl0 => ?_⟩
    obtain ⟨_, _, _, h0, _⟩ := hf 0 (by omega)
    obtain ⟨b, o, rfl⟩ := plain_row h0
    refine ⟨b, o, rfl, fun j x hx => ?_⟩
    rw [List.getElem?_map] at hx
    have hj : j < l := by
      rcases Nat.lt_or_ge j l with h | h
      · exact h
      · rw [List.getElem?_eq_none (by simpa using h)] at hx; cases hx
    rw [List.getElem?_eq_getElem (by simpa using hj)] at hx
    simp at hx
    subst hx
    obtain ⟨A', n', c', h4, h5⟩ := hf j (by omega)
    rw [add_plain] at h4
    exact ⟨A', n', c', h4, h5⟩
theorem open_listArg {v : Value} {d : DataW H} {p : List MemPlace} {r : Reach} {b0 : Nat} (hv : Value.okWide Try.prog w r b0 49 v) (h : DataW.Trod enc Try.prog w base spare held 49 v d p) : ∃ A n c ls, v = .slice A n c ∧ Lists w A n c ls := by
  obtain ⟨a, l, c, rfl⟩ := okWide_slice Try.underlying49 hv
  obtain ⟨fuel, hf⟩ := h
  obtain ⟨A, n, c', bs, e, hB⟩ := open_lists hf
  simp [Value.cells] at e
  obtain ⟨rfl, rfl, rfl⟩ := e
  exact ⟨_, _, _, bs, rfl, hB⟩
end

/-- A disk that holds exactly these records. -/
structure Seq (d : Ds) (size : Nat) (want : List (List UInt8)) (sum : Nat) : Prop where
  valid : validB d = true
  len : d.st.length = size
  recs : jRecs d = want
  end_ : jEnd d = sum
theorem Seq.new {s : Nat} (hs : s ≤ 4000) : Seq (newD s) s [] 0 := by
  have hd : newD s = ⟨List.replicate s 0, []⟩ := by unfold newD; rw [if_pos (by omega)]; simp
  rw [hd]
  have hv : validB ⟨List.replicate s 0, []⟩ = true := by
    unfold validB
    rw [decide_eq_true ⟨by show (List.replicate s (0 : UInt8)).length ≤ 65536; rw [List.length_replicate]; omega, by show 0 ≤ 64; omega⟩]; rfl
  have hn : recAt (List.replicate s 0) 0 ([] : List (Nat × Nat)).length = none := by
    rcases Nat.eq_zero_or_pos s with rfl | h
    · exact recAt_short (by simp)
    · exact recAt_zero (by rw [List.getElem?_replicate, if_pos h])
  obtain ⟨p1, p2⟩ := places_of (.nil 0 0) hn
  have hb : bytesD ⟨List.replicate s 0, []⟩ = List.replicate s 0 := rfl
  refine ⟨hv, by simp, ?_, ?_⟩
  · unfold jRecs recsOf; rw [hv, hb, p1]; rfl
  · unfold jEnd; rw [hv, hb, p2]; rfl
theorem Seq.step {d : Ds} {size : Nat} {want : List (List UInt8)} {sum : Nat} (h : Seq d size want sum) {r : List UInt8} (h1 : 1 ≤ r.length) (h2 : r.length ≤ 1000) (hf : sum + (13 + r.length) ≤ size) :
    appE d r = 0 ∧ Seq (appD d r) size (want ++ [r]) (sum + (13 + r.length)) := by
  have hfit : fitsB d r = true := by unfold fitsB; rw [h.end_, h.len, decide_eq_true (by omega), decide_eq_true hf]; rfl
  have hda : appD d r = ⟨appB d r, []⟩ := by unfold appD; rw [h.valid, decide_eq_true (show 0 < r.length by omega), hfit]; rfl
  have hl : (appB d r).length = d.st.length := stg_len h.valid hfit 3 (Nat.le_refl _)
  have hs := (valid_size h.valid).1
  have hav : validB ⟨appB d r, []⟩ = true := by
    unfold validB
    rw [decide_eq_true ⟨by show (appB d r).length ≤ 65536; omega, by show 0 ≤ 64; omega⟩]; rfl
  obtain ⟨r1, r2, _⟩ := app_recs h.valid h1 hfit
  have e2 : jRecs d = recsOf (bytesD d) := by unfold jRecs; rw [h.valid, if_pos rfl]
  have e3 : jEnd d = endAt (bytesD d) := by unfold jEnd; rw [h.valid, if_pos rfl]
  refine ⟨by unfold appE; rw [h.valid, decide_eq_true (show 0 < r.length by omega), hfit]; rfl, ?_⟩
  rw [hda]
  refine ⟨hav, by show (appB d r).length = size; rw [hl, h.len], ?_, ?_⟩
  · unfold jRecs; rw [hav, if_pos rfl]; show recsOf (appB d r) = _; rw [r1, ← e2, h.recs]
  · unfold jEnd; rw [hav, if_pos rfl]; show endAt (appB d r) = _; rw [r2, ← e3, h.end_]
theorem Seq.full {d : Ds} {size : Nat} {want : List (List UInt8)} {sum : Nat} (h : Seq d size want sum) {r : List UInt8} (h1 : 1 ≤ r.length) (hf : ¬ sum + (13 + r.length) ≤ size) : appE d r = 2 := by
  have hfit : fitsB d r = false := by unfold fitsB; rw [h.end_, h.len, decide_eq_false hf, Bool.and_false]
  unfold appE; rw [h.valid, decide_eq_true (show 0 < r.length by omega), hfit]; rfl
/-- Slices that came in, gathered. -/
def Gots (w : World) (vs : List Value) (ls : List (List UInt8)) : Prop := vs.length = ls.length ∧ ∀ (j : Nat) (r : List UInt8), ls[j]? = some r → ∃ (A : Option Addr) (n c : Nat), vs[j]? = some (.slice A n c) ∧ Bytes w A n c r
theorem Gots.nil {w : World} : Gots w [] [] := ⟨rfl, fun j r hr => by simp at hr⟩
theorem Gots.snoc {w : World} {vs : List Value} {ls : List (List UInt8)} (h : Gots w vs ls) {A : Option Addr} {n c : Nat} {r : List UInt8} (hb : Bytes w A n c r) : Gots w (vs ++ [.slice A n c]) (ls ++ [r]) := by
  refine ⟨by rw [List.length_append, List.length_append, h.1]; rfl, fun j x hx => ?_⟩
  by_cases hj : j < ls.length
  · rw [List.getElem?_append_left hj] at hx
    obtain ⟨A', n', c', h1, h2⟩ := h.2 j x hx
    exact ⟨A', n', c', by rw [List.getElem?_append_left (by rw [h.1]; exact hj)]; exact h1, h2⟩
  · rw [List.getElem?_append_right (by omega)] at hx
    have hj0 : j - ls.length = 0 := by
      have := (List.getElem?_eq_some_iff.1 hx).1
      simp at this; omega
    rw [hj0] at hx
    simp at hx
    subst hx
    exact ⟨A, n, c, by rw [List.getElem?_append_right (by rw [h.1]; omega), h.1, hj0]; rfl, hb⟩
theorem Gots.lists {w W : World} {base : Nat} {vs : List Value} {ls : List (List UInt8)} {Al : Option Addr} {n cl : Nat} (h : Gots w vs ls) (ho : W.ownsRow base 22 1 (.slice Al n cl) n vs) (hn : ls.length = n) (g : Grew w W) : Lists W Al n cl ls := by
  have hs := Sl.own ho
  refine ⟨hn, hs.1, hs.2.1, hs.2.2.2.2, fun h0 => ?_⟩
  obtain ⟨b, o, e, hc⟩ := hs.2.2.2.1 (by intro h1; have := h.1; rw [h1] at this; simp at this; omega)
  refine ⟨b, o, e, fun j r hr => ?_⟩
  obtain ⟨A, n', c, h1, h2⟩ := h.2 j r hr
  exact ⟨A, n', c, hc j _ h1, h2.grew g⟩
end Go.Proofs.Ytneipacdpojjkaa
