/-
  A disk that is being built: its stable bytes are copied, its writes are appended one after the other.
-/
import Derived.Test.YtneipacdpojjkaaOps
namespace Go.Proofs.Ytneipacdpojjkaa
open Go.RowKit Go.Proofs WageMem WageDisk

section
variable {w w' : World} {base : Nat} {e : TypeId} {size : Nat} {v : Value} {n : Nat} {xs : List Value}
theorem own_ne_type (h : w.ownsRow base e size v n xs) {R : Nat} {cs : Array Value} {t : TypeId} (hR : w.heap[R]? = some (.cells cs t (0, 0))) (hne : e ≠ t) : v.ownBlock ≠ some R := by
  rcases h.2 with ⟨rfl, _⟩ | ⟨g, cap, cur, rfl, _, hg, _⟩
  · simp [Value.ownBlock]
  · intro he
    have : g = R := by simpa [Value.ownBlock] using he
    subst this
    rw [hg] at hR
    injection hR with hR
    injection hR with _ ht
    exact hne ht
theorem own_grew (h : w.ownsRow base e size v n xs) (g : Grew w w') : w'.ownsRow base e size v n xs := by
  refine h.kept (row := none) ⟨g.os, g.tape, g.output, g.size, fun k hk _ => g.below.block k hk⟩ ?_
  cases hb : v.ownBlock with
  | none => exact .inl rfl
  | some b => exact .inr (by simp)
theorem own_far (h : w.ownsRow base e size v n xs) {R : Nat} {cs : Array Value} {t : TypeId} (hR : w.heap[R]? = some (.cells cs t (0, 0))) (hne : e ≠ t) (i : Nat) (u : Value) : (w.setCell ⟨R, i, none⟩ u).ownsRow base e size v n xs := by
  have hg : w.grownBy (w.setCell ⟨R, i, none⟩ u) (some R) := ⟨rfl, rfl, rfl, by simp [World.setCell], fun k _ hk => Below.heap_setCell _ _ _ _ (fun e => hk (by rw [e]))⟩
  exact h.kept hg (.inr (own_ne_type h hR hne))
theorem own_grown (h : w.ownsRow base e size v n xs) {base' : Nat} {e' : TypeId} {size' : Nat} {v' : Value} {n' : Nat} {xs' : List Value} (h' : w.ownsRow base' e' size' v' n' xs') (hne : e ≠ e') (hg : w.grownBy w' v'.ownBlock) : w'.ownsRow base e size v n xs := by
  rcases h'.2 with ⟨rfl, _⟩ | ⟨g, cap, cur, rfl, _, hb, _⟩
  · refine h.kept hg ?_
    cases hb : v.ownBlock with
    | none => exact .inl rfl
    | some b => exact .inr (by simp [Value.ownBlock])
  · exact h.kept hg (.inr (own_ne_type h hb hne))
theorem blk_grown {R : Nat} {cs : Array Value} {t : TypeId} (hR : w.heap[R]? = some (.cells cs t (0, 0))) (h : w.ownsRow base e size v n xs) (hne : e ≠ t) (hg : w.grownBy w' v.ownBlock) : w'.heap[R]? = some (.cells cs t (0, 0)) :=
  (hg.block R (Array.getElem?_eq_some_iff.1 hR).1 (fun he => own_ne_type h hR hne he.symm)).trans hR
end

/-- The cells of writes whose data are the slices vs. -/
def pcells (ws : List Wr) (vs : List Value) : List Value := (List.zipWith (fun x v => [Value.int .i64 x.off, v]) ws vs).flatten
theorem pcells_snoc {ws : List Wr} {vs : List Value} (h : ws.length = vs.length) (x : Wr) (v : Value) : pcells (ws ++ [x]) (vs ++ [v]) = pcells ws vs ++ [.int .i64 x.off, v] := by
  unfold pcells
  rw [List.zipWith_append h, List.flatten_append]
  simp
theorem pcells_at : ∀ {ws : List Wr} {vs : List Value} {j : Nat} {x : Wr} {v : Value}, ws[j]? = some x → vs[j]? = some v → (pcells ws vs)[j * 2]? = some (.int .i64 x.off) ∧ (pcells ws vs)[j * 2 + 1]? = some v
  | [], _, _, _, _, h, _ => by simp at h
  | _ :: _, [], _, _, _, _, h => by simp at h
  | y :: ws, u :: vs, 0, x, v, h1, h2 => by
    simp at h1 h2
    subst h1 h2
    exact ⟨rfl, rfl⟩
  | y :: ws, u :: vs, j + 1, x, v, h1, h2 => by
    have ih := pcells_at (ws := ws) (vs := vs) (j := j) (by simpa using h1) (by simpa using h2)
    have e : pcells (y :: ws) (u :: vs) = .int .i64 y.off :: u :: pcells ws vs := rfl
    rw [e, show (j + 1) * 2 = j * 2 + 1 + 1 by omega]
    simpa using ih

structure Build (base : Nat) (w wr : World) (R : Nat) (As : Option Addr) (n cs : Nat) (sb : List UInt8) (Ap : Option Addr) (k cp : Nat) (ws : List Wr) (vs : List Value) : Prop where
  blk : wr.heap[R]? = some (.cells #[.slice As n cs, .slice Ap k cp] 25 (0, 0))
  st : wr.ownsRow base 5 1 (.slice As n cs) n (sb.map bv)
  len : ws.length = k ∧ vs.length = k ∧ sb.length = n
  pe : wr.ownsRow base 45 2 (.slice Ap k cp) k (pcells ws vs)
  datas : ∀ (j : Nat) (x : Wr), ws[j]? = some x → (-9223372036854775808 ≤ x.off ∧ x.off ≤ 9223372036854775807) ∧ ∃ A m c, vs[j]? = some (.slice A m c) ∧ x.data.length = m ∧ wr.ownsRow base 5 1 (.slice A m c) m (x.data.map bv)
  grew : Grew w wr
  fresh : w.heap.size ≤ base ∧ w.heap.size ≤ R

section
variable {base : Nat} {w wr : World} {R : Nat} {As : Option Addr} {n cs : Nat} {st : List UInt8} {Ap : Option Addr} {k cp : Nat} {ws : List Wr} {vs : List Value}
theorem Build.later (h : Build base w wr R As n cs st Ap k cp ws vs) {w2 : World} (g : Grew wr w2) : Build base w w2 R As n cs st Ap k cp ws vs :=
  ⟨g.block h.blk, own_grew h.st g, h.len, own_grew h.pe g, fun j x hx => by
    obtain ⟨hb, A, m, c, h1, h2, h3⟩ := h.datas j x hx
    exact ⟨hb, A, m, c, h1, h2, own_grew h3 g⟩, h.grew.trans g, h.fresh⟩

theorem Build.step (h : Build base w wr R As n cs st Ap k cp ws vs) {x : Wr} {A6 : Option Addr} {n6 c6 : Nat} (hn6 : x.data.length = n6) (hx : -9223372036854775808 ≤ x.off ∧ x.off ≤ 9223372036854775807)
    (hc : wr.ownsRow base 5 1 (.slice A6 n6 c6) n6 (x.data.map bv)) {w3 : World} {gg cap : Nat} (hp : w3.ownsRow base 45 2 (.slice (some ⟨gg, 0, none⟩) (k + 1) cap) (k + 1) (pcells ws vs ++ [.int .i64 x.off, .slice A6 n6 c6]))
    (hg : wr.grownBy w3 (Value.slice Ap k cp).ownBlock) :
    Build base w (w3.setCell ⟨R, 1, none⟩ (.slice (some ⟨gg, 0, none⟩) (k + 1) cap)) R As n cs st (some ⟨gg, 0, none⟩) (k + 1) cap (ws ++ [x]) (vs ++ [.slice A6 n6 c6]) := by
  have hb3 := blk_grown h.blk h.pe (by decide) hg
  have hl : ws.length = vs.length := by rw [h.len.1, h.len.2.1]
  refine ⟨?_, own_far (own_grown h.st h.pe (by decide) hg) hb3 (by decide) _ _, ⟨by rw [List.length_append, h.len.1]; rfl, by rw [List.length_append, h.len.2.1]; rfl, h.len.2.2⟩, ?_, fun j y hy => ?_, ?_, h.fresh⟩
  · have := heap_setCell_same w3 R 1 _ 25 (.slice (some ⟨gg, 0, none⟩) (k + 1) cap) hb3
    simpa using this
  · rw [pcells_snoc hl]; exact own_far hp hb3 (by decide) _ _
  · by_cases hj : j < ws.length
    · rw [List.getElem?_append_left hj] at hy
      obtain ⟨hb, A, m, c, h1, h2, h3⟩ := h.datas j y hy
      exact ⟨hb, A, m, c, by rw [List.getElem?_append_left (by omega)]; exact h1, h2, own_far (own_grown h3 h.pe (by decide) hg) hb3 (by decide) _ _⟩
    · have hj' : j = ws.length := by
        have := (List.getElem?_eq_some_iff.1 hy).1
        simp at this; omega
      subst hj'
      rw [List.getElem?_append_right (Nat.le_refl _), Nat.sub_self] at hy
      simp at hy
      subst hy
      exact ⟨hx, A6, n6, c6, by rw [hl, List.getElem?_append_right (Nat.le_refl _), Nat.sub_self]; rfl, hn6, own_far (own_grown hc h.pe (by decide) hg) hb3 (by decide) _ _⟩
  · exact (h.grew.grown hg (fun j hj => Nat.le_trans h.fresh.1 (h.pe.lt j hj).1)).set h.fresh.2 _

theorem disk_of_rows (hst : wr.ownsRow base 5 1 (.slice As n cs) n (st.map bv)) (hl : ws.length = k ∧ vs.length = k ∧ st.length = n) (hpe : wr.ownsRow base 45 2 (.slice Ap k cp) k (pcells ws vs))
    (hd : ∀ (j : Nat) (x : Wr), ws[j]? = some x → (-9223372036854775808 ≤ x.off ∧ x.off ≤ 9223372036854775807) ∧ ∃ A m c, vs[j]? = some (.slice A m c) ∧ x.data.length = m ∧ wr.ownsRow base 5 1 (.slice A m c) m (x.data.map bv)) :
    Disk wr (.agg #[.slice As n cs, .slice Ap k cp]) ⟨st, ws⟩ := by
  refine Disk.mk_ (Bytes.own hl.2.2 hst) ?_
  have hs := Sl.own hpe
  refine ⟨hl.1, hs.1, hs.2.1, hs.2.2.2.2, fun hk => ?_⟩
  obtain ⟨b, o, e, hc⟩ := hs.2.2.2.1 (by
    intro h0
    have := hs.2.2.1
    rw [h0] at this; simp at this; omega)
  refine ⟨b, o, e, fun j x hx => ?_⟩
  obtain ⟨hb, A, m, c, h1, h2, h3⟩ := hd j x hx
  have hp := pcells_at hx h1
  exact ⟨hc _ _ hp.1, hb.1, hb.2, A, m, c, by rw [Nat.add_assoc]; exact hc _ _ hp.2, Bytes.own h2 h3⟩
theorem Build.done (h : Build base w wr R As n cs st Ap k cp ws vs) : Disk wr (.agg #[.slice As n cs, .slice Ap k cp]) ⟨st, ws⟩ := disk_of_rows h.st h.len h.pe h.datas
/-- The disk lies in blocks from base on. -/
theorem Build.fresh_ (h : Build base w wr R As n cs st Ap k cp ws vs) : Fresh base wr fun W => Disk W (.agg #[.slice As n cs, .slice Ap k cp]) ⟨st, ws⟩ := fun W hW =>
  disk_of_rows (own_fresh h.st W hW) h.len (own_fresh h.pe W hW) fun j x hx => by
    obtain ⟨hb, A, m, c, h1, h2, h3⟩ := h.datas j x hx
    exact ⟨hb, A, m, c, h1, h2, own_fresh h3 W hW⟩
end
end Go.Proofs.Ytneipacdpojjkaa
