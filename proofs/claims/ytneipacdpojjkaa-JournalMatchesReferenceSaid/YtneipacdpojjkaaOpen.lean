/-
  What an argument reads as: a slice of bytes, of integers, of writes; a disk.
-/
import Derived.Test.YtneipacdpojjkaaSmall
import Derived.Deep.Slices
import Derived.Deep.Fields
import Derived.ChangeSame
import Derived.ChangeSlices
import Derived.Lib.SmallJoins
import Derived.OpenShut
import Derived.ProofKit
namespace Go.Proofs.Ytneipacdpojjkaa
open Go.ChangeShapes Go.WideShapes Go.ChangeAt Go.RowKit Go.Deep Go.Joins Go.Proofs WageMem WageDisk

section
variable {H : Type} {enc : TypeId × Value → H} {w : World} {base : Nat} {spare : Nat → Bool} {held : Bool}

theorem add_plain (b o i : Nat) : (⟨b, o, none⟩ : Addr).add i = ⟨b, o + i, none⟩ := by
  unfold Addr.add; split
  · rename_i h; subst h; rfl
  · rfl
theorem plain_of {a : Addr} {v : Value} (h : w.cell? a = some v) : ∃ b o, a = ⟨b, o, none⟩ := by
  obtain ⟨b, o, s⟩ := a
  have := World.cell?_spot h
  simp at this
  subst this
  exact ⟨b, o, rfl⟩
theorem plain_row {a : Addr} {v : Value} (h : w.cell? (a.add 0) = some v) : ∃ b o, a = ⟨b, o, none⟩ := by
  have : a.add 0 = a := by unfold Addr.add; rw [if_pos rfl]
  rw [this] at h
  exact plain_of h

/-- The bytes of numbers. -/
def toBytes (zs : List Int) : List UInt8 := zs.map fun z => UInt8.ofNat z.toNat
theorem byte_of {z : Int} (h : (Lit.int .u8 z).wf = true) : ((UInt8.ofNat z.toNat).toNat : Int) = z := by
  have hb := bounds_u8 h
  rw [UInt8.toNat_ofNat']
  omega

theorem open_bytes {fuel : Nat} {cs : List Value} {x : DataW H × List MemPlace} (h : DataW.trod enc Try.prog w base spare held fuel 22 cs = some x) : ∃ A n c bs, cs = [.slice A n c] ∧ Bytes w A n c bs := by
  rcases open_ints Try.underlying22 Try.underlying5 (by kernel_rfl) h with ⟨hcs, _⟩ | ⟨a, l, c, zs, hcs, _, hl, hm, hz, _, hcell, hwz⟩
  · exact ⟨none, 0, 0, [], hcs, rfl, Nat.le_refl _, Nat.zero_le _, rfl, Cells.nil, fun _ => ⟨rfl, rfl⟩⟩
  · have hlz : l ≤ zs.length := by rw [hz]; split <;> omega
    refine ⟨some a, l, c, toBytes (zs.take l), hcs, by unfold toBytes; simp; omega, hl, hm, by unfold toBytes; simp; omega, fun hne => ?_, fun h => by cases h⟩
    have h0 : 0 < l := by
      rcases Nat.eq_zero_or_pos l with h | h
      · subst h; exact absurd rfl hne
      · exact h
    obtain ⟨b, o, rfl⟩ := plain_row (hcell 0 (by omega))
    refine ⟨b, o, rfl, fun j u hu => ?_⟩
    unfold toBytes at hu
    rw [List.map_map, List.getElem?_map] at hu
    cases hj : (zs.take l)[j]? with
    | none => rw [hj] at hu; cases hu
    | some z =>
      rw [hj] at hu
      have hu' : bv (UInt8.ofNat z.toNat) = u := by simpa using hu
      rw [List.getElem?_take] at hj
      split at hj
      · rename_i hjl
        have hjz : j < zs.length := by omega
        have hc := hcell j hjz
        rw [add_plain] at hc
        have hzd : zs.getD j 0 = z := by rw [List.getD_eq_getElem?_getD, hj]; rfl
        rw [hc, hzd, ← hu']
        unfold bv
        rw [byte_of (hwz z (List.mem_of_getElem? hj))]
      · cases hj

theorem open_intl {fuel : Nat} {cs : List Value} {x : DataW H × List MemPlace} (h : DataW.trod enc Try.prog w base spare held fuel 26 cs = some x) : ∃ A n c zs, cs = [.slice A n c] ∧ Ints w A n c zs := by
  rcases open_ints Try.underlying26 Try.underlying3 (by kernel_rfl) h with ⟨hcs, _⟩ | ⟨a, l, c, zs, hcs, _, hl, hm, hz, _, hcell, hwz⟩
  · exact ⟨none, 0, 0, [], hcs, rfl, Nat.le_refl _, Nat.zero_le _, rfl, Cells.nil, fun _ => ⟨rfl, rfl⟩⟩
  · have hlz : l ≤ zs.length := by rw [hz]; split <;> omega
    refine ⟨some a, l, c, zs.take l, hcs, by simp; omega, hl, hm, by simp; omega, fun hne => ?_, fun h => by cases h⟩
    have h0 : 0 < l := by
      rcases Nat.eq_zero_or_pos l with h | h
      · subst h; exact absurd rfl hne
      · exact h
    obtain ⟨b, o, rfl⟩ := plain_row (hcell 0 (by omega))
    refine ⟨b, o, rfl, fun j u hu => ?_⟩
    rw [List.getElem?_map] at hu
    cases hj : (zs.take l)[j]? with
    | none => rw [hj] at hu; cases hu
    | some z =>
      rw [hj] at hu
      have hu' : iv z = u := by simpa using hu
      rw [List.getElem?_take] at hj
      split at hj
      · have hc := hcell j (by omega)
        rw [add_plain] at hc
        rw [hc, List.getD_eq_getElem?_getD, hj, ← hu']
        rfl
      · cases hj

theorem open_writes {fuel : Nat} {cs : List Value} {x : DataW H × List MemPlace} (h : DataW.trod enc Try.prog w base spare held fuel 23 cs = some x) : ∃ A n c ws, cs = [.slice A n c] ∧ Writes w A n c ws := by
  rcases open_slice Try.underlying23 h with ⟨hcs, _⟩ | ⟨a, l, c, m, nf, D, Pl, hcs, hb, hl, hm, hmm, hx, hi⟩
  · exact ⟨none, 0, 0, [], hcs, rfl, Nat.le_refl _, Nat.zero_le _, fun _ => ⟨rfl, rfl⟩, fun h => absurd h (by decide)⟩
  · have hlm : l ≤ m := by rw [hmm]; split <;> omega
    have hC : Try.prog.cellsOf 45 = 2 := by kernel_rfl
    have hone : oneCellFields Try.prog _ = true := (by kernel_rfl : oneCellFields Try.prog #[{ name := "At", type := 3, offset := 0, embedded := false, tag := "", pkgPath := "", byteOffset := 0 }, { name := "Data", type := 22, offset := 1, embedded := false, tag := "", pkgPath := "", byteOffset := 8 }] = true)
    have each : ∀ i, i < m → ∃ x : Wr, w.cell? (a.add (i * 2)) = some (.int .i64 x.off) ∧ -9223372036854775808 ≤ x.off ∧ x.off ≤ 9223372036854775807 ∧ ∃ A' n' c', w.cell? (a.add (i * 2 + 1)) = some (.slice A' n' c') ∧ Bytes w A' n' c' x.data := by
      intro i him
      obtain ⟨cs', hc, ht'⟩ := hi i him
      rw [hC] at hc
      obtain ⟨ys, n', hn', hy, hlen, hyl, hf⟩ := DataW.trod_struct Try.underlying45 ht'
      obtain ⟨_, hcl, hat⟩ := World.cells?_some hc
      match cs', hcl with
      | [v0, v1], _ =>
        have h0 := hat 0 (by decide)
        have h1 := hat 1 (by decide)
        obtain ⟨o0, k0⟩ := hone_of hone 0 _ rfl
        obtain ⟨o1, k1⟩ := hone_of hone 1 _ rfl
        have f0 := hf 0 _ rfl
        have f1 := hf 1 _ rfl
        rw [k0] at f0
        rw [k1] at f1
        match ys, hyl with
        | [y0, y1], _ =>
          have g0 : DataW.trod enc Try.prog w base spare held n' 3 [v0] = some y0 := by simpa using f0
          have g1 : DataW.trod enc Try.prog w base spare held n' 22 [v1] = some y1 := by simpa using f1
          obtain ⟨z, hz, _, hwf⟩ := DataW.trod_int Try.underlying3 g0
          obtain ⟨A', n2, c2, bs, hs, hB⟩ := open_bytes g1
          simp at hz hs
          subst hz hs
          have hbd := bounds_i64 hwf
          rw [Go.Deep.add_add] at h0 h1
          exact ⟨⟨z, bs⟩, by simpa using h0, hbd.1, hbd.2, A', n2, c2, by simpa using h1, hB⟩
    obtain ⟨f, hf⟩ : ∃ f : Nat → Wr, ∀ i, i < m → w.cell? (a.add (i * 2)) = some (.int .i64 (f i).off) ∧ -9223372036854775808 ≤ (f i).off ∧ (f i).off ≤ 9223372036854775807 ∧ ∃ A' n' c', w.cell? (a.add (i * 2 + 1)) = some (.slice A' n' c') ∧ Bytes w A' n' c' (f i).data :=
      ⟨fun i => if h : i < m then Classical.choose (each i h) else ⟨0, []⟩, fun i hi => by
        have := Classical.choose_spec (each i hi)
        simp only [dif_pos hi]
        exact this⟩
    refine ⟨some a, l, c, (List.range l).map f, hcs, by simp, hl, hm, (fun h => by cases h), fun hl0 => ?_⟩
    have h0 := (hf 0 (by omega)).1
    rw [Nat.zero_mul] at h0
    obtain ⟨b, o, rfl⟩ := plain_row h0
    refine ⟨b, o, rfl, fun j x hx => ?_⟩
    rw [List.getElem?_map] at hx
    have hj : j < l := by
      rcases Nat.lt_or_ge j l with h | h
      · exact h
      · rw [List.getElem?_eq_none (by simpa using h)] at hx; cases hx
    rw [List.getElem?_eq_getElem (by simpa using hj)] at hx
    simp at hx
    subst hx
    obtain ⟨h1, h2, h3, A', n', c', h4, h5⟩ := hf j (by omega)
    rw [add_plain] at h1 h4
    exact ⟨h1, h2, h3, A', n', c', by rw [Nat.add_assoc]; exact h4, h5⟩

theorem open_disk {r : Reach} {b0 : Nat} {v : Value} {d : DataW H} {p : List MemPlace} (hv : Value.okWide Try.prog w r b0 25 v) (h : DataW.Trod enc Try.prog w base spare held 25 v d p) : ∃ ds, Disk w v ds := by
  obtain ⟨v0, v1, y0, y1, n, rfl, rfl, rfl, h0, h1⟩ := open_agg2 Try.underlying25 (by kernel_rfl) (by kernel_rfl) hv h
  obtain ⟨A, n, c, bs, e0, hB⟩ := open_bytes h0
  obtain ⟨A', n', c', ws, e1, hW⟩ := open_writes h1
  simp at e0 e1
  subst e0 e1
  exact ⟨⟨bs, ws⟩, ⟨A, n, c, A', n', c', rfl, hB, hW⟩⟩
theorem open_byteArg {v : Value} {d : DataW H} {p : List MemPlace} {r : Reach} {b0 : Nat} (hv : Value.okWide Try.prog w r b0 22 v) (h : DataW.Trod enc Try.prog w base spare held 22 v d p) : ∃ A n c bs, v = .slice A n c ∧ Bytes w A n c bs := by
  obtain ⟨a, l, c, rfl⟩ := okWide_slice Try.underlying22 hv
  obtain ⟨fuel, hf⟩ := h
  obtain ⟨A, n, c', bs, e, hB⟩ := open_bytes hf
  simp [Value.cells] at e
  obtain ⟨rfl, rfl, rfl⟩ := e
  exact ⟨_, _, _, bs, rfl, hB⟩
theorem open_intArg {v : Value} {d : DataW H} {p : List MemPlace} {r : Reach} {b0 : Nat} (hv : Value.okWide Try.prog w r b0 26 v) (h : DataW.Trod enc Try.prog w base spare held 26 v d p) : ∃ A n c zs, v = .slice A n c ∧ Ints w A n c zs := by
  obtain ⟨a, l, c, rfl⟩ := okWide_slice Try.underlying26 hv
  obtain ⟨fuel, hf⟩ := h
  obtain ⟨A, n, c', bs, e, hB⟩ := open_intl hf
  simp [Value.cells] at e
  obtain ⟨rfl, rfl, rfl⟩ := e
  exact ⟨_, _, _, bs, rfl, hB⟩
end
end Go.Proofs.Ytneipacdpojjkaa
