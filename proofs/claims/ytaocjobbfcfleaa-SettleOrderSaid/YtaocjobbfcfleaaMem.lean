/-
  Words for memory: what lay in memory has not changed; a slice of bytes, of integers; rows that the call owns.
-/
import Derived.Below
import Derived.RangeFuncOwn
import Derived.Laws.OwnMore
import Derived.Deep.AppendLies
import Derived.Deep.Draws
import Derived.Maps.AppendAt
import Derived.RegionTactic
import Derived.OwnWalk
import Derived.Lib.Hide
namespace WageMem
open Go Go.RowKit

/-- Nothing that lay in memory has changed. -/
def Grew (w w' : World) : Prop := Below w.heap.size w w'
theorem Grew.refl (w : World) : Grew w w := Below.refl _ _
theorem Grew.trans {a b c : World} (h : Grew a b) (k : Grew b c) : Grew a c := Below.trans h (Below.mono k (Below.size h))
theorem Grew.cell {w w' : World} (h : Grew w w') {p : Addr} {v : Value} (hc : w.cell? p = some v) : w'.cell? p = some v := by
  obtain ⟨o, ho, _⟩ := cells_of_cell hc
  exact (Below.cell h (Array.getElem?_eq_some_iff.1 ho).1).trans hc
theorem Grew.drewN {w w' : World} (h : Grew w w') (n : Nat) : Grew w (w'.drewN n) := ⟨h.os, h.tape, h.output, h.size, h.block⟩
theorem Grew.drew {w w' : World} (h : Grew w w') : Grew w w'.drew := ⟨h.os, h.tape, h.output, h.size, h.block⟩
theorem Grew.alloc {w w' : World} (h : Grew w w') (o : Obj) : Grew w (w'.alloc o) := Below.alloc h (Below.size h) o
theorem Grew.set {w w' : World} (h : Grew w w') {p : Addr} (hp : w.heap.size ≤ p.block) (u : Value) : Grew w (w'.setCell p u) := Below.setCell h hp u
theorem Grew.below {w w' : World} (h : Grew w w') : Below w.heap.size w w' := h
theorem Grew.grown {w w' w'' : World} {row : Option Nat} (h : Grew w w') (hg : w'.grownBy w'' row) (hr : ∀ k, row = some k → w.heap.size ≤ k) : Grew w w'' := Below.grown h hg (Below.size h) hr
theorem Grew.block {w w' : World} (h : Grew w w') {g : Nat} {o : Obj} (hb : w.heap[g]? = some o) : w'.heap[g]? = some o :=
  (Below.block h g (Array.getElem?_eq_some_iff.1 hb).1).trans hb
theorem Grew.le {w w' : World} (h : Grew w w') : w.heap.size ≤ w'.heap.size := Below.size h

/-- The cells xs lie in a row from the address A on. -/
def Cells (w : World) (A : Option Addr) (xs : List Value) : Prop :=
  xs ≠ [] → ∃ b o, A = some ⟨b, o, none⟩ ∧ ∀ j u, xs[j]? = some u → w.cell? ⟨b, o + j, none⟩ = some u
theorem Cells.grew {w w' : World} {A : Option Addr} {xs : List Value} (h : Cells w A xs) (g : Grew w w') : Cells w' A xs := fun hx => by
  obtain ⟨b, o, e, hc⟩ := h hx
  exact ⟨b, o, e, fun j u hu => g.cell (hc j u hu)⟩
theorem Cells.nil {w : World} {A : Option Addr} : Cells w A [] := fun h => absurd rfl h

/-- A slice value with n elements, whose cells are xs. -/
def Sl (w : World) (size : Nat) (A : Option Addr) (n c : Nat) (xs : List Value) : Prop :=
  n ≤ c ∧ c ≤ maxLen ∧ xs.length = n * size ∧ Cells w A xs ∧ (A = none → n = 0 ∧ c = 0)
theorem Sl.grew {w w' : World} {size : Nat} {A : Option Addr} {n c : Nat} {xs : List Value} (h : Sl w size A n c xs) (g : Grew w w') : Sl w' size A n c xs :=
  ⟨h.1, h.2.1, h.2.2.1, h.2.2.2.1.grew g, h.2.2.2.2⟩

def bv (u : UInt8) : Value := .int .u8 (u.toNat : Int)
def iv (z : Int) : Value := .int .i64 z
theorem bv_one (bs : List UInt8) : ∀ u ∈ bs.map bv, u.oneCell' = true := by
  intro u hu
  obtain ⟨x, _, rfl⟩ := List.mem_map.1 hu
  rfl
theorem iv_one (zs : List Int) : ∀ u ∈ zs.map iv, u.oneCell' = true := by
  intro u hu
  obtain ⟨x, _, rfl⟩ := List.mem_map.1 hu
  rfl

/-- A slice of bytes. -/
def Bytes (w : World) (A : Option Addr) (n c : Nat) (bs : List UInt8) : Prop := bs.length = n ∧ Sl w 1 A n c (bs.map bv)
theorem Bytes.grew {w w' : World} {A : Option Addr} {n c : Nat} {bs : List UInt8} (h : Bytes w A n c bs) (g : Grew w w') : Bytes w' A n c bs := ⟨h.1, h.2.grew g⟩
theorem Bytes.at_ {w : World} {A : Option Addr} {n c : Nat} {bs : List UInt8} (h : Bytes w A n c bs) (hn : 0 < n) :
    ∃ b o, A = some ⟨b, o, none⟩ ∧ ∀ (j : Nat) (u : UInt8), bs[j]? = some u → w.cell? ⟨b, o + j, none⟩ = some (.int .u8 (u.toNat : Int)) := by
  have hne : bs.map bv ≠ [] := by
    intro e
    have := h.1
    have e' : (bs.map bv).length = 0 := by rw [e]; rfl
    rw [List.length_map] at e'
    omega
  obtain ⟨b, o, e, hc⟩ := h.2.2.2.2.1 hne
  exact ⟨b, o, e, fun j u hu => hc j _ (by rw [List.getElem?_map, hu]; rfl)⟩
/-- A slice of integers. -/
def Ints (w : World) (A : Option Addr) (n c : Nat) (zs : List Int) : Prop := zs.length = n ∧ Sl w 1 A n c (zs.map iv)
theorem Ints.grew {w w' : World} {A : Option Addr} {n c : Nat} {zs : List Int} (h : Ints w A n c zs) (g : Grew w w') : Ints w' A n c zs := ⟨h.1, h.2.grew g⟩
theorem Ints.at_ {w : World} {A : Option Addr} {n c : Nat} {zs : List Int} (h : Ints w A n c zs) (hn : 0 < n) :
    ∃ b o, A = some ⟨b, o, none⟩ ∧ ∀ (j : Nat) (u : Int), zs[j]? = some u → w.cell? ⟨b, o + j, none⟩ = some (.int .i64 u) := by
  have hne : zs.map iv ≠ [] := by
    intro e
    have := h.1
    have e' : (zs.map iv).length = 0 := by rw [e]; rfl
    rw [List.length_map] at e'
    omega
  obtain ⟨b, o, e, hc⟩ := h.2.2.2.2.1 hne
  exact ⟨b, o, e, fun j u hu => hc j _ (by rw [List.getElem?_map, hu]; rfl)⟩

/-- What the call owns reads as a slice. -/
theorem Sl.own {w : World} {base : Nat} {e : TypeId} {size : Nat} {A : Option Addr} {n c : Nat} {xs : List Value} (h : w.ownsRow base e size (.slice A n c) n xs) : Sl w size A n c xs := by
  obtain ⟨hl, h2⟩ := h
  rcases h2 with ⟨hv, hn⟩ | ⟨g, cap, cur, hv, hb, hg, hnc, hcm, hcs, ht⟩
  · injection hv with e1 e2 e3
    subst e1 e2 e3
    have hx : xs = [] := List.eq_nil_of_length_eq_zero (by simpa using hl)
    subst hx
    exact ⟨Nat.le_refl _, Nat.zero_le _, by simp, Cells.nil, fun _ => ⟨rfl, rfl⟩⟩
  · injection hv with e1 e2 e3
    subst e1 e3
    refine ⟨hnc, hcm, hl, fun _ => ⟨g, 0, rfl, fun j u hu => ?_⟩, fun h => by cases h⟩
    rw [cell_of_row w g (0 + j) cur e (0, 0) hg, Nat.zero_add]
    rw [← ht, List.getElem?_take] at hu
    split at hu
    · simpa using hu
    · cases hu
theorem Bytes.own {w : World} {base : Nat} {e : TypeId} {A : Option Addr} {n c : Nat} {bs : List UInt8} (hn : bs.length = n) (h : w.ownsRow base e 1 (.slice A n c) n (bs.map bv)) : Bytes w A n c bs := ⟨hn, Sl.own h⟩
theorem Ints.own {w : World} {base : Nat} {e : TypeId} {A : Option Addr} {n c : Nat} {bs : List Int} (hn : bs.length = n) (h : w.ownsRow base e 1 (.slice A n c) n (bs.map iv)) : Ints w A n c bs := ⟨hn, Sl.own h⟩

/-- An owned slice's form. -/
theorem own_form {w : World} {base : Nat} {e : TypeId} {size : Nat} {v : Value} {n : Nat} {xs : List Value} (h : w.ownsRow base e size v n xs) : ∃ A c, v = .slice A n c := by
  rcases h.2 with ⟨rfl, rfl⟩ | ⟨g, cap, cur, rfl, _⟩
  · exact ⟨_, _, rfl⟩
  · exact ⟨_, _, rfl⟩

/-- A contract's end: it returns a slice that it owns. -/
def RetOwn (e : TypeId) (n : Nat) (xs : List Value) (w : World) (r : Ending) (w' : World) : Prop :=
  ∃ A c, r = .returned (.slice A n c) ∧ w'.ownsRow w.heap.size e 1 (.slice A n c) n xs ∧ Grew w w'

section
variable {P : Program} (w : World)
theorem run_append_of_nil (base : Nat) (t ty e : TypeId) (i : TypeInfo) (size : Nat) (ht : P.underlying t = some (.slice e)) (hi : P.info? e = some i)
    (v : Value) (n : Nat) (xs : List Value) (hown : w.ownsRow base e size v n xs) (c : Nat) : (Builtin.append_ #[t, t] ty #[v, .slice none 0 c]).run P w = .ok v w := by
  rcases hown.2 with ⟨rfl, rfl⟩ | ⟨g, cap, cur, rfl, _, _, hnc, _⟩
  · simp [Builtin.append_, run_underlying ht, Go.sizeOf, typeInfo, hi, Builtin.lenOf, Builtin.firstCells]
  · simp [Builtin.append_, run_underlying ht, Go.sizeOf, typeInfo, hi, Builtin.lenOf, Builtin.firstCells, hnc, storeCells]

/-- append onto a row that the call owns, from a slice that reads as xs: nil, empty or not. -/
theorem run_append_sl (base : Nat) (t ty e : TypeId) (i : TypeInfo) (z : Value) (size bytes : Nat) (ht : P.underlying t = some (.slice e)) (hi : P.info? e = some i) (hz : i.zero = some z)
    (hsize : i.size = size) (hby : i.bytes = bytes) (hzs : z.cells.size = size) (hsz : 0 < size)
    (v : Value) (n : Nat) (xs : List Value) (hown : w.ownsRow base e size v n xs)
    (A : Option Addr) (m c : Nat) (news : List Value) (hr : Sl w size A m c news) (h1 : ∀ u ∈ news, u.oneCell' = true)
    (h63 : n + m ≤ maxLen) (hbytes : (n + m) * bytes ≤ 140737488355328) (hbase : base ≤ w.heap.size) :
    ∃ v' w', (Builtin.append_ #[t, t] ty #[v, .slice A m c]).run P w = .ok v' w' ∧ w'.ownsRow base e size v' (n + m) (xs ++ news) ∧ w.grownBy w' v.ownBlock ∧
      (v'.ownBlock = v.ownBlock ∨ v'.ownBlock = some w.heap.size) := by
  rcases A with _ | ad
  · obtain ⟨rfl, rfl⟩ := hr.2.2.2.2 rfl
    have hn : news = [] := List.eq_nil_of_length_eq_zero (by simpa using hr.2.2.1)
    subst hn
    exact ⟨v, w, run_append_of_nil w base t ty e i size ht hi v n xs hown 0, by simpa using hown, World.grownBy.refl w _, .inl rfl⟩
  · have hcells : ∀ j u, news[j]? = some u → w.cell? (ad.add j) = some u := by
      intro j u hu
      have hne : news ≠ [] := by intro h; rw [h] at hu; simp at hu
      obtain ⟨b, o, h, hc⟩ := hr.2.2.2.1 hne
      injection h with h
      subst h
      have := hc j u hu
      unfold Addr.add
      split
      · rename_i h0; subst h0; simpa using this
      · exact this
    obtain ⟨v', w', hrun, h2, h3, _, h5⟩ := run_append_own_at (P := P) w base t ty e i z size bytes ht hi hz hsize hby hzs hsz v n xs hown ad m c news hr.2.2.1 hcells h1 h63 hbytes hbase
    exact ⟨v', w', hrun, h2, h3, h5⟩

theorem wp_append_sl {o : Oper} {a : Act} {K : Act → World → Prop} {Q : Exit → Act → World → Prop} (s x : Operand) (t : TypeId)
    (ho : o.op = .call { callee := .builtin .append, args := #[s, x], argTypes := #[t, t] })
    (base : Nat) (e : TypeId) (i : TypeInfo) (z : Value) (size bytes : Nat) (ht : P.underlying t = some (.slice e)) (hi : P.info? e = some i) (hz : i.zero = some z)
    (hsize : i.size = size) (hby : i.bytes = bytes) (hzs : z.cells.size = size) (hsz : 0 < size)
    (v : Value) (n : Nat) (xs : List Value) (hs : a.eval s = v) (hown : w.ownsRow base e size v n xs)
    (A : Option Addr) (m c : Nat) (news : List Value) (hx : a.eval x = .slice A m c) (hr : Sl w size A m c news) (h1 : ∀ u ∈ news, u.oneCell' = true)
    (h63 : n + m ≤ maxLen) (hbytes : (n + m) * bytes ≤ 140737488355328) (hbase : base ≤ w.heap.size)
    (h : ∀ v' w', w'.ownsRow base e size v' (n + m) (xs ++ news) → w.grownBy w' v.ownBlock → (v'.ownBlock = v.ownBlock ∨ v'.ownBlock = some w.heap.size) → K (a.put o.dst v') w') : o.wp P a w K Q := by
  obtain ⟨v', w', hrun, h2, h3, h4⟩ := run_append_sl (P := P) w base t o.type e i z size bytes ht hi hz hsize hby hzs hsz v n xs hown A m c news hr h1 h63 hbytes hbase
  unfold Oper.wp execOp
  simp only [ho, resolve, invoke, builtin, Sem.run_bind, Sem.run_pure, Result.andThen_ok, List.map_toArray, List.map_cons, List.map_nil, hs, hx, hrun]
  exact h v' w' h2 h3 h4

theorem wpList_append_sl {ops : Array Oper} {rest : List Oper} {o : Oper} {a : Act} {Q : Exit → Act → World → Prop} (hgd : o.guard = none) (s x : Operand) (t : TypeId)
    (ho : o.op = .call { callee := .builtin .append, args := #[s, x], argTypes := #[t, t] })
    (base : Nat) (e : TypeId) (i : TypeInfo) (z : Value) (size bytes : Nat) (ht : P.underlying t = some (.slice e)) (hi : P.info? e = some i) (hz : i.zero = some z)
    (hsize : i.size = size) (hby : i.bytes = bytes) (hzs : z.cells.size = size) (hsz : 0 < size)
    (v : Value) (n : Nat) (xs : List Value) (hs : a.eval s = v) (hown : w.ownsRow base e size v n xs)
    (A : Option Addr) (m c : Nat) (news : List Value) (hx : a.eval x = .slice A m c) (hr : Sl w size A m c news) (h1 : ∀ u ∈ news, u.oneCell' = true)
    (h63 : n + m ≤ maxLen) (hbytes : (n + m) * bytes ≤ 140737488355328) (hbase : base ≤ w.heap.size)
    (h : ∀ v' w', w'.ownsRow base e size v' (n + m) (xs ++ news) → w.grownBy w' v.ownBlock → (v'.ownBlock = v.ownBlock ∨ v'.ownBlock = some w.heap.size) → wpList P ops Q rest (a.put o.dst v') w') : wpList P ops Q (o :: rest) a w :=
  wpList_plain hgd fun _ hK => wp_append_sl w s x t ho base e i z size bytes ht hi hz hsize hby hzs hsz v n xs hs hown A m c news hx hr h1 h63 hbytes hbase fun v' w' h2 h3 h4 => hK _ _ (h v' w' h2 h3 h4)
end
end WageMem
